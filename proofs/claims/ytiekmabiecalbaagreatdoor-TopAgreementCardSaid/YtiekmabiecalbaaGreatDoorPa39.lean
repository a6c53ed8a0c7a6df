/- Walks. -/
import Derived.Laws.RangeAny
import Derived.Test.YtiekmabiecalbaaGreatDoorPa38
namespace Go.Proofs.YtiekmabiecalbaaGreatDoor
set_option maxHeartbeats 16000000
open Go.RowKit
set_option maxRecDepth 8000
set_option linter.unusedSimpArgs false
set_option linter.unusedVariables false
section
theorem z9_89 {P : Prop} (h : P := by
 refine j_one 11 fun K9 hK9 => ?_
 refine j_st HM ?_; clear HM; intro w1 HM
 refine hK9 _ _ (heldE HM) ?_; clear hK9 K9
 refine k_mv 12 (heldE HM) ?_
 refine wpAnyL_done Zk ?_ _
 (go_wp2_with (first | ((with_reducible refine g_bld ?_); refine a_rbl (v := .agg (Bg.rZ 0 0)) ?_ (hy := h_bgz rfl (by with_reducible exact run_build_rat0))) | (first | ((with_reducible refine g_ld ?_); refine a_ld HM ?_) | ((with_reducible refine g_st ?_); refine a_st HM ?_; clear HM; intro w1 HM) | ((with_reducible refine g_al ?_); refine a_al HM ?_; clear HM; intro bk w1 HM) | ((with_reducible refine g_bx ?_); refine a_bx HM ?_; clear HM; intro bk w1 HM) | ((with_reducible refine g_bld ?_); refine a_bld ?_))); (try simp only [Exit.inBlock, Exit.then]); refine bodyPost_ret (r_ct (b := b4) (k := 0) rfl rfl (HM.get Zl) lz) rfl ⟨rfl, HM.low⟩)) : P := h
theorem z9_90 {P : Prop} (h : P := by
 refine j_one 11 fun K9 hK9 => ?_
 refine j_st HM ?_; clear HM; intro w1 HM
 refine hK9 _ _ (heldE HM) ?_; clear hK9 K9
 refine k_mv 12 (heldE HM) ?_
 refine wpAnyL_done Zk ?_ _
 (go_wp2_with (first | (go_at_call 74; (with_reducible refine Zc HM (CM _) ?_; clear HM; intro w2 HM)) | (first | ((with_reducible refine g_ld ?_); refine a_ld HM ?_) | ((with_reducible refine g_st ?_); refine a_st HM ?_; clear HM; intro w1 HM) | ((with_reducible refine g_al ?_); refine a_al HM ?_; clear HM; intro bk w1 HM) | ((with_reducible refine g_bx ?_); refine a_bx HM ?_; clear HM; intro bk w1 HM) | ((with_reducible refine g_bld ?_); refine a_bld ?_))); go_roundw; (case rel => exact ⟨1, y, rfl, by omega, Zi (fun h => by omega), Zi (fun _ => rfl), HM.pick⟩); (case measure => simp [intOf]))) : P := h
end
section
open Jb
def Tq.Cd (s : ByteArray) : Prop := s.size = 3 ∧ ∀ i (h : i < s.size), 65 ≤ s[i].toNat ∧ s[i].toNat ≤ 90
theorem code_any (s : ByteArray) (hs : Tq.Cd s) (w : World) :
    Calls Tryz.prog 92 #[.string s] w fun e w' => e = .returned (.bool true) ∧ Below w.heap.size w w' := by
 have hnx := fun (k : Nat) (h : k < s.size) (ty : TypeId) => run_next_any (P := Tryz.prog) w s k ty h
 have hne := fun (k : Nat) (h : ¬ k < s.size) (ty : TypeId) => run_next_end (P := Tryz.prog) w s k ty h
 have HNX := Zi hnx
 have HNE := Zi hne
 obtain ⟨h3, hc⟩ := hs
 have HC := Zi hc
 have H3 := Zi h3
 clear hnx hne hc h3
 go_enter Tryz.func92, Tryz.ntmps92
 go_wp2
 go_loopw [4] (fun _ wr => ∃ k : Nat, k ≤ s.size ∧ wr = w.iter s k) (fun _ wr => s.size - wr.iterPos w.heap.size)
 case atStart => exact ⟨0, by omega, rfl⟩
 case round =>
  obtain ⟨k, hk, rfl⟩ := hrel
  by_cases hlt : k < s.size
  ·have hn := HNX.out k hlt
   obtain ⟨h1, h2⟩ := HC.out k hlt
   rw [decode_ascii s k hlt Zo] at hn
   have c1 : decide ((s[k].toNat : Int) < 65) = false := Zf Zo
   have c2 : decide ((90 : Int) < (s[k].toNat : Int)) = false := Zf Zo
   clear h1 h2
   go_wp2
   go_roundw
   case rel => exact ⟨k + 1, by omega, rfl⟩
   case measure => simp; omega
  ·obtain rfl : k = s.size := by omega
   have hn := HNE.out s.size hlt
   have h3 : ((s.size : Int) == 3) = true := by rw [H3.out]; rfl
   go_wp2
   go_ret
   exact ⟨rfl, nm_low _ _ _⟩
theorem mcheck_any (m : MM) (L : List JQ) (ss : List ByteArray) (tol : Rat) (cs : List ByteArray) (hcd : ∀ c ∈ cs, Tq.Cd c) (hl : cs.length ≤ 10) (sv : Value) (w : World) (hM : Tq.Mar m L ss tol w) (hR : RdS 1 w sv (V1 (Tq.V cs))) :
    Calls Tryz.prog 49 #[.agg m.c, sv] w fun e w' => e = .returned (.int .i64 0) ∧ Below w.heap.size w w' := by
 have HM := Mem.start w
 obtain ⟨A, cap, ef⟩ := RdS.form1 hR
 rw [Tq.V_len] at ef
 subst ef
 have HR := Zi hR
 have HCD := Zi hcd
 have C1 := fun w' (hB : Below w.heap.size w w') => qbook_any L hM.bk m.l.v w' (hM.below hB).rd
 have C2 := fun w' (hB : Below w.heap.size w w') => polCheck_any m.p ss tol w' (hM.below hB).pl
 have l1 := m.f_l.la
 have l2 := m.f_p.la
 have l4 := m.f_day.la
 have h0 := hM.d0
 have h1 := hM.d1
 have hd2 : decide (m.day < 0) = false := Zf Zo
 have hd3 : decide ((73048 : Int) < m.day) = false := Zf Zo
 clear hM hR hcd
 go_enter Tryz.func49, Tryz.ntmps49
 go_upto_region 9 with (first | (go_at_call 46; (with_reducible refine Zc HM (C1 _ HM.low) ?_; clear HM; intro w2 HM)) | (go_at_call 68; (with_reducible refine Zc HM (C2 _ HM.low) ?_; clear HM; intro w2 HM)) | (first | ((with_reducible refine g_ld ?_); refine a_ld HM ?_) | ((with_reducible refine g_bx ?_); refine a_bx HM ?_; clear HM; intro bk w1 HM)))
 obtain ⟨b2, rfl⟩ := HM.nm0
 clear C1 C2 hd2 hd3
 go_wp2_with (first | ((with_reducible refine g_ld ?_); refine a_ld HM ?_) | ((with_reducible refine g_bx ?_); refine a_bx HM ?_; clear HM; intro bk w1 HM))
 go_loopw [31] (fun iv wr => ∃ (i : Nat), iv = .int .i64 (i : Nat) ∧ i ≤ cs.length ∧ Mem w [] [(b2, m.c)] wr) (fun iv _ => cs.length - (intOf iv).toNat)
 case atStart => exact ⟨0, rfl, by omega, HM⟩
 case round =>
  clear HM
  obtain ⟨i, rfl, hi, HM⟩ := hrel
  by_cases hlt : i < cs.length
  ·have hlt1 : (i : Int) < cs.length := by omega
   obtain ⟨x, hx⟩ : ∃ x, cs[i]? = some x := ⟨_, List.getElem?_eq_getElem hlt⟩
   obtain ⟨b, off, cc, e8, HB, l8⟩ := HR.out.at1 (i := i) (Tq.V_at hx) (T := 9) Zk
   subst e8
   have CX := fun w => code_any x (HCD.out x (List.mem_of_getElem? hx)) w
   clear hx
   go_wp2_with (first | (go_at_call 92; (with_reducible refine Zc HM (CX _) ?_; clear HM; intro w2 HM)) | (first | ((with_reducible refine g_ld ?_); refine a_ld HM ?_) | ((with_reducible refine g_bx ?_); refine a_bx HM ?_; clear HM; intro bk w1 HM)))
   exact z9_85
  ·obtain rfl : i = cs.length := by omega
   exact z9_39
theorem Tq.Cd.sz {s : ByteArray} (h : Tq.Cd s) : s.size ≤ 100 ∧ s.size ≠ 0 := by
 have := h.1
 omega
theorem way_any (m : MM) (L : List JQ) (ss : List ByteArray) (tol : Rat) (a b : ByteArray) (ha : Tq.Cd a) (hb : Tq.Cd b) (sv : Value) (w : World) (hM : Tq.Mar m L ss tol w) (hR : RdS 1 w sv (V1 (Tq.V [a, b]))) (o : Option Rat) (ho : Hid (o = Tq.lg m L ss tol a b)) :
    Calls Tryz.prog 51 #[.agg m.c, sv] w fun e w' => e = .returned (.tuple #[.agg (Tq.rc o), .bool o.isSome]) ∧ Below w.heap.size w w' := by
 have HM := Mem.start w
 obtain ⟨A, cap, ef⟩ := RdS.form1 hR
 rw [Tq.V_len] at ef
 subst ef
 have HR := Zi hR
 have CL := fun w' (hB : Below w.heap.size w w') => leg_any m L ss tol a b ha.sz.1 hb.sz.1 ha.sz.2 hb.sz.2 w' (hM.below hB) o ho
 have HBD : Hid (∀ x, o = some x → Rt.Bd x 50 51) := Zi (fun x hx => Tq.lg_bd hM.bk ha.sz.2 hb.sz.2 (ho.out.symm.trans hx))
 obtain ⟨one, hone⟩ := Zh ((((1 : Int)) : Rat))
 have f1 : Rt.Fit one := by rw [hone.out]; exact Jb.fit_int Zd Zd
 have CW := fun w => whole_q 1 one Zd Zd hone w
 have lm := m.la
 have zr := za_rat
 have els : elemB 29 9 1 16 = true := by kernel_rfl
 obtain ⟨sv1, hrun1, hrd1⟩ := run_drop HR.out els (k := 1) (by rw [Tq.V_len]; simp)
 have HRUN := Zi hrun1
 have HR1 : Hid (RdS 1 w sv1 (V1 (Tq.V [b]))) := Zi (hrd1 w HR.out)
 obtain ⟨A1, cap1, ef1⟩ := RdS.form1 HR1.out
 rw [Tq.V_len] at ef1
 subst ef1
 obtain ⟨b8, off8, cs8, e8, HB8, l8⟩ := HR.out.at1 (i := 0) (Tq.V_at (L := [a, b]) rfl) (T := 9) Zk
 obtain ⟨b7, off7, cs7, e7, HB7, l7⟩ := HR1.out.at1 (i := 0) (Tq.V_at (L := [b]) rfl) (T := 9) Zk
 subst e8 e7
 have s0 := sa_q one (rZ_size 0 0)
 have l0 := la_q one
 have sz := sa_c (rZ_size 0 0) (rZ_one 0 0) (rZ_size 0 0)
 have lz := la_c (rZ_size 0 0)
 clear hM hR ho hrun1 hrd1 ha hb
 go_enter Tryz.func51, Tryz.ntmps51
 go_upto_region 2 with (first | (go_at_call 50; (with_reducible refine Zc HM (CW _) ?_; clear HM; intro w2 HM)) | (first | ((with_reducible refine g_ld ?_); refine a_ld HM ?_) | ((with_reducible refine g_st ?_); refine a_st HM ?_; clear HM; intro w1 HM) | ((with_reducible refine g_al ?_); refine a_al HM ?_; clear HM; intro bk w1 HM) | ((with_reducible refine g_bx ?_); refine a_bx HM ?_; clear HM; intro bk w1 HM) | ((with_reducible refine g_bld ?_); refine a_bld ?_)))
 obtain ⟨b6, rfl⟩ := HM.nm0
 obtain ⟨b4, rfl⟩ := HM.nm1
 obtain ⟨b2, rfl⟩ := HM.nm2
 go_wp2_with (first | ((with_reducible refine g_sl ?_); refine a_sl ?_ (fun w9 => by simpa [Act.eval] using HRUN.out w9)) | (first | ((with_reducible refine g_ld ?_); refine a_ld HM ?_) | ((with_reducible refine g_st ?_); refine a_st HM ?_; clear HM; intro w1 HM) | ((with_reducible refine g_al ?_); refine a_al HM ?_; clear HM; intro bk w1 HM) | ((with_reducible refine g_bx ?_); refine a_bx HM ?_; clear HM; intro bk w1 HM) | ((with_reducible refine g_bld ?_); refine a_bld ?_)))
 go_loopw [15] (fun iv wr => ∃ (i : Nat) (x : Rat), iv = .int .i64 (i : Nat) ∧ i ≤ 1 ∧ Hid (i = 0 → x = one) ∧ Hid (i = 1 → o = some x) ∧ Mem w [] [(b6, Rt.qA x), (b4, Bg.rZ 0 0), (b2, m.c)] wr) (fun iv _ => 1 - (intOf iv).toNat)
 case atStart => exact ⟨0, one, rfl, by omega, Zi (fun _ => rfl), Zi (fun h => by omega), HM⟩
 case round =>
  clear HM
  obtain ⟨i, x, rfl, hi, H0, H1, HM⟩ := hrel
  by_cases hlt : i = 0
  ·subst hlt
   obtain rfl : x = one := H0.out rfl
   clear H0 H1
   cases o with
   | none =>
    have CL2 : ∀ w', Below w.heap.size w w' → Calls Tryz.prog 94 #[.agg m.c, .string a, .string b] w' fun e w'' => e = .returned (.tuple #[.agg (Bg.rZ 0 0), .bool false]) ∧ Below w'.heap.size w' w'' := CL
    clear CL
    go_upto_region 5 with (first | ((with_reducible refine g_ld ?_); refine a_ld HM ?_) | ((with_reducible refine g_st ?_); refine a_st HM ?_; clear HM; intro w1 HM) | ((with_reducible refine g_al ?_); refine a_al HM ?_; clear HM; intro bk w1 HM) | ((with_reducible refine g_bx ?_); refine a_bx HM ?_; clear HM; intro bk w1 HM) | ((with_reducible refine g_bld ?_); refine a_bld ?_))
    refine start_M2 [] HM ((Sub.keep (Sub.keep (Sub.keep Sub.nil)))) Zk (fun w0x H9 => ?_)
    replace HM := H9; clear H9
    refine k_ld 0 [] (heldE HM) ?_
    refine k_mv 1 (heldE HM) ?_
    refine k_mv 2 (heldE HM) ?_
    refine k_ia 3 (heldE HM) ?_
    refine k_ld 4 [] (heldE HM) ?_
    refine k_mv 5 (heldE HM) ?_
    refine j_two 6 10 ?_ ?_
    ·refine j_call3 (v := ?_) HM ?_ ?_; rotate_left 1; (focus (with_reducible (exact CL2 _ HM.low))); clear HM; intro w1 HM
     refine ⟨(heldE HM), ?_⟩
     refine k_mv 7 (heldE HM) ?_
     refine k_ext 8 (heldE HM) ?_
     refine k_ext 9 (heldE HM) ?_
     refine j_one 10 fun K9 hK9 => ?_
     refine j_al HM ?_; clear HM; intro bk w1 HM
     refine hK9 _ _ (heldE HM) ?_; clear hK9 K9
     exact z9_89
    ·refine j_al HM ?_; clear HM; intro bk w1 HM
     refine ⟨(heldE HM), ?_⟩
     refine j_one 6 fun K9 hK9 => ?_
     refine j_call3 (v := ?_) HM ?_ ?_; rotate_left 1; (focus (with_reducible (exact CL2 _ HM.low))); clear HM; intro w1 HM
     refine hK9 _ _ (heldE HM) ?_; clear hK9 K9
     refine k_mv 7 (heldE HM) ?_
     refine k_ext 8 (heldE HM) ?_
     refine k_ext 9 (heldE HM) ?_
     exact z9_89
   | some y =>
    have CL2 : ∀ w', Below w.heap.size w w' → Calls Tryz.prog 94 #[.agg m.c, .string a, .string b] w' fun e w'' => e = .returned (.tuple #[.agg (Rt.qA y), .bool true]) ∧ Below w'.heap.size w' w'' := CL
    have fy := (HBD.out y rfl).fit
    have hz : Hid (y = x * y) := Zi (by rw [hone.out]; show y = ((1 : Int) : Rat) * y; rw [show (((1 : Int)) : Rat) = 1 from rfl, Rat.one_mul])
    have CM := fun w => mul_q x y y f1 fy hz fy w
    have sy := sa_q y (rZ_size 0 0)
    have ly := la_q y
    have sy2 := sa_q y (qA_size x)
    have HS1 : Hid (1 = 1 → some y = some y) := Zi (fun _ => rfl)
    clear CL hz
    go_upto_region 5 with (first | ((with_reducible refine g_ld ?_); refine a_ld HM ?_) | ((with_reducible refine g_st ?_); refine a_st HM ?_; clear HM; intro w1 HM) | ((with_reducible refine g_al ?_); refine a_al HM ?_; clear HM; intro bk w1 HM) | ((with_reducible refine g_bx ?_); refine a_bx HM ?_; clear HM; intro bk w1 HM) | ((with_reducible refine g_bld ?_); refine a_bld ?_))
    refine start_M2 [] HM ((Sub.keep (Sub.keep (Sub.keep Sub.nil)))) Zk (fun w0x H9 => ?_)
    replace HM := H9; clear H9
    refine k_ld 0 [] (heldE HM) ?_
    refine k_mv 1 (heldE HM) ?_
    refine k_mv 2 (heldE HM) ?_
    refine k_ia 3 (heldE HM) ?_
    refine k_ld 4 [] (heldE HM) ?_
    refine k_mv 5 (heldE HM) ?_
    refine j_two 6 10 ?_ ?_
    ·refine j_call3 (v := ?_) HM ?_ ?_; rotate_left 1; (focus (with_reducible (exact CL2 _ HM.low))); clear HM; intro w1 HM
     refine ⟨(heldE HM), ?_⟩
     refine k_mv 7 (heldE HM) ?_
     refine k_ext 8 (heldE HM) ?_
     refine k_ext 9 (heldE HM) ?_
     refine j_one 10 fun K9 hK9 => ?_
     refine j_al HM ?_; clear HM; intro bk w1 HM
     refine hK9 _ _ (heldE HM) ?_; clear hK9 K9
     exact z9_90
    ·refine j_al HM ?_; clear HM; intro bk w1 HM
     refine ⟨(heldE HM), ?_⟩
     refine j_one 6 fun K9 hK9 => ?_
     refine j_call3 (v := ?_) HM ?_ ?_; rotate_left 1; (focus (with_reducible (exact CL2 _ HM.low))); clear HM; intro w1 HM
     refine hK9 _ _ (heldE HM) ?_; clear hK9 K9
     refine k_mv 7 (heldE HM) ?_
     refine k_ext 8 (heldE HM) ?_
     refine k_ext 9 (heldE HM) ?_
     exact z9_90
  ·obtain rfl : i = 1 := by omega
   obtain rfl : o = some x := H1.out rfl
   have lx := la_q x
   have sx := sa_q x (rZ_size 0 0)
   clear CL H0 H1
   go_wp2_with (first | ((with_reducible refine g_ld ?_); refine a_ld HM ?_) | ((with_reducible refine g_st ?_); refine a_st HM ?_; clear HM; intro w1 HM) | ((with_reducible refine g_al ?_); refine a_al HM ?_; clear HM; intro bk w1 HM) | ((with_reducible refine g_bx ?_); refine a_bx HM ?_; clear HM; intro bk w1 HM) | ((with_reducible refine g_bld ?_); refine a_bld ?_))
   (try simp only [Exit.inBlock, Exit.then])
   refine bodyPost_ret (r_ct (b := b4) (k := 0) rfl rfl (HM.get Zl) lx) rfl ⟨rfl, HM.low⟩
end
section
open Jb
theorem MM.put (x : Sl) (p : WP) (k d : Int) (w : World) : (Instr.build 96 #[(0, Sl.v x), (1, .agg p.c), (2, .int .i64 k), (3, .int .i64 d)]).run Tryz.prog w = .ok (.agg (MM.c ⟨x, p, k, d⟩)) w :=
 MM.bld (parts := #[(0, Sl.v x), (1, .agg p.c), (2, .int .i64 k), (3, .int .i64 d)]) (r := ⟨x, p, k, d⟩) (by simp [Value.cells, WP.size, Sl.v]) (by rw [MM.rows]; rfl) w
theorem str_made {w0 w : World} {X : List Nat} {K : List (Nat × Array Value)} {b n : Nat} (L : List ByteArray) (hn : n = L.length) (HM : Mem w0 X ((b, rowsOf (V1 (Tq.V L))) :: K) w) : RdS 1 w (.slice (some ⟨b, 0, none⟩) n n) (V1 (Tq.V L)) := by
 have h := (SlAt.made (n := 1) b (V1 (Tq.V L)) (by intro c hc; obtain ⟨v, _, rfl⟩ := List.mem_map.1 hc; rfl)).rd HM (fun p hp => by rw [List.mem_singleton.1 hp]; exact List.mem_cons_self)
 rw [Tq.V_len, ← hn] at h
 exact h
theorem rate_any (L : List JQ) (p : WP) (ss : List ByteArray) (tol : Rat) (k d : Int) (a b : ByteArray) (ha : Tq.Cd a) (hb : Tq.Cd b) (hne : (a == b) = false) (x : Sl) (w : World) (hM : Tq.Mar ⟨x, p, k, d⟩ L ss tol w) (o : Option Rat) (ho : Hid (o = Tq.lg ⟨x, p, k, d⟩ L ss tol a b)) :
    Calls Tryz.prog 26 #[Sl.v x, .agg p.c, .int .i64 k, .string b, .string a, .string b, .int .i64 d] w fun e w' => e = .returned (.tuple #[.agg (Tq.rc o), .int .i64 (if o.isSome then 0 else 161)]) ∧ Below w.heap.size w w' := by
 have HM := Mem.start w
 have HMA := Zi hM
 have C1 := fun w' (hB : Below w.heap.size w w') sv h => mcheck_any ⟨x, p, k, d⟩ L ss tol [b, a, b] (by intro c hc; simp only [List.mem_cons, List.not_mem_nil, or_false] at hc; rcases hc with rfl | rfl | rfl <;> assumption) Zs sv w' (HMA.out.below hB) h
 have C2 := fun w' (hB : Below w.heap.size w w') sv h => way_any ⟨x, p, k, d⟩ L ss tol a b ha hb sv w' (HMA.out.below hB) h o ho
 have HB := fun w => MM.put x p k d w
 obtain ⟨ec, hec⟩ := Zh ((if o.isSome then (0 : Int) else 161))
 rw [← hec.out]
 have hst := Jb.str_l a b
 rw [hne] at hst
 have hst2 := Jb.str_l b a
 have hne2 : (b == a) = false := by
  cases h : b == a with
  | false => rfl
  | true => rw [(jb_str b a).1 h, (jb_str a a).2 rfl] at hne; cases hne
 rw [hne2] at hst2
 have hst3 : (b.toList == b.toList) = true := beq_self_eq_true _
 have zr := za_rat
 have zm := MM.za
 have lp := p.la
 have lm := (MM.mk x p k d).la
 have sm := (MM.mk x p k d).sa (z := MM.zero.c) (MM.size _)
 have els : elemB 29 9 1 16 = true := by kernel_rfl
 have sz := sa_c (rZ_size 0 0) (rZ_one 0 0) (rZ_size 0 0)
 have lz := la_c (rZ_size 0 0)
 obtain ⟨mc, hmc⟩ : ∃ mc, mc = MM.c ⟨x, p, k, d⟩ := ⟨_, rfl⟩
 rw [← hmc] at HB lm sm C1 C2
 generalize Sl.v x = sv at *
 clear hM ho hmc ha hb hne hne2
 go_enter Tryz.func26, Tryz.ntmps26
 go_upto_region 7 with (first | ((with_reducible refine g_bld ?_); refine a_rbl (v := .agg mc) ?_ (hy := h_bg4 rfl Zw Zw Zw Zw (by with_reducible exact (HB)))) | ((with_reducible refine g_bs3 ?_); refine a_bs3 (c0 := #[.string b]) (c1 := #[.string a]) (c2 := #[.string b]) HM ?_; clear HM; intro b9 w9 HM) | (go_at_call 49; refine (C1 _ HM.low _ (str_made [b, a, b] rfl HM)).mono ?_; rintro e9 w9 ⟨rfl, hL⟩; replace HM := HM.call hL; clear hL) | (first | ((with_reducible refine g_ld ?_); refine a_ld HM ?_) | ((with_reducible refine g_st ?_); refine a_st HM ?_; clear HM; intro w1 HM) | ((with_reducible refine g_al ?_); refine a_al HM ?_; clear HM; intro bk w1 HM) | ((with_reducible refine g_bx ?_); refine a_bx HM ?_; clear HM; intro bk w1 HM) | ((with_reducible refine g_bld ?_); refine a_bld ?_)))
 obtain ⟨b9, rfl⟩ := HM.nm0
 obtain ⟨b16, rfl⟩ := HM.nm1
 obtain ⟨b14, rfl⟩ := HM.nm2
 obtain ⟨b8, rfl⟩ := HM.nm3
 clear C1
 cases o with
 | none =>
  obtain rfl : ec = 161 := hec.out
  have CN : ∀ w', Below w.heap.size w w' → ∀ sv, RdS 1 w' sv (V1 (Tq.V [a, b])) → Calls Tryz.prog 51 #[.agg mc, sv] w' fun e w'' => e = .returned (.tuple #[.agg (Bg.rZ 0 0), .bool false]) ∧ Below w'.heap.size w' w'' := C2
  clear C2
  go_upto_region 14 with (first | ((with_reducible refine g_bs2 ?_); refine a_bs2 (c0 := #[.string a]) (c1 := #[.string b]) HM ?_; clear HM; intro b7 w9 HM) | (go_at_call 51; refine (CN _ HM.low _ (str_made [a, b] rfl HM)).mono ?_; rintro e9 w9 ⟨rfl, hL⟩; replace HM := HM.call hL; clear hL) | (first | ((with_reducible refine g_ld ?_); refine a_ld HM ?_) | ((with_reducible refine g_st ?_); refine a_st HM ?_; clear HM; intro w1 HM) | ((with_reducible refine g_al ?_); refine a_al HM ?_; clear HM; intro bk w1 HM) | ((with_reducible refine g_bx ?_); refine a_bx HM ?_; clear HM; intro bk w1 HM) | ((with_reducible refine g_bld ?_); refine a_bld ?_)))
  go_wp2_with (first | ((with_reducible refine g_bld ?_); refine a_rbl (v := .agg (Bg.rZ 0 0)) ?_ (hy := h_bgz rfl (by with_reducible exact run_build_rat0))) | (first | ((with_reducible refine g_ld ?_); refine a_ld HM ?_) | ((with_reducible refine g_st ?_); refine a_st HM ?_; clear HM; intro w1 HM) | ((with_reducible refine g_al ?_); refine a_al HM ?_; clear HM; intro bk w1 HM) | ((with_reducible refine g_bx ?_); refine a_bx HM ?_; clear HM; intro bk w1 HM) | ((with_reducible refine g_bld ?_); refine a_bld ?_)))
  refine bodyPost_ret (r_ct (b := b14) (k := 0) rfl rfl (HM.get Zl) lz) rfl ⟨rfl, HM.low⟩
 | some y =>
  obtain rfl : ec = 0 := hec.out
  have CN : ∀ w', Below w.heap.size w w' → ∀ sv, RdS 1 w' sv (V1 (Tq.V [a, b])) → Calls Tryz.prog 51 #[.agg mc, sv] w' fun e w'' => e = .returned (.tuple #[.agg (Rt.qA y), .bool true]) ∧ Below w'.heap.size w' w'' := C2
  clear C2
  have sy := sa_q y (rZ_size 0 0)
  have ly := la_q y
  go_wp2_with (first | ((with_reducible refine g_bs2 ?_); refine a_bs2 (c0 := #[.string a]) (c1 := #[.string b]) HM ?_; clear HM; intro b7 w9 HM) | (go_at_call 51; refine (CN _ HM.low _ (str_made [a, b] rfl HM)).mono ?_; rintro e9 w9 ⟨rfl, hL⟩; replace HM := HM.call hL; clear hL) | (first | ((with_reducible refine g_ld ?_); refine a_ld HM ?_) | ((with_reducible refine g_st ?_); refine a_st HM ?_; clear HM; intro w1 HM) | ((with_reducible refine g_al ?_); refine a_al HM ?_; clear HM; intro bk w1 HM) | ((with_reducible refine g_bx ?_); refine a_bx HM ?_; clear HM; intro bk w1 HM) | ((with_reducible refine g_bld ?_); refine a_bld ?_)))
  refine bodyPost_ret (r_ct (b := b14) (k := 0) rfl rfl (HM.get Zl) ly) rfl ⟨rfl, HM.low⟩
end
end Go.Proofs.YtiekmabiecalbaaGreatDoor
