/- Walks, and plain facts for them. -/
import Derived.Test.YtckhdiljihhdmaaGreatPb36
import Derived.Test.YtckhdiljihhdmaaGreatPb37
namespace Go.Proofs.YtckhdiljihhdmaaGreat
set_option maxRecDepth 8000
open Go.RowKit Go.Maps
theorem lk_side {n bm : Nat} {w w2 w3 : World} (h : Below n w w2) (hg : w2.grownBy w3 (some bm)) (hb : n ≤ bm) (hn : n ≤ w.heap.size) : Below n w w3 := by
 have ho := Only.of_grown hg
 refine ⟨ho.os.trans h.os, ho.tape.trans h.tape, ho.output.trans h.output, Nat.le_trans h.size ho.size, fun k hk => ?_⟩
 rw [ho.block k (by have := h.size; omega) (by simp; omega)]
 exact h.block k hk
theorem lk_keep {bm bn : Nat} {c : Array Value} {w2 w3 : World} (h : Rbk w2 bn c) (hg : w2.grownBy w3 (some bm)) (hne : bn ≠ bm) : Rbk w3 bn c :=
 h.kept ((Only.of_grown hg).block bn h.lt (by simpa using hne))
theorem lk_zeros {w0 w : World} {X : List Nat} {L : List (Nat × Array Value)} {b n : Nat} (HM : Mem w0 X ((b, rowsOf (List.replicate n (ic 0))) :: L) w) : RdI w (.slice (some ⟨b, 0, none⟩) n n) (List.replicate n 0) := by
 rw [rep_ints] at HM
 have := (own_ints (b := b) (A := List.replicate n 0)).rd HM (by simp)
 rwa [List.length_replicate] at this
theorem quantities_s (lv : Value) (L : List (List Lk.H)) (s : List UInt8) (w : World) (hR : RdL w lv L) (hl : L.length ≤ 8) (hv : Lk.all L = true) :
    Calls Tryz.prog 29 #[lv, .string (Lk.bs s)] w fun e w' => ∃ sv, e = .returned sv ∧ Hid (RdI w' sv (Lk.qty L s)) ∧ Below w.heap.size w w' := by
 have h := quantities_any lv L (Lk.bs s) w hR hl hv
 rw [Lk.bs_list] at h
 exact h
set_option maxRecDepth 100000 in
set_option maxHeartbeats 8000000 in
theorem look_b (us hs lv : Value) (U : List Int) (H : List (List Int)) (L : List (List Lk.H)) (i n : Int) (w : World) (hR : RdN w us hs U H) (hLR : RdL w lv L) (r : Int) (hr : Hid (r = Lk.lerr U H L i n)) :
    Calls Tryz.prog 8 #[.agg #[us, hs], lv, .int .i64 i, .int .i64 n] w fun e w' => ∃ s B, e = .returned (.tuple #[s, .int .i64 r]) ∧ Hid (SlAt 67 s ((Lk.xps U H L i n).map Xp.c) B) ∧ Mem w [] B w' := by
 have HM := Mem.start w
 have HR := Lib.hid hR
 have HLR := Lib.hid hLR
 obtain ⟨c, hc⟩ : ∃ c, Hid (c = Lk.chk U H L) := ⟨_, Lib.hid rfl⟩
 have C := fun w' hB => lcheck_any us hs lv U H L w' (hR.below hB) (hLR.below hB) c hc
 have n2 := la_nest us hs
 obtain ⟨Au, cu, rfl⟩ := hR.u.form
 obtain ⟨Al, cl, rfl⟩ := hLR.form
 have n0 := la_n0 (.slice Au U.length cu) hs
 clear hR hLR
 go_enter Tryz.func8, Tryz.ntmps8
 by_cases h0 : c = 0
 case neg =>
  have g0 : (c == 0) = false := beq_eq_false_iff_ne.2 h0
  obtain rfl : r = c := by rw [hr.out, hc.out]; exact Lk.lerr_chk (by rw [← hc.out]; exact h0)
  rw [Lk.xps_no hr.out h0]
  clear hc hr
  go_wp2_with (first | (go_at_call 12; ((with_reducible refine (C _ HM.low).mono ?_); rintro e9 w2 ⟨rfl, hL⟩; replace HM := HM.call hL; clear hL)) | (first | ((with_reducible refine g_ld ?_); refine a_ld HM ?_) | ((with_reducible refine g_st ?_); refine a_st HM ?_; clear HM; intro w1 HM) | ((with_reducible refine g_al ?_); refine a_al HM ?_; clear HM; intro bk w1 HM) | ((with_reducible refine g_bx ?_); refine a_bx HM ?_; clear HM; intro bk w1 HM) | ((with_reducible refine g_bld ?_); refine a_bld ?_)))
  go_ret2
  exact ⟨_, [], rfl, Lib.hid SlAt.nil, HM.pk Pk.nil⟩
 subst h0
 have hck : Lk.chk U H L = 0 := hc.out.symm
 obtain ⟨hG, hLU, hLA⟩ := Lk.chk_spec hck
 have hn8 := hG.sh.1
 have HCK := Lib.hid hck
 have HG := Lib.hid hG
 have HLU := Lib.hid hLU
 have HLA := Lib.hid hLA
 have hl8 : L.length ≤ 8 := by omega
 clear hc hck hG hLU hLA
 by_cases hi0 : i < 0
 ·obtain rfl : r = 340 := by rw [hr.out]; exact Lk.lerr_i HCK.out (.inl hi0)
  rw [Lk.xps_no hr.out (by decide)]
  clear hr
  go_wp2_with (first | (go_at_call 12; ((with_reducible refine (C _ HM.low).mono ?_); rintro e9 w2 ⟨rfl, hL⟩; replace HM := HM.call hL; clear hL)) | (first | ((with_reducible refine g_ld ?_); refine a_ld HM ?_) | ((with_reducible refine g_st ?_); refine a_st HM ?_; clear HM; intro w1 HM) | ((with_reducible refine g_al ?_); refine a_al HM ?_; clear HM; intro bk w1 HM) | ((with_reducible refine g_bx ?_); refine a_bx HM ?_; clear HM; intro bk w1 HM) | ((with_reducible refine g_bld ?_); refine a_bld ?_)))
  go_ret2
  exact ⟨_, [], rfl, Lib.hid SlAt.nil, HM.pk Pk.nil⟩
 have g2 : decide (i < 0) = false := decide_eq_false hi0
 by_cases hi1 : (U.length : Int) ≤ i
 ·obtain rfl : r = 340 := by rw [hr.out]; exact Lk.lerr_i HCK.out (.inr hi1)
  rw [Lk.xps_no hr.out (by decide)]
  clear hr
  go_wp2_with (first | (go_at_call 12; ((with_reducible refine (C _ HM.low).mono ?_); rintro e9 w2 ⟨rfl, hL⟩; replace HM := HM.call hL; clear hL)) | (first | ((with_reducible refine g_ld ?_); refine a_ld HM ?_) | ((with_reducible refine g_st ?_); refine a_st HM ?_; clear HM; intro w1 HM) | ((with_reducible refine g_al ?_); refine a_al HM ?_; clear HM; intro bk w1 HM) | ((with_reducible refine g_bx ?_); refine a_bx HM ?_; clear HM; intro bk w1 HM) | ((with_reducible refine g_bld ?_); refine a_bld ?_)))
  go_ret2
  exact ⟨_, [], rfl, Lib.hid SlAt.nil, HM.pk Pk.nil⟩
 obtain ⟨m, rfl⟩ : ∃ m : Nat, i = m := ⟨i.toNat, by omega⟩
 have hm : m < U.length := by omega
 have hm1 : (m : Int) < U.length := by omega
 have g3 : decide ((U.length : Int) ≤ (m : Int)) = false := decide_eq_false hi1
 obtain ⟨x, hx⟩ : ∃ x, U[m]? = some x := ⟨_, List.getElem?_eq_getElem hm⟩
 have HX := Lib.hid (Ns.gu_at hx)
 obtain ⟨b', off', cs', rfl, HB', k2⟩ := HR.out.u.at_ hx
 clear hx
 by_cases hn0 : n < 0
 ·obtain rfl : r = 253 := by rw [hr.out]; exact Lk.lerr_n HCK.out hm (.inl hn0)
  rw [Lk.xps_no hr.out (by decide)]
  clear hr
  go_wp2_with (first | (go_at_call 12; ((with_reducible refine (C _ HM.low).mono ?_); rintro e9 w2 ⟨rfl, hL⟩; replace HM := HM.call hL; clear hL)) | (first | ((with_reducible refine g_ld ?_); refine a_ld HM ?_) | ((with_reducible refine g_st ?_); refine a_st HM ?_; clear HM; intro w1 HM) | ((with_reducible refine g_al ?_); refine a_al HM ?_; clear HM; intro bk w1 HM) | ((with_reducible refine g_bx ?_); refine a_bx HM ?_; clear HM; intro bk w1 HM) | ((with_reducible refine g_bld ?_); refine a_bld ?_)))
  go_ret2
  exact ⟨_, [], rfl, Lib.hid SlAt.nil, HM.pk Pk.nil⟩
 have g4 : decide (n < 0) = false := decide_eq_false hn0
 by_cases hn1 : x < n
 ·obtain rfl : r = 253 := by rw [hr.out]; exact Lk.lerr_n HCK.out hm (.inr (by rw [HX.out]; exact hn1))
  rw [Lk.xps_no hr.out (by decide)]
  clear hr
  go_wp2_with (first | (go_at_call 12; ((with_reducible refine (C _ HM.low).mono ?_); rintro e9 w2 ⟨rfl, hL⟩; replace HM := HM.call hL; clear hL)) | (first | ((with_reducible refine g_ld ?_); refine a_ld HM ?_) | ((with_reducible refine g_st ?_); refine a_st HM ?_; clear HM; intro w1 HM) | ((with_reducible refine g_al ?_); refine a_al HM ?_; clear HM; intro bk w1 HM) | ((with_reducible refine g_bx ?_); refine a_bx HM ?_; clear HM; intro bk w1 HM) | ((with_reducible refine g_bld ?_); refine a_bld ?_)))
  go_ret2
  exact ⟨_, [], rfl, Lib.hid SlAt.nil, HM.pk Pk.nil⟩
 have hx15 : x ≤ 1000000000000000 := by rw [← HX.out]; exact HG.out.ok.u1 m hm
 have HNX : Hid (0 ≤ n ∧ n ≤ Ns.gu U m) := Lib.hid ⟨by omega, by rw [HX.out]; omega⟩
 have eli : elemB 22 3 1 8 = true := by kernel_rfl
 have zi := za_i
 obtain ⟨hz1, hz2⟩ := Lk.err_zero HG.out
 by_cases hcc : Ns.Circ U.length (Ns.gu U) (Ns.gh H)
 ·obtain rfl : r = 351 := by rw [hr.out]; exact Lk.lerr_c HCK.out hm HNX.out.1 HNX.out.2 hcc
  rw [Lk.xps_no hr.out (by decide)]
  have he := hz1 hcc
  clear hz1 hz2 hr hcc
  go_upto_region 8 with (first | (go_at_call 12; ((with_reducible refine (C _ HM.low).mono ?_); rintro e9 w2 ⟨rfl, hL⟩; replace HM := HM.call hL; clear hL)) | (first | ((with_reducible refine g_ld ?_); refine a_ld HM ?_) | ((with_reducible refine g_st ?_); refine a_st HM ?_; clear HM; intro w1 HM) | ((with_reducible refine g_al ?_); refine a_al HM ?_; clear HM; intro bk w1 HM) | ((with_reducible refine g_bx ?_); refine a_bx HM ?_; clear HM; intro bk w1 HM) | ((with_reducible refine g_bld ?_); refine a_bld ?_)))
  obtain ⟨bn, rfl⟩ := HM.nm0
  refine start_M [] HM (by kernel_rfl) (fun w0x H9 => ?_)
  replace HM := H9; clear H9
  refine k_ld 0 [] (heldE HM) ?_
  refine k_fa 1 (heldE HM) ?_
  refine k_ld 2 [] (heldE HM) ?_
  refine k_pv 3 (heldE HM) ?_
  refine j_one 4 fun K9 hK9 => ?_
  refine j_mks U.length HM ?_ (by omega); clear HM; intro bz w1 HM
  refine hK9 _ _ (heldE HM) ?_; clear hK9 K9; ((try simp only [List.setIfInBounds_toArray]); (try simp only [List.set_cons_succ]); (try simp only [List.set_cons_zero]))
  refine j_one 5 fun K9 hK9 => ?_
  refine o_callg (ssolve_c _ _ _ U H (List.replicate U.length 0) _ (HR.out.below HM.low) (lk_zeros HM) he) rfl ?_ ?_; (focus (refine h_call2 (ts := ?_) (x1 := ?_) (x2 := ?_) ?_ (by kernel_rfl) ?_ ?_; rotate_left 3; (focus rfl); (focus rfl); rfl)); rintro e9 w2 ⟨rfl, hL⟩; replace HM := HM.call hL; clear hL; refine ⟨_, rfl, ?_⟩
  refine hK9 _ _ (heldE HM) ?_; clear hK9 K9; ((try simp only [List.setIfInBounds_toArray]); (try simp only [List.set_cons_succ]); (try simp only [List.set_cons_zero]))
  refine k_mv 6 (heldE HM) ?_
  refine k_ext 7 (heldE HM) ?_
  refine k_ext 8 (heldE HM) ?_
  refine k_mv 9 (heldE HM) ?_
  refine k_mv 10 (heldE HM) ?_
  refine wpAnyL_done (by kernel_rfl) ?_ _
  go_wp2_with (first | ((with_reducible refine g_ld ?_); refine a_ld HM ?_) | ((with_reducible refine g_st ?_); refine a_st HM ?_; clear HM; intro w1 HM) | ((with_reducible refine g_al ?_); refine a_al HM ?_; clear HM; intro bk w1 HM) | ((with_reducible refine g_bx ?_); refine a_bx HM ?_; clear HM; intro bk w1 HM) | ((with_reducible refine g_bld ?_); refine a_bld ?_))
  go_ret2
  exact ⟨_, [], rfl, Lib.hid SlAt.nil, HM.pk Pk.nil⟩
 obtain ⟨he, f0, hf0⟩ := hz2 hcc
 obtain rfl : r = 0 := by rw [hr.out]; exact Lk.lerr_ok HCK.out hm HNX.out.1 HNX.out.2 hcc
 rw [Lk.xps_ok HCK.out hm HNX.out.1 HNX.out.2 hcc]
 have HCC := Lib.hid hcc
 clear hz1 hz2 hr hcc
 go_upto_region 8 with (first | (go_at_call 12; ((with_reducible refine (C _ HM.low).mono ?_); rintro e9 w2 ⟨rfl, hL⟩; replace HM := HM.call hL; clear hL)) | (first | ((with_reducible refine g_ld ?_); refine a_ld HM ?_) | ((with_reducible refine g_st ?_); refine a_st HM ?_; clear HM; intro w1 HM) | ((with_reducible refine g_al ?_); refine a_al HM ?_; clear HM; intro bk w1 HM) | ((with_reducible refine g_bx ?_); refine a_bx HM ?_; clear HM; intro bk w1 HM) | ((with_reducible refine g_bld ?_); refine a_bld ?_)))
 obtain ⟨bn, rfl⟩ := HM.nm0
 refine start_M [] HM (by kernel_rfl) (fun w0x H9 => ?_)
 replace HM := H9; clear H9
 refine k_ld 0 [] (heldE HM) ?_
 refine k_fa 1 (heldE HM) ?_
 refine k_ld 2 [] (heldE HM) ?_
 refine k_pv 3 (heldE HM) ?_
 refine j_one 4 fun K9 hK9 => ?_
 refine j_mks U.length HM ?_ (by omega); clear HM; intro bz w1 HM
 refine hK9 _ _ (heldE HM) ?_; clear hK9 K9; ((try simp only [List.setIfInBounds_toArray]); (try simp only [List.set_cons_succ]); (try simp only [List.set_cons_zero]))
 refine j_one 5 fun K9 hK9 => ?_
 refine o_callg (ssolve_f _ _ _ U H (List.replicate U.length 0) f0 _ (HR.out.below HM.low) (lk_zeros HM) he hf0) rfl ?_ ?_; (focus (refine h_call2 (ts := ?_) (x1 := ?_) (x2 := ?_) ?_ (by kernel_rfl) ?_ ?_; rotate_left 3; (focus rfl); (focus rfl); rfl)); rintro e9 w2 ⟨s9, rfl, hL, -⟩; replace HM := HM.call hL; clear hL; refine ⟨_, rfl, ?_⟩
 refine hK9 _ _ (heldE HM) ?_; clear hK9 K9; ((try simp only [List.setIfInBounds_toArray]); (try simp only [List.set_cons_succ]); (try simp only [List.set_cons_zero]))
 refine k_mv 6 (heldE HM) ?_
 refine k_ext 7 (heldE HM) ?_
 refine k_ext 8 (heldE HM) ?_
 refine k_mv 9 (heldE HM) ?_
 refine k_mv 10 (heldE HM) ?_
 refine wpAnyL_done (by kernel_rfl) ?_ _
 clear he hf0
 have HBN0 := Lib.hid ((HM.get (by ((repeat (first | exact Look.here | refine Look.there ?_)); done))).rbk : Rbk _ bn #[.slice (some ⟨b', off', none⟩) U.length cu, hs])
 have HB0 := Lib.hid HM.low
 have hle := HM.only.size
 clear HM HB' k2 eli zi
 have HM := Mem.start w2
 have hmm := @run_makeMap Tryz.prog
 go_upto_region 12 with (first | ((with_reducible refine g_ld ?_); refine a_ld HM ?_) | ((with_reducible refine g_st ?_); refine a_st HM ?_; clear HM; intro w1 HM) | ((with_reducible refine g_al ?_); refine a_al HM ?_; clear HM; intro bk w1 HM) | ((with_reducible refine g_bx ?_); refine a_bx HM ?_; clear HM; intro bk w1 HM) | ((with_reducible refine g_bld ?_); refine a_bld ?_))
 clear hmm HM
 have HS0 := Lib.hid (SMap.made w2)
 have hbn := HBN0.out.lt
 have hne : bn ≠ w2.heap.size := by omega
 have hbb := (Below.refl w2.heap.size w2).alloc (Nat.le_refl _) (.map #[] 0)
 have HB1 := Lib.hid (below_seq HB0.out hbb)
 have HBN1 := Lib.hid (HBN0.out.below hbb hbn)
 clear HB0 HBN0 hbn hbb
 generalize w2.alloc (.map #[] 0) = wm at HS0 HB1 HBN1 ⊢
 generalize w2.heap.size = bm at HS0 hne hle ⊢
 have HM := Mem.start wm
 go_wp2_with (first | ((with_reducible refine g_ld ?_); refine a_ld HM ?_) | ((with_reducible refine g_st ?_); refine a_st HM ?_; clear HM; intro w1 HM) | ((with_reducible refine g_al ?_); refine a_al HM ?_; clear HM; intro bk w1 HM) | ((with_reducible refine g_bx ?_); refine a_bx HM ?_; clear HM; intro bk w1 HM) | ((with_reducible refine g_bld ?_); refine a_bld ?_))
 go_loopw [67] (fun iv wr => ∃ (i : Nat) (S : List (List UInt8)) (q : Nat), iv = .int .i64 (i : Nat) ∧ i ≤ L.length ∧ q ≤ 64 * i ∧ Hid (∀ x, x ∈ S ↔ x ∈ Lk.nms [] (L.take i)) ∧ Hid (SMap wr bm q S) ∧ Hid (Rbk wr bn #[.slice (some ⟨b', off', none⟩) U.length cu, hs]) ∧ Hid (Below w.heap.size w wr)) (fun iv _ => L.length - (intOf iv).toNat)
 case atStart => exact ⟨0, [], 0, rfl, by omega, by omega, Lib.hid (fun x => by simp [Lk.nms]), HS0, HBN1, HB1⟩
 case round =>
  clear HM HS0 HBN1 HB1
  obtain ⟨i, S, q, rfl, hi, hq, HMS, HS, HBN, HB⟩ := hrel
  by_cases hlt : i < L.length
  ·have hlt1 : (i : Int) < L.length := by omega
   obtain ⟨l, hll⟩ : ∃ l, L[i]? = some l := ⟨_, List.getElem?_eq_getElem hlt⟩
   obtain ⟨b, off, cs, A2, c2, rfl, HBW, k1, HLW⟩ := HLR.out.at_ hll
   have HBL := Lib.hid (HBW.out.below HB.out HBW.out.lt)
   have hva := Lk.all_at HLA.out hll
   have hl64 := Lk.val_len hva
   have HVA := Lib.hid hva
   have HLL := Lib.hid (Lk.nms_step (acc := []) hll)
   clear hll hva
   have HM := Mem.start wr
   have hq0 : q ≤ 64 * i + 0 := hq
   have HMS0 : Hid (∀ x, x ∈ S ↔ x ∈ Lk.nml (Lk.nms [] (L.take i)) (l.take 0)) := HMS
   clear hq HMS
   go_wp2_with (first | ((with_reducible refine g_ld ?_); refine a_ld HM ?_) | ((with_reducible refine g_st ?_); refine a_st HM ?_; clear HM; intro w1 HM) | ((with_reducible refine g_al ?_); refine a_al HM ?_; clear HM; intro bk w1 HM) | ((with_reducible refine g_bx ?_); refine a_bx HM ?_; clear HM; intro bk w1 HM) | ((with_reducible refine g_bld ?_); refine a_bld ?_))
   go_loopw [73] (fun jv wr => ∃ (j : Nat) (S : List (List UInt8)) (q : Nat), jv = .int .i64 (j : Nat) ∧ j ≤ l.length ∧ q ≤ 64 * i + j ∧ Hid (∀ x, x ∈ S ↔ x ∈ Lk.nml (Lk.nms [] (L.take i)) (l.take j)) ∧ Hid (SMap wr bm q S) ∧ Hid (Rbk wr bn #[.slice (some ⟨b', off', none⟩) U.length cu, hs]) ∧ Hid (Below w.heap.size w wr)) (fun jv _ => l.length - (intOf jv).toNat)
   case atStart => exact ⟨0, S, q, rfl, by omega, hq0, HMS0, HS, HBN, HB⟩
   case round =>
    clear HM HS HBN HB HBL k1 HMS0 hq0
    obtain ⟨j, S, q, rfl, hj, hq, HMS, HS, HBN, HB⟩ := hrel
    have HM := Mem.start wr
    by_cases hjt : j < l.length
    ·have hjt1 : (j : Int) < l.length := by omega
     obtain ⟨h, hh⟩ : ∃ h, l[j]? = some h := ⟨_, List.getElem?_eq_getElem hjt⟩
     obtain ⟨b2, off2, cs2, rfl, HB2, k2, -, -⟩ := (HLW.out.below HB.out).at_ hh
     have hsz : h.nm.size ≤ maxLen := by
      have := (Lk.paper_size (Lk.val_paper HVA.out h (List.mem_of_getElem? hh))).2
      unfold maxLen; omega
     have z0 := Lk.za
     have s0 := Lk.sa Lk.z0 h
     have l0 := Lk.la0 h
     have est := Lk.nml_step (acc := Lk.nms [] (L.take i)) hh
     have HMS2 : Hid (∀ x, x ∈ h.nm.toList :: S ↔ x ∈ Lk.nml (Lk.nms [] (L.take i)) (l.take (j + 1))) := Lib.hid (fun x => by
      rw [est, Lk.mem_ins, List.mem_cons, HMS.out x]; exact Or.comm)
     clear hh est
     go_wp2_with (first | ((with_reducible refine g_upds ?_); refine a_upds (HS.out.below HM.low) (by omega) hsz ?_; intro w5 HS5 hg5) | (first | ((with_reducible refine g_ld ?_); refine a_ld HM ?_) | ((with_reducible refine g_st ?_); refine a_st HM ?_; clear HM; intro w1 HM) | ((with_reducible refine g_al ?_); refine a_al HM ?_; clear HM; intro bk w1 HM) | ((with_reducible refine g_bx ?_); refine a_bx HM ?_; clear HM; intro bk w1 HM) | ((with_reducible refine g_bld ?_); refine a_bld ?_)))
     have HB5 := Lib.hid (lk_side (below_seq HB.out HM.low) hg5 hle (Nat.le_refl _))
     have HBN5 := Lib.hid (lk_keep (HBN.out.below HM.low HBN.out.lt) hg5 hne)
     have HS6 := Lib.hid HS5
     clear HM hg5 HS5
     go_roundw
     case rel => exact ⟨j + 1, _, q + 1, by go_num, by omega, by omega, HMS2, HS6, HBN5, HB5⟩
     case measure => simp [intOf]; omega
    ·obtain rfl : j = l.length := by omega
     have HMS2 : Hid (∀ x, x ∈ S ↔ x ∈ Lk.nms [] (L.take (i + 1))) := Lib.hid (fun x => by rw [HMS.out x, List.take_length, HLL.out])
     go_wp2_with (first | ((with_reducible refine g_ld ?_); refine a_ld HM ?_) | ((with_reducible refine g_st ?_); refine a_st HM ?_; clear HM; intro w1 HM) | ((with_reducible refine g_al ?_); refine a_al HM ?_; clear HM; intro bk w1 HM) | ((with_reducible refine g_bx ?_); refine a_bx HM ?_; clear HM; intro bk w1 HM) | ((with_reducible refine g_bld ?_); refine a_bld ?_))
     clear HM
     go_roundw
     case rel => exact ⟨i + 1, S, q, by go_num, by omega, by omega, HMS2, HS, HBN, HB⟩
     case measure => simp [intOf]; omega
  ·obtain rfl : i = L.length := by omega
   have hmem : ∀ x, x ∈ Lk.names L ↔ x ∈ S := fun x => by rw [HMS.out x, List.take_length]; exact Iff.rfl
   have hnl := Lk.names_len HLA.out hl8
   have hns := Lk.names_sorted L
   have HX0 := Lib.hid (rfl : Lk.exps U H L m n (Lk.names L) = Lk.exps U H L m n (Lk.names L))
   obtain ⟨N, hN⟩ : ∃ N, Hid (N = Lk.names L) := ⟨_, Lib.hid rfl⟩
   rw [← hN.out] at hmem hnl hns
   have HSO := Lib.hid (sorted_any bm q S N wr HS.out (by omega) hns hmem)
   clear hns hmem hq HMS HX0
   have HM := Mem.start wr
   go_wp2_with (first | first
    | (go_at_call 28; refine (keys_any bm _).mono ?_; rintro e9 w9 ⟨rfl, rfl⟩)
    | (go_at_call 27; refine HSO.out.mono ?_; rintro e9 w4 ⟨sn, rfl, HRN, hB4⟩; obtain ⟨An, cn, rfl⟩ := HRN.out.formW) | (first | ((with_reducible refine g_ld ?_); refine a_ld HM ?_) | ((with_reducible refine g_st ?_); refine a_st HM ?_; clear HM; intro w1 HM) | ((with_reducible refine g_al ?_); refine a_al HM ?_; clear HM; intro bk w1 HM) | ((with_reducible refine g_bx ?_); refine a_bx HM ?_; clear HM; intro bk w1 HM) | ((with_reducible refine g_bld ?_); refine a_bld ?_)))
   clear HM HSO HS
   have HB4 := Lib.hid (below_seq HB.out hB4)
   have HBN4 := Lib.hid (HBN.out.below hB4 HBN.out.lt)
   clear HB HBN hB4
   have HR4 := Lib.hid (HR.out.below HB4.out)
   have HL4 := Lib.hid (HLR.out.below HB4.out)
   have HM := Mem.start w4
   have hf0 : Rt.Fit (0 : Rat) := Rt.fit_zero
   obtain ⟨zn, hzn⟩ : ∃ zn : Rat, Hid (zn = (n : Rat)) := ⟨_, Lib.hid rfl⟩
   have fzn : Rt.Fit zn := by rw [hzn.out]; exact Lk.int_fit (by omega)
   have W1 := fun w => whole_q n zn (by omega) (by omega) hzn w
   have W0 := fun w => whole_q 0 (0 : Rat) (by decide) (by decide) (Lib.hid (by simp)) w
   have zr := za_rat
   have ele : elemB 29 52 67 280 = true := by kernel_rfl
   go_loopw [18, 87] (fun ov kv wr => ∃ (k : Nat) (so : Value) (B : List (Nat × Array Value)), so = ov ∧ kv = .int .i64 (k : Nat) ∧ k ≤ N.length ∧ Hid (SlAt 67 so ((Lk.exps U H L m n (N.take k)).map Xp.c) B) ∧ Mem w4 [] B wr) (fun _ kv _ => N.length - (intOf kv).toNat)
   case atStart => exact ⟨0, _, [], rfl, rfl, by omega, Lib.hid SlAt.nil, HM⟩
   case round =>
    clear HM
    obtain ⟨k, so, B, rfl, rfl, hk, HSX, HM⟩ := hrel
    by_cases hkt : k < N.length
    ·have hkt1 : (k : Int) < N.length := by omega
     obtain ⟨s, hs⟩ : ∃ s, N[k]? = some s := ⟨_, List.getElem?_eq_getElem hkt⟩
     obtain ⟨b3, off3, cs3, rfl, HB3, k3⟩ := HRN.out.atW hs
     have HST := Lib.hid (Lk.exps_step (U := U) (Hs := H) (L := L) (i := m) (n := n) hs)
     obtain ⟨f, hf, he⟩ := Lk.px HG.out HCC.out HLU.out HLA.out s
     obtain ⟨y, hy⟩ : ∃ y, Hid (y = Lk.ex U H L m n s) := ⟨_, Lib.hid rfl⟩
     have fy : Rt.Fit y := by rw [hy.out]; exact Lk.ex_fit HG.out HCC.out HLU.out HLA.out hm HNX.out.1 HNX.out.2 s
     obtain ⟨fm, hfm⟩ : ∃ fm, Hid (fm = f m) := ⟨_, Lib.hid rfl⟩
     have ffm : Rt.Fit fm := by rw [hfm.out]; exact hf.2 m hm
     have M1 := fun w => mul_q zn fm y fzn ffm (Lib.hid (by rw [hy.out, hzn.out, hfm.out, Lk.pr_eq HG.out HCC.out hf hm]; rfl)) fy w
     have hla := HLA.out
     clear hs
     go_upto_region 25 with (first | ((with_reducible refine g_ld ?_); refine a_ld HM ?_) | ((with_reducible refine g_st ?_); refine a_st HM ?_; clear HM; intro w1 HM) | ((with_reducible refine g_al ?_); refine a_al HM ?_; clear HM; intro bk w1 HM) | ((with_reducible refine g_bx ?_); refine a_bx HM ?_; clear HM; intro bk w1 HM) | ((with_reducible refine g_bld ?_); refine a_bld ?_))
     refine start_M [] HM (by kernel_rfl) (fun w0x H9 => ?_)
     replace HM := H9; clear H9
     refine k_ld 0 [] (heldF HM) ?_
     refine k_mv 1 (heldF HM) ?_
     refine k_mv 2 (heldF HM) ?_
     refine j_one 3 fun K9 hK9 => ?_
     refine o_callg (quantities_s _ L s _ (HL4.out.below HM.low) hl8 hla) rfl ?_ ?_; (focus (refine h_call2 (ts := ?_) (x1 := ?_) (x2 := ?_) ?_ (by kernel_rfl) ?_ ?_; rotate_left 3; (focus rfl); (focus rfl); rfl)); rintro e9 w5 ⟨sq, rfl, HQ, hL⟩; replace HM := HM.call hL; clear hL; refine ⟨_, rfl, ?_⟩
     refine hK9 _ _ (heldF HM) ?_; clear hK9 K9; ((try simp only [List.setIfInBounds_toArray]); (try simp only [List.set_cons_succ]); (try simp only [List.set_cons_zero]))
     refine j_one 4 fun K9 hK9 => ?_
     refine o_callg (ssolve_f _ _ _ U H (Lk.qty L s) f _ (HR4.out.below HM.low) HQ.out he hf) rfl ?_ ?_; (focus (refine h_call2 (ts := ?_) (x1 := ?_) (x2 := ?_) ?_ (by kernel_rfl) ?_ ?_; rotate_left 3; (focus rfl); (focus rfl); rfl)); rintro e9 w6 ⟨sp, rfl, hL, HP⟩; replace HM := HM.call hL; clear hL; refine ⟨_, rfl, ?_⟩
     refine hK9 _ _ (heldF HM) ?_; clear hK9 K9; ((try simp only [List.setIfInBounds_toArray]); (try simp only [List.set_cons_succ]); (try simp only [List.set_cons_zero]))
     refine k_mv 5 (heldF HM) ?_
     refine k_ext 6 (heldF HM) ?_
     refine k_ext 7 (heldF HM) ?_
     refine k_mv 8 (heldF HM) ?_
     refine k_mv 9 (heldF HM) ?_
     refine wpAnyL_done (by kernel_rfl) ?_ _
     obtain ⟨Ap, cp, rfl⟩ := HP.out.form66
     obtain ⟨bp, op, csp, rfl, HBP, kp⟩ := HP.out.at66 hm
     rw [← hfm.out] at kp
     clear HP he hf hla
     have HK := Lib.hid HM
     replace HM := Mem.start w6
     have sy := sa_r66 (c := Bg.rZ 0 0) (qA_size y) (qA_one y) (rZ_size 0 0)
     have ly := la_q y
     go_upto_region 28 with (first | ((with_reducible refine g_ld ?_); refine a_ld HM ?_) | ((with_reducible refine g_st ?_); refine a_st HM ?_; clear HM; intro w1 HM) | ((with_reducible refine g_al ?_); refine a_al HM ?_; clear HM; intro bk w1 HM) | ((with_reducible refine g_bx ?_); refine a_bx HM ?_; clear HM; intro bk w1 HM) | ((with_reducible refine g_bld ?_); refine a_bld ?_))
     go_cut [22, 23] (fun e p wc => ∃ b23, e = .int .i64 0 ∧ p = .pointer (some ⟨b23, 0, none⟩) ∧ Mem w6 [] [(b23, Rt.qA y)] wc)
     case first =>
      refine start_M [11] HM (by kernel_rfl) (fun w0x H9 => ?_)
      replace HM := H9; clear H9
      refine k_mv 0 (heldE HM) ?_
      refine k_mv 2 (heldE HM) ?_
      refine k_mv 3 (heldE HM) ?_
      refine k_ia 4 (heldE HM) ?_
      refine k_ld 5 [6, 7, 8, 9, 11, 12] (heldE HM) ?_
      refine j_two 1 10 ?_ ?_
      ·refine j_call1 (v := ?_) HM ?_ ?_; rotate_left 1; (focus (with_reducible (first | exact W1 _ | exact M1 _))); clear HM; intro w1 HM
       refine ⟨(heldE HM), ?_⟩
       refine j_two 6 10 ?_ ?_
       ·refine j_call2 (v := ?_) HM ?_ ?_; rotate_left 1; (focus (with_reducible (first | exact W1 _ | exact M1 _))); clear HM; intro w1 HM
        refine ⟨(heldE HM), ?_⟩
        refine k_mv 7 (heldE HM) ?_
        refine k_ext 8 (heldE HM) ?_
        refine k_ext 9 (heldE HM) ?_
        refine j_one 10 fun K9 hK9 => ?_
        refine j_al HM ?_; clear HM; intro bk w1 HM
        refine hK9 _ _ (heldE HM) ?_; clear hK9 K9
        refine j_one 11 fun K9 hK9 => ?_
        refine j_st HM ?_; clear HM; intro w1 HM
        refine hK9 _ _ heldN ?_; clear hK9 K9
        refine k_mv 12 heldN ?_
        refine wpAnyL_done (by kernel_rfl) ?_ _
        (go_wp2_with fail; go_meet; (case rel => exact ⟨_, rfl, rfl, HM.pick⟩))
       ·refine j_al HM ?_; clear HM; intro bk w1 HM
        refine ⟨(heldE HM), ?_⟩
        refine j_one 6 fun K9 hK9 => ?_
        refine j_call2 (v := ?_) HM ?_ ?_; rotate_left 1; (focus (with_reducible (first | exact W1 _ | exact M1 _))); clear HM; intro w1 HM
        refine hK9 _ _ (heldE HM) ?_; clear hK9 K9
        refine k_mv 7 (heldE HM) ?_
        refine k_ext 8 (heldE HM) ?_
        refine k_ext 9 (heldE HM) ?_
        refine j_one 11 fun K9 hK9 => ?_
        refine j_st HM ?_; clear HM; intro w1 HM
        refine hK9 _ _ heldN ?_; clear hK9 K9
        refine k_mv 12 heldN ?_
        refine wpAnyL_done (by kernel_rfl) ?_ _
        (go_wp2_with fail; go_meet; (case rel => exact ⟨_, rfl, rfl, HM.pick⟩))
      ·refine j_al HM ?_; clear HM; intro bk w1 HM
       refine ⟨(heldE HM), ?_⟩
       refine j_one 1 fun K9 hK9 => ?_
       refine j_call1 (v := ?_) HM ?_ ?_; rotate_left 1; (focus (with_reducible (first | exact W1 _ | exact M1 _))); clear HM; intro w1 HM
       refine hK9 _ _ (heldE HM) ?_; clear hK9 K9
       refine j_one 6 fun K9 hK9 => ?_
       refine j_call2 (v := ?_) HM ?_ ?_; rotate_left 1; (focus (with_reducible (first | exact W1 _ | exact M1 _))); clear HM; intro w1 HM
       refine hK9 _ _ (heldE HM) ?_; clear hK9 K9
       refine k_mv 7 (heldE HM) ?_
       refine k_ext 8 (heldE HM) ?_
       refine k_ext 9 (heldE HM) ?_
       refine j_one 11 fun K9 hK9 => ?_
       refine j_st HM ?_; clear HM; intro w1 HM
       refine hK9 _ _ heldN ?_; clear hK9 K9
       refine k_mv 12 heldN ?_
       refine wpAnyL_done (by kernel_rfl) ?_ _
       (go_wp2_with fail; go_meet; (case rel => exact ⟨_, rfl, rfl, HM.pick⟩))
     case rest =>
      clear HM
      obtain ⟨b23, rfl, rfl, HM⟩ := hcut
      go_step
      go_upto_region 31 with (first | ((with_reducible refine g_ld ?_); refine a_ld HM ?_) | ((with_reducible refine g_st ?_); refine a_st HM ?_; clear HM; intro w1 HM) | ((with_reducible refine g_al ?_); refine a_al HM ?_; clear HM; intro bk w1 HM) | ((with_reducible refine g_bx ?_); refine a_bx HM ?_; clear HM; intro bk w1 HM) | ((with_reducible refine g_bld ?_); refine a_bld ?_))
      by_cases hy0 : y = 0
      ·have hy1 := hy0
       refine start_M [] HM (by kernel_rfl) (fun w0x H9 => ?_)
       replace HM := H9; clear H9
       refine k_ld 0 [] (heldE HM) ?_
       refine j_one 1 fun K9 hK9 => ?_
       refine j_call1 (v := ?_) HM ?_ ?_; rotate_left 1; (focus (with_reducible (exact W0 _))); clear HM; intro w1 HM
       refine hK9 _ _ (heldE HM) ?_; clear hK9 K9
       refine t_eq (i := 2) (v := ?_) [] rfl rfl rfl (by kernel_rfl) (fun _ _ _ h => h) (heldE HM) ?_ ?_; rotate_left 1; (focus ((refine y_cmpq .neq (y) (0) false (.inr rfl) (by simp [hy0]) (fy) (hf0) (x := ?_) (y := ?_) (t := ?_) ?_ ?_ ?_ ?_; rotate_left 3; (focus rfl); (focus rfl); (focus ((conv => lhs; whnf) <;> rfl)); ((conv => lhs; whnf) <;> rfl)))); ((try simp only [List.setIfInBounds_toArray]); (try simp only [List.set_cons_succ]); (try simp only [List.set_cons_zero]))
       refine wpAnyL_done (by kernel_rfl) ?_ _
       have HSX2 : Hid (SlAt 67 so ((Lk.exps U H L m n (N.take (k + 1))).map Xp.c) B) := Lib.hid (by
        rw [HST.out]
        unfold Lk.one
        rw [if_pos (by rw [← hy.out]; exact hy0), List.append_nil]
        exact HSX.out)
       have HM3 := HK.out.join HM
       clear HM
       go_wp2_with fail
       go_roundw
       case rel => exact ⟨k + 1, so, B, rfl, by go_num, by omega, HSX2, HM3.pk (by exact Pk.post _ _)⟩
       case measure => simp [intOf]; omega
      ·have HSX1 := Lk.exps_len U H L m n (N.take k)
       have hcap : (((Lk.exps U H L m n (N.take k)).map Xp.c).length + [Xp.c ⟨Lk.bs s, y⟩].length) * (280 + 1) ≤ 140737488355328 := by
        rw [List.length_take] at HSX1
        rw [List.length_map]; simp; omega
       have hone := Xp.ones [⟨Lk.bs s, y⟩]
       have HBD := fun w => Xp.build ⟨Lk.bs s, y⟩ w
       have HSX2 : Hid ((Lk.exps U H L m n (N.take (k + 1))).map Xp.c = (Lk.exps U H L m n (N.take k)).map Xp.c ++ [Xp.c ⟨Lk.bs s, y⟩]) := Lib.hid (by
        rw [HST.out, List.map_append]
        unfold Lk.one
        rw [if_neg (by rw [← hy.out]; exact hy0), ← hy.out]; rfl)
       clear HSX1
       refine start_M [] HM (by kernel_rfl) (fun w0x H9 => ?_)
       replace HM := H9; clear H9
       refine k_ld 0 [] (heldE HM) ?_
       refine j_one 1 fun K9 hK9 => ?_
       refine j_call1 (v := ?_) HM ?_ ?_; rotate_left 1; (focus (with_reducible (exact W0 _))); clear HM; intro w1 HM
       refine hK9 _ _ (heldE HM) ?_; clear hK9 K9
       refine t_eq (i := 2) (v := ?_) [] rfl rfl rfl (by kernel_rfl) (fun _ _ _ h => h) (heldE HM) ?_ ?_; rotate_left 1; (focus ((refine y_cmpq .neq (y) (0) true (.inr rfl) (by simp [hy0]) (fy) (hf0) (x := ?_) (y := ?_) (t := ?_) ?_ ?_ ?_ ?_; rotate_left 3; (focus rfl); (focus rfl); (focus ((conv => lhs; whnf) <;> rfl)); ((conv => lhs; whnf) <;> rfl)))); ((try simp only [List.setIfInBounds_toArray]); (try simp only [List.set_cons_succ]); (try simp only [List.set_cons_zero]))
       refine wpAnyL_done (by kernel_rfl) ?_ _
       have HM3 := HK.out.join HM
       clear HM
       have HM := HM3
       clear HM3
       go_wp2_with (first | first
        | ((with_reducible refine g_bld ?_); refine a_rbl ?_ (hy := h_bl2 rfl (by (conv => lhs; whnf) <;> rfl) (by (conv => lhs; whnf) <;> rfl) (HBD)))
        | ((with_reducible refine g_bs1 ?_); refine a_bs1 (c0 := Xp.c ⟨Lk.bs s, y⟩) HM ?_ (z0 := Xp.c_size _); clear HM; intro b9 w9 HM)
        | ((with_reducible refine g_app ?_); refine a_app (m := [Xp.c ⟨Lk.bs s, y⟩]) (F := fun X => X) HM HSX.out ((SlAt.made1 b9 (Xp.c_size ⟨Lk.bs s, y⟩)).rd HM (by simp)) ?_ hone (hlen := hcap); clear HM; intro s9 B9 w9 HS9 HM) | (first | ((with_reducible refine g_ld ?_); refine a_ld HM ?_) | ((with_reducible refine g_st ?_); refine a_st HM ?_; clear HM; intro w1 HM) | ((with_reducible refine g_al ?_); refine a_al HM ?_; clear HM; intro bk w1 HM) | ((with_reducible refine g_bx ?_); refine a_bx HM ?_; clear HM; intro bk w1 HM) | ((with_reducible refine g_bld ?_); refine a_bld ?_)))
       have HSX3 := Lib.hid HS9
       rw [← HSX2.out] at HSX3
       clear HS9
       go_roundw
       case rel => exact ⟨k + 1, _, B9, rfl, by go_num, by omega, HSX3, HM⟩
       case measure => simp [intOf]; omega
    ·obtain rfl : k = N.length := by omega
     have hRd : Hid (SlAt 67 so ((Lk.exps U H L m n (Lk.names L)).map Xp.c) B) := Lib.hid (by
      have h1 := HSX.out
      rw [List.take_length, hN.out] at h1
      exact h1)
     have HM9 := ((Mem.start w).call HB4.out).join HM
     rw [List.append_nil] at HM9
     clear HM
     have HM := HM9
     clear HM9
     go_wp2_with (first | ((with_reducible refine g_ld ?_); refine a_ld HM ?_) | ((with_reducible refine g_st ?_); refine a_st HM ?_; clear HM; intro w1 HM) | ((with_reducible refine g_al ?_); refine a_al HM ?_; clear HM; intro bk w1 HM) | ((with_reducible refine g_bx ?_); refine a_bx HM ?_; clear HM; intro bk w1 HM) | ((with_reducible refine g_bld ?_); refine a_bld ?_))
     go_ret2
     exact ⟨_, B, rfl, hRd, HM⟩
theorem look_any (us hs lv : Value) (U : List Int) (H : List (List Int)) (L : List (List Lk.H)) (i n : Int) (w : World) (hR : RdN w us hs U H) (hLR : RdL w lv L) (r : Int) (hr : Hid (r = Lk.lerr U H L i n)) :
    Calls Tryz.prog 8 #[.agg #[us, hs], lv, .int .i64 i, .int .i64 n] w fun e w' => ∃ s, e = .returned (.tuple #[s, .int .i64 r]) ∧ Hid (RdX w' s (Lk.xps U H L i n)) ∧ Below w.heap.size w w' := by
 refine (look_b us hs lv U H L i n w hR hLR r hr).mono ?_
 rintro e w' ⟨s, B, rfl, hs, hm⟩
 exact ⟨s, rfl, Lib.hid (hs.out.rd hm (fun p hp => hp)), hm.low⟩
end Go.Proofs.YtckhdiljihhdmaaGreat
namespace Go.Proofs.YtckhdiljihhdmaaGreat
set_option maxRecDepth 8000
open Go.RowKit
theorem rquantities_s (lv : Value) (L : List (List Lk.H)) (s : List UInt8) (w : World) (hR : RdL w lv L) (hl : L.length ≤ 8) (hv : Lk.all L = true) :
    Calls Tryz.prog 24 #[lv, .string (Lk.bs s)] w fun e w' => ∃ sv, e = .returned sv ∧ Hid (RdI w' sv (Lk.qty L s)) ∧ Below w.heap.size w w' := by
 have h := rquantities_any lv L (Lk.bs s) w hR hl hv
 rw [Lk.bs_list] at h
 exact h
theorem instruments_n (lv : Value) (L : List (List Lk.H)) (N : List (List UInt8)) (hN : Hid (N = Lk.names L)) (w : World) (hR : RdL w lv L) (hl : L.length ≤ 8) (hv : Lk.all L = true) :
    Calls Tryz.prog 21 #[lv] w fun e w' => ∃ sv, e = .returned sv ∧ Hid (RdS 1 w' sv (Ws N)) ∧ Below w.heap.size w w' := by
 obtain rfl := hN.out
 refine (instruments_any lv L w hR hl hv).mono ?_
 rintro e w' ⟨sv, rfl, h1, _, h2⟩
 exact ⟨sv, rfl, h1, h2⟩
set_option maxRecDepth 100000 in
set_option maxHeartbeats 8000000 in
theorem rlook_any (us hs lv : Value) (U : List Int) (H : List (List Int)) (L : List (List Lk.H)) (i n : Int) (w : World) (hR : RdN w us hs U H) (hLR : RdL w lv L) (r : Int) (hr : Hid (r = Lk.lerr U H L i n)) :
    Calls Tryz.prog 9 #[.agg #[us, hs], lv, .int .i64 i, .int .i64 n] w fun e w' => ∃ s, e = .returned (.tuple #[s, .int .i64 r]) ∧ Hid (RdX w' s (Lk.xps U H L i n)) ∧ Below w.heap.size w w' := by
 have HM := Mem.start w
 have HR := Lib.hid hR
 have HLR := Lib.hid hLR
 obtain ⟨c, hc⟩ : ∃ c, Hid (c = Lk.chk U H L) := ⟨_, Lib.hid rfl⟩
 have C := fun w' hB => rlcheck_any us hs lv U H L w' (hR.below hB) (hLR.below hB) c hc
 have n2 := la_nest us hs
 obtain ⟨Au, cu, rfl⟩ := hR.u.form
 obtain ⟨Al, cl, rfl⟩ := hLR.form
 have n0 := la_n0 (.slice Au U.length cu) hs
 clear hR hLR
 go_enter Tryz.func9, Tryz.ntmps9
 by_cases h0 : c = 0
 case neg =>
  have g0 : (c == 0) = false := beq_eq_false_iff_ne.2 h0
  obtain rfl : r = c := by rw [hr.out, hc.out]; exact Lk.lerr_chk (by rw [← hc.out]; exact h0)
  rw [Lk.xps_no hr.out h0]
  clear hc hr
  go_wp2_with (first | (go_at_call 13; ((with_reducible refine (C _ HM.low).mono ?_); rintro e9 w2 ⟨rfl, hL⟩; replace HM := HM.call hL; clear hL)) | (first | ((with_reducible refine g_ld ?_); refine a_ld HM ?_) | ((with_reducible refine g_st ?_); refine a_st HM ?_; clear HM; intro w1 HM) | ((with_reducible refine g_al ?_); refine a_al HM ?_; clear HM; intro bk w1 HM) | ((with_reducible refine g_bx ?_); refine a_bx HM ?_; clear HM; intro bk w1 HM) | ((with_reducible refine g_bld ?_); refine a_bld ?_)))
  go_ret2
  exact ⟨_, rfl, Lib.hid (RdX.nil _), HM.low⟩
 subst h0
 have hck : Lk.chk U H L = 0 := hc.out.symm
 obtain ⟨hG, hLU, hLA⟩ := Lk.chk_spec hck
 have hn8 := hG.sh.1
 have HCK := Lib.hid hck
 have HG := Lib.hid hG
 have HLU := Lib.hid hLU
 have HLA := Lib.hid hLA
 have hl8 : L.length ≤ 8 := by omega
 clear hc hck hG hLU hLA
 by_cases hi0 : i < 0
 ·obtain rfl : r = 340 := by rw [hr.out]; exact Lk.lerr_i HCK.out (.inl hi0)
  rw [Lk.xps_no hr.out (by decide)]
  clear hr
  go_wp2_with (first | (go_at_call 13; ((with_reducible refine (C _ HM.low).mono ?_); rintro e9 w2 ⟨rfl, hL⟩; replace HM := HM.call hL; clear hL)) | (first | ((with_reducible refine g_ld ?_); refine a_ld HM ?_) | ((with_reducible refine g_st ?_); refine a_st HM ?_; clear HM; intro w1 HM) | ((with_reducible refine g_al ?_); refine a_al HM ?_; clear HM; intro bk w1 HM) | ((with_reducible refine g_bx ?_); refine a_bx HM ?_; clear HM; intro bk w1 HM) | ((with_reducible refine g_bld ?_); refine a_bld ?_)))
  go_ret2
  exact ⟨_, rfl, Lib.hid (RdX.nil _), HM.low⟩
 have g2 : decide (i < 0) = false := decide_eq_false hi0
 by_cases hi1 : (U.length : Int) ≤ i
 ·obtain rfl : r = 340 := by rw [hr.out]; exact Lk.lerr_i HCK.out (.inr hi1)
  rw [Lk.xps_no hr.out (by decide)]
  clear hr
  go_wp2_with (first | (go_at_call 13; ((with_reducible refine (C _ HM.low).mono ?_); rintro e9 w2 ⟨rfl, hL⟩; replace HM := HM.call hL; clear hL)) | (first | ((with_reducible refine g_ld ?_); refine a_ld HM ?_) | ((with_reducible refine g_st ?_); refine a_st HM ?_; clear HM; intro w1 HM) | ((with_reducible refine g_al ?_); refine a_al HM ?_; clear HM; intro bk w1 HM) | ((with_reducible refine g_bx ?_); refine a_bx HM ?_; clear HM; intro bk w1 HM) | ((with_reducible refine g_bld ?_); refine a_bld ?_)))
  go_ret2
  exact ⟨_, rfl, Lib.hid (RdX.nil _), HM.low⟩
 obtain ⟨m, rfl⟩ : ∃ m : Nat, i = m := ⟨i.toNat, by omega⟩
 have hm : m < U.length := by omega
 have hm1 : (m : Int) < U.length := by omega
 have g3 : decide ((U.length : Int) ≤ (m : Int)) = false := decide_eq_false hi1
 obtain ⟨x, hx⟩ : ∃ x, U[m]? = some x := ⟨_, List.getElem?_eq_getElem hm⟩
 have HX := Lib.hid (Ns.gu_at hx)
 obtain ⟨b', off', cs', rfl, HB', k2⟩ := HR.out.u.at_ hx
 clear hx
 by_cases hn0 : n < 0
 ·obtain rfl : r = 253 := by rw [hr.out]; exact Lk.lerr_n HCK.out hm (.inl hn0)
  rw [Lk.xps_no hr.out (by decide)]
  clear hr
  go_wp2_with (first | (go_at_call 13; ((with_reducible refine (C _ HM.low).mono ?_); rintro e9 w2 ⟨rfl, hL⟩; replace HM := HM.call hL; clear hL)) | (first | ((with_reducible refine g_ld ?_); refine a_ld HM ?_) | ((with_reducible refine g_st ?_); refine a_st HM ?_; clear HM; intro w1 HM) | ((with_reducible refine g_al ?_); refine a_al HM ?_; clear HM; intro bk w1 HM) | ((with_reducible refine g_bx ?_); refine a_bx HM ?_; clear HM; intro bk w1 HM) | ((with_reducible refine g_bld ?_); refine a_bld ?_)))
  go_ret2
  exact ⟨_, rfl, Lib.hid (RdX.nil _), HM.low⟩
 have g4 : decide (n < 0) = false := decide_eq_false hn0
 by_cases hn1 : x < n
 ·obtain rfl : r = 253 := by rw [hr.out]; exact Lk.lerr_n HCK.out hm (.inr (by rw [HX.out]; exact hn1))
  rw [Lk.xps_no hr.out (by decide)]
  clear hr
  go_wp2_with (first | (go_at_call 13; ((with_reducible refine (C _ HM.low).mono ?_); rintro e9 w2 ⟨rfl, hL⟩; replace HM := HM.call hL; clear hL)) | (first | ((with_reducible refine g_ld ?_); refine a_ld HM ?_) | ((with_reducible refine g_st ?_); refine a_st HM ?_; clear HM; intro w1 HM) | ((with_reducible refine g_al ?_); refine a_al HM ?_; clear HM; intro bk w1 HM) | ((with_reducible refine g_bx ?_); refine a_bx HM ?_; clear HM; intro bk w1 HM) | ((with_reducible refine g_bld ?_); refine a_bld ?_)))
  go_ret2
  exact ⟨_, rfl, Lib.hid (RdX.nil _), HM.low⟩
 have hx15 : x ≤ 1000000000000000 := by rw [← HX.out]; exact HG.out.ok.u1 m hm
 have HNX : Hid (0 ≤ n ∧ n ≤ Ns.gu U m) := Lib.hid ⟨by omega, by rw [HX.out]; omega⟩
 by_cases hcc : Ns.Circ U.length (Ns.gu U) (Ns.gh H)
 ·obtain rfl : r = 351 := by rw [hr.out]; exact Lk.lerr_c HCK.out hm HNX.out.1 HNX.out.2 hcc
  rw [Lk.xps_no hr.out (by decide)]
  have K := fun w' hB => rcircle_any _ _ U H w' (HR.out.below hB) HG.out 351 (fun h => absurd hcc h) (fun _ => rfl)
  clear hr hcc
  go_wp2_with (first | (go_at_call 13; ((with_reducible refine (C _ HM.low).mono ?_); rintro e9 w2 ⟨rfl, hL⟩; replace HM := HM.call hL; clear hL)) | (go_at_call 32; ((with_reducible refine (K _ HM.low).mono ?_); rintro e9 w2 ⟨rfl, hL⟩; replace HM := HM.call hL; clear hL)) | (first | ((with_reducible refine g_ld ?_); refine a_ld HM ?_) | ((with_reducible refine g_st ?_); refine a_st HM ?_; clear HM; intro w1 HM) | ((with_reducible refine g_al ?_); refine a_al HM ?_; clear HM; intro bk w1 HM) | ((with_reducible refine g_bx ?_); refine a_bx HM ?_; clear HM; intro bk w1 HM) | ((with_reducible refine g_bld ?_); refine a_bld ?_)))
  go_ret2
  exact ⟨_, rfl, Lib.hid (RdX.nil _), HM.low⟩
 obtain rfl : r = 0 := by rw [hr.out]; exact Lk.lerr_ok HCK.out hm HNX.out.1 HNX.out.2 hcc
 rw [Lk.xps_ok HCK.out hm HNX.out.1 HNX.out.2 hcc]
 have HCC := Lib.hid hcc
 have K := fun w' hB => rcircle_any _ _ U H w' (HR.out.below hB) HG.out 0 (fun _ => rfl) (fun h => absurd h hcc)
 clear hr hcc
 have hnl := Lk.names_len HLA.out hl8
 obtain ⟨N, hN⟩ : ∃ N, Hid (N = Lk.names L) := ⟨_, Lib.hid rfl⟩
 rw [← hN.out] at hnl
 go_upto_region 13 with (first | first
  | (go_at_call 13; ((with_reducible refine (C _ HM.low).mono ?_); rintro e9 w2 ⟨rfl, hL⟩; replace HM := HM.call hL; clear hL))
  | (go_at_call 32; ((with_reducible refine (K _ HM.low).mono ?_); rintro e9 w2 ⟨rfl, hL⟩; replace HM := HM.call hL; clear hL))
  | (go_at_call 21; refine (instruments_n _ L N hN _ (HLR.out.below HM.low) hl8 HLA.out).mono ?_; rintro e9 w4 ⟨sn, rfl, HRN, hB4⟩; obtain ⟨An, cn, rfl⟩ := HRN.out.formW; replace HM := HM.call hB4; clear hB4) | (first | ((with_reducible refine g_ld ?_); refine a_ld HM ?_) | ((with_reducible refine g_st ?_); refine a_st HM ?_; clear HM; intro w1 HM) | ((with_reducible refine g_al ?_); refine a_al HM ?_; clear HM; intro bk w1 HM) | ((with_reducible refine g_bx ?_); refine a_bx HM ?_; clear HM; intro bk w1 HM) | ((with_reducible refine g_bld ?_); refine a_bld ?_)))
 obtain ⟨bn, rfl⟩ := HM.nm0
 have HBN4 := Lib.hid ((HM.get (by ((repeat (first | exact Look.here | refine Look.there ?_)); done))).rbk : Rbk _ bn #[.slice (some ⟨b', off', none⟩) U.length cu, hs])
 have HB4 := Lib.hid HM.low
 clear C K HM HB' k2
 have HR4 := Lib.hid (HR.out.below HB4.out)
 have HL4 := Lib.hid (HLR.out.below HB4.out)
 have HM := Mem.start w4
 have hf0 : Rt.Fit (0 : Rat) := Rt.fit_zero
 obtain ⟨zn, hzn⟩ : ∃ zn : Rat, Hid (zn = (n : Rat)) := ⟨_, Lib.hid rfl⟩
 have fzn : Rt.Fit zn := by rw [hzn.out]; exact Lk.int_fit (by omega)
 have W1 := fun w => int_ex n zn (by omega) (by omega) hzn w
 have zr := Ex.za
 have ele : elemB 29 52 67 280 = true := by kernel_rfl
 go_wp2_with (first | ((with_reducible refine g_ld ?_); refine a_ld HM ?_) | ((with_reducible refine g_st ?_); refine a_st HM ?_; clear HM; intro w1 HM) | ((with_reducible refine g_al ?_); refine a_al HM ?_; clear HM; intro bk w1 HM) | ((with_reducible refine g_bx ?_); refine a_bx HM ?_; clear HM; intro bk w1 HM) | ((with_reducible refine g_bld ?_); refine a_bld ?_))
 go_loopw [12, 14] (fun ov kv wr => ∃ (k : Nat) (so : Value) (B : List (Nat × Array Value)), so = ov ∧ kv = .int .i64 (k : Nat) ∧ k ≤ N.length ∧ Hid (SlAt 67 so ((Lk.exps U H L m n (N.take k)).map Xp.c) B) ∧ Mem w4 [] B wr) (fun _ kv _ => N.length - (intOf kv).toNat)
 case atStart => exact ⟨0, _, [], rfl, rfl, by omega, Lib.hid SlAt.nil, HM⟩
 case round =>
  clear HM
  obtain ⟨k, so, B, rfl, rfl, hk, HSX, HM⟩ := hrel
  by_cases hkt : k < N.length
  ·have hkt1 : (k : Int) < N.length := by omega
   obtain ⟨s, hs⟩ : ∃ s, N[k]? = some s := ⟨_, List.getElem?_eq_getElem hkt⟩
   obtain ⟨b3, off3, cs3, rfl, HB3, k3⟩ := HRN.out.atW hs
   have HST := Lib.hid (Lk.exps_step (U := U) (Hs := H) (L := L) (i := m) (n := n) hs)
   obtain ⟨f, hf, he⟩ := Lk.px HG.out HCC.out HLU.out HLA.out s
   obtain ⟨y, hy⟩ : ∃ y, Hid (y = Lk.ex U H L m n s) := ⟨_, Lib.hid rfl⟩
   have fy : Rt.Fit y := by rw [hy.out]; exact Lk.ex_fit HG.out HCC.out HLU.out HLA.out hm HNX.out.1 HNX.out.2 s
   obtain ⟨fm, hfm⟩ : ∃ fm, Hid (fm = f m) := ⟨_, Lib.hid rfl⟩
   have ffm : Rt.Fit fm := by rw [hfm.out]; exact hf.2 m hm
   have M1 := fun w => mul_ex (.ok zn) (.ok fm) fzn ffm (.ok y) (Lib.hid (by
    have e : y = zn * fm := by rw [hy.out, hzn.out, hfm.out, Lk.pr_eq HG.out HCC.out hf hm]; rfl
    show _ = Ex.mk (zn * fm)
    rw [← e, Ex.mk_ok fy])) w
   have hla := HLA.out
   clear hs
   go_upto_region 16 with (first | ((with_reducible refine g_ld ?_); refine a_ld HM ?_) | ((with_reducible refine g_st ?_); refine a_st HM ?_; clear HM; intro w1 HM) | ((with_reducible refine g_al ?_); refine a_al HM ?_; clear HM; intro bk w1 HM) | ((with_reducible refine g_bx ?_); refine a_bx HM ?_; clear HM; intro bk w1 HM) | ((with_reducible refine g_bld ?_); refine a_bld ?_))
   refine start_M [] HM (by kernel_rfl) (fun w0x H9 => ?_)
   replace HM := H9; clear H9
   refine k_ld 0 [] (heldF HM) ?_
   refine k_mv 1 (heldF HM) ?_
   refine k_mv 2 (heldF HM) ?_
   refine k_mv 3 (heldF HM) ?_
   refine k_ia 4 (heldF HM) ?_
   refine k_ld 5 [] (heldF HM) ?_
   refine j_one 6 fun K9 hK9 => ?_
   refine o_callg (rquantities_s _ L s _ (HL4.out.below HM.low) hl8 hla) rfl ?_ ?_; (focus (refine h_call2 (ts := ?_) (x1 := ?_) (x2 := ?_) ?_ (by kernel_rfl) ?_ ?_; rotate_left 3; (focus rfl); (focus rfl); rfl)); rintro e9 w5 ⟨sq, rfl, HQ, hL⟩; replace HM := HM.call hL; clear hL; refine ⟨_, rfl, ?_⟩
   refine hK9 _ _ (heldF HM) ?_; clear hK9 K9; ((try simp only [List.setIfInBounds_toArray]); (try simp only [List.set_cons_succ]); (try simp only [List.set_cons_zero]))
   refine j_one 7 fun K9 hK9 => ?_
   refine o_callg (rSolve_f _ _ _ U H (Lk.qty L s) f _ (HR4.out.below HM.low) HQ.out he hf) rfl ?_ ?_; (focus (refine h_call2 (ts := ?_) (x1 := ?_) (x2 := ?_) ?_ (by kernel_rfl) ?_ ?_; rotate_left 3; (focus rfl); (focus rfl); rfl)); rintro e9 w6 ⟨sp, rfl, hL, HP⟩; replace HM := HM.call hL; clear hL; refine ⟨_, rfl, ?_⟩
   refine hK9 _ _ (heldF HM) ?_; clear hK9 K9; ((try simp only [List.setIfInBounds_toArray]); (try simp only [List.set_cons_succ]); (try simp only [List.set_cons_zero]))
   refine k_mv 8 (heldF HM) ?_
   refine k_ext 9 (heldF HM) ?_
   refine k_ext 10 (heldF HM) ?_
   refine k_mv 11 (heldF HM) ?_
   refine k_mv 12 (heldF HM) ?_
   refine wpAnyL_done (by kernel_rfl) ?_ _
   obtain ⟨Ap, cp, rfl⟩ := HP.out.form66
   obtain ⟨bp, op, csp, rfl, HBP, kp⟩ := HP.out.at66 hm
   rw [← hfm.out] at kp
   have HB36 := Lib.hid (HB3.out.below HM.low HB3.out.lt)
   clear HP he hf hla
   have HK := Lib.hid HM
   replace HM := Mem.start w6
   have sy := Ex.sa0 y
   have ly := Ex.laA y
   have lv := Ex.lav y
   have le := Ex.lae y
   have O1 := fun w => of_ex fm w
   go_upto_region 17 with (first | ((with_reducible refine g_ld ?_); refine a_ld HM ?_) | ((with_reducible refine g_st ?_); refine a_st HM ?_; clear HM; intro w1 HM) | ((with_reducible refine g_al ?_); refine a_al HM ?_; clear HM; intro bk w1 HM) | ((with_reducible refine g_bx ?_); refine a_bx HM ?_; clear HM; intro bk w1 HM) | ((with_reducible refine g_bld ?_); refine a_bld ?_))
   go_cut [17] (fun p wc => ∃ b17, p = .pointer (some ⟨b17, 0, none⟩) ∧ Mem w6 [] [(b17, Ex.A (.ok y))] wc)
   case first =>
    refine start_M [9] HM (by kernel_rfl) (fun w0x H9 => ?_)
    replace HM := H9; clear H9
    refine k_mv 0 (heldE HM) ?_
    refine k_mv 2 (heldE HM) ?_
    refine k_mv 3 (heldE HM) ?_
    refine k_ia 4 (heldE HM) ?_
    refine k_ld 5 [6, 7, 9] (heldE HM) ?_
    refine j_two 1 8 ?_ ?_
    ·refine j_call1 (v := ?_) HM ?_ ?_; rotate_left 1; (focus (with_reducible (first | exact W1 _ | exact O1 _ | exact M1 _))); clear HM; intro w1 HM
     refine ⟨(heldE HM), ?_⟩
     refine j_two 6 8 ?_ ?_
     ·refine j_call1 (v := ?_) HM ?_ ?_; rotate_left 1; (focus (with_reducible (first | exact W1 _ | exact O1 _ | exact M1 _))); clear HM; intro w1 HM
      refine ⟨(heldE HM), ?_⟩
      refine j_two 7 8 ?_ ?_
      ·refine j_call2 (v := ?_) HM ?_ ?_; rotate_left 1; (focus (with_reducible (first | exact W1 _ | exact O1 _ | exact M1 _))); clear HM; intro w1 HM
       refine ⟨(heldE HM), ?_⟩
       refine j_one 8 fun K9 hK9 => ?_
       refine j_al HM ?_; clear HM; intro bk w1 HM
       refine hK9 _ _ (heldE HM) ?_; clear hK9 K9
       refine j_one 9 fun K9 hK9 => ?_
       refine j_st HM ?_; clear HM; intro w1 HM
       refine hK9 _ _ heldN ?_; clear hK9 K9
       refine wpAnyL_done (by kernel_rfl) ?_ _
       (go_wp2_with fail; go_meet; (case rel => exact ⟨_, rfl, HM.pick⟩))
      ·refine j_al HM ?_; clear HM; intro bk w1 HM
       refine ⟨(heldE HM), ?_⟩
       refine j_one 7 fun K9 hK9 => ?_
       refine j_call2 (v := ?_) HM ?_ ?_; rotate_left 1; (focus (with_reducible (first | exact W1 _ | exact O1 _ | exact M1 _))); clear HM; intro w1 HM
       refine hK9 _ _ (heldE HM) ?_; clear hK9 K9
       refine j_one 9 fun K9 hK9 => ?_
       refine j_st HM ?_; clear HM; intro w1 HM
       refine hK9 _ _ heldN ?_; clear hK9 K9
       refine wpAnyL_done (by kernel_rfl) ?_ _
       (go_wp2_with fail; go_meet; (case rel => exact ⟨_, rfl, HM.pick⟩))
     ·refine j_al HM ?_; clear HM; intro bk w1 HM
      refine ⟨(heldE HM), ?_⟩
      refine j_one 6 fun K9 hK9 => ?_
      refine j_call1 (v := ?_) HM ?_ ?_; rotate_left 1; (focus (with_reducible (first | exact W1 _ | exact O1 _ | exact M1 _))); clear HM; intro w1 HM
      refine hK9 _ _ (heldE HM) ?_; clear hK9 K9
      refine j_one 7 fun K9 hK9 => ?_
      refine j_call2 (v := ?_) HM ?_ ?_; rotate_left 1; (focus (with_reducible (first | exact W1 _ | exact O1 _ | exact M1 _))); clear HM; intro w1 HM
      refine hK9 _ _ (heldE HM) ?_; clear hK9 K9
      refine j_one 9 fun K9 hK9 => ?_
      refine j_st HM ?_; clear HM; intro w1 HM
      refine hK9 _ _ heldN ?_; clear hK9 K9
      refine wpAnyL_done (by kernel_rfl) ?_ _
      (go_wp2_with fail; go_meet; (case rel => exact ⟨_, rfl, HM.pick⟩))
    ·refine j_al HM ?_; clear HM; intro bk w1 HM
     refine ⟨(heldE HM), ?_⟩
     refine j_one 1 fun K9 hK9 => ?_
     refine j_call1 (v := ?_) HM ?_ ?_; rotate_left 1; (focus (with_reducible (first | exact W1 _ | exact O1 _ | exact M1 _))); clear HM; intro w1 HM
     refine hK9 _ _ (heldE HM) ?_; clear hK9 K9
     refine j_one 6 fun K9 hK9 => ?_
     refine j_call1 (v := ?_) HM ?_ ?_; rotate_left 1; (focus (with_reducible (first | exact W1 _ | exact O1 _ | exact M1 _))); clear HM; intro w1 HM
     refine hK9 _ _ (heldE HM) ?_; clear hK9 K9
     refine j_one 7 fun K9 hK9 => ?_
     refine j_call2 (v := ?_) HM ?_ ?_; rotate_left 1; (focus (with_reducible (first | exact W1 _ | exact O1 _ | exact M1 _))); clear HM; intro w1 HM
     refine hK9 _ _ (heldE HM) ?_; clear hK9 K9
     refine j_one 9 fun K9 hK9 => ?_
     refine j_st HM ?_; clear HM; intro w1 HM
     refine hK9 _ _ heldN ?_; clear hK9 K9
     refine wpAnyL_done (by kernel_rfl) ?_ _
     (go_wp2_with fail; go_meet; (case rel => exact ⟨_, rfl, HM.pick⟩))
   case rest =>
    clear HM
    obtain ⟨b17, rfl, HM⟩ := hcut
    go_step
    by_cases hy0 : y = 0
    ·have S1 := fun w => sign_ex y 0 fy (Lib.hid (by rw [hy0]; rfl)) w
     have HSX2 : Hid (SlAt 67 so ((Lk.exps U H L m n (N.take (k + 1))).map Xp.c) B) := Lib.hid (by
      rw [HST.out]
      unfold Lk.one
      rw [if_pos (by rw [← hy.out]; exact hy0), List.append_nil]
      exact HSX.out)
     clear hy0
     go_wp2_with (first | (go_at_call 35; ((with_reducible refine (S1 _).mono ?_); rintro e9 w2 ⟨rfl, hL⟩; replace HM := HM.call hL; clear hL)) | (first | ((with_reducible refine g_ld ?_); refine a_ld HM ?_) | ((with_reducible refine g_st ?_); refine a_st HM ?_; clear HM; intro w1 HM) | ((with_reducible refine g_al ?_); refine a_al HM ?_; clear HM; intro bk w1 HM) | ((with_reducible refine g_bx ?_); refine a_bx HM ?_; clear HM; intro bk w1 HM) | ((with_reducible refine g_bld ?_); refine a_bld ?_)))
     have HM3 := HK.out.join HM
     clear HM
     go_roundw
     case rel => exact ⟨k + 1, so, B, rfl, by go_num, by omega, HSX2, HM3.pk (by exact Pk.post _ _)⟩
     case measure => simp [intOf]; omega
    ·have HSX1 := Lk.exps_len U H L m n (N.take k)
     obtain ⟨sg, hsg⟩ : ∃ sg, Hid (sg = y.num.sign) := ⟨_, Lib.hid rfl⟩
     have g9 : (sg != 0) = true := by
      rw [hsg.out]
      simp only [bne_iff_ne, ne_eq, Int.sign_eq_zero_iff_zero]
      intro h
      exact hy0 (Rat.num_eq_zero.1 h)
     have g10 : (sg == 0) = false := by
      have := g9
      simpa using this
     have S1 := fun w => sign_ex y sg fy hsg w
     have hcap : (((Lk.exps U H L m n (N.take k)).map Xp.c).length + [Xp.c ⟨Lk.bs s, y⟩].length) * (280 + 1) ≤ 140737488355328 := by
      rw [List.length_take] at HSX1
      rw [List.length_map]; simp; omega
     have hone := Xp.ones [⟨Lk.bs s, y⟩]
     have HBD := fun w => Xp.build ⟨Lk.bs s, y⟩ w
     have HSX2 : Hid ((Lk.exps U H L m n (N.take (k + 1))).map Xp.c = (Lk.exps U H L m n (N.take k)).map Xp.c ++ [Xp.c ⟨Lk.bs s, y⟩]) := Lib.hid (by
      rw [HST.out, List.map_append]
      unfold Lk.one
      rw [if_neg (by rw [← hy.out]; exact hy0), ← hy.out]; rfl)
     clear HSX1 hy0
     go_upto_region 21 with (first | (go_at_call 35; ((with_reducible refine (S1 _).mono ?_); rintro e9 w2 ⟨rfl, hL⟩; replace HM := HM.call hL; clear hL)) | (first | ((with_reducible refine g_ld ?_); refine a_ld HM ?_) | ((with_reducible refine g_st ?_); refine a_st HM ?_; clear HM; intro w1 HM) | ((with_reducible refine g_al ?_); refine a_al HM ?_; clear HM; intro bk w1 HM) | ((with_reducible refine g_bx ?_); refine a_bx HM ?_; clear HM; intro bk w1 HM) | ((with_reducible refine g_bld ?_); refine a_bld ?_)))
     have HM9 : Mem w4 [] ((b17, Ex.A (.ok y)) :: B) _ := HK.out.join HM
     clear HM
     have HM := HM9
     clear HM9
     refine start_M2 [] HM ((Sub.keep Sub.nil)) (by kernel_rfl) (fun w0x H9 => ?_)
     replace HM := H9; clear H9
     refine k_mv 0 (heldF HM) ?_
     refine k_mv 1 (heldF HM) ?_
     refine k_mv 2 (heldF HM) ?_
     refine k_ia 3 (heldF HM) ?_
     refine k_ld 4 [] (heldF HM) ?_
     refine k_fa 5 (heldF HM) ?_
     refine k_ld 6 [] (heldF HM) ?_
     refine t_pure (i := 7) (v := .agg (Xp.c ⟨Lk.bs s, y⟩)) rfl rfl (by kernel_rfl) (fun _ _ _ h => h) (heldF HM) (by rfl) ?_ ?_; (focus (exact h_bl2 rfl (by (conv => lhs; whnf) <;> rfl) (by (conv => lhs; whnf) <;> rfl) HBD)); ((try simp only [List.setIfInBounds_toArray]); (try simp only [List.set_cons_succ]); (try simp only [List.set_cons_zero]))
     refine j_one 8 fun K9 hK9 => ?_
     refine j_bs1 (c0 := Xp.c ⟨Lk.bs s, y⟩) HM ?_ (z0 := Xp.c_size _); clear HM; intro b9 w9 HM
     refine hK9 _ _ (heldF HM) ?_; clear hK9 K9; ((try simp only [List.setIfInBounds_toArray]); (try simp only [List.set_cons_succ]); (try simp only [List.set_cons_zero]))
     refine j_one 9 fun K9 hK9 => ?_
     refine j_app (m := [Xp.c ⟨Lk.bs s, y⟩]) (F := fun X => (b17, Ex.A (.ok y)) :: X) HM HSX.out ((SlAt.made1 b9 (Xp.c_size ⟨Lk.bs s, y⟩)).rd HM (by simp)) ?_ hone (hlen := hcap); clear HM; intro s9 B9 w9 HS9 HM
     refine hK9 _ _ (heldF HM) ?_; clear hK9 K9; ((try simp only [List.setIfInBounds_toArray]); (try simp only [List.set_cons_succ]); (try simp only [List.set_cons_zero]))
     refine k_mv 10 (heldF HM) ?_
     refine wpAnyL_done (by kernel_rfl) ?_ _
     ((have HSX3 := Lib.hid HS9); rw [← HSX2.out] at HSX3; clear HS9; go_wp2_with fail; go_roundw; (case rel => exact ⟨k + 1, _, B9, rfl, by go_num, by omega, HSX3, HM.tail⟩); (case measure => simp [intOf]; omega))
  ·obtain rfl : k = N.length := by omega
   have hRd : Hid (RdX wr so (Lk.exps U H L m n (Lk.names L))) := Lib.hid (by
    have h1 := HSX.out.rd HM (fun p hp => hp)
    rw [List.take_length, hN.out] at h1
    exact h1)
   go_wp2_with (first | ((with_reducible refine g_ld ?_); refine a_ld HM ?_) | ((with_reducible refine g_st ?_); refine a_st HM ?_; clear HM; intro w1 HM) | ((with_reducible refine g_al ?_); refine a_al HM ?_; clear HM; intro bk w1 HM) | ((with_reducible refine g_bx ?_); refine a_bx HM ?_; clear HM; intro bk w1 HM) | ((with_reducible refine g_bld ?_); refine a_bld ?_))
   go_ret2
   exact ⟨_, rfl, hRd, below_seq HB4.out HM.low⟩
end Go.Proofs.YtckhdiljihhdmaaGreat
