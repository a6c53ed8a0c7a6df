/- Walks. -/
import Derived.Test.YtkiempioeffhbaaGreatDoorPt17
namespace Go.Proofs.YtkiempioeffhbaaGreatDoor
set_option maxHeartbeats 16000000
open Go.RowKit
set_option maxRecDepth 8000
section
theorem z9_71 {P : Prop} (h : P := by
 have HW := Zi hW
 clear hW ezn hT
 go_enter Tryz.func179, Tryz.ntmps179
 go_wp2_with (first | ((first | (go_at_call 209; with_reducible refine (AB _).mono ?_) | (go_at_call 208; with_reducible refine (FM _).mono ?_)); rintro e9 w2 ⟨rfl, hL⟩; replace HM := HM.call hL; clear hL) | ((with_reducible refine g_ld ?_); refine a_ld HM ?_) | ((with_reducible refine g_bx ?_); refine a_bx HM ?_; clear HM; intro bk w1 HM))
 obtain ⟨b2, rfl⟩ := HM.nm0
 go_loopw [5] (fun s wr => ∃ T : ByteArray, s = .string T ∧ T.size ≤ 309 ∧ 0 < T.size ∧ Hid (Ac.Pad T0 T) ∧ Mem w [] [(b2, Bg.zA l)] wr) (fun s _ => match s with | .string T => 10 - T.size | _ => 0)
 case atStart => exact ⟨T0, rfl, hT0.2, by omega, Zi ⟨HW.out.dg, .inl rfl⟩, HM⟩
 case round =>
  clear HM
  obtain ⟨T, rfl, hT9, hTp, HP, HM⟩ := hrel
  by_cases h6 : T.size ≤ 6
  ·have h6i : (T.size : Int) ≤ 6 := by omega
   have hsz : (({ data := #[48] } : ByteArray) ++ T).size = 1 + T.size := by rw [ByteArray.size_append]; rfl
   have HP2 := Zi (HP.out.step h6)
   go_wp2_with fail
   go_roundw
   case rel => exact ⟨_, rfl, by rw [hsz]; omega, by rw [hsz]; omega, HP2, HM⟩
   case measure => show 10 - (({ data := #[48] } : ByteArray) ++ T).size < 10 - T.size; rw [hsz]; omega
  ·obtain ⟨m, hm⟩ : ∃ m, T.size = m + 6 := ⟨T.size - 6, by omega⟩
   have h6i : ¬ (T.size : Int) ≤ 6 := by omega
   obtain ⟨-, p1, p2⟩ := point6 T m hm
   have HD := Zi (HP.out.done HW.out hm Zo)
   clear h6
   go_upto_region 5 with fail
   refine start_M [] HM Zk (fun w0x H9 => ?_)
   replace HM := H9; clear H9
   refine k_mv 0 (heldE HM) ?_
   refine k_mv 1 (heldE HM) ?_
   refine k_pv 2 (heldE HM) ?_
   refine k_mv 3 (heldE HM) ?_
   refine k_sub 4 (heldE HM) ?_
   refine t_pure (i := 5) (v := .string (T.extract 0 m)) rfl rfl Zk (fun _ _ _ h => h) (heldE HM) (by rfl) ?_ ?_; (focus ((intro w9; first | (go_simp; done) | (go_simp; rfl) | (go_simp; intro h9; omega)))); ((try simp only [Za]); (try simp only [Zx]); (try simp only [Zy]))
   refine t_pure (i := 6) (v := .string (T.extract 0 m ++ { data := #[46] })) rfl rfl Zk (fun _ _ _ h => h) (heldE HM) (by rfl) ?_ ?_; (focus ((intro w9; first | (go_simp; done) | (go_simp; rfl) | (go_simp; intro h9; omega) | (go_simp; omega) | (go_simp; rw [if_neg (by simp only [ByteArray.size_append]; omega)])))); ((try simp only [Za]); (try simp only [Zx]); (try simp only [Zy]))
   refine k_mv 7 (heldE HM) ?_
   refine k_mv 8 (heldE HM) ?_
   refine k_pv 9 (heldE HM) ?_
   refine k_mv 10 (heldE HM) ?_
   refine k_sub 11 (heldE HM) ?_
   refine t_pure (i := 12) (v := .string (T.extract m (m + 6))) rfl rfl Zk (fun _ _ _ h => h) (heldE HM) (by rfl) ?_ ?_; (focus ((intro w9; first | (go_simp; done) | (go_simp; rfl) | (go_simp; intro h9; omega)))); ((try simp only [Za]); (try simp only [Zx]); (try simp only [Zy]))
   refine t_pure (i := 13) (v := .string (T.extract 0 m ++ { data := #[46] } ++ T.extract m (m + 6))) rfl rfl Zk (fun _ _ _ h => h) (heldE HM) (by rfl) ?_ ?_; (focus ((intro w9; first | (go_simp; done) | (go_simp; rfl) | (go_simp; intro h9; omega) | (go_simp; omega) | (go_simp; rw [if_neg (by simp only [ByteArray.size_append]; omega)])))); ((try simp only [Za]); (try simp only [Zx]); (try simp only [Zy]))
   refine k_mv 14 (heldE HM) ?_
   refine wpAnyL_done Zk ?_ _
   have hsl : (T.extract 0 m ++ ({ data := #[46] } : ByteArray) ++ T.extract m (m + 6)).size ≤ 400 := by
    rw [ByteArray.size_append, ByteArray.size_append, p1, p2]
    show m + 1 + 6 ≤ 400
    omega
   generalize T.extract 0 m ++ ({ data := #[46] } : ByteArray) ++ T.extract m (m + 6) = s at *
   go_wp2_with (first | (go_at_call 123; (with_reducible refine Zc HM (SG _) ?_; clear HM; intro w2 HM)) | ((with_reducible refine g_ld ?_); refine a_ld HM ?_))
   go_ret
   exact ⟨⟨_, rfl, HD, hsl⟩, HM.low⟩) : P := h
end
section
theorem Ac.txt_wh {N : Nat} (h : N < Bg.lim) : Ac.Wh (Tx.ns (Tx.txt false N)) := by
 have hs := Tx.txt_size h
 have hl := Tx.ns_len (Tx.txt false N)
 refine ⟨?_, by omega, ?_, by omega⟩
 ·unfold Tx.txt
  by_cases h0 : N = 0
  ·rw [if_pos h0, Tx.ns_str _ Zd]
   intro c hc
   rw [List.mem_singleton.1 hc]; decide
  ·rw [if_neg h0, if_neg Bool.false_ne_true]
   have hd : ∀ c ∈ (Tx.dig N).reverse, c < 10 := fun c hc => Tx.dig_lt N c (by simpa using hc)
   rw [Tx.ns_str _ hd]
   intro c hc
   obtain ⟨d, hd2, rfl⟩ := List.mem_map.1 hc
   have := hd d hd2
   exact ⟨by omega, by omega⟩
 ·intro h1 h2
  by_cases h0 : N = 0
  ·rw [hl, h0] at h1
   exact absurd h1 Zd
  ·unfold Tx.txt at h2
   rw [if_neg h0, if_neg Bool.false_ne_true] at h2
   have hd : ∀ c ∈ (Tx.dig N).reverse, c < 10 := fun c hc => Tx.dig_lt N c (by simpa using hc)
   rw [Tx.ns_str _ hd] at h2
   obtain ⟨c, l, e, hc⟩ := Tx.dig_head h0
   rw [e] at h2
   have h3 : c + 48 = 48 := by injection h2
   exact hc Zo
structure Ac.Wr (s : ByteArray) (n : Nat) : Prop where
 ex : ∃ W F, Tx.ns s = W ++ 46 :: F ∧ Ac.Wh W ∧ W.length = n ∧ Ac.Dgs F ∧ F.length ≤ 6
theorem Ac.dgs_take {L : List Nat} (h : Ac.Dgs L) (k : Nat) : Ac.Dgs (L.take k) := fun c hc => h c (List.mem_of_mem_take hc)
theorem Ac.dgs_drop {L : List Nat} (h : Ac.Dgs L) (k : Nat) : Ac.Dgs (L.drop k) := fun c hc => h c (List.mem_of_mem_drop hc)
def Ac.Pad (T0 T : ByteArray) : Prop := Ac.Dgs (Tx.ns T) ∧ (T = T0 ∨ (T.size ≤ 7 ∧ T0.size ≤ 6))
theorem Ac.Pad.step {T0 T : ByteArray} (h : Ac.Pad T0 T) (h6 : T.size ≤ 6) : Ac.Pad T0 (({ data := #[48] } : ByteArray) ++ T) := by
 refine ⟨?_, .inr ⟨?_, ?_⟩⟩
 ·rw [Tx.ns_app]
  intro c hc
  rcases List.mem_append.1 hc with hc | hc
  ·have : c = 48 := List.mem_singleton.1 hc
   subst this; decide
  ·exact h.1 c hc
 ·rw [ByteArray.size_append]
  show 1 + T.size ≤ 7
  omega
 ·rcases h.2 with rfl | ⟨_, h2⟩
  ·exact h6
  ·exact h2
theorem Ac.Pad.done {T0 T : ByteArray} {m : Nat} (h : Ac.Pad T0 T) (h0 : Ac.Wh (Tx.ns T0)) (hm : T.size = m + 6) (hm0 : 0 < m) : Ac.Wr (T.extract 0 m ++ ({ data := #[46] } : ByteArray) ++ T.extract m (m + 6)) (Ac.wl T0.size) := by
 have hl := Tx.ns_len T
 refine ⟨(Tx.ns T).take m, (Tx.ns T).drop m, ?_, ⟨Ac.dgs_take h.1 m, ?_, ?_, ?_⟩, ?_, Ac.dgs_drop h.1 m, ?_⟩
 ·rw [Tx.ns_app, Tx.ns_app, Tx.ns_ext, Tx.ns_ext, List.drop_zero, List.take_of_length_le (by omega : (Tx.ns T).length ≤ m + 6), List.append_assoc]; rfl
 ·rw [List.length_take]; omega
 ·intro h1
  rw [List.length_take] at h1
  rcases h.2 with rfl | ⟨h7, _⟩
  ·rw [List.getElem?_take_of_lt Zo]
   exact h0.top Zo
  ·omega
 ·rw [List.length_take]
  have := h0.len
  have hl0 := Tx.ns_len T0
  rcases h.2 with rfl | ⟨h7, _⟩ <;> omega
 ·rw [List.length_take]
  unfold Ac.wl
  rcases h.2 with rfl | ⟨h7, h8⟩
  ·rw [if_neg Zo]; omega
  ·rw [if_pos h8]; omega
 ·rw [List.length_drop]; omega
theorem written_any (l : Int) (T0 : ByteArray) (hl : l.natAbs < Bg.lim) (h0 : 0 ≤ l) (hT : Hid (T0 = Tx.txt false l.natAbs)) (w : World) :
    Calls Tryz.prog 179 #[.agg (Bg.zA l), .int .i64 6] w fun e w' => (∃ s : ByteArray, e = .returned (.string s) ∧ Hid (Ac.Wr s (Ac.wl T0.size)) ∧ s.size ≤ 400) ∧ Below w.heap.size w w' := by
 have HM := Mem.start w
 have k0 := la_z l
 have hT0 := Tx.txt_size hl
 have hW := Ac.txt_wh hl
 have FM := fun w => rbformat_any false l.natAbs hl w
 have ezn : Bg.intA false l.natAbs = Bg.zA l := by rw [zA_int, Zf Zo]
 rw [ezn, ← hT.out] at FM
 rw [← hT.out] at hT0 hW
 have AB := fun w => rabs_z l l hl (Zi Zo) w
 obtain ⟨g, hg⟩ := Zh (l.sign)
 have SG := fun w => rsign_z l g hl hg w
 have hg0 : ¬ g < 0 := by
  rw [hg.out]
  rcases Int.lt_trichotomy l 0 with h | h | h
  ·omega
  ·rw [h]; decide
  ·rw [Int.sign_eq_one_of_pos h]; decide
 exact z9_71
end
section
theorem z9_72 {P : Prop} (h : P := by
 have h48i : (((T[q].toNat : Nat) : Int) == 48) = true := by rw [h48]; rfl
 have HS2 := Zi (HS.out.trim hq (fun _ => h48))
 have hsz : (T.extract 0 q).size = q := by rw [ByteArray.size_extract]; omega
 clear h48
 go_wp2_with fail
 go_roundw
 case rel => exact ⟨_, rfl, by rw [hsz]; omega, HS2, HM⟩
 case measure => show (T.extract 0 q).size < T.size; rw [hsz]; omega) : P := h
end
section
theorem Ac.Wr.size {s : ByteArray} {n : Nat} (h : Ac.Wr s n) : 0 < s.size := by
 obtain ⟨W, F, e, _⟩ := h.ex
 rw [Ac.dgs_len e, List.length_append, List.length_cons]; omega
theorem Ac.ns_last {s : ByteArray} {L : List Nat} {c q : Nat} (h : Tx.ns s = L ++ [c]) (hq : s.size = q + 1) : (∃ h : q < s.size, s[q].toNat = c) ∧ Tx.ns (s.extract 0 q) = L := by
 have hl := Ac.dgs_len h
 rw [List.length_append, List.length_singleton] at hl
 have hL : L.length = q := by omega
 refine ⟨Tx.ns_at h (by rw [← hL, List.getElem?_append_right (Nat.le_refl _), Nat.sub_self]; rfl), ?_⟩
 rw [Tx.ns_ext, h, List.drop_zero, ← hL, List.take_left]
theorem Ac.Wr.trim {s : ByteArray} {n q : Nat} (h : Ac.Wr s n) (hq : s.size = q + 1) (h48 : ∀ h : q < s.size, s[q].toNat = 48) : Ac.Wr (s.extract 0 q) n := by
 obtain ⟨W, F, e, hW, hn, hF, hF6⟩ := h.ex
 rcases List.eq_nil_or_concat F with rfl | ⟨G, c, rfl⟩
 ·obtain ⟨⟨h1, h2⟩, _⟩ := Ac.ns_last (L := W) (c := 46) (by rw [e]) hq
  have := h48 h1
  omega
 ·rw [List.concat_eq_append] at *
  obtain ⟨_, h3⟩ := Ac.ns_last (L := W ++ 46 :: G) (c := c) (by rw [e]; simp) hq
  rw [List.length_append] at hF6
  exact ⟨W, G, h3, hW, hn, fun d hd => hF d (List.mem_append_left _ hd), by omega⟩
structure Ac.Rd (s : ByteArray) (W R : List Nat) (n : Nat) : Prop where
 eq : Tx.ns s = W ++ R
 wh : Ac.Wh W
 len : W.length = n
 rest : R = [] ∨ ∃ F, R = 46 :: F ∧ Ac.Dgs F ∧ 0 < F.length ∧ F.length ≤ 6
theorem Ac.Wr.dot {s : ByteArray} {n q : Nat} (h : Ac.Wr s n) (hq : s.size = q + 1) (h46 : ∀ h : q < s.size, s[q].toNat = 46) : ∃ W R, Ac.Rd (s.extract 0 q) W R n := by
 obtain ⟨W, F, e, hW, hn, hF, hF6⟩ := h.ex
 rcases List.eq_nil_or_concat F with rfl | ⟨G, c, rfl⟩
 ·obtain ⟨_, h3⟩ := Ac.ns_last (L := W) (c := 46) (by rw [e]) hq
  exact ⟨W, [], by rw [h3, List.append_nil], hW, hn, .inl rfl⟩
 ·rw [List.concat_eq_append] at *
  obtain ⟨⟨h1, h2⟩, _⟩ := Ac.ns_last (L := W ++ 46 :: G) (c := c) (by rw [e]; simp) hq
  have h3 := h46 h1
  have h4 := hF c Zs
  have := h4.1
  omega
theorem Ac.Wr.nodot {s : ByteArray} {n q : Nat} (h : Ac.Wr s n) (hq : s.size = q + 1) (h46 : ∀ h : q < s.size, s[q].toNat ≠ 46) : ∃ W R, Ac.Rd s W R n := by
 obtain ⟨W, F, e, hW, hn, hF, hF6⟩ := h.ex
 refine ⟨W, 46 :: F, e, hW, hn, .inr ⟨F, rfl, hF, ?_, hF6⟩⟩
 rcases List.eq_nil_or_concat F with rfl | ⟨G, c, rfl⟩
 ·obtain ⟨⟨h1, h2⟩, _⟩ := Ac.ns_last (L := W) (c := 46) (by rw [e]) hq
  exact absurd h2 (h46 h1)
 ·rw [List.concat_eq_append]; simp
theorem rtext_any (x : Rat) (hx : Rt.Fit x) (h0 : 0 ≤ x.num) (w : World) :
    Calls Tryz.prog 156 #[.agg (Rt.qA x), .int .i64 6] w fun r w' => (∃ (s : ByteArray) (e : Int), r = .returned (.tuple #[.string s, .int .i64 e]) ∧ Hid (Ac.Yes e (Ac.Txt x)) ∧ s.size ≤ 1000) ∧ Below w.heap.size w w' := by
 have HM := Mem.start w
 have zr := za_rat
 have zi := za_int
 have k0 := la_q x
 have h0x : 0 ≤ x := Rat.num_nonneg.1 h0
 have hlo := Ac.lim_of (Ac.lo_lim hx (n := 6) Zd) (show 511 ≤ 1024 by decide)
 have hl0 : 0 ≤ Ac.lo x 6 := Int.ediv_nonneg (Int.mul_nonneg h0 (by have := Ac.p10_pos 6; omega)) (Int.le_of_lt (Ac.den_pos x))
 obtain ⟨v, hv⟩ := Zh (decide (Ac.re x 6 = 0))
 have EX := fun w => exact6_any x hx v hv w
 obtain ⟨l, hl⟩ := Zh (Ac.lo x 6)
 have RD := fun w => rround6_any x hx h0x l hl w
 rw [← hl.out] at hlo hl0
 obtain ⟨T0, hT0⟩ := Zh (Tx.txt false l.natAbs)
 have WR := fun w => written_any l T0 hlo hl0 hT0 w
 obtain ⟨n, hn⟩ := Zh (Ac.wl T0.size)
 obtain ⟨g, hg⟩ := Zh (decide (n ≤ 15))
 rw [← hn.out] at WR
 have HT : Hid (Ac.Txt x ↔ v = true ∧ g = true) := Zi (by
  have e : Ac.Txt x = Ac.TxtOf (Ac.re x 6) T0.size := by unfold Ac.Txt; rw [hT0.out, hl.out]
  rw [e, hv.out, hg.out, hn.out]
  unfold Ac.TxtOf
  have := Ac.wl_iff T0.size
  rw [decide_eq_true_eq, decide_eq_true_eq]
  exact ⟨fun h => ⟨h.1, by have := h.2; omega⟩, fun h => ⟨h.1, by have := h.2; omega⟩⟩)
 have sl := sa_z l (c := Bg.zA 0) (zA_size 0)
 clear hv hl hT0 hn h0 h0x hl0
 go_enter Tryz.func156, Tryz.ntmps156
 go_wp2_with (first | ((first | (go_at_call 177; with_reducible refine (EX _).mono ?_) | (go_at_call 178; with_reducible refine (RD _).mono ?_)); rintro e9 w2 ⟨rfl, hL⟩; replace HM := HM.call hL; clear hL) | (go_at_call 179; refine (WR _).mono ?_; rintro e9 w2 ⟨⟨S, rfl, HS, hS4⟩, hL⟩; replace HM := HM.call hL; clear hL) | ((with_reducible refine g_ld ?_); refine a_ld HM ?_) | ((with_reducible refine g_st ?_); refine a_st HM ?_; clear HM; intro w1 HM) | ((with_reducible refine g_al ?_); refine a_al HM ?_; clear HM; intro bk w1 HM) | ((with_reducible refine g_bx ?_); refine a_bx HM ?_; clear HM; intro bk w1 HM))
 obtain ⟨b8, rfl⟩ := HM.nm0
 obtain ⟨b2, rfl⟩ := HM.nm1
 go_loopw [10] (fun s wr => ∃ S : ByteArray, s = .string S ∧ S.size ≤ 400 ∧ Hid (Ac.Wr S n) ∧ Mem w [] [(b8, Bg.zA l), (b2, Rt.qA x)] wr) (fun s _ => match s with | .string T => T.size | _ => 0)
 case atStart => exact ⟨S, rfl, hS4, HS, HM⟩
 case round =>
  clear HM HS hS4
  obtain ⟨T, rfl, hT4, HS, HM⟩ := hrel
  have hp := HS.out.size
  obtain ⟨q, hq⟩ : ∃ q, T.size = q + 1 := ⟨T.size - 1, by omega⟩
  have hqs : q < T.size := by omega
  by_cases h48 : T[q].toNat = 48
  ·exact z9_72
  ·have h48i : (((T[q].toNat : Nat) : Int) == 48) = false := Zb Zo
   by_cases h46 : T[q].toNat = 46
   case' pos =>
    have h46i : (((T[q].toNat : Nat) : Int) == 46) = true := by rw [h46]; rfl
    obtain ⟨W, R, hrd⟩ := HS.out.dot hq (fun _ => h46)
    have hsz : (T.extract 0 q).size = q := by rw [ByteArray.size_extract]; omega
    obtain ⟨D, hD⟩ := Zh (T.extract 0 q)
    have HR := Zi hrd
    rw [← hD.out] at HR hsz
    clear h46 h48 hrd
    go_upto_region 10 with fail
    rw [← hD.out]
   case' neg =>
    have h46i : (((T[q].toNat : Nat) : Int) == 46) = false := Zb Zo
    obtain ⟨W, R, hrd⟩ := HS.out.nodot hq (fun _ => h46)
    have HR := Zi hrd
    clear h46 h48 hrd
    go_upto_region 10 with fail
    obtain ⟨D, hD⟩ : ∃ D, D = T := ⟨_, rfl⟩
    subst hD
   all_goals
    have RR := fun w => rread_any D W R (Zi HR.out.eq) (Zi HR.out.wh) (Zi HR.out.rest) g (Zi (by rw [hg.out, HR.out.len])) w
    cases v with
    | false =>
     have HE := Zi (Ac.yes_f (e := 32) (P := Ac.Txt x) (fun h => by have := (HT.out.1 h).1; cases this) Zd)
     go_wp2_with (first | (go_at_call 180; refine (RR _).mono ?_; rintro e9 w2 ⟨⟨n9, d9, rfl⟩, hL⟩; replace HM := HM.call hL; clear hL; have sq := sa_rz n9 d9 (c := Bg.rZ 0 0) (rZ_size 0 0)) | ((with_reducible refine g_st ?_); refine a_st HM ?_; clear HM; intro w1 HM) | ((with_reducible refine g_al ?_); refine a_al HM ?_; clear HM; intro bk w1 HM))
     go_ret2
     exact ⟨⟨_, 32, rfl, HE, by decide⟩, HM.low⟩
    | true =>
     cases g with
     | false =>
      have HE := Zi (Ac.yes_f (e := 32) (P := Ac.Txt x) (fun h => by have := (HT.out.1 h).2; cases this) Zd)
      go_wp2_with (first | (go_at_call 180; refine (RR _).mono ?_; rintro e9 w2 ⟨⟨n9, d9, rfl⟩, hL⟩; replace HM := HM.call hL; clear hL; have sq := sa_rz n9 d9 (c := Bg.rZ 0 0) (rZ_size 0 0)) | ((with_reducible refine g_st ?_); refine a_st HM ?_; clear HM; intro w1 HM) | ((with_reducible refine g_al ?_); refine a_al HM ?_; clear HM; intro bk w1 HM))
      go_ret2
      exact ⟨⟨_, 32, rfl, HE, by decide⟩, HM.low⟩
     | true =>
      have HE := Zi (Ac.yes_t (P := Ac.Txt x) (HT.out.2 ⟨rfl, rfl⟩))
      go_wp2_with (first | (go_at_call 180; refine (RR _).mono ?_; rintro e9 w2 ⟨⟨n9, d9, rfl⟩, hL⟩; replace HM := HM.call hL; clear hL; have sq := sa_rz n9 d9 (c := Bg.rZ 0 0) (rZ_size 0 0)) | ((with_reducible refine g_st ?_); refine a_st HM ?_; clear HM; intro w1 HM) | ((with_reducible refine g_al ?_); refine a_al HM ?_; clear HM; intro bk w1 HM))
      go_ret2
      exact ⟨⟨_, 0, rfl, HE, by omega⟩, HM.low⟩
end
section
theorem Tx.txt_neg {n : Nat} (h : n ≠ 0) : Tx.txt true n = ({ data := #[45] } : ByteArray) ++ Tx.txt false n := by
 unfold Tx.txt; rw [if_neg h, if_neg h, if_pos rfl, if_neg Bool.false_ne_true]
theorem Tx.cut_m (s : ByteArray) : Tx.cut (({ data := #[45] } : ByteArray) ++ s) = (s, true) := by
 unfold Tx.cut
 have e : (({ data := #[45] } : ByteArray) ++ s).data.toList = 45 :: s.data.toList := by rw [ByteArray.data_append]; simp
 rw [e]
 simp [Lib.trimPrefix, Lib.hasPrefix]
theorem Ac.lo_neg {x : Rat} (h : x.num < 0) : Ac.lo x 6 < 0 := Int.ediv_neg_of_neg_of_pos (Int.mul_neg_of_neg_of_pos h (by have := Ac.p10_pos 6; omega)) (Ac.den_pos x)
theorem text_neg (x : Rat) (hx : Rt.Fit x) (h0 : x.num < 0) (w : World) :
    Calls Tryz.prog 141 #[.agg (Rt.qA x), .int .i64 6] w fun r w' => (∃ (s : ByteArray) (e : Int), r = .returned (.tuple #[.string s, .int .i64 e])) ∧ Below w.heap.size w w' := by
 have HM := Mem.start w
 have zi := za_int
 have k0 := la_q x
 have CK := fun w => check_6 x hx w
 have SC := fun w => scaled_6 x hx w
 have hlo := Ac.lim_of (Ac.lo_lim hx (n := 6) Zd) (show 511 ≤ 1024 by decide)
 have hre := Ac.lim_of (Ac.re_lim hx 6) (show 480 ≤ 1024 by decide)
 have hl0 := Ac.lo_neg h0
 generalize Ac.lo x 6 = l at *
 generalize Ac.re x 6 = r at *
 have sl := sa_z l (c := Bg.zA 0) (zA_size 0)
 have sr := sa_z r (c := Bg.zA 0) (zA_size 0)
 obtain ⟨g, hg⟩ := Zh (r.sign)
 have SR := fun w => sign_z r g hre hg w
 by_cases hr0 : r = 0
 case neg =>
  have hg0 : (g == 0) = false := Zb (by
   rw [hg.out]
   intro e
   exact hr0 (Int.sign_eq_zero_iff_zero.1 e))
  clear hr0
  go_enter Tryz.func141, Tryz.ntmps141
  go_wp2_with (first | ((first | (go_at_call 161; with_reducible refine (CK _).mono ?_) | (go_at_call 162; with_reducible refine (SC _).mono ?_) | (go_at_call 116; with_reducible refine (SR _).mono ?_)); rintro e9 w2 ⟨rfl, hL⟩; replace HM := HM.call hL; clear hL) | ((with_reducible refine g_ld ?_); refine a_ld HM ?_) | ((with_reducible refine g_st ?_); refine a_st HM ?_; clear HM; intro w1 HM) | ((with_reducible refine g_al ?_); refine a_al HM ?_; clear HM; intro bk w1 HM) | ((with_reducible refine g_bx ?_); refine a_bx HM ?_; clear HM; intro bk w1 HM))
  go_ret2
  exact ⟨⟨_, 32, rfl⟩, HM.low⟩
 case pos =>
 subst hr0
 obtain rfl : g = 0 := hg.out
 obtain ⟨n, hn⟩ : ∃ n : Nat, l = -(n : Int) := ⟨l.natAbs, by omega⟩
 have hn0 : n ≠ 0 := by omega
 have hab : l.natAbs = n := by omega
 rw [hab] at hlo
 have FM := fun w => bformat_any true n hlo w
 have ezn : Bg.intA true n = Bg.zA l := by rw [zA_int, hab, Zt hl0]
 rw [ezn, Tx.txt_neg hn0] at FM
 have hsz := Tx.txt_size hlo
 have hct := Tx.cut_m (Tx.txt false n)
 generalize Tx.txt false n = T at *
 obtain ⟨hs1, hs2⟩ := hsz
 have CP := fun w => belt (cp_any _ T true (Zi hct.symm) w)
 have PT := fun w => point_any T hs1 Zo w
 have hwb : Ac.wl T.size ≤ 309 := by unfold Ac.wl; split <;> omega
 have HWB := Zi hwb
 generalize ({ data := #[45] } : ByteArray) ++ T = U at *
 clear hct ezn hg hl0 h0 hwb hn hab hn0
 go_enter Tryz.func141, Tryz.ntmps141
 go_upto_region 9 with (first | ((first | (go_at_call 161; with_reducible refine (CK _).mono ?_) | (go_at_call 162; with_reducible refine (SC _).mono ?_) | (go_at_call 116; with_reducible refine (SR _).mono ?_) | (go_at_call 164; with_reducible refine (FM _).mono ?_) | (go_at_call 163; with_reducible refine (CP _).mono ?_)); rintro e9 w2 ⟨rfl, hL⟩; replace HM := HM.call hL; clear hL) | (go_at_call 165; refine (PT _).mono ?_; rintro e9 w2 ⟨⟨a, b, rfl, HA, hb⟩, hL⟩; replace HM := HM.call hL; clear hL) | ((with_reducible refine g_ld ?_); refine a_ld HM ?_) | ((with_reducible refine g_st ?_); refine a_st HM ?_; clear HM; intro w1 HM) | ((with_reducible refine g_al ?_); refine a_al HM ?_; clear HM; intro bk w1 HM) | ((with_reducible refine g_bx ?_); refine a_bx HM ?_; clear HM; intro bk w1 HM))
 by_cases h15 : 15 < a.size
 ·have h16 : (15 : Int) < a.size := by omega
  clear h15
  go_wp2_with fail
  go_ret2
  exact ⟨⟨_, 32, rfl⟩, HM.low⟩
 ·have h16 : ¬ (15 : Int) < a.size := by omega
  have ha : a.size ≤ 309 := by rw [HA.out]; exact HWB.out
  have TR := fun w => below_eq (tr_any b Zo w)
  clear h15
  go_upto_region 12 with (go_at_call 166; refine (TR _).mono ?_; rintro e9 w2 ⟨⟨c, rfl, hc⟩, hL⟩; replace HM := HM.call hL; clear hL)
  have hc6 : c.size ≤ 6 := by omega
  by_cases he : c.toList = []
  ·have h1 : c.toList.isEmpty = true := by rw [he]; rfl
   clear he
   go_wp2_with fail
   go_ret2
   exact ⟨⟨_, 0, rfl⟩, HM.low⟩
  ·have h1 : c.toList.isEmpty = false := by cases h : c.toList with | nil => exact absurd h he | cons a l => rfl
   clear he
   go_wp2_with fail
   go_ret2
   exact ⟨⟨_, 0, rfl⟩, HM.low⟩
theorem rround_neg (x : Rat) (hx : Rt.Fit x) (h0 : x.num < 0) (w : World) :
    Calls Tryz.prog 178 #[.agg (Rt.qA x), .int .i64 6, .int .i64 1] w fun e w' => (∃ v : Int, e = .returned (.tuple #[.agg (Bg.zA v), .int .i64 0]) ∧ v ≤ 0 ∧ v.natAbs < Bg.lim) ∧ Below w.heap.size w w' := by
 have HM := Mem.start w
 have zi := za_int
 have k0 := la_q x
 have V := fun w => rvalid_q x hx w
 have SC := fun w => rscaled_6 x hx w
 have hz := Ac.lim_of (Ac.mul_lim hx.1 (Ac.p10_bits (show 6 ≤ 9 by decide))) (show 510 ≤ 1024 by decide)
 have hlo := Ac.lo_lim hx (n := 6) Zd
 have hre := Ac.re_lim hx 6
 have hl9 := Ac.lo_neg h0
 have hzn : x.num * Ac.p10 6 < 0 := Int.mul_neg_of_neg_of_pos h0 (by have := Ac.p10_pos 6; omega)
 obtain ⟨l, hl0⟩ := Zh (Ac.lo x 6)
 obtain ⟨r, hr⟩ := Zh (Ac.re x 6)
 rw [← hl0.out] at hlo hl9
 rw [← hr.out] at hre
 have DM := fun w => rdivMod_zz (x.num * Ac.p10 6) x.den l r hz (Ac.dl hx) (Int.ne_of_gt (Ac.den_pos x)) (Zi (by rw [hl0.out]; rfl)) (Zi (by rw [hr.out]; rfl)) w
 generalize x.num * Ac.p10 6 = z at SC DM hz hzn
 have hl := Ac.lim_of hlo Zd
 have hrl := Ac.lim_of hre Zd
 obtain ⟨t, ht⟩ := Zh (r + r)
 have e481 : Bg.p2 481 = Bg.p2 480 * 2 := by rw [show (481 : Nat) = 480 + 1 from rfl, Bg.p2_add]; rw [show Bg.p2 1 = 2 by unfold Bg.p2; rfl]
 have htl : t.natAbs < Bg.lim := Ac.lim_of (k := 481) (by rw [ht.out, e481]; omega) Zd
 have AD := fun w => radd_zz r r t t 0 hrl hrl ht (Zi (Ac.resZ htl)) (Zi (Ac.resE htl)) w
 obtain ⟨f, hf⟩ := Zh ((t - (x.den : Int)).sign)
 have CM := fun w => rcmp_z t x.den f htl (Ac.dl hx) (Zi (by rw [hf.out])) w
 have hs0 : z.sign < 0 := by rw [Int.sign_eq_neg_one_of_neg hzn]; decide
 obtain ⟨s, hs⟩ := Zh (z.sign)
 rw [← hs.out] at hs0
 have SG := fun w => rsign_z z s hz hs w
 have hsn : decide (s < 0) = true := Zt hs0
 have sl := sa_z l (c := Bg.zA 0) (zA_size 0)
 have sr := sa_z r (c := Bg.zA 0) (zA_size 0)
 have st := sa_z t (c := Bg.zA 0) (zA_size 0)
 have sx := sa_z z (c := Bg.zA 0) (zA_size 0)
 have sd := sa_z (x.den : Int) (c := Bg.zA 0) (zA_size 0)
 have lm := la_limz0 l
 have hm3 : Bg.limb l.natAbs 0 < 4294967296 := by unfold Bg.limb; exact Nat.mod_lt _ Zd
 generalize Bg.limb l.natAbs 0 = m at lm hm3
 obtain ⟨c, hc⟩ : ∃ c : Nat, Hid (m % 2 = c) := ⟨_, Zi rfl⟩
 have hm : ((m : Nat) : Int).tmod 2 = c := by have := hc.out; rw [Int.tmod_eq_emod_of_nonneg Zo]; omega
 have HL9 := Zi hl9
 have HL := Zi hl
 clear e481 hlo hre hr hl0 ht hf hzn h0 hl9
 by_cases hr0 : r = 0
 ·have SR := fun w => rsign_z r 0 hrl (Zi (by rw [hr0]; rfl)) w
  clear hr0 CM SG AD hs hm hc
  go_enter Tryz.func178, Tryz.ntmps178
  go_wp2_with (first | ((first | (go_at_call 181; with_reducible refine (V _).mono ?_) | (go_at_call 203; with_reducible refine (placesOK_6 _).mono ?_) | (go_at_call 204; with_reducible refine (SC _).mono ?_) | (go_at_call 125; with_reducible refine (DM _).mono ?_) | (go_at_call 123; with_reducible refine (SR _).mono ?_)); rintro e9 w2 ⟨rfl, hL⟩; replace HM := HM.call hL; clear hL) | ((with_reducible refine g_ld ?_); refine a_ld HM ?_) | ((with_reducible refine g_st ?_); refine a_st HM ?_; clear HM; intro w1 HM) | ((with_reducible refine g_al ?_); refine a_al HM ?_; clear HM; intro bk w1 HM) | ((with_reducible refine g_bx ?_); refine a_bx HM ?_; clear HM; intro bk w1 HM))
  obtain ⟨b6, rfl⟩ := HM.nm4
  refine bodyPost_ret (r_ct (b := b6) (k := 0) rfl rfl (HM.get Zl) (la_z _)) rfl ⟨⟨l, rfl, by have := HL9.out; omega, HL.out⟩, HM.low⟩
 ·obtain ⟨g, hg⟩ := Zh (r.sign)
  have hg0 : (g == 0) = false := Zb (by
   rw [hg.out]
   intro e
   exact hr0 (Int.sign_eq_zero_iff_zero.1 e))
  have SR := fun w => rsign_z r g hrl hg w
  clear hs hr0
  go_enter Tryz.func178, Tryz.ntmps178
  go_upto_region 12 with (first | ((first | (go_at_call 181; with_reducible refine (V _).mono ?_) | (go_at_call 203; with_reducible refine (placesOK_6 _).mono ?_) | (go_at_call 204; with_reducible refine (SC _).mono ?_) | (go_at_call 125; with_reducible refine (DM _).mono ?_) | (go_at_call 123; with_reducible refine (SR _).mono ?_) | (go_at_call 205; with_reducible refine (AD _).mono ?_)); rintro e9 w2 ⟨rfl, hL⟩; replace HM := HM.call hL; clear hL) | ((with_reducible refine g_ld ?_); refine a_ld HM ?_) | ((with_reducible refine g_st ?_); refine a_st HM ?_; clear HM; intro w1 HM) | ((with_reducible refine g_al ?_); refine a_al HM ?_; clear HM; intro bk w1 HM) | ((with_reducible refine g_bx ?_); refine a_bx HM ?_; clear HM; intro bk w1 HM))
  obtain ⟨b13, rfl⟩ := HM.nm0
  obtain ⟨b11, rfl⟩ := HM.nm1
  obtain ⟨b10, rfl⟩ := HM.nm2
  obtain ⟨b9, rfl⟩ := HM.nm3
  obtain ⟨b8, rfl⟩ := HM.nm4
  obtain ⟨b6, rfl⟩ := HM.nm5
  obtain ⟨o, ho⟩ : ∃ o : Bool, Hid (o = ((c : Int) == 1)) := ⟨_, Zi rfl⟩
  have AB := fun w => below_eq (above1_any (decide (s < 0)) o f w)
  rw [hsn] at AB
  refine start_M [] HM Zk (fun w0x H9 => ?_)
  replace HM := H9; clear H9
  refine k_mv 0 (heldE HM) ?_
  refine k_ld 1 [] (heldE HM) ?_
  refine k_ld 4 [] (heldE HM) ?_
  refine k_ld 5 [] (heldE HM) ?_
  refine k_fa 7 (heldE HM) ?_
  refine k_ia 8 (heldE HM) ?_
  refine k_ld 9 [] (heldE HM) ?_
  refine t_pure (i := 10) (v := .int .u32 (c : Nat)) rfl rfl Zk (fun _ _ _ h => h) (heldE HM) (by rfl) ?_ ?_; (focus (exact h_bin (by rfl) (by rfl) (by rfl) (by intro w9; go_simp))); ((try simp only [Za]); (try simp only [Zx]); (try simp only [Zy]))
  refine t_pure (i := 11) (v := .bool o) rfl rfl Zk (fun _ _ _ h => h) (heldE HM) (by rfl) ?_ ?_; (focus (exact h_bin (by rfl) (by rfl) (by rfl) (by intro w9; go_simp; rw [ho.out]))); ((try simp only [Za]); (try simp only [Zx]); (try simp only [Zy]))
  refine j_one 2 fun K9 hK9 => ?_
  refine j_call1 (v := ?_) HM ?_ ?_; rotate_left 1; (focus (with_reducible (first | exact CM _ | exact SG _ | exact AB _))); clear HM; intro w1 HM
  refine hK9 _ _ (heldE HM) ?_; clear hK9 K9
  refine k_bin 3 (heldE HM) ?_
  refine j_one 6 fun K9 hK9 => ?_
  refine j_call2 (v := ?_) HM ?_ ?_; rotate_left 1; (focus (with_reducible (first | exact CM _ | exact SG _ | exact AB _))); clear HM; intro w1 HM
  refine hK9 _ _ (heldE HM) ?_; clear hK9 K9
  refine j_one 12 fun K9 hK9 => ?_
  refine j_call4 (v := ?_) HM ?_ ?_; rotate_left 1; (focus (with_reducible (first | exact CM _ | exact SG _ | exact AB _))); clear HM; intro w1 HM
  refine hK9 _ _ (heldE HM) ?_; clear hK9 K9
  refine wpAnyL_done Zk ?_ _
  obtain ⟨n, hn⟩ := Zh (l + 1)
  have hnl : n.natAbs < Bg.lim := by
   have h1 := HL9.out
   have h2 := HL.out
   rw [hn.out]
   omega
  have HN := Zi hn.out
  have h1l : (1 : Int).natAbs < Bg.lim := small_lim Zd
  have F1 := fun w => rfromInt_z 1 Zd Zd w
  have A1 := fun w => radd_zz l 1 n n 0 hl h1l hn (Zi (Ac.resZ hnl)) (Zi (Ac.resE hnl)) w
  have sn := sa_z n (c := Bg.zA l) (zA_size l)
  have HNL := Zi hnl
  clear hn
  go_upto_region 13 with fail
  refine start_M [6] HM Zk (fun w0x H9 => ?_)
  replace HM := H9; clear H9
  refine k_ld 0 [2, 3, 4, 5, 6] (heldE HM) ?_
  refine j_one 1 fun K9 hK9 => ?_
  refine j_call1 (v := ?_) HM ?_ ?_; rotate_left 1; (focus (with_reducible (first | exact F1 _ | exact A1 _))); clear HM; intro w1 HM
  refine hK9 _ _ (heldE HM) ?_; clear hK9 K9
  refine j_one 2 fun K9 hK9 => ?_
  refine j_call2 (v := ?_) HM ?_ ?_; rotate_left 1; (focus (with_reducible (first | exact F1 _ | exact A1 _))); clear HM; intro w1 HM
  refine hK9 _ _ (heldE HM) ?_; clear hK9 K9
  refine k_mv 3 (heldE HM) ?_
  refine k_ext 4 (heldE HM) ?_
  refine k_ext 5 (heldE HM) ?_
  refine j_one 6 fun K9 hK9 => ?_
  refine j_st HM ?_; clear HM; intro w1 HM
  refine hK9 _ _ heldN ?_; clear hK9 K9
  refine wpAnyL_done Zk ?_ _
  go_wp2_with (first | ((with_reducible refine g_ld ?_); refine a_ld HM ?_) | ((with_reducible refine g_st ?_); refine a_st HM ?_; clear HM; intro w1 HM))
  refine bodyPost_ret (r_ct (b := b6) (k := 0) rfl rfl (HM.get Zl) (la_z _)) rfl ⟨⟨n, rfl, by have := HL9.out; have := HN.out; omega, HNL.out⟩, HM.low⟩
theorem written_neg (l : Int) (T0 : ByteArray) (hl : l.natAbs < Bg.lim) (h0 : l < 0) (hT : Hid (T0 = Tx.txt false l.natAbs)) (w : World) :
    Calls Tryz.prog 179 #[.agg (Bg.zA l), .int .i64 6] w fun e w' => (∃ s : ByteArray, e = .returned (.string (({ data := #[45] } : ByteArray) ++ s)) ∧ Hid (Ac.Wr s (Ac.wl T0.size)) ∧ s.size ≤ 400) ∧ Below w.heap.size w w' := by
 have HM := Mem.start w
 have k0 := la_z l
 have hT0 := Tx.txt_size hl
 have hW := Ac.txt_wh hl
 have FM := fun w => rbformat_any false l.natAbs hl w
 have ezn : Bg.intA false l.natAbs = Bg.zA (-l) := by rw [zA_int, Int.natAbs_neg, Zf Zo]
 rw [ezn, ← hT.out] at FM
 rw [← hT.out] at hT0 hW
 have AB := fun w => rabs_z l (-l) hl (Zi Zo) w
 obtain ⟨g, hg⟩ := Zh (l.sign)
 have SG := fun w => rsign_z l g hl hg w
 have hg0 : g < 0 := by rw [hg.out, Int.sign_eq_neg_one_of_neg h0]; decide
 exact z9_71
end
section
theorem z9_73 {P : Prop} (h : P := by
 refine bodyPost_ret (r_ct (b := b6) (k := 0) rfl rfl (HM.get Zl) (la_rz 0 0)) rfl (by exact ⟨⟨_, _, _, rfl⟩, HM.low⟩)) : P := h
theorem z9_74 {P : Prop} (h : P := by
 rintro e w' ⟨⟨s, e, rfl, HE, _⟩, hL⟩
 exact ⟨⟨s, e, rfl, Zi fun _ => HE.out⟩, hL⟩) : P := h
theorem z9_75 {P : Prop} (h : P := by
 rintro e w' ⟨⟨s, e, rfl⟩, hL⟩
 exact ⟨⟨s, e, rfl, Zi fun h2 => absurd h2 h⟩, hL⟩) : P := h
end
section
set_option maxRecDepth 20000 in
theorem rread_m (U : ByteArray) (W R : List Nat) (hu : Hid (Tx.ns U = 45 :: (W ++ R))) (hW : Hid (Ac.Wh W)) (hR : Hid (R = [] ∨ ∃ F, R = 46 :: F ∧ Ac.Dgs F ∧ 0 < F.length ∧ F.length ≤ 6)) (w : World) :
    Calls Tryz.prog 180 #[.string U, .int .i64 6, .bool true] w fun e w' => (∃ (n d : Int) (g : Bool), e = .returned (.tuple #[.agg (Bg.rZ n d), .bool g])) ∧ Below w.heap.size w w' := by
 obtain ⟨g, hg⟩ := Zh (decide (W.length ≤ 15))
 have hUs : U.size = 1 + (W.length + R.length) := by rw [← Tx.ns_len, hu.out, List.length_cons, List.length_append]; omega
 obtain ⟨hU0, hv9⟩ := Tx.ns_at hu.out (k := 0) (c := 45) rfl
 have hUp : (0 : Int) < U.size := by omega
 have h45 : (((U[0].toNat : Nat) : Int) == 45) = true := beq_iff_eq.2 Zo
 obtain ⟨s, HU⟩ : ∃ s, Hid (U.extract 1 U.size = s) := ⟨_, Zi rfl⟩
 have h : Hid (Tx.ns s = W ++ R) := Zi (by
  rw [← HU.out, Tx.ns_ext, hu.out, hUs, List.take_of_length_le (by rw [List.length_cons, List.length_append]; omega)]; rfl)
 have hU1 : (1 : Int) ≤ U.size := by omega
 clear hu hv9 hUs
 have HW := Zi hW.out
 have HM := Mem.start w
 have zr := za_rat
 have zi := za_int
 have sz := sa_rz 0 0 (c := Bg.rZ 0 0) (rZ_size 0 0)
 have hsz : s.size = W.length + R.length := by rw [← Tx.ns_len, h.out, List.length_append]
 have hRl : R.length ≤ 7 := by
  exact z9_65
 have hWl := hW.out.len
 have hWp := hW.out.pos
 have hss : s.size ≤ 400 := by omega
 obtain ⟨n, hn⟩ := Zh (W.length)
 have hc0 : (W ++ R)[0]? = some W[0] := by rw [List.getElem?_append_left hWp, List.getElem?_eq_getElem hWp]
 obtain ⟨hk0, hv0⟩ := Tx.ns_at h.out hc0
 have hd0 := hW.out.dg _ (List.getElem_mem hWp)
 have hp0 : (0 : Int) < s.size := by omega
 have hDot : Ac.Dot R := by
  rcases hR.out with hr | ⟨F, hr, _⟩
  ·exact .inl hr
  ·exact .inr ⟨F, hr⟩
 have DG := fun w => below_eq (digits_any s W R h (Zi hW.out.dg) (Zi hDot) hss w)
 rw [← hn.out] at DG hsz hWl hWp hg
 have hn0 : ((n : Int) == 0) = false := Zb Zo
 have hn2 : Hid (1 < n → ¬ ((s[0].toNat : Nat) : Int) = 48) := Zi (by
  intro h1 h2
  rw [hn.out] at h1
  refine hW.out.top h1 ?_
  rw [List.getElem?_eq_getElem hW.out.pos]
  congr 1
  omega)
 clear hc0 hv0 hd0 hDot
 go_enter Tryz.func180, Tryz.ntmps180
 go_upto_region 4 with ((with_reducible refine g_al ?_); refine a_al HM ?_; clear HM; intro bk w1 HM)
 rw [HU.out]
 clear HU h45 hUp hU1
 by_cases h15 : n ≤ 15
 case neg =>
  obtain rfl : g = false := by rw [hg.out]; exact Zf h15
  have h15i : (15 : Int) < n := by omega
  clear h15 hWl hg
  go_upto_region 6 with (go_at_call 210; (with_reducible refine Zc HM (DG _) ?_; clear HM; intro w2 HM))
  obtain ⟨b6, rfl⟩ := HM.nm0
  have ez : (Value.agg Tryz.zeroCells43) = .agg (Bg.rZ 0 0) := by kernel_rfl
  have sz0 := sz
  rw [← ez] at sz0
  go_wp2_with ((with_reducible refine g_st ?_); refine a_st HM ?_; clear HM; intro w1 HM)
  exact z9_73
 case pos =>
  obtain rfl : g = true := by rw [hg.out]; exact Zt h15
  have h15i : ¬ (15 : Int) < n := by omega
  obtain ⟨a, ha⟩ := Zh (s.extract 0 n)
  obtain ⟨b, hb⟩ := Zh (s.extract n s.size)
  have haW : Tx.ns a = W := by
   rw [ha.out, Tx.ns_ext, h.out, hn.out, List.drop_zero, List.take_left]
  have hbR : Tx.ns b = R := by
   exact z9_66
  have has : a.size = n := by rw [Ac.dgs_len haW, hn.out]
  have hbs : b.size = R.length := Ac.dgs_len hbR
  have HA := Zi haW
  have HB := Zi hbR
  clear haW hbR
  by_cases h1 : 1 < n
  case' pos =>
   have h1i : (1 : Int) < n := by omega
   have h48 : (((s[0].toNat : Nat) : Int) == 48) = false := Zb (hn2.out h1)
   clear h1 h15 hg
   go_upto_region 7 with (go_at_call 210; (with_reducible refine Zc HM (DG _) ?_; clear HM; intro w2 HM))
   clear h48 h1i
  case' neg =>
   have h1i : ¬ (1 : Int) < n := by omega
   clear h1 h15 hg
   go_upto_region 7 with (go_at_call 210; (with_reducible refine Zc HM (DG _) ?_; clear HM; intro w2 HM))
   clear h1i
  all_goals
   obtain ⟨b6, rfl⟩ := HM.nm0
   clear DG hn0 h15i hn2 hp0
   refine start_M [] HM Zk (fun w0x H9 => ?_)
   replace HM := H9; clear H9
   refine k_mv 0 (heldE HM) ?_
   refine k_mv 1 (heldE HM) ?_
   refine t_pure (i := 2) (v := .string a) rfl rfl Zk (fun _ _ _ h => h) (heldE HM) (by rfl) ?_ ?_; (focus ((rw [ha.out]; intro w9; first | (go_simp; done) | (go_simp; rfl) | (go_simp; intro h9; omega)))); ((try simp only [Za]); (try simp only [Zx]); (try simp only [Zy]))
   refine k_mv 3 (heldE HM) ?_
   refine k_mv 4 (heldE HM) ?_
   refine t_pure (i := 5) (v := .string b) rfl rfl Zk (fun _ _ _ h => h) (heldE HM) (by rfl) ?_ ?_; (focus ((rw [hb.out]; intro w9; first | (go_simp; done) | (go_simp; rfl) | (go_simp; intro h9; omega)))); ((try simp only [Za]); (try simp only [Zx]); (try simp only [Zy]))
   refine k_mv 6 (heldE HM) ?_
   refine k_mv 7 (heldE HM) ?_
   refine wpAnyL_done Zk ?_ _
   go_upto_region 8 with fail
   rcases hR.out with hr | ⟨F, hr, hF, hF1, hF6⟩
   case' inl =>
    have hb0 : b.size = 0 := by rw [hbs, hr]; rfl
    have hc6 : b.size ≤ 6 := by omega
    have HC : Hid (Ac.Dgs (Tx.ns b)) := Zi (by rw [HB.out, hr]; intro c hc; cases hc)
    clear hbs hr
    go_upto_region 16 with fail
    obtain ⟨c, hc⟩ : ∃ c, c = b := ⟨_, rfl⟩
    rw [← hc] at HC hc6 ⊢
    obtain ⟨q, hq⟩ : ∃ q : Rat, Hid (q = ((Ac.p10 0 : Int) : Rat)) := ⟨_, Zi rfl⟩
    have hql : q.num.natAbs < Bg.lim := by rw [hq.out, Ac.p10_num]; exact small_lim Zd
    have PW : ∀ w, Calls Tryz.prog 212 #[.int .i64 0] w fun e w' => e = .returned (.agg (Rt.qA q)) ∧ Below w.heap.size w w' := fun w => by rw [hq.out]; exact rpower_any 0 Zd w
    clear hq hc hb0
   case' inr =>
    obtain ⟨m, hm⟩ := Zh (F.length)
    have hb0 : b.size = m + 1 := by rw [hbs, hr, hm.out]; rfl
    obtain ⟨hkb, hvb⟩ := Tx.ns_at HB.out (k := 0) (c := 46) (by rw [hr]; rfl)
    obtain ⟨c, hc⟩ := Zh (b.extract 1 (m + 1))
    have hcF : Tx.ns c = F := by
     exact z9_67
    have hcs : c.size = m := by rw [Ac.dgs_len hcF, hm.out]
    have HC : Hid (Ac.Dgs (Tx.ns c)) := Zi (by rw [hcF]; exact hF)
    have DG := fun w => below_eq (digits_any c F [] (Zi (by rw [hcF, List.append_nil])) (Zi hF) (Zi (.inl rfl)) (by rw [hcs, hm.out]; omega) w)
    have h46 : (((b[0].toNat : Nat) : Int) != 46) = false := by
     have e : ((b[0].toNat : Nat) : Int) = 46 := by omega
     rw [e]; rfl
    have hbp : (0 : Int) < b.size := by omega
    rw [← hm.out] at DG hF1 hF6
    have hc0 : ((m : Int) == 0) = false := Zb Zo
    have hc6i : ¬ (6 : Int) < m := by omega
    have hc6 : c.size ≤ 6 := by omega
    clear hbs hr hF hcF hvb
    go_upto_region 13 with fail
    rw [← hc.out]
    go_upto_region 16 with (go_at_call 210; (with_reducible refine Zc HM (DG _) ?_; clear HM; intro w2 HM))
    obtain ⟨q, hq⟩ : ∃ q : Rat, Hid (q = ((Ac.p10 m : Int) : Rat)) := ⟨_, Zi rfl⟩
    have hql : q.num.natAbs < Bg.lim := by rw [hq.out, Ac.p10_num]; exact Ac.lim_of (Ac.p10_bits (show m ≤ 9 by omega)) Zd
    have PW : ∀ w, Calls Tryz.prog 212 #[.int .i64 (m : Nat)] w fun e w' => e = .returned (.agg (Rt.qA q)) ∧ Below w.heap.size w w' := fun w => by rw [hq.out]; exact rpower_any m Zo w
    clear hq hc DG h46 hc0
   all_goals
    obtain ⟨t, ht⟩ : ∃ t, t = a ++ c := ⟨_, rfl⟩
    have hts : t.size ≤ 21 := by rw [ht, ByteArray.size_append]; omega
    have htd : Ac.Dgs (Tx.ns t) := by
     exact z9_68
    have HT := Zi htd
    have ha15 : a.size ≤ 15 := by omega
    clear htd
    go_upto_region 18 with (first | ((with_reducible refine g_st ?_); refine a_st HM ?_; clear HM; intro w1 HM) | ((with_reducible refine g_al ?_); refine a_al HM ?_; clear HM; intro bk w1 HM) | ((with_reducible refine g_bld ?_); refine a_bld ?_))
    rw [← ht]
    clear ht HC ha15 hc6
    obtain ⟨b13, rfl⟩ := HM.nm0
    go_wp2_with fail
    go_loopw [15] (fun i wr => ∃ (k X : Nat), i = .int .i64 (k : Nat) ∧ k ≤ t.size ∧ Hid (X < 10 ^ k) ∧ Mem w [] [(b13, Bg.zA (X : Nat)), (b6, Bg.rZ 0 0)] wr) (fun i _ => t.size - (intOf i).toNat)
    case atStart => exact ⟨0, 0, rfl, by omega, Zi Zd, HM⟩
    case round =>
     clear HM
     obtain ⟨k, X, rfl, hk, HX, HM⟩ := hrel
     have hp : 10 ^ k ≤ 10 ^ 21 := Nat.pow_le_pow_right Zd Zo
     have hX0 := HX.out
     have l22 := Ac.ten_lim
     have lX : ((X : Nat) : Int).natAbs < Bg.lim := by rw [Int.natAbs_natCast]; omega
     by_cases hlt : k < t.size
     ·exact z9_69
     ·obtain rfl : k = t.size := by omega
      clear hp l22
      by_cases hX9 : X = 0
      ·have SG := fun w => rsign_z ((X : Nat) : Int) 0 lX (Zi (by rw [hX9]; rfl)) w
       have ez : (Value.agg Tryz.zeroCells43) = .agg (Bg.rZ 0 0) := by kernel_rfl
       have sz0 := sz
       rw [← ez] at sz0
       clear hX0 hX9
       go_wp2_with (first | (go_at_call 123; (with_reducible refine Zc HM (SG _) ?_; clear HM; intro w2 HM)) | ((with_reducible refine g_ld ?_); refine a_ld HM ?_) | ((with_reducible refine g_st ?_); refine a_st HM ?_; clear HM; intro w1 HM))
       exact z9_73
      ·have SG := fun w => rsign_z ((X : Nat) : Int) 1 lX (Zi (Int.sign_eq_one_of_pos Zo).symm) w
       obtain ⟨Z, hZ⟩ : ∃ Z : Int, Hid (Z = -((X : Nat) : Int)) := ⟨_, Zi rfl⟩
       have NG := fun w => rneg_z ((X : Nat) : Int) Z lX hZ w
       have sn := sa_z Z (c := Bg.zA (X : Nat)) (zA_size X)
       have lN : Z.natAbs < Bg.lim := by rw [hZ.out, Int.natAbs_neg]; exact lX
       obtain ⟨n9, d9, e9, hr9⟩ : ∃ n d e : Int, Hid ((n, d, e) = Rt.mk Z q.num) := ⟨_, _, _, Zi rfl⟩
       have MK := fun w => rmake_z _ _ n9 d9 e9 lN hql hr9 w
       have sq := sa_rz n9 d9 (c := Bg.rZ 0 0) (rZ_size 0 0)
       have lq := la_rz n9 d9
       have fq := fa_qnum q
       clear hX0 hZ hX9
       go_upto_region 27 with (first | ((first | (go_at_call 123; with_reducible refine (SG _).mono ?_) | (go_at_call 126; with_reducible refine (NG _).mono ?_)); rintro e9 w2 ⟨rfl, hL⟩; replace HM := HM.call hL; clear hL) | ((with_reducible refine g_ld ?_); refine a_ld HM ?_) | ((with_reducible refine g_st ?_); refine a_st HM ?_; clear HM; intro w1 HM))
       go_cut [18] (fun p wc => ∃ b18, p = .pointer (some ⟨b18, 0, none⟩) ∧ Mem w [] [(b18, Bg.rZ n9 d9), (b6, Bg.rZ 0 0)] wc)
       case first =>
        exact z9_70
       case rest =>
        clear HM
        obtain ⟨b18, rfl, HM⟩ := hcut
        go_step
        go_wp2_with (first | ((with_reducible refine g_ld ?_); refine a_ld HM ?_) | ((with_reducible refine g_st ?_); refine a_st HM ?_; clear HM; intro w1 HM))
        refine bodyPost_ret (r_ct (b := b6) (k := 0) rfl rfl (HM.get Zl) (la_rz _ _)) rfl (by exact ⟨⟨_, _, _, rfl⟩, HM.low⟩)
structure Ac.Wm (p : List Nat) (s : ByteArray) : Prop where
 ex : ∃ W F, Tx.ns s = p ++ (W ++ 46 :: F) ∧ Ac.Wh W ∧ Ac.Dgs F ∧ F.length ≤ 6
theorem Ac.Wm.size {p : List Nat} {s : ByteArray} (h : Ac.Wm p s) : 0 < s.size := by
 obtain ⟨W, F, e, _⟩ := h.ex
 rw [Ac.dgs_len e, List.length_append, List.length_append, List.length_cons]; omega
theorem Ac.Wm.trim {p : List Nat} {s : ByteArray} {q : Nat} (h : Ac.Wm p s) (hq : s.size = q + 1) (h48 : ∀ h : q < s.size, s[q].toNat = 48) : Ac.Wm p (s.extract 0 q) := by
 obtain ⟨W, F, e, hW, hF, hF6⟩ := h.ex
 rcases List.eq_nil_or_concat F with rfl | ⟨G, c, rfl⟩
 ·obtain ⟨⟨h1, h2⟩, _⟩ := Ac.ns_last (L := p ++ W) (c := 46) (by rw [e]; simp) hq
  have := h48 h1
  omega
 ·rw [List.concat_eq_append] at *
  obtain ⟨_, h3⟩ := Ac.ns_last (L := p ++ (W ++ 46 :: G)) (c := c) (by rw [e]; simp) hq
  rw [List.length_append] at hF6
  exact ⟨W, G, h3, hW, fun d hd => hF d (List.mem_append_left _ hd), by omega⟩
structure Ac.Rm (p : List Nat) (s : ByteArray) (W R : List Nat) : Prop where
 eq : Tx.ns s = p ++ (W ++ R)
 wh : Ac.Wh W
 rest : R = [] ∨ ∃ F, R = 46 :: F ∧ Ac.Dgs F ∧ 0 < F.length ∧ F.length ≤ 6
theorem Ac.Wm.dot {p : List Nat} {s : ByteArray} {q : Nat} (h : Ac.Wm p s) (hq : s.size = q + 1) (h46 : ∀ h : q < s.size, s[q].toNat = 46) : ∃ W R, Ac.Rm p (s.extract 0 q) W R := by
 obtain ⟨W, F, e, hW, hF, hF6⟩ := h.ex
 rcases List.eq_nil_or_concat F with rfl | ⟨G, c, rfl⟩
 ·obtain ⟨_, h3⟩ := Ac.ns_last (L := p ++ W) (c := 46) (by rw [e]; simp) hq
  exact ⟨W, [], by rw [h3, List.append_nil], hW, .inl rfl⟩
 ·rw [List.concat_eq_append] at *
  obtain ⟨⟨h1, h2⟩, _⟩ := Ac.ns_last (L := p ++ (W ++ 46 :: G)) (c := c) (by rw [e]; simp) hq
  have h3 := h46 h1
  have h4 := hF c Zs
  have := h4.1
  omega
theorem Ac.Wm.nodot {p : List Nat} {s : ByteArray} {q : Nat} (h : Ac.Wm p s) (hq : s.size = q + 1) (h46 : ∀ h : q < s.size, s[q].toNat ≠ 46) : ∃ W R, Ac.Rm p s W R := by
 obtain ⟨W, F, e, hW, hF, hF6⟩ := h.ex
 refine ⟨W, 46 :: F, e, hW, .inr ⟨F, rfl, hF, ?_, hF6⟩⟩
 rcases List.eq_nil_or_concat F with rfl | ⟨G, c, rfl⟩
 ·obtain ⟨⟨h1, h2⟩, _⟩ := Ac.ns_last (L := p ++ W) (c := 46) (by rw [e]; simp) hq
  exact absurd h2 (h46 h1)
 ·rw [List.concat_eq_append]; simp
theorem rread_p (p : List Nat) (hp : p = [] ∨ p = [45]) (U : ByteArray) (W R : List Nat) (h : Hid (Ac.Rm p U W R)) (w : World) :
    Calls Tryz.prog 180 #[.string U, .int .i64 6, .bool true] w fun e w' => (∃ (n d : Int) (g : Bool), e = .returned (.tuple #[.agg (Bg.rZ n d), .bool g])) ∧ Below w.heap.size w w' := by
 rcases hp with rfl | rfl
 ·refine (rread_any U W R (Zi h.out.eq) (Zi h.out.wh) (Zi h.out.rest) _ (Zi rfl) w).mono ?_
  rintro e w' ⟨⟨n, d, rfl⟩, hL⟩
  exact ⟨⟨n, d, _, rfl⟩, hL⟩
 ·exact rread_m U W R (Zi h.out.eq) (Zi h.out.wh) (Zi h.out.rest) w
theorem written_m (l : Int) (hl : l.natAbs < Bg.lim) (h0 : l ≤ 0) (w : World) :
    Calls Tryz.prog 179 #[.agg (Bg.zA l), .int .i64 6] w fun e w' => (∃ (p : List Nat) (s : ByteArray), e = .returned (.string s) ∧ (p = [] ∨ p = [45]) ∧ Hid (Ac.Wm p s) ∧ s.size ≤ 401) ∧ Below w.heap.size w w' := by
 by_cases h : l < 0
 ·refine (written_neg l _ hl h (Zi rfl) w).mono ?_
  rintro e w' ⟨⟨s, rfl, HS, hs⟩, hL⟩
  obtain ⟨W, F, e, hW, -, hF, hF6⟩ := HS.out.ex
  refine ⟨⟨[45], _, rfl, .inr rfl, Zi ⟨W, F, by rw [Tx.ns_app, e]; rfl, hW, hF, hF6⟩, ?_⟩, hL⟩
  rw [ByteArray.size_append]
  show 1 + s.size ≤ 401
  omega
 ·refine (written_any l _ hl Zo (Zi rfl) w).mono ?_
  rintro e w' ⟨⟨s, rfl, HS, hs⟩, hL⟩
  obtain ⟨W, F, e, hW, -, hF, hF6⟩ := HS.out.ex
  exact ⟨⟨[], _, rfl, .inl rfl, Zi ⟨W, F, e, hW, hF, hF6⟩, by omega⟩, hL⟩
theorem rtext_neg (x : Rat) (hx : Rt.Fit x) (h0 : x.num < 0) (w : World) :
    Calls Tryz.prog 156 #[.agg (Rt.qA x), .int .i64 6] w fun r w' => (∃ (s : ByteArray) (e : Int), r = .returned (.tuple #[.string s, .int .i64 e])) ∧ Below w.heap.size w w' := by
 have HM := Mem.start w
 have zr := za_rat
 have zi := za_int
 have k0 := la_q x
 obtain ⟨v, hv⟩ := Zh (decide (Ac.re x 6 = 0))
 have EX := fun w => exact6_any x hx v hv w
 have RD := fun w => rround_neg x hx h0 w
 clear hv h0
 go_enter Tryz.func156, Tryz.ntmps156
 go_upto_region 5 with (first | (go_at_call 177; (with_reducible refine Zc HM (EX _) ?_; clear HM; intro w2 HM)) | (go_at_call 178; refine (RD _).mono ?_; rintro e9 w2 ⟨⟨l, rfl, hl0, hll⟩, hL⟩; replace HM := HM.call hL; clear hL; have sl := sa_z l (c := Bg.zA 0) (zA_size 0)) | ((with_reducible refine g_ld ?_); refine a_ld HM ?_) | ((with_reducible refine g_st ?_); refine a_st HM ?_; clear HM; intro w1 HM) | ((with_reducible refine g_al ?_); refine a_al HM ?_; clear HM; intro bk w1 HM) | ((with_reducible refine g_bx ?_); refine a_bx HM ?_; clear HM; intro bk w1 HM))
 have WR := fun w => written_m l hll hl0 w
 go_wp2_with (first | (go_at_call 179; refine (WR _).mono ?_; rintro e9 w2 ⟨⟨p, S, rfl, hp, HS, hS4⟩, hL⟩; replace HM := HM.call hL; clear hL) | ((with_reducible refine g_ld ?_); refine a_ld HM ?_))
 obtain ⟨b8, rfl⟩ := HM.nm0
 obtain ⟨b2, rfl⟩ := HM.nm1
 go_loopw [10] (fun s wr => ∃ S : ByteArray, s = .string S ∧ S.size ≤ 401 ∧ Hid (Ac.Wm p S) ∧ Mem w [] [(b8, Bg.zA l), (b2, Rt.qA x)] wr) (fun s _ => match s with | .string T => T.size | _ => 0)
 case atStart => exact ⟨S, rfl, hS4, HS, HM⟩
 case round =>
  clear HM HS hS4
  obtain ⟨T, rfl, hT4, HS, HM⟩ := hrel
  have hp0 := HS.out.size
  obtain ⟨q, hq⟩ : ∃ q, T.size = q + 1 := ⟨T.size - 1, by omega⟩
  have hqs : q < T.size := by omega
  by_cases h48 : T[q].toNat = 48
  ·exact z9_72
  ·have h48i : (((T[q].toNat : Nat) : Int) == 48) = false := Zb Zo
   by_cases h46 : T[q].toNat = 46
   case' pos =>
    have h46i : (((T[q].toNat : Nat) : Int) == 46) = true := by rw [h46]; rfl
    obtain ⟨W, R, hrd⟩ := HS.out.dot hq (fun _ => h46)
    have hsz : (T.extract 0 q).size = q := by rw [ByteArray.size_extract]; omega
    obtain ⟨D, hD⟩ := Zh (T.extract 0 q)
    have HR := Zi hrd
    rw [← hD.out] at HR hsz
    clear h46 h48 hrd
    go_upto_region 10 with fail
    rw [← hD.out]
   case' neg =>
    have h46i : (((T[q].toNat : Nat) : Int) == 46) = false := Zb Zo
    obtain ⟨W, R, hrd⟩ := HS.out.nodot hq (fun _ => h46)
    have HR := Zi hrd
    clear h46 h48 hrd
    go_upto_region 10 with fail
    obtain ⟨D, hD⟩ : ∃ D, D = T := ⟨_, rfl⟩
    subst hD
   all_goals
    have RR := fun w => rread_p p hp D W R HR w
    cases v with
    | false =>
     go_wp2_with (first | (go_at_call 180; refine (RR _).mono ?_; rintro e9 w2 ⟨⟨n9, d9, g9, rfl⟩, hL⟩; replace HM := HM.call hL; clear hL; have sq := sa_rz n9 d9 (c := Bg.rZ 0 0) (rZ_size 0 0)) | ((with_reducible refine g_st ?_); refine a_st HM ?_; clear HM; intro w1 HM) | ((with_reducible refine g_al ?_); refine a_al HM ?_; clear HM; intro bk w1 HM))
     go_ret2
     exact ⟨⟨_, 32, rfl⟩, HM.low⟩
    | true =>
     go_upto_region 11 with (first | (go_at_call 180; refine (RR _).mono ?_; rintro e9 w2 ⟨⟨n9, d9, g9, rfl⟩, hL⟩; replace HM := HM.call hL; clear hL; have sq := sa_rz n9 d9 (c := Bg.rZ 0 0) (rZ_size 0 0)) | ((with_reducible refine g_st ?_); refine a_st HM ?_; clear HM; intro w1 HM) | ((with_reducible refine g_al ?_); refine a_al HM ?_; clear HM; intro bk w1 HM))
     cases g9 with
     | false =>
      go_wp2_with fail
      go_ret2
      exact ⟨⟨_, 32, rfl⟩, HM.low⟩
     | true =>
      go_wp2_with fail
      go_ret2
      exact ⟨⟨_, 0, rfl⟩, HM.low⟩
def Jb.tx : Option Rat → Int → Prop
 | none, e => e ≠ 0
 | some x, e => 0 ≤ x.num → Ac.Yes e (Ac.Txt x)
theorem text_o (o : Option Rat) (c : Array Value) (hv : Rt.Vc o c) (w : World) :
    Calls Tryz.prog 141 #[.agg c, .int .i64 6] w fun r w' => (∃ (s : ByteArray) (e : Int), r = .returned (.tuple #[.string s, .int .i64 e]) ∧ Hid (Jb.tx o e)) ∧ Below w.heap.size w w' := by
 cases o with
 | some x =>
  obtain ⟨hx, rfl⟩ := hv
  by_cases h : 0 ≤ x.num
  ·refine (text_any x hx h w).mono ?_
   exact z9_74
  ·refine (text_neg x hx Zo w).mono ?_
   exact z9_75
 | none =>
  obtain ⟨s, M, t, N, hM, hN, hb, rfl⟩ := hv
  have HM := Mem.start w
  have k0 := la_rat s M t N
  have V := fun w => valid_n s M t N false hM hN (Zi hb.symm) w
  have CK : ∀ w, Calls Tryz.prog 161 #[.agg (Bg.ratA s M t N), .int .i64 6] w fun e w' => e = .returned (.int .i64 20) ∧ Below w.heap.size w w' := fun w => by
   have HM := Mem.start w
   exact z9_61
  clear hb
  go_enter Tryz.func141, Tryz.ntmps141
  go_wp2_with (first | (go_at_call 161; (with_reducible refine Zc HM (CK _) ?_; clear HM; intro w2 HM)) | ((with_reducible refine g_ld ?_); refine a_ld HM ?_) | ((with_reducible refine g_bx ?_); refine a_bx HM ?_; clear HM; intro bk w1 HM))
  go_ret2
  exact ⟨⟨_, 20, rfl, Zi (show (20 : Int) ≠ 0 by decide)⟩, HM.low⟩
theorem rtext_o (o : Option Rat) (c : Array Value) (hv : Rt.Vc o c) (w : World) :
    Calls Tryz.prog 156 #[.agg c, .int .i64 6] w fun r w' => (∃ (s : ByteArray) (e : Int), r = .returned (.tuple #[.string s, .int .i64 e]) ∧ Hid (Jb.tx o e)) ∧ Below w.heap.size w w' := by
 cases o with
 | some x =>
  obtain ⟨hx, rfl⟩ := hv
  by_cases h : 0 ≤ x.num
  ·refine (rtext_any x hx h w).mono ?_
   exact z9_74
  ·refine (rtext_neg x hx Zo w).mono ?_
   exact z9_75
 | none =>
  obtain ⟨s, M, t, N, hM, hN, hb, rfl⟩ := hv
  have HM := Mem.start w
  have k0 := la_rat s M t N
  have V := fun w => rvalid_n s M t N false hM hN (Zi hb.symm) w
  have EX : ∀ w, Calls Tryz.prog 177 #[.agg (Bg.ratA s M t N), .int .i64 6] w fun e w' => e = .returned (.tuple #[.bool false, .int .i64 20]) ∧ Below w.heap.size w w' := fun w => by
   have HM := Mem.start w
   go_enter Tryz.func177, Tryz.ntmps177
   go_wp2_with (first | (go_at_call 181; (with_reducible refine Zc HM (V _) ?_; clear HM; intro w2 HM)) | ((with_reducible refine g_ld ?_); refine a_ld HM ?_) | ((with_reducible refine g_bx ?_); refine a_bx HM ?_; clear HM; intro bk w1 HM))
   go_ret2
   exact ⟨rfl, HM.low⟩
  clear hb
  go_enter Tryz.func156, Tryz.ntmps156
  go_wp2_with (first | (go_at_call 177; (with_reducible refine Zc HM (EX _) ?_; clear HM; intro w2 HM)) | ((with_reducible refine g_ld ?_); refine a_ld HM ?_) | ((with_reducible refine g_bx ?_); refine a_bx HM ?_; clear HM; intro bk w1 HM))
  go_ret2
  exact ⟨⟨_, 20, rfl, Zi (show (20 : Int) ≠ 0 by decide)⟩, HM.low⟩
end
end Go.Proofs.YtkiempioeffhbaaGreatDoor
