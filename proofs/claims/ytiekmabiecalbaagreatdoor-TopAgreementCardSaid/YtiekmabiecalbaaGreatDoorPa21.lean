/- Walks. -/
import Derived.Lib.SmallJoins
import Derived.Test.YtiekmabiecalbaaGreatDoorPa20
import Derived.Test.YtiekmabiecalbaaGreatDoorTaLay
namespace Go.Proofs.YtiekmabiecalbaaGreatDoor
set_option maxHeartbeats 16000000
open Go.RowKit
set_option maxRecDepth 8000
set_option linter.unusedSimpArgs false
set_option linter.unusedVariables false
section
theorem z9_73 {P : Prop} (h : P := by
 have HM := Mem.start w
 go_enter Tryz.func57, Tryz.ntmps57
 go_wp2_with (first | (go_at_call 100; (with_reducible refine Zc HM (C _) ?_; clear HM; intro w2 HM)) | fail)
 go_ret3
 exact ⟨rfl, HM.low⟩) : P := h
end
section
theorem ix_none (c : UInt8) : ∀ l : List UInt8, c ∉ l → Lib.indexByte l c = -1
 | [], _ => rfl
 | b :: l, h => by
  rw [List.mem_cons, not_or] at h
  rw [Lib.indexByte, if_neg (by simpa using fun e => h.1 e.symm), ix_none c l h.2]
  rfl
theorem ix_some (c : UInt8) (r : List UInt8) : ∀ l : List UInt8, c ∉ l → Lib.indexByte (l ++ c :: r) c = l.length
 | [], _ => by
  show Lib.indexByte (c :: r) c = 0
  rw [Lib.indexByte, if_pos Zs]
 | b :: l, h => by
  rw [List.mem_cons, not_or] at h
  have e := ix_some c r l h.2
  show Lib.indexByte (b :: (l ++ c :: r)) c = _
  rw [Lib.indexByte, if_neg (by simpa using fun e => h.1 e.symm), e, if_neg Zs]
  simp
theorem dig_u8 {d : Nat} (h : d < 10) : (UInt8.ofNat (d + 48)).toNat = d + 48 := by
 rw [UInt8.toNat_ofNat']; omega
theorem dec_from : ∀ (D : List Nat) (acc : Nat), Tx.Dg D → Lib.decFrom acc (D.map fun d => UInt8.ofNat (d + 48)) = some (acc * 10 ^ D.length + Tx.val D)
 | [], acc, _ => by simp [Lib.decFrom, Tx.val]
 | d :: D, acc, h => by
  have hd := h d List.mem_cons_self
  rw [List.map_cons, Lib.decFrom]
  have e : Lib.digitVal (UInt8.ofNat (d + 48)) = some d := by
   unfold Lib.digitVal
   rw [dig_u8 hd, if_pos ⟨by omega, by omega⟩]
   simp
  rw [e]
  show Lib.decFrom (acc * 10 + d) _ = _
  rw [dec_from D _ (fun c hc => h c (List.mem_cons_of_mem _ hc)), Tx.val_cons, List.length_cons, Nat.pow_succ]
  congr 1
  rw [Nat.add_mul, Nat.mul_assoc, Nat.mul_comm 10, Nat.add_assoc]
theorem Tx.str_list (D : List Nat) : (Tx.str D).data.toList = D.map fun d => UInt8.ofNat (d + 48) := rfl
theorem atoi_str {D : List Nat} (h : Tx.Dg D) (h0 : 1 ≤ D.length) : Lib.atoi (Tx.str D).data.toList = some (Tx.val D : Nat) := by
 have e := dec_from D 0 h
 rw [Tx.str_list]
 cases D with
 | nil => simp at h0
 | cons d D =>
  have hd := dig_u8 (h d List.mem_cons_self)
  rw [List.map_cons] at e ⊢
  rw [Lib.atoi, if_neg (by simp only [beq_iff_eq]; intro h9; rw [h9] at hd; simp at hd), if_neg (by simp only [beq_iff_eq]; intro h9; rw [h9] at hd; simp at hd)]
  unfold Lib.decNat
  rw [if_neg Zs, e]
  simp
theorem atoi_x (D : List Nat) (h : Tx.Dg D) (h0 : 1 ≤ D.length) (hl : D.length ≤ 18) (w : World) :
    Calls Tryz.prog 59 #[.string (Tx.str D)] w fun e w' => e = .returned (.tuple #[.int .i64 (Tx.val D : Nat), .nilIface]) ∧ Below w.heap.size w w' := by
 refine (Tryz.strconv_Atoi (Tx.str D) (Tx.val D : Nat) (by rw [Tx.str_len]; exact hl) (atoi_str h h0) w).mono ?_
 rintro e w' ⟨he, t, rfl⟩
 exact ⟨he, Go.Joins.below_bytesWorld _ _ _ _ (Nat.le_refl _)⟩
theorem index_x (s : ByteArray) (hs : ([46] == s.toList) = false) (w : World) :
    Calls Tryz.prog 141 #[.string s, .string { data := #[46] }] w fun e w' => e = .returned (.int .i64 (Lib.indexByte s.data.toList 46)) ∧ w' = w := by
 have IB := fun w => Tryz.stringslite_IndexByte s 46 w
 have e46 : (46 : Int).toNat.toUInt8 = 46 := by decide
 rw [e46] at IB
 generalize Lib.indexByte s.data.toList 46 = n at *
 go_enter Tryz.func141, Tryz.ntmps141
 go_wp2_with (go_at_call 53; refine (IB _).mono ?_; rintro e9 w9 ⟨rfl, rfl⟩)
 go_ret
 exact ⟨rfl, rfl⟩
theorem cutl_no (s : ByteArray) (hs : ([46] == s.toList) = false) (hi : Lib.indexByte s.data.toList 46 = -1) (w : World) :
    Calls Tryz.prog 57 #[.string s, .string { data := #[46] }] w fun e w' => e = .returned (.tuple #[.string s, .string { data := #[] }, .bool false]) ∧ Below w.heap.size w w' := by
 have IX := fun w => index_x s hs w
 rw [hi] at IX
 have C : ∀ w, Calls Tryz.prog 100 #[.string s, .string { data := #[46] }] w fun e w' => e = .returned (.tuple #[.string s, .string { data := #[] }, .bool false]) ∧ Below w.heap.size w w' := fun w => by
  have HM := Mem.start w
  go_enter Tryz.func100, Tryz.ntmps100
  go_wp2_with (go_at_call 141; refine (IX _).mono ?_; rintro e9 w9 ⟨rfl, rfl⟩)
  go_ret3
  exact ⟨rfl, HM.low⟩
 exact z9_73
theorem cutl_yes (s a b : ByteArray) (hs : ([46] == s.toList) = false) (hi : Lib.indexByte s.data.toList 46 = (a.size : Nat)) (hsz : s.size = a.size + 1 + b.size) (ha : s.extract 0 a.size = a) (hb : s.extract (a.size + 1) s.size = b) (hl : s.size ≤ 1000) (w : World) :
    Calls Tryz.prog 57 #[.string s, .string { data := #[46] }] w fun e w' => e = .returned (.tuple #[.string a, .string b, .bool true]) ∧ Below w.heap.size w w' := by
 have IX := fun w => index_x s hs w
 rw [hi] at IX
 obtain ⟨n, hn⟩ := Zh (a.size)
 rw [← hn.out] at IX hsz ha hb
 obtain ⟨m, hm⟩ : ∃ m, m = n + 1 := ⟨_, rfl⟩
 rw [← hm] at hb hsz
 have hm2 : (n : Int) + 1 = (m : Nat) := by omega
 have hml : m ≤ s.size := by omega
 have hnl : n ≤ s.size := by omega
 obtain ⟨z, hz⟩ : ∃ z, z = s.size := ⟨_, rfl⟩
 rw [← hz] at hb
 have hz2 : s.size = z := hz.symm
 have HA := Zi ha
 have HB := Zi hb
 clear hi hsz ha hb hz hm
 have C : ∀ w, Calls Tryz.prog 100 #[.string s, .string { data := #[46] }] w fun e w' => e = .returned (.tuple #[.string a, .string b, .bool true]) ∧ Below w.heap.size w w' := fun w => by
  have HM := Mem.start w
  go_enter Tryz.func100, Tryz.ntmps100
  go_upto_region 3 with (go_at_call 141; refine (IX _).mono ?_; rintro e9 w9 ⟨rfl, rfl⟩)
  refine start_M [] HM Zk (fun w0x H9 => ?_)
  replace HM := H9; clear H9
  refine k_mv 0 (heldE HM) ?_
  refine k_mv 1 (heldE HM) ?_
  refine t_pure (i := 2) (v := .string (s.extract 0 n)) rfl rfl Zk (fun _ _ _ h => h) (heldE HM) Zv ?_ ?_; (focus ((intro w9; first | (go_simp; done) | (go_simp; rfl) | (go_simp; intro h9; omega)))); ((try simp only [Za]); (try simp only [Zx]); (try simp only [Zy]))
  refine k_mv 3 (heldE HM) ?_
  refine k_mv 4 (heldE HM) ?_
  refine k_mv 5 (heldE HM) ?_
  refine k_pv 6 (heldE HM) ?_
  refine k_add 7 (heldE HM) ?_
  refine t_pure (i := 8) (v := .string (s.extract m z)) rfl rfl Zk (fun _ _ _ h => h) (heldE HM) Zv ?_ ?_; (focus ((intro w9; first | (go_simp; done) | (go_simp; rfl) | (go_simp; intro h9; omega)))); ((try simp only [Za]); (try simp only [Zx]); (try simp only [Zy]))
  refine k_mv 9 (heldE HM) ?_
  refine k_mv 10 (heldE HM) ?_
  refine k_mv 11 (heldE HM) ?_
  refine wpAnyL_done Zk ?_ _
  go_wp2_with fail
  go_ret3
  exact ⟨by rw [← HA.out, ← HB.out]; rfl, HM.low⟩
 exact z9_73
end
section
theorem z9_75 {P : Prop} (h : P := by
 go_enter Tryz.func30, Tryz.ntmps30
 go_upto_region 12 with (first | (go_at_call 56; (with_reducible refine Zc HM (CP _) ?_; clear HM; intro w2 HM)) | (go_at_call 57; (with_reducible refine Zc HM (CU _) ?_; clear HM; intro w2 HM)) | (go_at_call 58; (with_reducible refine Zc HM (DW _) ?_; clear HM; intro w2 HM)) | (go_at_call 59; (with_reducible refine Zc HM (AW _) ?_; clear HM; intro w2 HM)) | (go_at_call 59; (with_reducible refine Zc HM (AQ _) ?_; clear HM; intro w2 HM)) | (go_at_call 61; (with_reducible refine Zc HM (PW _) ?_; clear HM; intro w2 HM)) | (go_at_call 60; (with_reducible refine Zc HM (OF _) ?_; clear HM; intro w2 HM)) | (first | ((with_reducible refine g_ld ?_); refine a_ld HM ?_) | ((with_reducible refine g_st ?_); refine a_st HM ?_; clear HM; intro w1 HM) | ((with_reducible refine g_al ?_); refine a_al HM ?_; clear HM; intro bk w1 HM) | ((with_reducible refine g_bld ?_); refine a_bld ?_)))
 refine start_M [7] HM Zk (fun w0x H9 => ?_)
 replace HM := H9; clear H9
 refine k_mv 0 (heldE HM) ?_
 refine k_ld 2 [3, 4, 5, 6, 7] (heldE HM) ?_
 refine j_one 1 fun K9 hK9 => ?_
 refine j_call1 (v := ?_) HM ?_ ?_; rotate_left 1; (focus (with_reducible (first | exact WH _ | exact AD _))); clear HM; intro w1 HM
 refine hK9 _ _ (heldE HM) ?_; clear hK9 K9
 refine j_one 3 fun K9 hK9 => ?_
 refine j_call2 (v := ?_) HM ?_ ?_; rotate_left 1; (focus (with_reducible (first | exact WH _ | exact AD _))); clear HM; intro w1 HM
 refine hK9 _ _ (heldE HM) ?_; clear hK9 K9
 refine k_mv 4 (heldE HM) ?_
 refine k_ext 5 (heldE HM) ?_
 refine k_ext 6 (heldE HM) ?_
 refine j_one 7 fun K9 hK9 => ?_
 refine j_st HM ?_; clear HM; intro w1 HM
 refine hK9 _ _ heldN ?_; clear hK9 K9
 refine wpAnyL_done Zk ?_ _
 (go_wp2_with (first | ((with_reducible refine g_ld ?_); refine a_ld HM ?_) | ((with_reducible refine g_st ?_); refine a_st HM ?_; clear HM; intro w1 HM) | ((with_reducible refine g_al ?_); refine a_al HM ?_; clear HM; intro bk w1 HM) | ((with_reducible refine g_bld ?_); refine a_bld ?_)); exact bodyPost_ret (r_ct rfl rfl (HM.get Zl) lx) rfl ⟨rfl, HM.low⟩)) : P := h
theorem z9_76 {P : Prop} (h : P := by
 go_enter Tryz.func30, Tryz.ntmps30
 go_upto_region 12 with (first | (go_at_call 56; (with_reducible refine Zc HM (CP _) ?_; clear HM; intro w2 HM)) | (go_at_call 57; (with_reducible refine Zc HM (CU _) ?_; clear HM; intro w2 HM)) | (go_at_call 58; (with_reducible refine Zc HM (DW _) ?_; clear HM; intro w2 HM)) | (go_at_call 58; (with_reducible refine Zc HM (DQ _) ?_; clear HM; intro w2 HM)) | (go_at_call 59; (with_reducible refine Zc HM (AW _) ?_; clear HM; intro w2 HM)) | (go_at_call 59; (with_reducible refine Zc HM (AQ _) ?_; clear HM; intro w2 HM)) | (go_at_call 61; (with_reducible refine Zc HM (PW _) ?_; clear HM; intro w2 HM)) | (go_at_call 60; (with_reducible refine Zc HM (OF _) ?_; clear HM; intro w2 HM)) | (first | ((with_reducible refine g_ld ?_); refine a_ld HM ?_) | ((with_reducible refine g_st ?_); refine a_st HM ?_; clear HM; intro w1 HM) | ((with_reducible refine g_al ?_); refine a_al HM ?_; clear HM; intro bk w1 HM) | ((with_reducible refine g_bld ?_); refine a_bld ?_)))
 refine start_M [7] HM Zk (fun w0x H9 => ?_)
 replace HM := H9; clear H9
 refine k_mv 0 (heldE HM) ?_
 refine k_ld 2 [3, 4, 5, 6, 7] (heldE HM) ?_
 refine j_one 1 fun K9 hK9 => ?_
 refine j_call1 (v := ?_) HM ?_ ?_; rotate_left 1; (focus (with_reducible (first | exact WH _ | exact AD _))); clear HM; intro w1 HM
 refine hK9 _ _ (heldE HM) ?_; clear hK9 K9
 refine j_one 3 fun K9 hK9 => ?_
 refine j_call2 (v := ?_) HM ?_ ?_; rotate_left 1; (focus (with_reducible (first | exact WH _ | exact AD _))); clear HM; intro w1 HM
 refine hK9 _ _ (heldE HM) ?_; clear hK9 K9
 refine k_mv 4 (heldE HM) ?_
 refine k_ext 5 (heldE HM) ?_
 refine k_ext 6 (heldE HM) ?_
 refine j_one 7 fun K9 hK9 => ?_
 refine j_st HM ?_; clear HM; intro w1 HM
 refine hK9 _ _ heldN ?_; clear hK9 K9
 refine wpAnyL_done Zk ?_ _
 (go_wp2_with (first | ((with_reducible refine g_ld ?_); refine a_ld HM ?_) | ((with_reducible refine g_st ?_); refine a_st HM ?_; clear HM; intro w1 HM) | ((with_reducible refine g_al ?_); refine a_al HM ?_; clear HM; intro bk w1 HM) | ((with_reducible refine g_bld ?_); refine a_bld ?_)); exact bodyPost_ret (r_ct rfl rfl (HM.get Zl) lx) rfl ⟨rfl, HM.low⟩)) : P := h
end
section
theorem of_q2 (n d : Int) (x : Rat) (hn1 : -9223372036854775808 ≤ n) (hn2 : n < 9223372036854775808) (hd1 : -9223372036854775808 ≤ d) (hd2 : d < 9223372036854775808) (h0 : d ≠ 0) (hx : Hid (x = Rat.divInt n d)) (w : World) :
    Calls Tryz.prog 60 #[.int .i64 n, .int .i64 d] w fun r w' => r = .returned (.tuple #[.agg (Rt.qA x), .int .i64 0]) ∧ Below w.heap.size w w' := by
 rw [qA_rZ]
 exact of_n n d _ _ 0 hn1 hn2 hd1 hd2 (Rt.mk_q h0 (small_480 (z := n) Zo) (small_480 (z := d) Zo) hx.out) w
namespace Ac
theorem dec_ns (W Q : List Nat) (hW : Tx.Dg W) (hQ : Tx.Dg Q) : Tx.ns (dec W Q) = W.map (· + 48) ++ (if Q = [] then [] else 46 :: Q.map (· + 48)) := by
 unfold dec
 by_cases h : Q = []
 ·rw [if_pos h, if_pos h, Tx.ns_str W hW, List.append_nil]
 ·rw [if_neg h, if_neg h, Tx.ns_app, Tx.ns_app, Tx.ns_str W hW, Tx.ns_str Q hQ]; rfl
theorem dec_head {W Q : List Nat} {n : Nat} (h : DecOf n W Q) : ∃ c, W[0]? = some c ∧ c < 10 ∧ ∃ h9 : 0 < (dec W Q).size, (dec W Q)[0].toNat = c + 48 := by
 have h0 := h.w0
 cases hW : W with
 | nil => rw [hW] at h0; simp at h0
 | cons c r =>
  refine ⟨c, rfl, h.dw c (by rw [hW]; exact List.mem_cons_self), ?_⟩
  rw [← hW]
  exact Tx.ns_at (dec_ns W Q h.dw h.dq) (by rw [hW]; rfl)
theorem dec_cut {W Q : List Nat} {n : Nat} (h : DecOf n W Q) : Tx.cut (dec W Q) = (dec W Q, false) := by
 obtain ⟨c, -, hc, h9, e⟩ := dec_head h
 exact Tx.cut_pos _ fun _ h45 => by omega
theorem dec_dot {W Q : List Nat} {n : Nat} (h : DecOf n W Q) : ([46] == (dec W Q).toList) = false := by
 obtain ⟨c, -, hc, h9, e⟩ := dec_head h
 cases hb : ([46] == (dec W Q).toList) with
 | false => rfl
 | true =>
  have e2 := (beq_iff_eq.1 hb).symm
  rw [ByteArray.toList_eq] at e2
  have e3 : Tx.ns (dec W Q) = [46] := by unfold Tx.ns; rw [e2]; rfl
  have e4 := Tx.ns_get (dec W Q) h9
  rw [e3] at e4
  have : (46 : Nat) = (dec W Q)[0].toNat := Option.some.inj e4
  omega
theorem dg_no {D : List Nat} (h : Tx.Dg D) {c : UInt8} (hc : c.toNat < 48) : c ∉ (Tx.str D).data.toList := fun hm => by
 rw [Tx.str_list] at hm
 obtain ⟨d, hd, e⟩ := List.mem_map.1 hm
 have := dig_u8 (h d hd)
 rw [e] at this
 omega
theorem val_dec {W Q : List Nat} {n : Nat} (h : DecOf n W Q) : ((Tx.val W : Int) : Rat) + Rat.divInt (Tx.val Q) ((10 ^ Q.length : Nat) : Int) = Rat.divInt n 1000000 := by
 have hq := h.q1
 have e1 : (10 ^ Q.length : Nat) * 10 ^ (6 - Q.length) = 1000000 := by
  rw [← Nat.pow_add, show Q.length + (6 - Q.length) = 6 by omega]
 have hP : ((10 ^ Q.length : Nat) : Int) ≠ 0 := by have := Nat.pow_pos (n := Q.length) (show 0 < 10 by decide); omega
 have hR : ((10 ^ (6 - Q.length) : Nat) : Int) ≠ 0 := by have := Nat.pow_pos (n := 6 - Q.length) (show 0 < 10 by decide); omega
 rw [← h.val, Rt.int_divInt (Tx.val W : Int), Rat.divInt_add_divInt _ _ Zd hP]
 have e2 : (1000000 : Int) = ((10 ^ Q.length : Nat) : Int) * ((10 ^ (6 - Q.length) : Nat) : Int) := by
  rw [← Int.natCast_mul, e1]; rfl
 rw [e2, Int.natCast_mul, Rat.divInt_mul_right hR]
 congr 1
 ·rw [Int.natCast_add, Int.natCast_mul, Int.mul_one]
 ·rw [Int.one_mul]
end Ac
theorem ba_left (a c s : ByteArray) (hs : s = a ++ c) : s.extract 0 a.size = a := by
 refine ByteArray.ext (Array.toList_inj.1 ?_)
 rw [hs, ByteArray.data_extract, Array.toList_extract, ByteArray.data_append, Array.toList_append, List.extract_eq_take_drop, List.drop_zero, Nat.sub_zero]
 exact List.take_left' (Array.length_toList)
theorem ba_right (a c s : ByteArray) (k : Nat) (hs : s = a ++ c) (hk : a.size = k) : s.extract k s.size = c := by
 refine ByteArray.ext (Array.toList_inj.1 ?_)
 rw [hs, ByteArray.data_extract, Array.toList_extract, ByteArray.data_append, Array.toList_append, List.extract_eq_take_drop, ByteArray.size_append, ← hk]
 rw [List.drop_left' (show a.data.toList.length = a.size from Array.length_toList), Nat.add_sub_cancel_left, List.take_of_length_le (show c.data.toList.length ≤ c.size from Nat.le_of_eq Array.length_toList)]
theorem parse_x (W Q : List Nat) (n : Nat) (h : Ac.DecOf n W Q) (x : Rat) (hx : Hid (x = Rat.divInt n 1000000)) (hf : Rt.Fit x) (w : World) :
    Calls Tryz.prog 30 #[.string (Ac.dec W Q), .int .i64 6] w fun e w' => e = .returned (.tuple #[.agg (Rt.qA x), .int .i64 0]) ∧ Below w.heap.size w w' := by
 have HM := Mem.start w
 have zr := za_rat
 have hct := Ac.dec_cut h
 have CP := fun w => belt (cp_any (Ac.dec W Q) (Ac.dec W Q) false (Zi hct.symm) w)
 have hw0 := h.w0
 have hw1 := h.w1
 have hq1 := h.q1
 have DW := fun w => below_eq (digits_x W h.dw 1 15 Zo Zo Zo w)
 have AW := fun w => atoi_x W h.dw hw0 Zo w
 have hvW : Tx.val W < 10 ^ 15 := Nat.lt_of_lt_of_le (Tx.val_lt W h.dw) (Nat.pow_le_pow_right Zd hw1)
 have hvQ : Tx.val Q < 10 ^ 6 := Nat.lt_of_lt_of_le (Tx.val_lt Q h.dq) (Nat.pow_le_pow_right Zd hq1)
 have hp0 : (10 ^ Q.length : Nat) ≤ 10 ^ 6 := Nat.pow_le_pow_right Zd hq1
 have hp1 : 1 ≤ (10 ^ Q.length : Nat) := Nat.pow_pos Zd
 obtain ⟨y, hy⟩ := Zh (Rat.divInt (Tx.val Q) ((10 ^ Q.length : Nat) : Int))
 obtain ⟨v, hv⟩ := Zh (((Tx.val W : Int) : Rat))
 have OF := fun w => of_q2 (Tx.val Q) ((10 ^ Q.length : Nat) : Int) y Zo Zo Zo Zo Zo hy w
 have PW := fun w => below_eq (power_any Q.length Zo w)
 have WH := fun w => whole_q (Tx.val W) v Zo Zo hv w
 have e20 : Bg.p2 20 = 1048576 := by unfold Bg.p2; rfl
 have e50 : Bg.p2 50 = 1125899906842624 := by unfold Bg.p2; rfl
 have e01 : Bg.p2 1 = 2 := by unfold Bg.p2; rfl
 have fy : Rt.Fit y := by
  rw [hy.out]
  exact (Rt.Bd.divInt (i := 20) (j := 20) Zo Zo Zo).fit
 have fv : Rt.Fit v := by
  rw [hv.out, Rt.int_divInt]
  exact (Rt.Bd.divInt (i := 50) (j := 1) Zd Zo Zo).fit
 have hsum : x = v + y := by rw [hx.out, hv.out, hy.out, Ac.val_dec h]
 have AD := fun w => add_q v y x fv fy (Zi hsum) hf w
 have hp10 : Ac.p10 Q.length = ((10 ^ Q.length : Nat) : Int) := by unfold Ac.p10; simp
 rw [hp10] at PW
 have hdot := Ac.dec_dot h
 have s1 := sa_q y (c := Bg.rZ 0 0) (rZ_size 0 0)
 have s2 := sa_q x (c := Rt.qA y) (qA_size y)
 have s3 := sa_q x (c := Bg.rZ 0 0) (rZ_size 0 0)
 have ly := la_q y
 have lx := la_q x
 -- the text ahead of the point: no 0 ahead of another digit
 obtain ⟨a, ha⟩ := Zh (Tx.str W)
 have has : a.size = W.length := by rw [ha.out, Tx.str_len]
 have ha0 : Hid (1 < a.size → ∃ h9 : 0 < a.size, ¬ (a[0].toNat : Int) = 48) := Zi (by
  intro h1
  obtain ⟨c, hc, hc9, -⟩ := Ac.dec_head h
  refine ⟨by omega, ?_⟩
  obtain ⟨h9, e9⟩ := Tx.str_at h.dw hc
  have hne := h.hd Zo
  rw [hc] at hne
  have : ∀ (u : ByteArray) (hu : 0 < u.size), u = Tx.str W → u[0].toNat = c + 48 := fun u hu e => by subst e; exact e9
  have := this a Zo ha.out
  have h0 : c ≠ 0 := fun e => hne (by rw [e])
  omega)
 have HDOF := Zi h
 have hasz : 1 ≤ a.size ∧ a.size ≤ 15 := by omega
 obtain ⟨has1, has2⟩ := hasz
 by_cases hQ : Q = []
 ·have hdec : Ac.dec W Q = a := by unfold Ac.dec; rw [if_pos hQ, ha.out]
  rw [hdec] at CP hdot ⊢
  have CU := fun w => cutl_no a hdot (ix_none 46 _ (by rw [ha.out]; exact Ac.dg_no h.dw Zd)) w
  have AQ := fun w => atoi_x [0] (by intro c hc; rw [List.mem_singleton.1 hc]; decide) Zd Zd w
  have e0 : Tx.str [0] = ({ data := #[48] } : ByteArray) ++ { data := #[] } := by decide +kernel
  have v0 : Tx.val [0] = 0 := by decide
  have v1 : Tx.val Q = 0 := by rw [hQ]; rfl
  have l1 : Q.length = 0 := by rw [hQ]; rfl
  rw [e0, v0] at AQ
  rw [v1, l1] at OF
  rw [l1] at PW
  rw [show ((0 : Nat) : Int) = 0 from rfl] at AQ OF PW
  rw [show ((10 ^ 0 : Nat) : Int) = 1 from rfl] at OF PW
  rw [← ha.out] at DW AW
  generalize Tx.val W = vW at *
  clear hct hdec hq1 hvQ hp0 hp1 hp10 hsum hy hv hx hQ e0 v0 v1 l1 has h fy fv hw0 hw1
  by_cases h1 : 1 < a.size
  ·obtain ⟨h9, hne⟩ := ha0.out h1
   have h1' : (1 : Int) < a.size := by omega
   exact z9_75
  ·have h1' : ¬ (1 : Int) < a.size := by omega
   exact z9_75
 ·obtain ⟨b, hb⟩ := Zh (Tx.str Q)
  have hbs : b.size = Q.length := by rw [hb.out, Tx.str_len]
  have hb1 : 1 ≤ b.size := by
   have : Q.length ≠ 0 := fun h => hQ (List.length_eq_zero_iff.1 h)
   omega
  have hb6 : b.size ≤ 6 := by omega
  obtain ⟨s, hs⟩ : ∃ s, s = a ++ (({ data := #[46] } : ByteArray) ++ b) := ⟨_, rfl⟩
  have hdec : Ac.dec W Q = s := by unfold Ac.dec; rw [if_neg hQ, hs, ha.out, hb.out]
  have hsz : s.size = a.size + 1 + b.size := by
   rw [hs, ByteArray.size_append, ByteArray.size_append]
   show a.size + (1 + b.size) = _
   omega
  rw [hdec] at CP hdot ⊢
  have hsl : s.data.toList = a.data.toList ++ 46 :: b.data.toList := by
   rw [hs, ByteArray.data_append, Array.toList_append, ByteArray.data_append, Array.toList_append]; rfl
  have CU := fun w => cutl_yes s a b hdot (by
      rw [hsl, ix_some 46 _ _ (by rw [ha.out]; exact Ac.dg_no h.dw Zd)]
      show ((a.data.toList.length : Nat) : Int) = _
      rw [Array.length_toList]; rfl) hsz (ba_left a _ s hs) (by
      rw [hs, ByteArray.append_assoc.symm]
      exact ba_right (a ++ { data := #[46] }) b _ _ rfl (by rw [ByteArray.size_append]; rfl)) Zo w
  have DQ := fun w => below_eq (digits_x Q h.dq 1 6 Zo Zo Zo w)
  have AQ := fun w => atoi_x (0 :: Q) (by intro c hc; rcases List.mem_cons.1 hc with rfl | hc; (decide); exact h.dq c hc) Zs (by rw [List.length_cons]; omega) w
  have e0 : Tx.str (0 :: Q) = ({ data := #[48] } : ByteArray) ++ b := by rw [Tx.str_cons, hb.out]; rfl
  have v0 : Tx.val (0 :: Q) = Tx.val Q := by rw [Tx.val_cons, Nat.zero_mul, Nat.zero_add]
  rw [e0, v0] at AQ
  rw [← hb.out] at DQ
  rw [← hbs] at OF PW hp0 hp1
  rw [← ha.out] at DW AW
  generalize Tx.val W = vW at *
  generalize Tx.val Q = vQ at *
  generalize (10 ^ b.size : Nat) = pp at *
  clear hct hdec hq1 hp10 hsum hy hv hx hQ e0 v0 has h fy fv hw0 hw1 hs hsz hsl hbs
  by_cases h1 : 1 < a.size
  ·obtain ⟨h9, hne⟩ := ha0.out h1
   have h1' : (1 : Int) < a.size := by omega
   exact z9_76
  ·have h1' : ¬ (1 : Int) < a.size := by omega
   exact z9_76
end
end Go.Proofs.YtiekmabiecalbaaGreatDoor
