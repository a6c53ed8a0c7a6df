/- Sum, of any list of values. -/
import Derived.Test.YtekfabhmopkapaaRatB
import Derived.Test.YtekfabhmopkapaaField
import Derived.Test.YtekfabhmopkapaaSlicesB
namespace Go.Proofs.Ytekfabhmopkapaa
set_option maxRecDepth 8000
open Go.RowKit
/-- Cells that hold a valid ratio, or one that is not valid. -/
def Rt.Vc : Option Rat → Array Value → Prop
  | some x, c => Rt.Fit x ∧ c = Rt.qA x
  | none, c => ∃ s M t N, M < Bg.lim ∧ N < Bg.lim ∧ Rt.ok s M t N = false ∧ c = Bg.ratA s M t N
theorem Rt.Vc.size {o : Option Rat} {c : Array Value} (h : Rt.Vc o c) : c.size = 66 := by
  cases o with
  | some x => obtain ⟨_, rfl⟩ := h; exact qA_size x
  | none => obtain ⟨s, M, t, N, _, _, _, rfl⟩ := h; exact ratA_size _ _ _ _
theorem Rt.Vc.one {o : Option Rat} {c : Array Value} (h : Rt.Vc o c) : c.all (·.oneCell') = true := by
  cases o with
  | some x => obtain ⟨_, rfl⟩ := h; exact qA_one x
  | none => obtain ⟨s, M, t, N, _, _, _, rfl⟩ := h; exact ratA_one _ _ _ _
theorem la_c {c : Array Value} (h : c.size = 66) : LA 27 c 0 (.agg c) := LA.whole (by kernel_rfl) (by rw [h]; exact sT_rat)
theorem sa_c {c d : Array Value} (h : d.size = 66) (h1 : d.all (·.oneCell') = true) (hc : c.size = 66) : SA 27 c 0 (.agg d) d := SA.whole (by rw [h]; exact sT_rat) h1 (by rw [h, hc])
/-- Any cells of a ratio are of one kind. -/
theorem Rt.vc_any {s t : Bool} {M N : Nat} (hM : M < Bg.lim) (hN : N < Bg.lim) : ∃ o, Rt.Vc o (Bg.ratA s M t N) := by
  cases h : Rt.ok s M t N with
  | true =>
    obtain ⟨x, hx, e, _⟩ := Rt.ok_rat hM hN h
    exact ⟨some x, hx, e⟩
  | false => exact ⟨none, s, M, t, N, hM, hN, h, rfl⟩
/-- A sum goes on: the total or the error. -/
noncomputable def Rt.addV (acc : Rat) : Option Rat → Array Value × Int
  | some x => Rt.res (acc + x)
  | none => (Bg.rZ 0 0, 20)
theorem add_v (x : Rat) (o : Option Rat) (d c : Array Value) (e : Int) (hx : Rt.Fit x) (hd : Rt.Vc o d) (hr : Hid ((c, e) = Rt.addV x o)) (w : World) :
    Calls Try.prog 22 #[.agg (Rt.qA x), .agg d] w fun r w' => r = .returned (.tuple #[.agg c, .int .i64 e]) ∧ Below w.heap.size w w' := by
  cases o with
  | some y => obtain ⟨hy, rfl⟩ := hd; exact add_r x y c e hx hy hr w
  | none =>
    obtain ⟨s, M, t, N, hM, hN, hk, rfl⟩ := hd
    obtain ⟨rfl, rfl⟩ : c = Bg.rZ 0 0 ∧ e = 20 := by simpa [Rt.addV] using hr.out
    rw [qA_rZ, rZ_ratA x.num]
    exact add_g _ _ _ _ _ _ _ _ 0 0 20 hx.ln hx.ld hM hN (Lib.hid (by rw [hk, Bool.and_false]; rfl)) w
theorem radd_v (x : Rat) (o : Option Rat) (d c : Array Value) (e : Int) (hx : Rt.Fit x) (hd : Rt.Vc o d) (hr : Hid ((c, e) = Rt.addV x o)) (w : World) :
    Calls Try.prog 32 #[.agg (Rt.qA x), .agg d] w fun r w' => r = .returned (.tuple #[.agg c, .int .i64 e]) ∧ Below w.heap.size w w' := by
  cases o with
  | some y => obtain ⟨hy, rfl⟩ := hd; exact radd_r x y c e hx hy hr w
  | none =>
    obtain ⟨s, M, t, N, hM, hN, hk, rfl⟩ := hd
    obtain ⟨rfl, rfl⟩ : c = Bg.rZ 0 0 ∧ e = 20 := by simpa [Rt.addV] using hr.out
    rw [qA_rZ, rZ_ratA x.num]
    exact rAdd_g _ _ _ _ _ _ _ _ 0 0 20 hx.ln hx.ld hM hN (Lib.hid (by rw [hk, Bool.and_false]; rfl)) w
/-- The sum of a list, from a total on. -/
noncomputable def Rt.sumV (acc : Rat) : List (Option Rat) → Option Rat × Int
  | [] => (some acc, 0)
  | none :: _ => (none, 20)
  | some x :: l => open Classical in if Rt.Fit (acc + x) then Rt.sumV (acc + x) l else (none, 10)
/-- Its cells. -/
def Rt.outV : Option Rat → Array Value
  | some x => Rt.qA x
  | none => Bg.rZ 0 0
theorem Rt.step (acc : Rat) (o : Option Rat) (l : List (Option Rat)) : (∃ z, Rt.Fit z ∧ Rt.addV acc o = (Rt.qA z, 0) ∧ Rt.sumV acc (o :: l) = Rt.sumV z l) ∨ (∃ e : Int, e ≠ 0 ∧ Rt.addV acc o = (Bg.rZ 0 0, e) ∧ Rt.sumV acc (o :: l) = (none, e)) := by
  cases o with
  | none => exact .inr ⟨20, by decide, rfl, rfl⟩
  | some x =>
    by_cases h : Rt.Fit (acc + x)
    · exact .inl ⟨acc + x, h, (Rt.res_fit h).symm, by rw [Rt.sumV, if_pos h]⟩
    · exact .inr ⟨10, by decide, by show Rt.res _ = _; unfold Rt.res; rw [if_neg h], by rw [Rt.sumV, if_neg h]⟩
inductive Rt.Vcs : List (Option Rat) → List (Array Value) → Prop
  | nil : Rt.Vcs [] []
  | cons {o : Option Rat} {c : Array Value} {os : List (Option Rat)} {cs : List (Array Value)} (h : Rt.Vc o c) (t : Rt.Vcs os cs) : Rt.Vcs (o :: os) (c :: cs)
theorem Rt.Vcs.len {os : List (Option Rat)} {cs : List (Array Value)} (h : Rt.Vcs os cs) : os.length = cs.length := by
  induction h with
  | nil => rfl
  | cons _ _ ih => simp [ih]
theorem Rt.Vcs.at_ {os : List (Option Rat)} {cs : List (Array Value)} (h : Rt.Vcs os cs) : ∀ {k : Nat}, k < cs.length → ∃ o c, cs[k]? = some c ∧ Rt.Vc o c ∧ os.drop k = o :: os.drop (k + 1) := by
  induction h with
  | nil => intro k hk; simp at hk
  | cons h t ih =>
    intro k hk
    match k with
    | 0 => exact ⟨_, _, rfl, h, rfl⟩
    | k + 1 =>
      obtain ⟨o, c, h1, h2, h3⟩ := ih (k := k) (by simpa using hk)
      exact ⟨o, c, by simpa using h1, h2, by simpa using h3⟩
theorem Rt.Vcs.sizes {os : List (Option Rat)} {cs : List (Array Value)} (h : Rt.Vcs os cs) : ∀ c ∈ cs, c.size = 66 := by
  induction h with
  | nil => simp
  | cons h t ih => intro c hc; rcases List.mem_cons.1 hc with rfl | hc <;> first | exact h.size | exact ih c hc
set_option maxHeartbeats 4000000 in
theorem sum_v (sv : Value) (m : List (Array Value)) (os : List (Option Rat)) (w : World) (hR : RdS 66 w sv m) (hv : Rt.Vcs os m) (hl : m.length ≤ 4611686018427387904) (o : Option Rat) (e : Int) (hr : Hid ((o, e) = Rt.sumV 0 os)) :
    Calls Try.prog 29 #[sv] w fun r w' => r = .returned (.tuple #[.agg (Rt.outV o), .int .i64 e]) ∧ Below w.heap.size w w' := by
  have HM := Mem.start w
  have HV := Lib.hid hv
  have HR := Lib.hid hR
  obtain ⟨hs, A, cap, rfl, hc, _⟩ := hR
  clear hv hs
  have hz0 := za_rat
  have s0 := sa_q 0 (rZ_size 0 0)
  obtain ⟨x0, hx0⟩ : ∃ x : Rat, Hid (x = ((0 : Int) : Rat)) := ⟨_, rfl⟩
  obtain rfl : x0 = 0 := hx0.out
  go_enter Try.func29, Try.ntmps29
  go_wp2_with (first | (go_at_call 17; ((with_reducible refine (whole_q 0 0 (by omega) (by omega) hx0 _).mono ?_); rintro e9 w2 ⟨rfl, hL⟩; replace HM := HM.call hL; clear hL)) | (first | ((with_reducible refine g_ld ?_); refine a_ld HM ?_) | ((with_reducible refine g_st ?_); refine a_st HM ?_; clear HM; intro w1 HM) | ((with_reducible refine g_al ?_); refine a_al HM ?_; clear HM; intro bk w1 HM) | ((with_reducible refine g_bx ?_); refine a_bx HM ?_; clear HM; intro bk w1 HM) | ((with_reducible refine g_bld ?_); refine a_bld ?_)))
  obtain ⟨b4, rfl⟩ := HM.nm0
  obtain ⟨b2, rfl⟩ := HM.nm1
  go_loopw [11] (fun i wr => ∃ (j : Nat) (acc : Rat), i = .int .i64 (j : Nat) ∧ j ≤ m.length ∧ Hid (Rt.Fit acc) ∧ Hid ((o, e) = Rt.sumV acc (os.drop j)) ∧ Mem w [] [(b4, Rt.qA acc), (b2, Bg.rZ 0 0)] wr) (fun i _ => m.length - (intOf i).toNat)
  case atStart => exact ⟨0, 0, rfl, Nat.zero_le _, Lib.hid Rt.fit_zero, hr, HM⟩
  case round =>
    obtain ⟨j, acc, rfl, hj, hF, hS, HM⟩ := hrel
    by_cases hlt : j < m.length
    · obtain ⟨oj, c, hcj, hvc, hd⟩ := HV.out.at_ hlt
      obtain ⟨b, off, cs, cap', e1, hb, hcell⟩ := HR.out.get hcj
      injection e1 with e1 e2 e3
      subst e1
      subst e3
      have HB := Lib.hid hb
      have hlc := la_in (T := 27) (by kernel_rfl) sT_rat hvc.size hcell (by decide)
      have sc := sa_c hvc.size hvc.one (rZ_size 0 0)
      have kc := la_c hvc.size
      have HVC := Lib.hid hvc
      have HS := hS.out
      rw [hd] at HS
      have ka := la_q acc
      have hst := Rt.step acc oj (os.drop (j + 1))
      clear hS hb hcell hvc hcj hd e2
      rcases hst with ⟨z, hz, ha, hs⟩ | ⟨e', he', ha, hs⟩
      · have HA := Lib.hid ha.symm
        have HZ := Lib.hid hz
        have HS2 : Hid ((o, e) = Rt.sumV z (os.drop (j + 1))) := Lib.hid (HS.trans hs)
        have sz := sa_q z (qA_size acc)
        clear ha hs HS hz
        go_wp2_with (first | (go_at_call 22; ((with_reducible refine (add_v acc oj c _ _ hF.out HVC.out HA _).mono ?_); rintro e9 w2 ⟨rfl, hL⟩; replace HM := HM.call hL; clear hL)) | (first | ((with_reducible refine g_ld ?_); refine a_ld HM ?_) | ((with_reducible refine g_st ?_); refine a_st HM ?_; clear HM; intro w1 HM) | ((with_reducible refine g_al ?_); refine a_al HM ?_; clear HM; intro bk w1 HM) | ((with_reducible refine g_bx ?_); refine a_bx HM ?_; clear HM; intro bk w1 HM) | ((with_reducible refine g_bld ?_); refine a_bld ?_)))
        go_roundw
        case rel => exact ⟨j + 1, z, by go_num, by omega, HZ, HS2, HM.pick⟩
        case measure => simp [intOf]; omega
      · have HA := Lib.hid ha.symm
        obtain ⟨rfl, rfl⟩ : o = none ∧ e = e' := by rw [hs] at HS; simpa using HS
        have sz := sa_rz 0 0 (qA_size acc)
        have s1 := sa_rz 0 0 (rZ_size 0 0)
        have hne : ((e : Int) != 0) = true := by simpa using he'
        clear ha hs HS
        go_wp2_with (first | first | ((with_reducible refine g_bld ?_); refine a_rbl ?_) | (go_at_call 22; ((with_reducible refine (add_v acc oj c _ _ hF.out HVC.out HA _).mono ?_); rintro e9 w2 ⟨rfl, hL⟩; replace HM := HM.call hL; clear hL)) | (first | ((with_reducible refine g_ld ?_); refine a_ld HM ?_) | ((with_reducible refine g_st ?_); refine a_st HM ?_; clear HM; intro w1 HM) | ((with_reducible refine g_al ?_); refine a_al HM ?_; clear HM; intro bk w1 HM) | ((with_reducible refine g_bx ?_); refine a_bx HM ?_; clear HM; intro bk w1 HM) | ((with_reducible refine g_bld ?_); refine a_bld ?_)))
        refine bodyPost_ret (r_ct rfl rfl (HM.get (by ((repeat (first | exact Look.here | refine Look.there ?_)); done))) (la_rz _ _)) rfl ⟨rfl, HM.low⟩
    · obtain rfl : j = m.length := by omega
      have hfin : (o, e) = (some acc, (0 : Int)) := by
        have h := hS.out
        rwa [List.drop_of_length_le (by rw [HV.out.len]; omega)] at h
      obtain ⟨rfl, rfl⟩ : o = some acc ∧ e = 0 := by simpa using hfin
      have sa := sa_q acc (rZ_size 0 0)
      have ka := la_q acc
      clear hfin hS
      go_wp2_with (first | fail | (first | ((with_reducible refine g_ld ?_); refine a_ld HM ?_) | ((with_reducible refine g_st ?_); refine a_st HM ?_; clear HM; intro w1 HM) | ((with_reducible refine g_al ?_); refine a_al HM ?_; clear HM; intro bk w1 HM) | ((with_reducible refine g_bx ?_); refine a_bx HM ?_; clear HM; intro bk w1 HM) | ((with_reducible refine g_bld ?_); refine a_bld ?_)))
      refine bodyPost_ret (r_ct rfl rfl (HM.get (by ((repeat (first | exact Look.here | refine Look.there ?_)); done))) (la_q _)) rfl ⟨rfl, HM.low⟩
set_option maxHeartbeats 4000000 in
theorem rsum_v (sv : Value) (m : List (Array Value)) (os : List (Option Rat)) (w : World) (hR : RdS 66 w sv m) (hv : Rt.Vcs os m) (hl : m.length ≤ 4611686018427387904) (o : Option Rat) (e : Int) (hr : Hid ((o, e) = Rt.sumV 0 os)) :
    Calls Try.prog 30 #[sv] w fun r w' => r = .returned (.tuple #[.agg (Rt.outV o), .int .i64 e]) ∧ Below w.heap.size w w' := by
  have HM := Mem.start w
  have HV := Lib.hid hv
  have HR := Lib.hid hR
  obtain ⟨hs, A, cap, rfl, hc, _⟩ := hR
  clear hv hs
  have hz0 := za_rat
  have s0 := sa_q 0 (rZ_size 0 0)
  go_enter Try.func30, Try.ntmps30
  go_wp2_with (first | (go_at_call 26; ((with_reducible refine (rzero_q _).mono ?_); rintro e9 w2 ⟨rfl, hL⟩; replace HM := HM.call hL; clear hL)) | (first | ((with_reducible refine g_ld ?_); refine a_ld HM ?_) | ((with_reducible refine g_st ?_); refine a_st HM ?_; clear HM; intro w1 HM) | ((with_reducible refine g_al ?_); refine a_al HM ?_; clear HM; intro bk w1 HM) | ((with_reducible refine g_bx ?_); refine a_bx HM ?_; clear HM; intro bk w1 HM) | ((with_reducible refine g_bld ?_); refine a_bld ?_)))
  obtain ⟨b4, rfl⟩ := HM.nm0
  obtain ⟨b2, rfl⟩ := HM.nm1
  go_loopw [5] (fun i wr => ∃ (j : Nat) (acc : Rat), i = .int .i64 (j : Nat) ∧ j ≤ m.length ∧ Hid (Rt.Fit acc) ∧ Hid ((o, e) = Rt.sumV acc (os.drop j)) ∧ Mem w [] [(b4, Rt.qA acc), (b2, Bg.rZ 0 0)] wr) (fun i _ => m.length - (intOf i).toNat)
  case atStart => exact ⟨0, 0, rfl, Nat.zero_le _, Lib.hid Rt.fit_zero, hr, HM⟩
  case round =>
    obtain ⟨j, acc, rfl, hj, hF, hS, HM⟩ := hrel
    by_cases hlt : j < m.length
    · obtain ⟨oj, c, hcj, hvc, hd⟩ := HV.out.at_ hlt
      obtain ⟨b, off, cs, cap', e1, hb, hcell⟩ := HR.out.get hcj
      injection e1 with e1 e2 e3
      subst e1
      subst e3
      have HB := Lib.hid hb
      have hlc := la_in (T := 27) (by kernel_rfl) sT_rat hvc.size hcell (by decide)
      have sc := sa_c hvc.size hvc.one (rZ_size 0 0)
      have kc := la_c hvc.size
      have HVC := Lib.hid hvc
      have HS := hS.out
      rw [hd] at HS
      have ka := la_q acc
      have hst := Rt.step acc oj (os.drop (j + 1))
      clear hS hb hcell hvc hcj hd e2
      rcases hst with ⟨z, hz, ha, hs⟩ | ⟨e', he', ha, hs⟩
      · have HA := Lib.hid ha.symm
        have HZ := Lib.hid hz
        have HS2 : Hid ((o, e) = Rt.sumV z (os.drop (j + 1))) := Lib.hid (HS.trans hs)
        have sz := sa_q z (qA_size acc)
        clear ha hs HS hz
        have sn := sa_q z (rZ_size 0 0)
        have kz := la_q z
        go_upto_region 5 with fail
        go_cut [6, 7] (fun p q wc => ∃ b6, p = .pointer (some ⟨b6, 0, none⟩) ∧ q = .int .i64 0 ∧ Mem w [] [(b6, Rt.qA z), (b4, Rt.qA acc), (b2, Bg.rZ 0 0)] wc)
        case first =>
          refine start_M [10] HM (by kernel_rfl) (fun w0x H9 => ?_)
          replace HM := H9; clear H9
          refine k_ld 0 [5, 6, 7, 8, 10, 11] (heldE HM) ?_
          refine k_mv 1 (heldE HM) ?_
          refine k_mv 2 (heldE HM) ?_
          refine k_ia 3 (heldE HM) ?_
          refine k_ld 4 [5, 6, 7, 8, 10, 11] (heldE HM) ?_
          refine j_two 5 9 ?_ ?_
          · refine j_call2 (v := ?_) HM ?_ ?_; rotate_left 1; (focus (with_reducible (exact radd_v acc oj c _ _ hF.out HVC.out HA _))); clear HM; intro w1 HM
            refine ⟨(heldE HM), ?_⟩
            refine k_mv 6 (heldE HM) ?_
            refine k_ext 7 (heldE HM) ?_
            refine k_ext 8 (heldE HM) ?_
            refine j_one 9 fun K9 hK9 => ?_
            refine j_al HM ?_; clear HM; intro bk w1 HM
            refine hK9 _ _ (heldE HM) ?_; clear hK9 K9
            refine j_one 10 fun K9 hK9 => ?_
            refine j_st HM ?_; clear HM; intro w1 HM
            refine hK9 _ _ heldN ?_; clear hK9 K9
            refine k_mv 11 heldN ?_
            refine wpAnyL_done (by kernel_rfl) ?_ _
            (go_wp2_with fail; go_meet; (case rel => exact ⟨_, rfl, rfl, HM.pick⟩))
          · refine j_al HM ?_; clear HM; intro bk w1 HM
            refine ⟨(heldE HM), ?_⟩
            refine j_one 5 fun K9 hK9 => ?_
            refine j_call2 (v := ?_) HM ?_ ?_; rotate_left 1; (focus (with_reducible (exact radd_v acc oj c _ _ hF.out HVC.out HA _))); clear HM; intro w1 HM
            refine hK9 _ _ (heldE HM) ?_; clear hK9 K9
            refine k_mv 6 (heldE HM) ?_
            refine k_ext 7 (heldE HM) ?_
            refine k_ext 8 (heldE HM) ?_
            refine j_one 10 fun K9 hK9 => ?_
            refine j_st HM ?_; clear HM; intro w1 HM
            refine hK9 _ _ heldN ?_; clear hK9 K9
            refine k_mv 11 heldN ?_
            refine wpAnyL_done (by kernel_rfl) ?_ _
            (go_wp2_with fail; go_meet; (case rel => exact ⟨_, rfl, rfl, HM.pick⟩))
        case rest =>
          clear HM
          obtain ⟨b6, rfl, rfl, HM⟩ := hcut
          go_step
          go_wp2_with (first | fail | (first | ((with_reducible refine g_ld ?_); refine a_ld HM ?_) | ((with_reducible refine g_st ?_); refine a_st HM ?_; clear HM; intro w1 HM) | ((with_reducible refine g_al ?_); refine a_al HM ?_; clear HM; intro bk w1 HM) | ((with_reducible refine g_bx ?_); refine a_bx HM ?_; clear HM; intro bk w1 HM) | ((with_reducible refine g_bld ?_); refine a_bld ?_)))
          go_roundw
          case rel => exact ⟨j + 1, z, by go_num, by omega, HZ, HS2, HM.pick⟩
          case measure => simp [intOf]; omega
      · have HA := Lib.hid ha.symm
        obtain ⟨rfl, rfl⟩ : o = none ∧ e = e' := by rw [hs] at HS; simpa using HS
        have sz := sa_rz 0 0 (qA_size acc)
        have s1 := sa_rz 0 0 (rZ_size 0 0)
        have hne : ((e : Int) != 0) = true := by simpa using he'
        clear ha hs HS
        go_upto_region 5 with fail
        go_cut [7] (fun q wc => q = .int .i64 e ∧ Mem w [] [(b2, Bg.rZ 0 0)] wc)
        case first =>
          refine start_M [10] HM (by kernel_rfl) (fun w0x H9 => ?_)
          replace HM := H9; clear H9
          refine k_ld 0 [5, 6, 7, 8, 10, 11] (heldE HM) ?_
          refine k_mv 1 (heldE HM) ?_
          refine k_mv 2 (heldE HM) ?_
          refine k_ia 3 (heldE HM) ?_
          refine k_ld 4 [5, 6, 7, 8, 10, 11] (heldE HM) ?_
          refine j_two 5 9 ?_ ?_
          · refine j_call2 (v := ?_) HM ?_ ?_; rotate_left 1; (focus (with_reducible (exact radd_v acc oj c _ _ hF.out HVC.out HA _))); clear HM; intro w1 HM
            refine ⟨(heldE HM), ?_⟩
            refine k_mv 6 (heldE HM) ?_
            refine k_ext 7 (heldE HM) ?_
            refine k_ext 8 (heldE HM) ?_
            refine j_one 9 fun K9 hK9 => ?_
            refine j_al HM ?_; clear HM; intro bk w1 HM
            refine hK9 _ _ (heldE HM) ?_; clear hK9 K9
            refine j_one 10 fun K9 hK9 => ?_
            refine j_st HM ?_; clear HM; intro w1 HM
            refine hK9 _ _ heldN ?_; clear hK9 K9
            refine k_mv 11 heldN ?_
            refine wpAnyL_done (by kernel_rfl) ?_ _
            (go_wp2_with fail; go_meet; (case rel => exact ⟨rfl, HM.pick⟩))
          · refine j_al HM ?_; clear HM; intro bk w1 HM
            refine ⟨(heldE HM), ?_⟩
            refine j_one 5 fun K9 hK9 => ?_
            refine j_call2 (v := ?_) HM ?_ ?_; rotate_left 1; (focus (with_reducible (exact radd_v acc oj c _ _ hF.out HVC.out HA _))); clear HM; intro w1 HM
            refine hK9 _ _ (heldE HM) ?_; clear hK9 K9
            refine k_mv 6 (heldE HM) ?_
            refine k_ext 7 (heldE HM) ?_
            refine k_ext 8 (heldE HM) ?_
            refine j_one 10 fun K9 hK9 => ?_
            refine j_st HM ?_; clear HM; intro w1 HM
            refine hK9 _ _ heldN ?_; clear hK9 K9
            refine k_mv 11 heldN ?_
            refine wpAnyL_done (by kernel_rfl) ?_ _
            (go_wp2_with fail; go_meet; (case rel => exact ⟨rfl, HM.pick⟩))
        case rest =>
          clear HM
          obtain ⟨rfl, HM⟩ := hcut
          go_step
          go_wp2_with (first | ((with_reducible refine g_bld ?_); refine a_rbl ?_) | (first | ((with_reducible refine g_ld ?_); refine a_ld HM ?_) | ((with_reducible refine g_st ?_); refine a_st HM ?_; clear HM; intro w1 HM) | ((with_reducible refine g_al ?_); refine a_al HM ?_; clear HM; intro bk w1 HM) | ((with_reducible refine g_bx ?_); refine a_bx HM ?_; clear HM; intro bk w1 HM) | ((with_reducible refine g_bld ?_); refine a_bld ?_)))
          refine bodyPost_ret (r_ct rfl rfl (HM.get (by ((repeat (first | exact Look.here | refine Look.there ?_)); done))) (la_rz _ _)) rfl ⟨rfl, HM.low⟩
    · obtain rfl : j = m.length := by omega
      have hfin : (o, e) = (some acc, (0 : Int)) := by
        have h := hS.out
        rwa [List.drop_of_length_le (by rw [HV.out.len]; omega)] at h
      obtain ⟨rfl, rfl⟩ : o = some acc ∧ e = 0 := by simpa using hfin
      have sa := sa_q acc (rZ_size 0 0)
      have ka := la_q acc
      clear hfin hS
      go_wp2_with (first | fail | (first | ((with_reducible refine g_ld ?_); refine a_ld HM ?_) | ((with_reducible refine g_st ?_); refine a_st HM ?_; clear HM; intro w1 HM) | ((with_reducible refine g_al ?_); refine a_al HM ?_; clear HM; intro bk w1 HM) | ((with_reducible refine g_bx ?_); refine a_bx HM ?_; clear HM; intro bk w1 HM) | ((with_reducible refine g_bld ?_); refine a_bld ?_)))
      refine bodyPost_ret (r_ct rfl rfl (HM.get (by ((repeat (first | exact Look.here | refine Look.there ?_)); done))) (la_q _)) rfl ⟨rfl, HM.low⟩
end Go.Proofs.Ytekfabhmopkapaa
