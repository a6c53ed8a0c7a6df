/- Differences of prices; Size of both. -/
import Derived.Test.YteamjgifohamgaaGreatExA
import Derived.Test.YteamjgifohamgaaGreatRatT
namespace Go.Proofs.YteamjgifohamgaaGreat
set_option maxRecDepth 8000
open Go.RowKit
namespace Mt
/-- A difference: its cells, and what its ratios are. -/
structure D where
  day : Int
  fund : ByteArray
  cls : ByteArray
  cw : Array Value
  ci : Array Value
  ow : Option Rat
  oi : Option Rat
  hw : Rt.Vc ow cw
  hi : Rt.Vc oi ci
@[irreducible] def c (d : D) : Array Value := rowsOf [#[.int .i64 d.day], #[.string d.fund], #[.string d.cls], d.cw, d.ci]
theorem c_rows (d : D) : c d = rowsOf [#[.int .i64 d.day], #[.string d.fund], #[.string d.cls], d.cw, d.ci] := by unfold c; rfl
theorem c_size (d : D) : (c d).size = 135 := by rw [c_rows]; simp [rowsOf, d.hw.size, d.hi.size]
theorem c_one (d : D) : (c d).all (·.oneCell') = true := by
  rw [c_rows]
  exact rows_cells_one (by
    intro e he
    simp only [List.mem_cons, List.not_mem_nil, or_false] at he
    rcases he with rfl | rfl | rfl | rfl | rfl
    · simp [Value.oneCell']
    · simp [Value.oneCell']
    · simp [Value.oneCell']
    · exact d.hw.one
    · exact d.hi.one)
theorem sT : sizT 42 = some 135 := by kernel_rfl
theorem la (d : D) : LA 42 (c d) 0 (.agg (c d)) := LA.whole (by kernel_rfl) (by rw [c_size]; exact sT)
theorem fday (d : D) : FA 3 (c d) 0 (.int .i64 d.day) := by rw [c_rows]; exact fa_one 0 (by kernel_rfl) rfl rfl
theorem fw (d : D) : FA 32 (c d) 3 (.agg d.cw) := by rw [c_rows]; exact fa_agg 3 (by kernel_rfl) (by rw [d.hw.size]; exact sT_rat) rfl (by simp [offs])
theorem fi (d : D) : FA 32 (c d) 69 (.agg d.ci) := by rw [c_rows]; exact fa_agg 4 (by kernel_rfl) (by rw [d.hi.size]; exact sT_rat) rfl (by simp [offs, d.hw.size])
/-- The size of a difference. -/
noncomputable def size : Option Rat → Option Rat → Option Rat × Int
  | some a, some b => open Classical in if b = 0 then (none, 11) else if Rt.Fit (a - b) then (if Rt.Fit ((a - b) / b) then (some (Rt.abs ((a - b) / b)), 0) else (none, 10)) else (none, 10)
  | _, _ => (none, 20)
theorem abs_eq (x : Rat) : Rt.abs x = if x < 0 then -x else x := by
  apply Rat.ext
  · split
    · rename_i h
      rw [Rat.neg_num]
      have := Rat.num_nonneg (q := x)
      have h2 : ¬ 0 ≤ x.num := fun h3 => Rat.not_lt.2 (this.1 h3) h
      show ((x.num.natAbs : Nat) : Int) = -x.num
      omega
    · rename_i h
      have : 0 ≤ x.num := Rat.num_nonneg.2 (Rat.not_lt.1 h)
      show ((x.num.natAbs : Nat) : Int) = x.num
      omega
  · split <;> rfl
end Mt
theorem valid_v (o : Option Rat) (c : Array Value) (hv : Rt.Vc o c) (w : World) :
    Calls Tryz.prog 38 #[.agg c] w fun r w' => r = .returned (.bool o.isSome) ∧ Below w.heap.size w w' := by
  cases o with
  | some x => obtain ⟨hx, rfl⟩ := hv; exact valid_q x hx w
  | none => obtain ⟨s, M, t, N, hM, hN, hk, rfl⟩ := hv; exact valid_n s M t N false hM hN (Lib.hid hk.symm) w
theorem rvalid_v (o : Option Rat) (c : Array Value) (hv : Rt.Vc o c) (w : World) :
    Calls Tryz.prog 34 #[.agg c] w fun r w' => r = .returned (.bool o.isSome) ∧ Below w.heap.size w w' := by
  cases o with
  | some x => obtain ⟨hx, rfl⟩ := hv; exact rvalid_q x hx w
  | none => obtain ⟨s, M, t, N, hM, hN, hk, rfl⟩ := hv; exact rvalid_n s M t N false hM hN (Lib.hid hk.symm) w
theorem rat0 : ((0 : Int) : Rat) = 0 := rfl
set_option maxHeartbeats 4000000 in
theorem size_any (d : Mt.D) (o : Option Rat) (e : Int) (hr : Hid ((o, e) = Mt.size d.ow d.oi)) (w : World) :
    Calls Tryz.prog 26 #[.agg (Mt.c d)] w fun r w' => r = .returned (.tuple #[.agg (Rt.outV o), .int .i64 e]) ∧ Below w.heap.size w w' := by
  have HM := Mem.start w
  have hz := za_rat
  have k1 := (Mt.fw d).la
  have k2 := (Mt.fi d).la
  have s0 := sa_rz 0 0 (rZ_size 0 0)
  have k0 := la_rz 0 0
  have V1 := fun w => valid_v d.ow d.cw d.hw w
  have V2 := fun w => valid_v d.oi d.ci d.hi w
  have h := hr.out
  have hw := d.hw
  have hi := d.hi
  generalize Mt.c d = cc at *
  generalize d.ow = ow at *
  generalize d.oi = oi at *
  generalize d.cw = cw at *
  generalize d.ci = ci at *
  cases ow with
  | none =>
    obtain ⟨rfl, rfl⟩ : o = none ∧ e = 20 := by simpa [Mt.size] using h
    clear h hr hw hi
    go_enter Tryz.func26, Tryz.ntmps26
    go_wp2_with (first | first | ((with_reducible refine g_bld ?_); refine a_rbl ?_) | (go_at_call 38; ((with_reducible refine (V1 _).mono ?_); rintro e9 w2 ⟨rfl, hL⟩; replace HM := HM.call hL; clear hL)) | (first | ((with_reducible refine g_ld ?_); refine a_ld HM ?_) | ((with_reducible refine g_st ?_); refine a_st HM ?_; clear HM; intro w1 HM) | ((with_reducible refine g_al ?_); refine a_al HM ?_; clear HM; intro bk w1 HM) | ((with_reducible refine g_bx ?_); refine a_bx HM ?_; clear HM; intro bk w1 HM) | ((with_reducible refine g_bld ?_); refine a_bld ?_)))
    refine bodyPost_ret (r_ct rfl rfl (HM.get (by ((repeat (first | exact Look.here | refine Look.there ?_)); done))) k0) rfl ⟨rfl, HM.low⟩
  | some a =>
    cases oi with
    | none =>
      obtain ⟨rfl, rfl⟩ : o = none ∧ e = 20 := by simpa [Mt.size] using h
      clear h hr hw hi
      go_enter Tryz.func26, Tryz.ntmps26
      go_wp2_with (first | first | ((with_reducible refine g_bld ?_); refine a_rbl ?_) | (go_at_call 38; ((with_reducible refine (V1 _).mono ?_); rintro e9 w2 ⟨rfl, hL⟩; replace HM := HM.call hL; clear hL)) | (go_at_call 38; ((with_reducible refine (V2 _).mono ?_); rintro e9 w2 ⟨rfl, hL⟩; replace HM := HM.call hL; clear hL)) | (first | ((with_reducible refine g_ld ?_); refine a_ld HM ?_) | ((with_reducible refine g_st ?_); refine a_st HM ?_; clear HM; intro w1 HM) | ((with_reducible refine g_al ?_); refine a_al HM ?_; clear HM; intro bk w1 HM) | ((with_reducible refine g_bx ?_); refine a_bx HM ?_; clear HM; intro bk w1 HM) | ((with_reducible refine g_bld ?_); refine a_bld ?_)))
      refine bodyPost_ret (r_ct rfl rfl (HM.get (by ((repeat (first | exact Look.here | refine Look.there ?_)); done))) k0) rfl ⟨rfl, HM.low⟩
    | some b =>
      obtain ⟨ha, rfl⟩ := hw
      obtain ⟨hb, rfl⟩ := hi
      by_cases h0 : b = 0
      · subst h0
        obtain ⟨rfl, rfl⟩ : o = none ∧ e = 11 := by simpa [Mt.size] using h
        clear h hr
        go_enter Tryz.func26, Tryz.ntmps26
        go_upto_region 3 with (first | first | (go_at_call 38; ((with_reducible refine (V1 _).mono ?_); rintro e9 w2 ⟨rfl, hL⟩; replace HM := HM.call hL; clear hL)) | (go_at_call 38; ((with_reducible refine (V2 _).mono ?_); rintro e9 w2 ⟨rfl, hL⟩; replace HM := HM.call hL; clear hL)) | (first | ((with_reducible refine g_ld ?_); refine a_ld HM ?_) | ((with_reducible refine g_st ?_); refine a_st HM ?_; clear HM; intro w1 HM) | ((with_reducible refine g_al ?_); refine a_al HM ?_; clear HM; intro bk w1 HM) | ((with_reducible refine g_bx ?_); refine a_bx HM ?_; clear HM; intro bk w1 HM) | ((with_reducible refine g_bld ?_); refine a_bld ?_)))
        refine start_M [] HM (by kernel_rfl) (fun w0x H9 => ?_)
        replace HM := H9; clear H9
        refine k_fa 0 (heldE HM) ?_
        refine k_ld 1 [] (heldE HM) ?_
        refine j_one 2 fun K9 hK9 => ?_
        refine j_call1 (v := ?_) HM ?_ ?_; rotate_left 1; (focus (with_reducible (exact whole_q 0 0 (by decide) (by decide) (Lib.hid rat0.symm) _))); clear HM; intro w1 HM
        refine hK9 _ _ (heldE HM) ?_; clear hK9 K9
        refine t_eq (i := 3) (v := ?_) [] rfl rfl rfl (by kernel_rfl) (fun _ _ _ h => h) (heldE HM) ?_ ?_; rotate_left 1; (focus ((refine y_cmpq .eql (0) (0) true (.inl rfl) (by simp) (hb) (Rt.fit_zero) (x := ?_) (y := ?_) (t := ?_) ?_ ?_ ?_ ?_; rotate_left 3; (focus rfl); (focus rfl); (focus ((conv => lhs; whnf) <;> rfl)); ((conv => lhs; whnf) <;> rfl)))); ((try simp only [List.setIfInBounds_toArray]); (try simp only [List.set_cons_succ]); (try simp only [List.set_cons_zero]))
        refine wpAnyL_done (by kernel_rfl) ?_ _
        go_wp2_with (first | ((with_reducible refine g_bld ?_); refine a_rbl ?_) | (first | ((with_reducible refine g_ld ?_); refine a_ld HM ?_) | ((with_reducible refine g_st ?_); refine a_st HM ?_; clear HM; intro w1 HM) | ((with_reducible refine g_al ?_); refine a_al HM ?_; clear HM; intro bk w1 HM) | ((with_reducible refine g_bx ?_); refine a_bx HM ?_; clear HM; intro bk w1 HM) | ((with_reducible refine g_bld ?_); refine a_bld ?_)))
        refine bodyPost_ret (r_ct rfl rfl (HM.get (by ((repeat (first | exact Look.here | refine Look.there ?_)); done))) k0) rfl ⟨rfl, HM.low⟩
      · unfold Mt.size at h
        simp only [if_neg h0] at h
        go_enter Tryz.func26, Tryz.ntmps26
        go_upto_region 3 with (first | first | (go_at_call 38; ((with_reducible refine (V1 _).mono ?_); rintro e9 w2 ⟨rfl, hL⟩; replace HM := HM.call hL; clear hL)) | (go_at_call 38; ((with_reducible refine (V2 _).mono ?_); rintro e9 w2 ⟨rfl, hL⟩; replace HM := HM.call hL; clear hL)) | (first | ((with_reducible refine g_ld ?_); refine a_ld HM ?_) | ((with_reducible refine g_st ?_); refine a_st HM ?_; clear HM; intro w1 HM) | ((with_reducible refine g_al ?_); refine a_al HM ?_; clear HM; intro bk w1 HM) | ((with_reducible refine g_bx ?_); refine a_bx HM ?_; clear HM; intro bk w1 HM) | ((with_reducible refine g_bld ?_); refine a_bld ?_)))
        refine start_M [] HM (by kernel_rfl) (fun w0x H9 => ?_)
        replace HM := H9; clear H9
        refine k_fa 0 (heldE HM) ?_
        refine k_ld 1 [] (heldE HM) ?_
        refine j_one 2 fun K9 hK9 => ?_
        refine j_call1 (v := ?_) HM ?_ ?_; rotate_left 1; (focus (with_reducible (exact whole_q 0 0 (by decide) (by decide) (Lib.hid rat0.symm) _))); clear HM; intro w1 HM
        refine hK9 _ _ (heldE HM) ?_; clear hK9 K9
        refine t_eq (i := 3) (v := ?_) [] rfl rfl rfl (by kernel_rfl) (fun _ _ _ h => h) (heldE HM) ?_ ?_; rotate_left 1; (focus ((refine y_cmpq .eql (b) (0) false (.inl rfl) (by simp [h0]) (hb) (Rt.fit_zero) (x := ?_) (y := ?_) (t := ?_) ?_ ?_ ?_ ?_; rotate_left 3; (focus rfl); (focus rfl); (focus ((conv => lhs; whnf) <;> rfl)); ((conv => lhs; whnf) <;> rfl)))); ((try simp only [List.setIfInBounds_toArray]); (try simp only [List.set_cons_succ]); (try simp only [List.set_cons_zero]))
        refine wpAnyL_done (by kernel_rfl) ?_ _
        obtain ⟨u, hu⟩ : ∃ u, Hid (u = a - b) := ⟨_, Lib.hid rfl⟩
        rw [← hu.out] at h
        have ku := la_q u
        have su := sa_q u (rZ_size 0 0)
        by_cases f1 : Rt.Fit u
        · rw [if_pos f1] at h
          have U := fun w => sub_q a b u ha hb hu f1 w
          obtain ⟨v, hv⟩ : ∃ v, Hid (v = u / b) := ⟨_, Lib.hid rfl⟩
          rw [← hv.out] at h
          have kv := la_q v
          have sv := sa_q v (rZ_size 0 0)
          by_cases f2 : Rt.Fit v
          · rw [if_pos f2] at h
            obtain ⟨y, hy⟩ : ∃ y, Hid (y = Rt.abs v) := ⟨_, Lib.hid rfl⟩
            rw [← hy.out] at h
            obtain ⟨rfl, rfl⟩ := Prod.mk.inj h
            have V := fun w => quo_q u b v f1 hb h0 hv f2 w
            have A := fun w => abs_q v y f2 hy w
            have ky := la_q y
            have sy := sa_q y (rZ_size 0 0)
            clear h hr
            go_wp2_with (first | first | (go_at_call 43; ((with_reducible refine (U _).mono ?_); rintro e9 w2 ⟨rfl, hL⟩; replace HM := HM.call hL; clear hL)) | (go_at_call 44; ((with_reducible refine (V _).mono ?_); rintro e9 w2 ⟨rfl, hL⟩; replace HM := HM.call hL; clear hL)) | (go_at_call 45; ((with_reducible refine (A _).mono ?_); rintro e9 w2 ⟨rfl, hL⟩; replace HM := HM.call hL; clear hL)) | (first | ((with_reducible refine g_ld ?_); refine a_ld HM ?_) | ((with_reducible refine g_st ?_); refine a_st HM ?_; clear HM; intro w1 HM) | ((with_reducible refine g_al ?_); refine a_al HM ?_; clear HM; intro bk w1 HM) | ((with_reducible refine g_bx ?_); refine a_bx HM ?_; clear HM; intro bk w1 HM) | ((with_reducible refine g_bld ?_); refine a_bld ?_)))
            refine bodyPost_ret (r_ct rfl rfl (HM.get (by ((repeat (first | exact Look.here | refine Look.there ?_)); done))) ky) rfl ⟨rfl, HM.low⟩
          · rw [if_neg f2] at h
            obtain ⟨rfl, rfl⟩ := Prod.mk.inj h
            have V := fun w => quo_r u b (Bg.rZ 0 0) 10 f1 hb h0 (Lib.hid (by rw [← hv.out]; unfold Rt.res; rw [if_neg f2])) w
            clear h hr
            go_wp2_with (first | first | ((with_reducible refine g_bld ?_); refine a_rbl ?_) | (go_at_call 43; ((with_reducible refine (U _).mono ?_); rintro e9 w2 ⟨rfl, hL⟩; replace HM := HM.call hL; clear hL)) | (go_at_call 44; ((with_reducible refine (V _).mono ?_); rintro e9 w2 ⟨rfl, hL⟩; replace HM := HM.call hL; clear hL)) | (first | ((with_reducible refine g_ld ?_); refine a_ld HM ?_) | ((with_reducible refine g_st ?_); refine a_st HM ?_; clear HM; intro w1 HM) | ((with_reducible refine g_al ?_); refine a_al HM ?_; clear HM; intro bk w1 HM) | ((with_reducible refine g_bx ?_); refine a_bx HM ?_; clear HM; intro bk w1 HM) | ((with_reducible refine g_bld ?_); refine a_bld ?_)))
            refine bodyPost_ret (r_ct rfl rfl (HM.get (by ((repeat (first | exact Look.here | refine Look.there ?_)); done))) k0) rfl ⟨rfl, HM.low⟩
        · rw [if_neg f1] at h
          obtain ⟨rfl, rfl⟩ := Prod.mk.inj h
          have U := fun w => sub_r a b (Bg.rZ 0 0) 10 ha hb (Lib.hid (by rw [← hu.out]; unfold Rt.res; rw [if_neg f1])) w
          clear h hr
          go_wp2_with (first | first | ((with_reducible refine g_bld ?_); refine a_rbl ?_) | (go_at_call 43; ((with_reducible refine (U _).mono ?_); rintro e9 w2 ⟨rfl, hL⟩; replace HM := HM.call hL; clear hL)) | (first | ((with_reducible refine g_ld ?_); refine a_ld HM ?_) | ((with_reducible refine g_st ?_); refine a_st HM ?_; clear HM; intro w1 HM) | ((with_reducible refine g_al ?_); refine a_al HM ?_; clear HM; intro bk w1 HM) | ((with_reducible refine g_bx ?_); refine a_bx HM ?_; clear HM; intro bk w1 HM) | ((with_reducible refine g_bld ?_); refine a_bld ?_)))
          refine bodyPost_ret (r_ct rfl rfl (HM.get (by ((repeat (first | exact Look.here | refine Look.there ?_)); done))) k0) rfl ⟨rfl, HM.low⟩
/-- The magnitude. -/
def Ex.abs : Ex → Ex
  | .ok x => .ok (Rt.abs x)
  | .er e => .er e
set_option maxHeartbeats 4000000 in
theorem exabs_any (n z : Ex) (hn : n.Fit) (hz : Hid (z = n.abs)) (w : World) :
    Calls Tryz.prog 50 #[.agg n.A] w fun r w' => r = .returned (.agg z.A) ∧ Below w.heap.size w w' := by
  have HM := Mem.start w
  have zn := Ex.za
  have k1 := Ex.la (Ex.cv_size n) n.ce
  have k2 := (Ex.fe (Ex.cv_size n) n.ce).la
  have k3 := Ex.la (Ex.cv_size z) z.ce
  have s1 := Ex.sa (Ex.cv_size z) (Ex.cv_one z) z.ce (Ex.nA_size (rZ_size 0 0) 0)
  have h := hz.out
  cases n with
  | er e =>
    obtain rfl : z = .er e := h
    have h0 : e ≠ 0 := hn
    have g1 : (e == 0) = false := by simpa using h0
    unfold Ex.A
    show Calls _ _ #[.agg (Ex.nA (Bg.rZ 0 0) e)] w _
    go_enter Tryz.func50, Tryz.ntmps50
    go_wp2_with (first | fail | (first | ((with_reducible refine g_ld ?_); refine a_ld HM ?_) | ((with_reducible refine g_st ?_); refine a_st HM ?_; clear HM; intro w1 HM) | ((with_reducible refine g_al ?_); refine a_al HM ?_; clear HM; intro bk w1 HM) | ((with_reducible refine g_bx ?_); refine a_bx HM ?_; clear HM; intro bk w1 HM) | ((with_reducible refine g_bld ?_); refine a_bld ?_)))
    refine bodyPost_ret (r_c rfl rfl (HM.get (by ((repeat (first | exact Look.here | refine Look.there ?_)); done))) k3) rfl ⟨rfl, HM.low⟩
  | ok x =>
    have hx : Rt.Fit x := hn
    obtain ⟨g, hg⟩ : ∃ g, Hid (g = x.num.sign) := ⟨_, Lib.hid rfl⟩
    have S := fun w => sign_ex x g hx hg w
    by_cases hlt : x < 0
    · obtain rfl : z = .ok (-x) := by rw [h]; show Ex.ok (Rt.abs x) = _; rw [Mt.abs_eq, if_pos hlt]
      have h2 : ¬ 0 ≤ x.num := fun h3 => Rat.not_lt.2 (Rat.num_nonneg.1 h3) hlt
      have g1 : decide (g < 0) = true := by
        rw [hg.out, Int.sign_eq_neg_one_of_neg (by omega)]; rfl
      have I := fun w => int_ex 0 0 (by decide) (by decide) (Lib.hid rat0.symm) w
      have B := fun w => sub_ex (.ok 0) (.ok x) Rt.fit_zero hx (.ok (-x)) (Lib.hid (by
        show _ = Ex.mk (0 - x)
        rw [show (0 : Rat) - x = -x by grind, Ex.mk_ok (Rt.Fit.neg hx)])) w
      replace k2 : LA 34 (Ex.nA (Ex.ok x).cv (Ex.ok x).ce) 66 (.int .i64 0) := k2
      clear h h2
      go_enter Tryz.func50, Tryz.ntmps50
      go_upto_region 2 with (first | (go_at_call 48; ((with_reducible refine (S _).mono ?_); rintro e9 w2 ⟨rfl, hL⟩; replace HM := HM.call hL; clear hL)) | (first | ((with_reducible refine g_ld ?_); refine a_ld HM ?_) | ((with_reducible refine g_st ?_); refine a_st HM ?_; clear HM; intro w1 HM) | ((with_reducible refine g_al ?_); refine a_al HM ?_; clear HM; intro bk w1 HM) | ((with_reducible refine g_bx ?_); refine a_bx HM ?_; clear HM; intro bk w1 HM) | ((with_reducible refine g_bld ?_); refine a_bld ?_)))
      refine start_M [3] HM (by kernel_rfl) (fun w0x H9 => ?_)
      replace HM := H9; clear H9
      refine k_ld 1 [2, 3] (heldE HM) ?_
      refine j_one 0 fun K9 hK9 => ?_
      refine j_call1 (v := ?_) HM ?_ ?_; rotate_left 1; (focus (with_reducible (first | exact I _ | exact B _))); clear HM; intro w1 HM
      refine hK9 _ _ (heldE HM) ?_; clear hK9 K9
      refine j_one 2 fun K9 hK9 => ?_
      refine j_call2 (v := ?_) HM ?_ ?_; rotate_left 1; (focus (with_reducible (first | exact I _ | exact B _))); clear HM; intro w1 HM
      refine hK9 _ _ (heldE HM) ?_; clear hK9 K9
      refine j_one 3 fun K9 hK9 => ?_
      refine j_st HM ?_; clear HM; intro w1 HM
      refine hK9 _ _ heldN ?_; clear hK9 K9
      refine wpAnyL_done (by kernel_rfl) ?_ _
      (go_wp2_with fail; refine bodyPost_ret (r_c rfl rfl (HM.get (by ((repeat (first | exact Look.here | refine Look.there ?_)); done))) k3) rfl ⟨rfl, HM.low⟩)
    · obtain rfl : z = .ok x := by rw [h]; show Ex.ok (Rt.abs x) = _; rw [Mt.abs_eq, if_neg hlt]
      have g1 : decide (g < 0) = false := by
        have h2 : 0 ≤ x.num := Rat.num_nonneg.2 (Rat.not_lt.1 hlt)
        have h3 : 0 ≤ x.num.sign := Int.sign_nonneg_iff.2 h2
        rw [hg.out]; exact decide_eq_false (by omega)
      replace k2 : LA 34 (Ex.nA (Ex.ok x).cv (Ex.ok x).ce) 66 (.int .i64 0) := k2
      clear h
      go_enter Tryz.func50, Tryz.ntmps50
      go_wp2_with (first | (go_at_call 48; ((with_reducible refine (S _).mono ?_); rintro e9 w2 ⟨rfl, hL⟩; replace HM := HM.call hL; clear hL)) | (first | ((with_reducible refine g_ld ?_); refine a_ld HM ?_) | ((with_reducible refine g_st ?_); refine a_st HM ?_; clear HM; intro w1 HM) | ((with_reducible refine g_al ?_); refine a_al HM ?_; clear HM; intro bk w1 HM) | ((with_reducible refine g_bx ?_); refine a_bx HM ?_; clear HM; intro bk w1 HM) | ((with_reducible refine g_bld ?_); refine a_bld ?_)))
      refine bodyPost_ret (r_c rfl rfl (HM.get (by ((repeat (first | exact Look.here | refine Look.there ?_)); done))) k3) rfl ⟨rfl, HM.low⟩
end Go.Proofs.YteamjgifohamgaaGreat
