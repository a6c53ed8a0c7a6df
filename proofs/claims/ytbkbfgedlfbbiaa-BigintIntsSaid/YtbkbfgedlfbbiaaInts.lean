/- The law BigintInts, walked: small numbers are computed as ints are. -/
import Derived.Test.YtbkbfgedlfbbiaaBigX
namespace Go.Proofs.Ytbkbfgedlfbbiaa
open Go.RowKit
theorem yl_z (z : Int) {ops : Array Oper} {S : World → Prop} {o : Oper} {a : Act} (hw : Region.wanted o (yielded ops a.tmps) = true) (x : Operand) (ho : o.op = .load 25 x) (b : Nat) (hx : a.eval x = .pointer (some ⟨b, 0, none⟩)) (hS : ∀ w, S w → Blk w b (Bg.zA z)) :
    YieldsIf Try.prog ops S o (.agg (Bg.zA z)) a := by
  rw [zA_int] at hS ⊢
  exact yl_int _ _ hw x ho b hx hS
theorem yl_eqz (p : Int) {ops : Array Oper} {S : World → Prop} {o : Oper} {a : Act} (hw : Region.wanted o (yielded ops a.tmps) = true) (x y : Operand) (t : TypeId) (ho : o.op = .binOp .eql 25 x y t) (hx : a.eval x = .agg (Bg.zA p)) (hy : a.eval y = .agg (Bg.zA p)) (hp : p.natAbs < Bg.lim) :
    YieldsIf Try.prog ops S o (.bool true) a := by
  refine Or.inl ⟨hw, fun w _ => ?_⟩
  have hr := run_cmp_z .eql p p hp hp x y w (.inl rfl)
  rw [if_pos rfl, decide_eq_true rfl] at hr
  unfold execOp
  simp only [Sem.run_bind] at hr
  simp only [ho, hx, hy, Sem.run_bind, hr, Result.andThen_ok, Sem.run_pure]
theorem lim64 {z : Int} (h1 : -9223372036854775808 ≤ z) (h2 : z < 9223372036854775808) : z.natAbs < Bg.lim := small_lim (by omega)
theorem res_yes {z : Int} (h1 : -9223372036854775808 ≤ z) (h2 : z < 9223372036854775808) : z = Bg.resZ z ∧ 0 = Bg.resE z := by
  have := lim64 h1 h2
  unfold Bg.resZ Bg.resE
  rw [if_pos this, if_pos this]
  exact ⟨rfl, rfl⟩
theorem tmod_bound (A : Int) : -1073741824 < A.tmod 1073741824 ∧ A.tmod 1073741824 < 1073741824 := by
  have h := Int.natAbs_tmod A 1073741824
  have e : (1073741824 : Int).natAbs = 1073741824 := rfl
  rw [e] at h
  have := Nat.mod_lt A.natAbs (show 1073741824 > 0 by decide)
  omega
theorem half_bound (n : Int) (h1 : -9223372036854775808 ≤ n) (h2 : n < 9223372036854775808) : -4611686018427387904 ≤ n.tdiv 2 ∧ n.tdiv 2 ≤ 4611686018427387903 := by
  have h : (n.tdiv 2).natAbs = n.natAbs / 2 := by rw [Int.natAbs_tdiv]; rfl
  have k := Int.mul_tdiv_add_tmod n 2
  have r : (n.tmod 2).natAbs = n.natAbs % 2 := by rw [Int.natAbs_tmod]; rfl
  omega
theorem mul_bound {C D : Int} (h1 : -1073741824 < C) (h2 : C < 1073741824) (h3 : -1073741824 < D) (h4 : D < 1073741824) : -9223372036854775808 ≤ C * D ∧ C * D < 9223372036854775808 := by
  have h : (C * D).natAbs = C.natAbs * D.natAbs := Int.natAbs_mul C D
  have k : C.natAbs * D.natAbs ≤ 1073741824 * 1073741824 := Nat.mul_le_mul (by omega) (by omega)
  omega
set_option maxRecDepth 20000 in
set_option maxHeartbeats 4000000 in
theorem ints_any (n m : Int) (hn1 : -9223372036854775808 ≤ n) (hn2 : n < 9223372036854775808) (hm1 : -9223372036854775808 ≤ m) (hm2 : m < 9223372036854775808) (w : World) :
    Calls Try.prog 9 #[.int .i64 n, .int .i64 m] w fun e w' => e = .returned (.bool true) ∧ Below w.heap.size w w' := by
  have hzi := Bg.zeroInt
  have hs2 := Bg.intA_size false 0
  have HO := Lib.hid (Own.start w)
  have hA0 : -4611686018427387904 ≤ n.tdiv 2 ∧ n.tdiv 2 ≤ 4611686018427387903 := half_bound n hn1 hn2
  have hB0 : -4611686018427387904 ≤ m.tdiv 2 ∧ m.tdiv 2 ≤ 4611686018427387903 := half_bound m hm1 hm2
  go_enter Try.func9, Try.ntmps9
  go_upto_region 2 with fail
  generalize n.tdiv 2 = A at hA0 ⊢
  generalize m.tdiv 2 = B at hB0 ⊢
  obtain ⟨a1, a2⟩ : -9223372036854775808 ≤ A ∧ A < 9223372036854775808 := by omega
  obtain ⟨b1, b2⟩ : -9223372036854775808 ≤ B ∧ B < 9223372036854775808 := by omega
  have lA := lim64 a1 a2
  have lB := lim64 b1 b2
  have ln := lim64 hn1 hn2
  have lm := lim64 hm1 hm2
  obtain ⟨S, hS⟩ : ∃ S, Hid (S = A + B) := ⟨A + B, rfl⟩
  have hSb : -9223372036854775808 ≤ S ∧ S < 9223372036854775808 := by rw [hS.out]; omega
  have lS := lim64 hSb.1 hSb.2
  have rS1 : Hid (S = Bg.resZ S) := Lib.hid (res_yes hSb.1 hSb.2).1
  have rS2 : Hid (0 = Bg.resE S) := Lib.hid (res_yes hSb.1 hSb.2).2
  obtain ⟨C, hC⟩ : ∃ C, Hid (C = A.tmod 1073741824) := ⟨_, rfl⟩
  obtain ⟨D, hD⟩ : ∃ D, Hid (D = B.tmod 1073741824) := ⟨_, rfl⟩
  have hCb := tmod_bound A
  have hDb := tmod_bound B
  rw [← hC.out] at hCb
  rw [← hD.out] at hDb
  have hCt : A.tmod 1073741824 = C := hC.out.symm
  have hDt : B.tmod 1073741824 = D := hD.out.symm
  have lC := lim64 (z := C) (by omega) (by omega)
  have lD := lim64 (z := D) (by omega) (by omega)
  obtain ⟨P, hP⟩ : ∃ P, Hid (P = C * D) := ⟨_, rfl⟩
  have hPb := mul_bound hCb.1 hCb.2 hDb.1 hDb.2
  rw [← hP.out] at hPb
  have lP := lim64 hPb.1 hPb.2
  have rP1 : Hid (P = Bg.resZ P) := Lib.hid (res_yes hPb.1 hPb.2).1
  have rP2 : Hid (0 = Bg.resE P) := Lib.hid (res_yes hPb.1 hPb.2).2
  have HSb := Lib.hid hSb
  have HPb := Lib.hid hPb
  have HCb := Lib.hid hCb
  have HDb := Lib.hid hDb
  have f64 : Hid (true = Bg.fits64 n) := Lib.hid (by unfold Bg.fits64; simp [hn1, hn2])
  have HI : Hid (∀ (k : Int) (w' : World), (k = n ∨ k = m ∨ k = A ∨ k = B ∨ k = C ∨ k = D ∨ k = S ∨ k = P) → Calls Try.prog 36 #[.int .i64 k] w' fun e w'' => e = .returned (.agg (Bg.zA k)) ∧ Below w'.heap.size w' w'') :=
    Lib.hid (fun k w' h => fromInt_z k (by omega) (by omega) w')
  clear hA0 hB0 hSb hPb hCb hDb a1 a2 b1 b2
  go_upto_region 5 with (first
    | (go_at_call 36; refine (HI.out _ _ (by simp)).mono ?_; rintro e w2 ⟨rfl, hL⟩; have HO := Lib.hid (HO.out.call hL); clear hL)
    | (go_at_call 28; refine (add_z A B S 0 S lA lB hS rS1 rS2 _).mono ?_; rintro e w5 ⟨rfl, hL⟩; have HO := Lib.hid (HO.out.call hL); have HW : Hid (w.heap.size ≤ w5.heap.size) := Lib.hid HO.out.1.size; have HO := Lib.hid (HO.out.alloc (Bg.intA false 0) 25); clear hL)
    | ((with_reducible apply wl_at; refine st_z (S) (Bg.intA false 0) rfl _ _ rfl _ rfl rfl (by exact HO.out.get (b := w5.heap.size) (by simp)) (by exact hs2) ?_); have HO := Lib.hid ((HO.out.less (l' := []) (by simp)).row (b := w5.heap.size) (c := Bg.intA false 0) HW.out (by simp) (HO.out.get (by simp)) (Bg.zA S)); generalize World.setRow _ _ _ = w6 at HO ⊢)
    | (go_at_call 27; refine (mul_z C D P 0 P lC lD hP rP1 rP2 _).mono ?_; rintro e w7 ⟨rfl, hL⟩; have HO := Lib.hid (HO.out.call hL); have HW2 : Hid (w5.heap.size < w7.heap.size) := Lib.hid (HO.out.get (b := w5.heap.size) (c := Bg.zA S) (by simp)).lt; have HO := Lib.hid (HO.out.alloc (Bg.intA false 0) 25); clear hL)
    | ((with_reducible apply wl_at; refine st_z (P) (Bg.intA false 0) rfl _ _ rfl _ rfl rfl (by exact HO.out.get (b := w7.heap.size) (by simp)) (by exact hs2) ?_); have HO := Lib.hid ((HO.out.less (l' := [(w5.heap.size, Bg.zA S)]) (by simp)).row (b := w7.heap.size) (c := Bg.intA false 0) (by have := HW.out; have := HW2.out; omega) (by have := HW2.out; simp; omega) (HO.out.get (by simp)) (Bg.zA P)); generalize World.setRow _ _ _ = w8 at HO ⊢)
    | (go_at_call 37; refine (toInt_z n n true ln f64 (Lib.hid rfl) _).mono ?_; rintro e w9 ⟨rfl, hL⟩; have HO := Lib.hid (HO.out.call hL); clear hL))
  have HO := Lib.hid (HO.out.less (l' := [(w7.heap.size, Bg.zA P), (w5.heap.size, Bg.zA S)]) (by simp))
  obtain ⟨g1, hg1⟩ : ∃ g1 : Int, Hid (g1 = if n < m then -1 else 0) := ⟨_, rfl⟩
  obtain ⟨g, hg⟩ : ∃ g : Int, Hid (g = (n - m).sign) := ⟨_, rfl⟩
  go_upto_if 44 with fail
  go_cut [13] (fun v wc => v = .int .i64 g1 ∧ wc = w9)
  case first =>
    by_cases h : n < m
    · have e := Lib.hid (hg1.out.trans (if_pos h))
      go_wp2_with fail
      go_meet
      case rel => exact ⟨by rw [e.out], rfl⟩
    · have e := Lib.hid (hg1.out.trans (if_neg h))
      go_wp2_with fail
      go_meet
      case rel => exact ⟨by rw [e.out], rfl⟩
  case rest =>
    obtain ⟨rfl, rfl⟩ := hcut
    go_step
    go_upto_if 47 with fail
    go_cut [13] (fun v w10 => v = .int .i64 g ∧ w10 = wc)
    case first =>
      by_cases h : m < n
      · have e : Hid (g = 1) := Lib.hid (hg.out.trans (Int.sign_eq_one_of_pos (by omega)))
        go_wp2_with fail
        go_meet
        case rel => exact ⟨by rw [e.out], rfl⟩
      · have e : Hid (g1 = g) := Lib.hid (by
          rw [hg1.out, hg.out]
          by_cases h2 : n < m
          · rw [if_pos h2, Int.sign_eq_neg_one_of_neg (by omega)]
          · rw [if_neg h2, show n - m = 0 by omega]; rfl)
        go_wp2_with fail
        go_meet
        case rel => exact ⟨by rw [e.out], rfl⟩
    case rest =>
      obtain ⟨rfl, rfl⟩ := hcut
      go_step
      have hwr (x : Int) : IntKind.i64.wrap x = (x + 9223372036854775808) % 18446744073709551616 - 9223372036854775808 := by
        simp [IntKind.wrap, IntKind.bits, IntKind.signed]
        split <;> omega
      have hwS : IntKind.i64.wrap (A + B) = S := by rw [← hS.out, hwr]; have := HSb.out; omega
      have hwP : IntKind.i64.wrap (C * D) = P := by rw [← hP.out, hwr]; have := HPb.out; omega
      clear hwr
      go_step
      have hD0 : Own w wc.drew [(w7.heap.size, Bg.zA P), (w5.heap.size, Bg.zA S)] := ⟨HO.out.1.drew, HO.out.2⟩
      refine wp_region_held_drew (S := fun w' => Own w w' [(w7.heap.size, Bg.zA P), (w5.heap.size, Bg.zA S)]) (by kernel_rfl) hD0 (fun hH0 => ?_)
      generalize wc.drew = x0 at hH0 ⊢
      refine call_h (i := 0) (.bool true) (by kernel_rfl) rfl rfl (by rfl) 15 #[] (by intro w; go_simp) (known_any _) (fun w' hb => hH0.call hb) (fun x1 hb => ?_)
      have hH1 := hH0.call hb
      clear hb
      try simp only [List.setIfInBounds_toArray, List.set_cons_zero, List.set_cons_succ]
      refine take_h (i := 1) (v := .bool true) rfl rfl (by kernel_rfl) (by kernel_rfl) (by kernel_rfl) (fun _ _ _ h => h) (Or.inl ⟨by rfl, ?y1⟩) hH1 ?r1
      case y1 => (intro w' hSw; go_simp)
      try simp only [List.setIfInBounds_toArray, List.set_cons_zero, List.set_cons_succ]
      refine take_h (i := 2) (v := .int .i64 n) rfl rfl (by kernel_rfl) (by kernel_rfl) (by kernel_rfl) (fun _ _ _ h => h) (Or.inl ⟨by rfl, ?y2⟩) hH1 ?r2
      case y2 => (intro w' hSw; go_simp)
      try simp only [List.setIfInBounds_toArray, List.set_cons_zero, List.set_cons_succ]
      refine take_h (i := 3) (v := .int .i64 n) rfl rfl (by kernel_rfl) (by kernel_rfl) (by kernel_rfl) (fun _ _ _ h => h) (Or.inl ⟨by rfl, ?y3⟩) hH1 ?r3
      case y3 => (intro w' hSw; go_simp)
      try simp only [List.setIfInBounds_toArray, List.set_cons_zero, List.set_cons_succ]
      refine take_h (i := 4) (v := .bool true) rfl rfl (by kernel_rfl) (by kernel_rfl) (by kernel_rfl) (fun _ _ _ h => h) (Or.inl ⟨by rfl, ?y4⟩) hH1 ?r4
      case y4 => (intro w' hSw; go_simp)
      try simp only [List.setIfInBounds_toArray, List.set_cons_zero, List.set_cons_succ]
      refine take_h (i := 5) (v := .bool true) rfl rfl (by kernel_rfl) (by kernel_rfl) (by kernel_rfl) (fun _ _ _ h => h) (Or.inl ⟨by rfl, ?y5⟩) hH1 ?r5
      case y5 => (intro w' hSw; go_simp)
      try simp only [List.setIfInBounds_toArray, List.set_cons_zero, List.set_cons_succ]
      refine take_h (i := 6) (v := .bool true) rfl rfl (by kernel_rfl) (by kernel_rfl) (by kernel_rfl) (fun _ _ _ h => h) (Or.inl ⟨by rfl, ?y6⟩) hH1 ?r6
      case y6 => (intro w' hSw; go_simp)
      try simp only [List.setIfInBounds_toArray, List.set_cons_zero, List.set_cons_succ]
      refine take_h (i := 7) (v := .bool true) rfl rfl (by kernel_rfl) (by kernel_rfl) (by kernel_rfl) (fun _ _ _ h => h) (Or.inl ⟨by rfl, ?y7⟩) hH1 ?r7
      case y7 => (intro w' hSw; go_simp)
      try simp only [List.setIfInBounds_toArray, List.set_cons_zero, List.set_cons_succ]
      refine take_h (i := 8) (v := .bool true) rfl rfl (by kernel_rfl) (by kernel_rfl) (by kernel_rfl) (fun _ _ _ h => h) (Or.inl ⟨by rfl, ?y8⟩) hH1 ?r8
      case y8 => (intro w' hSw; go_simp)
      try simp only [List.setIfInBounds_toArray, List.set_cons_zero, List.set_cons_succ]
      refine take_h (i := 9) (v := .bool true) rfl rfl (by kernel_rfl) (by kernel_rfl) (by kernel_rfl) (fun _ _ _ h => h) (Or.inl ⟨by rfl, ?y9⟩) hH1 ?r9
      case y9 => (intro w' hSw; go_simp)
      try simp only [List.setIfInBounds_toArray, List.set_cons_zero, List.set_cons_succ]
      refine take_h (i := 10) (v := .agg (Bg.zA S)) rfl rfl (by kernel_rfl) (by kernel_rfl) (by kernel_rfl) (fun _ _ _ h => h) ?y10 hH1 ?r10
      case y10 => exact yl_z S (by rfl) _ rfl w5.heap.size rfl (fun w' h => h.get (by simp))
      try simp only [List.setIfInBounds_toArray, List.set_cons_zero, List.set_cons_succ]
      refine take_h (i := 11) (v := .int .i64 A) rfl rfl (by kernel_rfl) (by kernel_rfl) (by kernel_rfl) (fun _ _ _ h => h) (Or.inl ⟨by rfl, ?y11⟩) hH1 ?r11
      case y11 => (intro w' hSw; go_simp)
      try simp only [List.setIfInBounds_toArray, List.set_cons_zero, List.set_cons_succ]
      refine take_h (i := 12) (v := .int .i64 B) rfl rfl (by kernel_rfl) (by kernel_rfl) (by kernel_rfl) (fun _ _ _ h => h) (Or.inl ⟨by rfl, ?y12⟩) hH1 ?r12
      case y12 => (intro w' hSw; go_simp)
      try simp only [List.setIfInBounds_toArray, List.set_cons_zero, List.set_cons_succ]
      refine take_h (i := 13) (v := .int .i64 S) rfl rfl (by kernel_rfl) (by kernel_rfl) (by kernel_rfl) (fun _ _ _ h => h) (Or.inl ⟨by rfl, ?y13⟩) hH1 ?r13
      case y13 => (intro w' hSw; go_simp; (try rw [hwS]))
      try simp only [List.setIfInBounds_toArray, List.set_cons_zero, List.set_cons_succ]
      refine call_h (i := 14) (.agg (Bg.zA S)) (by kernel_rfl) rfl rfl (by rfl) 36 #[.int .i64 S] (by intro w; go_simp) (HI.out S _ (by simp)) (fun w' hb => hH1.call hb) (fun x2 hb => ?_)
      have hH2 := hH1.call hb
      clear hb
      try simp only [List.setIfInBounds_toArray, List.set_cons_zero, List.set_cons_succ]
      refine take_h (i := 15) (v := .bool true) rfl rfl (by kernel_rfl) (by kernel_rfl) (by kernel_rfl) (fun _ _ _ h => h) ?y15 hH2 ?r15
      case y15 => exact yl_eqz S (by rfl) _ _ _ rfl rfl rfl lS
      try simp only [List.setIfInBounds_toArray, List.set_cons_zero, List.set_cons_succ]
      refine take_h (i := 16) (v := .bool true) rfl rfl (by kernel_rfl) (by kernel_rfl) (by kernel_rfl) (fun _ _ _ h => h) (Or.inl ⟨by rfl, ?y16⟩) hH2 ?r16
      case y16 => (intro w' hSw; go_simp)
      try simp only [List.setIfInBounds_toArray, List.set_cons_zero, List.set_cons_succ]
      refine take_h (i := 17) (v := .bool true) rfl rfl (by kernel_rfl) (by kernel_rfl) (by kernel_rfl) (fun _ _ _ h => h) (Or.inl ⟨by rfl, ?y17⟩) hH2 ?r17
      case y17 => (intro w' hSw; go_simp)
      try simp only [List.setIfInBounds_toArray, List.set_cons_zero, List.set_cons_succ]
      refine take_h (i := 18) (v := .agg (Bg.zA P)) rfl rfl (by kernel_rfl) (by kernel_rfl) (by kernel_rfl) (fun _ _ _ h => h) ?y18 hH2 ?r18
      case y18 => exact yl_z P (by rfl) _ rfl w7.heap.size rfl (fun w' h => h.get (by simp))
      try simp only [List.setIfInBounds_toArray, List.set_cons_zero, List.set_cons_succ]
      refine take_h (i := 19) (v := .int .i64 A) rfl rfl (by kernel_rfl) (by kernel_rfl) (by kernel_rfl) (fun _ _ _ h => h) (Or.inl ⟨by rfl, ?y19⟩) hH2 ?r19
      case y19 => (intro w' hSw; go_simp)
      try simp only [List.setIfInBounds_toArray, List.set_cons_zero, List.set_cons_succ]
      refine take_h (i := 20) (v := .int .i64 C) rfl rfl (by kernel_rfl) (by kernel_rfl) (by kernel_rfl) (fun _ _ _ h => h) (Or.inl ⟨by rfl, ?y20⟩) hH2 ?r20
      case y20 => (intro w' hSw; go_simp)
      try simp only [List.setIfInBounds_toArray, List.set_cons_zero, List.set_cons_succ]
      refine take_h (i := 21) (v := .int .i64 B) rfl rfl (by kernel_rfl) (by kernel_rfl) (by kernel_rfl) (fun _ _ _ h => h) (Or.inl ⟨by rfl, ?y21⟩) hH2 ?r21
      case y21 => (intro w' hSw; go_simp)
      try simp only [List.setIfInBounds_toArray, List.set_cons_zero, List.set_cons_succ]
      refine take_h (i := 22) (v := .int .i64 D) rfl rfl (by kernel_rfl) (by kernel_rfl) (by kernel_rfl) (fun _ _ _ h => h) (Or.inl ⟨by rfl, ?y22⟩) hH2 ?r22
      case y22 => (intro w' hSw; go_simp)
      try simp only [List.setIfInBounds_toArray, List.set_cons_zero, List.set_cons_succ]
      refine take_h (i := 23) (v := .int .i64 P) rfl rfl (by kernel_rfl) (by kernel_rfl) (by kernel_rfl) (fun _ _ _ h => h) (Or.inl ⟨by rfl, ?y23⟩) hH2 ?r23
      case y23 => (intro w' hSw; go_simp; (try rw [hwP]))
      try simp only [List.setIfInBounds_toArray, List.set_cons_zero, List.set_cons_succ]
      refine call_h (i := 24) (.agg (Bg.zA P)) (by kernel_rfl) rfl rfl (by rfl) 36 #[.int .i64 P] (by intro w; go_simp) (HI.out P _ (by simp)) (fun w' hb => hH2.call hb) (fun x3 hb => ?_)
      have hH3 := hH2.call hb
      clear hb
      try simp only [List.setIfInBounds_toArray, List.set_cons_zero, List.set_cons_succ]
      refine take_h (i := 25) (v := .bool true) rfl rfl (by kernel_rfl) (by kernel_rfl) (by kernel_rfl) (fun _ _ _ h => h) ?y25 hH3 ?r25
      case y25 => exact yl_eqz P (by rfl) _ _ _ rfl rfl rfl lP
      try simp only [List.setIfInBounds_toArray, List.set_cons_zero, List.set_cons_succ]
      refine take_h (i := 26) (v := .bool true) rfl rfl (by kernel_rfl) (by kernel_rfl) (by kernel_rfl) (fun _ _ _ h => h) (Or.inl ⟨by rfl, ?y26⟩) hH3 ?r26
      case y26 => (intro w' hSw; go_simp)
      try simp only [List.setIfInBounds_toArray, List.set_cons_zero, List.set_cons_succ]
      refine take_h (i := 27) (v := .bool true) rfl rfl (by kernel_rfl) (by kernel_rfl) (by kernel_rfl) (fun _ _ _ h => h) (Or.inl ⟨by rfl, ?y27⟩) hH3 ?r27
      case y27 => (intro w' hSw; go_simp)
      try simp only [List.setIfInBounds_toArray, List.set_cons_zero, List.set_cons_succ]
      refine take_h (i := 28) (v := .int .i64 n) rfl rfl (by kernel_rfl) (by kernel_rfl) (by kernel_rfl) (fun _ _ _ h => h) (Or.inl ⟨by rfl, ?y28⟩) hH3 ?r28
      case y28 => (intro w' hSw; go_simp)
      try simp only [List.setIfInBounds_toArray, List.set_cons_zero, List.set_cons_succ]
      refine take_h (i := 30) (v := .int .i64 m) rfl rfl (by kernel_rfl) (by kernel_rfl) (by kernel_rfl) (fun _ _ _ h => h) (Or.inl ⟨by rfl, ?y30⟩) hH3 ?r30
      case y30 => (intro w' hSw; go_simp)
      try simp only [List.setIfInBounds_toArray, List.set_cons_zero, List.set_cons_succ]
      refine take_h (i := 33) (v := .int .i64 g) rfl rfl (by kernel_rfl) (by kernel_rfl) (by kernel_rfl) (fun _ _ _ h => h) (Or.inl ⟨by rfl, ?y33⟩) hH3 ?r33
      case y33 => (intro w' hSw; go_simp)
      try simp only [List.setIfInBounds_toArray, List.set_cons_zero, List.set_cons_succ]
      refine call_h (i := 29) (.agg (Bg.zA n)) (by kernel_rfl) rfl rfl (by rfl) 36 #[.int .i64 n] (by intro w; go_simp) (HI.out n _ (by simp)) (fun w' hb => hH3.call hb) (fun x4 hb => ?_)
      have hH4 := hH3.call hb
      clear hb
      try simp only [List.setIfInBounds_toArray, List.set_cons_zero, List.set_cons_succ]
      refine call_h (i := 31) (.agg (Bg.zA m)) (by kernel_rfl) rfl rfl (by rfl) 36 #[.int .i64 m] (by intro w; go_simp) (HI.out m _ (by simp)) (fun w' hb => hH4.call hb) (fun x5 hb => ?_)
      have hH5 := hH4.call hb
      clear hb
      try simp only [List.setIfInBounds_toArray, List.set_cons_zero, List.set_cons_succ]
      refine call_h (i := 32) (.int .i64 g) (by kernel_rfl) rfl rfl (by rfl) 34 #[.agg (Bg.zA n), .agg (Bg.zA m)] (by intro w; go_simp) (cmp_z n m g ln lm hg _) (fun w' hb => hH5.call hb) (fun x6 hb => ?_)
      have hH6 := hH5.call hb
      clear hb
      try simp only [List.setIfInBounds_toArray, List.set_cons_zero, List.set_cons_succ]
      refine take_h (i := 34) (v := .bool true) rfl rfl (by kernel_rfl) (by kernel_rfl) (by kernel_rfl) (fun _ _ _ h => h) (Or.inl ⟨by rfl, ?y34⟩) hH6 ?r34
      case y34 => (intro w' hSw; go_simp)
      try simp only [List.setIfInBounds_toArray, List.set_cons_zero, List.set_cons_succ]
      refine take_h (i := 35) (v := .bool true) rfl rfl (by kernel_rfl) (by kernel_rfl) (by kernel_rfl) (fun _ _ _ h => h) (Or.inl ⟨by rfl, ?y35⟩) hH6 ?r35
      case y35 => (intro w' hSw; go_simp)
      try simp only [List.setIfInBounds_toArray, List.set_cons_zero, List.set_cons_succ]
      refine take_h (i := 36) (v := .bool true) rfl rfl (by kernel_rfl) (by kernel_rfl) (by kernel_rfl) (fun _ _ _ h => h) (Or.inl ⟨by rfl, ?y36⟩) hH6 ?r36
      case y36 => (intro w' hSw; go_simp)
      try simp only [List.setIfInBounds_toArray, List.set_cons_zero, List.set_cons_succ]
      refine wpAnyH_done (by kernel_rfl) ?_ _
      go_wp2_with fail
      go_ret
      exact ⟨rfl, hH6.1⟩
end Go.Proofs.Ytbkbfgedlfbbiaa
