/- bigint's DivMod. -/
import Derived.Test.YtbkbfgedlfbbiaaBigO
namespace Go.Proofs.Ytbkbfgedlfbbiaa
open Go.RowKit
/-- divide's contract at two numbers. -/
def Bg.DivOk (a b : Nat) : Prop := ∀ (ba bb : Nat) (w : World), Blk w ba (Bg.row 32 a) → Blk w bb (Bg.row 32 b) →
    Calls Try.prog 55 #[.pointer (some ⟨ba, 0, none⟩), .pointer (some ⟨bb, 0, none⟩)] w fun e w' => e = .returned (.tuple #[.agg (Bg.row 32 (a / b)), .agg (Bg.row 32 (a % b))]) ∧ Below w.heap.size w w'
theorem Bg.DivOk.small {a b : Nat} (hb0 : 0 < b) (ha : a < Bg.lim) (hb : b < Bg.lim) (hok : b < 4294967296 ∨ a < b) : Bg.DivOk a b := by
  intro ba bb w hA hB
  by_cases hlt : a < b
  · rw [Nat.div_eq_of_lt hlt, Nat.mod_eq_of_lt hlt]
    exact divide_less ba bb a b hb0 ha hb hlt w hA hB
  · exact divide_one ba bb a b hb0 ha (hok.resolve_right hlt) hlt w hA hB
theorem div_ok (ba bb a b q r : Nat) (hok : Bg.DivOk a b) (hq : Hid (q = a / b)) (hr : Hid (r = a % b)) (w : World) (hA : Blk w ba (Bg.row 32 a)) (hB : Blk w bb (Bg.row 32 b)) :
    Calls Try.prog 55 #[.pointer (some ⟨ba, 0, none⟩), .pointer (some ⟨bb, 0, none⟩)] w fun e w' => e = .returned (.tuple #[.agg (Bg.row 32 q), .agg (Bg.row 32 r)]) ∧ Below w.heap.size w w' := by
  rw [hq.out, hr.out]
  exact hok ba bb w hA hB
theorem gld_mag (N : Nat) {ops : Array Oper} {rest : List Oper} {o : Oper} {a : Act} {w : World} {Q : Exit → Act → World → Prop} (hw : Region.wanted o (yielded ops a.tmps) = true) (x : Operand) (ho : o.op = .load 57 x) (b : Nat) (hx : a.eval x = .pointer (some ⟨b, 0, none⟩)) (hb : Blk w b (Bg.row 32 N))
    (h : wpList Try.prog ops Q rest (a.put o.dst (.agg (Bg.row 32 N))) w) : wpList Try.prog ops Q (o :: rest) a w := by
  obtain ⟨t, hb⟩ := hb
  refine wpList_step fun K hK => ?_
  rw [if_pos hw]
  exact wp_load_row _ x ho b hx t _ _ _ hb und_mag rfl (by rw [Bg.row_size]; exact siz_mag) (hK _ _ h)
theorem gls_neq (N M : Nat) {ops : Array Oper} {rest : List Oper} {o : Oper} {a : Act} {w : World} {Q : Exit → Act → World → Prop} (hw : Region.wanted o (yielded ops a.tmps) = true) (x y : Operand) (t : TypeId) (ho : o.op = .binOp .neq 57 x y t) (hx : a.eval x = .agg (Bg.row 32 N)) (hy : a.eval y = .agg (Bg.row 32 M)) (hN : N < Bg.lim) (hM : M < Bg.lim) (v : Bool) (hv : v = !decide (N = M))
    (h : wpList Try.prog ops Q rest (a.put o.dst (.bool v)) w) : wpList Try.prog ops Q (o :: rest) a w := by
  have hr := run_cmp_mag .neq N M hN hM x y w (.inr rfl)
  rw [if_neg (by simp), ← hv] at hr
  refine wpList_step fun K hK => ?_
  rw [if_pos hw]
  unfold Oper.wp execOp
  simp only [Sem.run_bind] at hr
  simp only [ho, hx, hy, Sem.run_bind, hr, Result.andThen_ok, Sem.run_pure]
  exact hK _ _ h
theorem row_1 : (Bg.row 32 0).setIfInBounds 0 (.int .u32 1) = Bg.row 32 1 := by
  have := Bg.row_set 32 0 0 1 (by decide)
  rw [show Bg.setL 0 0 1 = 1 from Bg.setL_low 1] at this
  exact this
/-- Quotient and remainder of magnitudes, as the signs ask for them. -/
def Bg.dmQ (s1 : Bool) (M N : Nat) : Nat := if s1 && decide (M % N ≠ 0) then M / N + 1 else M / N
def Bg.dmR (s1 : Bool) (M N : Nat) : Nat := if s1 && decide (M % N ≠ 0) then N - M % N else M % N
theorem Bg.div_key {A B Q R : Int} (hR : 0 ≤ R) (hRl : R < B.natAbs) (hA : A = R + B * Q) : Q = A / B ∧ R = A % B := by
  have hB : B ≠ 0 := by intro e; subst e; simp at hRl; omega
  subst hA
  have h1 : R % B = R := by
    by_cases hb : B < 0
    · have e : R % B = R % (-B) := (Int.emod_neg R B).symm
      rw [e]
      exact Int.emod_eq_of_lt hR (by omega)
    · exact Int.emod_eq_of_lt hR (by omega)
  have h2 : R / B = 0 := by
    have h := Int.emod_add_mul_ediv R B
    rw [h1] at h
    have : B * (R / B) = 0 := by omega
    rcases Int.mul_eq_zero.1 this with h | h
    · exact absurd h hB
    · exact h
  constructor
  · rw [Int.add_mul_ediv_left _ _ hB, h2, Int.zero_add]
  · rw [Int.add_mul_emod_self_left, h1]
theorem Bg.dm_eq {s t s1 t1 : Bool} {M N : Nat} (h0 : 0 < N) (h1 : s1 = (s && decide (M ≠ 0))) (h2 : t1 = (t && decide (N ≠ 0))) :
    Bg.toZ (s1 != t1) (Bg.dmQ s1 M N) = Bg.toZ s M / Bg.toZ t N ∧ (Bg.dmR s1 M N : Int) = Bg.toZ s M % Bg.toZ t N := by
  rw [← Bg.toZ_canon s M, ← Bg.toZ_canon t N, ← h1, ← h2]
  have hd := Nat.div_add_mod M N
  have hlt := Nat.mod_lt M h0
  have hr : Bg.dmR s1 M N < N := by unfold Bg.dmR; split <;> rename_i h <;> simp at h <;> omega
  have hdz : ((N : Int) * (M / N : Nat) + (M % N : Nat) : Int) = M := by exact_mod_cast hd
  refine Bg.div_key (by omega) (by rw [Bg.toZ_abs]; omega) ?_
  unfold Bg.dmR Bg.dmQ
  generalize M / N = c at *
  generalize M % N = d at *
  by_cases hd0 : d = 0
  · subst hd0
    cases s1 <;> cases t1 <;> simp [Bg.toZ] <;> grind
  · cases s1 <;> cases t1 <;> simp [Bg.toZ, hd0] <;> grind
set_option maxRecDepth 20000 in
set_option maxHeartbeats 2000000 in
theorem divMod_any0 (s t : Bool) (M N : Nat) (hM : M < Bg.lim) (hN : N < Bg.lim) (h0 : 0 < N) (hok : Bg.DivOk M N) (x y : Int) (hx : Hid (x = Bg.toZ s M / Bg.toZ t N)) (hy : Hid (y = Bg.toZ s M % Bg.toZ t N)) (w : World) :
    Calls Try.prog 26 #[.agg (Bg.intA s M), .agg (Bg.intA t N)] w fun e w' => e = .returned (.tuple #[.agg (Bg.zA x), .agg (Bg.zA y), .int .i64 0]) ∧ Below w.heap.size w w' := by
  have hz := Bg.zero32
  have hzi := Bg.zeroInt
  have hs1z := Bg.row_size 32 0
  have hs2 := Bg.intA_size false 0
  have hL0 : 0 < Bg.lim := Nat.lt_of_le_of_lt (Nat.zero_le _) hN
  obtain ⟨w1, hw1⟩ : ∃ w1, w1 = (((w.alloc (.cells (Bg.intA s M) 25)).alloc (.cells (Bg.intA t N) 25)).alloc (.cells (Bg.intA false 0) 25)).alloc (.cells (Bg.intA false 0) 25) := ⟨_, rfl⟩
  have HO0 := (own3 w (Bg.intA s M) (Bg.intA t N) (Bg.intA false 0) 25 25 25).alloc (Bg.intA false 0) 25
  rw [← hw1, alloc_size, alloc_size, alloc_size, show w.heap.size + 1 + 1 + 1 = w.heap.size + 3 from rfl] at HO0
  have HO := Lib.hid HO0
  clear HO0
  obtain ⟨s1, hs1⟩ : ∃ s1, Hid (s1 = (s && decide (M ≠ 0))) := ⟨_, rfl⟩
  obtain ⟨t1, ht1⟩ : ∃ t1, Hid (t1 = (t && decide (N ≠ 0))) := ⟨_, rfl⟩
  obtain ⟨q, hq⟩ : ∃ q, Hid (q = M / N) := ⟨_, rfl⟩
  obtain ⟨r, hr⟩ : ∃ r, Hid (r = M % N) := ⟨_, rfl⟩
  have hql : q < Bg.lim := by rw [hq.out]; exact Nat.lt_of_le_of_lt (Nat.div_le_self _ _) hM
  have hrl : r < Bg.lim := by rw [hr.out]; exact Nat.lt_trans (Nat.mod_lt _ h0) hN
  have HN0 : Hid (¬ N = 0) := Lib.hid (by omega)
  go_enter Try.func26, Try.ntmps26
  go_upto_region 6 with (first
    | (rw [← hw1]; (with_reducible apply wl_at; refine ld_int (s) (M) rfl _ rfl _ rfl (by exact HO.out.get (by simp)) ?_); clear hw1)
    | ((with_reducible apply wl_at; refine ld_int (t) (N) rfl _ rfl _ rfl (by exact HO.out.get (by simp)) ?_))
    | (go_at_call 50; with_reducible refine (split_as s s1 M hM hs1 _).mono ?_; rintro e w2 ⟨rfl, hL⟩; have HO := Lib.hid ((HO.out.call hL).alloc (Bg.row 32 M) 57); clear hL)
    | (go_at_call 50; with_reducible refine (split_as t t1 N hN ht1 _).mono ?_; rintro e w3 ⟨rfl, hL⟩; have HO := Lib.hid ((HO.out.call hL).alloc (Bg.row 32 N) 57); clear hL)
    | ((with_reducible apply wl_at; refine sn_mag (M) rfl _ _ rfl rfl rfl ?_))
    | ((with_reducible apply wl_at; refine sn_mag (N) rfl _ _ rfl rfl rfl ?_))
    | ((with_reducible apply wl_at; refine ld_mag (N) rfl _ rfl _ rfl (by exact HO.out.get (by simp)) ?_))
    | ((with_reducible apply wl_at; refine ls_cmp .eql (N) (0) rfl _ _ _ rfl (.inl rfl) rfl rfl (hN) (hL0) ?_); rw [if_pos rfl, decide_eq_false HN0.out])
    | (go_at_call 55; refine (div_ok w2.heap.size w3.heap.size M N q r hok hq hr _ (HO.out.get (by simp)) (HO.out.get (by simp))).mono ?_; rintro e w5 ⟨rfl, hL⟩; have HO := Lib.hid (HO.out.call hL); have H3 : Hid (w.heap.size + 3 < w5.heap.size) := Lib.hid (HO.out.get (b := w.heap.size + 3) (c := Bg.intA false 0) (by simp)).lt; have H35 : Hid (w3.heap.size < w5.heap.size) := Lib.hid (HO.out.get (b := w3.heap.size) (c := Bg.row 32 N) (by simp)).lt;
        have HO := Lib.hid ((HO.out.less (l' := [(w3.heap.size, Bg.row 32 N), (w.heap.size + 2, Bg.intA false 0), (w.heap.size + 3, Bg.intA false 0)]) (by simp)).alloc (Bg.row 32 0) 57); have HO := Lib.hid (HO.out.alloc (Bg.row 32 0) 57); rw [alloc_size] at HO; clear hL)
    | ((with_reducible apply wl_at; refine st_mag (q) (Bg.row 32 0) rfl _ _ rfl _ rfl rfl (by exact HO.out.get (b := w5.heap.size) (by simp)) (by exact hs1z) ?_); have HO := Lib.hid ((HO.out.less (l' := [(w3.heap.size, Bg.row 32 N), (w.heap.size + 2, Bg.intA false 0), (w.heap.size + 3, Bg.intA false 0), (w5.heap.size + 1, Bg.row 32 0)]) (by simp)).row (b := w5.heap.size) (c := Bg.row 32 0) (by have := H3.out; omega) (by have := H3.out; have := H35.out; simp; omega) (HO.out.get (by simp)) (Bg.row 32 q)); generalize World.setRow _ _ _ = w6 at HO ⊢)
    | ((with_reducible apply wl_at; refine st_mag (r) (Bg.row 32 0) rfl _ _ rfl _ rfl rfl (by exact HO.out.get (b := w5.heap.size + 1) (by simp)) (by exact hs1z) ?_); have HO := Lib.hid ((HO.out.less (l' := [(w3.heap.size, Bg.row 32 N), (w.heap.size + 2, Bg.intA false 0), (w.heap.size + 3, Bg.intA false 0), (w5.heap.size, Bg.row 32 q)]) (by simp)).row (b := w5.heap.size + 1) (c := Bg.row 32 0) (by have := H3.out; omega) (by have := H3.out; have := H35.out; simp; omega) (HO.out.get (by simp)) (Bg.row 32 r)); generalize World.setRow _ _ _ = w7 at HO ⊢))
  obtain ⟨Q, hQ⟩ : ∃ Q, Hid (Q = Bg.dmQ s1 M N) := ⟨_, rfl⟩
  obtain ⟨R, hR⟩ : ∃ R, Hid (R = Bg.dmR s1 M N) := ⟨_, rfl⟩
  simp only [Act.put]
  obtain ⟨up, hup⟩ : ∃ up, Hid (up = (s1 && decide (r ≠ 0))) := ⟨_, rfl⟩
  go_cut [37] (fun v wc => v = .bool up ∧ wc = w7)
  case first =>
    cases s1 with
    | false =>
      go_wp2_with fail
      go_meet
      case rel => exact ⟨by rw [hup.out]; rfl, rfl⟩
    | true =>
      obtain ⟨nz, hnz⟩ : ∃ nz, Hid (nz = !decide (r = 0)) := ⟨_, rfl⟩
      go_wp2_with (first
        | (with_reducible apply wl_at; refine gld_mag r rfl _ rfl _ rfl (by exact HO.out.get (by simp)) ?_)
        | (with_reducible apply wl_at; refine gls_neq r 0 rfl _ _ _ rfl rfl rfl hrl hL0 nz (by exact hnz.out) ?_))
      go_meet
      case rel => exact ⟨by rw [hup.out, hnz.out]; simp, rfl⟩
  case rest =>
    obtain ⟨rfl, rfl⟩ := hcut
    go_step
    go_cut [] (fun wc => Hid (Own w wc [(w5.heap.size + 1, Bg.row 32 R), (w5.heap.size, Bg.row 32 Q), (w.heap.size + 2, Bg.intA false 0), (w.heap.size + 3, Bg.intA false 0)]))
    case first =>
      have hqd : q = M / N := hq.out
      have hrd : r = M % N := hr.out
      cases up with
      | false =>
        have h := hup.out
        have e1 : Q = q := by rw [hQ.out]; unfold Bg.dmQ; rw [← hrd, ← hqd, ← h]; simp
        have e2 : R = r := by rw [hR.out]; unfold Bg.dmR; rw [← hrd, ← h]; simp
        have HE := Lib.hid (And.intro e1 e2)
        clear h e1 e2 hqd hrd
        go_wp2_with fail
        go_meet
        case rel =>
          rw [HE.out.1, HE.out.2]
          exact Lib.hid (HO.out.less (by simp))
      | true =>
        have h := hup.out
        have hrm : M % N ≠ 0 := by rw [← hrd]; intro e; simp [e] at h
        have e1 : Hid (Q = (q + 1) % Bg.lim) := Lib.hid (by rw [hQ.out]; unfold Bg.dmQ; rw [← hrd, ← hqd, ← h, hqd, Nat.mod_eq_of_lt (Bg.quo_up hM hrm)]; simp)
        have e2 : Hid (R = Bg.dif N r) := Lib.hid (by
          have hm := Nat.mod_lt M h0
          rw [← hrd] at hm
          rw [hR.out]
          unfold Bg.dif Bg.dmR
          rw [← hrd, ← h, if_pos (show r ≤ N by omega)]
          simp)
        have h1r := row_1
        have hne := row_ne 31 0
        have h1l : 1 < Bg.lim := small_lim (by decide)
        obtain ⟨f, hf⟩ : ∃ f, Hid (f = decide (q + 1 < Bg.lim)) := ⟨_, rfl⟩
        clear h hrm hqd hrd
        go_wp2_with (first
          | (go_at_call 56; have HO := Lib.hid (HO.out.alloc (Bg.row 32 1) 57); refine (plus_as w5.heap.size wc.heap.size q 1 Q f hql h1l e1 hf _ (HO.out.get (by simp)) (HO.out.get (by simp))).mono ?_; rintro e w8 ⟨rfl, hL⟩; have HO := Lib.hid (HO.out.call hL); clear hL)
          | ((with_reducible apply wl_at; refine st_mag (Q) (Bg.row 32 q) rfl _ _ rfl _ rfl rfl (by exact HO.out.get (b := w5.heap.size) (by simp)) (by exact Bg.row_size 32 q) ?_); have HO := Lib.hid ((HO.out.less (l' := [(w3.heap.size, Bg.row 32 N), (w.heap.size + 2, Bg.intA false 0), (w.heap.size + 3, Bg.intA false 0), (w5.heap.size + 1, Bg.row 32 r)]) (by simp)).row (b := w5.heap.size) (c := Bg.row 32 q) (by have := H3.out; omega) (by have := H3.out; have := H35.out; simp; omega) (HO.out.get (by simp)) (Bg.row 32 Q)); generalize World.setRow _ _ _ = w9 at HO ⊢)
          | (go_at_call 57; refine (minus_as w3.heap.size (w5.heap.size + 1) N r R hN hrl e2 _ (HO.out.get (by simp)) (HO.out.get (by simp))).mono ?_; rintro e w10 ⟨rfl, hL⟩; have HO := Lib.hid (HO.out.call hL); clear hL)
          | ((with_reducible apply wl_at; refine st_mag (R) (Bg.row 32 r) rfl _ _ rfl _ rfl rfl (by exact HO.out.get (b := w5.heap.size + 1) (by simp)) (by exact Bg.row_size 32 r) ?_); have HO := Lib.hid ((HO.out.less (l' := [(w.heap.size + 2, Bg.intA false 0), (w.heap.size + 3, Bg.intA false 0), (w5.heap.size, Bg.row 32 Q)]) (by simp)).row (b := w5.heap.size + 1) (c := Bg.row 32 r) (by have := H3.out; omega) (by have := H3.out; have := H35.out; simp; omega) (HO.out.get (by simp)) (Bg.row 32 R)); generalize World.setRow _ _ _ = w11 at HO ⊢))
        go_meet
        case rel => exact Lib.hid (HO.out.less (by simp))
    case rest =>
      clear HO
      have HO := hcut
      have hdm := Bg.dm_eq h0 hs1.out ht1.out
      rw [← hQ.out, ← hR.out, ← hx.out, ← hy.out] at hdm
      have HX := Lib.hid hdm.1
      have HY := Lib.hid hdm.2
      clear hdm
      have hQl : Q < Bg.lim := by
        rw [hQ.out]; unfold Bg.dmQ
        split
        · rename_i h
          simp at h
          exact Bg.quo_up hM h.2
        · rw [← hq.out]; exact hql
      have hRl : R < Bg.lim := by
        have hm := Nat.mod_lt M h0
        rw [hR.out]; unfold Bg.dmR
        split <;> omega
      have hy2 : Hid (y = Bg.toZ false R) := Lib.hid (by rw [← HY.out]; simp [Bg.toZ])
      obtain ⟨d, hd⟩ : ∃ d, Hid (d = (s1 != t1)) := ⟨_, rfl⟩
      have hx2 : Hid (x = Bg.toZ d Q) := Lib.hid (by rw [hd.out, HX.out])
      go_step
      go_step
      have HD : Own w _ [(w5.heap.size + 1, Bg.row 32 R), (w5.heap.size, Bg.row 32 Q), (w.heap.size + 2, Bg.intA false 0), (w.heap.size + 3, Bg.intA false 0)] := ⟨HO.out.1.drew, HO.out.2⟩
      have hn1 := H3.out
      refine wp_region_held_drew (S := fun w' => Own w w' [(w5.heap.size + 1, Bg.row 32 R), (w5.heap.size, Bg.row 32 Q)]) (by kernel_rfl) (HD.less (by simp)) (fun hHeld => ?_)
      refine take_h (i := 0) (v := .bool s1) rfl rfl (by kernel_rfl) (by kernel_rfl) (by kernel_rfl) (fun _ _ _ h => h) (Or.inl ⟨by rfl, ?hy1x⟩) hHeld ?rest1x
      case hy1x => (intro w hSw; go_simp)
      try simp only [List.setIfInBounds_toArray, List.set_cons_zero, List.set_cons_succ]
      refine take_h (i := 1) (v := .bool t1) rfl rfl (by kernel_rfl) (by kernel_rfl) (by kernel_rfl) (fun _ _ _ h => h) (Or.inl ⟨by rfl, ?hy2x⟩) hHeld ?rest2x
      case hy2x => (intro w hSw; go_simp)
      try simp only [List.setIfInBounds_toArray, List.set_cons_zero, List.set_cons_succ]
      refine take_h (i := 2) (v := .bool d) rfl rfl (by kernel_rfl) (by kernel_rfl) (by kernel_rfl) (fun _ _ _ h => h) (Or.inl ⟨by rfl, ?hy3x⟩) hHeld ?rest3x
      case hy3x => (intro w hSw; rw [hd.out]; go_simp; cases s1 <;> cases t1 <;> rfl)
      try simp only [List.setIfInBounds_toArray, List.set_cons_zero, List.set_cons_succ]
      refine take_h (i := 3) (v := .agg (Bg.row 32 Q)) rfl rfl (by kernel_rfl) (by kernel_rfl) (by kernel_rfl) (fun _ _ _ h => h) ?hy4x hHeld ?rest4x
      case hy4x => exact yl_blk Q (by rfl) _ rfl w5.heap.size rfl (fun w' h => h.get (by simp))
      try simp only [List.setIfInBounds_toArray, List.set_cons_zero, List.set_cons_succ]
      refine take_h (i := 5) (v := .agg (Bg.row 32 R)) rfl rfl (by kernel_rfl) (by kernel_rfl) (by kernel_rfl) (fun _ _ _ h => h) ?hy5x hHeld ?rest5x
      case hy5x => exact yl_blk R (by rfl) _ rfl (w5.heap.size + 1) rfl (fun w' h => h.get (by simp))
      try simp only [List.setIfInBounds_toArray, List.set_cons_zero, List.set_cons_succ]
      refine call_h (i := 4) (.agg (Bg.zA x)) (by kernel_rfl) rfl rfl (by rfl) 48 #[.bool d, .agg (Bg.row 32 Q)] (by intro w; go_simp) (made_as d Q x hQl hx2 _) (fun w' hb => hHeld.call hb) (fun w12 hb => ?_)
      have HD2 := HD.call hb
      have hHeld2 := hHeld.call hb
      try simp only [List.setIfInBounds_toArray, List.set_cons_zero, List.set_cons_succ]
      refine call_h (i := 6) (.agg (Bg.zA y)) (by kernel_rfl) rfl rfl (by rfl) 48 #[.bool false, .agg (Bg.row 32 R)] (by intro w; go_simp) (made_as false R y hRl hy2 _) (fun w' hb => hHeld2.call hb) (fun w13 hb2 => ?_)
      have HD3 := HD2.call hb2
      have hHeld3 := hHeld2.call hb2
      try simp only [List.setIfInBounds_toArray, List.set_cons_zero, List.set_cons_succ]
      have HE := (HD3.less (l' := [(w5.heap.size + 1, Bg.row 32 R), (w5.heap.size, Bg.row 32 Q), (w.heap.size + 3, Bg.intA false 0)]) (by simp)).row (b := w.heap.size + 2) (c := Bg.intA false 0) (by omega) (by simp; omega) (HD3.get (by simp)) (Bg.zA x)
      refine store_hz (i := 7) x (Bg.intA false 0) (by kernel_rfl) rfl rfl (by rfl) _ _ rfl (w.heap.size + 2) rfl rfl (HD3.get (by simp)) hs2 (HE.less (by simp)) ?_
      generalize w13.setRow (w.heap.size + 2) (Bg.zA x) = w14 at HE ⊢
      have HF := (HE.less (l' := [(w5.heap.size + 1, Bg.row 32 R), (w5.heap.size, Bg.row 32 Q), (w.heap.size + 2, Bg.zA x)]) (by simp)).row (b := w.heap.size + 3) (c := Bg.intA false 0) (by omega) (by simp; omega) (HE.get (by simp)) (Bg.zA y)
      refine store_hz (i := 8) y (Bg.intA false 0) (by kernel_rfl) rfl rfl (by rfl) _ _ rfl (w.heap.size + 3) rfl rfl (HE.get (by simp)) hs2 (HF.less (by simp)) ?_
      generalize w14.setRow (w.heap.size + 3) (Bg.zA y) = w15 at HF ⊢
      refine take_h (i := 9) (v := .int .i64 0) rfl rfl (by kernel_rfl) (by kernel_rfl) (by kernel_rfl) (fun _ _ _ h => h) (Or.inl ⟨by rfl, ?hy6x⟩) (HF.less (by simp)) ?rest6x
      case hy6x => (intro w hSw; go_simp)
      refine wpAnyH_done (by kernel_rfl) ?_ _
      try simp only [List.setIfInBounds_toArray, List.set_cons_zero, List.set_cons_succ]
      go_wp2_with fail
      refine bodyPost_ret (res_cell_cell_tmp rfl _ rfl rfl (lv_z (b := w.heap.size + 2) (z := x) (HF.get (by simp))) (lv_z (b := w.heap.size + 3) (z := y) (HF.get (by simp)))) rfl ⟨rfl, HF.1⟩
end Go.Proofs.Ytbkbfgedlfbbiaa
