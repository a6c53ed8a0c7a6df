/- The tape read exactly: the same place gives the same. -/
import Derived.Test.YtaokneooejbfkaaTapeO
namespace Go.Proofs.Ytaokneooejbfkaa
set_option maxRecDepth 8000
open Go.RowKit
theorem fold_e (v n : Int) (w : World) (h0 : 1 ≤ n) (h1 : n ≤ 4611686018427387904) :
    Calls Try.prog 13 #[.int .i64 v, .int .i64 n] w fun e w' => e = .returned (.int .i64 (v % n)) ∧ w = w' := by
  by_cases e : n = 1
  · subst e
    obtain ⟨z, hz⟩ : ∃ z, z = v % 1 := ⟨_, rfl⟩
    obtain rfl : z = 0 := by omega
    rw [← hz]
    clear hz
    go_enter Try.func13, Try.ntmps13
    go_wp2
    go_ret
    exact ⟨rfl, rfl⟩
  · have hn : ¬ n ≤ 1 := by omega
    clear e
    by_cases hv : 0 ≤ v
    · have hb : v.tmod n = v % n := Int.tmod_eq_emod_of_nonneg hv
      have q0 := Int.emod_nonneg v (show n ≠ 0 by omega)
      have q1 := Int.emod_lt_of_pos v (show 0 < n by omega)
      obtain ⟨q, hq⟩ : ∃ q, q = v % n := ⟨_, rfl⟩
      rw [← hq] at hb q0 q1 ⊢
      clear hq
      go_enter Try.func13, Try.ntmps13
      go_wp2
      go_ret
      exact ⟨rfl, rfl⟩
    · have e2 : v.tmod n = -((-v) % n) := by rw [← Int.tmod_eq_emod_of_nonneg (by omega), ← Int.neg_tmod, Int.neg_neg]
      have p0 := Int.emod_nonneg (-v) (show n ≠ 0 by omega)
      have p1 := Int.emod_lt_of_pos (-v) (show 0 < n by omega)
      have r0 := Int.emod_nonneg v (show n ≠ 0 by omega)
      have r1 := Int.emod_lt_of_pos v (show 0 < n by omega)
      have hd : v % n = if v.tmod n < 0 then v.tmod n + n else v.tmod n := by
        have h3 := Int.mul_tdiv_add_tmod v n
        have h4 := Int.mul_ediv_add_emod v n
        have h5 : (v % n - v.tmod n) = n * (v.tdiv n - v / n) := by rw [Int.mul_sub]; omega
        have q0 : -n < v.tmod n := by omega
        have q1 : v.tmod n ≤ 0 := by omega
        have h6 : 0 ≤ v.tdiv n - v / n := by
          apply Classical.byContradiction
          intro h
          have : n * (v.tdiv n - v / n) ≤ n * (-1) := Int.mul_le_mul_of_nonneg_left (by omega) (by omega)
          omega
        have h7 : v.tdiv n - v / n < 2 := by
          apply Classical.byContradiction
          intro h
          have : n * 2 ≤ n * (v.tdiv n - v / n) := Int.mul_le_mul_of_nonneg_left (by omega) (by omega)
          omega
        rcases (show v.tdiv n - v / n = 0 ∨ v.tdiv n - v / n = 1 by omega) with h8 | h8 <;> rw [h8] at h5
        · rw [Int.mul_zero] at h5
          rw [if_neg (by omega)]; omega
        · rw [Int.mul_one] at h5
          split <;> omega
      have q0 : -n < v.tmod n := by omega
      have q1 : v.tmod n ≤ 0 := by omega
      clear e2 p0 p1 r0 r1
      obtain ⟨q, hq⟩ : ∃ q, q = v.tmod n := ⟨_, rfl⟩
      rw [← hq] at q0 q1 hd
      have hb : v.tmod n = q := hq.symm
      rw [hd]
      clear hq hd
      by_cases hq0 : q < 0
      · rw [if_pos hq0]
        go_enter Try.func13, Try.ntmps13
        go_wp2
        go_ret
        exact ⟨rfl, rfl⟩
      · obtain rfl : q = 0 := by omega
        rw [if_neg hq0]
        go_enter Try.func13, Try.ntmps13
        go_wp2
        go_ret
        exact ⟨rfl, rfl⟩
/-- What the tape gives at a place. -/
def Tv (xs : List Int) (at_ n : Int) : Int := (if at_ < xs.length then xs.getD at_.toNat 0 else at_ * 7 % 11) % n
theorem Tv.range (xs : List Int) (at_ : Int) {n : Int} (h : 1 ≤ n) : 0 ≤ Tv xs at_ n ∧ Tv xs at_ n < n := ⟨Int.emod_nonneg _ (by omega), Int.emod_lt_of_pos _ (by omega)⟩
set_option maxHeartbeats 1000000 in
theorem next_e (tb : Nat) (L : Option Addr) (xs : List Int) (c : Nat) (at_ n : Int) (w : World) (hbl : Blk w tb #[.slice L xs.length c, .int .i64 at_]) (ha0 : 0 ≤ at_) (ham : at_ ≤ 1000000000000) (hI : IntsAt w L xs) (h0 : 1 ≤ n) (h1 : n ≤ 4611686018427387904) :
    Calls Try.prog 4 #[.pointer (some ⟨tb, 0, none⟩), .int .i64 n] w fun e w' => e = .returned (.int .i64 (Tv xs at_ n)) ∧ Blk w' tb #[.slice L xs.length c, .int .i64 (at_ + 1)] ∧ Only [tb] w w' := by
  have hc0 : w.cell? ⟨tb, 0, none⟩ = some (.slice L xs.length c) := hbl.cell 0
  have hc1 : w.cell? ⟨tb, 1, none⟩ = some (.int .i64 at_) := hbl.cell 1
  have hf1 : w.frozen? ⟨tb, 1, none⟩ = false := hbl.free 1
  have HI := Lib.hid hI
  have HS : Hid (∀ N, Blk ((w.drewN N).setCell ⟨tb, 1, none⟩ (.int .i64 (at_ + 1))) tb #[.slice L xs.length c, .int .i64 (at_ + 1)] ∧ Only [tb] w ((w.drewN N).setCell ⟨tb, 1, none⟩ (.int .i64 (at_ + 1)))) := Lib.hid fun N => by
    have hs := (hbl.drewN N).set 1 (.int .i64 (at_ + 1))
    have hO : Only [tb] (w.drewN N) ((w.drewN N).setCell ⟨tb, 1, none⟩ (.int .i64 (at_ + 1))) := by
      obtain ⟨t, ht⟩ := hbl.drewN N
      rw [setCell_eq_setRow _ tb 1 _ t (0, 0) _ ht]
      exact Only.setRow _ _ _
    exact ⟨by simpa using hs, (Only.of (below_drewN (Below.refl _ _) N) [tb]).trans hO⟩
  clear hbl hI
  by_cases hlt : at_ < xs.length
  · obtain ⟨b, off, rfl, hbb, hcell⟩ := HI.out.at_ (j := at_.toNat) (by omega)
    have hcx := hcell at_.toNat (by omega)
    clear hcell
    have hv : Tv xs at_ n = xs.getD at_.toNat 0 % n := by unfold Tv; rw [if_pos hlt]
    rw [hv]
    obtain ⟨x, hx⟩ : ∃ x, x = xs.getD at_.toNat 0 := ⟨_, rfl⟩
    rw [← hx] at hcx ⊢
    clear hx hv
    go_enter Try.func4, Try.ntmps4
    go_wp2
    go_quiet (fail)
    go_wp2
    go_quiet (fail)
    go_wp2_with (go_at_call 13; refine (fold_e _ n _ h0 h1).mono ?_; rintro e w' ⟨rfl, rfl⟩)
    go_ret
    exact ⟨rfl, HS.out _⟩
  · have hv : Tv xs at_ n = at_ * 7 % 11 % n := by unfold Tv; rw [if_neg hlt]
    rw [hv]
    clear hv
    go_enter Try.func4, Try.ntmps4
    go_wp2
    go_quiet (fail)
    go_wp2_with (go_at_call 13; refine (fold_e _ n _ h0 h1).mono ?_; rintro e w' ⟨rfl, rfl⟩)
    go_ret
    exact ⟨rfl, HS.out _⟩
theorem one_e (tb b : Nat) (L : Option Addr) (xs : List Int) (c cap : Nat) (at_ : Int) (ss : List ByteArray) (w : World) (hbl : Blk w tb #[.slice L xs.length c, .int .i64 at_]) (ha0 : 0 ≤ at_) (ham : at_ ≤ 1000000000000) (hI : IntsAt w L xs) (hB : Blk w b (ss.map Value.string).toArray) (hne : b ≠ tb) (hd : 0 < ss.length) (hd2 : ss.length ≤ 1000) :
    Calls Try.prog 7 #[.pointer (some ⟨tb, 0, none⟩), .slice (some ⟨b, 0, none⟩) ss.length cap] w fun e w' => e = .returned (.string (ss.getD (Tv xs at_ ss.length).toNat default)) ∧ Blk w' tb #[.slice L xs.length c, .int .i64 (at_ + 1)] ∧ Only [tb] w w' := by
  have N := next_e tb L xs c at_ ss.length w hbl ha0 ham hI (by omega) (by omega)
  have HB := Lib.hid hB
  have hn0 : ((ss.length : Int) == 0) = false := beq_eq_false_iff_ne.2 (by omega)
  obtain ⟨v0, v1⟩ := Tv.range xs at_ (n := ss.length) (by omega)
  obtain ⟨k, hk⟩ : ∃ k : Nat, Tv xs at_ ss.length = k := ⟨(Tv xs at_ ss.length).toNat, by omega⟩
  rw [hk] at N v0 v1 ⊢
  clear hbl hI hB ha0 ham hk
  have hk : k < ss.length := by omega
  obtain ⟨x, hx⟩ : ∃ x, x = ss[k] := ⟨_, rfl⟩
  have hx2 : ss.getD (k : Int).toNat default = x := by rw [hx]; simp [List.getD, hk]
  rw [hx2]
  clear hx2
  go_enter Try.func7, Try.ntmps7
  go_wp2_with fail
  refine N.mono ?_
  rintro e w' ⟨rfl, hT, hg⟩
  have hb2 : Blk w' b (ss.map Value.string).toArray := HB.out.kept (hg.block b HB.out.lt (by simpa using hne))
  have hcv : w'.cell? ⟨b, k, none⟩ = some (.string x) := by
    rw [hb2.cell k, hx]; simp [hk]
  have HT2 := Lib.hid hT
  have HG := Lib.hid hg
  clear hx hT hg hb2 N
  go_wp2
  go_ret
  exact ⟨rfl, HT2.out, HG.out⟩
end Go.Proofs.Ytaokneooejbfkaa
