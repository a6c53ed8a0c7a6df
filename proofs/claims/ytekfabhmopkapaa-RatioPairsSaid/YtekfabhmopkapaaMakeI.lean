/- make.Int: a number of at most so many bits. -/
import Derived.Test.YtekfabhmopkapaaTapeB
import Derived.Test.YtekfabhmopkapaaRefA1
import Derived.Test.YtekfabhmopkapaaEngC
import Derived.Deep.CutBlock
namespace Go.Proofs.Ytekfabhmopkapaa
set_option maxRecDepth 8000
open Go.RowKit
set_option maxRecDepth 20000 in
set_option maxHeartbeats 1000000 in
theorem rsign_num (s : Bool) (N : Nat) (g : Int) (hN : N < Bg.lim) (hg : Hid (g = (Bg.toZ s N).sign)) (w : World) :
    Calls Try.prog 49 #[.agg (Bg.intA s N)] w fun e w' => e = .returned (.int .i64 g) ∧ Below w.heap.size w w' := by
  have HM := Mem.start w
  by_cases h0 : N = 0
  · have hg0 : Hid (g = 0) := Lib.hid (by rw [hg.out, h0]; cases s <;> rfl)
    have hz : Hid (true = decide (N = 0)) := Lib.hid (by simp [h0])
    clear h0
    go_enter Try.func49, Try.ntmps49
    go_wp2_with (first | (go_at_call 74; ((with_reducible refine (zero_as N true hN hz.out _).mono ?_); rintro e9 w2 ⟨rfl, hL⟩; replace HM := HM.call hL; clear hL)) | (first | ((with_reducible refine g_ld ?_); refine a_ld HM ?_) | ((with_reducible refine g_st ?_); refine a_st HM ?_; clear HM; intro w1 HM) | ((with_reducible refine g_al ?_); refine a_al HM ?_; clear HM; intro bk w1 HM) | ((with_reducible refine g_bx ?_); refine a_bx HM ?_; clear HM; intro bk w1 HM) | ((with_reducible refine g_bld ?_); refine a_bld ?_)))
    go_ret
    exact ⟨by rw [hg0.out]; rfl, HM.low⟩
  · have hz : Hid (false = decide (N = 0)) := Lib.hid (by simp [h0])
    have hn := Lib.hid h0
    clear h0
    cases s with
    | false =>
      go_enter Try.func49, Try.ntmps49
      go_wp2_with (first | (go_at_call 74; ((with_reducible refine (zero_as N false hN hz.out _).mono ?_); rintro e9 w2 ⟨rfl, hL⟩; replace HM := HM.call hL; clear hL)) | (first | ((with_reducible refine g_ld ?_); refine a_ld HM ?_) | ((with_reducible refine g_st ?_); refine a_st HM ?_; clear HM; intro w1 HM) | ((with_reducible refine g_al ?_); refine a_al HM ?_; clear HM; intro bk w1 HM) | ((with_reducible refine g_bx ?_); refine a_bx HM ?_; clear HM; intro bk w1 HM) | ((with_reducible refine g_bld ?_); refine a_bld ?_)))
      go_ret
      exact ⟨by rw [hg.out]; simp only [Bg.toZ]; rw [Int.sign_eq_one_of_pos (by have := hn.out; simp; omega)]; rfl, HM.low⟩
    | true =>
      go_enter Try.func49, Try.ntmps49
      go_wp2_with (first | (go_at_call 74; ((with_reducible refine (zero_as N false hN hz.out _).mono ?_); rintro e9 w2 ⟨rfl, hL⟩; replace HM := HM.call hL; clear hL)) | (first | ((with_reducible refine g_ld ?_); refine a_ld HM ?_) | ((with_reducible refine g_st ?_); refine a_st HM ?_; clear HM; intro w1 HM) | ((with_reducible refine g_al ?_); refine a_al HM ?_; clear HM; intro bk w1 HM) | ((with_reducible refine g_bx ?_); refine a_bx HM ?_; clear HM; intro bk w1 HM) | ((with_reducible refine g_bld ?_); refine a_bld ?_)))
      go_ret
      exact ⟨by rw [hg.out]; simp only [Bg.toZ]; rw [Int.sign_eq_neg_one_of_neg (by have := hn.out; simp; omega)]; rfl, HM.low⟩
theorem mask_u32 (x l : Nat) (hx : x < 4294967296) (hl : l < 32) : ∃ y : Nat, bits .and .u32 (x : Int) (((2 : Int) ^ l - 1) % 4294967296) = (y : Int) ∧ y < 4294967296 ∧ y < Bg.p2 l := by
  have h1 : (2 : Nat) ^ l ≤ 2 ^ 31 := Nat.pow_le_pow_right (by decide) (by omega)
  have h0 : 0 < (2 : Nat) ^ l := Nat.two_pow_pos _
  have e : ((2 : Int) ^ l - 1) % 4294967296 = ((2 ^ l - 1 : Nat) : Int) := by
    have e2 : (2 : Int) ^ l = ((2 ^ l : Nat) : Int) := by norm_cast
    rw [e2]; omega
  rw [e, u32_and_nat x (2 ^ l - 1) hx (by omega)]
  have h2 : x &&& (2 ^ l - 1) < 2 ^ l := Nat.and_lt_two_pow _ (by omega)
  exact ⟨_, rfl, by omega, by unfold Bg.p2; exact h2⟩
theorem intA_zA (u : Bool) (s : Nat) (h : u = true → s ≠ 0) : Bg.intA u s = Bg.zA (Bg.toZ u s) := by
  rw [zA_int]
  cases u
  · have h1 : ¬ ((s : Int) < 0) := by omega
    simp [Bg.toZ, h1]
  · have h2 := h rfl
    have h3 : (-(s : Int)) < 0 := by omega
    have h4 : 0 < s := by omega
    simp [Bg.toZ, h4]
theorem round_p2 {s y j l n : Nat} (hs : s < Bg.p2 (min (32 * j) n)) (hn : n = 32 * j + l) (hy : y < 4294967296) (hy2 : l < 32 → y < Bg.p2 l) : Bg.setL s j y < Bg.p2 (min (32 * (j + 1)) n) := by
  have e0 : min (32 * j) n = 32 * j := by omega
  rw [e0, Bg.p2_pw] at hs
  rw [Bg.setL_top _ _ _ hs]
  by_cases h : l < 32
  · have e1 : min (32 * (j + 1)) n = 32 * j + l := by omega
    rw [e1, Bg.p2_add, Bg.p2_pw]
    have := hy2 h
    have h3 : (y + 1) * Bg.pw j ≤ Bg.p2 l * Bg.pw j := Nat.mul_le_mul_right _ this
    rw [Nat.add_mul, Nat.one_mul] at h3
    rw [Nat.mul_comm (Bg.pw j)]
    omega
  · have e1 : min (32 * (j + 1)) n = 32 * (j + 1) := by omega
    rw [e1, Bg.p2_pw]
    exact Bg.lt_succ hs hy
def IntPost (W : World) (tb m : Nat) (k : Nat) (w : World) (e : Ending) (w' : World) : Prop :=
  ∃ z : Int, e = .returned (.agg (Bg.zA z)) ∧ z.natAbs < Bg.p2 k ∧ Tp W tb (m + 100) w' ∧ w.grownBy w' (some tb)
set_option maxRecDepth 20000 in
set_option maxHeartbeats 1000000 in
theorem int_any (W : World) (tb m k : Nat) (w : World) (hT : Tp W tb m w) (hm : m ≤ 1000000000) (hk : 1 ≤ k) (hk2 : k ≤ 1024) :
    Calls Try.prog 68 #[.pointer (some ⟨tb, 0, none⟩), .int .i64 (k : Nat)] w (IntPost W tb m k w) := by
  obtain ⟨cs, hb, hc, h0, hle⟩ := hT
  have HM := Mem.start1 w hb
  have HC := Lib.hid hc
  have H0 := Lib.hid h0
  clear hb hc h0
  go_enter Try.func68, Try.ntmps68
  go_upto_region 3 with (first | first | (go_at_call 27; refine (next_any W tb _ _ _ (HM.tp (by ((repeat (first | exact Look.here | refine Look.there ?_)); done)) HC.out H0.out (by simpa using hle)) (by omega) (by omega) (by omega)).mono ?_; rintro e9 w2 ⟨v0, rfl, hv0, hv1, ⟨c1, hb1, hc1, -, -⟩, hg⟩; replace HM := HM.put (c' := c1) (by (repeat (first | exact At.here | apply At.there))) hb1 (Only.of_grown hg); clear hg hb1; replace HC := Lib.hid hc1; clear hc1) | (first | ((with_reducible refine g_ld ?_); refine a_ld HM ?_) | ((with_reducible refine g_st ?_); refine a_st HM ?_; clear HM; intro w1 HM) | ((with_reducible refine g_al ?_); refine a_al HM ?_; clear HM; intro bk w1 HM) | ((with_reducible refine g_bx ?_); refine a_bx HM ?_; clear HM; intro bk w1 HM) | ((with_reducible refine g_bld ?_); refine a_bld ?_)))
  (go_at_call 21; refine (pick_new (tb := tb) (W := W) HM (by ((repeat (first | exact Look.here | refine Look.there ?_)); done)) HC.out H0.out (by first | exact hle | simpa using hle) [0, 1, 5, 20, 31, 32, 33, 64, 65, 100, 200, 400, (k : Int), (k : Int), v0] _ (by omega) (by simp) (by simp)).mono ?_; rintro e9 w2 ⟨v1, c1, rfl, hv, hc1, hb1, hg⟩; replace HM := HM.put (c' := c1) (by (repeat (first | exact At.here | apply At.there))) hb1 hg; clear hg hb1; replace HC := Lib.hid hc1; clear hc1)
  have hv2 : 0 ≤ v1 := by simp at hv; omega
  clear hv
  obtain ⟨n, hn⟩ : ∃ n : Nat, (if (k : Int) < v1 then (k : Int) else v1) = (n : Int) := ⟨(if (k : Int) < v1 then (k : Int) else v1).toNat, by split <;> omega⟩
  have hnk : n ≤ k := by split at hn <;> omega
  have hn2 : n ≤ 1024 := by omega
  have HN := Lib.hid hn
  clear hn
  go_upto_region 4 with fail
  rw [HN.out]
  clear HN hv2
  obtain ⟨b, rfl⟩ := HM.nm0
  obtain ⟨b4, rfl⟩ := HM.nm1
  go_wp2_with fail
  go_loopw [7] (fun i wr => ∃ (j s q : Nat) (c : Array Value), i = .int .i64 (j : Nat) ∧ 32 * j < n + 32 ∧ q ≤ m + 2 + 2 * j ∧ Hid (TapeC W q c) ∧ Hid (s < Bg.p2 (min (32 * j) n)) ∧ Mem w [tb] [(b, Bg.intA false s), (b4, Bg.zA 0), (tb, c)] wr) (fun i _ => 33 - (intOf i).toNat)
  case atStart => exact ⟨0, 0, _, _, rfl, by omega, Nat.le_refl _, HC, Lib.hid (by simp [Bg.p2_zero]), by rw [zA_zero]; exact HM⟩
  case round =>
    obtain ⟨j, s, q, c, rfl, hj, hq, HC, HS, HM⟩ := hrel
    by_cases hlt : 32 * j < n
    · go_upto_region 8 with (first | first | (go_at_call 27; refine (next_any W tb _ _ _ (HM.tp (by ((repeat (first | exact Look.here | refine Look.there ?_)); done)) HC.out H0.out (by simpa using hle)) (by omega) (by omega) (by omega)).mono ?_; rintro e9 w2 ⟨v0, rfl, hv0, hv1, ⟨c1, hb1, hc1, -, -⟩, hg⟩; replace HM := HM.put (c' := c1) (by (repeat (first | exact At.here | apply At.there))) hb1 (Only.of_grown hg); clear hg hb1; replace HC := Lib.hid hc1; clear hc1) | (first | ((with_reducible refine g_ld ?_); refine a_ld HM ?_) | ((with_reducible refine g_st ?_); refine a_st HM ?_; clear HM; intro w1 HM) | ((with_reducible refine g_al ?_); refine a_al HM ?_; clear HM; intro bk w1 HM) | ((with_reducible refine g_bx ?_); refine a_bx HM ?_; clear HM; intro bk w1 HM) | ((with_reducible refine g_bld ?_); refine a_bld ?_)))
      obtain ⟨x0, rfl⟩ : ∃ x0 : Nat, v0 = x0 := ⟨v0.toNat, by omega⟩
      have hx0 : x0 < 4294967296 := by omega
      clear hv0 hv1
      go_upto_block 2 with (first | first | (go_at_call 27; refine (next_any W tb _ _ _ (HM.tp (by ((repeat (first | exact Look.here | refine Look.there ?_)); done)) HC.out H0.out (by simpa using hle)) (by omega) (by omega) (by omega)).mono ?_; rintro e9 w2 ⟨v0, rfl, hv0, hv1, ⟨c1, hb1, hc1, -, -⟩, hg⟩; replace HM := HM.put (c' := c1) (by (repeat (first | exact At.here | apply At.there))) hb1 (Only.of_grown hg); clear hg hb1; replace HC := Lib.hid hc1; clear hc1) | (first | ((with_reducible refine g_ld ?_); refine a_ld HM ?_) | ((with_reducible refine g_st ?_); refine a_st HM ?_; clear HM; intro w1 HM) | ((with_reducible refine g_al ?_); refine a_al HM ?_; clear HM; intro bk w1 HM) | ((with_reducible refine g_bx ?_); refine a_bx HM ?_; clear HM; intro bk w1 HM) | ((with_reducible refine g_bld ?_); refine a_bld ?_)))
      go_cut [8] (fun v wc => wc = w2 ∧ ∃ x : Nat, v = .int .u32 (x : Nat) ∧ x < 4294967296)
      case first =>
        go_wp2_with fail
        all_goals (go_meet; case rel => first | exact ⟨rfl, x0, rfl, hx0⟩ | exact ⟨rfl, 0, rfl, by decide⟩ | exact ⟨rfl, 4294967295, rfl, by decide⟩)
      case rest =>
        obtain ⟨rfl, x, rfl, hx⟩ := hcut
        go_step
        obtain ⟨l, hl0⟩ : ∃ l : Nat, n = 32 * j + l := ⟨n - 32 * j, by omega⟩
        have hl1 : 1 ≤ l := by omega
        have hl2 : l ≤ 1024 := by omega
        have hl := Lib.hid hl0
        clear hl0
        go_upto_region 14 with fail
        rw [show (n : Int) - 32 * (j : Int) = (l : Nat) from by have := hl.out; omega]
        go_upto_if 42 with fail
        go_cut [8] (fun v wd => wd = wc ∧ ∃ y : Nat, v = .int .u32 (y : Nat) ∧ y < 4294967296 ∧ (l < 32 → y < Bg.p2 l))
        case first =>
          by_cases h32 : l < 32
          · go_wp2_with fail
            obtain ⟨y, e, hy, hy2⟩ := mask_u32 x l hx h32
            rw [e]
            go_meet
            case rel => exact ⟨rfl, y, rfl, hy, fun _ => hy2⟩
          · go_wp2_with fail
            go_meet
            case rel => exact ⟨rfl, x, rfl, hx, fun h => absurd h h32⟩
        case rest =>
          obtain ⟨rfl, y, rfl, hy, hy2⟩ := hcut
          have HY := Lib.hid hy2
          clear hy2
          have hj32 : j < 32 := by omega
          have hss := sa_limi false s j y hy hj32
          go_step
          go_upto_region 6 with (first | fail | (first | ((with_reducible refine g_ld ?_); refine a_ld HM ?_) | ((with_reducible refine g_st ?_); refine a_st HM ?_; clear HM; intro w1 HM) | ((with_reducible refine g_al ?_); refine a_al HM ?_; clear HM; intro bk w1 HM) | ((with_reducible refine g_bx ?_); refine a_bx HM ?_; clear HM; intro bk w1 HM) | ((with_reducible refine g_bld ?_); refine a_bld ?_)))
          clear hss
          go_wp2_with fail
          go_roundw
          case rel => exact ⟨j + 1, _, _, _, by go_num, by omega, by omega, HC, Lib.hid (round_p2 HS.out hl.out hy HY.out), HM⟩
          case measure => simp [intOf]; omega
    · have hsn : s < Bg.p2 n := by
        have h := HS.out
        rwa [show min (32 * j) n = n from by omega] at h
      have hsl : s < Bg.lim := Nat.lt_of_lt_of_le hsn (by rw [← Bg.p2_lim]; exact Bg.p2_mono hn2)
      have HSN := Lib.hid hsn
      clear hsn
      obtain ⟨g, hg⟩ : ∃ g, Hid (g = (Bg.toZ false s).sign) := ⟨_, rfl⟩
      go_upto_region 17 with fail
      have fin : ∀ u : Bool, (u = true → s ≠ 0) → ∀ w9 L, Mem w [tb] L w9 → ∀ c9, Look L tb c9 → TapeC W (q + 1) c9 → IntPost W tb m k w (.returned (.agg (Bg.intA u s))) w9 := by
        intro u hu w9 L hM c9 hl9 hc9
        have hd := hM.done hl9 (hc9.mono (m' := m + 100) (by omega)) H0.out hle
        refine ⟨Bg.toZ u s, by rw [intA_zA u s hu], ?_, hd.1, hd.2⟩
        rw [Bg.toZ_abs]
        exact Nat.lt_of_lt_of_le HSN.out (Bg.p2_mono hnk)
      have FIN := Lib.hid fin
      clear fin
      go_wp2_with fail
      refine (chance_any W tb _ _ _ _ (HM.tp (by ((repeat (first | exact Look.here | refine Look.there ?_)); done)) HC.out H0.out (by simpa using hle)) (by omega) (by omega) (by omega)).mono ?_
      rintro e9 w2 ⟨v0, rfl, ⟨c1, hb1, hc1, -, -⟩, hg9⟩
      replace HM := HM.put (c' := c1) (by (repeat (first | exact At.here | apply At.there))) hb1 (Only.of_grown hg9)
      clear hg9 hb1
      replace HC := Lib.hid hc1
      clear hc1
      cases v0 with
      | false =>
        go_wp2_with (first | fail | (first | ((with_reducible refine g_ld ?_); refine a_ld HM ?_) | ((with_reducible refine g_st ?_); refine a_st HM ?_; clear HM; intro w1 HM) | ((with_reducible refine g_al ?_); refine a_al HM ?_; clear HM; intro bk w1 HM) | ((with_reducible refine g_bx ?_); refine a_bx HM ?_; clear HM; intro bk w1 HM) | ((with_reducible refine g_bld ?_); refine a_bld ?_)))
        refine bodyPost_ret (r_c (b := b4) (k := 0) rfl rfl (HM.get (by ((repeat (first | exact Look.here | refine Look.there ?_)); done))) (la_i _ _)) rfl (FIN.out false (by simp) _ _ HM _ (by ((repeat (first | exact Look.here | refine Look.there ?_)); done)) HC.out)
      | true =>
        by_cases hs0 : s = 0
        · have hg0 : Hid (g = 0) := Lib.hid (by rw [hg.out, hs0]; rfl)
          clear hs0
          have hsg := Lib.hid (hg0.out ▸ hg.out)
          clear hg
          go_wp2_with (first | (go_at_call 49; ((with_reducible refine (rsign_num false s 0 hsl hsg _).mono ?_); rintro e9 w2 ⟨rfl, hL⟩; replace HM := HM.call hL; clear hL)) | (first | ((with_reducible refine g_ld ?_); refine a_ld HM ?_) | ((with_reducible refine g_st ?_); refine a_st HM ?_; clear HM; intro w1 HM) | ((with_reducible refine g_al ?_); refine a_al HM ?_; clear HM; intro bk w1 HM) | ((with_reducible refine g_bx ?_); refine a_bx HM ?_; clear HM; intro bk w1 HM) | ((with_reducible refine g_bld ?_); refine a_bld ?_)))
          refine bodyPost_ret (r_c (b := b4) (k := 0) rfl rfl (HM.get (by ((repeat (first | exact Look.here | refine Look.there ?_)); done))) (la_i _ _)) rfl (FIN.out false (by simp) _ _ HM _ (by ((repeat (first | exact Look.here | refine Look.there ?_)); done)) HC.out)
        · have hg0 : Hid (g = 1) := Lib.hid (by rw [hg.out]; simp only [Bg.toZ]; rw [Int.sign_eq_one_of_pos (by simp; omega)])
          have hs0' := Lib.hid hs0
          clear hs0
          have hsg := Lib.hid (hg0.out ▸ hg.out)
          clear hg
          go_wp2_with (first | (go_at_call 49; ((with_reducible refine (rsign_num false s 1 hsl hsg _).mono ?_); rintro e9 w2 ⟨rfl, hL⟩; replace HM := HM.call hL; clear hL)) | (first | ((with_reducible refine g_ld ?_); refine a_ld HM ?_) | ((with_reducible refine g_st ?_); refine a_st HM ?_; clear HM; intro w1 HM) | ((with_reducible refine g_al ?_); refine a_al HM ?_; clear HM; intro bk w1 HM) | ((with_reducible refine g_bx ?_); refine a_bx HM ?_; clear HM; intro bk w1 HM) | ((with_reducible refine g_bld ?_); refine a_bld ?_)))
          refine bodyPost_ret (r_c (b := b4) (k := 0) rfl rfl (HM.get (by ((repeat (first | exact Look.here | refine Look.there ?_)); done))) (la_i _ _)) rfl (FIN.out true (fun _ => hs0'.out) _ _ HM _ (by ((repeat (first | exact Look.here | refine Look.there ?_)); done)) HC.out)
end Go.Proofs.Ytekfabhmopkapaa
