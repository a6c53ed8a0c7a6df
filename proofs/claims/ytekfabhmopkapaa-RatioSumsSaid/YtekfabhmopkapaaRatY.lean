/- What fundadminmake draws, in rational numbers: Of, Ratio, Long. -/
import Derived.Test.YtekfabhmopkapaaRatX
namespace Go.Proofs.Ytekfabhmopkapaa
set_option maxRecDepth 8000
open Go.RowKit
theorem Rt.fit_le {x : Rat} {p q : Int} (h0 : q ≠ 0) (hp : p.natAbs < Bg.p2 480) (hq : q.natAbs < Bg.p2 480) (hx : x = Rat.divInt p q) : Rt.Fit x := by
  obtain ⟨l1, l2⟩ := Rt.divInt_le (p := p) h0
  rw [hx]
  exact ⟨by omega, by omega⟩
theorem Rt.mk_q {x : Rat} {p q : Int} (h0 : q ≠ 0) (hp : p.natAbs < Bg.p2 480) (hq : q.natAbs < Bg.p2 480) (hx : x = Rat.divInt p q) : Hid ((x.num, (x.den : Int), (0 : Int)) = Rt.mk p q) := by
  obtain ⟨n, d, e, h⟩ : ∃ n d e, (n, d, e) = Rt.mk p q := ⟨_, _, _, rfl⟩
  obtain ⟨rfl, rfl, rfl⟩ := Rt.mk_fit h0 hx (Rt.fit_le h0 hp hq hx) h
  exact Lib.hid h
theorem mkof_q (n d : Int) (x : Rat) (hn1 : -9223372036854775808 ≤ n) (hn2 : n < 9223372036854775808) (hd1 : -9223372036854775808 ≤ d) (hd2 : d < 9223372036854775808) (h0 : d ≠ 0) (hx : Hid (x = Rat.divInt n d)) (w : World) :
    Calls Try.prog 19 #[.int .i64 n, .int .i64 d] w fun r w' => r = .returned (.agg (Rt.qA x)) ∧ Below w.heap.size w w' := by
  have HM := Mem.start w
  have hz0 := za_rat
  have hm := Rt.mk_q h0 (small_480 (z := n) (by omega)) (small_480 (z := d) (by omega)) hx.out
  have hs := sa_rz x.num x.den (rZ_size 0 0)
  have hl := la_rz x.num x.den
  rw [qA_rZ]
  generalize x.num = X at *
  generalize (x.den : Int) = Y at *
  go_enter Try.func19, Try.ntmps19
  go_wp2_with (first | (go_at_call 14; ((with_reducible refine (rof_n n d X Y 0 hn1 hn2 hd1 hd2 hm _).mono ?_); rintro e9 w2 ⟨rfl, hL⟩; replace HM := HM.call hL; clear hL)) | (first | ((with_reducible refine g_ld ?_); refine a_ld HM ?_) | ((with_reducible refine g_st ?_); refine a_st HM ?_; clear HM; intro w1 HM) | ((with_reducible refine g_al ?_); refine a_al HM ?_; clear HM; intro bk w1 HM) | ((with_reducible refine g_bx ?_); refine a_bx HM ?_; clear HM; intro bk w1 HM) | ((with_reducible refine g_bld ?_); refine a_bld ?_)))
  refine bodyPost_ret (r_c rfl rfl (HM.get (by ((repeat (first | exact Look.here | refine Look.there ?_)); done))) (la_rz _ _)) rfl ⟨rfl, HM.low⟩
theorem rabs_z (p z : Int) (hp : p.natAbs < Bg.lim) (hz : Hid (z = (p.natAbs : Int))) (w : World) :
    Calls Try.prog 67 #[.agg (Bg.zA p)] w fun e w' => e = .returned (.agg (Bg.zA z)) ∧ Below w.heap.size w w' := by
  rw [zA_int p]; exact rabs_any _ _ z hp hz w
theorem p64_200 : 18446744073709551616 ≤ Bg.p2 200 := by have := Bg.p2_mono (show 64 ≤ 200 by decide); have h : Bg.p2 64 = 18446744073709551616 := (by unfold Bg.p2; rfl); omega
/-- What a maker of ratios returns. -/
def RatPost (W : World) (tb m k : Nat) (w : World) (e : Ending) (w' : World) : Prop :=
  ∃ x : Rat, e = .returned (.agg (Rt.qA x)) ∧ x.num.natAbs < Bg.p2 k ∧ x.den < Bg.p2 k ∧ Tp W tb (m + 1000) w' ∧ w.grownBy w' (some tb)
theorem Rt.fit_k {x : Rat} {k : Nat} (h1 : x.num.natAbs < Bg.p2 k) (h2 : x.den < Bg.p2 k) (hk : k ≤ 480) : Rt.Fit x := by
  have := Bg.p2_mono hk
  exact ⟨by omega, by omega⟩
set_option maxRecDepth 20000 in
set_option maxHeartbeats 2000000 in
theorem ratio_any (W : World) (tb m : Nat) (w : World) (hT : Tp W tb m w) (hm : m ≤ 900000000) :
    Calls Try.prog 28 #[.pointer (some ⟨tb, 0, none⟩)] w (RatPost W tb m 200 w) := by
  obtain ⟨cs, hb, hc, h0, hle0⟩ := hT
  have HM := Mem.start1 w hb
  have HC := Lib.hid hc
  have H0 := Lib.hid h0
  have hz0 := za_rat
  have hle : ∀ b ∈ [tb], W.heap.size ≤ b := by simpa using hle0
  clear hb hc h0
  have p200 : Bg.p2 200 ≤ Bg.p2 480 := Bg.p2_mono (by decide)
  have p64 := p64_200
  have l200 : Bg.p2 200 ≤ Bg.lim := by have := Bg.p2_mono (show 200 ≤ 1024 by decide); rwa [Bg.p2_lim] at this
  go_enter Try.func28, Try.ntmps28
  go_wp2_with (first | fail | (first | ((with_reducible refine g_ld ?_); refine a_ld HM ?_) | ((with_reducible refine g_st ?_); refine a_st HM ?_; clear HM; intro w1 HM) | ((with_reducible refine g_al ?_); refine a_al HM ?_; clear HM; intro bk w1 HM) | ((with_reducible refine g_bx ?_); refine a_bx HM ?_; clear HM; intro bk w1 HM) | ((with_reducible refine g_bld ?_); refine a_bld ?_)))
  (refine (chance_any W tb _ 1 6 _ (HM.tp (by ((repeat (first | exact Look.here | refine Look.there ?_)); done)) HC.out H0.out hle) (by omega) (by omega) (by omega)).mono ?_; rintro e9 w2 ⟨ch, rfl, ⟨c1, hb1, hc1, -, -⟩, hg⟩; replace HM := HM.put (c' := c1) (by (repeat (first | exact At.here | apply At.there))) hb1 (Only.of_grown hg); clear hg hb1; replace HC := Lib.hid hc1; clear hc1)
  cases ch with
  | true =>
    go_wp2_with (first | fail | (first | ((with_reducible refine g_ld ?_); refine a_ld HM ?_) | ((with_reducible refine g_st ?_); refine a_st HM ?_; clear HM; intro w1 HM) | ((with_reducible refine g_al ?_); refine a_al HM ?_; clear HM; intro bk w1 HM) | ((with_reducible refine g_bx ?_); refine a_bx HM ?_; clear HM; intro bk w1 HM) | ((with_reducible refine g_bld ?_); refine a_bld ?_)))
    (refine (int_any W tb _ 200 _ (HM.tp (by ((repeat (first | exact Look.here | refine Look.there ?_)); done)) HC.out H0.out hle) (by omega) (by omega) (by omega)).mono ?_; rintro e9 w2 ⟨z, rfl, hz, ⟨c1, hb1, hc1, -, -⟩, hg9⟩; replace HM := HM.put (c' := c1) (by (repeat (first | exact At.here | apply At.there))) hb1 (Only.of_grown hg9); clear hg9 hb1; replace HC := Lib.hid hc1; clear hc1)
    have lz : z.natAbs < Bg.lim := by omega
    obtain ⟨y, hy⟩ : ∃ y : Int, Hid (y = (z.natAbs : Int)) := ⟨_, rfl⟩
    have ly : y.natAbs < Bg.lim := by have := hy.out; omega
    have ly2 : y.natAbs < Bg.p2 200 := by have := hy.out; omega
    obtain ⟨g, hg⟩ : ∃ g : Int, Hid (g = y.sign) := ⟨_, rfl⟩
    by_cases h0 : y = 0
    · subst h0
      have hg0 : g = 0 := by rw [hg.out]; rfl
      subst hg0
      go_upto_region 5 with (first | first | (go_at_call 67; ((with_reducible refine (rabs_z z 0 lz hy _).mono ?_); rintro e9 w2 ⟨rfl, hL⟩; replace HM := HM.call hL; clear hL)) | (go_at_call 49; ((with_reducible refine (rsign_z 0 0 ly hg _).mono ?_); rintro e9 w2 ⟨rfl, hL⟩; replace HM := HM.call hL; clear hL)) | (go_at_call 40; ((with_reducible refine (rfromInt_z 1 (by omega) (by omega) _).mono ?_); rintro e9 w2 ⟨rfl, hL⟩; replace HM := HM.call hL; clear hL)) | (first | ((with_reducible refine g_ld ?_); refine a_ld HM ?_) | ((with_reducible refine g_st ?_); refine a_st HM ?_; clear HM; intro w1 HM) | ((with_reducible refine g_al ?_); refine a_al HM ?_; clear HM; intro bk w1 HM) | ((with_reducible refine g_bx ?_); refine a_bx HM ?_; clear HM; intro bk w1 HM) | ((with_reducible refine g_bld ?_); refine a_bld ?_)))
      have ld : (1 : Int).natAbs < Bg.lim := by omega
      refine start_M2 [8] HM ((Sub.keep (Sub.keep Sub.nil))) (by kernel_rfl) (fun w0x H9 => ?_)
      replace HM := H9; clear H9
      refine k_mv 0 (heldE HM) ?_
      refine k_ld 2 [3, 4, 5, 6, 8, 9] (heldE HM) ?_
      refine j_two 1 7 ?_ ?_
      · refine o_callg (int_any W tb _ 200 _ (HM.tp (by ((repeat (first | exact Look.here | refine Look.there ?_)); done)) HC.out H0.out hle) (by omega) (by omega) (by omega)) rfl ?_ ?_; (focus (refine h_call2 (ts := ?_) (x1 := ?_) (x2 := ?_) ?_ (by kernel_rfl) ?_ ?_; rotate_left 3; (focus rfl); (focus rfl); rfl)); rintro e9 w1 ⟨z2, rfl, hz2, ⟨c1, hb1, hc1, -, -⟩, hg9⟩; replace HM := HM.put (c' := c1) (by (repeat (first | exact At.here | apply At.there))) hb1 (Only.of_grown hg9); clear hg9 hb1; replace HC := Lib.hid hc1; clear hc1; obtain ⟨x, hx⟩ : ∃ x : Rat, Hid (x = Rat.divInt z2 (1)) := ⟨_, rfl⟩; have HR := rmake_z z2 (1) x.num x.den 0 (by omega) ld (Rt.mk_q (by omega) (by omega) (by omega) hx.out); have hs := sa_rz x.num x.den (rZ_size 0 0); have hl := la_rz x.num x.den; refine ⟨_, rfl, ?_⟩
        refine ⟨(heldE HM), ?_⟩; ((try simp only [List.setIfInBounds_toArray]); (try simp only [List.set_cons_succ]); (try simp only [List.set_cons_zero]))
        refine j_two 3 7 ?_ ?_
        · refine j_call2 (v := ?_) HM ?_ ?_; rotate_left 1; (focus (with_reducible (exact (HR _)))); clear HM; intro w1 HM
          refine ⟨(heldE HM), ?_⟩
          refine k_mv 4 (heldE HM) ?_
          refine k_ext 5 (heldE HM) ?_
          refine k_ext 6 (heldE HM) ?_
          refine j_one 7 fun K9 hK9 => ?_
          refine j_al HM ?_; clear HM; intro bk w1 HM
          refine hK9 _ _ (heldE HM) ?_; clear hK9 K9
          refine j_one 8 fun K9 hK9 => ?_
          refine j_st HM ?_; clear HM; intro w1 HM
          refine hK9 _ _ heldN ?_; clear hK9 K9
          refine k_mv 9 heldN ?_
          refine wpAnyL_done (by kernel_rfl) ?_ _
          (go_wp2_with (first | fail | (first | ((with_reducible refine g_ld ?_); refine a_ld HM ?_) | ((with_reducible refine g_st ?_); refine a_st HM ?_; clear HM; intro w1 HM) | ((with_reducible refine g_al ?_); refine a_al HM ?_; clear HM; intro bk w1 HM) | ((with_reducible refine g_bx ?_); refine a_bx HM ?_; clear HM; intro bk w1 HM) | ((with_reducible refine g_bld ?_); refine a_bld ?_))); have hle2 := Rt.divInt_le (p := z2) (q := 1) (by omega); rw [← hx.out] at hle2; obtain ⟨hT, hg⟩ := HM.done (by ((repeat (first | exact Look.here | refine Look.there ?_)); done)) HC.out H0.out hle0; refine bodyPost_ret (r_c rfl rfl (HM.get (by ((repeat (first | exact Look.here | refine Look.there ?_)); done))) (la_rz _ _)) rfl ⟨x, by rw [qA_rZ], by omega, by omega, hT.mono (by omega), hg⟩)
        · refine j_al HM ?_; clear HM; intro bk w1 HM
          refine ⟨(heldE HM), ?_⟩
          refine j_one 3 fun K9 hK9 => ?_
          refine j_call2 (v := ?_) HM ?_ ?_; rotate_left 1; (focus (with_reducible (exact (HR _)))); clear HM; intro w1 HM
          refine hK9 _ _ (heldE HM) ?_; clear hK9 K9
          refine k_mv 4 (heldE HM) ?_
          refine k_ext 5 (heldE HM) ?_
          refine k_ext 6 (heldE HM) ?_
          refine j_one 8 fun K9 hK9 => ?_
          refine j_st HM ?_; clear HM; intro w1 HM
          refine hK9 _ _ heldN ?_; clear hK9 K9
          refine k_mv 9 heldN ?_
          refine wpAnyL_done (by kernel_rfl) ?_ _
          (go_wp2_with (first | fail | (first | ((with_reducible refine g_ld ?_); refine a_ld HM ?_) | ((with_reducible refine g_st ?_); refine a_st HM ?_; clear HM; intro w1 HM) | ((with_reducible refine g_al ?_); refine a_al HM ?_; clear HM; intro bk w1 HM) | ((with_reducible refine g_bx ?_); refine a_bx HM ?_; clear HM; intro bk w1 HM) | ((with_reducible refine g_bld ?_); refine a_bld ?_))); have hle2 := Rt.divInt_le (p := z2) (q := 1) (by omega); rw [← hx.out] at hle2; obtain ⟨hT, hg⟩ := HM.done (by ((repeat (first | exact Look.here | refine Look.there ?_)); done)) HC.out H0.out hle0; refine bodyPost_ret (r_c rfl rfl (HM.get (by ((repeat (first | exact Look.here | refine Look.there ?_)); done))) (la_rz _ _)) rfl ⟨x, by rw [qA_rZ], by omega, by omega, hT.mono (by omega), hg⟩)
      · refine j_al HM ?_; clear HM; intro bk w1 HM
        refine ⟨(heldE HM), ?_⟩
        refine j_one 1 fun K9 hK9 => ?_
        refine o_callg (int_any W tb _ 200 _ (HM.tp (by ((repeat (first | exact Look.here | refine Look.there ?_)); done)) HC.out H0.out hle) (by omega) (by omega) (by omega)) rfl ?_ ?_; (focus (refine h_call2 (ts := ?_) (x1 := ?_) (x2 := ?_) ?_ (by kernel_rfl) ?_ ?_; rotate_left 3; (focus rfl); (focus rfl); rfl)); rintro e9 w1 ⟨z2, rfl, hz2, ⟨c1, hb1, hc1, -, -⟩, hg9⟩; replace HM := HM.put (c' := c1) (by (repeat (first | exact At.here | apply At.there))) hb1 (Only.of_grown hg9); clear hg9 hb1; replace HC := Lib.hid hc1; clear hc1; obtain ⟨x, hx⟩ : ∃ x : Rat, Hid (x = Rat.divInt z2 (1)) := ⟨_, rfl⟩; have HR := rmake_z z2 (1) x.num x.den 0 (by omega) ld (Rt.mk_q (by omega) (by omega) (by omega) hx.out); have hs := sa_rz x.num x.den (rZ_size 0 0); have hl := la_rz x.num x.den; refine ⟨_, rfl, ?_⟩
        refine hK9 _ _ (heldE HM) ?_; clear hK9 K9; ((try simp only [List.setIfInBounds_toArray]); (try simp only [List.set_cons_succ]); (try simp only [List.set_cons_zero]))
        refine j_one 3 fun K9 hK9 => ?_
        refine j_call2 (v := ?_) HM ?_ ?_; rotate_left 1; (focus (with_reducible (exact (HR _)))); clear HM; intro w1 HM
        refine hK9 _ _ (heldE HM) ?_; clear hK9 K9
        refine k_mv 4 (heldE HM) ?_
        refine k_ext 5 (heldE HM) ?_
        refine k_ext 6 (heldE HM) ?_
        refine j_one 8 fun K9 hK9 => ?_
        refine j_st HM ?_; clear HM; intro w1 HM
        refine hK9 _ _ heldN ?_; clear hK9 K9
        refine k_mv 9 heldN ?_
        refine wpAnyL_done (by kernel_rfl) ?_ _
        (go_wp2_with (first | fail | (first | ((with_reducible refine g_ld ?_); refine a_ld HM ?_) | ((with_reducible refine g_st ?_); refine a_st HM ?_; clear HM; intro w1 HM) | ((with_reducible refine g_al ?_); refine a_al HM ?_; clear HM; intro bk w1 HM) | ((with_reducible refine g_bx ?_); refine a_bx HM ?_; clear HM; intro bk w1 HM) | ((with_reducible refine g_bld ?_); refine a_bld ?_))); have hle2 := Rt.divInt_le (p := z2) (q := 1) (by omega); rw [← hx.out] at hle2; obtain ⟨hT, hg⟩ := HM.done (by ((repeat (first | exact Look.here | refine Look.there ?_)); done)) HC.out H0.out hle0; refine bodyPost_ret (r_c rfl rfl (HM.get (by ((repeat (first | exact Look.here | refine Look.there ?_)); done))) (la_rz _ _)) rfl ⟨x, by rw [qA_rZ], by omega, by omega, hT.mono (by omega), hg⟩)
    · have hgn : ((g : Int) == 0) = false := by rw [hg.out]; simpa using h0
      go_upto_region 5 with (first | first | (go_at_call 67; ((with_reducible refine (rabs_z z y lz hy _).mono ?_); rintro e9 w2 ⟨rfl, hL⟩; replace HM := HM.call hL; clear hL)) | (go_at_call 49; ((with_reducible refine (rsign_z y g ly hg _).mono ?_); rintro e9 w2 ⟨rfl, hL⟩; replace HM := HM.call hL; clear hL)) | (first | ((with_reducible refine g_ld ?_); refine a_ld HM ?_) | ((with_reducible refine g_st ?_); refine a_st HM ?_; clear HM; intro w1 HM) | ((with_reducible refine g_al ?_); refine a_al HM ?_; clear HM; intro bk w1 HM) | ((with_reducible refine g_bx ?_); refine a_bx HM ?_; clear HM; intro bk w1 HM) | ((with_reducible refine g_bld ?_); refine a_bld ?_)))
      have ld : (y : Int).natAbs < Bg.lim := by omega
      refine start_M2 [8] HM ((Sub.keep (Sub.keep Sub.nil))) (by kernel_rfl) (fun w0x H9 => ?_)
      replace HM := H9; clear H9
      refine k_mv 0 (heldE HM) ?_
      refine k_ld 2 [3, 4, 5, 6, 8, 9] (heldE HM) ?_
      refine j_two 1 7 ?_ ?_
      · refine o_callg (int_any W tb _ 200 _ (HM.tp (by ((repeat (first | exact Look.here | refine Look.there ?_)); done)) HC.out H0.out hle) (by omega) (by omega) (by omega)) rfl ?_ ?_; (focus (refine h_call2 (ts := ?_) (x1 := ?_) (x2 := ?_) ?_ (by kernel_rfl) ?_ ?_; rotate_left 3; (focus rfl); (focus rfl); rfl)); rintro e9 w1 ⟨z2, rfl, hz2, ⟨c1, hb1, hc1, -, -⟩, hg9⟩; replace HM := HM.put (c' := c1) (by (repeat (first | exact At.here | apply At.there))) hb1 (Only.of_grown hg9); clear hg9 hb1; replace HC := Lib.hid hc1; clear hc1; obtain ⟨x, hx⟩ : ∃ x : Rat, Hid (x = Rat.divInt z2 (y)) := ⟨_, rfl⟩; have HR := rmake_z z2 (y) x.num x.den 0 (by omega) ld (Rt.mk_q (by omega) (by omega) (by omega) hx.out); have hs := sa_rz x.num x.den (rZ_size 0 0); have hl := la_rz x.num x.den; refine ⟨_, rfl, ?_⟩
        refine ⟨(heldE HM), ?_⟩; ((try simp only [List.setIfInBounds_toArray]); (try simp only [List.set_cons_succ]); (try simp only [List.set_cons_zero]))
        refine j_two 3 7 ?_ ?_
        · refine j_call2 (v := ?_) HM ?_ ?_; rotate_left 1; (focus (with_reducible (exact (HR _)))); clear HM; intro w1 HM
          refine ⟨(heldE HM), ?_⟩
          refine k_mv 4 (heldE HM) ?_
          refine k_ext 5 (heldE HM) ?_
          refine k_ext 6 (heldE HM) ?_
          refine j_one 7 fun K9 hK9 => ?_
          refine j_al HM ?_; clear HM; intro bk w1 HM
          refine hK9 _ _ (heldE HM) ?_; clear hK9 K9
          refine j_one 8 fun K9 hK9 => ?_
          refine j_st HM ?_; clear HM; intro w1 HM
          refine hK9 _ _ heldN ?_; clear hK9 K9
          refine k_mv 9 heldN ?_
          refine wpAnyL_done (by kernel_rfl) ?_ _
          (go_wp2_with (first | fail | (first | ((with_reducible refine g_ld ?_); refine a_ld HM ?_) | ((with_reducible refine g_st ?_); refine a_st HM ?_; clear HM; intro w1 HM) | ((with_reducible refine g_al ?_); refine a_al HM ?_; clear HM; intro bk w1 HM) | ((with_reducible refine g_bx ?_); refine a_bx HM ?_; clear HM; intro bk w1 HM) | ((with_reducible refine g_bld ?_); refine a_bld ?_))); have hle2 := Rt.divInt_le (p := z2) (q := y) (by omega); rw [← hx.out] at hle2; obtain ⟨hT, hg⟩ := HM.done (by ((repeat (first | exact Look.here | refine Look.there ?_)); done)) HC.out H0.out hle0; refine bodyPost_ret (r_c rfl rfl (HM.get (by ((repeat (first | exact Look.here | refine Look.there ?_)); done))) (la_rz _ _)) rfl ⟨x, by rw [qA_rZ], by omega, by omega, hT.mono (by omega), hg⟩)
        · refine j_al HM ?_; clear HM; intro bk w1 HM
          refine ⟨(heldE HM), ?_⟩
          refine j_one 3 fun K9 hK9 => ?_
          refine j_call2 (v := ?_) HM ?_ ?_; rotate_left 1; (focus (with_reducible (exact (HR _)))); clear HM; intro w1 HM
          refine hK9 _ _ (heldE HM) ?_; clear hK9 K9
          refine k_mv 4 (heldE HM) ?_
          refine k_ext 5 (heldE HM) ?_
          refine k_ext 6 (heldE HM) ?_
          refine j_one 8 fun K9 hK9 => ?_
          refine j_st HM ?_; clear HM; intro w1 HM
          refine hK9 _ _ heldN ?_; clear hK9 K9
          refine k_mv 9 heldN ?_
          refine wpAnyL_done (by kernel_rfl) ?_ _
          (go_wp2_with (first | fail | (first | ((with_reducible refine g_ld ?_); refine a_ld HM ?_) | ((with_reducible refine g_st ?_); refine a_st HM ?_; clear HM; intro w1 HM) | ((with_reducible refine g_al ?_); refine a_al HM ?_; clear HM; intro bk w1 HM) | ((with_reducible refine g_bx ?_); refine a_bx HM ?_; clear HM; intro bk w1 HM) | ((with_reducible refine g_bld ?_); refine a_bld ?_))); have hle2 := Rt.divInt_le (p := z2) (q := y) (by omega); rw [← hx.out] at hle2; obtain ⟨hT, hg⟩ := HM.done (by ((repeat (first | exact Look.here | refine Look.there ?_)); done)) HC.out H0.out hle0; refine bodyPost_ret (r_c rfl rfl (HM.get (by ((repeat (first | exact Look.here | refine Look.there ?_)); done))) (la_rz _ _)) rfl ⟨x, by rw [qA_rZ], by omega, by omega, hT.mono (by omega), hg⟩)
      · refine j_al HM ?_; clear HM; intro bk w1 HM
        refine ⟨(heldE HM), ?_⟩
        refine j_one 1 fun K9 hK9 => ?_
        refine o_callg (int_any W tb _ 200 _ (HM.tp (by ((repeat (first | exact Look.here | refine Look.there ?_)); done)) HC.out H0.out hle) (by omega) (by omega) (by omega)) rfl ?_ ?_; (focus (refine h_call2 (ts := ?_) (x1 := ?_) (x2 := ?_) ?_ (by kernel_rfl) ?_ ?_; rotate_left 3; (focus rfl); (focus rfl); rfl)); rintro e9 w1 ⟨z2, rfl, hz2, ⟨c1, hb1, hc1, -, -⟩, hg9⟩; replace HM := HM.put (c' := c1) (by (repeat (first | exact At.here | apply At.there))) hb1 (Only.of_grown hg9); clear hg9 hb1; replace HC := Lib.hid hc1; clear hc1; obtain ⟨x, hx⟩ : ∃ x : Rat, Hid (x = Rat.divInt z2 (y)) := ⟨_, rfl⟩; have HR := rmake_z z2 (y) x.num x.den 0 (by omega) ld (Rt.mk_q (by omega) (by omega) (by omega) hx.out); have hs := sa_rz x.num x.den (rZ_size 0 0); have hl := la_rz x.num x.den; refine ⟨_, rfl, ?_⟩
        refine hK9 _ _ (heldE HM) ?_; clear hK9 K9; ((try simp only [List.setIfInBounds_toArray]); (try simp only [List.set_cons_succ]); (try simp only [List.set_cons_zero]))
        refine j_one 3 fun K9 hK9 => ?_
        refine j_call2 (v := ?_) HM ?_ ?_; rotate_left 1; (focus (with_reducible (exact (HR _)))); clear HM; intro w1 HM
        refine hK9 _ _ (heldE HM) ?_; clear hK9 K9
        refine k_mv 4 (heldE HM) ?_
        refine k_ext 5 (heldE HM) ?_
        refine k_ext 6 (heldE HM) ?_
        refine j_one 8 fun K9 hK9 => ?_
        refine j_st HM ?_; clear HM; intro w1 HM
        refine hK9 _ _ heldN ?_; clear hK9 K9
        refine k_mv 9 heldN ?_
        refine wpAnyL_done (by kernel_rfl) ?_ _
        (go_wp2_with (first | fail | (first | ((with_reducible refine g_ld ?_); refine a_ld HM ?_) | ((with_reducible refine g_st ?_); refine a_st HM ?_; clear HM; intro w1 HM) | ((with_reducible refine g_al ?_); refine a_al HM ?_; clear HM; intro bk w1 HM) | ((with_reducible refine g_bx ?_); refine a_bx HM ?_; clear HM; intro bk w1 HM) | ((with_reducible refine g_bld ?_); refine a_bld ?_))); have hle2 := Rt.divInt_le (p := z2) (q := y) (by omega); rw [← hx.out] at hle2; obtain ⟨hT, hg⟩ := HM.done (by ((repeat (first | exact Look.here | refine Look.there ?_)); done)) HC.out H0.out hle0; refine bodyPost_ret (r_c rfl rfl (HM.get (by ((repeat (first | exact Look.here | refine Look.there ?_)); done))) (la_rz _ _)) rfl ⟨x, by rw [qA_rZ], by omega, by omega, hT.mono (by omega), hg⟩)
  | false =>
    go_wp2_with (first | fail | (first | ((with_reducible refine g_ld ?_); refine a_ld HM ?_) | ((with_reducible refine g_st ?_); refine a_st HM ?_; clear HM; intro w1 HM) | ((with_reducible refine g_al ?_); refine a_al HM ?_; clear HM; intro bk w1 HM) | ((with_reducible refine g_bx ?_); refine a_bx HM ?_; clear HM; intro bk w1 HM) | ((with_reducible refine g_bld ?_); refine a_bld ?_)))
    (refine (range_any W tb _ (-200) (400) _ (HM.tp (by ((repeat (first | exact Look.here | refine Look.there ?_)); done)) HC.out H0.out hle) (by omega) (by omega) (by omega) (by omega)).mono ?_; rintro e9 w2 ⟨v, rfl, hv0, hv1, ⟨c1, hb1, hc1, -, -⟩, hg⟩; replace HM := HM.put (c' := c1) (by (repeat (first | exact At.here | apply At.there))) hb1 (Only.of_grown hg); clear hg hb1; replace HC := Lib.hid hc1; clear hc1)
    go_wp2_with fail
    (refine (pick_new (tb := tb) (W := W) HM (by ((repeat (first | exact Look.here | refine Look.there ?_)); done)) HC.out H0.out (by first | exact hle | simpa using hle) [1, 1, 1, 1000, 1000003] _ (by omega) (by simp) (by simp)).mono ?_; rintro e9 w2 ⟨v1, c1, rfl, hv, hc1, hb1, hg⟩; replace HM := HM.put (c' := c1) (by (repeat (first | exact At.here | apply At.there))) hb1 hg; clear hg hb1; replace HC := Lib.hid hc1; clear hc1)
    obtain ⟨u, hu⟩ : ∃ u, v * v1 = u := ⟨_, rfl⟩
    have hub : -200000600 ≤ u ∧ u ≤ 400001200 := by
      simp only [List.mem_cons, List.not_mem_nil, or_false] at hv
      rcases hv with rfl | rfl | rfl | rfl | rfl <;> omega
    obtain ⟨hu1, hu2⟩ := hub
    have hw : IntKind.i64.wrap (v * v1) = u := by rw [hu]; exact IntWalk.i64_in _ (by omega)
    clear hv
    go_wp2_with fail
    (refine (pick_new (tb := tb) (W := W) HM (by ((repeat (first | exact Look.here | refine Look.there ?_)); done)) HC.out H0.out (by first | exact hle | simpa using hle) [1, 1, 2, 3, 4, 7, 10, 12, 100, 365, 366, 1000, 1000000] _ (by omega) (by simp) (by simp)).mono ?_; rintro e9 w2 ⟨v1, c1, rfl, hv, hc1, hb1, hg⟩; replace HM := HM.put (c' := c1) (by (repeat (first | exact At.here | apply At.there))) hb1 hg; clear hg hb1; replace HC := Lib.hid hc1; clear hc1)
    have hdb : 1 ≤ v1 ∧ v1 ≤ 1000000 := by
      simp only [List.mem_cons, List.not_mem_nil, or_false] at hv
      omega
    obtain ⟨hd1, hd2⟩ := hdb
    clear hv
    obtain ⟨x, hx⟩ : ∃ x : Rat, Hid (x = Rat.divInt u v1) := ⟨_, rfl⟩
    have hs := sa_q x (rZ_size 0 0)
    have hl := la_q x
    have hle2 := Rt.divInt_le (p := u) (q := v1) (by omega)
    rw [← hx.out] at hle2
    go_wp2_with (first | (go_at_call 19; ((with_reducible refine (mkof_q u v1 x (by omega) (by omega) (by omega) (by omega) (by omega) hx _).mono ?_); rintro e9 w2 ⟨rfl, hL⟩; replace HM := HM.call hL; clear hL)) | (first | ((with_reducible refine g_ld ?_); refine a_ld HM ?_) | ((with_reducible refine g_st ?_); refine a_st HM ?_; clear HM; intro w1 HM) | ((with_reducible refine g_al ?_); refine a_al HM ?_; clear HM; intro bk w1 HM) | ((with_reducible refine g_bx ?_); refine a_bx HM ?_; clear HM; intro bk w1 HM) | ((with_reducible refine g_bld ?_); refine a_bld ?_)))
    obtain ⟨hT, hg⟩ := HM.done (by ((repeat (first | exact Look.here | refine Look.there ?_)); done)) HC.out H0.out hle0
    refine bodyPost_ret (r_c rfl rfl (HM.get (by ((repeat (first | exact Look.here | refine Look.there ?_)); done))) (la_q _)) rfl ⟨x, rfl, by omega, by omega, hT.mono (by omega), hg⟩
set_option maxRecDepth 20000 in
set_option maxHeartbeats 2000000 in
theorem long_any (W : World) (tb m : Nat) (w : World) (hT : Tp W tb m w) (hm : m ≤ 800000000) :
    Calls Try.prog 48 #[.pointer (some ⟨tb, 0, none⟩)] w (RatPost W tb (m + 1000) 480 w) := by
  obtain ⟨cs, hb, hc, h0, hle0⟩ := hT
  have HM := Mem.start1 w hb
  have HC := Lib.hid hc
  have H0 := Lib.hid h0
  have hz0 := za_rat
  have hle : ∀ b ∈ [tb], W.heap.size ≤ b := by simpa using hle0
  clear hb hc h0
  have p480 : 1 ≤ Bg.p2 480 := Bg.p2_pos _
  have p200 : Bg.p2 200 ≤ Bg.p2 480 := Bg.p2_mono (by decide)
  have l480 : Bg.p2 480 ≤ Bg.lim := by have := Bg.p2_mono (show 480 ≤ 1024 by decide); rwa [Bg.p2_lim] at this
  go_enter Try.func48, Try.ntmps48
  go_wp2_with (first | fail | (first | ((with_reducible refine g_ld ?_); refine a_ld HM ?_) | ((with_reducible refine g_st ?_); refine a_st HM ?_; clear HM; intro w1 HM) | ((with_reducible refine g_al ?_); refine a_al HM ?_; clear HM; intro bk w1 HM) | ((with_reducible refine g_bx ?_); refine a_bx HM ?_; clear HM; intro bk w1 HM) | ((with_reducible refine g_bld ?_); refine a_bld ?_)))
  obtain ⟨b2, rfl⟩ := HM.nm0
  go_loopw [3] (fun i wr => ∃ (j q : Nat) (c : Array Value), i = .int .i64 (j : Nat) ∧ j ≤ 4 ∧ q ≤ m + 100 * j ∧ Hid (TapeC W q c) ∧ Mem w [tb] [(b2, Bg.rZ 0 0), (tb, c)] wr) (fun i _ => 4 - (intOf i).toNat)
  case atStart => exact ⟨0, m, _, rfl, by omega, by omega, HC, HM⟩
  case round =>
    obtain ⟨j, q, c, rfl, hj, hq, HC, HM⟩ := hrel
    by_cases hlt : j < 4
    · go_wp2_with (first | fail | (first | ((with_reducible refine g_ld ?_); refine a_ld HM ?_) | ((with_reducible refine g_st ?_); refine a_st HM ?_; clear HM; intro w1 HM) | ((with_reducible refine g_al ?_); refine a_al HM ?_; clear HM; intro bk w1 HM) | ((with_reducible refine g_bx ?_); refine a_bx HM ?_; clear HM; intro bk w1 HM) | ((with_reducible refine g_bld ?_); refine a_bld ?_)))
      (refine (int_any W tb _ 480 _ (HM.tp (by ((repeat (first | exact Look.here | refine Look.there ?_)); done)) HC.out H0.out hle) (by omega) (by omega) (by omega)).mono ?_; rintro e9 w2 ⟨z, rfl, hz, ⟨c1, hb1, hc1, -, -⟩, hg9⟩; replace HM := HM.put (c' := c1) (by (repeat (first | exact At.here | apply At.there))) hb1 (Only.of_grown hg9); clear hg9 hb1; replace HC := Lib.hid hc1; clear hc1)
      have lz : z.natAbs < Bg.lim := by omega
      obtain ⟨y, hy⟩ : ∃ y : Int, Hid (y = (z.natAbs : Int)) := ⟨_, rfl⟩
      have ly : y.natAbs < Bg.lim := by have := hy.out; omega
      have ly2 : y.natAbs < Bg.p2 480 := by have := hy.out; omega
      obtain ⟨g, hg⟩ : ∃ g : Int, Hid (g = y.sign) := ⟨_, rfl⟩
      by_cases h0 : y = 0
      · subst h0
        have hg0 : g = 0 := by rw [hg.out]; rfl
        subst hg0
        go_wp2_with (first | first | (go_at_call 67; ((with_reducible refine (rabs_z z 0 lz hy _).mono ?_); rintro e9 w2 ⟨rfl, hL⟩; replace HM := HM.call hL; clear hL)) | (go_at_call 49; ((with_reducible refine (rsign_z 0 0 ly hg _).mono ?_); rintro e9 w2 ⟨rfl, hL⟩; replace HM := HM.call hL; clear hL)) | (first | ((with_reducible refine g_ld ?_); refine a_ld HM ?_) | ((with_reducible refine g_st ?_); refine a_st HM ?_; clear HM; intro w1 HM) | ((with_reducible refine g_al ?_); refine a_al HM ?_; clear HM; intro bk w1 HM) | ((with_reducible refine g_bx ?_); refine a_bx HM ?_; clear HM; intro bk w1 HM) | ((with_reducible refine g_bld ?_); refine a_bld ?_)))
        go_roundw
        case rel => exact ⟨j + 1, _, _, by go_num, by omega, by omega, HC, HM.less (by (repeat (first | exact Sub.nil | refine Sub.keep ?_ | refine Sub.skip ?_)))⟩
        case measure => simp [intOf]; omega
      · have hgn : ((g : Int) == 0) = false := by rw [hg.out]; simpa using h0
        have hgn2 : ((g : Int) != 0) = true := by simp [bne, hgn]
        go_upto_region 6 with (first | first | (go_at_call 67; ((with_reducible refine (rabs_z z y lz hy _).mono ?_); rintro e9 w2 ⟨rfl, hL⟩; replace HM := HM.call hL; clear hL)) | (go_at_call 49; ((with_reducible refine (rsign_z y g ly hg _).mono ?_); rintro e9 w2 ⟨rfl, hL⟩; replace HM := HM.call hL; clear hL)) | (first | ((with_reducible refine g_ld ?_); refine a_ld HM ?_) | ((with_reducible refine g_st ?_); refine a_st HM ?_; clear HM; intro w1 HM) | ((with_reducible refine g_al ?_); refine a_al HM ?_; clear HM; intro bk w1 HM) | ((with_reducible refine g_bx ?_); refine a_bx HM ?_; clear HM; intro bk w1 HM) | ((with_reducible refine g_bld ?_); refine a_bld ?_)))
        have ld : (y : Int).natAbs < Bg.lim := by omega
        refine start_M2 [8] HM ((Sub.keep (Sub.keep Sub.nil))) (by kernel_rfl) (fun w0x H9 => ?_)
        replace HM := H9; clear H9
        refine k_mv 0 (heldE HM) ?_
        refine k_ld 2 [3, 4, 5, 6, 8, 9] (heldE HM) ?_
        refine j_two 1 7 ?_ ?_
        · refine o_callg (int_any W tb _ 480 _ (HM.tp (by ((repeat (first | exact Look.here | refine Look.there ?_)); done)) HC.out H0.out hle) (by omega) (by omega) (by omega)) rfl ?_ ?_; (focus (refine h_call2 (ts := ?_) (x1 := ?_) (x2 := ?_) ?_ (by kernel_rfl) ?_ ?_; rotate_left 3; (focus rfl); (focus rfl); rfl)); rintro e9 w1 ⟨z2, rfl, hz2, ⟨c1, hb1, hc1, -, -⟩, hg9⟩; replace HM := HM.put (c' := c1) (by (repeat (first | exact At.here | apply At.there))) hb1 (Only.of_grown hg9); clear hg9 hb1; replace HC := Lib.hid hc1; clear hc1; obtain ⟨x, hx⟩ : ∃ x : Rat, Hid (x = Rat.divInt z2 (y)) := ⟨_, rfl⟩; have HR := rmake_z z2 (y) x.num x.den 0 (by omega) ld (Rt.mk_q (by omega) (by omega) (by omega) hx.out); have hs := sa_rz x.num x.den (rZ_size 0 0); have hl := la_rz x.num x.den; refine ⟨_, rfl, ?_⟩
          refine ⟨(heldE HM), ?_⟩; ((try simp only [List.setIfInBounds_toArray]); (try simp only [List.set_cons_succ]); (try simp only [List.set_cons_zero]))
          refine j_two 3 7 ?_ ?_
          · refine j_call2 (v := ?_) HM ?_ ?_; rotate_left 1; (focus (with_reducible (exact (HR _)))); clear HM; intro w1 HM
            refine ⟨(heldE HM), ?_⟩
            refine k_mv 4 (heldE HM) ?_
            refine k_ext 5 (heldE HM) ?_
            refine k_ext 6 (heldE HM) ?_
            refine j_one 7 fun K9 hK9 => ?_
            refine j_al HM ?_; clear HM; intro bk w1 HM
            refine hK9 _ _ (heldE HM) ?_; clear hK9 K9
            refine j_one 8 fun K9 hK9 => ?_
            refine j_st HM ?_; clear HM; intro w1 HM
            refine hK9 _ _ heldN ?_; clear hK9 K9
            refine k_mv 9 heldN ?_
            refine wpAnyL_done (by kernel_rfl) ?_ _
            (go_wp2_with (first | fail | (first | ((with_reducible refine g_ld ?_); refine a_ld HM ?_) | ((with_reducible refine g_st ?_); refine a_st HM ?_; clear HM; intro w1 HM) | ((with_reducible refine g_al ?_); refine a_al HM ?_; clear HM; intro bk w1 HM) | ((with_reducible refine g_bx ?_); refine a_bx HM ?_; clear HM; intro bk w1 HM) | ((with_reducible refine g_bld ?_); refine a_bld ?_))); have hle2 := Rt.divInt_le (p := z2) (q := y) (by omega); rw [← hx.out] at hle2; obtain ⟨hT, hg⟩ := HM.done (by ((repeat (first | exact Look.here | refine Look.there ?_)); done)) HC.out H0.out hle0; refine bodyPost_ret (r_c rfl rfl (HM.get (by ((repeat (first | exact Look.here | refine Look.there ?_)); done))) (la_rz _ _)) rfl ⟨x, by rw [qA_rZ], by omega, by omega, hT.mono (by omega), hg⟩)
          · refine j_al HM ?_; clear HM; intro bk w1 HM
            refine ⟨(heldE HM), ?_⟩
            refine j_one 3 fun K9 hK9 => ?_
            refine j_call2 (v := ?_) HM ?_ ?_; rotate_left 1; (focus (with_reducible (exact (HR _)))); clear HM; intro w1 HM
            refine hK9 _ _ (heldE HM) ?_; clear hK9 K9
            refine k_mv 4 (heldE HM) ?_
            refine k_ext 5 (heldE HM) ?_
            refine k_ext 6 (heldE HM) ?_
            refine j_one 8 fun K9 hK9 => ?_
            refine j_st HM ?_; clear HM; intro w1 HM
            refine hK9 _ _ heldN ?_; clear hK9 K9
            refine k_mv 9 heldN ?_
            refine wpAnyL_done (by kernel_rfl) ?_ _
            (go_wp2_with (first | fail | (first | ((with_reducible refine g_ld ?_); refine a_ld HM ?_) | ((with_reducible refine g_st ?_); refine a_st HM ?_; clear HM; intro w1 HM) | ((with_reducible refine g_al ?_); refine a_al HM ?_; clear HM; intro bk w1 HM) | ((with_reducible refine g_bx ?_); refine a_bx HM ?_; clear HM; intro bk w1 HM) | ((with_reducible refine g_bld ?_); refine a_bld ?_))); have hle2 := Rt.divInt_le (p := z2) (q := y) (by omega); rw [← hx.out] at hle2; obtain ⟨hT, hg⟩ := HM.done (by ((repeat (first | exact Look.here | refine Look.there ?_)); done)) HC.out H0.out hle0; refine bodyPost_ret (r_c rfl rfl (HM.get (by ((repeat (first | exact Look.here | refine Look.there ?_)); done))) (la_rz _ _)) rfl ⟨x, by rw [qA_rZ], by omega, by omega, hT.mono (by omega), hg⟩)
        · refine j_al HM ?_; clear HM; intro bk w1 HM
          refine ⟨(heldE HM), ?_⟩
          refine j_one 1 fun K9 hK9 => ?_
          refine o_callg (int_any W tb _ 480 _ (HM.tp (by ((repeat (first | exact Look.here | refine Look.there ?_)); done)) HC.out H0.out hle) (by omega) (by omega) (by omega)) rfl ?_ ?_; (focus (refine h_call2 (ts := ?_) (x1 := ?_) (x2 := ?_) ?_ (by kernel_rfl) ?_ ?_; rotate_left 3; (focus rfl); (focus rfl); rfl)); rintro e9 w1 ⟨z2, rfl, hz2, ⟨c1, hb1, hc1, -, -⟩, hg9⟩; replace HM := HM.put (c' := c1) (by (repeat (first | exact At.here | apply At.there))) hb1 (Only.of_grown hg9); clear hg9 hb1; replace HC := Lib.hid hc1; clear hc1; obtain ⟨x, hx⟩ : ∃ x : Rat, Hid (x = Rat.divInt z2 (y)) := ⟨_, rfl⟩; have HR := rmake_z z2 (y) x.num x.den 0 (by omega) ld (Rt.mk_q (by omega) (by omega) (by omega) hx.out); have hs := sa_rz x.num x.den (rZ_size 0 0); have hl := la_rz x.num x.den; refine ⟨_, rfl, ?_⟩
          refine hK9 _ _ (heldE HM) ?_; clear hK9 K9; ((try simp only [List.setIfInBounds_toArray]); (try simp only [List.set_cons_succ]); (try simp only [List.set_cons_zero]))
          refine j_one 3 fun K9 hK9 => ?_
          refine j_call2 (v := ?_) HM ?_ ?_; rotate_left 1; (focus (with_reducible (exact (HR _)))); clear HM; intro w1 HM
          refine hK9 _ _ (heldE HM) ?_; clear hK9 K9
          refine k_mv 4 (heldE HM) ?_
          refine k_ext 5 (heldE HM) ?_
          refine k_ext 6 (heldE HM) ?_
          refine j_one 8 fun K9 hK9 => ?_
          refine j_st HM ?_; clear HM; intro w1 HM
          refine hK9 _ _ heldN ?_; clear hK9 K9
          refine k_mv 9 heldN ?_
          refine wpAnyL_done (by kernel_rfl) ?_ _
          (go_wp2_with (first | fail | (first | ((with_reducible refine g_ld ?_); refine a_ld HM ?_) | ((with_reducible refine g_st ?_); refine a_st HM ?_; clear HM; intro w1 HM) | ((with_reducible refine g_al ?_); refine a_al HM ?_; clear HM; intro bk w1 HM) | ((with_reducible refine g_bx ?_); refine a_bx HM ?_; clear HM; intro bk w1 HM) | ((with_reducible refine g_bld ?_); refine a_bld ?_))); have hle2 := Rt.divInt_le (p := z2) (q := y) (by omega); rw [← hx.out] at hle2; obtain ⟨hT, hg⟩ := HM.done (by ((repeat (first | exact Look.here | refine Look.there ?_)); done)) HC.out H0.out hle0; refine bodyPost_ret (r_c rfl rfl (HM.get (by ((repeat (first | exact Look.here | refine Look.there ?_)); done))) (la_rz _ _)) rfl ⟨x, by rw [qA_rZ], by omega, by omega, hT.mono (by omega), hg⟩)
    · obtain rfl : j = 4 := by omega
      go_wp2_with (first | fail | (first | ((with_reducible refine g_ld ?_); refine a_ld HM ?_) | ((with_reducible refine g_st ?_); refine a_st HM ?_; clear HM; intro w1 HM) | ((with_reducible refine g_al ?_); refine a_al HM ?_; clear HM; intro bk w1 HM) | ((with_reducible refine g_bx ?_); refine a_bx HM ?_; clear HM; intro bk w1 HM) | ((with_reducible refine g_bld ?_); refine a_bld ?_)))
      refine (ratio_any W tb q _ (HM.tp (by ((repeat (first | exact Look.here | refine Look.there ?_)); done)) HC.out H0.out hle) (by omega)).mono ?_
      rintro e9 w2 ⟨x, rfl, hx1, hx2, ⟨c1, hb1, hc1, -, -⟩, hg⟩
      replace HM := HM.put (c' := c1) (by (repeat (first | exact At.here | apply At.there))) hb1 (Only.of_grown hg)
      clear hg hb1
      replace HC := Lib.hid hc1
      clear hc1
      have hs := sa_q x (rZ_size 0 0)
      go_wp2_with (first | fail | (first | ((with_reducible refine g_ld ?_); refine a_ld HM ?_) | ((with_reducible refine g_st ?_); refine a_st HM ?_; clear HM; intro w1 HM) | ((with_reducible refine g_al ?_); refine a_al HM ?_; clear HM; intro bk w1 HM) | ((with_reducible refine g_bx ?_); refine a_bx HM ?_; clear HM; intro bk w1 HM) | ((with_reducible refine g_bld ?_); refine a_bld ?_)))
      obtain ⟨hT, hg⟩ := HM.done (by ((repeat (first | exact Look.here | refine Look.there ?_)); done)) HC.out H0.out hle0
      refine bodyPost_ret (r_c rfl rfl (HM.get (by ((repeat (first | exact Look.here | refine Look.there ?_)); done))) (la_q _)) rfl ⟨x, rfl, by omega, by omega, hT.mono (by omega), hg⟩
end Go.Proofs.Ytekfabhmopkapaa
