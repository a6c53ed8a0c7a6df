/- The law SolverIsOnlyOne, walked. -/
import Derived.Test.YtadnddffdedjgaaSyP
namespace Go.Proofs.Ytadnddffdedjgaa
set_option maxRecDepth 8000
open Go.RowKit
theorem qrows_set (n : Nat) (f : Nat → Rat) (i : Nat) (z : Rat) : (qrows n f).set i (Rt.qA z) = qrows n fun j => if j = i then z else f j := by
  refine List.ext_getElem? fun j => ?_
  by_cases hj : j < n
  · rw [qrows_at _ hj, List.getElem?_set]
    split
    · rename_i e; subst e
      rw [if_pos (by rw [qrows_len]; exact hj), if_pos rfl]
    · rename_i e
      rw [qrows_at _ hj, if_neg (fun h => e h.symm)]
  · rw [List.getElem?_eq_none (by rw [List.length_set, qrows_len]; omega), List.getElem?_eq_none (by rw [qrows_len]; omega)]
theorem qrows_sizes (n : Nat) (f : Nat → Rat) : ∀ c ∈ qrows n f, c.size = 66 := by
  intro c hc
  obtain ⟨i, hi⟩ := List.mem_iff_getElem?.1 hc
  by_cases h : i < n
  · rw [qrows_at _ h] at hi; injection hi with e; subst e; exact qA_size _
  · rw [List.getElem?_eq_none (by rw [qrows_len]; omega)] at hi; contradiction
theorem qrows_one (n : Nat) (f : Nat → Rat) : ∀ c ∈ qrows n f, c.all (·.oneCell') = true := by
  intro c hc
  obtain ⟨i, hi⟩ := List.mem_iff_getElem?.1 hc
  by_cases h : i < n
  · rw [qrows_at _ h] at hi; injection hi with e; subst e; exact qA_one _
  · rw [List.getElem?_eq_none (by rw [qrows_len]; omega)] at hi; contradiction
theorem sa_qs (n : Nat) (f : Nat → Rat) (sp : List (Array Value)) {i : Nat} (z : Rat) (h : i < n) (hs : ∀ c ∈ qrows n f ++ sp, c.size = 66) : SA 42 (rowsOf (qrows n f ++ sp)) (i * 66) (.agg (Rt.qA z)) (rowsOf (qrows n (fun j => if j = i then z else f j) ++ sp)) := by
  have h1 : (qrows n f ++ sp)[i]? = some (Rt.qA (f i)) := by rw [List.getElem?_append_left (by rw [qrows_len]; exact h), qrows_at _ h]
  have := sa_row (T := 42) (n := 66) (l := qrows n f ++ sp) (k := i) (d := Rt.qA z) (by kernel_rfl) hs h1 (qA_size z) (qA_one z)
  rw [List.set_append_left _ _ (by rw [qrows_len]; exact h), qrows_set] at this
  exact this
/-- What is moved so far. -/
structure On.Inv (u : Nat → Int) (f g : Nat → Rat) (i : Nat) (un : Bool) : Prop where
  each : ∀ k, g k = f k ∨ (k < i ∧ 0 < u k ∧ ∃ m : Int, 1 ≤ m ∧ m ≤ 1000 ∧ g k = f k + Rat.divInt m 7)
  some : un = true → ∃ k, k < i ∧ 0 < u k ∧ ∃ m : Int, 1 ≤ m ∧ m ≤ 1000 ∧ g k = f k + Rat.divInt m 7
theorem On.Inv.up {u : Nat → Int} {f g : Nat → Rat} {i : Nat} {un : Bool} (h : On.Inv u f g i un) : On.Inv u f g (i + 1) un :=
  ⟨fun k => (h.each k).imp id fun ⟨a, b⟩ => ⟨by omega, b⟩, fun e => by obtain ⟨k, a, b⟩ := h.some e; exact ⟨k, by omega, b⟩⟩
theorem On.Inv.mv {u : Nat → Int} {f g : Nat → Rat} {i : Nat} {un : Bool} (h : On.Inv u f g i un) (hu : 0 < u i) {m : Int} (h1 : 1 ≤ m) (h2 : m ≤ 1000) {z : Rat} (hz : z = f i + Rat.divInt m 7) : On.Inv u f (fun j => if j = i then z else g j) (i + 1) true := by
  refine ⟨fun k => ?_, fun _ => ⟨i, by omega, hu, m, h1, h2, by simp only [if_pos]; exact hz⟩⟩
  by_cases e : k = i
  · subst e; right; exact ⟨by omega, hu, m, h1, h2, by simp only [if_pos]; exact hz⟩
  · simp only [if_neg e]
    exact (h.each k).imp id fun ⟨a, b⟩ => ⟨by omega, b⟩
theorem On.Inv.cb {n : Nat} {u : Nat → Int} {f g : Nat → Rat} {i : Nat} {un : Bool} (h : On.Inv u f g i un) (hf : Ns.Cd n f) : Ns.Cb n g Ns.bigger :=
  Ns.cd_moved hf fun k _ => by
    rcases h.each k with e | ⟨_, _, m, h1, h2, e⟩
    · exact ⟨0, by omega, by omega, by rw [e, Rat.divInt_eq_div]; grind⟩
    · exact ⟨m, by omega, h2, e⟩
theorem On.one_cb {n : Nat} {f : Nat → Rat} (hf : Ns.Cd n f) {i : Nat} (hi : i < n) {m : Int} (h1 : 1 ≤ m) (h2 : m ≤ 1000) : Rt.Fit (f i + Rat.divInt m 7) := by
  have := (On.Inv.mv (u := fun _ => 1) (f := f) (g := f) (i := i) (un := false) ⟨fun k => .inl rfl, fun e => by contradiction⟩ (by decide) h1 h2 rfl).cb hf
  have := this.self hi
  simpa using this
theorem On.seventh {m : Int} (h : 1 ≤ m) : Rat.divInt m 7 ≠ 0 := by
  intro e
  rw [Rat.divInt_eq_div] at e
  have h0 : (0 : Rat) < (m : Rat) := Rat.intCast_pos.2 (by omega)
  have e7 : ((7 : Int) : Rat) = 7 := rfl
  rw [e7] at e
  grind
theorem On.Inv.lost {U A : List Int} {H : List (List Int)} {f g : Nat → Rat} (hO : Ns.Ok U.length (Ns.gu U) (Ns.gh H)) (hc : ¬ Ns.Circ U.length (Ns.gu U) (Ns.gh H)) (hP : Ns.Pr U.length (Ns.gu U) (Ns.gh H) (Ns.gu A) f) (h : On.Inv (Ns.gu U) f g U.length true) (hr : ∀ k, k < U.length → 0 < Ns.gu U k → Sv.rs U H A g k U.length = 0) : False := by
  have hg : Ns.Pr U.length (Ns.gu U) (Ns.gh H) (Ns.gu A) g := Ns.rs_pr hO.u0 hr fun i hi h0 => by
    rcases h.each i with e | ⟨_, h1, _⟩
    · rw [e]; exact Ns.pr_none hP hi h0
    · omega
  obtain ⟨k, hk, hu, m, h1, h2, e⟩ := h.some rfl
  have e2 := Ns.Pr.uniq hO hc hP hg k hk
  have := On.seventh h1
  grind
theorem add_wrap {x y : Operand} (a b : Int) (w : World) : (do eqGuard .add 3 x y (.int .i64 a) (.int .i64 b); binOp .add 3 (.int .i64 a) (.int .i64 b) : Sem Value).run Try.prog w = .ok (.int .i64 (IntKind.i64.wrap (a + b))) w := by
  go_simp
set_option maxRecDepth 100000 in
set_option maxHeartbeats 8000000 in
theorem only_any (A : Option Addr) (xs : List Int) (c0 : Nat) (which by_ : Int) (W : World) (hI : IntsAt W A xs) (hxl : xs.length ≤ 9223372036854775807) (_ : -9223372036854775808 ≤ which) (_ : which < 9223372036854775808) (_ : -9223372036854775808 ≤ by_) (_ : by_ < 9223372036854775808) :
    Calls Try.prog 10 #[.slice A xs.length c0, .int .i64 which, .int .i64 by_] W fun e w' => e = .returned (.bool true) ∧ Below W.heap.size W w' := by
  have HM := Mem.start W
  have HI := Lib.hid hI
  have zn := za_nest
  have elr : elemB 27 42 66 264 = true := by kernel_rfl
  clear hI
  go_enter Try.func10, Try.ntmps10
  go_upto_region 2 with (first | (go_at_call 15; (with_reducible refine (snew_any _ _ _ _).mono ?_); rintro e9 w2 ⟨tb, rfl, HM1⟩; replace HM := HM.join HM1; clear HM1) | (first | ((with_reducible refine g_ld ?_); refine a_ld HM ?_) | ((with_reducible refine g_st ?_); refine a_st HM ?_; clear HM; intro w1 HM) | ((with_reducible refine g_al ?_); refine a_al HM ?_; clear HM; intro bk w1 HM) | ((with_reducible refine g_bx ?_); refine a_bx HM ?_; clear HM; intro bk w1 HM) | ((with_reducible refine g_bld ?_); refine a_bld ?_)))
  replace HM : Mem W [] [(tb, #[Value.slice A xs.length c0, Value.int IntKind.i64 0])] w2 := HM
  have HC : Hid (TapeC W 0 #[.slice A xs.length c0, .int .i64 0]) := ⟨A, xs, c0, 0, rfl, by omega, by omega, HI.out, hxl⟩
  clear HI
  go_upto_region 3 with (first | first | (go_at_call 16; refine (snest_any 5 false tb 0 _ [] W _ HM HC (by omega) (by omega)).mono ?_; rintro e9 w2 ⟨n, bu, bh, U, H, rb, c1, rfl, hn, hUL, hRL, HMD, HC1, HM1⟩; replace HM := HM1; replace HC := HC1; clear HM1 HC1) | ((with_reducible refine g_st ?_); refine a_st (v := .agg #[_, _]) HM ?_ (hv := sa_nest _ _ rfl rfl); clear HM; intro w1 HM) | (first | ((with_reducible refine g_ld ?_); refine a_ld HM ?_) | ((with_reducible refine g_st ?_); refine a_st HM ?_; clear HM; intro w1 HM) | ((with_reducible refine g_al ?_); refine a_al HM ?_; clear HM; intro bk w1 HM) | ((with_reducible refine g_bx ?_); refine a_bx HM ?_; clear HM; intro bk w1 HM) | ((with_reducible refine g_bld ?_); refine a_bld ?_)))
  obtain ⟨b8, rfl⟩ := HM.nm0
  have n0 := la_n0 (.slice (some ⟨bu, 0, none⟩) n n) (.slice (some ⟨bh, 0, none⟩) n n)
  have n2 := la_nest (.slice (some ⟨bu, 0, none⟩) n n) (.slice (some ⟨bh, 0, none⟩) n n)
  go_upto_region 4 with (first | (go_at_call 17; refine (sassets_any n true tb _ c1 ((b8, #[.slice (some ⟨bu, 0, none⟩) n n, .slice (some ⟨bh, 0, none⟩) n n]) :: (bu, rowsOf (U.map ic)) :: (bh, rowsOf ((rv n rb).map vc)) :: (NR rb H ++ [])) W _ HM.pick HC (by omega) (by omega)).mono ?_; rintro e9 w2 ⟨ba, As, c2, rfl, hAL, HAP, HC2, HM1⟩; replace HM := HM1; clear HM1 HC2) | (first | ((with_reducible refine g_ld ?_); refine a_ld HM ?_) | ((with_reducible refine g_st ?_); refine a_st HM ?_; clear HM; intro w1 HM) | ((with_reducible refine g_al ?_); refine a_al HM ?_; clear HM; intro bk w1 HM) | ((with_reducible refine g_bx ?_); refine a_bx HM ?_; clear HM; intro bk w1 HM) | ((with_reducible refine g_bld ?_); refine a_bld ?_)))
  have inA := Sv.asset_in HAP.out
  obtain ⟨herrA, hnc⟩ := Sv.made_err HMD.out (A := As) (by omega) inA
  have hchk := Sv.chk_ok HMD.out.good.good (A := As) (by omega) inA
  have HEA := Lib.hid herrA.symm
  subst hUL
  have hN : RdN w2 (.slice (some ⟨bu, 0, none⟩) U.length U.length) (.slice (some ⟨bh, 0, none⟩) U.length U.length) U H := rdN_own HM rfl HMD.out.good.sh.2 hRL HMD.out.lens (by simp) (by simp) (fun q hq => by simp [hq])
  have hAS : RdI w2 (.slice (some ⟨ba, 0, none⟩) U.length U.length) As := by
    have := (own_ints (b := ba) (A := As)).rd HM (by simp)
    rwa [hAL] at this
  have S1 := fun w' (hB : Below w2.heap.size w2 w') => ssolve_any _ _ _ U H As w' (hN.below hB) (hAS.below hB) 0 HEA
  have hbx : Rbk w2 b8 #[.slice (some ⟨bu, 0, none⟩) U.length U.length, .slice (some ⟨bh, 0, none⟩) U.length U.length] := (HM.get (by ((repeat (first | exact Look.here | refine Look.there ?_)); done))).rbk
  have HBX := Lib.hid hbx
  have HN1 := Lib.hid hN
  have HAS1 := Lib.hid hAS
  have HB2 := Lib.hid HM.low
  have hok := HMD.out.good.ok
  clear hbx hN hAS HM herrA
  have HM := Mem.start w2
  go_upto_region 5 with (first | (go_at_call 12; refine (S1 _ HM.low).mono ?_; rintro e9 w5 ⟨s1, rfl, hL1, HS1⟩; replace HM := HM.call hL1) | (first | ((with_reducible refine g_ld ?_); refine a_ld HM ?_) | ((with_reducible refine g_st ?_); refine a_st HM ?_; clear HM; intro w1 HM) | ((with_reducible refine g_al ?_); refine a_al HM ?_; clear HM; intro bk w1 HM) | ((with_reducible refine g_bx ?_); refine a_bx HM ?_; clear HM; intro bk w1 HM) | ((with_reducible refine g_bld ?_); refine a_bld ?_)))
  obtain ⟨-, f, hf, hR1⟩ := HS1.out.resolve_left (fun h => h.1 rfl)
  obtain ⟨A1, p1, rfl⟩ := hR1.form66
  have HR1 := Lib.hid hR1
  have HCD : Hid (Ns.Cd U.length f) := Lib.hid (Ns.cd hok hnc (Sv.gu_abs hAL inA) hf.1)
  have HPR := Lib.hid hf.1
  have HFF := Lib.hid hf.2
  have HB6 := Lib.hid (below_seq HB2.out HM.low)
  have HN6 := Lib.hid (HN1.out.below HM.low)
  have HAS6 := Lib.hid (HAS1.out.below HM.low)
  have HBX6 : Hid (Rbk w5 b8 #[.slice (some ⟨bu, 0, none⟩) U.length U.length, .slice (some ⟨bh, 0, none⟩) U.length U.length]) := Lib.hid (HM.rro HBX.out (by simp))
  clear HS1 hL1 S1 hR1 hf HM HB2 HN1 HAS1 HBX
  have HM := Mem.start w5
  have hcap : (([] : List (Array Value)).length + (qrows U.length f).length) * (264 + 1) ≤ 140737488355328 := by rw [qrows_len]; simp; omega
  go_upto_region 8 with (first | ((with_reducible refine g_app ?_); refine a_app (m := qrows U.length f) (B := []) (F := fun X => X ++ []) HM .nil HR1.out ?_ (qrows_one _ _) (hlen := hcap); clear HM; intro s2 B2 w1 HS2 HM) | (first | ((with_reducible refine g_ld ?_); refine a_ld HM ?_) | ((with_reducible refine g_st ?_); refine a_st HM ?_; clear HM; intro w1 HM) | ((with_reducible refine g_al ?_); refine a_al HM ?_; clear HM; intro bk w1 HM) | ((with_reducible refine g_bx ?_); refine a_bx HM ?_; clear HM; intro bk w1 HM) | ((with_reducible refine g_bld ?_); refine a_bld ?_)))
  rw [List.nil_append] at HS2
  by_cases hn0 : U.length = 0
  · have hn1 : (U.length : Int) = 0 := by omega
    go_wp2_with (first | fail | (first | ((with_reducible refine g_ld ?_); refine a_ld HM ?_) | ((with_reducible refine g_st ?_); refine a_st HM ?_; clear HM; intro w1 HM) | ((with_reducible refine g_al ?_); refine a_al HM ?_; clear HM; intro bk w1 HM) | ((with_reducible refine g_bx ?_); refine a_bx HM ?_; clear HM; intro bk w1 HM) | ((with_reducible refine g_bld ?_); refine a_bld ?_)))
    go_loopw [12, 14] (fun rv iv wr => rv = .bool false ∧ iv = .int .i64 0 ∧ Mem w5 [] (B2 ++ []) wr) (fun _ _ _ => 0)
    case atStart => exact ⟨rfl, rfl, HM⟩
    case round =>
      clear HM
      obtain ⟨rfl, rfl, HM⟩ := hrel
      go_wp2_with (first | (go_at_call 11; ((with_reducible refine (awake35_any _).mono ?_); rintro e9 w2 ⟨rfl, hL⟩; replace HM := HM.call hL; clear hL)) | (first | ((with_reducible refine g_ld ?_); refine a_ld HM ?_) | ((with_reducible refine g_st ?_); refine a_st HM ?_; clear HM; intro w1 HM) | ((with_reducible refine g_al ?_); refine a_al HM ?_; clear HM; intro bk w1 HM) | ((with_reducible refine g_bx ?_); refine a_bx HM ?_; clear HM; intro bk w1 HM) | ((with_reducible refine g_bld ?_); refine a_bld ?_)))
      go_ret
      exact ⟨rfl, below_seq HB6.out HM.low⟩
  obtain ⟨b11, sp, rfl, rfl, hsz⟩ := HS2.inv (fun h => by have := qrows_len f U.length; rw [h] at this; simp at this; omega)
  have HSZ := Lib.hid hsz
  rw [qrows_len]
  clear hsz HS2 hcap
  have HAB : Hid (∀ i, i < U.length → (Ns.gu As i).natAbs ≤ 1000000000) := Lib.hid (fun i hi => by
    rw [Ns.gu_at (List.getElem?_eq_getElem (show i < As.length by omega))]
    obtain ⟨h1, h2, _⟩ := HAP.out _ (List.getElem_mem (show i < As.length by omega))
    omega)
  have HUB : Hid (∀ i, i < U.length → (Ns.gu U i).natAbs ≤ 1000000) := Lib.hid (fun i hi => by
    have h1 := HMD.out.small i hi
    have h2 := hok.u0 i hi
    omega)
  have HHB : Hid (∀ i j, i < U.length → j < U.length → (Ns.gh H i j).natAbs ≤ 1000000) := Lib.hid (fun i j hi hj => by
    have h1 := HMD.out.small j hj
    have h2 := hok.h0 i j hi hj
    have h3 := hok.le hi hj
    omega)
  have hn8 : U.length ≤ 8 := by omega
  clear inA HAP
  replace HM : Mem w5 [] [(b11, rowsOf (qrows U.length f ++ sp))] w1 := HM
  go_wp2_with (first | fail | (first | ((with_reducible refine g_ld ?_); refine a_ld HM ?_) | ((with_reducible refine g_st ?_); refine a_st HM ?_; clear HM; intro w1 HM) | ((with_reducible refine g_al ?_); refine a_al HM ?_; clear HM; intro bk w1 HM) | ((with_reducible refine g_bx ?_); refine a_bx HM ?_; clear HM; intro bk w1 HM) | ((with_reducible refine g_bld ?_); refine a_bld ?_)))
  go_loopw [12, 14] (fun rv iv wr => ∃ (i : Nat) (un : Bool) (g : Nat → Rat), rv = .bool un ∧ iv = .int .i64 (i : Nat) ∧ i ≤ U.length ∧ Hid (On.Inv (Ns.gu U) f g i un) ∧ Mem w5 [] [(b11, rowsOf (qrows U.length g ++ sp))] wr) (fun _ iv _ => U.length - (intOf iv).toNat)
  case atStart => exact ⟨0, false, f, rfl, rfl, by omega, Lib.hid ⟨fun k => .inl rfl, fun h => by contradiction⟩, HM⟩
  case round =>
    clear HM
    obtain ⟨i, un, g, rfl, rfl, hi, HG, HM⟩ := hrel
    by_cases hit : i < U.length
    · have hit1 : (i : Int) < U.length := by omega
      obtain ⟨u, hu⟩ : ∃ u, U[i]? = some u := ⟨_, List.getElem?_eq_getElem hit⟩
      obtain ⟨bU, offU, csU, e, HBU, ku⟩ := HN6.out.u.at_ hu
      injection e with e
      injection e with e1 e2
      subst e1 e2
      rw [Nat.zero_add] at ku
      have eu := Ns.gu_at hu
      by_cases hu0 : 0 < u
      · obtain ⟨c1', o1, cs1, rfl, HBP1, kp1⟩ := HR1.out.at66 hit
        obtain ⟨x, hx⟩ : ∃ x, Hid (x = f i) := ⟨_, Lib.hid rfl⟩
        rw [← hx.out] at kp1
        obtain ⟨s, hs⟩ : ∃ s, Hid (s = IntKind.i64.wrap (by_ + i)) := ⟨_, Lib.hid rfl⟩
        obtain ⟨m, hm⟩ : ∃ m, Hid (m = Sc.md s 1000) := ⟨_, Lib.hid rfl⟩
        obtain ⟨hm0, hm1⟩ := Sc.md_in (v := s) (n := 1000) (by decide)
        rw [← hm.out] at hm0 hm1
        obtain ⟨y, hy⟩ : ∃ y, Hid (y = Rat.divInt (1 + m) 7) := ⟨_, Lib.hid rfl⟩
        obtain ⟨z, hz⟩ : ∃ z, Hid (z = x + y) := ⟨_, Lib.hid rfl⟩
        have fx : Rt.Fit x := by rw [hx.out]; exact HFF.out i hit
        have fz : Rt.Fit z := by rw [hz.out, hx.out, hy.out]; exact On.one_cb HCD.out hit (by omega) (by omega)
        have fy : Rt.Fit y := by
          rw [hy.out]
          exact (Rt.Bd.divInt (i := 20) (j := 4) (by decide) (Bg.p2_small 20 1048576 (by unfold Bg.p2; rfl) (by omega)) (Bg.p2_small 4 16 (by unfold Bg.p2; rfl) (by decide))).fit
        have OV := fun w => over_ex (1 + m) 7 y (by omega) (by omega) (by omega) (by omega) (by omega) hy w
        have AD := fun w => add_ex (.ok x) (.ok y) fx fy (.ok z) (Lib.hid (Ex.add_eq hz.out fz)) w
        have fA := Ex.fA z
        have sz := sa_qs U.length g sp z hit (fun c hc => by
          rcases List.mem_append.1 hc with h | h
          · exact qrows_sizes _ _ c h
          · exact HSZ.out c (List.mem_append_right _ h))
        have HINV : Hid (On.Inv (Ns.gu U) f (fun j => if j = i then z else g j) (i + 1) true) := Lib.hid (HG.out.mv (by rw [eu]; exact hu0) (m := 1 + m) (by omega) (by omega) (by rw [hz.out, hx.out, hy.out]))
        clear hu eu
        have hsw := hs.out.symm
        cases un
        all_goals go_upto_region 12 with (first | fail | (first | ((with_reducible refine g_ld ?_); refine a_ld HM ?_) | ((with_reducible refine g_st ?_); refine a_st HM ?_; clear HM; intro w1 HM) | ((with_reducible refine g_al ?_); refine a_al HM ?_; clear HM; intro bk w1 HM) | ((with_reducible refine g_bx ?_); refine a_bx HM ?_; clear HM; intro bk w1 HM) | ((with_reducible refine g_bld ?_); refine a_bld ?_)))
        all_goals first
          | exact ⟨⟨i + 1, by go_num, by omega, g, Lib.hid HG.out.up, HM⟩, by simp [intOf]; omega⟩
          | skip
        all_goals
          go_wp2_with (first | first | (go_at_call 23; ((with_reducible refine (smod_any s 1000 m _ (by decide) (by decide) hm).mono ?_); rintro e9 w2 ⟨rfl, rfl⟩)) | (go_at_call 20; ((with_reducible refine (of_ex _ _).mono ?_); rintro e9 w2 ⟨rfl, hL⟩; replace HM := HM.call hL; clear hL)) | (go_at_call 29; ((with_reducible refine (OV _).mono ?_); rintro e9 w2 ⟨rfl, hL⟩; replace HM := HM.call hL; clear hL)) | (go_at_call 21; ((with_reducible refine (AD _).mono ?_); rintro e9 w2 ⟨rfl, hL⟩; replace HM := HM.call hL; clear hL)) | ((with_reducible refine g_fld ?_); refine a_fld ?_ fA) | (first | ((with_reducible refine g_ld ?_); refine a_ld HM ?_) | ((with_reducible refine g_st ?_); refine a_st HM ?_; clear HM; intro w1 HM) | ((with_reducible refine g_al ?_); refine a_al HM ?_; clear HM; intro bk w1 HM) | ((with_reducible refine g_bx ?_); refine a_bx HM ?_; clear HM; intro bk w1 HM) | ((with_reducible refine g_bld ?_); refine a_bld ?_)))
          go_roundw
          case rel => exact ⟨i + 1, true, _, rfl, by go_num, by omega, HINV, HM⟩
          case measure => simp [intOf]; omega
      · clear hu
        have hule : u ≤ 0 := by omega
        go_wp2_with (first | fail | (first | ((with_reducible refine g_ld ?_); refine a_ld HM ?_) | ((with_reducible refine g_st ?_); refine a_st HM ?_; clear HM; intro w1 HM) | ((with_reducible refine g_al ?_); refine a_al HM ?_; clear HM; intro bk w1 HM) | ((with_reducible refine g_bx ?_); refine a_bx HM ?_; clear HM; intro bk w1 HM) | ((with_reducible refine g_bld ?_); refine a_bld ?_)))
        go_roundw
        case rel => exact ⟨i + 1, un, g, rfl, by go_num, by omega, Lib.hid HG.out.up, HM⟩
        case measure => simp [intOf]; omega
    · obtain rfl : i = U.length := by omega
      cases un
      · go_wp2_with (first | (go_at_call 11; ((with_reducible refine (awake35_any _).mono ?_); rintro e9 w2 ⟨rfl, hL⟩; replace HM := HM.call hL; clear hL)) | (first | ((with_reducible refine g_ld ?_); refine a_ld HM ?_) | ((with_reducible refine g_st ?_); refine a_st HM ?_; clear HM; intro w1 HM) | ((with_reducible refine g_al ?_); refine a_al HM ?_; clear HM; intro bk w1 HM) | ((with_reducible refine g_bx ?_); refine a_bx HM ?_; clear HM; intro bk w1 HM) | ((with_reducible refine g_bld ?_); refine a_bld ?_)))
        go_ret
        exact ⟨rfl, below_seq HB6.out HM.low⟩
      have HCB := Lib.hid (HG.out.cb HCD.out)
      have HRS : Hid (RdS 66 wr (.slice (some ⟨b11, 0, none⟩) U.length (U.length + sp.length)) (qrows U.length g)) := by
        have h1 := (SlAt.row (n := 66) b11 (qrows U.length g) sp (by
          intro c hc
          rcases List.mem_append.1 hc with h | h
          · exact qrows_sizes _ _ c h
          · exact HSZ.out c (List.mem_append_right _ h))).rd HM (by simp)
        rw [qrows_len] at h1
        exact h1
      have RS := residual_any (.slice (some ⟨bu, 0, none⟩) U.length U.length) (.slice (some ⟨bh, 0, none⟩) U.length U.length) (.slice (some ⟨ba, 0, none⟩) U.length U.length) _ U H As g wr (HN6.out.below HM.low) (HAS6.out.below HM.low) hchk HRS.out
        (fun i hi => HCB.out.self hi) (fun i hi k hk => HCB.out.rs hn8 HUB.out HHB.out HAB.out hi hk) (fun i hi => HCB.out.mul hi (HUB.out i hi)) (fun i hi j hj => HCB.out.mul hj (HHB.out i j hi hj))
      have HBX7 := Lib.hid (HM.rro HBX6.out (by simp))
      have HN7 := Lib.hid (HN6.out.below HM.low)
      have HB7 := Lib.hid (below_seq HB6.out HM.low)
      clear HM HRS HN6 HAS6 HBX6 HB6
      have HM := Mem.start wr
      go_upto_region 17 with (first | (go_at_call 28; refine RS.mono ?_; rintro e9 w7 ⟨s2, rfl, hL2, HS2⟩; replace HM := HM.call hL2) | (first | ((with_reducible refine g_ld ?_); refine a_ld HM ?_) | ((with_reducible refine g_st ?_); refine a_st HM ?_; clear HM; intro w1 HM) | ((with_reducible refine g_al ?_); refine a_al HM ?_; clear HM; intro bk w1 HM) | ((with_reducible refine g_bx ?_); refine a_bx HM ?_; clear HM; intro bk w1 HM) | ((with_reducible refine g_bld ?_); refine a_bld ?_)))
      obtain ⟨A2, p2, rfl⟩ := HS2.out.form66
      have HBX8 : Hid (Rbk w7 b8 #[.slice (some ⟨bu, 0, none⟩) U.length U.length, .slice (some ⟨bh, 0, none⟩) U.length U.length]) := Lib.hid (HM.rro HBX7.out (by simp))
      have HN8 := Lib.hid (HN7.out.below HM.low)
      have HB8 := Lib.hid (below_seq HB7.out HM.low)
      obtain ⟨r, hr⟩ : ∃ r : Nat → Rat, Hid (r = fun i => Sv.rs U H As g i U.length) := ⟨_, Lib.hid rfl⟩
      rw [← hr.out] at HS2
      have HRF : Hid (∀ i, i < U.length → Rt.Fit (r i)) := Lib.hid (fun i hi => by rw [hr.out]; exact HCB.out.rs hn8 HUB.out HHB.out HAB.out hi (Nat.le_refl _))
      have HLOST : Hid (¬ ∀ k, k < U.length → 0 < Ns.gu U k → r k = 0) := Lib.hid (fun h => HG.out.lost hok hnc HPR.out (fun k hk hu => by have := h k hk hu; rw [hr.out] at this; exact this))
      clear HM HBX7 HN7 HB7 hL2 RS
      have HM := Mem.start w7
      go_wp2_with (first | fail | (first | ((with_reducible refine g_ld ?_); refine a_ld HM ?_) | ((with_reducible refine g_st ?_); refine a_st HM ?_; clear HM; intro w1 HM) | ((with_reducible refine g_al ?_); refine a_al HM ?_; clear HM; intro bk w1 HM) | ((with_reducible refine g_bx ?_); refine a_bx HM ?_; clear HM; intro bk w1 HM) | ((with_reducible refine g_bld ?_); refine a_bld ?_)))
      go_loopw [17] (fun iv wr => ∃ i : Nat, iv = .int .i64 (i : Nat) ∧ i ≤ U.length ∧ Hid (∀ k, k < i → 0 < Ns.gu U k → r k = 0) ∧ Mem w7 [] [] wr) (fun iv _ => U.length - (intOf iv).toNat)
      case atStart => exact ⟨0, rfl, by omega, Lib.hid (fun k hk => by omega), HM⟩
      case round =>
        clear HM
        obtain ⟨i, rfl, hi2, HZ, HM⟩ := hrel
        by_cases hit : i < U.length
        · have hit1 : (i : Int) < U.length := by omega
          obtain ⟨u, hu⟩ : ∃ u, U[i]? = some u := ⟨_, List.getElem?_eq_getElem hit⟩
          obtain ⟨bU, offU, csU, e, HBU, ku⟩ := HN8.out.u.at_ hu
          injection e with e
          injection e with e1 e2
          subst e1 e2
          rw [Nat.zero_add] at ku
          have eu := Ns.gu_at hu
          clear hu
          obtain ⟨c1', o1, cs1, rfl, HBP1, kp1⟩ := HS2.out.at66 hit
          obtain ⟨x, hx⟩ : ∃ x, Hid (x = r i) := ⟨_, Lib.hid rfl⟩
          rw [← hx.out] at kp1
          have fx : Rt.Fit x := by rw [hx.out]; exact HRF.out i hit
          by_cases hu0 : 0 < u
          · have hup : decide (0 < u) = true := decide_eq_true hu0
            obtain ⟨n, hn⟩ : ∃ n, Hid (n = x.num.sign) := ⟨_, Lib.hid rfl⟩
            have SG := fun w => sign_ex x n fx hn w
            by_cases hx0 : x = 0
            · obtain rfl : n = 0 := by rw [hn.out, hx0]; rfl
              have HZ2 : Hid (∀ k, k < i + 1 → 0 < Ns.gu U k → r k = 0) := Lib.hid (fun k hk h => by
                by_cases e : k = i
                · subst e; rw [← hx.out]; exact hx0
                · exact HZ.out k (by omega) h)
              clear eu hx0
              go_wp2_with (first | first | (go_at_call 20; ((with_reducible refine (of_ex _ _).mono ?_); rintro e9 w2 ⟨rfl, hL⟩; replace HM := HM.call hL; clear hL)) | (go_at_call 19; ((with_reducible refine (SG _).mono ?_); rintro e9 w2 ⟨rfl, hL⟩; replace HM := HM.call hL; clear hL)) | (first | ((with_reducible refine g_ld ?_); refine a_ld HM ?_) | ((with_reducible refine g_st ?_); refine a_st HM ?_; clear HM; intro w1 HM) | ((with_reducible refine g_al ?_); refine a_al HM ?_; clear HM; intro bk w1 HM) | ((with_reducible refine g_bx ?_); refine a_bx HM ?_; clear HM; intro bk w1 HM) | ((with_reducible refine g_bld ?_); refine a_bld ?_)))
              go_roundw
              case rel => exact ⟨i + 1, by go_num, by omega, HZ2, HM⟩
              case measure => simp [intOf]; omega
            · have hn0 : n ≠ 0 := by rw [hn.out]; intro e; exact hx0 (Rat.num_eq_zero.1 (Int.sign_eq_zero_iff_zero.1 e))
              have hn1 : (n == 0) = false := beq_eq_false_iff_ne.2 hn0
              clear hx0
              have hn2 : (n != 0) = true := bne_iff_ne.2 hn0
              clear eu
              go_wp2_with (first | first | (go_at_call 20; ((with_reducible refine (of_ex _ _).mono ?_); rintro e9 w2 ⟨rfl, hL⟩; replace HM := HM.call hL; clear hL)) | (go_at_call 19; ((with_reducible refine (SG _).mono ?_); rintro e9 w2 ⟨rfl, hL⟩; replace HM := HM.call hL; clear hL)) | (go_at_call 11; ((with_reducible refine (awake35_any _).mono ?_); rintro e9 w2 ⟨rfl, hL⟩; replace HM := HM.call hL; clear hL)) | (first | ((with_reducible refine g_ld ?_); refine a_ld HM ?_) | ((with_reducible refine g_st ?_); refine a_st HM ?_; clear HM; intro w1 HM) | ((with_reducible refine g_al ?_); refine a_al HM ?_; clear HM; intro bk w1 HM) | ((with_reducible refine g_bx ?_); refine a_bx HM ?_; clear HM; intro bk w1 HM) | ((with_reducible refine g_bld ?_); refine a_bld ?_)))
              go_ret
              exact ⟨rfl, below_seq HB8.out HM.low⟩
          · have hup : decide (0 < u) = false := decide_eq_false hu0
            have HZ2 : Hid (∀ k, k < i + 1 → 0 < Ns.gu U k → r k = 0) := Lib.hid (fun k hk h => by
              by_cases e : k = i
              · subst e; rw [eu] at h; exact absurd h hu0
              · exact HZ.out k (by omega) h)
            have hule : u ≤ 0 := by omega
            clear eu
            go_wp2_with (first | fail | (first | ((with_reducible refine g_ld ?_); refine a_ld HM ?_) | ((with_reducible refine g_st ?_); refine a_st HM ?_; clear HM; intro w1 HM) | ((with_reducible refine g_al ?_); refine a_al HM ?_; clear HM; intro bk w1 HM) | ((with_reducible refine g_bx ?_); refine a_bx HM ?_; clear HM; intro bk w1 HM) | ((with_reducible refine g_bld ?_); refine a_bld ?_)))
            go_roundw
            case rel => exact ⟨i + 1, by go_num, by omega, HZ2, HM⟩
            case measure => simp [intOf]; omega
        · obtain rfl : i = U.length := by omega
          exact absurd HZ.out HLOST.out
end Go.Proofs.Ytadnddffdedjgaa
