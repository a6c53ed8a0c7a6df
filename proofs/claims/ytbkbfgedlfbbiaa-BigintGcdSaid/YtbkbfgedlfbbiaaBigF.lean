/- Multiplying magnitudes: bigint's times. -/
import Derived.Test.YtbkbfgedlfbbiaaBigE
import Derived.Deep.RegionHeld3
namespace Go.Proofs.Ytbkbfgedlfbbiaa
open Go.RowKit
theorem zero64 : #[Value.int .u32 0, .int .u32 0, .int .u32 0, .int .u32 0, .int .u32 0, .int .u32 0, .int .u32 0, .int .u32 0, .int .u32 0, .int .u32 0, .int .u32 0, .int .u32 0, .int .u32 0, .int .u32 0, .int .u32 0, .int .u32 0, .int .u32 0, .int .u32 0, .int .u32 0, .int .u32 0, .int .u32 0, .int .u32 0, .int .u32 0, .int .u32 0, .int .u32 0, .int .u32 0, .int .u32 0, .int .u32 0, .int .u32 0, .int .u32 0, .int .u32 0, .int .u32 0,
  .int .u32 0, .int .u32 0, .int .u32 0, .int .u32 0, .int .u32 0, .int .u32 0, .int .u32 0, .int .u32 0, .int .u32 0, .int .u32 0, .int .u32 0, .int .u32 0, .int .u32 0, .int .u32 0, .int .u32 0, .int .u32 0, .int .u32 0, .int .u32 0, .int .u32 0, .int .u32 0, .int .u32 0, .int .u32 0, .int .u32 0, .int .u32 0, .int .u32 0, .int .u32 0, .int .u32 0, .int .u32 0, .int .u32 0, .int .u32 0, .int .u32 0, .int .u32 0] = Bg.row 64 0 := by
  kernel_rfl
theorem Blk.low64 {w : World} {b N : Nat} (h : Blk w b (Bg.row 64 N)) : w.rangeAt b 0 (Bg.lims 32 (N % Bg.lim)) := by
  intro j v hv
  have hj : j < 32 := by
    have := (List.getElem?_eq_some_iff.1 hv).1
    rwa [Bg.lims_length] at this
  rw [Bg.lims_at 32 _ j hj] at hv
  rw [Nat.zero_add, h.limb (by omega), ← hv]
  unfold Bg.lv Bg.lim
  rw [Bg.limb_low' N 32 j hj]
theorem Blk.high64 {w : World} {b N : Nat} (h : Blk w b (Bg.row 64 N)) : w.rangeAt b 32 (Bg.lims 32 (N / Bg.lim)) := by
  intro j v hv
  have hj : j < 32 := by
    have := (List.getElem?_eq_some_iff.1 hv).1
    rwa [Bg.lims_length] at this
  rw [Bg.lims_at 32 _ j hj] at hv
  rw [h.limb (by omega), ← hv]
  unfold Bg.lv Bg.lim
  rw [Bg.limb_div N 32 j]
theorem take_h {P : Program} {md : Region.Mode} {ops : Array Oper} {Q : Exit → Act → World → Prop} {S : World → Prop} {i : Nat} {oi : Oper} {v : Value} {d : Tmp} {fuel : Nat} {listed : Array Bool} {a : Act} {w : World} (hi : ops[i]? = some oi) (hd : oi.dst = some d)
    (hs : Region.noSelect ops = true) (hf : Region.free md ops listed i = true) (hr : (Region.ready md ops listed).contains i = true)
    (hQ : ∀ c a w, Q (.panic c) (a.put (some d) v) w → Q (.panic c) a w) (hy : YieldsIf P ops S oi v a) (hS : S w)
    (h : wpAnyH P md ops Q S fuel (listed.setIfInBounds i true) { a with tmps := a.tmps.setIfInBounds d v } w) : wpAnyH P md ops Q S (fuel + 1) listed a w :=
  wpAnyH_take hi hs hf hr (by rw [hd]; exact hQ) hy hS (by rw [hd]; exact h)
theorem store_h (N : Nat) (c : Array Value) {md : Region.Mode} {ops : Array Oper} {Q : Exit → Act → World → Prop} {S : World → Prop} {i : Nat} {oi : Oper} {fuel : Nat} {listed : Array Bool} {a : Act} {w : World} (hr : Region.ready md ops listed = [i]) (hi : ops[i]? = some oi) (hd : oi.dst = none)
    (hw : Region.wanted oi (yielded ops a.tmps) = true) (x y : Operand) (ho : oi.op = .store 57 x y) (b : Nat) (hx : a.eval x = .pointer (some ⟨b, 0, none⟩)) (hy : a.eval y = .agg (Bg.row 32 N)) (hb : Blk w b c) (hc : c.size = 32) (hS : S (w.setRow b (Bg.row 32 N)))
    (h : wpAnyH Try.prog md ops Q S fuel (listed.setIfInBounds i true) a (w.setRow b (Bg.row 32 N))) : wpAnyH Try.prog md ops Q S (fuel + 1) listed a w := by
  obtain ⟨t, hb⟩ := hb
  refine wpAnyH_ready hr (by simp) (AllReadyH.cons hi (fun K hK => ?_) AllReadyH.nil)
  rw [if_pos hw]
  refine wp_store_row _ x y ho b _ hx hy t _ hb (by rw [Bg.row_size]; exact siz_mag) (by rw [Bg.row_size, hc]) (Bg.row_one 32 N) ?_
  rw [hd]
  exact hK.out _ _ hS (fun _ => h)
theorem arr_mag (ad : Addr) (l c : Nat) (h : 32 ≤ l) (w : World) : (Instr.arrayAt 57 (.slice (some ad) l c)).run Try.prog w = .ok (.pointer (some ad)) w := by
  have hn : ¬ l < 32 := by omega
  simp only [Instr.arrayAt, Sem.run_bind, run_underlying und_mag, Result.andThen_ok, if_neg hn, Sem.run_pure]
theorem yl_eq (N M : Nat) {ops : Array Oper} {S : World → Prop} {o : Oper} {a : Act} (hw : Region.wanted o (yielded ops a.tmps) = true) (x y : Operand) (t : TypeId) (ho : o.op = .binOp .eql 57 x y t) (hx : a.eval x = .agg (Bg.row 32 N)) (hy : a.eval y = .agg (Bg.row 32 M)) (hN : N < Bg.lim) (hM : M < Bg.lim) :
    YieldsIf Try.prog ops S o (.bool (decide (N = M))) a := by
  refine Or.inl ⟨hw, fun w _ => ?_⟩
  have hr := run_cmp_mag .eql N M hN hM x y w (.inl rfl)
  rw [if_pos rfl] at hr
  unfold execOp
  simp only [Sem.run_bind] at hr
  simp only [ho, hx, hy, Sem.run_bind, hr, Result.andThen_ok, Sem.run_pure]
theorem yl_mag (N : Nat) {ops : Array Oper} {S : World → Prop} {o : Oper} {a : Act} (hw : Region.wanted o (yielded ops a.tmps) = true) (x : Operand) (ho : o.op = .load 57 x) (b k : Nat) (hx : a.eval x = .pointer (some ⟨b, k, none⟩)) (hS : ∀ w, S w → w.rangeAt b k (Bg.lims 32 N)) :
    YieldsIf Try.prog ops S o (.agg (Bg.row 32 N)) a :=
  Bg.lims_row 32 N ▸ yieldsIf_load_mid hw _ x ho b k hx (Bg.lims 32 N) _ hS und_mag rfl (by rw [Bg.lims_length]; exact siz_mag)
set_option maxRecDepth 20000 in
set_option maxHeartbeats 1000000 in
theorem times_any (ba bb a b : Nat) (ha : a < Bg.lim) (hb : b < Bg.lim) (w : World) (hA : Blk w ba (Bg.row 32 a)) (hB : Blk w bb (Bg.row 32 b)) :
    Calls Try.prog 58 #[.pointer (some ⟨ba, 0, none⟩), .pointer (some ⟨bb, 0, none⟩)] w fun e w' => e = .returned (.tuple #[Bg.magV (a * b % Bg.lim), .bool (decide (a * b < Bg.lim))]) ∧ Below w.heap.size w w' := by
  have hz := Bg.zero32
  have hz2 := zero64
  have ha1 := hA.lt
  have hb1 := hB.lt
  have HA := Lib.hid hA
  have HB := Lib.hid hB
  have hna := Bg.used_le a
  have hnb := Bg.used_le b
  have HNA := Lib.hid (Bg.used_lt ha)
  have HNB := Lib.hid (Bg.used_lt hb)
  obtain ⟨w1, hw1⟩ : ∃ w1, w1 = (w.alloc (.cells (Bg.row 32 0) 57)).alloc (.cells (Bg.row 64 0) 81) := ⟨_, rfl⟩
  have HR := Lib.hid ((Blk.new w (Bg.row 32 0) 57).alloc (.cells (Bg.row 64 0) 81))
  have HC := Lib.hid (Blk.new (w.alloc (.cells (Bg.row 32 0) 57)) (Bg.row 64 0) 81)
  have HL := Lib.hid ((below_new w (.cells (Bg.row 32 0) 57)).alloc (by simp) (.cells (Bg.row 64 0) 81))
  rw [alloc_size] at HC
  rw [← hw1] at HR HC HL
  clear hA hB
  have HUA := Lib.hid (used_any ba a w1 (HA.out.below HL.out ha1))
  have HUB := Lib.hid (used_any bb b w1 (HB.out.below HL.out hb1))
  generalize Bg.used a = n at hna HNA HUA
  generalize Bg.used b = m at hnb HNB HUB
  go_enter Try.func58, Try.ntmps58
  go_wp2_with (first
    | (rw [← hw1]; go_at_call 67; refine HUA.out.mono ?_; rintro e w' ⟨rfl, rfl⟩; clear hw1)
    | (go_at_call 67; refine HUB.out.mono ?_; rintro e w' ⟨rfl, rfl⟩))
  go_loopw [18] (fun i wr => ∃ (k s : Nat), k ≤ n ∧ i = .int .i64 k ∧ Hid (Bg.MulSt a b m k s) ∧ Hid (Blk wr (w.heap.size + 1) (Bg.row 64 s)) ∧ Hid (Blk wr w.heap.size (Bg.row 32 0)) ∧ Hid (Below w.heap.size w wr)) (fun i _ => n - (intOf i).toNat)
  case atStart => exact ⟨0, 0, by omega, rfl, Lib.hid (Bg.MulSt.zero a b m), HC, HR, HL⟩
  case round =>
    clear HC HR HL HUA HUB
    obtain ⟨k, s, hk, rfl, HS, HC, HR, HL⟩ := hrel
    by_cases hlt : k < n
    · go_wp2_with fail
      go_loopw [10, 22] (fun c j wr => ∃ (l q t : Nat), l ≤ m ∧ j = .int .i64 l ∧ c = .int .u64 q ∧ Hid (Bg.RowSt a b m k l t q) ∧ Hid (Blk wr (w.heap.size + 1) (Bg.row 64 t)) ∧ Hid (Blk wr w.heap.size (Bg.row 32 0)) ∧ Hid (Below w.heap.size w wr)) (fun _ j _ => m - (intOf j).toNat)
      case atStart => exact ⟨0, 0, s, by omega, rfl, rfl, Lib.hid HS.out.row, HC, HR, HL⟩
      case round =>
        clear HC HR HL HS
        obtain ⟨l, q, t, hl, rfl, rfl, HS, HC, HR, HL⟩ := hrel
        have hq := HS.out.le
        by_cases hlm : l < m
        · have hk32 : k < 32 := by omega
          have hl32 : l < 32 := by omega
          have hca := (HA.out.below HL.out ha1).limb hk32
          have hcb := (HB.out.below HL.out hb1).limb hl32
          have hkl : k + l < 64 := by omega
          have hcc := HC.out.limb hkl
          have hf := HC.out.free (k + l)
          have HY := Lib.hid (HS.out.step hlm)
          have hx := Bg.limb_lt a k
          have hy := Bg.limb_lt b l
          have hz := Bg.limb_lt t (k + l)
          have HP := Lib.hid (HC.out.put (k + l) _ (Nat.mod_lt (Bg.col (Bg.limb a k) (Bg.limb b l) (Bg.limb t (k + l)) q) (show 4294967296 > 0 by decide)))
          generalize Bg.limb a k = x at hca hx HY HP
          generalize Bg.limb b l = y at hcb hy HY HP
          generalize Bg.limb t (k + l) = z at hcc hz HY HP
          have hxy := Bg.col_mul hx hy
          have h1 : x * y < 18446744073709551616 := by omega
          have h2 : x * y + z < 18446744073709551616 := by omega
          have h3 : x * y + z + q < 18446744073709551616 := by omega
          have hi1 : (k : Int) + l < 64 := by omega
          have hi2 : (0 : Int) ≤ (k : Int) + l := by omega
          go_wp2_with fail
          go_quiet (fail)
          go_wp2_with fail
          go_roundw
          case rel => exact ⟨l + 1, _, _, by omega, by go_num, rfl, HY, Lib.hid (HP.out.drewN _), Lib.hid ((HR.out.far (p := ⟨w.heap.size + 1, k + l, none⟩) (by simp) _).drewN _), Lib.hid (below_drewN (HL.out.setCell (p := ⟨w.heap.size + 1, k + l, none⟩) (by simp) _) _)⟩
          case measure => simp [intOf]; omega
        · obtain rfl : l = m := by omega
          have hkl : k + l < 64 := by omega
          have hcc := HC.out.limb hkl
          have hf := HC.out.free (k + l)
          have HY := Lib.hid (HS.out.done HNB.out)
          have HP := Lib.hid (HC.out.put (k + l) q hq)
          have hi1 : (k : Int) + l < 64 := by omega
          have hi2 : (0 : Int) ≤ (k : Int) + l := by omega
          go_wp2_with fail
          go_roundw
          case rel => exact ⟨k + 1, _, by omega, by go_num, HY, HP, Lib.hid (HR.out.far (p := ⟨w.heap.size + 1, k + l, none⟩) (by simp) _), Lib.hid (HL.out.setCell (p := ⟨w.heap.size + 1, k + l, none⟩) (by simp) _)⟩
          case measure => simp [intOf]; omega
    · obtain rfl : k = n := by omega
      have HD := HS.out.done HNA.out
      subst HD
      have har1 := arr_mag ⟨w.heap.size + 1, 0, none⟩ 32 64 (by decide)
      have har2 := arr_mag ⟨w.heap.size + 1, 32, none⟩ 32 32 (by decide)
      have hs2 := Bg.row_size 32 0
      have hlt2 := Bg.mul_fits ha hb
      go_wp2_with fail
      refine wp_region_held_drew (S := fun w' => Blk w' (w.heap.size + 1) (Bg.row 64 (a * b))) (by kernel_rfl) HC.out.drew (fun hHeld => ?_)
      refine take_h (i := 0) (v := ?v1) rfl rfl (by kernel_rfl) (by kernel_rfl) (by kernel_rfl) (fun _ _ _ h => h) (Or.inl ⟨by rfl, ?hy1⟩) (by assumption) ?rest1
      case hy1 => (intro w hSw; (try dsimp only at hSw); go_simp; all_goals with_reducible rfl)
      try simp only [List.setIfInBounds_toArray, List.set_cons_zero, List.set_cons_succ]
      refine take_h (i := 1) (v := ?v2) rfl rfl (by kernel_rfl) (by kernel_rfl) (by kernel_rfl) (fun _ _ _ h => h) (Or.inl ⟨by rfl, ?hy2⟩) (by assumption) ?rest2
      case hy2 => (intro w hSw; (try dsimp only at hSw); go_simp; all_goals with_reducible rfl)
      try simp only [List.setIfInBounds_toArray, List.set_cons_zero, List.set_cons_succ]
      refine take_h (i := 2) (v := .agg (Bg.row 32 (a * b % Bg.lim))) rfl rfl (by kernel_rfl) (by kernel_rfl) (by kernel_rfl) (fun _ _ _ h => h) ?hy3 (by assumption) ?rest3
      case hy3 => exact yl_mag (a * b % Bg.lim) (by rfl) _ rfl _ _ rfl (fun w' h => Blk.low64 h)
      try simp only [List.setIfInBounds_toArray, List.set_cons_zero, List.set_cons_succ]
      refine take_h (i := 3) (v := ?v4) rfl rfl (by kernel_rfl) (by kernel_rfl) (by kernel_rfl) (fun _ _ _ h => h) (Or.inl ⟨by rfl, ?hy4⟩) (by assumption) ?rest4
      case hy4 => (intro w hSw; (try dsimp only at hSw); go_simp; all_goals with_reducible rfl)
      try simp only [List.setIfInBounds_toArray, List.set_cons_zero, List.set_cons_succ]
      refine take_h (i := 4) (v := ?v5) rfl rfl (by kernel_rfl) (by kernel_rfl) (by kernel_rfl) (fun _ _ _ h => h) (Or.inl ⟨by rfl, ?hy5⟩) (by assumption) ?rest5
      case hy5 => (intro w hSw; (try dsimp only at hSw); go_simp; all_goals with_reducible rfl)
      try simp only [List.setIfInBounds_toArray, List.set_cons_zero, List.set_cons_succ]
      refine take_h (i := 5) (v := .agg (Bg.row 32 (a * b / Bg.lim))) rfl rfl (by kernel_rfl) (by kernel_rfl) (by kernel_rfl) (fun _ _ _ h => h) ?hy6 (by assumption) ?rest6
      case hy6 => exact yl_mag (a * b / Bg.lim) (by rfl) _ rfl _ _ rfl (fun w' h => Blk.high64 h)
      try simp only [List.setIfInBounds_toArray, List.set_cons_zero, List.set_cons_succ]
      refine take_h (i := 6) (v := ?v7) rfl rfl (by kernel_rfl) (by kernel_rfl) (by kernel_rfl) (fun _ _ _ h => h) (Or.inl ⟨by rfl, ?hy7⟩) (by assumption) ?rest7
      case hy7 => (intro w hSw; (try dsimp only at hSw); go_simp; all_goals with_reducible rfl)
      try simp only [List.setIfInBounds_toArray, List.set_cons_zero, List.set_cons_succ]
      obtain ⟨fit, hfit⟩ : ∃ fit, fit = decide (a * b / Bg.lim = 0) := ⟨_, rfl⟩
      have HFIT := Lib.hid hfit
      clear hfit
      refine take_h (i := 7) (v := .bool fit) rfl rfl (by kernel_rfl) (by kernel_rfl) (by kernel_rfl) (fun _ _ _ h => h) ?hy8 (by assumption) ?rest8
      case hy8 =>
        rw [HFIT.out]; exact yl_eq (a * b / Bg.lim) 0 (by rfl) _ _ _ rfl rfl rfl hlt2 (Bg.ppos 32)
      try simp only [List.setIfInBounds_toArray, List.set_cons_zero, List.set_cons_succ]
      refine store_h (i := 8) (a * b % Bg.lim) _ (by kernel_rfl) rfl rfl (by rfl) _ _ rfl w.heap.size rfl rfl HR.out.drew hs2 (HC.out.drew.farRow (g := w.heap.size) (by omega) _) ?_
      have HF := Lib.hid (HR.out.drew.setRow (Bg.row 32 (a * b % Bg.lim)))
      have HG := Lib.hid (below_setRow HL.out.drew (g := w.heap.size) (Nat.le_refl _) (Bg.row 32 (a * b % Bg.lim)))
      have hHeld2 : Blk (wr.drew.setRow w.heap.size (Bg.row 32 (a * b % Bg.lim))) (w.heap.size + 1) (Bg.row 64 (a * b)) := HC.out.drew.farRow (g := w.heap.size) (by omega) _
      generalize wr.drew.setRow w.heap.size (Bg.row 32 (a * b % Bg.lim)) = w3 at HF HG hHeld2 ⊢
      refine take_h (i := 9) (v := ?v9) rfl rfl (by kernel_rfl) (by kernel_rfl) (by kernel_rfl) (fun _ _ _ h => h) (Or.inl ⟨by rfl, ?hy9⟩) hHeld2 ?rest9
      case hy9 => (intro w hSw; (try dsimp only at hSw); go_simp; all_goals with_reducible rfl)
      refine wpAnyH_done (by kernel_rfl) ?_ _
      try simp only [List.setIfInBounds_toArray, List.set_cons_zero, List.set_cons_succ]
      go_wp2_with fail
      refine bodyPost_ret (res_cell_tmp rfl _ rfl (lv_mag HF.out)) rfl ⟨?_, HG.out⟩
      rw [show decide (a * b < Bg.lim) = decide (a * b / Bg.lim = 0) from by simp only [Bg.div_zero], ← HFIT.out]
      rfl
end Go.Proofs.Ytbkbfgedlfbbiaa
