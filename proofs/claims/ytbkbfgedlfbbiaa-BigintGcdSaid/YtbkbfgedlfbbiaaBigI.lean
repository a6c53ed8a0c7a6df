/- bigint's Sub, Mul, Sign. -/
import Derived.Test.YtbkbfgedlfbbiaaBigH
namespace Go.Proofs.Ytbkbfgedlfbbiaa
open Go.RowKit
theorem neg_as (t : Bool) (N : Nat) (y : Int) (hN : N < Bg.lim) (h : Hid (y = -Bg.toZ t N)) (w : World) :
    Calls Try.prog 25 #[.agg (Bg.intA t N)] w fun e w' => e = .returned (.agg (Bg.intA (decide (y < 0)) y.natAbs)) ∧ Below w.heap.size w w' := by
  have := neg_any t N hN w
  unfold Bg.intV Bg.iv Bg.zA at this
  rw [h.out]
  exact this
theorem Bg.toZ_iv (z : Int) : Bg.toZ (decide (z < 0)) z.natAbs = z := by
  unfold Bg.toZ
  by_cases h : z < 0
  · simp [h]; omega
  · simp [h]; omega
def Bg.resZ (z : Int) : Int := if z.natAbs < Bg.lim then z else 0
def Bg.resE (z : Int) : Int := if z.natAbs < Bg.lim then 0 else 10
theorem Bg.resV_eq (z : Int) : Bg.resV z = .tuple #[.agg (Bg.zA (Bg.resZ z)), .int .i64 (Bg.resE z)] := by
  unfold Bg.resV Bg.resZ Bg.resE
  by_cases h : z.natAbs < Bg.lim
  · simp only [if_pos h]; rfl
  · simp only [if_neg h]; rfl
theorem add_as (s t : Bool) (M N : Nat) (z v e : Int) (hM : M < Bg.lim) (hN : N < Bg.lim) (hzz : Hid (z = Bg.toZ s M + Bg.toZ t N)) (hv : Hid (v = Bg.resZ z)) (he : Hid (e = Bg.resE z)) (w : World) :
    Calls Try.prog 28 #[.agg (Bg.intA s M), .agg (Bg.intA t N)] w fun r w' => r = .returned (.tuple #[.agg (Bg.zA v), .int .i64 e]) ∧ Below w.heap.size w w' := by
  rw [hv.out, he.out, ← Bg.resV_eq]; exact add_any0 s t M N hM hN z hzz w
theorem neg_var (t s1 : Bool) (N N1 : Nat) (y : Int) (hN : N < Bg.lim) (h : Hid (y = -Bg.toZ t N)) (h1 : Hid (s1 = decide (y < 0))) (h2 : Hid (N1 = y.natAbs)) (w : World) :
    Calls Try.prog 25 #[.agg (Bg.intA t N)] w fun e w' => e = .returned (.agg (Bg.intA s1 N1)) ∧ Below w.heap.size w w' := by
  rw [h1.out, h2.out]; exact neg_as t N y hN h w
theorem yl_int (s : Bool) (N : Nat) {ops : Array Oper} {S : World → Prop} {o : Oper} {a : Act} (hw : Region.wanted o (yielded ops a.tmps) = true) (x : Operand) (ho : o.op = .load 25 x) (b : Nat) (hx : a.eval x = .pointer (some ⟨b, 0, none⟩)) (hS : ∀ w, S w → Blk w b (Bg.intA s N)) :
    YieldsIf Try.prog ops S o (.agg (Bg.intA s N)) a := by
  obtain ⟨fs, hu⟩ := und_int
  have := yieldsIf_load_mid (S := S) hw _ x ho b 0 hx (Bg.intA s N).toList _ (fun w h => (hS w h).range) hu rfl (by rw [Array.length_toList, Bg.intA_size]; exact siz_int)
  rwa [Array.toArray_toList] at this
theorem store_hz (z : Int) (c : Array Value) {md : Region.Mode} {ops : Array Oper} {Q : Exit → Act → World → Prop} {S : World → Prop} {i : Nat} {oi : Oper} {fuel : Nat} {listed : Array Bool} {a : Act} {w : World} (hr : Region.ready md ops listed = [i]) (hi : ops[i]? = some oi) (hd : oi.dst = none)
    (hw : Region.wanted oi (yielded ops a.tmps) = true) (x y : Operand) (ho : oi.op = .store 25 x y) (b : Nat) (hx : a.eval x = .pointer (some ⟨b, 0, none⟩)) (hy : a.eval y = .agg (Bg.zA z)) (hb : Blk w b c) (hc : c.size = 33) (hS : S (w.setRow b (Bg.zA z)))
    (h : wpAnyH Try.prog md ops Q S fuel (listed.setIfInBounds i true) a (w.setRow b (Bg.zA z))) : wpAnyH Try.prog md ops Q S (fuel + 1) listed a w := by
  obtain ⟨t, hb⟩ := hb
  have e : Bg.zA z = Bg.intA (decide (z < 0)) z.natAbs := by unfold Bg.zA; rfl
  rw [e] at hy hS h
  refine wpAnyH_ready hr (by simp) (AllReadyH.cons hi (fun K hK => ?_) AllReadyH.nil)
  rw [if_pos hw]
  refine wp_store_row _ x y ho b _ hx hy t _ hb (by rw [Bg.intA_size]; exact siz_int) (by rw [Bg.intA_size, hc]) (Bg.intA_one _ _) ?_
  rw [hd]
  exact hK.out _ _ hS (fun _ => h)
/-- A call in a region that draws: its value, and nothing below has turned. -/
theorem call_h {P : Program} {md : Region.Mode} {ops : Array Oper} {Q : Exit → Act → World → Prop} {S : World → Prop} {i : Nat} {oi : Oper} {d : Tmp} {fuel : Nat} {listed : Array Bool} {a : Act} {w : World} (v : Value) (hr : Region.ready md ops listed = [i]) (hi : ops[i]? = some oi) (hd : oi.dst = some d)
    (hw : Region.wanted oi (yielded ops a.tmps) = true) (f : FuncId) (args : Array Value) (he : ∀ w, (execOp a.eval oi).run P w = .ok (.enter f args) w) (hc : Calls P f args w fun e w' => e = .returned v ∧ Below w.heap.size w w')
    (hS : ∀ w', Below w.heap.size w w' → S w') (h : ∀ w', Below w.heap.size w w' → wpAnyH P md ops Q S fuel (listed.setIfInBounds i true) { a with tmps := a.tmps.setIfInBounds d v } w') : wpAnyH P md ops Q S (fuel + 1) listed a w := by
  refine wpAnyH_ready hr (by simp) (AllReadyH.cons hi (fun K hK => ?_) AllReadyH.nil)
  rw [if_pos hw]
  unfold Oper.wp
  rw [he]
  rw [Oper.upon_enter]
  refine hc.mono ?_
  rintro e w' ⟨rfl, hb⟩
  rw [hd]
  exact hK.out _ _ (hS w' hb) (fun _ => h w' hb)
set_option maxRecDepth 20000 in
set_option maxHeartbeats 1000000 in
theorem sub_any0 (s t : Bool) (M N : Nat) (hM : M < Bg.lim) (hN : N < Bg.lim) (z : Int) (hzz : Hid (z = Bg.toZ s M - Bg.toZ t N)) (w : World) :
    Calls Try.prog 29 #[.agg (Bg.intA s M), .agg (Bg.intA t N)] w fun e w' => e = .returned (Bg.resV z) ∧ Below w.heap.size w w' := by
  have hz := Bg.zero32
  have hzi := Bg.zeroInt
  have hs2 := Bg.intA_size false 0
  obtain ⟨w1, hw1⟩ : ∃ w1, w1 = ((w.alloc (.cells (Bg.intA s M) 25)).alloc (.cells (Bg.intA t N) 25)).alloc (.cells (Bg.intA false 0) 25) := ⟨_, rfl⟩
  have HO0 := own3 w (Bg.intA s M) (Bg.intA t N) (Bg.intA false 0) 25 25 25
  rw [← hw1] at HO0
  have HO := Lib.hid HO0
  clear HO0
  obtain ⟨y, hy⟩ : ∃ y, Hid (y = -Bg.toZ t N) := ⟨_, rfl⟩
  obtain ⟨s2, hs2y⟩ : ∃ s2, Hid (s2 = decide (y < 0)) := ⟨_, rfl⟩
  obtain ⟨N2, hN2y⟩ : ∃ N2, Hid (N2 = y.natAbs) := ⟨_, rfl⟩
  have hyl : N2 < Bg.lim := by rw [hN2y.out, hy.out, Int.natAbs_neg, Bg.toZ_abs]; exact hN
  have hzy : Hid (z = Bg.toZ s M + Bg.toZ s2 N2) := Lib.hid (by rw [hzz.out, hs2y.out, hN2y.out, Bg.toZ_iv, hy.out]; rfl)
  obtain ⟨v, hv⟩ : ∃ v, Hid (v = Bg.resZ z) := ⟨_, rfl⟩
  obtain ⟨r, hr⟩ : ∃ r, Hid (r = Bg.resE z) := ⟨_, rfl⟩
  go_enter Try.func29, Try.ntmps29
  go_wp2_with fail
  rw [← hw1]
  clear hw1
  have HD : Own w w1.drew _ := ⟨HO.out.1.drew, HO.out.2⟩
  refine wp_region_held_drew (S := fun w' => Own w w' [(w.heap.size + 1, Bg.intA t N), (w.heap.size, Bg.intA s M)]) (by kernel_rfl) ⟨HD.1, fun p hp => HD.2 p (by simp at hp ⊢; rcases hp with h | h <;> simp [h])⟩ (fun hHeld => ?_)
  refine take_h (i := 0) (v := .agg (Bg.intA s M)) rfl rfl (by kernel_rfl) (by kernel_rfl) (by kernel_rfl) (fun _ _ _ h => h) ?hy1 hHeld ?rest1
  case hy1 => exact yl_int s M (by rfl) _ rfl _ rfl (fun w' h => h.get (by simp))
  try simp only [List.setIfInBounds_toArray, List.set_cons_zero, List.set_cons_succ]
  refine take_h (i := 1) (v := .agg (Bg.intA t N)) rfl rfl (by kernel_rfl) (by kernel_rfl) (by kernel_rfl) (fun _ _ _ h => h) ?hy2 hHeld ?rest2
  case hy2 => exact yl_int t N (by rfl) _ rfl _ rfl (fun w' h => h.get (by simp))
  try simp only [List.setIfInBounds_toArray, List.set_cons_zero, List.set_cons_succ]
  refine call_h (i := 2) (.agg (Bg.intA s2 N2)) (by kernel_rfl) rfl rfl (by rfl) 25 #[.agg (Bg.intA t N)] (by intro w; go_simp) (neg_var t s2 N N2 y hN hy hs2y hN2y _) (fun w' hb => hHeld.call hb) (fun w2 hb => ?_)
  have HD2 := HD.call hb
  have hHeld2 := hHeld.call hb
  try simp only [List.setIfInBounds_toArray, List.set_cons_zero, List.set_cons_succ]
  refine call_h (i := 3) (.tuple #[.agg (Bg.zA v), .int .i64 r]) (by kernel_rfl) rfl rfl (by rfl) 28 #[.agg (Bg.intA s M), .agg (Bg.intA s2 N2)] (by intro w; go_simp) (add_as s s2 M N2 z v r hM hyl hzy hv hr _) (fun w' hb => hHeld2.call hb) (fun w3 hb2 => ?_)
  have HD3 := HD2.call hb2
  have hHeld3 := hHeld2.call hb2
  try simp only [List.setIfInBounds_toArray, List.set_cons_zero, List.set_cons_succ]
  refine take_h (i := 4) (v := .agg (Bg.zA v)) rfl rfl (by kernel_rfl) (by kernel_rfl) (by kernel_rfl) (fun _ _ _ h => h) (Or.inl ⟨by rfl, ?hy5⟩) hHeld3 ?rest5
  case hy5 => (intro w hSw; go_simp)
  try simp only [List.setIfInBounds_toArray, List.set_cons_zero, List.set_cons_succ]
  refine take_h (i := 5) (v := .int .i64 r) rfl rfl (by kernel_rfl) (by kernel_rfl) (by kernel_rfl) (fun _ _ _ h => h) (Or.inl ⟨by rfl, ?hy6⟩) hHeld3 ?rest6
  case hy6 => (intro w hSw; go_simp)
  try simp only [List.setIfInBounds_toArray, List.set_cons_zero, List.set_cons_succ]
  have hSt : Own w (w3.setRow (w.heap.size + 2) (Bg.zA v)) [(w.heap.size + 1, Bg.intA t N), (w.heap.size, Bg.intA s M)] := by
    refine ⟨below_setRow HD3.1 (by omega) _, fun p hp => ?_⟩
    simp at hp
    rcases hp with rfl | rfl
    · exact (hHeld3.get (by simp)).farRow (by simp) _
    · exact (hHeld3.get (by simp)).farRow (by simp) _
  have HR := Lib.hid (HD3.fin (b := w.heap.size + 2) (c := Bg.intA false 0) (by simp) (by omega) (Bg.zA v))
  refine store_hz (i := 6) v (Bg.intA false 0) (by kernel_rfl) rfl rfl (by rfl) _ _ rfl (w.heap.size + 2) rfl rfl (HD3.get (by simp)) hs2 hSt ?_
  generalize w3.setRow (w.heap.size + 2) (Bg.zA v) = w4 at HR hSt ⊢
  refine take_h (i := 7) (v := .int .i64 r) rfl rfl (by kernel_rfl) (by kernel_rfl) (by kernel_rfl) (fun _ _ _ h => h) (Or.inl ⟨by rfl, ?hy8⟩) hSt ?rest8
  case hy8 => (intro w hSw; go_simp)
  refine wpAnyH_done (by kernel_rfl) ?_ _
  try simp only [List.setIfInBounds_toArray, List.set_cons_zero, List.set_cons_succ]
  go_wp2_with fail
  refine bodyPost_ret (res_cell_tmp rfl _ rfl (lv_z HR.out.1)) rfl ⟨?_, HR.out.2⟩
  rw [Bg.resV_eq, ← hv.out, ← hr.out]
  rfl
end Go.Proofs.Ytbkbfgedlfbbiaa
