/- The law package's sanity check returns true. -/
import Derived.Test.YtaokneooejbfkaaCalJ
import Derived.Test.YtaokneooejbfkaaKnownMath
namespace Go.Proofs.Ytaokneooejbfkaa
set_option maxRecDepth 8000
open Go.RowKit Go.Maps
theorem knk_add {d n x : Int} (hd : Dt.isDay d = true) (h : Cl.addO Cl.kK Cl.kH d n = some x) (hn0 : -9223372036854775808 ≤ n) (hn1 : n ≤ 9223372036854775807) (A : Option Addr) (w : World) (hA : IntsAt w A Cl.kH) :
    Calls Try.prog 22 #[.agg #[.string { data := #[99] }, .bool false, .bool false, .bool false, .bool false, .bool false, .bool true, .bool true, .slice A 2 2], .int .i64 d, .int .i64 n] w fun e w' => e = .returned (.tuple #[.int .i64 x, .int .i64 0]) ∧ Below w.heap.size w w' := by
  have g := add_any Cl.kN Cl.kK A Cl.kH 2 d n w hA (by decide) hn0 hn1
  rw [(Cl.kE hd h).1, (Cl.kE hd h).2] at g
  exact g
theorem knk_count (A : Option Addr) (w : World) (hA : IntsAt w A Cl.kH) :
    Calls Try.prog 23 #[.agg #[.string { data := #[99] }, .bool false, .bool false, .bool false, .bool false, .bool false, .bool true, .bool true, .slice A 2 2], .int .i64 9494, .int .i64 9501] w fun e w' => e = .returned (.tuple #[.int .i64 4, .int .i64 0]) ∧ Below w.heap.size w w' := by
  have g := count_any Cl.kN Cl.kK A Cl.kH 2 9494 9501 w hA (by decide)
  rw [Cl.kC.1, Cl.kC.2] at g
  exact g
theorem knk_adj (A : Option Addr) (w : World) (hA : IntsAt w A Cl.kH) :
    Calls Try.prog 24 #[.agg #[.string { data := #[99] }, .bool false, .bool false, .bool false, .bool false, .bool false, .bool true, .bool true, .slice A 2 2], .int .i64 9527, .int .i64 3] w fun e w' => e = .returned (.tuple #[.int .i64 9526, .int .i64 0]) ∧ Below w.heap.size w w' := by
  have g := adj_ok Cl.kN Cl.kK A Cl.kH 2 9527 3 w hA Cl.kV (by decide) (by omega) (by omega)
  rw [Cl.kJ] at g
  exact g
set_option maxHeartbeats 1000000 in
theorem known_any (w : World) :
    Calls Try.prog 12 #[] w fun e w' => e = .returned (.bool true) ∧ Below w.heap.size w w' := by
  have HA := Lib.hid ((ints_two w 9497 9855 3 w.heap.size rfl).alloc (.cells #[.string { data := #[99] }, .bool false, .bool false, .bool false, .bool false, .bool false, .bool true, .bool true, .slice (some { block := w.heap.size, off := 0 }) 2 2] 25))
  have HB0 : Hid (Below w.heap.size w ((w.alloc (.cells #[.int .i64 9497, .int .i64 9855] 3)).alloc (.cells #[.string { data := #[99] }, .bool false, .bool false, .bool false, .bool false, .bool false, .bool true, .bool true, .slice (some { block := w.heap.size, off := 0 }) 2 2] 25))) := Lib.hid ((below_new _ _).alloc (by simp) _)
  go_enter Try.func12, Try.ntmps12
  go_wp2_with fail
  refine (knk_add (x := 9498) (by decide) Cl.kA1 (by omega) (by omega) (some ⟨w.heap.size, 0, none⟩) _ HA.out).mono ?_
  rintro e w1 ⟨rfl, hb⟩
  have HB1 := Lib.hid hb
  obtain ⟨hc, hf⟩ := bcell hb
  clear hb
  go_wp2_with fail
  refine (knk_add (x := 9501) (by decide) Cl.kA2 (by omega) (by omega) (some ⟨w.heap.size, 0, none⟩) _ (HA.out.below HB1.out)).mono ?_
  rintro e w2 ⟨rfl, hb⟩
  have HB2 := Lib.hid (HB1.out.trans (hb.mono HB1.out.size))
  clear hb hc hf
  obtain ⟨hc, hf⟩ := bcell HB2.out
  go_wp2_with fail
  refine (knk_count (some ⟨w.heap.size, 0, none⟩) _ (HA.out.below HB2.out)).mono ?_
  rintro e w3 ⟨rfl, hb⟩
  have HB3 := Lib.hid (HB2.out.trans (hb.mono HB2.out.size))
  clear hb hc hf
  obtain ⟨hc, hf⟩ := bcell HB3.out
  go_wp2_with fail
  refine (knk_adj (some ⟨w.heap.size, 0, none⟩) _ (HA.out.below HB3.out)).mono ?_
  rintro e w4 ⟨rfl, hb⟩
  have HB4 := Lib.hid (HB3.out.trans (hb.mono HB3.out.size))
  clear hb hc hf
  go_wp2
  go_ret
  exact ⟨by simp, bup HB0.out HB4.out (by simp; omega)⟩
end Go.Proofs.Ytaokneooejbfkaa
