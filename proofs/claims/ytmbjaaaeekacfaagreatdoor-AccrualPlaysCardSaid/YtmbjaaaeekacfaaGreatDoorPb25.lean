/- Walks, and plain facts for them. -/
import Derived.Lib.SlicesS
import Derived.Test.YtmbjaaaeekacfaaGreatDoorPb09
import Derived.Test.YtmbjaaaeekacfaaGreatDoorPb24
namespace Go.Proofs.YtmbjaaaeekacfaaGreatDoor
set_option maxRecDepth 8000
open Go.RowKit
theorem za_words : ZA 94 #[.string { data := #[] }, .string { data := #[] }, .string { data := #[] }, .string { data := #[] }] := ⟨.agg #[.string { data := #[] }, .string { data := #[] }, .string { data := #[] }, .string { data := #[] }], rfl, fun w => by kernel_rfl⟩
theorem sa_words : SA 94 #[.string { data := #[] }, .string { data := #[] }, .string { data := #[] }, .string { data := #[] }] 0 (.agg #[.string { data := #[97, 99, 116, 51, 54, 48] }, .string { data := #[97, 99, 116, 51, 54, 53] }, .string { data := #[97, 99, 116, 97, 99, 116] }, .string { data := #[116, 104, 105, 114, 116, 121, 51, 54, 48] }]) #[.string { data := #[97, 99, 116, 51, 54, 48] }, .string { data := #[97, 99, 116, 51, 54, 53] }, .string { data := #[97, 99, 116, 97, 99, 116] }, .string { data := #[116, 104, 105, 114, 116, 121, 51, 54, 48] }] := SA.whole (by kernel_rfl) (by simp [Value.oneCell']) rfl
theorem la_words : LA 94 #[.string { data := #[97, 99, 116, 51, 54, 48] }, .string { data := #[97, 99, 116, 51, 54, 53] }, .string { data := #[97, 99, 116, 97, 99, 116] }, .string { data := #[116, 104, 105, 114, 116, 121, 51, 54, 48] }] 0 (.agg #[.string { data := #[97, 99, 116, 51, 54, 48] }, .string { data := #[97, 99, 116, 51, 54, 53] }, .string { data := #[97, 99, 116, 97, 99, 116] }, .string { data := #[116, 104, 105, 114, 116, 121, 51, 54, 48] }]) := LA.whole (by kernel_rfl) (by kernel_rfl)
theorem words_any (w : World) : Calls Tryz.prog 72 #[] w fun e w' => e = .returned (.agg #[.string { data := #[97, 99, 116, 51, 54, 48] }, .string { data := #[97, 99, 116, 51, 54, 53] }, .string { data := #[97, 99, 116, 97, 99, 116] }, .string { data := #[116, 104, 105, 114, 116, 121, 51, 54, 48] }]) ∧ Below w.heap.size w w' := by
 have HM := Mem.start w
 have h1 := za_words
 have h2 := sa_words
 go_enter Tryz.func72, Tryz.ntmps72
 go_wp2_with (first | ((with_reducible refine g_st ?_); refine a_st HM ?_; clear HM; intro w1 HM) | ((with_reducible refine g_al ?_); refine a_al HM ?_; clear HM; intro bk w1 HM) | ((with_reducible refine g_bld ?_); refine a_bld ?_))
 refine bodyPost_ret (r_c rfl rfl (HM.get (by ((repeat (first | exact Look.here | refine Look.there ?_)); done))) la_words) rfl ⟨rfl, HM.low⟩
theorem ix_w0 (w : World) : (Instr.index 94 (.agg #[.string { data := #[97, 99, 116, 51, 54, 48] }, .string { data := #[97, 99, 116, 51, 54, 53] }, .string { data := #[97, 99, 116, 97, 99, 116] }, .string { data := #[116, 104, 105, 114, 116, 121, 51, 54, 48] }]) (.int .i64 0)).run Tryz.prog w = .ok (.string { data := #[97, 99, 116, 51, 54, 48] }) w := by kernel_rfl
theorem ix_w1 (w : World) : (Instr.index 94 (.agg #[.string { data := #[97, 99, 116, 51, 54, 48] }, .string { data := #[97, 99, 116, 51, 54, 53] }, .string { data := #[97, 99, 116, 97, 99, 116] }, .string { data := #[116, 104, 105, 114, 116, 121, 51, 54, 48] }]) (.int .i64 1)).run Tryz.prog w = .ok (.string { data := #[97, 99, 116, 51, 54, 53] }) w := by kernel_rfl
theorem ix_w2 (w : World) : (Instr.index 94 (.agg #[.string { data := #[97, 99, 116, 51, 54, 48] }, .string { data := #[97, 99, 116, 51, 54, 53] }, .string { data := #[97, 99, 116, 97, 99, 116] }, .string { data := #[116, 104, 105, 114, 116, 121, 51, 54, 48] }]) (.int .i64 2)).run Tryz.prog w = .ok (.string { data := #[97, 99, 116, 97, 99, 116] }) w := by kernel_rfl
theorem ix_w3 (w : World) : (Instr.index 94 (.agg #[.string { data := #[97, 99, 116, 51, 54, 48] }, .string { data := #[97, 99, 116, 51, 54, 53] }, .string { data := #[97, 99, 116, 97, 99, 116] }, .string { data := #[116, 104, 105, 114, 116, 121, 51, 54, 48] }]) (.int .i64 3)).run Tryz.prog w = .ok (.string { data := #[116, 104, 105, 114, 116, 121, 51, 54, 48] }) w := by kernel_rfl
def Dy.word (b : Int) : ByteArray := if b = 1 then { data := #[97, 99, 116, 51, 54, 48] } else if b = 2 then { data := #[97, 99, 116, 51, 54, 53] } else if b = 3 then { data := #[97, 99, 116, 97, 99, 116] } else if b = 4 then { data := #[116, 104, 105, 114, 116, 121, 51, 54, 48] } else { data := #[] }
def Dy.werr (b : Int) : Int := if b < 1 ∨ 4 < b then 60 else 0
theorem format_any (b : Int) (w : World) : Calls Tryz.prog 37 #[.int .i64 b] w fun e w' => e = .returned (.tuple #[.string (Dy.word b), .int .i64 (Dy.werr b)]) ∧ Below w.heap.size w w' := by
 have HM := Mem.start w
 by_cases h1 : b < 1
 ·have e1 : Dy.word b = { data := #[] } := by unfold Dy.word; rw [if_neg (by omega), if_neg (by omega), if_neg (by omega), if_neg (by omega)]
  have e2 : Dy.werr b = 60 := by unfold Dy.werr; rw [if_pos (.inl h1)]
  rw [e1, e2]
  clear e1 e2
  go_enter Tryz.func37, Tryz.ntmps37
  go_wp2_with fail
  go_ret2
  exact ⟨rfl, HM.low⟩
 by_cases h2 : 4 < b
 ·have e1 : Dy.word b = { data := #[] } := by unfold Dy.word; rw [if_neg (by omega), if_neg (by omega), if_neg (by omega), if_neg (by omega)]
  have e2 : Dy.werr b = 60 := by unfold Dy.werr; rw [if_pos (.inr h2)]
  rw [e1, e2]
  clear e1 e2
  go_enter Tryz.func37, Tryz.ntmps37
  go_wp2_with fail
  go_ret2
  exact ⟨rfl, HM.low⟩
 have hb : b = 1 ∨ b = 2 ∨ b = 3 ∨ b = 4 := by omega
 clear h1 h2
 have i0 := ix_w0
 have i1 := ix_w1
 have i2 := ix_w2
 have i3 := ix_w3
 rcases hb with rfl | rfl | rfl | rfl
 all_goals
  go_enter Tryz.func37, Tryz.ntmps37
  go_wp2_with (first | (go_at_call 72; ((with_reducible refine (words_any _).mono ?_); rintro e9 w2 ⟨rfl, hL⟩; replace HM := HM.call hL; clear hL)) | fail)
  go_ret2
  exact ⟨rfl, HM.low⟩
theorem rword_any (b : Int) (w : World) : Calls Tryz.prog 81 #[.int .i64 b] w fun e w' => e = .returned (.string (Dy.word b)) ∧ w = w' := by
 by_cases h1 : b = 1
 ·subst h1; go_enter Tryz.func81, Tryz.ntmps81; go_wp2; go_ret; exact ⟨rfl, rfl⟩
 by_cases h2 : b = 2
 ·subst h2; go_enter Tryz.func81, Tryz.ntmps81; go_wp2; go_ret; exact ⟨rfl, rfl⟩
 by_cases h3 : b = 3
 ·subst h3; go_enter Tryz.func81, Tryz.ntmps81; go_wp2; go_ret; exact ⟨rfl, rfl⟩
 by_cases h4 : b = 4
 ·subst h4; go_enter Tryz.func81, Tryz.ntmps81; go_wp2; go_ret; exact ⟨rfl, rfl⟩
 have e1 : Dy.word b = { data := #[] } := by unfold Dy.word; rw [if_neg (by omega), if_neg (by omega), if_neg (by omega), if_neg (by omega)]
 have a1 : ((b : Int) == 1) = false := by simpa using h1
 have a2 : ((b : Int) == 2) = false := by simpa using h2
 have a3 : ((b : Int) == 3) = false := by simpa using h3
 have a4 : ((b : Int) == 4) = false := by simpa using h4
 rw [e1]
 clear e1 h1 h2 h3 h4
 go_enter Tryz.func81, Tryz.ntmps81
 go_wp2
 go_ret
 exact ⟨rfl, rfl⟩
def Dy.prs (s : ByteArray) : Int × Int := if s = { data := #[97, 99, 116, 51, 54, 48] } then (1, 0) else if s = { data := #[97, 99, 116, 51, 54, 53] } then (2, 0) else if s = { data := #[97, 99, 116, 97, 99, 116] } then (3, 0) else if s = { data := #[116, 104, 105, 114, 116, 121, 51, 54, 48] } then (4, 0) else (0, 60)
end Go.Proofs.YtmbjaaaeekacfaaGreatDoor
