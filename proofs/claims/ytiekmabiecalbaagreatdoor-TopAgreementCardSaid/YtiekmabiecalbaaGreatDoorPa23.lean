/- Walks. -/
import Derived.Test.YtiekmabiecalbaaGreatDoorPa21
import Derived.Test.YtiekmabiecalbaaGreatDoorPa22
namespace Go.Proofs.YtiekmabiecalbaaGreatDoor
set_option maxHeartbeats 16000000
open Go.RowKit
set_option maxRecDepth 8000
set_option linter.unusedSimpArgs false
set_option linter.unusedVariables false
section
def Dt.t11 : ByteArray := { data := #[50, 48, 50, 54, 45, 48, 49, 45, 48, 49] }
theorem fromCivil_x (w : World) :
    Calls Tryz.prog 55 #[.int .i64 2026, .int .i64 1, .int .i64 1] w fun e w' => e = .returned (.tuple #[.int .i64 9497, .int .i64 0]) ∧ w = w' := by
 have LN := fun w => length_yes 2026 1 w Zd Zd Zd Zd ahead_c
 have YS := fun w => yearStart_any 2026 w Zd Zd
 have AH := fun w => ahead_c 2026 1 w Zd Zd Zd
 rw [show Dt.dim 2026 1 = 31 by decide] at LN
 rw [show Dt.dby 2026 = 9497 by decide] at YS
 rw [show Dt.cum 2026 1 = 0 by decide] at AH
 go_enter Tryz.func55, Tryz.ntmps55
 go_wp2_with (first | (go_at_call 96; refine (LN _).mono ?_; rintro e w' ⟨rfl, rfl⟩) | (go_at_call 97; refine (YS _).mono ?_; rintro e w' ⟨rfl, rfl⟩) | (go_at_call 98; refine (AH _).mono ?_; rintro e w' ⟨rfl, rfl⟩))
 go_ret2
 exact ⟨rfl, rfl⟩
theorem dparse_x (w : World) :
    Calls Tryz.prog 29 #[.string Dt.t11] w fun e w' => e = .returned (.tuple #[.int .i64 9497, .int .i64 0]) ∧ w = w' := by
 have N1 := fun w => number_x [2, 0, 2, 6] (by intro c hc; revert c; decide) Zd w
 have N2 := fun w => number_x [0, 1] (by intro c hc; revert c; decide) Zd w
 have N3 := N2
 rw [show Tx.val [2, 0, 2, 6] = 2026 by decide] at N1
 rw [show Tx.val [0, 1] = 1 by decide] at N2 N3
 rw [show Tx.str [2, 0, 2, 6] = Dt.t11.extract 0 4 by decide +kernel, show ((2026 : Nat) : Int) = 2026 from rfl] at N1
 rw [show Tx.str [0, 1] = Dt.t11.extract 5 7 by decide +kernel, show ((1 : Nat) : Int) = 1 from rfl] at N2
 rw [show Tx.str [0, 1] = Dt.t11.extract 8 10 by decide +kernel, show ((1 : Nat) : Int) = 1 from rfl] at N3
 have hsz : Dt.t11.size = 10 := by decide
 obtain ⟨e4, e7⟩ : ∃ (h4 : 4 < Dt.t11.size) (h7 : 7 < Dt.t11.size), ((Dt.t11[4].toNat : Nat) : Int) = 45 ∧ ((Dt.t11[7].toNat : Nat) : Int) = 45 := ⟨by decide, by decide, by decide, by decide⟩
 obtain ⟨e7, e8, e9⟩ := e7
 generalize Dt.t11 = s at *
 go_enter Tryz.func29, Tryz.ntmps29
 go_wp2_with (first | (go_at_call 54; ((with_reducible refine (N1 _).mono ?_); rintro e w' ⟨rfl, rfl⟩)) | (go_at_call 54; ((with_reducible refine (N2 _).mono ?_); rintro e w' ⟨rfl, rfl⟩)) | (go_at_call 54; ((with_reducible refine (N3 _).mono ?_); rintro e w' ⟨rfl, rfl⟩)) | (go_at_call 55; refine (fromCivil_x _).mono ?_; rintro e w' ⟨rfl, rfl⟩))
 go_ret2
 exact ⟨rfl, rfl⟩
namespace Tl
def cm : ByteArray := { data := #[44] }
def ln : List ByteArray → ByteArray
 | [] => { data := #[] }
 | [x] => x
 | x :: y :: r => x ++ (cm ++ ln (y :: r))
theorem ln_idx {x y : ByteArray} {r : List ByteArray} (h : (44 : UInt8) ∉ x.data.toList) : Lib.indexByte (ln (x :: y :: r)).data.toList 44 = (x.size : Nat) := by
 have e : (ln (x :: y :: r)).data.toList = x.data.toList ++ 44 :: (ln (y :: r)).data.toList := by
  rw [ln, ByteArray.data_append, Array.toList_append, ByteArray.data_append, Array.toList_append]; rfl
 rw [e, ix_some 44 _ _ h]
 show ((x.data.toList.length : Nat) : Int) = _
 rw [Array.length_toList]; rfl
theorem ln_one {x : ByteArray} (h : (44 : UInt8) ∉ x.data.toList) : Lib.indexByte (ln [x]).data.toList 44 = -1 := ix_none 44 _ h
theorem ln_at {s p : ByteArray} {F : List ByteArray} {i : Nat} (hs : s = p ++ ln (F.drop i)) : s.extract p.size s.size = ln (F.drop i) := ba_right p _ s _ hs rfl
theorem ba_mid (p x c s : ByteArray) (hs : s = p ++ (x ++ c)) : s.extract p.size (p.size + x.size) = x := by
 refine ByteArray.ext (Array.toList_inj.1 ?_)
 rw [hs, ByteArray.data_extract, Array.toList_extract, ByteArray.data_append, Array.toList_append, ByteArray.data_append, Array.toList_append, List.extract_eq_take_drop]
 rw [List.drop_left' (show p.data.toList.length = p.size from Array.length_toList), Nat.add_sub_cancel_left]
 exact List.take_left' (Array.length_toList)
end Tl
theorem cv_str {w : World} {b : Nat} {cs : Array Value} {mk : Nat × Nat} (h : w.heap[b]? = some (.cells cs 5 mk)) {s : ByteArray} (hc : ∀ j (hj : j < s.size), cs[j]? = some (.int .u8 ((s[j].toNat : Nat) : Int))) (o n cap : Nat) (hl : o + n ≤ s.size) : (convert 70 9 (.slice (some ⟨b, o, none⟩) n cap)).run Tryz.prog w = .ok (.string (s.extract o (o + n))) w := by
 have hn : (s.extract o (o + n)).data.toList.length = n := by
  rw [show (s.extract o (o + n)).data.toList.length = (s.extract o (o + n)).size from Array.length_toList, ByteArray.size_extract]; omega
 have := run_convert_bytes_back (P := Tryz.prog) w 70 9 5 ⟨b, o, none⟩ cap (s.extract o (o + n)).data.toList Tryz.underlying70 Tryz.underlying5 Tryz.underlying9 (fun j hj => by
  rw [hn] at hj
  have e1 : w.cell? ((⟨b, o, none⟩ : Addr).add j) = cs[o + j]? := by
   have hp : ((⟨b, o, none⟩ : Addr).add j) = ⟨b, o + j, none⟩ := by unfold Addr.add; split <;> simp_all
   rw [hp]
   simp [World.cell?, h]
  rw [e1, hc (o + j) Zo]
  congr 3
  have h1 : (s.extract o (o + n)).data.toList[j]? = s.data.toList[o + j]? := by
   rw [ByteArray.data_extract, Array.toList_extract, List.extract_eq_take_drop, List.getElem?_take_of_lt Zo, List.getElem?_drop]
  have h2 : s.data.toList[o + j]? = some s[o + j] := by
   rw [Array.getElem?_toList]; exact Array.getElem?_eq_getElem (show o + j < s.data.size from by show o + j < s.size; omega)
  have h3 := h1.trans h2
  rw [List.getElem?_eq_getElem (by rw [hn]; exact hj)] at h3
  rw [Option.some.inj h3])
 rw [hn] at this
 exact this
theorem bytes_at (w : World) (e : TypeId) (s : ByteArray) : ∀ j (hj : j < s.size), (Lib.bytesCells w e s)[j]? = some (.int .u8 ((s[j].toNat : Nat) : Int)) := fun j hj => by
 unfold Lib.bytesCells
 have h1 : j < s.data.size := hj
 rw [Array.getElem?_append, if_pos (by rw [Array.size_map]; exact h1), Array.getElem?_map, Array.getElem?_eq_getElem h1]
 rfl
end
end Go.Proofs.YtiekmabiecalbaaGreatDoor
