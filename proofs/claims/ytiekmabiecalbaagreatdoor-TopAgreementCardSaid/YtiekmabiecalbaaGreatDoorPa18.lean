/- Walks. -/
import Derived.Lib.Small
import Derived.Lib.SlicesS
import Derived.Lib.MinMax
import Derived.Test.YtiekmabiecalbaaGreatDoorPa17
import Derived.Test.YtiekmabiecalbaaGreatDoorPa11
namespace Go.Proofs.YtiekmabiecalbaaGreatDoor
set_option maxHeartbeats 16000000
open Go.RowKit
set_option maxRecDepth 8000
section
theorem belt {f : FuncId} {args : Array Value} {v : Value} {w : World} (h : Calls Tryz.prog f args w fun e w' => e = .returned v ∧ w = w') : Calls Tryz.prog f args w fun e w' => e = .returned v ∧ Below w.heap.size w w' := h.mono (by rintro e w' ⟨rfl, rfl⟩; exact ⟨rfl, Below.refl _ _⟩)
theorem hp_any (s : ByteArray) (w : World) :
    Calls Tryz.prog 140 #[.string s, .string { data := #[45] }] w fun e w' => e = .returned (.bool (Lib.hasPrefix s.data.toList [45])) ∧ w = w' := by
 have hraw := Lib.hasPrefix_raw s { data := #[45] }
 have hsz : ({ data := #[45] } : ByteArray).size = 1 := rfl
 rw [hsz] at hraw
 go_enter Tryz.func140, Tryz.ntmps140
 by_cases h : 1 ≤ s.size
 ·go_wp2
  go_ret
  refine ⟨?_, rfl⟩
  show Ending.returned (Value.bool ((s.extract 0 1).toList == [45])) = _
  refine ret_bool ?_
  simpa [h] using hraw
 ·go_wp2
  go_ret
  refine ⟨?_, rfl⟩
  show Ending.returned (Value.bool false) = _
  refine ret_bool ?_
  simpa [h] using hraw
theorem cp0_any (s : ByteArray) (w : World) :
    Calls Tryz.prog 99 #[.string s, .string { data := #[45] }] w fun e w' => e = .returned (.tuple #[.string ⟨(Lib.trimPrefix s.data.toList [45]).toArray⟩, .bool (Lib.hasPrefix s.data.toList [45])]) ∧ w = w' := by
 have hraw := Lib.hasPrefix_raw s { data := #[45] }
 have hsz : ({ data := #[45] } : ByteArray).size = 1 := rfl
 rw [hsz] at hraw
 have HH := Zi (hp_any s w)
 by_cases h : Lib.hasPrefix s.data.toList [45] = true
 ·rw [h] at HH
  have hraw2 : (decide (1 ≤ s.size) && ((s.extract 0 1).toList == ({ data := #[45] } : ByteArray).toList)) = true := hraw.trans h
  rw [Bool.and_eq_true, decide_eq_true_iff] at hraw2
  have hle := hraw2.1
  have e := Lib.trimPrefix_hit s { data := #[45] } hraw2.1 hraw2.2
  rw [show ({ data := #[45] } : ByteArray).data.toList = [45] from rfl] at e
  go_enter Tryz.func99, Tryz.ntmps99
  go_wp2_with (go_at_call 140; refine (HH.out).mono ?_; rintro e w' ⟨rfl, rfl⟩)
  go_ret2
  rw [e, h]
  exact ⟨rfl, rfl⟩
 ·have hf : Lib.hasPrefix s.data.toList [45] = false := by simpa using h
  rw [hf] at HH
  have e := Lib.trimPrefix_miss s { data := #[45] } (hraw.trans hf)
  rw [show ({ data := #[45] } : ByteArray).data.toList = [45] from rfl] at e
  go_enter Tryz.func99, Tryz.ntmps99
  go_wp2_with (go_at_call 140; refine (HH.out).mono ?_; rintro e w' ⟨rfl, rfl⟩)
  go_ret2
  rw [e, hf]
  exact ⟨rfl, rfl⟩
def Tx.cut (s : ByteArray) : ByteArray × Bool := (⟨(Lib.trimPrefix s.data.toList [45]).toArray⟩, Lib.hasPrefix s.data.toList [45])
theorem cp_any (s D : ByteArray) (g : Bool) (hD : Hid ((D, g) = Tx.cut s)) (w : World) :
    Calls Tryz.prog 56 #[.string s, .string { data := #[45] }] w fun e w' => e = .returned (.tuple #[.string D, .bool g]) ∧ w = w' := by
 obtain ⟨rfl, rfl⟩ := Prod.mk.inj hD.out
 have HH := Zi (cp0_any s w)
 go_enter Tryz.func56, Tryz.ntmps56
 go_wp2_with (go_at_call 99; refine (HH.out).mono ?_; rintro e w' ⟨rfl, rfl⟩)
 go_ret2
 exact ⟨rfl, rfl⟩
def Tx.ns (D : ByteArray) : List Nat := D.data.toList.map UInt8.toNat
theorem Tx.ns_len (D : ByteArray) : (Tx.ns D).length = D.size := by unfold Tx.ns; rw [List.length_map]; exact Array.length_toList
theorem Tx.ns_get (D : ByteArray) {k : Nat} (h : k < D.size) : (Tx.ns D)[k]? = some D[k].toNat := by
 unfold Tx.ns
 rw [List.getElem?_map, Array.getElem?_toList, Array.getElem?_eq_getElem h]
 rfl
def Tx.bad (L : List Nat) (g : Bool) : Prop := L.length = 0 ∨ 309 < L.length ∨ (L[0]? = some 48 ∧ (g = true ∨ 1 < L.length))
instance (L : List Nat) (g : Bool) : Decidable (Tx.bad L g) := by unfold Tx.bad; infer_instance
def Tx.isd (c : Nat) : Prop := 48 ≤ c ∧ c ≤ 57
instance (c : Nat) : Decidable (Tx.isd c) := by unfold Tx.isd; infer_instance
def Tx.num (L : List Nat) : Nat := Tx.val (L.map (· - 48))
def Tx.prs (L : List Nat) (g : Bool) : Int × Int :=
 if Tx.bad L g then (0, 12) else if ∀ c ∈ L, Tx.isd c then (if Tx.num L < Bg.lim then (Bg.toZ g (Tx.num L), 0) else (0, 10)) else (0, 12)
structure Tx.PrSt (L : List Nat) (k M : Nat) (f : Bool) : Prop where
 dg : ∀ c ∈ L.take k, Tx.isd c
 eq : M = Tx.num (L.take k) % Bg.lim
 fit : f = decide (Tx.num (L.take k) < Bg.lim)
end
section
theorem Tx.cut_pos (s : ByteArray) (h : ∀ h : 0 < s.size, s[0].toNat ≠ 45) : Tx.cut s = (s, false) := by
 have h1 : Lib.hasPrefix s.data.toList [45] = false := by
  cases s with
  | mk d =>
   cases d with
   | mk l =>
    cases l with
    | nil => rfl
    | cons c r =>
     have := h (by show 0 < r.length + 1; omega)
     have hc : c ≠ 45 := fun e => this (by show c.toNat = 45; rw [e]; rfl)
     unfold Lib.hasPrefix
     show ((45 == c) && _) = false
     rw [Zb (Ne.symm hc)]; rfl
 have hr := Lib.hasPrefix_raw s { data := #[45] }
 have e := Lib.trimPrefix_miss s { data := #[45] } (hr.trans h1)
 unfold Tx.cut
 rw [h1, show ([45] : List UInt8) = ({ data := #[45] } : ByteArray).data.toList from rfl, e]
end
section
def Tx.str (l : List Nat) : ByteArray := ⟨(l.map (fun d => UInt8.ofNat (d + 48))).toArray⟩
def Tx.txt (s : Bool) (N : Nat) : ByteArray := if N = 0 then Tx.str [0] else if s then ({ data := #[45] } : ByteArray) ++ Tx.str (Tx.dig N).reverse else Tx.str (Tx.dig N).reverse
theorem Tx.lim_len {N : Nat} (h : N < Bg.lim) : (Tx.dig N).length ≤ 309 :=
 Tx.dig_len (Nat.lt_of_lt_of_le h (by unfold Bg.lim Bg.pw; decide +kernel))
theorem Tx.str_cons (d : Nat) (l : List Nat) : Tx.str (d :: l) = ({ data := #[UInt8.ofNat (d + 48)] } : ByteArray) ++ Tx.str l := by
 apply ByteArray.ext
 rw [ByteArray.data_append]
 unfold Tx.str
 apply Array.ext'
 simp
theorem Tx.str_len (l : List Nat) : (Tx.str l).size = l.length := by
 unfold Tx.str
 show (l.map _).toArray.size = _
 rw [List.size_toArray, List.length_map]
end
section
theorem Tx.ns_str (l : List Nat) (h : ∀ c ∈ l, c < 10) : Tx.ns (Tx.str l) = l.map (· + 48) := by
 unfold Tx.ns Tx.str
 show ((l.map _).toArray.toList).map _ = _
 rw [List.toList_toArray, List.map_map]
 apply List.map_congr_left
 intro c hc
 have := h c hc
 show (UInt8.ofNat (c + 48)).toNat = c + 48
 rw [UInt8.toNat_ofNat']
 omega
end
section
theorem Tx.cut_str (c : Nat) (l : List Nat) (hc : c < 10) : Tx.cut (Tx.str (c :: l)) = (Tx.str (c :: l), false) := by
 have hd : (Tx.str (c :: l)).data.toList = UInt8.ofNat (c + 48) :: (l.map (fun d => UInt8.ofNat (d + 48))) := by
  unfold Tx.str; simp
 have hp : Lib.hasPrefix (Tx.str (c :: l)).data.toList [45] = false := by
  rw [hd]
  unfold Lib.hasPrefix
  have hne : (45 : UInt8) ≠ UInt8.ofNat (c + 48) := by
   intro h
   have := congrArg UInt8.toNat h
   rw [UInt8.toNat_ofNat'] at this
   have h45 : (45 : UInt8).toNat = 45 := rfl
   omega
  show ((45 == UInt8.ofNat (c + 48)) && _) = false
  rw [Zb hne]; rfl
 unfold Tx.cut
 rw [hp]
 unfold Lib.trimPrefix
 rw [hp]
 rfl
end
end Go.Proofs.YtiekmabiecalbaaGreatDoor
