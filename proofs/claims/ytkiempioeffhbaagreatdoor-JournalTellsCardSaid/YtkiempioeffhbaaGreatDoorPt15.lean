/- Walks. -/
import Derived.Lib.Small
import Derived.Lib.SlicesS
import Derived.Lib.MinMax
import Derived.Test.YtkiempioeffhbaaGreatDoorPt11
namespace Go.Proofs.YtkiempioeffhbaaGreatDoor
set_option maxHeartbeats 16000000
open Go.RowKit
set_option maxRecDepth 8000
section
theorem belt {f : FuncId} {args : Array Value} {v : Value} {w : World} (h : Calls Tryz.prog f args w fun e w' => e = .returned v ∧ w = w') : Calls Tryz.prog f args w fun e w' => e = .returned v ∧ Below w.heap.size w w' := h.mono (by rintro e w' ⟨rfl, rfl⟩; exact ⟨rfl, Below.refl _ _⟩)
theorem hp_any (s : ByteArray) (w : World) :
    Calls Tryz.prog 219 #[.string s, .string { data := #[45] }] w fun e w' => e = .returned (.bool (Lib.hasPrefix s.data.toList [45])) ∧ w = w' := by
 have hraw := Lib.hasPrefix_raw s { data := #[45] }
 have hsz : ({ data := #[45] } : ByteArray).size = 1 := rfl
 rw [hsz] at hraw
 go_enter Tryz.func219, Tryz.ntmps219
 by_cases h : 1 ≤ s.size
 ·go_wp2
  go_ret
  refine ⟨?_, rfl⟩
  show Ending.returned (Value.bool ((s.extract 0 1).toList == [45])) = _
  refine ret_bool ?_
  simpa [h] using hraw
 ·go_wp2
  go_ret
  refine ⟨?_, rfl⟩
  show Ending.returned (Value.bool false) = _
  refine ret_bool ?_
  simpa [h] using hraw
theorem cp0_any (s : ByteArray) (w : World) :
    Calls Tryz.prog 188 #[.string s, .string { data := #[45] }] w fun e w' => e = .returned (.tuple #[.string ⟨(Lib.trimPrefix s.data.toList [45]).toArray⟩, .bool (Lib.hasPrefix s.data.toList [45])]) ∧ w = w' := by
 have hraw := Lib.hasPrefix_raw s { data := #[45] }
 have hsz : ({ data := #[45] } : ByteArray).size = 1 := rfl
 rw [hsz] at hraw
 have HH := Zi (hp_any s w)
 by_cases h : Lib.hasPrefix s.data.toList [45] = true
 ·rw [h] at HH
  have hraw2 : (decide (1 ≤ s.size) && ((s.extract 0 1).toList == ({ data := #[45] } : ByteArray).toList)) = true := hraw.trans h
  rw [Bool.and_eq_true, decide_eq_true_iff] at hraw2
  have hle := hraw2.1
  have e := Lib.trimPrefix_hit s { data := #[45] } hraw2.1 hraw2.2
  rw [show ({ data := #[45] } : ByteArray).data.toList = [45] from rfl] at e
  go_enter Tryz.func188, Tryz.ntmps188
  go_wp2_with (go_at_call 219; refine (HH.out).mono ?_; rintro e w' ⟨rfl, rfl⟩)
  go_ret2
  rw [e, h]
  exact ⟨rfl, rfl⟩
 ·have hf : Lib.hasPrefix s.data.toList [45] = false := by simpa using h
  rw [hf] at HH
  have e := Lib.trimPrefix_miss s { data := #[45] } (hraw.trans hf)
  rw [show ({ data := #[45] } : ByteArray).data.toList = [45] from rfl] at e
  go_enter Tryz.func188, Tryz.ntmps188
  go_wp2_with (go_at_call 219; refine (HH.out).mono ?_; rintro e w' ⟨rfl, rfl⟩)
  go_ret2
  rw [e, hf]
  exact ⟨rfl, rfl⟩
def Tx.cut (s : ByteArray) : ByteArray × Bool := (⟨(Lib.trimPrefix s.data.toList [45]).toArray⟩, Lib.hasPrefix s.data.toList [45])
theorem cp_any (s D : ByteArray) (g : Bool) (hD : Hid ((D, g) = Tx.cut s)) (w : World) :
    Calls Tryz.prog 163 #[.string s, .string { data := #[45] }] w fun e w' => e = .returned (.tuple #[.string D, .bool g]) ∧ w = w' := by
 obtain ⟨rfl, rfl⟩ := Prod.mk.inj hD.out
 have HH := Zi (cp0_any s w)
 go_enter Tryz.func163, Tryz.ntmps163
 go_wp2_with (go_at_call 188; refine (HH.out).mono ?_; rintro e w' ⟨rfl, rfl⟩)
 go_ret2
 exact ⟨rfl, rfl⟩
def Tx.ns (D : ByteArray) : List Nat := D.data.toList.map UInt8.toNat
theorem Tx.ns_len (D : ByteArray) : (Tx.ns D).length = D.size := by unfold Tx.ns; rw [List.length_map]; exact Array.length_toList
theorem Tx.ns_get (D : ByteArray) {k : Nat} (h : k < D.size) : (Tx.ns D)[k]? = some D[k].toNat := by
 unfold Tx.ns
 rw [List.getElem?_map, Array.getElem?_toList, Array.getElem?_eq_getElem h]
 rfl
def Tx.bad (L : List Nat) (g : Bool) : Prop := L.length = 0 ∨ 309 < L.length ∨ (L[0]? = some 48 ∧ (g = true ∨ 1 < L.length))
instance (L : List Nat) (g : Bool) : Decidable (Tx.bad L g) := by unfold Tx.bad; infer_instance
def Tx.isd (c : Nat) : Prop := 48 ≤ c ∧ c ≤ 57
instance (c : Nat) : Decidable (Tx.isd c) := by unfold Tx.isd; infer_instance
def Tx.num (L : List Nat) : Nat := Tx.val (L.map (· - 48))
def Tx.prs (L : List Nat) (g : Bool) : Int × Int :=
 if Tx.bad L g then (0, 12) else if ∀ c ∈ L, Tx.isd c then (if Tx.num L < Bg.lim then (Bg.toZ g (Tx.num L), 0) else (0, 10)) else (0, 12)
structure Tx.PrSt (L : List Nat) (k M : Nat) (f : Bool) : Prop where
 dg : ∀ c ∈ L.take k, Tx.isd c
 eq : M = Tx.num (L.take k) % Bg.lim
 fit : f = decide (Tx.num (L.take k) < Bg.lim)
end
section
theorem rmul_zz (p d z v e : Int) (hp : p.natAbs < Bg.lim) (hd : d.natAbs < Bg.lim) (hz : Hid (z = p * d)) (hv : Hid (v = Bg.resZ z)) (he : Hid (e = Bg.resE z)) (w : World) :
    Calls Tryz.prog 211 #[.agg (Bg.zA p), .agg (Bg.zA d)] w fun r w' => r = .returned (.tuple #[.agg (Bg.zA v), .int .i64 e]) ∧ Below w.heap.size w w' := by
 rw [zA_int p, zA_int d]
 exact rmul_any _ _ _ _ z v e hp hd (Zi (by rw [Bg.toZ_iv, Bg.toZ_iv]; exact hz.out)) hv he w
theorem radd_zz (p d z v e : Int) (hp : p.natAbs < Bg.lim) (hd : d.natAbs < Bg.lim) (hz : Hid (z = p + d)) (hv : Hid (v = Bg.resZ z)) (he : Hid (e = Bg.resE z)) (w : World) :
    Calls Tryz.prog 205 #[.agg (Bg.zA p), .agg (Bg.zA d)] w fun r w' => r = .returned (.tuple #[.agg (Bg.zA v), .int .i64 e]) ∧ Below w.heap.size w w' := by
 rw [zA_int p, zA_int d]
 exact radd_any _ _ _ _ z v e hp hd (Zi (by rw [Bg.toZ_iv, Bg.toZ_iv]; exact hz.out)) hv he w
theorem rfromInt_w (m n : Int) (h : Hid (m = n)) (h1 : -9223372036854775808 ≤ n) (h2 : n < 9223372036854775808) (w : World) :
    Calls Tryz.prog 97 #[.int .i64 m] w fun e w' => e = .returned (.agg (Bg.zA n)) ∧ Below w.heap.size w w' := by
 rw [h.out]; exact rfromInt_z n h1 h2 w
end
section
theorem z9_49 {P : Prop} (h : P := by
 refine j_one 8 fun K9 hK9 => ?_
 refine j_al HM ?_; clear HM; intro bk w1 HM
 refine hK9 _ _ (heldE HM) ?_; clear hK9 K9
 refine j_one 9 fun K9 hK9 => ?_
 refine j_st HM ?_; clear HM; intro w1 HM
 refine hK9 _ _ heldN ?_; clear hK9 K9
 refine j_one 10 fun K9 hK9 => ?_
 refine j_st HM ?_; clear HM; intro w1 HM
 refine hK9 _ _ heldN ?_; clear hK9 K9
 refine k_mv 11 heldN ?_
 refine wpAnyL_done Zk ?_ _
 (go_wp2_with fail; go_meet; (case rel => exact ⟨_, _, rfl, rfl, rfl, HM.pick⟩))) : P := h
theorem z9_50 {P : Prop} (h : P := by
 refine j_one 7 fun K9 hK9 => ?_
 refine j_al HM ?_; clear HM; intro bk w1 HM
 refine hK9 _ _ (heldE HM) ?_; clear hK9 K9
 refine j_one 9 fun K9 hK9 => ?_
 refine j_st HM ?_; clear HM; intro w1 HM
 refine hK9 _ _ heldN ?_; clear hK9 K9
 refine j_one 10 fun K9 hK9 => ?_
 refine j_st HM ?_; clear HM; intro w1 HM
 refine hK9 _ _ heldN ?_; clear hK9 K9
 refine k_mv 11 heldN ?_
 refine wpAnyL_done Zk ?_ _
 (go_wp2_with fail; go_meet; (case rel => exact ⟨_, _, rfl, rfl, rfl, HM.pick⟩))) : P := h
theorem z9_51 {P : Prop} (h : P := by
 refine ⟨(heldE HM), ?_⟩
 refine j_two 2 8 ?_ ?_
 ·refine j_call2 (v := ?_) HM ?_ ?_; rotate_left 1; (focus (with_reducible (first | exact rfromInt_z 10 Zo Zo _ | exact rdivMod_zt _ _ (q : Nat) (r : Nat) lm l10 Zd hq hr _))); clear HM; intro w1 HM
  refine ⟨(heldE HM), ?_⟩
  refine k_mv 3 (heldE HM) ?_
  refine k_ext 4 (heldE HM) ?_
  refine k_ext 5 (heldE HM) ?_
  refine k_ext 6 (heldE HM) ?_
  refine j_one 8 fun K9 hK9 => ?_
  refine j_al HM ?_; clear HM; intro bk w1 HM
  refine hK9 _ _ (heldE HM) ?_; clear hK9 K9
  refine j_one 9 fun K9 hK9 => ?_
  refine j_st HM ?_; clear HM; intro w1 HM
  refine hK9 _ _ heldN ?_; clear hK9 K9
  refine j_one 10 fun K9 hK9 => ?_
  refine j_st HM ?_; clear HM; intro w1 HM
  refine hK9 _ _ heldN ?_; clear hK9 K9
  refine k_mv 11 heldN ?_
  refine wpAnyL_done Zk ?_ _
  (go_wp2_with fail; go_meet; (case rel => exact ⟨_, _, rfl, rfl, rfl, HM.pick⟩))
 ·refine j_al HM ?_; clear HM; intro bk w1 HM
  refine ⟨(heldE HM), ?_⟩
  refine j_one 2 fun K9 hK9 => ?_
  refine j_call2 (v := ?_) HM ?_ ?_; rotate_left 1; (focus (with_reducible (first | exact rfromInt_z 10 Zo Zo _ | exact rdivMod_zt _ _ (q : Nat) (r : Nat) lm l10 Zd hq hr _))); clear HM; intro w1 HM
  refine hK9 _ _ (heldE HM) ?_; clear hK9 K9
  refine k_mv 3 (heldE HM) ?_
  refine k_ext 4 (heldE HM) ?_
  refine k_ext 5 (heldE HM) ?_
  refine k_ext 6 (heldE HM) ?_
  refine j_one 9 fun K9 hK9 => ?_
  refine j_st HM ?_; clear HM; intro w1 HM
  refine hK9 _ _ heldN ?_; clear hK9 K9
  refine j_one 10 fun K9 hK9 => ?_
  refine j_st HM ?_; clear HM; intro w1 HM
  refine hK9 _ _ heldN ?_; clear hK9 K9
  refine k_mv 11 heldN ?_
  refine wpAnyL_done Zk ?_ _
  (go_wp2_with fail; go_meet; (case rel => exact ⟨_, _, rfl, rfl, rfl, HM.pick⟩))) : P := h
theorem z9_52 {P : Prop} (h : P := by
 refine ⟨(heldE HM), ?_⟩
 refine j_two 2 7 ?_ ?_
 ·refine j_call2 (v := ?_) HM ?_ ?_; rotate_left 1; (focus (with_reducible (first | exact rfromInt_z 10 Zo Zo _ | exact rdivMod_zt _ _ (q : Nat) (r : Nat) lm l10 Zd hq hr _))); clear HM; intro w1 HM
  refine ⟨(heldE HM), ?_⟩
  refine k_mv 3 (heldE HM) ?_
  refine k_ext 4 (heldE HM) ?_
  refine k_ext 5 (heldE HM) ?_
  refine k_ext 6 (heldE HM) ?_
  refine j_one 7 fun K9 hK9 => ?_
  refine j_al HM ?_; clear HM; intro bk w1 HM
  refine hK9 _ _ (heldE HM) ?_; clear hK9 K9
  refine j_one 9 fun K9 hK9 => ?_
  refine j_st HM ?_; clear HM; intro w1 HM
  refine hK9 _ _ heldN ?_; clear hK9 K9
  refine j_one 10 fun K9 hK9 => ?_
  refine j_st HM ?_; clear HM; intro w1 HM
  refine hK9 _ _ heldN ?_; clear hK9 K9
  refine k_mv 11 heldN ?_
  refine wpAnyL_done Zk ?_ _
  (go_wp2_with fail; go_meet; (case rel => exact ⟨_, _, rfl, rfl, rfl, HM.pick⟩))
 ·refine j_al HM ?_; clear HM; intro bk w1 HM
  refine ⟨(heldE HM), ?_⟩
  refine j_one 2 fun K9 hK9 => ?_
  refine j_call2 (v := ?_) HM ?_ ?_; rotate_left 1; (focus (with_reducible (first | exact rfromInt_z 10 Zo Zo _ | exact rdivMod_zt _ _ (q : Nat) (r : Nat) lm l10 Zd hq hr _))); clear HM; intro w1 HM
  refine hK9 _ _ (heldE HM) ?_; clear hK9 K9
  refine k_mv 3 (heldE HM) ?_
  refine k_ext 4 (heldE HM) ?_
  refine k_ext 5 (heldE HM) ?_
  refine k_ext 6 (heldE HM) ?_
  refine j_one 9 fun K9 hK9 => ?_
  refine j_st HM ?_; clear HM; intro w1 HM
  refine hK9 _ _ heldN ?_; clear hK9 K9
  refine j_one 10 fun K9 hK9 => ?_
  refine j_st HM ?_; clear HM; intro w1 HM
  refine hK9 _ _ heldN ?_; clear hK9 K9
  refine k_mv 11 heldN ?_
  refine wpAnyL_done Zk ?_ _
  (go_wp2_with fail; go_meet; (case rel => exact ⟨_, _, rfl, rfl, rfl, HM.pick⟩))) : P := h
theorem z9_53 {P : Prop} (h : P := by
 refine j_al HM ?_; clear HM; intro bk w1 HM
 refine ⟨(heldE HM), ?_⟩
 refine j_one 1 fun K9 hK9 => ?_
 refine j_call1 (v := ?_) HM ?_ ?_; rotate_left 1; (focus (with_reducible (first | exact rfromInt_z 10 Zo Zo _ | exact rdivMod_zt _ _ (q : Nat) (r : Nat) lm l10 Zd hq hr _))); clear HM; intro w1 HM
 refine hK9 _ _ (heldE HM) ?_; clear hK9 K9
 refine j_one 2 fun K9 hK9 => ?_
 refine j_call2 (v := ?_) HM ?_ ?_; rotate_left 1; (focus (with_reducible (first | exact rfromInt_z 10 Zo Zo _ | exact rdivMod_zt _ _ (q : Nat) (r : Nat) lm l10 Zd hq hr _))); clear HM; intro w1 HM
 refine hK9 _ _ (heldE HM) ?_; clear hK9 K9
 refine k_mv 3 (heldE HM) ?_
 refine k_ext 4 (heldE HM) ?_
 refine k_ext 5 (heldE HM) ?_
 refine k_ext 6 (heldE HM) ?_
 refine j_one 9 fun K9 hK9 => ?_
 refine j_st HM ?_; clear HM; intro w1 HM
 refine hK9 _ _ heldN ?_; clear hK9 K9
 refine j_one 10 fun K9 hK9 => ?_
 refine j_st HM ?_; clear HM; intro w1 HM
 refine hK9 _ _ heldN ?_; clear hK9 K9
 refine k_mv 11 heldN ?_
 refine wpAnyL_done Zk ?_ _
 (go_wp2_with fail; go_meet; (case rel => exact ⟨_, _, rfl, rfl, rfl, HM.pick⟩))) : P := h
end
section
def Tx.str (l : List Nat) : ByteArray := ⟨(l.map (fun d => UInt8.ofNat (d + 48))).toArray⟩
def Tx.txt (s : Bool) (N : Nat) : ByteArray := if N = 0 then Tx.str [0] else if s then ({ data := #[45] } : ByteArray) ++ Tx.str (Tx.dig N).reverse else Tx.str (Tx.dig N).reverse
theorem Tx.dig_step {N m : Nat} {l : List Nat} (h : (Tx.dig N).reverse = (Tx.dig m).reverse ++ l) (h0 : m ≠ 0) : (Tx.dig N).reverse = (Tx.dig (m / 10)).reverse ++ (m % 10 :: l) := by
 rw [h, Tx.dig_pos h0]; simp
theorem Tx.lim_len {N : Nat} (h : N < Bg.lim) : (Tx.dig N).length ≤ 309 :=
 Tx.dig_len (Nat.lt_of_lt_of_le h (by unfold Bg.lim Bg.pw; decide +kernel))
theorem Tx.str_cons (d : Nat) (l : List Nat) : Tx.str (d :: l) = ({ data := #[UInt8.ofNat (d + 48)] } : ByteArray) ++ Tx.str l := by
 apply ByteArray.ext
 rw [ByteArray.data_append]
 unfold Tx.str
 apply Array.ext'
 simp
theorem Tx.str_len (l : List Nat) : (Tx.str l).size = l.length := by
 unfold Tx.str
 show (l.map _).toArray.size = _
 rw [List.size_toArray, List.length_map]
theorem Tx.part_len {N m : Nat} {l : List Nat} (hN : N < Bg.lim) (h : (Tx.dig N).reverse = (Tx.dig m).reverse ++ l) : l.length ≤ 309 := by
 have h1 := congrArg List.length h
 have h2 := Tx.lim_len hN
 rw [List.length_append, List.length_reverse] at h1
 omega
theorem Bg.limb_0 {d : Nat} (h : d < 4294967296) : Bg.limb d 0 = d := by unfold Bg.limb; rw [Bg.pw_zero, Nat.div_one, Nat.mod_eq_of_lt h]
theorem la_limz (d : Nat) (h : d < 4294967296) : LA 38 (Bg.zA ((d : Nat) : Int)) 1 (.int .u32 (d : Nat)) := by
 have := la_limi (decide (((d : Nat) : Int) < 0)) ((d : Nat) : Int).natAbs 0 Zd
 rw [Int.natAbs_natCast, Bg.limb_0 h] at this
 rw [zA_int]
 exact this
theorem rdivMod_zt (p d x y : Int) (hp : p.natAbs < Bg.lim) (hd : d.natAbs < Bg.lim) (h0 : 0 < d.natAbs) (hx : Hid (x = p / d)) (hy : Hid (y = p % d)) (w : World) :
    Calls Tryz.prog 125 #[.agg (Bg.zA p), .agg (Bg.zA d)] w fun e w' => e = .returned (.tuple #[.agg (Bg.zA x), .agg (Bg.zA y), .int .i64 0]) ∧ Below w.heap.size w w' := by
 rw [zA_int p, zA_int d]
 exact rdivMod_any _ _ _ _ x y hp hd h0 (Zi (by rw [Bg.toZ_iv, Bg.toZ_iv]; exact hx.out)) (Zi (by rw [Bg.toZ_iv, Bg.toZ_iv]; exact hy.out)) w
set_option maxRecDepth 20000 in
theorem rbformat_any (s : Bool) (N : Nat) (hN : N < Bg.lim) (w : World) :
    Calls Tryz.prog 208 #[.agg (Bg.intA s N)] w fun r w' => r = .returned (.string (Tx.txt s N)) ∧ Below w.heap.size w w' := by
 have HM := Mem.start w
 by_cases h0 : N = 0
 ·have ht : Hid (true = decide (N = 0)) := Zi (by simp [h0])
  have htx : Hid (Tx.txt s N = { data := #[48] }) := Zi (by unfold Tx.txt; rw [if_pos h0]; rfl)
  clear h0
  rw [htx.out]
  go_enter Tryz.func208, Tryz.ntmps208
  go_wp2_with (first | (go_at_call 148; (with_reducible refine Zc HM (zero_as N true hN ht.out _) ?_; clear HM; intro w2 HM)) | ((with_reducible refine g_ld ?_); refine a_ld HM ?_) | ((with_reducible refine g_bx ?_); refine a_bx HM ?_; clear HM; intro bk w1 HM))
  go_ret
  exact ⟨rfl, HM.low⟩
 ·have ht : Hid (false = decide (N = 0)) := Zi (by simp [h0])
  have HT := Zi h0
  clear h0
  go_enter Tryz.func208, Tryz.ntmps208
  go_wp2_with (first | ((first | (go_at_call 148; with_reducible refine (zero_as N false hN ht.out _).mono ?_) | (go_at_call 209; with_reducible refine (rabs_any s N (N : Nat) hN (Zi rfl) _).mono ?_)); rintro e9 w2 ⟨rfl, hL⟩; replace HM := HM.call hL; clear hL) | ((with_reducible refine g_ld ?_); refine a_ld HM ?_) | ((with_reducible refine g_st ?_); refine a_st HM ?_; clear HM; intro w1 HM) | ((with_reducible refine g_al ?_); refine a_al HM ?_; clear HM; intro bk w1 HM) | ((with_reducible refine g_bx ?_); refine a_bx HM ?_; clear HM; intro bk w1 HM))
  clear ht
  obtain ⟨bn, hbn⟩ := HM.nm0
  obtain ⟨bx, hbx⟩ := HM.nm1
  subst hbn hbx
  go_loopg [3, 4] (N + 1) (fun g r p wr => ∃ (m : Nat) (T : ByteArray) (l : List Nat) (bm : Nat), m + 1 ≤ g ∧ r = .string T ∧ p = .pointer (some ⟨bm, 0, none⟩) ∧ m < Bg.lim ∧ Hid (T = Tx.str l) ∧ Hid ((Tx.dig N).reverse = (Tx.dig m).reverse ++ l) ∧ Mem w [] [(bm, Bg.zA (m : Nat)), (bx, Bg.intA s N)] wr)
  case atStart => exact ⟨N, _, [], _, Nat.le_refl _, rfl, rfl, hN, Zi rfl, Zi Zs, HM⟩
  case round =>
   clear HM
   obtain ⟨m, T, l, bm, hg, rfl, rfl, hm, HS, HL, HM⟩ := hrel
   cases gk with
   | zero => omega
   | succ g =>
    have lm : ((m : Nat) : Int).natAbs < Bg.lim := by rw [Int.natAbs_natCast]; exact hm
    by_cases h0 : m = 0
    ·have hz1 : Hid (true = decide (m = 0)) := Zi (by simp [h0])
     have hTl : T.size ≤ 309 := by rw [HS.out, Tx.str_len]; exact Tx.part_len hN HL.out
     have HR : Hid ((Tx.dig N).reverse = l) := Zi (by have := HL.out; rw [h0, Tx.dig_zero] at this; exact this)
     clear h0
     cases s with
     | true =>
      go_wp2_with (first | (go_at_call 148; (with_reducible refine Zc HM (zero_as m true hm hz1.out _) ?_; clear HM; intro w2 HM)) | ((with_reducible refine g_ld ?_); refine a_ld HM ?_))
      go_ret
      refine ⟨?_, HM.low⟩
      show Ending.returned (Value.string ({ data := #[45] } ++ T)) = _
      rw [HS.out, ← HR.out]
      unfold Tx.txt
      rw [if_neg HT.out, if_pos rfl]
     | false =>
      go_wp2_with (first | (go_at_call 148; (with_reducible refine Zc HM (zero_as m true hm hz1.out _) ?_; clear HM; intro w2 HM)) | ((with_reducible refine g_ld ?_); refine a_ld HM ?_))
      go_ret
      refine ⟨?_, HM.low⟩
      show Ending.returned (Value.string T) = _
      rw [HS.out, ← HR.out]
      unfold Tx.txt
      rw [if_neg HT.out, if_neg Bool.false_ne_true]
    ·have hz1 : Hid (false = decide (m = 0)) := Zi (by simp [h0])
     have HZ := Zi h0
     clear h0
     obtain ⟨q, hq0⟩ : ∃ x : Nat, Hid (x = m / 10) := ⟨_, Zi rfl⟩
     obtain ⟨r, hr0⟩ : ∃ x : Nat, Hid (x = m % 10) := ⟨_, Zi rfl⟩
     have hq : Hid (((q : Nat) : Int) = ((m : Nat) : Int) / 10) := Zi (by rw [hq0.out]; omega)
     have hr : Hid (((r : Nat) : Int) = ((m : Nat) : Int) % 10) := Zi (by rw [hr0.out]; omega)
     have hr10 : r < 10 := by rw [hr0.out]; omega
     have hla := la_limz r Zo
     have hTl : T.size ≤ 309 := by rw [HS.out, Tx.str_len]; exact Tx.part_len hN HL.out
     have l10 : (10 : Int).natAbs < Bg.lim := small_lim Zd
     go_upto_region 6 with (first | (go_at_call 148; (with_reducible refine Zc HM (zero_as m false hm hz1.out _) ?_; clear HM; intro w2 HM)) | ((with_reducible refine g_ld ?_); refine a_ld HM ?_))
     go_cut [5, 6, 7] (fun p q9 e wc => ∃ b5 b6, p = .pointer (some ⟨b5, 0, none⟩) ∧ q9 = .pointer (some ⟨b6, 0, none⟩) ∧ e = .int .i64 0 ∧ Mem w [] [(b6, Bg.zA (r : Nat)), (b5, Bg.zA (q : Nat)), (bm, Bg.zA (m : Nat)), (bx, Bg.intA s N)] wc)
     case first =>
      refine start_M [9, 10] HM Zk (fun w0x H9 => ?_)
      replace HM := H9; clear H9
      refine k_ld 0 [2, 3, 4, 5, 6, 9, 10, 11] (heldE HM) ?_
      refine three_L (i := 1) (j := 7) (k := 8) Zk (op_L rfl (by rfl) ?_) (op_L rfl (by rfl) ?_) (op_L rfl (by rfl) ?_)
      ·refine j_call1 (v := ?_) HM ?_ ?_; rotate_left 1; (focus (with_reducible (first | exact rfromInt_z 10 Zo Zo _ | exact rdivMod_zt _ _ (q : Nat) (r : Nat) lm l10 Zd hq hr _))); clear HM; intro w1 HM
       refine ⟨(heldE HM), ?_⟩
       refine three_L (i := 2) (j := 7) (k := 8) Zk (op_L rfl (by rfl) ?_) (op_L rfl (by rfl) ?_) (op_L rfl (by rfl) ?_)
       ·refine j_call2 (v := ?_) HM ?_ ?_; rotate_left 1; (focus (with_reducible (first | exact rfromInt_z 10 Zo Zo _ | exact rdivMod_zt _ _ (q : Nat) (r : Nat) lm l10 Zd hq hr _))); clear HM; intro w1 HM
        refine ⟨(heldE HM), ?_⟩
        refine k_mv 3 (heldE HM) ?_
        refine k_ext 4 (heldE HM) ?_
        refine k_ext 5 (heldE HM) ?_
        refine k_ext 6 (heldE HM) ?_
        refine j_two 7 8 ?_ ?_
        ·refine j_al HM ?_; clear HM; intro bk w1 HM
         refine ⟨(heldE HM), ?_⟩
         exact z9_49
        ·refine j_al HM ?_; clear HM; intro bk w1 HM
         refine ⟨(heldE HM), ?_⟩
         exact z9_50
       ·refine j_al HM ?_; clear HM; intro bk w1 HM
        exact z9_51
       ·refine j_al HM ?_; clear HM; intro bk w1 HM
        exact z9_52
      ·refine j_al HM ?_; clear HM; intro bk w1 HM
       refine ⟨(heldE HM), ?_⟩
       refine j_two 1 8 ?_ ?_
       ·refine j_call1 (v := ?_) HM ?_ ?_; rotate_left 1; (focus (with_reducible (first | exact rfromInt_z 10 Zo Zo _ | exact rdivMod_zt _ _ (q : Nat) (r : Nat) lm l10 Zd hq hr _))); clear HM; intro w1 HM
        exact z9_51
       ·exact z9_53
      ·refine j_al HM ?_; clear HM; intro bk w1 HM
       refine ⟨(heldE HM), ?_⟩
       refine j_two 1 7 ?_ ?_
       ·refine j_call1 (v := ?_) HM ?_ ?_; rotate_left 1; (focus (with_reducible (first | exact rfromInt_z 10 Zo Zo _ | exact rdivMod_zt _ _ (q : Nat) (r : Nat) lm l10 Zd hq hr _))); clear HM; intro w1 HM
        exact z9_52
       ·exact z9_53
     case rest =>
      clear HM
      obtain ⟨b5, b6, rfl, rfl, rfl, HM⟩ := hcut
      have hc : r = 0 ∨ r = 1 ∨ r = 2 ∨ r = 3 ∨ r = 4 ∨ r = 5 ∨ r = 6 ∨ r = 7 ∨ r = 8 ∨ r = 9 := by omega
      have HS2 : Hid (({ data := #[UInt8.ofNat (r + 48)] } : ByteArray) ++ T = Tx.str (r :: l)) := Zi (by rw [HS.out, Tx.str_cons])
      have HL2 : Hid ((Tx.dig N).reverse = (Tx.dig q).reverse ++ (r :: l)) := Zi (by rw [hq0.out, hr0.out]; exact Tx.dig_step HL.out HZ.out)
      have hql : q < Bg.lim := by rw [hq0.out]; exact Nat.lt_of_le_of_lt (Nat.div_le_self _ _) hm
      have hqg : q + 1 ≤ g := by have := HZ.out; have := hq0.out; omega
      clear hr0 hr hr10 hq hq0
      go_step
      rcases hc with rfl | rfl | rfl | rfl | rfl | rfl | rfl | rfl | rfl | rfl
      all_goals
       go_wp2_with (first | ((with_reducible refine g_ld ?_); refine a_ld HM ?_) | ((with_reducible refine g_st ?_); refine a_st HM ?_; clear HM; intro w1 HM) | ((with_reducible refine g_al ?_); refine a_al HM ?_; clear HM; intro bk w1 HM))
       go_roundg g
       case rel => exact ⟨q, _, _ :: l, _, hqg, rfl, rfl, hql, HS2, HL2, HM.pick⟩
       case measure => omega
end
section
theorem Tx.ns_str (l : List Nat) (h : ∀ c ∈ l, c < 10) : Tx.ns (Tx.str l) = l.map (· + 48) := by
 unfold Tx.ns Tx.str
 show ((l.map _).toArray.toList).map _ = _
 rw [List.toList_toArray, List.map_map]
 apply List.map_congr_left
 intro c hc
 have := h c hc
 show (UInt8.ofNat (c + 48)).toNat = c + 48
 rw [UInt8.toNat_ofNat']
 omega
end
section
theorem Tx.cut_str (c : Nat) (l : List Nat) (hc : c < 10) : Tx.cut (Tx.str (c :: l)) = (Tx.str (c :: l), false) := by
 have hd : (Tx.str (c :: l)).data.toList = UInt8.ofNat (c + 48) :: (l.map (fun d => UInt8.ofNat (d + 48))) := by
  unfold Tx.str; simp
 have hp : Lib.hasPrefix (Tx.str (c :: l)).data.toList [45] = false := by
  rw [hd]
  unfold Lib.hasPrefix
  have hne : (45 : UInt8) ≠ UInt8.ofNat (c + 48) := by
   intro h
   have := congrArg UInt8.toNat h
   rw [UInt8.toNat_ofNat'] at this
   have h45 : (45 : UInt8).toNat = 45 := rfl
   omega
  show ((45 == UInt8.ofNat (c + 48)) && _) = false
  rw [Zb hne]; rfl
 unfold Tx.cut
 rw [hp]
 unfold Lib.trimPrefix
 rw [hp]
 rfl
end
end Go.Proofs.YtkiempioeffhbaaGreatDoor
