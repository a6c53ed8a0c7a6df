/- The contract of workdays.Of. -/
import Derived.Test.YtaokneooejbfkaaCalM
import Derived.Laws.MakeOwn
namespace Go.Proofs.Ytaokneooejbfkaa
set_option maxRecDepth 8000
open Go.RowKit Go.Maps
theorem mk_hint (t k e : TypeId) (kd : IntKind) (n : Int) (ht : Try.prog.underlying t = some (.map k e)) (w : World) :
    (Instr.makeMap t (some (.int kd n))).run Try.prog w = .ok (.map (some w.heap.size)) (w.alloc (.map #[] 0)) := by
  simp [Instr.makeMap, run_underlying ht]; rfl
theorem contains_snoc (hs : List Int) (j : Nat) (h : j < hs.length) (x : Int) : (decide (x = hs.getD j 0) || Cl.has (hs.take j) x) = Cl.has (hs.take (j + 1)) x := by
  unfold Cl.has
  rw [List.take_succ_eq_append_getElem h, List.contains_eq_any_beq, List.contains_eq_any_beq, List.any_append]
  simp only [List.any_cons, List.any_nil, Bool.or_false, List.getD, List.getElem?_eq_getElem h, Option.getD_some]
  rw [Bool.or_comm]
  congr 1
set_option maxHeartbeats 1000000 in
theorem of_any (s : ByteArray) (k : Nat → Bool) (A : Option Addr) (hs : List Int) (c : Nat) (w : World) (hA : IntsAt w A hs) (hl : hs.length ≤ 2000) (hd : ∀ j, j < hs.length → 0 ≤ hs.getD j 0 ∧ hs.getD j 0 ≤ 73048) :
    Calls Try.prog 31 #[.agg #[.string s, .bool (k 0), .bool (k 1), .bool (k 2), .bool (k 3), .bool (k 4), .bool (k 5), .bool (k 6), .slice A hs.length c]] w fun e w' => ∃ r, e = .returned (.agg #[.bool (k 0), .bool (k 1), .bool (k 2), .bool (k 3), .bool (k 4), .bool (k 5), .bool (k 6), .map (some r)]) ∧ BMap w' r hs.length (Cl.has hs) ∧ w.heap.size ≤ r ∧ Below w.heap.size w w' := by
  have hmm := fun (n : Int) => mk_hint 44 _ _ .i64 n Try.underlying44
  have HA := Lib.hid hA
  have HD := Lib.hid hd
  clear hA hd
  go_enter Try.func31, Try.ntmps31
  go_wp2
  clear hmm
  go_loopw [13] (fun i wr => ∃ j : Nat, j ≤ hs.length ∧ i = .int .i64 j ∧ BMap wr (w.heap.size + 2) j (Cl.has (hs.take j)) ∧ Below (w.heap.size + 2) (((w.alloc (Obj.cells #[.string s, .bool (k 0), .bool (k 1), .bool (k 2), .bool (k 3), .bool (k 4), .bool (k 5), .bool (k 6), .slice A hs.length c] 25)).alloc (Obj.cells #[.bool false, .bool false, .bool false, .bool false, .bool false, .bool false, .bool false, .map none] 51)).alloc (.map #[] 0)) wr)
    (fun i _ => hs.length - (intOf i).toNat)
  case atStart => exact ⟨0, Nat.zero_le _, rfl, BMap.congr (f := fun _ => false) (by simpa using BMap.made ((w.alloc (Obj.cells #[.string s, .bool (k 0), .bool (k 1), .bool (k 2), .bool (k 3), .bool (k 4), .bool (k 5), .bool (k 6), .slice A hs.length c] 25)).alloc (Obj.cells #[.bool false, .bool false, .bool false, .bool false, .bool false, .bool false, .bool false, .map none] 51))) (fun x _ _ => by simp [Cl.has]), Below.refl _ _⟩
  case round =>
    obtain ⟨j, hj, rfl, hm, hb⟩ := hrel
    have hbw : Below w.heap.size w wr := bup (((below_new w (Obj.cells #[.string s, .bool (k 0), .bool (k 1), .bool (k 2), .bool (k 3), .bool (k 4), .bool (k 5), .bool (k 6), .slice A hs.length c] 25)).alloc (by simp) (Obj.cells #[.bool false, .bool false, .bool false, .bool false, .bool false, .bool false, .bool false, .map none] 51)).alloc (by simp; omega) (.map #[] 0)) hb (by omega)
    by_cases hlt : j < hs.length
    · obtain ⟨b, off, rfl, hbl, hcell⟩ := (HA.out.below hbw).at_ hlt
      have hcj := hcell j hlt
      obtain ⟨d0, d1⟩ := HD.out j hlt
      clear hcell
      have HX := Lib.hid (contains_snoc hs j hlt)
      obtain ⟨x, hx⟩ : ∃ x, x = hs.getD j 0 := ⟨_, rfl⟩
      rw [← hx] at hcj d0 d1 HX
      clear hx
      obtain ⟨D, hD, hf⟩ := hm
      have HF := Lib.hid hf
      clear hf
      go_wp2_with (at_mapUpdate; refine wpList_mapUpdate_own _ rfl _ _ _ 44 rfl 3 4 int_law Try.underlying44 _ (w.heap.size + 2) j D rfl hD (by unfold maxLen; omega) _ _ _ rfl rfl (keyOf_int_mk Try.underlying3 (day_wf d0 d1)) _ [] (plainElem_bool Try.underlying4 true) ?_; intro w1 hown1 hgrow1)
      go_roundw
      case rel => exact ⟨j + 1, by omega, by go_num, (own_put HF.out hD.isMap hown1).congr (fun y _ _ => HX.out y), hb.grown hgrow1 (by have := hb.size; simp at this; omega) (fun q hq => by cases hq; exact Nat.le_refl _)⟩
      case measure => simp [intOf]; omega
    · obtain rfl : j = hs.length := by omega
      obtain ⟨hc, hf⟩ := bcellB hb
      have HB := Lib.hid hb; have HW := Lib.hid hbw; have HM := Lib.hid hm
      clear hb hbw hm
      go_wp2
      refine bodyPost_ret (v := .agg #[.bool (k 0), .bool (k 1), .bool (k 2), .bool (k 3), .bool (k 4), .bool (k 5), .bool (k 6), .map (some (w.heap.size + 1 + 1))]) (by simp [results, Try.results31, go_sem, hc]) rfl ⟨_, rfl, ?_, by omega, ?_⟩
      · have := HM.out
        rw [List.take_of_length_le (Nat.le_refl _)] at this
        repeat (refine BMap.set ?_ (by simp) _)
        exact this
      · repeat (refine Below.setCell ?_ (by simp) _)
        exact HW.out
end Go.Proofs.Ytaokneooejbfkaa
