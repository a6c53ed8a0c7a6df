/- Parse undoes Format: plain. -/
import Derived.Test.YtnfojnlcclccbaaTxtD
namespace Go.Proofs.Ytnfojnlcclccbaa
set_option maxRecDepth 8000
theorem Tx.ns_str (l : List Nat) (h : ∀ c ∈ l, c < 10) : Tx.ns (Tx.str l) = l.map (· + 48) := by
  unfold Tx.ns Tx.str
  show ((l.map _).toArray.toList).map _ = _
  rw [List.toList_toArray, List.map_map]
  apply List.map_congr_left
  intro c hc
  have := h c hc
  show (UInt8.ofNat (c + 48)).toNat = c + 48
  rw [UInt8.toNat_ofNat']
  omega
theorem Tx.num_str (l : List Nat) (h : ∀ c ∈ l, c < 10) : Tx.num (Tx.ns (Tx.str l)) = Tx.val l := by
  rw [Tx.ns_str l h]
  unfold Tx.num
  rw [List.map_map]
  congr 1
  conv => rhs; rw [← List.map_id l]
  apply List.map_congr_left
  intro c _
  show c + 48 - 48 = c
  omega
/-- The text of N's digits is read as N. -/
theorem Tx.prs_dig (g : Bool) (N : Nat) (hN : N < Bg.lim) (h0 : N ≠ 0) : Tx.prs (Tx.ns (Tx.str (Tx.dig N).reverse)) g = (Bg.toZ g N, 0) := by
  have hd : ∀ c ∈ (Tx.dig N).reverse, c < 10 := fun c hc => Tx.dig_lt N c (List.mem_reverse.1 hc)
  have hn := Tx.num_str _ hd
  rw [Tx.val_dig] at hn
  have hl := Tx.lim_len hN
  obtain ⟨c, l, e, hc⟩ := Tx.dig_head h0
  have hs := Tx.ns_str _ hd
  have hb : ¬ Tx.bad (Tx.ns (Tx.str (Tx.dig N).reverse)) g := by
    unfold Tx.bad
    rw [hs, List.length_map, List.length_reverse]
    have h1 : (Tx.dig N).length ≠ 0 := by
      have := congrArg List.length e
      rw [List.length_reverse, List.length_cons] at this
      omega
    rintro (h | h | ⟨h, _⟩)
    · exact h1 h
    · omega
    · rw [e, List.map_cons, List.getElem?_cons_zero] at h
      injection h with h
      omega
  rw [Tx.prs_ok hb (by
    rw [hs]; intro d hd2
    obtain ⟨x, hx, rfl⟩ := List.mem_map.1 hd2
    have := hd x hx
    exact ⟨by omega, by omega⟩), hn, if_pos hN]
end Go.Proofs.Ytnfojnlcclccbaa

namespace Go.Proofs.Ytnfojnlcclccbaa
set_option maxRecDepth 8000
theorem Tx.cut_minus (D : ByteArray) : Tx.cut (({ data := #[45] } : ByteArray) ++ D) = (D, true) := by
  have hd : (({ data := #[45] } : ByteArray) ++ D).data.toList = 45 :: D.data.toList := by
    rw [ByteArray.data_append]; simp
  unfold Tx.cut
  rw [hd]
  have hp : Lib.hasPrefix (45 :: D.data.toList) [45] = true := by unfold Lib.hasPrefix; simp
  rw [hp]
  unfold Lib.trimPrefix
  rw [if_pos hp]
  simp
theorem Tx.cut_str (c : Nat) (l : List Nat) (hc : c < 10) : Tx.cut (Tx.str (c :: l)) = (Tx.str (c :: l), false) := by
  have hd : (Tx.str (c :: l)).data.toList = UInt8.ofNat (c + 48) :: (l.map (fun d => UInt8.ofNat (d + 48))) := by
    unfold Tx.str; simp
  have hp : Lib.hasPrefix (Tx.str (c :: l)).data.toList [45] = false := by
    rw [hd]
    unfold Lib.hasPrefix
    have hne : (45 : UInt8) ≠ UInt8.ofNat (c + 48) := by
      intro h
      have := congrArg UInt8.toNat h
      rw [UInt8.toNat_ofNat'] at this
      have h45 : (45 : UInt8).toNat = 45 := rfl
      omega
    show ((45 == UInt8.ofNat (c + 48)) && _) = false
    rw [beq_eq_false_iff_ne.2 hne]; rfl
  unfold Tx.cut
  rw [hp]
  unfold Lib.trimPrefix
  rw [hp]
  rfl
end Go.Proofs.Ytnfojnlcclccbaa

namespace Go.Proofs.Ytnfojnlcclccbaa
set_option maxRecDepth 8000
theorem Tx.prs_zero (g : Bool) (hg : g = false) : Tx.prs (Tx.ns (Tx.str [0])) g = (0, 0) := by
  subst hg
  have hs : Tx.ns (Tx.str [0]) = [48] := rfl
  have hb : ¬ Tx.bad [48] false := by unfold Tx.bad; simp
  rw [hs, Tx.prs_ok hb (by intro d hd; rw [List.mem_singleton.1 hd]; exact ⟨by omega, by omega⟩)]
  have hn : Tx.num [48] = 0 := rfl
  rw [hn, if_pos (show 0 < Bg.lim from Bg.ppos 32)]
  rfl
/-- Parse undoes Format. -/
theorem Tx.prs_txt (s : Bool) (N : Nat) (hN : N < Bg.lim) : Tx.prs (Tx.ns (Tx.cut (Tx.txt s N)).1) (Tx.cut (Tx.txt s N)).2 = (Bg.toZ s N, 0) := by
  unfold Tx.txt
  by_cases h0 : N = 0
  · rw [if_pos h0, Tx.cut_str 0 [] (by decide)]
    rw [Tx.prs_zero false rfl, h0]
    cases s <;> rfl
  · rw [if_neg h0]
    cases s with
    | true =>
      rw [if_pos rfl, Tx.cut_minus]
      exact Tx.prs_dig true N hN h0
    | false =>
      rw [if_neg Bool.false_ne_true]
      obtain ⟨c, l, e, _⟩ := Tx.dig_head h0
      have hc : c < 10 := Tx.dig_lt N c (List.mem_reverse.1 (by rw [e]; exact List.mem_cons_self))
      have := Tx.prs_dig false N hN h0
      rw [e] at this ⊢
      rw [Tx.cut_str c l hc]
      exact this
end Go.Proofs.Ytnfojnlcclccbaa
