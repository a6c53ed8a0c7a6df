/- Format undoes Parse: plain. -/
import Derived.Test.YtnfojnlcclccbaaTxtRound
namespace Go.Proofs.Ytnfojnlcclccbaa
set_option maxRecDepth 8000
theorem Tx.cut_inv {s D : ByteArray} {g : Bool} (h : (D, g) = Tx.cut s) : s = if g then ({ data := #[45] } : ByteArray) ++ D else D := by
  obtain ⟨rfl, rfl⟩ := Prod.mk.inj h
  apply ByteArray.ext
  apply Array.ext'
  unfold Lib.trimPrefix Lib.hasPrefix
  cases hl : s.data.toList with
  | nil => simp
  | cons c l =>
    by_cases hc : c = 45
    · subst hc
      have hp : List.isPrefixOf [45] (45 :: l) = true := by simp [List.isPrefixOf]
      rw [hp, if_pos rfl, if_pos rfl, ByteArray.data_append]
      simp
    · have hp : List.isPrefixOf [45] (c :: l) = false := by
        simp [List.isPrefixOf]; exact fun h => hc h.symm
      rw [hp, if_neg Bool.false_ne_true, if_neg Bool.false_ne_true]
theorem Tx.str_ns (D : ByteArray) (h : ∀ c ∈ Tx.ns D, Tx.isd c) : Tx.str ((Tx.ns D).map (· - 48)) = D := by
  apply ByteArray.ext
  apply Array.ext'
  unfold Tx.str
  show ((((Tx.ns D).map (· - 48)).map (fun d => UInt8.ofNat (d + 48))).toArray).toList = D.data.toList
  rw [List.toList_toArray, List.map_map]
  conv => rhs; rw [← List.map_id D.data.toList]
  unfold Tx.ns at h ⊢
  rw [List.map_map]
  apply List.map_congr_left
  intro x hx
  have := h x.toNat (List.mem_map.2 ⟨x, hx, rfl⟩)
  obtain ⟨h1, h2⟩ := this
  show UInt8.ofNat (x.toNat - 48 + 48) = x
  rw [Nat.sub_add_cancel h1]
  simp
/-- Format undoes Parse. -/
theorem Tx.txt_prs {s D : ByteArray} {g : Bool} {z : Int} (hD : (D, g) = Tx.cut s) (h : (z, (0 : Int)) = Tx.prs (Tx.ns D) g) : Tx.txt (decide (z < 0)) z.natAbs = s := by
  have hs := Tx.cut_inv hD
  unfold Tx.prs at h
  split at h
  · cases h
  · rename_i hb
    split at h
    · rename_i hd
      split at h
      · obtain ⟨rfl, _⟩ := Prod.mk.inj h
        have e1 := Tx.str_ns D hd
        obtain ⟨ds, hds⟩ : ∃ ds, ds = (Tx.ns D).map (· - 48) := ⟨_, rfl⟩
        have hnum : Tx.num (Tx.ns D) = Tx.val ds := by unfold Tx.num; rw [hds]
        have hlt : ∀ c ∈ ds, c < 10 := by
          intro c hc
          rw [hds] at hc
          obtain ⟨x, hx, rfl⟩ := List.mem_map.1 hc
          have := hd x hx
          unfold Tx.isd at this
          omega
        have hlen : ds.length = (Tx.ns D).length := by rw [hds, List.length_map]
        unfold Tx.bad at hb
        rw [← hds] at e1
        rw [Bg.toZ_abs, hnum]
        cases hL : Tx.ns D with
        | nil => rw [hL] at hb; exact absurd (Or.inl rfl) hb
        | cons c L =>
          rw [hL] at hb hds hlen
          have hcd := hd c (by rw [hL]; exact List.mem_cons_self)
          by_cases hc : c = 48
          · subst hc
            have hg : g = false := by
              cases g with
              | false => rfl
              | true => exact absurd (Or.inr (Or.inr ⟨rfl, Or.inl rfl⟩)) hb
            have hL0 : L = [] := by
              cases L with
              | nil => rfl
              | cons a L => exact absurd (Or.inr (Or.inr ⟨rfl, Or.inr (by simp)⟩)) hb
            subst hL0 hg
            have hds0 : ds = [0] := by rw [hds]; rfl
            rw [hds0] at e1 ⊢
            have hv : Tx.val [0] = 0 := rfl
            rw [hv]
            unfold Tx.txt
            rw [if_pos rfl, e1, hs]
            rfl
          · have hds1 : ds = (c - 48) :: L.map (· - 48) := by rw [hds]; rfl
            have hd0 := Tx.dig_val ds hlt (fun a m e => by
              rw [hds1] at e
              injection e with e1 e2
              have := hcd.1
              omega)
            have hv0 : Tx.val ds ≠ 0 := by
              intro h0
              rw [h0, Tx.dig_zero] at hd0
              rw [← hd0] at hlen
              simp at hlen
            unfold Tx.txt
            rw [if_neg hv0, hd0, e1, hs]
            have hz : decide (Bg.toZ g (Tx.val ds) < 0) = g := by
              rw [Bg.toZ_neg, decide_eq_true hv0, Bool.and_true]
            rw [hz]
      · cases h
    · cases h
end Go.Proofs.Ytnfojnlcclccbaa
