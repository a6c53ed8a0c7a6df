/- The scene's Assets. -/
import Derived.Test.YtadnddffdedjgaaSyH
namespace Go.Proofs.Ytadnddffdedjgaa
set_option maxRecDepth 8000
open Go.RowKit
theorem za_i : ZA 3 (ic 0) := ⟨.int .i64 0, rfl, fun w => by kernel_rfl⟩
theorem ic_sizes (A : List Int) : ∀ c ∈ A.map ic, c.size = 1 := by
  intro c hc
  obtain ⟨x, _, rfl⟩ := List.mem_map.1 hc
  rfl
theorem la_ints {A : List Int} {i : Nat} {x : Int} (h : A[i]? = some x) : LA 3 (rowsOf (A.map ic)) i (.int .i64 x) := la_i1 (ic_sizes A) (by rw [List.getElem?_map, h]; rfl)
theorem sa_ints (A : List Int) {i : Nat} (x : Int) (h : i < A.length) : SA 3 (rowsOf (A.map ic)) i (.int .i64 x) (rowsOf ((A.set i x).map ic)) := by
  have h1 : (A.map ic)[i]? = some (ic A[i]) := by rw [List.getElem?_map, List.getElem?_eq_getElem h]; rfl
  have := sa_rowone (T := 3) (n := 1) (a := 0) (l := A.map ic) (k := i) (v := .int .i64 x) (by kernel_rfl) (ic_sizes A) h1 (by decide) rfl
  rw [Nat.mul_one, Nat.add_zero] at this
  have e : (A.map ic).set i ((ic A[i]).setIfInBounds 0 (.int .i64 x)) = (A.set i x).map ic := by
    rw [List.map_set]; rfl
  rw [e] at this
  exact this
theorem rep_ints (n : Nat) : List.replicate n (ic 0) = (List.replicate n (0 : Int)).map ic := by rw [List.map_replicate]
theorem own_ints {b : Nat} {A : List Int} : SlAt 1 (.slice (some ⟨b, 0, none⟩) A.length A.length) (A.map ic) [(b, rowsOf (A.map ic))] := by
  have h := SlAt.row (n := 1) b (A.map ic) [] (by rw [List.append_nil]; exact ic_sizes A)
  rw [List.length_nil, Nat.add_zero, List.length_map, List.append_nil] at h
  exact h
def Sc.asset (neg : Bool) (a : Int) : Prop := -1000000000 ≤ a ∧ a ≤ 1000000000 ∧ (neg = false → 0 ≤ a)
set_option maxHeartbeats 4000000 in
theorem sassets_any (n : Nat) (neg : Bool) (tb m : Nat) (c : Array Value) (R : List (Nat × Array Value)) (W w : World) (HM : Mem W [] ((tb, c) :: R) w) (HC : Hid (TapeC W m c)) (hm : m ≤ 900000000000) (hn : n ≤ 8) :
    Calls Try.prog 17 #[.pointer (some ⟨tb, 0, none⟩), .int .i64 (n : Nat), .bool neg] w fun e w' => ∃ (b : Nat) (A : List Int) (c' : Array Value), e = .returned (.slice (some ⟨b, 0, none⟩) n n) ∧ A.length = n ∧ Hid (∀ a ∈ A, Sc.asset neg a) ∧ Hid (TapeC W (m + 32) c') ∧ Mem W [] ((tb, c') :: (b, rowsOf (A.map ic)) :: R) w' := by
  have H0 : Hid (Below W.heap.size W W) := Below.refl _ _
  have hle : ∀ b ∈ ([] : List Nat), W.heap.size ≤ b := by simp
  have eli : elemB 22 3 1 8 = true := by kernel_rfl
  have zi := za_i
  go_enter Try.func17, Try.ntmps17
  go_upto_region 2 with (first | ((with_reducible refine g_mks ?_); refine a_mks n HM ?_ (by omega); clear HM; intro bk w1 HM) | (first | ((with_reducible refine g_ld ?_); refine a_ld HM ?_) | ((with_reducible refine g_st ?_); refine a_st HM ?_; clear HM; intro w1 HM) | ((with_reducible refine g_al ?_); refine a_al HM ?_; clear HM; intro bk w1 HM) | ((with_reducible refine g_bx ?_); refine a_bx HM ?_; clear HM; intro bk w1 HM) | ((with_reducible refine g_bld ?_); refine a_bld ?_)))
  obtain ⟨bo, rfl⟩ := HM.nm0
  rw [rep_ints] at HM
  replace HM : Mem W [] ((tb, c) :: (bo, rowsOf ((List.replicate n (0 : Int)).map ic)) :: R) _ := HM.pick
  go_wp2_with (first | fail | (first | ((with_reducible refine g_ld ?_); refine a_ld HM ?_) | ((with_reducible refine g_st ?_); refine a_st HM ?_; clear HM; intro w1 HM) | ((with_reducible refine g_al ?_); refine a_al HM ?_; clear HM; intro bk w1 HM) | ((with_reducible refine g_bx ?_); refine a_bx HM ?_; clear HM; intro bk w1 HM) | ((with_reducible refine g_bld ?_); refine a_bld ?_)))
  go_loopw [8] (fun iv wr => ∃ (i : Nat) (A : List Int) (c1 : Array Value), iv = .int .i64 (i : Nat) ∧ i ≤ n ∧ Hid (A.length = n) ∧ Hid (∀ a ∈ A, Sc.asset neg a) ∧ Hid (TapeC W (m + 4 * i) c1) ∧ Mem W [] ((tb, c1) :: (bo, rowsOf (A.map ic)) :: R) wr) (fun iv _ => n - (intOf iv).toNat)
  case atStart => exact ⟨0, _, c, rfl, by omega, Lib.hid (by simp), Lib.hid (fun a ha => by rw [List.eq_of_mem_replicate ha]; exact ⟨by decide, by decide, fun _ => by decide⟩), HC, HM⟩
  case round =>
    clear HM HC
    obtain ⟨i, A, c1, rfl, hi, HAL, HP, HC, HM⟩ := hrel
    by_cases hlt : i < n
    · have hlt1 : (i : Int) < n := by omega
      go_wp2_with (first | fail | (first | ((with_reducible refine g_ld ?_); refine a_ld HM ?_) | ((with_reducible refine g_st ?_); refine a_st HM ?_; clear HM; intro w1 HM) | ((with_reducible refine g_al ?_); refine a_al HM ?_; clear HM; intro bk w1 HM) | ((with_reducible refine g_bx ?_); refine a_bx HM ?_; clear HM; intro bk w1 HM) | ((with_reducible refine g_bld ?_); refine a_bld ?_)))
      (refine (snext_any W tb _ _ _ (HM.tp (by ((repeat (first | exact Look.here | refine Look.there ?_)); done)) HC.out H0.out hle) (by omega) (by omega) (by omega)).mono ?_; rintro e9 w2 ⟨v, rfl, hv0, hv1, ⟨c1, hb1, hc1, -, -⟩, hg⟩; replace HM := HM.put (c' := c1) (by (repeat (first | exact At.here | apply At.there))) hb1 (Only.of_grown hg); clear hg hb1; replace HC := Lib.hid hc1; clear hc1)
      go_wp2_with (first | fail | (first | ((with_reducible refine g_ld ?_); refine a_ld HM ?_) | ((with_reducible refine g_st ?_); refine a_st HM ?_; clear HM; intro w1 HM) | ((with_reducible refine g_al ?_); refine a_al HM ?_; clear HM; intro bk w1 HM) | ((with_reducible refine g_bx ?_); refine a_bx HM ?_; clear HM; intro bk w1 HM) | ((with_reducible refine g_bld ?_); refine a_bld ?_)))
      (refine (snext_any W tb _ _ _ (HM.tp (by ((repeat (first | exact Look.here | refine Look.there ?_)); done)) HC.out H0.out hle) (by omega) (by omega) (by omega)).mono ?_; rintro e9 w2 ⟨u, rfl, hu0, hu1, ⟨c1, hb1, hc1, -, -⟩, hg⟩; replace HM := HM.put (c' := c1) (by (repeat (first | exact At.here | apply At.there))) hb1 (Only.of_grown hg); clear hg hb1; replace HC := Lib.hid hc1; clear hc1)
      go_wp2_with (first | fail | (first | ((with_reducible refine g_ld ?_); refine a_ld HM ?_) | ((with_reducible refine g_st ?_); refine a_st HM ?_; clear HM; intro w1 HM) | ((with_reducible refine g_al ?_); refine a_al HM ?_; clear HM; intro bk w1 HM) | ((with_reducible refine g_bx ?_); refine a_bx HM ?_; clear HM; intro bk w1 HM) | ((with_reducible refine g_bld ?_); refine a_bld ?_)))
      (refine (spick_new (tb := tb) (W := W) HM (by ((repeat (first | exact Look.here | refine Look.there ?_)); done)) HC.out H0.out (by first | exact hle | simpa using hle) [0, 1, 1000, v, u] _ (by omega) (by simp) (by simp)).mono ?_; rintro e9 w2 ⟨v1, c1, rfl, hv, hc1, hb1, hg⟩; replace HM := HM.put (c' := c1) (by (repeat (first | exact At.here | apply At.there))) hb1 hg; clear hg hb1; replace HC := Lib.hid hc1; clear hc1)
      have hx : 0 ≤ v1 ∧ v1 ≤ 1000000000 := by
        simp at hv
        omega
      obtain ⟨hx0, hx1⟩ := hx
      have s1 := sa_ints A (i := i) v1 (by have := HAL.out; omega)
      have HAL2 : Hid ((A.set i v1).length = n) := Lib.hid (by rw [List.length_set]; exact HAL.out)
      have HP2 : Hid (∀ a ∈ A.set i v1, Sc.asset neg a) := Lib.hid (fun a ha => by
        rcases List.mem_or_eq_of_mem_set ha with h | rfl
        · exact HP.out a h
        · exact ⟨by omega, by omega, fun _ => hx0⟩)
      clear hv
      cases neg with
      | false =>
        go_wp2_with (first | fail | (first | ((with_reducible refine g_ld ?_); refine a_ld HM ?_) | ((with_reducible refine g_st ?_); refine a_st HM ?_; clear HM; intro w1 HM) | ((with_reducible refine g_al ?_); refine a_al HM ?_; clear HM; intro bk w1 HM) | ((with_reducible refine g_bx ?_); refine a_bx HM ?_; clear HM; intro bk w1 HM) | ((with_reducible refine g_bld ?_); refine a_bld ?_)))
        go_roundw
        case rel => exact ⟨i + 1, _, _, by go_num, by omega, HAL2, HP2, Lib.hid (HC.out.mono (by omega)), HM⟩
        case measure => simp [intOf]; omega
      | true =>
        go_wp2_with (first | fail | (first | ((with_reducible refine g_ld ?_); refine a_ld HM ?_) | ((with_reducible refine g_st ?_); refine a_st HM ?_; clear HM; intro w1 HM) | ((with_reducible refine g_al ?_); refine a_al HM ?_; clear HM; intro bk w1 HM) | ((with_reducible refine g_bx ?_); refine a_bx HM ?_; clear HM; intro bk w1 HM) | ((with_reducible refine g_bld ?_); refine a_bld ?_)))
        (refine (sbool_any W tb _ 4 _ (HM.tp (by ((repeat (first | exact Look.here | refine Look.there ?_)); done)) HC.out H0.out hle) (by omega) (by omega) (by omega)).mono ?_; rintro e9 w2 ⟨g, rfl, ⟨c1, hb1, hc1, -, -⟩, hg⟩; replace HM := HM.put (c' := c1) (by (repeat (first | exact At.here | apply At.there))) hb1 (Only.of_grown hg); clear hg hb1; replace HC := Lib.hid hc1; clear hc1)
        have hget : (A.set i v1)[i]? = some v1 := by rw [List.getElem?_set]; simp; have := HAL.out; omega
        have k1 := la_ints hget
        have s2 := sa_ints (A.set i v1) (i := i) (-v1) (by have := HAL2.out; omega)
        clear hget
        cases g with
        | false =>
          go_wp2_with (first | fail | (first | ((with_reducible refine g_ld ?_); refine a_ld HM ?_) | ((with_reducible refine g_st ?_); refine a_st HM ?_; clear HM; intro w1 HM) | ((with_reducible refine g_al ?_); refine a_al HM ?_; clear HM; intro bk w1 HM) | ((with_reducible refine g_bx ?_); refine a_bx HM ?_; clear HM; intro bk w1 HM) | ((with_reducible refine g_bld ?_); refine a_bld ?_)))
          go_roundw
          case rel => exact ⟨i + 1, _, _, by go_num, by omega, HAL2, HP2, Lib.hid (HC.out.mono (by omega)), HM⟩
          case measure => simp [intOf]; omega
        | true =>
          go_wp2_with (first | fail | (first | ((with_reducible refine g_ld ?_); refine a_ld HM ?_) | ((with_reducible refine g_st ?_); refine a_st HM ?_; clear HM; intro w1 HM) | ((with_reducible refine g_al ?_); refine a_al HM ?_; clear HM; intro bk w1 HM) | ((with_reducible refine g_bx ?_); refine a_bx HM ?_; clear HM; intro bk w1 HM) | ((with_reducible refine g_bld ?_); refine a_bld ?_)))
          go_roundw
          case rel => exact ⟨i + 1, _, _, by go_num, by omega, Lib.hid (by rw [List.length_set]; exact HAL2.out), Lib.hid (fun a ha => by
            rcases List.mem_or_eq_of_mem_set ha with h | rfl
            · exact HP2.out a h
            · exact ⟨by omega, by omega, fun h => by cases h⟩), Lib.hid (HC.out.mono (by omega)), HM⟩
          case measure => simp [intOf]; omega
    · obtain rfl : i = n := by omega
      go_wp2_with (first | fail | (first | ((with_reducible refine g_ld ?_); refine a_ld HM ?_) | ((with_reducible refine g_st ?_); refine a_st HM ?_; clear HM; intro w1 HM) | ((with_reducible refine g_al ?_); refine a_al HM ?_; clear HM; intro bk w1 HM) | ((with_reducible refine g_bx ?_); refine a_bx HM ?_; clear HM; intro bk w1 HM) | ((with_reducible refine g_bld ?_); refine a_bld ?_)))
      go_ret
      exact ⟨bo, A, c1, rfl, HAL.out, HP, Lib.hid (HC.out.mono (by omega)), HM⟩
end Go.Proofs.Ytadnddffdedjgaa
