/- merge of the document, walked. -/
import Derived.Test.YtaokneooejbfkaaJoC
import Derived.WalkMore
namespace Go.Proofs.Ytaokneooejbfkaa
set_option maxRecDepth 8000
open Go.RowKit
/-- What is merged so far. -/
structure Jo.Mg (a b : List Int) (i k : Nat) (o : List Int) : Prop where
  pw : o.Pairwise (· < ·)
  mem : ∀ x, x ∈ o ↔ x ∈ a.take i ∨ x ∈ b.take k
  la : ∀ x ∈ o, ∀ y, a[i]? = some y → x < y
  lb : ∀ x ∈ o, ∀ y, b[k]? = some y → x < y
theorem Jo.pw_next {a : List Int} (h : a.Pairwise (· < ·)) {i : Nat} {x y : Int} (hx : a[i]? = some x) (hy : a[i + 1]? = some y) : x < y := by
  obtain ⟨h1, e1⟩ := List.getElem?_eq_some_iff.1 hx
  obtain ⟨h2, e2⟩ := List.getElem?_eq_some_iff.1 hy
  rw [← e1, ← e2]
  exact List.pairwise_iff_getElem.1 h i (i + 1) h1 h2 (by omega)
theorem Jo.pw_snoc {o : List Int} {x : Int} (h : o.Pairwise (· < ·)) (hx : ∀ z ∈ o, z < x) : (o ++ [x]).Pairwise (· < ·) :=
  List.pairwise_append.2 ⟨h, by simp, fun a ha b hb => by rw [List.mem_singleton.1 hb]; exact hx a ha⟩
theorem Jo.Mg.start (a b : List Int) : Jo.Mg a b 0 0 [] := ⟨.nil, by simp, by simp, by simp⟩
theorem Jo.Mg.left {a b : List Int} {i k : Nat} {o : List Int} {x : Int} (h : Jo.Mg a b i k o) (ha : a.Pairwise (· < ·)) (hx : a[i]? = some x) (hb : ∀ y, b[k]? = some y → x < y) : Jo.Mg a b (i + 1) k (o ++ [x]) := by
  refine ⟨Jo.pw_snoc h.pw fun z hz => h.la z hz x hx, fun z => ?_, fun z hz y hy => ?_, fun z hz y hy => ?_⟩
  · rw [List.mem_append, h.mem, List.take_add_one, hx, List.mem_append]
    simp only [Option.toList_some, List.mem_singleton]
    constructor
    · rintro ((h | h) | h) <;> simp [h]
    · rintro ((h | h) | h) <;> simp [h]
  · have h1 := Jo.pw_next ha hx hy
    rcases List.mem_append.1 hz with hz | hz
    · have := h.la z hz x hx; omega
    · rw [List.mem_singleton.1 hz]; exact h1
  · rcases List.mem_append.1 hz with hz | hz
    · exact h.lb z hz y hy
    · rw [List.mem_singleton.1 hz]; exact hb y hy
theorem Jo.Mg.right {a b : List Int} {i k : Nat} {o : List Int} {x : Int} (h : Jo.Mg a b i k o) (hp : b.Pairwise (· < ·)) (hx : b[k]? = some x) (hb : ∀ y, a[i]? = some y → x < y) : Jo.Mg a b i (k + 1) (o ++ [x]) := by
  refine ⟨Jo.pw_snoc h.pw fun z hz => h.lb z hz x hx, fun z => ?_, fun z hz y hy => ?_, fun z hz y hy => ?_⟩
  · rw [List.mem_append, h.mem, List.take_add_one, hx, List.mem_append]
    simp only [Option.toList_some, List.mem_singleton, or_assoc]
  · rcases List.mem_append.1 hz with hz | hz
    · exact h.la z hz y hy
    · rw [List.mem_singleton.1 hz]; exact hb y hy
  · have h1 := Jo.pw_next hp hx hy
    rcases List.mem_append.1 hz with hz | hz
    · have := h.lb z hz x hx; omega
    · rw [List.mem_singleton.1 hz]; exact h1
theorem Jo.Mg.both {a b : List Int} {i k : Nat} {o : List Int} {x : Int} (h : Jo.Mg a b i k o) (ha : a.Pairwise (· < ·)) (hp : b.Pairwise (· < ·)) (hx : a[i]? = some x) (hy : b[k]? = some x) : Jo.Mg a b (i + 1) (k + 1) (o ++ [x]) := by
  refine ⟨Jo.pw_snoc h.pw fun z hz => h.la z hz x hx, fun z => ?_, fun z hz y h2 => ?_, fun z hz y h2 => ?_⟩
  · rw [List.mem_append, h.mem, List.take_add_one, hx, List.mem_append, List.take_add_one, hy, List.mem_append]
    simp only [Option.toList_some, List.mem_singleton]
    constructor
    · rintro ((h | h) | h) <;> simp [h]
    · rintro ((h | h) | (h | h)) <;> simp [h]
  · have h1 := Jo.pw_next ha hx h2
    rcases List.mem_append.1 hz with hz | hz
    · have := h.la z hz x hx; omega
    · rw [List.mem_singleton.1 hz]; exact h1
  · have h1 := Jo.pw_next hp hy h2
    rcases List.mem_append.1 hz with hz | hz
    · have := h.lb z hz x hy; omega
    · rw [List.mem_singleton.1 hz]; exact h1
theorem Jo.Mg.done {a b o l : List Int} (h : Jo.Mg a b a.length b.length o) (hl : ∀ x, x ∈ l ↔ x ∈ a ∨ x ∈ b) : o = Jo.srt l :=
  Jo.uniq h.pw Jo.pw_srt fun x => by
    rw [h.mem, List.take_of_length_le (Nat.le_refl _), List.take_of_length_le (Nat.le_refl _), Jo.mem_srt, hl]
section
variable {md : Region.Mode} {ops : Array Oper} {Q : Exit → Act → World → Prop} {K : List Nat} {w0 w : World} {X : List Nat} {L L' : List (Nat × Array Value)} {i : Nat} {oi : Oper} {d : Tmp} {fuel : Nat} {listed : Array Bool} {a : Act}
theorem heldF (HM : Mem w0 X L' w) (hs : Sub L L' := by first | exact Sub.refl _ | (repeat (first | exact Sub.nil | exact Sub.refl _ | refine Sub.keep ?_ | refine Sub.skip ?_))) : Held (fun _ => True) (fun w' => Mem w0 X L w') K listed w := ⟨trivial, fun _ => HM.less hs⟩
end
set_option maxHeartbeats 8000000 in
theorem merge_any (Aa Ab : Option Addr) (a b l : List Int) (ca cb : Nat) (w : World) (hA : IntsAt w Aa a) (hB : IntsAt w Ab b) (pa : a.Pairwise (· < ·)) (pb : b.Pairwise (· < ·)) (la : a.length ≤ 100000) (lb : b.length ≤ 100000) (hl : ∀ x, x ∈ l ↔ x ∈ a ∨ x ∈ b) :
    Calls Try.prog 18 #[.slice Aa a.length ca, .slice Ab b.length cb] w fun e w' => ∃ s B, e = .returned s ∧ SlAt 1 s (Jo.ir (Jo.srt l)) B ∧ Mem w [] B w' := by
  have HM := Mem.start w
  have HA := Lib.hid hA
  have HB := Lib.hid hB
  have PA := Lib.hid pa
  have PB := Lib.hid pb
  have HL := Lib.hid hl
  have eli : elemB 22 3 1 8 = true := by kernel_rfl
  clear hA hB pa pb hl
  go_enter Try.func18, Try.ntmps18
  go_wp2_with (first | fail | (first | ((with_reducible refine g_ld ?_); refine a_ld HM ?_) | ((with_reducible refine g_st ?_); refine a_st HM ?_; clear HM; intro w1 HM) | ((with_reducible refine g_al ?_); refine a_al HM ?_; clear HM; intro bk w1 HM) | ((with_reducible refine g_bx ?_); refine a_bx HM ?_; clear HM; intro bk w1 HM) | ((with_reducible refine g_bld ?_); refine a_bld ?_)))
  go_loopw [5, 6, 7] (fun sv iv kv wr => ∃ (i k : Nat) (o : List Int) (B : List (Nat × Array Value)), iv = .int .i64 (i : Nat) ∧ kv = .int .i64 (k : Nat) ∧ i ≤ a.length ∧ k ≤ b.length ∧ o.length ≤ i + k ∧ Hid (Jo.Mg a b i k o) ∧ Hid (SlAt 1 sv (Jo.ir o) B) ∧ Mem w [] B wr) (fun _ iv kv _ => (a.length + b.length) - ((intOf iv).toNat + (intOf kv).toNat))
  case atStart => exact ⟨0, 0, [], [], rfl, rfl, by omega, by omega, by simp, Lib.hid (.start a b), Lib.hid .nil, HM⟩
  case round =>
    clear HM
    obtain ⟨i, k, o, B, rfl, rfl, hi, hk, hol, HG, HO, HM⟩ := hrel
    have hcap : ∀ d : Int, ((Jo.ir o).length + [#[Value.int .i64 d]].length) * (8 + 1) ≤ 140737488355328 := fun d => by rw [Jo.ir_len]; simp; omega
    by_cases hend : i = a.length ∧ k = b.length
    · obtain ⟨rfl, rfl⟩ := hend
      have he := HG.out.done HL.out
      go_wp2_with (first | fail | (first | ((with_reducible refine g_ld ?_); refine a_ld HM ?_) | ((with_reducible refine g_st ?_); refine a_st HM ?_; clear HM; intro w1 HM) | ((with_reducible refine g_al ?_); refine a_al HM ?_; clear HM; intro bk w1 HM) | ((with_reducible refine g_bx ?_); refine a_bx HM ?_; clear HM; intro bk w1 HM) | ((with_reducible refine g_bld ?_); refine a_bld ?_)))
      go_ret
      exact ⟨_, B, rfl, by rw [← he]; exact HO.out, HM⟩
    by_cases hkt : k < b.length
    · have hkb : ((k : Int) == b.length) = false := beq_eq_false_iff_ne.2 (by omega)
      have hkt1 : (k : Int) < b.length := by omega
      obtain ⟨y, hy⟩ : ∃ y, b[k]? = some y := ⟨_, List.getElem?_eq_getElem hkt⟩
      obtain ⟨bB, oB, cB, rfl, HRB, kB⟩ := HB.out.ld hy
      by_cases hit : i < a.length
      · have hit1 : (i : Int) < a.length := by omega
        have hia : ((i : Int) == a.length) = false := beq_eq_false_iff_ne.2 (by omega)
        have hid : decide ((i : Int) < a.length) = true := decide_eq_true hit1
        obtain ⟨x, hx⟩ : ∃ x, a[i]? = some x := ⟨_, List.getElem?_eq_getElem hit⟩
        obtain ⟨bA, oA, cA, rfl, HRA, kA⟩ := HA.out.ld hx
        by_cases hxy : x < y
        · have hd : decide (x < y) = true := decide_eq_true hxy
          have HG2 := Lib.hid (HG.out.left PA.out hx fun z hz => by rw [hy] at hz; injection hz with hz; omega)
          have hcap := hcap x
          clear hx hy hend
          go_upto_region 7 with (first | fail | (first | ((with_reducible refine g_ld ?_); refine a_ld HM ?_) | ((with_reducible refine g_st ?_); refine a_st HM ?_; clear HM; intro w1 HM) | ((with_reducible refine g_al ?_); refine a_al HM ?_; clear HM; intro bk w1 HM) | ((with_reducible refine g_bx ?_); refine a_bx HM ?_; clear HM; intro bk w1 HM) | ((with_reducible refine g_bld ?_); refine a_bld ?_)))
          refine start_M [] HM (by kernel_rfl) (fun w0x H9 => ?_)
          replace HM := H9; clear H9
          refine k_mv 0 (heldF HM) ?_
          refine k_mv 1 (heldF HM) ?_
          refine k_pv 2 (heldF HM) ?_
          refine k_bin 3 (heldF HM) ?_
          refine k_mv 4 (heldF HM) ?_
          refine k_mv 5 (heldF HM) ?_
          refine k_mv 6 (heldF HM) ?_
          refine k_pv 7 (heldF HM) ?_
          refine k_bin 8 (heldF HM) ?_
          refine k_mv 9 (heldF HM) ?_
          refine k_mv 10 (heldF HM) ?_
          refine k_mv 11 (heldF HM) ?_
          refine k_ia 12 (heldF HM) ?_
          refine k_ld 13 [] (heldF HM) ?_
          refine k_mv 14 (heldF HM) ?_
          refine k_mv 15 (heldF HM) ?_
          refine k_ia 16 (heldF HM) ?_
          refine k_ld 17 [] (heldF HM) ?_
          refine k_bin 18 (heldF HM) ?_
          refine k_pick 19 (heldF HM) ?_
          refine k_pick 20 (heldF HM) ?_
          refine k_mv 21 (heldF HM) ?_
          refine wpAnyL_done (by kernel_rfl) ?_ _
          go_wp2_with (first | first | ((with_reducible refine g_bs1 ?_); refine a_bs1 (c0 := #[.int .i64 x]) HM ?_; clear HM; intro bx w1 HM) | ((with_reducible refine g_app ?_); refine a_app (m := [#[.int .i64 x]]) (F := fun X => X) HM HO.out ((SlAt.made1 bx rfl).rd HM (by simp)) ?_ (Jo.ir_one [x]) (hlen := hcap); clear HM; intro s2 B2 w1 HS2 HM) | (first | ((with_reducible refine g_ld ?_); refine a_ld HM ?_) | ((with_reducible refine g_st ?_); refine a_st HM ?_; clear HM; intro w1 HM) | ((with_reducible refine g_al ?_); refine a_al HM ?_; clear HM; intro bk w1 HM) | ((with_reducible refine g_bx ?_); refine a_bx HM ?_; clear HM; intro bk w1 HM) | ((with_reducible refine g_bld ?_); refine a_bld ?_)))
          go_roundw
          case rel => exact ⟨i + 1, k, o ++ [x], B2, by go_num, rfl, by omega, by omega, by simp; omega, HG2, Lib.hid (by rw [Jo.ir_app]; exact HS2), HM⟩
          case measure => simp [intOf]; omega
        have hd : decide (x < y) = false := decide_eq_false hxy
        by_cases hyx : y < x
        · have hd2 : decide (y < x) = true := decide_eq_true hyx
          have HG2 := Lib.hid (HG.out.right PB.out hy fun z hz => by rw [hx] at hz; injection hz with hz; omega)
          have hcap := hcap y
          clear hx hy hend
          go_upto_region 7 with (first | fail | (first | ((with_reducible refine g_ld ?_); refine a_ld HM ?_) | ((with_reducible refine g_st ?_); refine a_st HM ?_; clear HM; intro w1 HM) | ((with_reducible refine g_al ?_); refine a_al HM ?_; clear HM; intro bk w1 HM) | ((with_reducible refine g_bx ?_); refine a_bx HM ?_; clear HM; intro bk w1 HM) | ((with_reducible refine g_bld ?_); refine a_bld ?_)))
          refine start_M [] HM (by kernel_rfl) (fun w0x H9 => ?_)
          replace HM := H9; clear H9
          refine k_mv 0 (heldF HM) ?_
          refine k_mv 1 (heldF HM) ?_
          refine k_pv 2 (heldF HM) ?_
          refine k_bin 3 (heldF HM) ?_
          refine k_mv 4 (heldF HM) ?_
          refine k_mv 5 (heldF HM) ?_
          refine k_mv 6 (heldF HM) ?_
          refine k_pv 7 (heldF HM) ?_
          refine k_bin 8 (heldF HM) ?_
          refine k_mv 9 (heldF HM) ?_
          refine k_mv 10 (heldF HM) ?_
          refine k_mv 11 (heldF HM) ?_
          refine k_ia 12 (heldF HM) ?_
          refine k_ld 13 [] (heldF HM) ?_
          refine k_mv 14 (heldF HM) ?_
          refine k_mv 15 (heldF HM) ?_
          refine k_ia 16 (heldF HM) ?_
          refine k_ld 17 [] (heldF HM) ?_
          refine k_bin 18 (heldF HM) ?_
          refine k_pick 19 (heldF HM) ?_
          refine k_pick 20 (heldF HM) ?_
          refine k_mv 21 (heldF HM) ?_
          refine wpAnyL_done (by kernel_rfl) ?_ _
          go_upto_region 10 with (first | fail | (first | ((with_reducible refine g_ld ?_); refine a_ld HM ?_) | ((with_reducible refine g_st ?_); refine a_st HM ?_; clear HM; intro w1 HM) | ((with_reducible refine g_al ?_); refine a_al HM ?_; clear HM; intro bk w1 HM) | ((with_reducible refine g_bx ?_); refine a_bx HM ?_; clear HM; intro bk w1 HM) | ((with_reducible refine g_bld ?_); refine a_bld ?_)))
          refine start_M [] HM (by kernel_rfl) (fun w0x H9 => ?_)
          replace HM := H9; clear H9
          refine k_mv 0 (heldF HM) ?_
          refine k_mv 1 (heldF HM) ?_
          refine k_pv 2 (heldF HM) ?_
          refine k_bin 3 (heldF HM) ?_
          refine k_mv 4 (heldF HM) ?_
          refine k_mv 5 (heldF HM) ?_
          refine k_mv 6 (heldF HM) ?_
          refine k_ia 7 (heldF HM) ?_
          refine k_ld 8 [] (heldF HM) ?_
          refine k_mv 9 (heldF HM) ?_
          refine k_mv 10 (heldF HM) ?_
          refine k_ia 11 (heldF HM) ?_
          refine k_ld 12 [] (heldF HM) ?_
          refine k_bin 13 (heldF HM) ?_
          refine k_pick 14 (heldF HM) ?_
          refine k_mv 15 (heldF HM) ?_
          refine wpAnyL_done (by kernel_rfl) ?_ _
          go_wp2_with (first | first | ((with_reducible refine g_bs1 ?_); refine a_bs1 (c0 := #[.int .i64 y]) HM ?_; clear HM; intro bx w1 HM) | ((with_reducible refine g_app ?_); refine a_app (m := [#[.int .i64 y]]) (F := fun X => X) HM HO.out ((SlAt.made1 bx rfl).rd HM (by simp)) ?_ (Jo.ir_one [y]) (hlen := hcap); clear HM; intro s2 B2 w1 HS2 HM) | (first | ((with_reducible refine g_ld ?_); refine a_ld HM ?_) | ((with_reducible refine g_st ?_); refine a_st HM ?_; clear HM; intro w1 HM) | ((with_reducible refine g_al ?_); refine a_al HM ?_; clear HM; intro bk w1 HM) | ((with_reducible refine g_bx ?_); refine a_bx HM ?_; clear HM; intro bk w1 HM) | ((with_reducible refine g_bld ?_); refine a_bld ?_)))
          go_roundw
          case rel => exact ⟨i, k + 1, o ++ [y], B2, rfl, by go_num, by omega, by omega, by simp; omega, HG2, Lib.hid (by rw [Jo.ir_app]; exact HS2), HM⟩
          case measure => simp [intOf]; omega
        · obtain rfl : x = y := by omega
          have hd2 : decide (x < x) = false := decide_eq_false hyx
          have HG2 := Lib.hid (HG.out.both PA.out PB.out hx hy)
          have hcap := hcap x
          clear hx hy hend
          go_upto_region 7 with (first | fail | (first | ((with_reducible refine g_ld ?_); refine a_ld HM ?_) | ((with_reducible refine g_st ?_); refine a_st HM ?_; clear HM; intro w1 HM) | ((with_reducible refine g_al ?_); refine a_al HM ?_; clear HM; intro bk w1 HM) | ((with_reducible refine g_bx ?_); refine a_bx HM ?_; clear HM; intro bk w1 HM) | ((with_reducible refine g_bld ?_); refine a_bld ?_)))
          refine start_M [] HM (by kernel_rfl) (fun w0x H9 => ?_)
          replace HM := H9; clear H9
          refine k_mv 0 (heldF HM) ?_
          refine k_mv 1 (heldF HM) ?_
          refine k_pv 2 (heldF HM) ?_
          refine k_bin 3 (heldF HM) ?_
          refine k_mv 4 (heldF HM) ?_
          refine k_mv 5 (heldF HM) ?_
          refine k_mv 6 (heldF HM) ?_
          refine k_pv 7 (heldF HM) ?_
          refine k_bin 8 (heldF HM) ?_
          refine k_mv 9 (heldF HM) ?_
          refine k_mv 10 (heldF HM) ?_
          refine k_mv 11 (heldF HM) ?_
          refine k_ia 12 (heldF HM) ?_
          refine k_ld 13 [] (heldF HM) ?_
          refine k_mv 14 (heldF HM) ?_
          refine k_mv 15 (heldF HM) ?_
          refine k_ia 16 (heldF HM) ?_
          refine k_ld 17 [] (heldF HM) ?_
          refine k_bin 18 (heldF HM) ?_
          refine k_pick 19 (heldF HM) ?_
          refine k_pick 20 (heldF HM) ?_
          refine k_mv 21 (heldF HM) ?_
          refine wpAnyL_done (by kernel_rfl) ?_ _
          go_upto_region 10 with (first | fail | (first | ((with_reducible refine g_ld ?_); refine a_ld HM ?_) | ((with_reducible refine g_st ?_); refine a_st HM ?_; clear HM; intro w1 HM) | ((with_reducible refine g_al ?_); refine a_al HM ?_; clear HM; intro bk w1 HM) | ((with_reducible refine g_bx ?_); refine a_bx HM ?_; clear HM; intro bk w1 HM) | ((with_reducible refine g_bld ?_); refine a_bld ?_)))
          refine start_M [] HM (by kernel_rfl) (fun w0x H9 => ?_)
          replace HM := H9; clear H9
          refine k_mv 0 (heldF HM) ?_
          refine k_mv 1 (heldF HM) ?_
          refine k_pv 2 (heldF HM) ?_
          refine k_bin 3 (heldF HM) ?_
          refine k_mv 4 (heldF HM) ?_
          refine k_mv 5 (heldF HM) ?_
          refine k_mv 6 (heldF HM) ?_
          refine k_ia 7 (heldF HM) ?_
          refine k_ld 8 [] (heldF HM) ?_
          refine k_mv 9 (heldF HM) ?_
          refine k_mv 10 (heldF HM) ?_
          refine k_ia 11 (heldF HM) ?_
          refine k_ld 12 [] (heldF HM) ?_
          refine k_bin 13 (heldF HM) ?_
          refine k_pick 14 (heldF HM) ?_
          refine k_mv 15 (heldF HM) ?_
          refine wpAnyL_done (by kernel_rfl) ?_ _
          go_wp2_with (first | first | ((with_reducible refine g_bs1 ?_); refine a_bs1 (c0 := #[.int .i64 x]) HM ?_; clear HM; intro bx w1 HM) | ((with_reducible refine g_app ?_); refine a_app (m := [#[.int .i64 x]]) (F := fun X => X) HM HO.out ((SlAt.made1 bx rfl).rd HM (by simp)) ?_ (Jo.ir_one [x]) (hlen := hcap); clear HM; intro s2 B2 w1 HS2 HM) | (first | ((with_reducible refine g_ld ?_); refine a_ld HM ?_) | ((with_reducible refine g_st ?_); refine a_st HM ?_; clear HM; intro w1 HM) | ((with_reducible refine g_al ?_); refine a_al HM ?_; clear HM; intro bk w1 HM) | ((with_reducible refine g_bx ?_); refine a_bx HM ?_; clear HM; intro bk w1 HM) | ((with_reducible refine g_bld ?_); refine a_bld ?_)))
          go_roundw
          case rel => exact ⟨i + 1, k + 1, o ++ [x], B2, by go_num, by go_num, by omega, by omega, by simp; omega, HG2, Lib.hid (by rw [Jo.ir_app]; exact HS2), HM⟩
          case measure => simp [intOf]; omega
      · obtain rfl : a.length = i := by omega
        have hd : decide ((a.length : Int) < a.length) = false := by simp
        have hcap := hcap y
        have HG2 := Lib.hid (HG.out.right PB.out hy fun z hz => by simp at hz)
        clear hy hend
        go_upto_region 7 with (first | fail | (first | ((with_reducible refine g_ld ?_); refine a_ld HM ?_) | ((with_reducible refine g_st ?_); refine a_st HM ?_; clear HM; intro w1 HM) | ((with_reducible refine g_al ?_); refine a_al HM ?_; clear HM; intro bk w1 HM) | ((with_reducible refine g_bx ?_); refine a_bx HM ?_; clear HM; intro bk w1 HM) | ((with_reducible refine g_bld ?_); refine a_bld ?_)))
        refine start_M [] HM (by kernel_rfl) (fun w0x H9 => ?_)
        replace HM := H9; clear H9
        refine k_mv 0 (heldF HM) ?_
        refine k_mv 1 (heldF HM) ?_
        refine k_pv 2 (heldF HM) ?_
        refine k_bin 3 (heldF HM) ?_
        refine k_mv 4 (heldF HM) ?_
        refine k_mv 5 (heldF HM) ?_
        refine k_mv 6 (heldF HM) ?_
        refine k_pv 7 (heldF HM) ?_
        refine k_bin 8 (heldF HM) ?_
        refine k_mv 9 (heldF HM) ?_
        refine k_off 10 (heldF HM) ?_
        refine k_off 11 (heldF HM) ?_
        refine k_off 12 (heldF HM) ?_
        refine k_off 13 (heldF HM) ?_
        refine k_off 14 (heldF HM) ?_
        refine k_off 15 (heldF HM) ?_
        refine k_off 16 (heldF HM) ?_
        refine k_off 17 (heldF HM) ?_
        refine k_off 18 (heldF HM) ?_
        refine k_pick 19 (heldF HM) ?_
        refine k_pick 20 (heldF HM) ?_
        refine k_mv 21 (heldF HM) ?_
        refine wpAnyL_done (by kernel_rfl) ?_ _
        go_upto_region 10 with (first | fail | (first | ((with_reducible refine g_ld ?_); refine a_ld HM ?_) | ((with_reducible refine g_st ?_); refine a_st HM ?_; clear HM; intro w1 HM) | ((with_reducible refine g_al ?_); refine a_al HM ?_; clear HM; intro bk w1 HM) | ((with_reducible refine g_bx ?_); refine a_bx HM ?_; clear HM; intro bk w1 HM) | ((with_reducible refine g_bld ?_); refine a_bld ?_)))
        refine start_M [] HM (by kernel_rfl) (fun w0x H9 => ?_)
        replace HM := H9; clear H9
        refine k_mv 0 (heldF HM) ?_
        refine k_mv 1 (heldF HM) ?_
        refine k_pv 2 (heldF HM) ?_
        refine k_bin 3 (heldF HM) ?_
        refine k_mv 4 (heldF HM) ?_
        refine k_off 5 (heldF HM) ?_
        refine k_off 6 (heldF HM) ?_
        refine k_off 7 (heldF HM) ?_
        refine k_off 8 (heldF HM) ?_
        refine k_off 9 (heldF HM) ?_
        refine k_off 10 (heldF HM) ?_
        refine k_off 11 (heldF HM) ?_
        refine k_off 12 (heldF HM) ?_
        refine k_off 13 (heldF HM) ?_
        refine k_pick 14 (heldF HM) ?_
        refine k_mv 15 (heldF HM) ?_
        refine wpAnyL_done (by kernel_rfl) ?_ _
        go_wp2_with (first | first | ((with_reducible refine g_bs1 ?_); refine a_bs1 (c0 := #[.int .i64 y]) HM ?_; clear HM; intro bx w1 HM) | ((with_reducible refine g_app ?_); refine a_app (m := [#[.int .i64 y]]) (F := fun X => X) HM HO.out ((SlAt.made1 bx rfl).rd HM (by simp)) ?_ (Jo.ir_one [y]) (hlen := hcap); clear HM; intro s2 B2 w1 HS2 HM) | (first | ((with_reducible refine g_ld ?_); refine a_ld HM ?_) | ((with_reducible refine g_st ?_); refine a_st HM ?_; clear HM; intro w1 HM) | ((with_reducible refine g_al ?_); refine a_al HM ?_; clear HM; intro bk w1 HM) | ((with_reducible refine g_bx ?_); refine a_bx HM ?_; clear HM; intro bk w1 HM) | ((with_reducible refine g_bld ?_); refine a_bld ?_)))
        go_roundw
        case rel => exact ⟨a.length, k + 1, o ++ [y], B2, rfl, by go_num, by omega, by omega, by simp; omega, HG2, Lib.hid (by rw [Jo.ir_app]; exact HS2), HM⟩
        case measure => simp [intOf]; omega
    · obtain rfl : b.length = k := by omega
      have hit : i < a.length := by omega
      have hit1 : (i : Int) < a.length := by omega
      obtain ⟨x, hx⟩ : ∃ x, a[i]? = some x := ⟨_, List.getElem?_eq_getElem hit⟩
      obtain ⟨bA, oA, cA, rfl, HRA, kA⟩ := HA.out.ld hx
      have HG2 := Lib.hid (HG.out.left PA.out hx fun z hz => by simp at hz)
      have hcap := hcap x
      clear hx hend
      go_upto_region 7 with (first | fail | (first | ((with_reducible refine g_ld ?_); refine a_ld HM ?_) | ((with_reducible refine g_st ?_); refine a_st HM ?_; clear HM; intro w1 HM) | ((with_reducible refine g_al ?_); refine a_al HM ?_; clear HM; intro bk w1 HM) | ((with_reducible refine g_bx ?_); refine a_bx HM ?_; clear HM; intro bk w1 HM) | ((with_reducible refine g_bld ?_); refine a_bld ?_)))
      refine start_M [] HM (by kernel_rfl) (fun w0x H9 => ?_)
      replace HM := H9; clear H9
      refine k_mv 0 (heldF HM) ?_
      refine k_mv 1 (heldF HM) ?_
      refine k_pv 2 (heldF HM) ?_
      refine k_bin 3 (heldF HM) ?_
      refine k_mv 4 (heldF HM) ?_
      refine k_off 5 (heldF HM) ?_
      refine k_off 6 (heldF HM) ?_
      refine k_off 7 (heldF HM) ?_
      refine k_off 8 (heldF HM) ?_
      refine k_off 9 (heldF HM) ?_
      refine k_off 10 (heldF HM) ?_
      refine k_off 11 (heldF HM) ?_
      refine k_off 12 (heldF HM) ?_
      refine k_off 13 (heldF HM) ?_
      refine k_off 14 (heldF HM) ?_
      refine k_off 15 (heldF HM) ?_
      refine k_off 16 (heldF HM) ?_
      refine k_off 17 (heldF HM) ?_
      refine k_off 18 (heldF HM) ?_
      refine k_off 19 (heldF HM) ?_
      refine k_pick 20 (heldF HM) ?_
      refine k_mv 21 (heldF HM) ?_
      refine wpAnyL_done (by kernel_rfl) ?_ _
      go_wp2_with (first | first | ((with_reducible refine g_bs1 ?_); refine a_bs1 (c0 := #[.int .i64 x]) HM ?_; clear HM; intro bx w1 HM) | ((with_reducible refine g_app ?_); refine a_app (m := [#[.int .i64 x]]) (F := fun X => X) HM HO.out ((SlAt.made1 bx rfl).rd HM (by simp)) ?_ (Jo.ir_one [x]) (hlen := hcap); clear HM; intro s2 B2 w1 HS2 HM) | (first | ((with_reducible refine g_ld ?_); refine a_ld HM ?_) | ((with_reducible refine g_st ?_); refine a_st HM ?_; clear HM; intro w1 HM) | ((with_reducible refine g_al ?_); refine a_al HM ?_; clear HM; intro bk w1 HM) | ((with_reducible refine g_bx ?_); refine a_bx HM ?_; clear HM; intro bk w1 HM) | ((with_reducible refine g_bld ?_); refine a_bld ?_)))
      go_roundw
      case rel => exact ⟨i + 1, b.length, o ++ [x], B2, by go_num, rfl, by omega, by omega, by simp; omega, HG2, Lib.hid (by rw [Jo.ir_app]; exact HS2), HM⟩
      case measure => simp [intOf]; omega
end Go.Proofs.Ytaokneooejbfkaa
