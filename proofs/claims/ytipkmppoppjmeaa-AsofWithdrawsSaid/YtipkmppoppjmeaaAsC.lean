/- Visible of both. -/
import Derived.Test.YtipkmppoppjmeaaAsB
import Derived.Test.YtipkmppoppjmeaaAsR
namespace Go.Proofs.Ytipkmppoppjmeaa
set_option maxRecDepth 8000
open Go.RowKit Go.Maps
theorem el_int : elemB 23 3 1 8 = true := by kernel_rfl
theorem el_str : elemB 29 9 1 16 = true := by kernel_rfl
def As.visR (M : List As.Mk) (k : Int) : List Int × Int := if As.ok M then ((As.vis M k).map fun i : Nat => (i : Int), 0) else ([], 130)
/-- The first i records that count. -/
def As.visN (M : List As.Mk) (k : Int) (i : Nat) : List Int := ((List.range i).filter (As.visB M k)).map fun i : Nat => (i : Int)
theorem As.visN_step {M : List As.Mk} {k : Int} {i : Nat} : As.visN M k (i + 1) = As.visN M k i ++ (if As.visB M k i then [(i : Int)] else []) := by
  unfold As.visN
  rw [List.range_succ, List.filter_append, List.map_append]
  cases h : As.visB M k i <;> simp [h]
theorem As.visN_len (M : List As.Mk) (k : Int) (i : Nat) : (As.visN M k i).length ≤ i := by
  unfold As.visN
  rw [List.length_map]
  exact Nat.le_trans (List.length_filter_le _ _) (by simp)
theorem V1_int_one (l : List Int) : ∀ c ∈ V1 (l.map (Value.int .i64)), c.all (·.oneCell') = true := V1_one (by
  intro v hv
  obtain ⟨x, _, rfl⟩ := List.mem_map.1 hv
  rfl)
theorem V1_nil : SlAt 1 (.slice none 0 0) (V1 (([] : List Int).map (Value.int .i64))) [] := .nil
set_option maxHeartbeats 4000000 in
theorem rvisible_any (sv : Value) (M : List As.Mk) (k : Int) (w : World) (hR : As.Rd w sv M) (zs : List Int) (e : Int) (hr : Hid ((zs, e) = As.visR M k)) :
    Calls Try.prog 10 #[sv, .int .i64 k] w fun r w' => ∃ s' B, r = .returned (.tuple #[s', .int .i64 e]) ∧ Hid (SlAt 1 s' (V1 (zs.map (Value.int .i64))) B) ∧ Mem w [] B w' := by
  have HM := Mem.start w
  have HR := Lib.hid hR
  obtain ⟨A, cap, rfl⟩ := hR.form
  have hML := hR.2
  have hel := el_int
  obtain ⟨e0, he0⟩ : ∃ e0, Hid (e0 = As.err M) := ⟨_, Lib.hid rfl⟩
  clear hR
  by_cases hok : As.ok M = true
  · obtain ⟨rfl, rfl⟩ : zs = As.visN M k M.length ∧ e = 0 := by
      have h := hr.out; unfold As.visR at h; rw [if_pos hok] at h; exact Prod.mk.inj h
    obtain rfl : e0 = 0 := he0.out.trans (As.err_ok hok)
    have hM4 := As.ok_len hok
    clear hok
    go_enter Try.func10, Try.ntmps10
    go_wp2_with (first | (go_at_call 17; ((with_reducible refine (rcheck_any _ M _ (As.Rd.below HR.out HM.low) 0 he0).mono ?_); rintro e9 w2 ⟨rfl, hL⟩; replace HM := HM.call hL; clear hL)) | (first | ((with_reducible refine g_ld ?_); refine a_ld HM ?_) | ((with_reducible refine g_st ?_); refine a_st HM ?_; clear HM; intro w1 HM) | ((with_reducible refine g_al ?_); refine a_al HM ?_; clear HM; intro bk w1 HM) | ((with_reducible refine g_bx ?_); refine a_bx HM ?_; clear HM; intro bk w1 HM) | ((with_reducible refine g_bld ?_); refine a_bld ?_)))
    go_loopw [7, 8] (fun ov iv wr => ∃ (i : Nat) (B : List (Nat × Array Value)), iv = .int .i64 (i : Nat) ∧ i ≤ M.length ∧ Hid (SlAt 1 ov (V1 ((As.visN M k i).map (Value.int .i64))) B) ∧ Mem w [] B wr) (fun _ iv _ => M.length - (intOf iv).toNat)
    case atStart => exact ⟨0, [], rfl, by omega, Lib.hid .nil, HM⟩
    case round =>
      clear HM
      obtain ⟨i, B, rfl, hi, HS, HM⟩ := hrel
      by_cases hlt : i < M.length
      · obtain ⟨m, hm⟩ : ∃ m, M[i]? = some m := ⟨_, List.getElem?_eq_getElem hlt⟩
        obtain ⟨b, off, cs, rfl, HB, l0, l1, l2, l3⟩ := HR.out.at_ hm
        have hlt1 : (i : Int) < M.length := by omega
        have hvb : As.visB M k i = (!m.vd && (decide (m.kn ≤ k) && decide (As.enc (As.last M k m.key M.length) = (i : Int)))) := by unfold As.visB; rw [hm]
        have hst := As.visN_step (M := M) (k := k) (i := i)
        obtain ⟨z, hz⟩ : ∃ z, Hid (z = As.enc (As.last M k m.key M.length)) := ⟨_, Lib.hid rfl⟩
        rw [← hz.out] at hvb
        have hvl := As.visN_len M k i
        clear l0 hm
        by_cases hcase : m.vd = false ∧ m.kn ≤ k ∧ z = (i : Int)
        · obtain ⟨hv, hk, rfl⟩ := hcase
          have hv1 : As.visB M k i = true := by rw [hvb, hv, decide_eq_true hk, decide_eq_true rfl]; rfl
          rw [hv1, if_pos rfl] at hst
          have HST := Lib.hid hst
          rw [hv] at l3
          have g1 : decide (m.kn ≤ k) = true := decide_eq_true hk
          have hcap : ((V1 ((As.visN M k i).map (Value.int .i64))).length + [#[Value.int .i64 (i : Int)]].length) * (8 + 1) ≤ 140737488355328 := by rw [V1_len, List.length_map]; simp; omega
          clear hst hvb hv1 hv hk hvl
          go_wp2_with (first | first
            | (go_at_call 28; ((with_reducible refine (rlast_any _ M k m.key _ (As.Rd.below HR.out HM.low) _ hz).mono ?_); rintro e9 w2 ⟨rfl, hL⟩; replace HM := HM.call hL; clear hL))
            | ((with_reducible refine g_bs1 ?_); refine a_bs1 (c0 := #[.int .i64 (i : Int)]) HM ?_; clear HM; intro bx w1 HM)
            | ((with_reducible refine g_app ?_); refine a_app (m := [#[.int .i64 (i : Int)]]) (F := fun B => B) HM HS.out ((SlAt.made1 bx rfl).rd HM (by simp)) ?_ (V1_int_one [_]) (hlen := hcap); clear HM; intro s2 B2 w1 HS2 HM) | (first | ((with_reducible refine g_ld ?_); refine a_ld HM ?_) | ((with_reducible refine g_st ?_); refine a_st HM ?_; clear HM; intro w1 HM) | ((with_reducible refine g_al ?_); refine a_al HM ?_; clear HM; intro bk w1 HM) | ((with_reducible refine g_bx ?_); refine a_bx HM ?_; clear HM; intro bk w1 HM) | ((with_reducible refine g_bld ?_); refine a_bld ?_)))
          go_roundw
          case rel => exact ⟨i + 1, B2, by go_num, by omega, Lib.hid (by rw [HST.out, List.map_append, V1_app]; exact HS2), HM⟩
          case measure => simp [intOf]; omega
        · have hv1 : As.visB M k i = false := by
            rw [hvb]
            rcases Bool.eq_false_or_eq_true m.vd with h | h
            · rw [h]; rfl
            · by_cases h2 : m.kn ≤ k
              · have h3 : ¬ z = (i : Int) := fun h3 => hcase ⟨h, h2, h3⟩
                rw [decide_eq_false h3]; simp
              · rw [decide_eq_false h2]; simp
          rw [hv1, if_neg Bool.false_ne_true, List.append_nil] at hst
          have HST := Lib.hid hst
          clear hst hvb hv1 hvl
          have hfin : Hid (SlAt 1 u7 (V1 ((As.visN M k (i + 1)).map (Value.int .i64))) B) := Lib.hid (by rw [HST.out]; exact HS.out)
          rcases Bool.eq_false_or_eq_true m.vd with h | h
          · rw [h] at l3
            clear hcase h
            go_wp2_with (first | fail | (first | ((with_reducible refine g_ld ?_); refine a_ld HM ?_) | ((with_reducible refine g_st ?_); refine a_st HM ?_; clear HM; intro w1 HM) | ((with_reducible refine g_al ?_); refine a_al HM ?_; clear HM; intro bk w1 HM) | ((with_reducible refine g_bx ?_); refine a_bx HM ?_; clear HM; intro bk w1 HM) | ((with_reducible refine g_bld ?_); refine a_bld ?_)))
            go_roundw
            case rel => exact ⟨i + 1, B, by go_num, by omega, hfin, HM⟩
            case measure => simp [intOf]; omega
          · by_cases h2 : m.kn ≤ k
            · have h3 : ((z : Int) == (i : Int)) = false := beq_eq_false_iff_ne.2 (fun h3 => hcase ⟨h, h2, h3⟩)
              rw [h] at l3
              have g1 : decide (m.kn ≤ k) = true := decide_eq_true h2
              clear hcase h h2
              go_wp2_with (first | (go_at_call 28; ((with_reducible refine (rlast_any _ M k m.key _ (As.Rd.below HR.out HM.low) _ hz).mono ?_); rintro e9 w2 ⟨rfl, hL⟩; replace HM := HM.call hL; clear hL)) | (first | ((with_reducible refine g_ld ?_); refine a_ld HM ?_) | ((with_reducible refine g_st ?_); refine a_st HM ?_; clear HM; intro w1 HM) | ((with_reducible refine g_al ?_); refine a_al HM ?_; clear HM; intro bk w1 HM) | ((with_reducible refine g_bx ?_); refine a_bx HM ?_; clear HM; intro bk w1 HM) | ((with_reducible refine g_bld ?_); refine a_bld ?_)))
              go_roundw
              case rel => exact ⟨i + 1, B, by go_num, by omega, hfin, HM⟩
              case measure => simp [intOf]; omega
            · rw [h] at l3
              have g1 : decide (m.kn ≤ k) = false := decide_eq_false h2
              clear hcase h h2
              go_wp2_with (first | fail | (first | ((with_reducible refine g_ld ?_); refine a_ld HM ?_) | ((with_reducible refine g_st ?_); refine a_st HM ?_; clear HM; intro w1 HM) | ((with_reducible refine g_al ?_); refine a_al HM ?_; clear HM; intro bk w1 HM) | ((with_reducible refine g_bx ?_); refine a_bx HM ?_; clear HM; intro bk w1 HM) | ((with_reducible refine g_bld ?_); refine a_bld ?_)))
              go_roundw
              case rel => exact ⟨i + 1, B, by go_num, by omega, hfin, HM⟩
              case measure => simp [intOf]; omega
      · obtain rfl : i = M.length := by omega
        go_wp2_with fail
        go_ret2
        exact ⟨_, B, rfl, HS, HM⟩
  · have hok := Bool.eq_false_iff.2 hok
    obtain ⟨rfl, rfl⟩ : zs = [] ∧ e = 130 := by
      have h := hr.out; unfold As.visR at h; rw [hok, if_neg Bool.false_ne_true] at h; exact Prod.mk.inj h
    obtain rfl : e0 = 130 := he0.out.trans (As.err_bad hok)
    clear hok
    go_enter Try.func10, Try.ntmps10
    go_wp2_with (first | (go_at_call 17; ((with_reducible refine (rcheck_any _ M _ (As.Rd.below HR.out HM.low) 130 he0).mono ?_); rintro e9 w2 ⟨rfl, hL⟩; replace HM := HM.call hL; clear hL)) | (first | ((with_reducible refine g_ld ?_); refine a_ld HM ?_) | ((with_reducible refine g_st ?_); refine a_st HM ?_; clear HM; intro w1 HM) | ((with_reducible refine g_al ?_); refine a_al HM ?_; clear HM; intro bk w1 HM) | ((with_reducible refine g_bx ?_); refine a_bx HM ?_; clear HM; intro bk w1 HM) | ((with_reducible refine g_bld ?_); refine a_bld ?_)))
    go_ret2
    exact ⟨_, [], rfl, Lib.hid .nil, HM⟩
/-- What was seen, sorted: the records that count. -/
theorem As.seen_sort {M : List As.Mk} {k : Int} {S : List (ByteArray × Nat)} (hn : (S.map (·.1)).Nodup) (h : ∀ s i, (s, i) ∈ S ↔ As.cnt M k M.length s = some i) : (S.map fun p => ((p.2 : Nat) : Int)).mergeSort (fun x y => decide (x ≤ y)) = (As.vis M k).map fun i : Nat => (i : Int) := by
  refine As.sort_ints ?_ ?_ ?_
  · have h2 : S.Pairwise (fun p q => p.1 ≠ q.1) := List.pairwise_map.1 hn
    refine List.pairwise_map.2 (h2.imp_of_mem ?_)
    rintro ⟨s, i⟩ ⟨t, j⟩ hp hq hne e
    simp only at hne e
    have e2 : i = j := by omega
    subst e2
    exact hne (As.cnt_inj ((h s i).1 hp) ((h t i).1 hq))
  · exact List.pairwise_map.2 ((As.vis_sorted M k).imp (fun h => by omega))
  · intro x
    rw [List.mem_map, List.mem_map]
    constructor
    · rintro ⟨⟨s, i⟩, hp, rfl⟩
      exact ⟨i, As.mem_vis.2 ⟨s, (h s i).1 hp⟩, rfl⟩
    · rintro ⟨i, hi, rfl⟩
      obtain ⟨s, hs⟩ := As.mem_vis.1 hi
      exact ⟨(s, i), (h s i).2 hs, rfl⟩
theorem IRng.nodup {w : World} {b r n : Nat} {f : ByteArray → Option Nat} {S : List (ByteArray × Nat)} {cnt : Nat} (h : IRng w b r n f S cnt) : (S.map (·.1)).Nodup := by
  obtain ⟨D, left, h1, h2, h3, _⟩ := h; exact h3
theorem As.seen_len {M : List As.Mk} {k : Int} {S : List (ByteArray × Nat)} (hn : (S.map (·.1)).Nodup) (h : ∀ p ∈ S, As.cnt M k M.length p.1 = some p.2) : S.length ≤ M.length := by
  have hnd : (S.map (·.2)).Nodup := by
    have h2 : S.Pairwise (fun p q => p.1 ≠ q.1) := List.pairwise_map.1 hn
    refine List.pairwise_map.2 (h2.imp_of_mem ?_)
    intro p q hp hq hne e
    exact hne (As.cnt_inj (h p hp) (e ▸ h q hq))
  have hsub : (S.map (·.2)) ⊆ List.range M.length := by
    intro i hi
    obtain ⟨p, hp, rfl⟩ := List.mem_map.1 hi
    have := (As.cnt_some (h p hp)).1
    exact List.mem_range.2 (As.last_some this).1
  have := List.Nodup.length_le_of_subset hnd hsub
  simpa using this
theorem IRng.vals {w : World} {b r n : Nat} {f : ByteArray → Option Nat} {S : List (ByteArray × Nat)} {cnt : Nat} (h : IRng w b r n f S cnt) : ∀ p ∈ S, f p.1 = some p.2 := by
  obtain ⟨D, left, h1, h2, h3, h4, _⟩ := h; exact h4
set_option maxHeartbeats 4000000 in
theorem visible_any (sv : Value) (M : List As.Mk) (k : Int) (w : World) (hR : As.Rd w sv M) (zs : List Int) (e : Int) (hr : Hid ((zs, e) = As.visR M k)) :
    Calls Try.prog 9 #[sv, .int .i64 k] w fun r w' => ∃ s' B, r = .returned (.tuple #[s', .int .i64 e]) ∧ Hid (SlAt 1 s' (V1 (zs.map (Value.int .i64))) B) ∧ Mem w [] B w' := by
  have HM := Mem.start w
  have HR := Lib.hid hR
  obtain ⟨A, cap, rfl⟩ := hR.form
  have hML := hR.2
  have hel := el_int
  obtain ⟨e0, he0⟩ : ∃ e0, Hid (e0 = As.err M) := ⟨_, Lib.hid rfl⟩
  clear hR
  by_cases hok : As.ok M = true
  · obtain ⟨rfl, rfl⟩ : zs = (As.vis M k).map (fun i : Nat => (i : Int)) ∧ e = 0 := by
      have h := hr.out; unfold As.visR at h; rw [if_pos hok] at h; exact Prod.mk.inj h
    obtain rfl : e0 = 0 := he0.out.trans (As.err_ok hok)
    have hM4 := As.ok_len hok
    have HOK := Lib.hid hok
    clear hok
    go_enter Try.func9, Try.ntmps9
    go_wp2_with (first | first
      | (go_at_call 16; ((with_reducible refine (check_any _ M _ (As.Rd.below HR.out HM.low) 0 he0).mono ?_); rintro e9 w2 ⟨rfl, hL⟩; replace HM := HM.call hL; clear hL))
      | (go_at_call 26; refine (counting_any _ M k _ (As.Rd.below HR.out HM.low) HOK.out).mono ?_; rintro e9 w2 ⟨bm, n, rfl, HI, hble, hL⟩; replace hble := Nat.le_trans HM.only.size hble; replace HM := HM.call hL; clear hL)
      | ((with_reducible refine g_rng ?_); refine a_rng HI.out ?_; intro r w1 cnt HG hr9 hL; replace hr9 := Nat.le_trans HM.only.size hr9; replace HM := HM.call hL; clear hL HI) | (first | ((with_reducible refine g_ld ?_); refine a_ld HM ?_) | ((with_reducible refine g_st ?_); refine a_st HM ?_; clear HM; intro w1 HM) | ((with_reducible refine g_al ?_); refine a_al HM ?_; clear HM; intro bk w1 HM) | ((with_reducible refine g_bx ?_); refine a_bx HM ?_; clear HM; intro bk w1 HM) | ((with_reducible refine g_bld ?_); refine a_bld ?_)))
    go_loopw [7] (fun ov wr => ∃ (S : List (ByteArray × Nat)) (c : Nat) (B : List (Nat × Array Value)), Hid (IRng wr bm r n (As.cnt M k M.length) S c) ∧ Hid (SlAt 1 ov (V1 ((S.map fun p => ((p.2 : Nat) : Int)).map (Value.int .i64))) B) ∧ Mem w [] B wr) (fun _ wr => wr.rangeLeft bm r)
    case atStart => exact ⟨[], _, [], Lib.hid HG, Lib.hid .nil, HM⟩
    case round =>
      clear HM HG
      obtain ⟨S, c, B, HG, HS, HM⟩ := hrel
      have hlS := As.seen_len HG.out.nodup HG.out.vals
      have hcap : ∀ i : Nat, ((V1 ((S.map fun p => ((p.2 : Nat) : Int)).map (Value.int .i64))).length + [#[Value.int .i64 (i : Int)]].length) * (8 + 1) ≤ 140737488355328 := fun i => by rw [V1_len, List.length_map, List.length_map]; simp; omega
      have HCAP := Lib.hid hcap
      have hsl : (S.map fun p => ((p.2 : Nat) : Int)).length ≤ 1000000000 := by rw [List.length_map]; omega
      have HSL := Lib.hid hsl
      have hleft := HG.out.left_eq
      clear hcap hlS hsl
      go_wp2_with (first | first
        | ((with_reducible refine g_nx ?_); refine a_nx HG.out ?_ ?_; (intro hc0 hfin); rotate_left; (intro s i w1 c2 HG2 hlt hg hsz hfi hen; replace HM := HM.side hg hr9 (fun p hp => (HG.out.ne (HM.blk p hp)).2); have HW := HM; replace HM := HW.rebase; replace HG2 := Lib.hid HG2; clear hg hsz hfi HSL); rotate_left)
        | ((with_reducible refine g_bs1 ?_); refine a_bs1 (c0 := #[.int .i64 (i : Int)]) HM ?_; clear HM; intro bx w1 HM)
        | ((with_reducible refine g_app ?_); refine a_app (m := [#[.int .i64 (i : Int)]]) (F := fun B => B) HM HS.out ((SlAt.made1 bx rfl).rd HM (by simp)) ?_ (V1_int_one [_]) (hlen := HCAP.out i); clear HM; intro s2 B2 w1 HS2 HM)
        | (go_at_call 27; refine (sortI_any _ _ HM HS.out HSL.out (Lib.hid (As.seen_sort HG.out.nodup hfin.out))).mono ?_; rintro e9 w2 ⟨rfl, B2, HS2, HM2⟩) | (first | ((with_reducible refine g_ld ?_); refine a_ld HM ?_) | ((with_reducible refine g_st ?_); refine a_st HM ?_; clear HM; intro w1 HM) | ((with_reducible refine g_al ?_); refine a_al HM ?_; clear HM; intro bk w1 HM) | ((with_reducible refine g_bx ?_); refine a_bx HM ?_; clear HM; intro bk w1 HM) | ((with_reducible refine g_bld ?_); refine a_bld ?_)))
      · go_ret2
        exact ⟨_, B2, rfl, Lib.hid HS2, HM2⟩
      · have HG3 := HG2.out.kept (HM.stay HG2.out.lt.1 (fun p hp => (HG2.out.ne (HW.blk p hp)).1)) (HM.stay HG2.out.lt.2 (fun p hp => (HG2.out.ne (HW.blk p hp)).2))
        go_roundw
        case rel => exact ⟨S ++ [(s, i)], c2, B2, Lib.hid HG3, Lib.hid (by rw [List.map_append, List.map_append, V1_app]; exact HS2), HW.trans HM⟩
        case measure => rw [HG3.left_eq, HG.out.left_eq]; exact hlt
  · have hok := Bool.eq_false_iff.2 hok
    obtain ⟨rfl, rfl⟩ : zs = [] ∧ e = 130 := by
      have h := hr.out; unfold As.visR at h; rw [hok, if_neg Bool.false_ne_true] at h; exact Prod.mk.inj h
    obtain rfl : e0 = 130 := he0.out.trans (As.err_bad hok)
    clear hok
    go_enter Try.func9, Try.ntmps9
    go_wp2_with (first | (go_at_call 16; ((with_reducible refine (check_any _ M _ (As.Rd.below HR.out HM.low) 130 he0).mono ?_); rintro e9 w2 ⟨rfl, hL⟩; replace HM := HM.call hL; clear hL)) | (first | ((with_reducible refine g_ld ?_); refine a_ld HM ?_) | ((with_reducible refine g_st ?_); refine a_st HM ?_; clear HM; intro w1 HM) | ((with_reducible refine g_al ?_); refine a_al HM ?_; clear HM; intro bk w1 HM) | ((with_reducible refine g_bx ?_); refine a_bx HM ?_; clear HM; intro bk w1 HM) | ((with_reducible refine g_bld ?_); refine a_bld ?_)))
    go_ret2
    exact ⟨_, [], rfl, Lib.hid .nil, HM⟩
end Go.Proofs.Ytipkmppoppjmeaa
