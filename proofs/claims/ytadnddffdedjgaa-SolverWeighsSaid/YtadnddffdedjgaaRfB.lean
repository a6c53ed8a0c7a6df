/- The document's reach, walked. -/
import Derived.Test.YtadnddffdedjgaaRfA
namespace Go.Proofs.Ytadnddffdedjgaa
set_option maxRecDepth 8000
open Go.RowKit
/-- Row i of bools. -/
noncomputable def bR (n : Nat) (r : Nat → Nat → Bool) (i : Nat) : Array Value := rowsOf (So.ol (fun j => bc (r i j)) n)
theorem bR_congr {n : Nat} {r q : Nat → Nat → Bool} {i : Nat} (h : ∀ j, j < n → r i j = q i j) : bR n r i = bR n q i := by
  unfold bR; rw [ol_congr fun j hj => by rw [h j hj]]
set_option maxRecDepth 100000 in
set_option maxHeartbeats 8000000 in
theorem rreach_any (us hs : Value) (U : List Int) (H : List (List Int)) (w : World) (hR : RdN w us hs U H) (hG : Ns.Good U H) :
    Calls Try.prog 65 #[.agg #[us, hs]] w fun e w' => ∃ sv, e = .returned sv ∧ Hid (RdG 1 w' sv U.length fun i j => bc (Ns.rch U.length (Ns.gh H) i j)) ∧ Below w.heap.size w w' := by
  have HM := Mem.start w
  have HR := Lib.hid hR
  have HG := Lib.hid hG
  obtain ⟨n, hn⟩ : ∃ n, Hid (n = U.length) := ⟨_, Lib.hid rfl⟩
  obtain ⟨h, hh⟩ : ∃ h, Hid (h = Ns.gh H) := ⟨_, Lib.hid rfl⟩
  have hn8 : n ≤ 8 := by rw [hn.out]; exact hG.sh.1
  have HHL : Hid (H.length = n) := Lib.hid (by rw [hn.out]; exact hG.sh.2)
  have HRW : Hid (∀ (i : Nat) (l : List Int), H[i]? = some l → l.length = n) := Lib.hid (fun i (l : List Int) hl => by
    have hi := (List.getElem?_eq_some_iff.1 hl).1
    have := hG.row i (by have := hG.sh.2; omega)
    rw [List.getD_eq_getElem?_getD, hl] at this
    rw [hn.out]; exact this)
  rw [← hn.out, ← hh.out]
  obtain ⟨Au, cu, rfl⟩ := hR.u.form
  obtain ⟨Ah, ch, rfl⟩ := hR.h.form
  have elb : elemB 79 4 1 1 = true := by kernel_rfl
  have elbb : elemB 100 79 1 24 = true := by kernel_rfl
  have zb := za_b
  have zsb := za_sb
  rw [HHL.out, ← hn.out]
  rw [HHL.out, ← hn.out] at HR
  have n0 := la_n0 (.slice Au n cu) (.slice Ah n ch)
  have n1 := la_n1 (.slice Au n cu) (.slice Ah n ch)
  clear hR hG
  go_enter Try.func65, Try.ntmps65
  go_upto_region 3 with (first | ((with_reducible refine g_mks ?_); refine a_mks n HM ?_ (by omega); clear HM; intro bo w1 HM) | (first | ((with_reducible refine g_ld ?_); refine a_ld HM ?_) | ((with_reducible refine g_st ?_); refine a_st HM ?_; clear HM; intro w1 HM) | ((with_reducible refine g_al ?_); refine a_al HM ?_; clear HM; intro bk w1 HM) | ((with_reducible refine g_bx ?_); refine a_bx HM ?_; clear HM; intro bk w1 HM) | ((with_reducible refine g_bld ?_); refine a_bld ?_)))
  replace HM : Mem w [] ((bk, #[.slice Au n cu, .slice Ah n ch]) :: (bo, rowsOf (List.replicate n (vc (.slice none 0 0)))) :: (NF [] (bR n (Ns.wst h 0 0 0)) ++ [])) _ := HM.pick
  rw [rep_vals] at HM
  go_wp2_with (first | fail | (first | ((with_reducible refine g_ld ?_); refine a_ld HM ?_) | ((with_reducible refine g_st ?_); refine a_st HM ?_; clear HM; intro w1 HM) | ((with_reducible refine g_al ?_); refine a_al HM ?_; clear HM; intro bk w1 HM) | ((with_reducible refine g_bx ?_); refine a_bx HM ?_; clear HM; intro bk w1 HM) | ((with_reducible refine g_bld ?_); refine a_bld ?_)))
  go_loopw [5] (fun iv wr => ∃ (i : Nat) (rb : List Nat), iv = .int .i64 (i : Nat) ∧ i ≤ n ∧ Hid (rb.length = i) ∧ Mem w [] ((bk, #[.slice Au n cu, .slice (Ah) n ch]) :: (bo, rowsOf ((rv n rb ++ List.replicate (n - i) (Value.slice none 0 0)).map vc)) :: (NF rb (bR n (Ns.wst h 0 0 0)) ++ [])) wr) (fun iv _ => n - (intOf iv).toNat)
  case atStart => exact ⟨0, [], rfl, by omega, Lib.hid rfl, HM⟩
  case round =>
    clear HM
    obtain ⟨i, rb, rfl, hi, HRL, HM⟩ := hrel
    by_cases hit : i < n
    · have hit1 : (i : Int) < n := by omega
      have hrl : i < (rv n rb ++ List.replicate (n - i) (Value.slice none 0 0)).length := by
        rw [List.length_append, List.length_replicate]
        have : (rv n rb).length = i := by simp [rv, HRL.out]
        omega
      go_upto_region 7 with (first | first | ((with_reducible refine g_mks ?_); refine a_mks n HM ?_ (by omega); clear HM; intro br w1 HM) | ((with_reducible refine g_st ?_); refine a_st HM ?_ (hv := sa_valsB _ (.slice (some ⟨br, 0, none⟩) n n) hrl rfl); clear HM; intro w1 HM) | (first | ((with_reducible refine g_ld ?_); refine a_ld HM ?_) | ((with_reducible refine g_st ?_); refine a_st HM ?_; clear HM; intro w1 HM) | ((with_reducible refine g_al ?_); refine a_al HM ?_; clear HM; intro bk w1 HM) | ((with_reducible refine g_bx ?_); refine a_bx HM ?_; clear HM; intro bk w1 HM) | ((with_reducible refine g_bld ?_); refine a_bld ?_)))
      rw [rv_step HRL.out hit] at HM
      replace HM : Mem w [] ((br, rowsOf (List.replicate n (bc false))) :: (bk, #[.slice Au n cu, .slice (Ah) n ch]) :: (bo, rowsOf ((rv n (rb ++ [br]) ++ List.replicate (n - (i + 1)) (Value.slice none 0 0)).map vc)) :: (NF rb (bR n (Ns.wst h 0 0 0)) ++ [])) _ := HM.pick
      rw [rep_bools] at HM
      obtain ⟨l, hl⟩ : ∃ l, H[i]? = some l := ⟨_, List.getElem?_eq_getElem (by rw [HHL.out]; exact hit)⟩
      obtain ⟨bh, offh, csh, A2, c2, rfl, HBH, kh, HL⟩ := HR.out.h.at_ hl
      have hll := HRW.out i l hl
      rw [hll] at kh HL
      have HLL := Lib.hid hll
      have HLI := Lib.hid hl
      have lv : LA 79 (rowsOf ((rv n (rb ++ [br]) ++ List.replicate (n - (i + 1)) (Value.slice none 0 0)).map vc)) i (.slice (some ⟨br, 0, none⟩) n n) := la_valsB (by
        rw [List.getElem?_append_left (by simp [rv, HRL.out])]
        unfold rv
        rw [List.getElem?_map, List.getElem?_append_right (by rw [HRL.out]; exact Nat.le_refl _), HRL.out, Nat.sub_self]; rfl)
      clear hl hll hrl
      go_wp2_with (first | fail | (first | ((with_reducible refine g_ld ?_); refine a_ld HM ?_) | ((with_reducible refine g_st ?_); refine a_st HM ?_; clear HM; intro w1 HM) | ((with_reducible refine g_al ?_); refine a_al HM ?_; clear HM; intro bk w1 HM) | ((with_reducible refine g_bx ?_); refine a_bx HM ?_; clear HM; intro bk w1 HM) | ((with_reducible refine g_bld ?_); refine a_bld ?_)))
      go_loopw [6] (fun jv wr => ∃ j : Nat, jv = .int .i64 (j : Nat) ∧ j ≤ n ∧ Mem w [] ((br, rowsOf (So.ol (fun b => bc (decide (b < j) && Ns.wst h 0 0 0 i b)) n)) :: (bk, #[.slice Au n cu, .slice (some ⟨bh, offh, none⟩) n ch]) :: (bo, rowsOf ((rv n (rb ++ [br]) ++ List.replicate (n - (i + 1)) (Value.slice none 0 0)).map vc)) :: (NF rb (bR n (Ns.wst h 0 0 0)) ++ [])) wr) (fun jv _ => n - (intOf jv).toNat)
      case atStart =>
        refine ⟨0, rfl, by omega, ?_⟩
        have e : So.ol (fun _ => bc false) n = So.ol (fun b => bc (decide (b < 0) && Ns.wst h 0 0 0 i b)) n := ol_congr fun b _ => by simp
        rw [← e]; exact HM
      case round =>
        clear HM
        obtain ⟨j, rfl, hj, HM⟩ := hrel
        by_cases hjt : j < n
        · have hjt1 : (j : Int) < n := by omega
          obtain ⟨x, hx⟩ : ∃ x, l[j]? = some x := ⟨_, List.getElem?_eq_getElem (by rw [HLL.out]; exact hjt)⟩
          have ex := Ns.gh_at HLI.out hx
          obtain ⟨b3, off3, cs3, rfl, HB3, k3⟩ := HL.out.at_ hx
          rw [← hh.out] at ex
          have sb : ∀ v, Ns.wst h 0 0 0 i j = v → SA 4 (rowsOf (So.ol (fun b => bc (decide (b < j) && Ns.wst h 0 0 0 i b)) n)) j (.bool v) (rowsOf (So.ol (fun b => bc (decide (b < j + 1) && Ns.wst h 0 0 0 i b)) n)) := fun v hv => by
            refine sa_bo1 _ _ hjt (by simp [hv]) fun b hb => ?_
            have e : decide (b < j + 1) = decide (b < j) := decide_eq_decide.2 (by omega)
            rw [e]
          by_cases e : i = j
          · have ht := sb true (by rw [Ns.wst_start]; simp [e])
            have he : ((i : Int) == j) = true := by simp [e]
            clear hx ex sb k3 e
            go_upto_region 10 with (first | fail | (first | ((with_reducible refine g_ld ?_); refine a_ld HM ?_) | ((with_reducible refine g_st ?_); refine a_st HM ?_; clear HM; intro w1 HM) | ((with_reducible refine g_al ?_); refine a_al HM ?_; clear HM; intro bk w1 HM) | ((with_reducible refine g_bx ?_); refine a_bx HM ?_; clear HM; intro bk w1 HM) | ((with_reducible refine g_bld ?_); refine a_bld ?_)))
            refine start_M [20] HM (by kernel_rfl) (fun w0x H9 => ?_)
            replace HM := H9; clear H9
            refine k_mv 0 (heldF HM) ?_
            refine k_mv 1 (heldF HM) ?_
            refine k_ia 2 (heldF HM) ?_
            refine k_ld 3 [19, 20] (heldF HM) ?_
            refine k_mv 4 (heldF HM) ?_
            refine k_mv 5 (heldF HM) ?_
            refine k_mv 6 (heldF HM) ?_
            refine t_pure (i := 7) (v := .bool true) rfl rfl (by kernel_rfl) (fun _ _ _ h => h) (heldF HM) (by rfl) ?_ ?_; (focus ((intro w9; first | (go_simp; done) | (go_simp; rfl)))); ((try simp only [List.setIfInBounds_toArray]); (try simp only [List.set_cons_succ]); (try simp only [List.set_cons_zero]))
            refine k_mv 8 (heldF HM) ?_
            refine k_off 9 (heldF HM) ?_
            refine k_off 10 (heldF HM) ?_
            refine k_off 11 (heldF HM) ?_
            refine k_off 12 (heldF HM) ?_
            refine k_off 13 (heldF HM) ?_
            refine k_off 14 (heldF HM) ?_
            refine k_off 15 (heldF HM) ?_
            refine k_off 16 (heldF HM) ?_
            refine k_off 17 (heldF HM) ?_
            refine k_pick 18 (heldF HM) ?_
            refine k_ia 19 (heldF HM) ?_
            refine j_one 20 fun K9 hK9 => ?_
            refine j_st HM ?_; clear HM; intro w1 HM
            refine hK9 _ _ heldN ?_; clear hK9 K9
            refine wpAnyL_done (by kernel_rfl) ?_ _
            go_wp2_with fail
            go_roundw
            case rel => exact ⟨j + 1, by go_num, by omega, HM⟩
            case measure => simp [intOf]; omega
          · have he : ((i : Int) == j) = false := by simp; omega
            by_cases hx0 : 0 < x
            · have ht := sb true (by rw [Ns.wst_start, ex]; simp [hx0])
              clear hx ex sb e
              go_upto_region 10 with (first | fail | (first | ((with_reducible refine g_ld ?_); refine a_ld HM ?_) | ((with_reducible refine g_st ?_); refine a_st HM ?_; clear HM; intro w1 HM) | ((with_reducible refine g_al ?_); refine a_al HM ?_; clear HM; intro bk w1 HM) | ((with_reducible refine g_bx ?_); refine a_bx HM ?_; clear HM; intro bk w1 HM) | ((with_reducible refine g_bld ?_); refine a_bld ?_)))
              refine start_M [20] HM (by kernel_rfl) (fun w0x H9 => ?_)
              replace HM := H9; clear H9
              refine k_mv 0 (heldF HM) ?_
              refine k_mv 1 (heldF HM) ?_
              refine k_ia 2 (heldF HM) ?_
              refine k_ld 3 [19, 20] (heldF HM) ?_
              refine k_mv 4 (heldF HM) ?_
              refine k_mv 5 (heldF HM) ?_
              refine k_mv 6 (heldF HM) ?_
              refine t_pure (i := 7) (v := .bool false) rfl rfl (by kernel_rfl) (fun _ _ _ h => h) (heldF HM) (by rfl) ?_ ?_; (focus ((intro w9; first | (go_simp; done) | (go_simp; rfl)))); ((try simp only [List.setIfInBounds_toArray]); (try simp only [List.set_cons_succ]); (try simp only [List.set_cons_zero]))
              refine k_mv 8 (heldF HM) ?_
              refine k_fa 9 (heldF HM) ?_
              refine k_ld 10 [12, 13, 15, 16, 17, 18, 19, 20] (heldF HM) ?_
              refine k_mv 11 (heldF HM) ?_
              refine k_ia 12 (heldF HM) ?_
              refine k_ld 13 [15, 16, 17, 18, 19, 20] (heldF HM) ?_
              refine k_mv 14 (heldF HM) ?_
              refine k_ia 15 (heldF HM) ?_
              refine k_ld 16 [17, 18, 19, 20] (heldF HM) ?_
              refine t_pure (i := 17) (v := .bool true) rfl rfl (by kernel_rfl) (fun _ _ _ h => h) (heldF HM) (by rfl) ?_ ?_; (focus ((intro w9; first | (go_simp; done) | (go_simp; rfl)))); ((try simp only [List.setIfInBounds_toArray]); (try simp only [List.set_cons_succ]); (try simp only [List.set_cons_zero]))
              refine k_pick 18 (heldF HM) ?_
              refine k_ia 19 (heldF HM) ?_
              refine j_one 20 fun K9 hK9 => ?_
              refine j_st HM ?_; clear HM; intro w1 HM
              refine hK9 _ _ heldN ?_; clear hK9 K9
              refine wpAnyL_done (by kernel_rfl) ?_ _
              go_wp2_with fail
              go_roundw
              case rel => exact ⟨j + 1, by go_num, by omega, HM⟩
              case measure => simp [intOf]; omega
            · have ht := sb false (by rw [Ns.wst_start, ex]; simp [hx0, e])
              have hx1 : x ≤ 0 := by omega
              clear hx ex sb e
              go_upto_region 10 with (first | fail | (first | ((with_reducible refine g_ld ?_); refine a_ld HM ?_) | ((with_reducible refine g_st ?_); refine a_st HM ?_; clear HM; intro w1 HM) | ((with_reducible refine g_al ?_); refine a_al HM ?_; clear HM; intro bk w1 HM) | ((with_reducible refine g_bx ?_); refine a_bx HM ?_; clear HM; intro bk w1 HM) | ((with_reducible refine g_bld ?_); refine a_bld ?_)))
              refine start_M [20] HM (by kernel_rfl) (fun w0x H9 => ?_)
              replace HM := H9; clear H9
              refine k_mv 0 (heldF HM) ?_
              refine k_mv 1 (heldF HM) ?_
              refine k_ia 2 (heldF HM) ?_
              refine k_ld 3 [19, 20] (heldF HM) ?_
              refine k_mv 4 (heldF HM) ?_
              refine k_mv 5 (heldF HM) ?_
              refine k_mv 6 (heldF HM) ?_
              refine t_pure (i := 7) (v := .bool false) rfl rfl (by kernel_rfl) (fun _ _ _ h => h) (heldF HM) (by rfl) ?_ ?_; (focus ((intro w9; first | (go_simp; done) | (go_simp; rfl)))); ((try simp only [List.setIfInBounds_toArray]); (try simp only [List.set_cons_succ]); (try simp only [List.set_cons_zero]))
              refine k_mv 8 (heldF HM) ?_
              refine k_fa 9 (heldF HM) ?_
              refine k_ld 10 [12, 13, 15, 16, 17, 18, 19, 20] (heldF HM) ?_
              refine k_mv 11 (heldF HM) ?_
              refine k_ia 12 (heldF HM) ?_
              refine k_ld 13 [15, 16, 17, 18, 19, 20] (heldF HM) ?_
              refine k_mv 14 (heldF HM) ?_
              refine k_ia 15 (heldF HM) ?_
              refine k_ld 16 [17, 18, 19, 20] (heldF HM) ?_
              refine t_pure (i := 17) (v := .bool false) rfl rfl (by kernel_rfl) (fun _ _ _ h => h) (heldF HM) (by rfl) ?_ ?_; (focus ((intro w9; first | (go_simp; done) | (go_simp; rfl)))); ((try simp only [List.setIfInBounds_toArray]); (try simp only [List.set_cons_succ]); (try simp only [List.set_cons_zero]))
              refine k_pick 18 (heldF HM) ?_
              refine k_ia 19 (heldF HM) ?_
              refine j_one 20 fun K9 hK9 => ?_
              refine j_st HM ?_; clear HM; intro w1 HM
              refine hK9 _ _ heldN ?_; clear hK9 K9
              refine wpAnyL_done (by kernel_rfl) ?_ _
              go_wp2_with fail
              go_roundw
              case rel => exact ⟨j + 1, by go_num, by omega, HM⟩
              case measure => simp [intOf]; omega
        · obtain rfl : n = j := by omega
          go_wp2_with fail
          go_roundw
          case rel =>
            refine ⟨i + 1, rb ++ [br], by go_num, by omega, Lib.hid (by simp [HRL.out]), ?_⟩
            have e : So.ol (fun b => bc (decide (b < n) && Ns.wst h 0 0 0 i b)) n = So.ol (fun b => bc (Ns.wst h 0 0 0 i b)) n := ol_congr fun b hb => by simp [hb]
            rw [e] at HM
            have e2 := NF_add (rb := rb) (F := bR n (Ns.wst h 0 0 0)) br
            rw [HRL.out] at e2
            rw [e2]
            exact HM.pushRow [_, _]
          case measure => simp [intOf]; omega
    · obtain rfl : n = i := by omega
      rw [Nat.sub_self, List.replicate_zero, List.append_nil] at HM
      go_wp2_with (first | fail | (first | ((with_reducible refine g_ld ?_); refine a_ld HM ?_) | ((with_reducible refine g_st ?_); refine a_st HM ?_; clear HM; intro w1 HM) | ((with_reducible refine g_al ?_); refine a_al HM ?_; clear HM; intro bk w1 HM) | ((with_reducible refine g_bx ?_); refine a_bx HM ?_; clear HM; intro bk w1 HM) | ((with_reducible refine g_bld ?_); refine a_bld ?_)))
      go_loopw [7] (fun kv wr => ∃ k : Nat, kv = .int .i64 (k : Nat) ∧ k ≤ n ∧ Mem w [] ((bk, #[.slice Au n cu, .slice (Ah) n ch]) :: (bo, rowsOf ((rv n rb).map vc)) :: (NF rb (bR n (Ns.wst h k 0 0)) ++ [])) wr) (fun kv _ => n - (intOf kv).toNat)
      case atStart => exact ⟨0, rfl, by omega, HM⟩
      case round =>
        clear HM
        obtain ⟨k, rfl, hk, HM⟩ := hrel
        by_cases hkt : k < n
        · have hkt1 : (k : Int) < n := by omega
          go_wp2_with (first | fail | (first | ((with_reducible refine g_ld ?_); refine a_ld HM ?_) | ((with_reducible refine g_st ?_); refine a_st HM ?_; clear HM; intro w1 HM) | ((with_reducible refine g_al ?_); refine a_al HM ?_; clear HM; intro bk w1 HM) | ((with_reducible refine g_bx ?_); refine a_bx HM ?_; clear HM; intro bk w1 HM) | ((with_reducible refine g_bld ?_); refine a_bld ?_)))
          go_loopw [8] (fun iv wr => ∃ i : Nat, iv = .int .i64 (i : Nat) ∧ i ≤ n ∧ Mem w [] ((bk, #[.slice Au n cu, .slice (Ah) n ch]) :: (bo, rowsOf ((rv n rb).map vc)) :: (NF rb (bR n (Ns.wst h k i 0)) ++ [])) wr) (fun iv _ => n - (intOf iv).toNat)
          case atStart => exact ⟨0, rfl, by omega, HM⟩
          case round =>
            clear HM
            obtain ⟨i, rfl, hi, HM⟩ := hrel
            by_cases hit : i < n
            · have hit1 : (i : Int) < n := by omega
              go_wp2_with (first | fail | (first | ((with_reducible refine g_ld ?_); refine a_ld HM ?_) | ((with_reducible refine g_st ?_); refine a_st HM ?_; clear HM; intro w1 HM) | ((with_reducible refine g_al ?_); refine a_al HM ?_; clear HM; intro bk w1 HM) | ((with_reducible refine g_bx ?_); refine a_bx HM ?_; clear HM; intro bk w1 HM) | ((with_reducible refine g_bld ?_); refine a_bld ?_)))
              go_loopw [9] (fun jv wr => ∃ j : Nat, jv = .int .i64 (j : Nat) ∧ j ≤ n ∧ Mem w [] ((bk, #[.slice Au n cu, .slice (Ah) n ch]) :: (bo, rowsOf ((rv n rb).map vc)) :: (NF rb (bR n (Ns.wst h k i j)) ++ [])) wr) (fun jv _ => n - (intOf jv).toNat)
              case atStart => exact ⟨0, rfl, by omega, HM⟩
              case round =>
                clear HM
                obtain ⟨j, rfl, hj, HM⟩ := hrel
                by_cases hjt : j < n
                · have hjt1 : (j : Int) < n := by omega
                  obtain ⟨bi, hbi⟩ : ∃ b, rb[i]? = some b := ⟨_, List.getElem?_eq_getElem (by rw [HRL.out]; exact hit)⟩
                  obtain ⟨bj, hbj⟩ : ∃ b, rb[k]? = some b := ⟨_, List.getElem?_eq_getElem (by rw [HRL.out]; exact hkt)⟩
                  have lvi : LA 79 (rowsOf ((rv n rb).map vc)) i (.slice (some ⟨bi, 0, none⟩) n n) := la_valsB (by unfold rv; rw [List.getElem?_map, hbi]; rfl)
                  have lvk : LA 79 (rowsOf ((rv n rb).map vc)) k (.slice (some ⟨bj, 0, none⟩) n n) := la_valsB (by unfold rv; rw [List.getElem?_map, hbj]; rfl)
                  obtain ⟨x, hx⟩ : ∃ x, Hid (x = Ns.wst h k i j i j) := ⟨_, Lib.hid rfl⟩
                  obtain ⟨y, hy⟩ : ∃ x, Hid (x = Ns.wst h k i j i k) := ⟨_, Lib.hid rfl⟩
                  obtain ⟨z, hz⟩ : ∃ x, Hid (x = Ns.wst h k i j k j) := ⟨_, Lib.hid rfl⟩
                  have lx : LA 4 (bR n (Ns.wst h k i j) i) j (.bool x) := by rw [hx.out]; exact la_bo1 _ hjt
                  have ly : LA 4 (bR n (Ns.wst h k i j) i) k (.bool y) := by rw [hy.out]; exact la_bo1 _ hkt
                  have lz : LA 4 (bR n (Ns.wst h k i j) k) j (.bool z) := by rw [hz.out]; exact la_bo1 _ hjt
                  have sb : SA 4 (bR n (Ns.wst h k i j) i) j (.bool (x || (y && z))) (bR n (Ns.wst h k i (j + 1)) i) := sa_bo1 _ _ hjt (by rw [Ns.wst_new, hx.out, hy.out, hz.out]) fun b hb => Ns.wst_old (by omega)
                  have es := fun (q : Array Value) (hq : q = bR n (Ns.wst h k i (j + 1)) i) => (by rw [hq]; exact NF_set (F := bR n (Ns.wst h k i j)) (G := bR n (Ns.wst h k i (j + 1))) hbi fun a ha hne => bR_congr fun b _ => Ns.wst_old (by omega) : (NF rb (bR n (Ns.wst h k i j))).set i (bi, q) = NF rb (bR n (Ns.wst h k i (j + 1))))
                  have ES := Lib.hid (es _ rfl)
                  clear es
                  by_cases e : k = i
                  · subst e
                    obtain rfl : bi = bj := by rw [hbi] at hbj; injection hbj
                    have hidx : k < (NF rb (bR n (Ns.wst h k k j))).length := by rw [NF_len, HRL.out]; exact hkt
                    have HM2 := HM.openRow [_, _] (NF_at hbi)
                    clear HM
                    have HM := HM2
                    clear HM2
                    replace HM : Mem w [] ((bi, bR n (Ns.wst h k k j) k) :: (bk, #[.slice Au n cu, .slice (Ah) n ch]) :: (bo, rowsOf ((rv n rb).map vc)) :: ((NF rb (bR n (Ns.wst h k k j))).eraseIdx k ++ [])) _ := HM
                    obtain rfl : z = x := by rw [hz.out, hx.out]
                    clear lz
                    have HIX := Lib.hid hidx
                    clear hbi hbj hidx hx hy hz
                    go_upto_region 20 with (first | fail | (first | ((with_reducible refine g_ld ?_); refine a_ld HM ?_) | ((with_reducible refine g_st ?_); refine a_st HM ?_; clear HM; intro w1 HM) | ((with_reducible refine g_al ?_); refine a_al HM ?_; clear HM; intro bk w1 HM) | ((with_reducible refine g_bx ?_); refine a_bx HM ?_; clear HM; intro bk w1 HM) | ((with_reducible refine g_bld ?_); refine a_bld ?_)))
                    cases z
                    · cases y
                      ·
                        replace sb : SA 4 _ j (.bool false) _ := sb
                        refine start_M [31] HM (by kernel_rfl) (fun w0x H9 => ?_)
                        replace HM := H9; clear H9
                        refine k_mv 0 (heldF HM) ?_
                        refine k_mv 1 (heldF HM) ?_
                        refine k_ia 2 (heldF HM) ?_
                        refine k_ld 3 [30, 31] (heldF HM) ?_
                        refine k_mv 4 (heldF HM) ?_
                        refine k_mv 5 (heldF HM) ?_
                        refine k_mv 6 (heldF HM) ?_
                        refine k_ia 7 (heldF HM) ?_
                        refine k_ld 8 [10, 11, 12, 13, 14, 15, 16, 17, 18, 19, 20, 21, 22, 23, 24, 25, 26, 27, 28, 29, 30, 31] (heldF HM) ?_
                        refine k_mv 9 (heldF HM) ?_
                        refine k_ia 10 (heldF HM) ?_
                        refine k_ld 11 [12, 13, 14, 15, 16, 17, 18, 19, 20, 21, 22, 23, 24, 25, 26, 27, 28, 29, 30, 31] (heldF HM) ?_
                        refine k_mv 12 (heldF HM) ?_
                        refine k_mv 13 (heldF HM) ?_
                        refine k_mv 14 (heldF HM) ?_
                        refine k_ia 15 (heldF HM) ?_
                        refine k_ld 16 [18, 19, 20, 21, 22, 23, 24, 25, 26, 27, 28, 29, 30, 31] (heldF HM) ?_
                        refine k_mv 17 (heldF HM) ?_
                        refine k_ia 18 (heldF HM) ?_
                        refine k_ld 19 [20, 21, 22, 23, 24, 25, 26, 27, 28, 29, 30, 31] (heldF HM) ?_
                        refine k_mv 20 (heldF HM) ?_
                        refine k_off 21 (heldF HM) ?_
                        refine k_off 22 (heldF HM) ?_
                        refine k_off 23 (heldF HM) ?_
                        refine k_off 24 (heldF HM) ?_
                        refine k_off 25 (heldF HM) ?_
                        refine k_off 26 (heldF HM) ?_
                        refine k_off 27 (heldF HM) ?_
                        refine k_pick 28 (heldF HM) ?_
                        refine k_pick 29 (heldF HM) ?_
                        refine k_ia 30 (heldF HM) ?_
                        refine j_one 31 fun K9 hK9 => ?_
                        refine j_st HM ?_; clear HM; intro w1 HM
                        refine hK9 _ _ heldN ?_; clear hK9 K9
                        refine wpAnyL_done (by kernel_rfl) ?_ _
                        go_wp2_with fail
                        go_roundw
                        case rel => exact ⟨j + 1, by go_num, by omega, (by have := HM.closeRow [_, _] HIX.out; rw [ES.out] at this; exact this)⟩
                        case measure => simp [intOf]; omega
                      ·
                        replace sb : SA 4 _ j (.bool false) _ := sb
                        refine start_M [31] HM (by kernel_rfl) (fun w0x H9 => ?_)
                        replace HM := H9; clear H9
                        refine k_mv 0 (heldF HM) ?_
                        refine k_mv 1 (heldF HM) ?_
                        refine k_ia 2 (heldF HM) ?_
                        refine k_ld 3 [30, 31] (heldF HM) ?_
                        refine k_mv 4 (heldF HM) ?_
                        refine k_mv 5 (heldF HM) ?_
                        refine k_mv 6 (heldF HM) ?_
                        refine k_ia 7 (heldF HM) ?_
                        refine k_ld 8 [10, 11, 12, 13, 14, 15, 16, 17, 18, 19, 20, 21, 22, 23, 24, 25, 26, 27, 28, 29, 30, 31] (heldF HM) ?_
                        refine k_mv 9 (heldF HM) ?_
                        refine k_ia 10 (heldF HM) ?_
                        refine k_ld 11 [12, 13, 14, 15, 16, 17, 18, 19, 20, 21, 22, 23, 24, 25, 26, 27, 28, 29, 30, 31] (heldF HM) ?_
                        refine k_mv 12 (heldF HM) ?_
                        refine k_mv 13 (heldF HM) ?_
                        refine k_mv 14 (heldF HM) ?_
                        refine k_ia 15 (heldF HM) ?_
                        refine k_ld 16 [18, 19, 20, 21, 22, 23, 24, 25, 26, 27, 28, 29, 30, 31] (heldF HM) ?_
                        refine k_mv 17 (heldF HM) ?_
                        refine k_ia 18 (heldF HM) ?_
                        refine k_ld 19 [20, 21, 22, 23, 24, 25, 26, 27, 28, 29, 30, 31] (heldF HM) ?_
                        refine k_mv 20 (heldF HM) ?_
                        refine k_mv 21 (heldF HM) ?_
                        refine k_mv 22 (heldF HM) ?_
                        refine k_ia 23 (heldF HM) ?_
                        refine k_ld 24 [26, 27, 28, 29, 30, 31] (heldF HM) ?_
                        refine k_mv 25 (heldF HM) ?_
                        refine k_ia 26 (heldF HM) ?_
                        refine k_ld 27 [28, 29, 30, 31] (heldF HM) ?_
                        refine k_pick 28 (heldF HM) ?_
                        refine k_pick 29 (heldF HM) ?_
                        refine k_ia 30 (heldF HM) ?_
                        refine j_one 31 fun K9 hK9 => ?_
                        refine j_st HM ?_; clear HM; intro w1 HM
                        refine hK9 _ _ heldN ?_; clear hK9 K9
                        refine wpAnyL_done (by kernel_rfl) ?_ _
                        go_wp2_with fail
                        go_roundw
                        case rel => exact ⟨j + 1, by go_num, by omega, (by have := HM.closeRow [_, _] HIX.out; rw [ES.out] at this; exact this)⟩
                        case measure => simp [intOf]; omega
                    ·
                      replace sb : SA 4 _ j (.bool true) _ := sb
                      refine start_M [31] HM (by kernel_rfl) (fun w0x H9 => ?_)
                      replace HM := H9; clear H9
                      refine k_mv 0 (heldF HM) ?_
                      refine k_mv 1 (heldF HM) ?_
                      refine k_ia 2 (heldF HM) ?_
                      refine k_ld 3 [30, 31] (heldF HM) ?_
                      refine k_mv 4 (heldF HM) ?_
                      refine k_mv 5 (heldF HM) ?_
                      refine k_mv 6 (heldF HM) ?_
                      refine k_ia 7 (heldF HM) ?_
                      refine k_ld 8 [10, 11, 12, 13, 14, 15, 16, 17, 18, 19, 20, 21, 22, 23, 24, 25, 26, 27, 28, 29, 30, 31] (heldF HM) ?_
                      refine k_mv 9 (heldF HM) ?_
                      refine k_ia 10 (heldF HM) ?_
                      refine k_ld 11 [12, 13, 14, 15, 16, 17, 18, 19, 20, 21, 22, 23, 24, 25, 26, 27, 28, 29, 30, 31] (heldF HM) ?_
                      refine k_mv 12 (heldF HM) ?_
                      refine k_off 13 (heldF HM) ?_
                      refine k_off 14 (heldF HM) ?_
                      refine k_off 15 (heldF HM) ?_
                      refine k_off 16 (heldF HM) ?_
                      refine k_off 17 (heldF HM) ?_
                      refine k_off 18 (heldF HM) ?_
                      refine k_off 19 (heldF HM) ?_
                      refine k_off 20 (heldF HM) ?_
                      refine k_off 21 (heldF HM) ?_
                      refine k_off 22 (heldF HM) ?_
                      refine k_off 23 (heldF HM) ?_
                      refine k_off 24 (heldF HM) ?_
                      refine k_off 25 (heldF HM) ?_
                      refine k_off 26 (heldF HM) ?_
                      refine k_off 27 (heldF HM) ?_
                      refine k_off 28 (heldF HM) ?_
                      refine k_pick 29 (heldF HM) ?_
                      refine k_ia 30 (heldF HM) ?_
                      refine j_one 31 fun K9 hK9 => ?_
                      refine j_st HM ?_; clear HM; intro w1 HM
                      refine hK9 _ _ heldN ?_; clear hK9 K9
                      refine wpAnyL_done (by kernel_rfl) ?_ _
                      go_wp2_with fail
                      go_roundw
                      case rel => exact ⟨j + 1, by go_num, by omega, (by have := HM.closeRow [_, _] HIX.out; rw [ES.out] at this; exact this)⟩
                      case measure => simp [intOf]; omega
                  · obtain ⟨rest, HM2, hcl⟩ := HM.openTwo [_, _] (NF_at hbi) (NF_at hbj) e
                    clear HM
                    have HM := HM2
                    clear HM2
                    replace HM : Mem w [] ((bi, bR n (Ns.wst h k i j) i) :: (bj, bR n (Ns.wst h k i j) k) :: (bk, #[.slice Au n cu, .slice (Ah) n ch]) :: (bo, rowsOf ((rv n rb).map vc)) :: (rest ++ [])) _ := HM
                    have HCL := Lib.hid hcl
                    clear hcl hbi hbj hx hy hz e
                    go_upto_region 20 with (first | fail | (first | ((with_reducible refine g_ld ?_); refine a_ld HM ?_) | ((with_reducible refine g_st ?_); refine a_st HM ?_; clear HM; intro w1 HM) | ((with_reducible refine g_al ?_); refine a_al HM ?_; clear HM; intro bk w1 HM) | ((with_reducible refine g_bx ?_); refine a_bx HM ?_; clear HM; intro bk w1 HM) | ((with_reducible refine g_bld ?_); refine a_bld ?_)))
                    cases x
                    · cases y
                      ·
                        replace sb : SA 4 _ j (.bool false) _ := sb
                        refine start_M [31] HM (by kernel_rfl) (fun w0x H9 => ?_)
                        replace HM := H9; clear H9
                        refine k_mv 0 (heldF HM) ?_
                        refine k_mv 1 (heldF HM) ?_
                        refine k_ia 2 (heldF HM) ?_
                        refine k_ld 3 [30, 31] (heldF HM) ?_
                        refine k_mv 4 (heldF HM) ?_
                        refine k_mv 5 (heldF HM) ?_
                        refine k_mv 6 (heldF HM) ?_
                        refine k_ia 7 (heldF HM) ?_
                        refine k_ld 8 [10, 11, 12, 13, 14, 15, 16, 17, 18, 19, 20, 21, 22, 23, 24, 25, 26, 27, 28, 29, 30, 31] (heldF HM) ?_
                        refine k_mv 9 (heldF HM) ?_
                        refine k_ia 10 (heldF HM) ?_
                        refine k_ld 11 [12, 13, 14, 15, 16, 17, 18, 19, 20, 21, 22, 23, 24, 25, 26, 27, 28, 29, 30, 31] (heldF HM) ?_
                        refine k_mv 12 (heldF HM) ?_
                        refine k_mv 13 (heldF HM) ?_
                        refine k_mv 14 (heldF HM) ?_
                        refine k_ia 15 (heldF HM) ?_
                        refine k_ld 16 [18, 19, 20, 21, 22, 23, 24, 25, 26, 27, 28, 29, 30, 31] (heldF HM) ?_
                        refine k_mv 17 (heldF HM) ?_
                        refine k_ia 18 (heldF HM) ?_
                        refine k_ld 19 [20, 21, 22, 23, 24, 25, 26, 27, 28, 29, 30, 31] (heldF HM) ?_
                        refine k_mv 20 (heldF HM) ?_
                        refine k_off 21 (heldF HM) ?_
                        refine k_off 22 (heldF HM) ?_
                        refine k_off 23 (heldF HM) ?_
                        refine k_off 24 (heldF HM) ?_
                        refine k_off 25 (heldF HM) ?_
                        refine k_off 26 (heldF HM) ?_
                        refine k_off 27 (heldF HM) ?_
                        refine k_pick 28 (heldF HM) ?_
                        refine k_pick 29 (heldF HM) ?_
                        refine k_ia 30 (heldF HM) ?_
                        refine j_one 31 fun K9 hK9 => ?_
                        refine j_st HM ?_; clear HM; intro w1 HM
                        refine hK9 _ _ heldN ?_; clear hK9 K9
                        refine wpAnyL_done (by kernel_rfl) ?_ _
                        go_wp2_with fail
                        go_roundw
                        case rel => exact ⟨j + 1, by go_num, by omega, (by have := HCL.out _ _ HM; rw [ES.out] at this; exact this)⟩
                        case measure => simp [intOf]; omega
                      ·
                        replace sb : SA 4 _ j (.bool z) _ := sb
                        refine start_M [31] HM (by kernel_rfl) (fun w0x H9 => ?_)
                        replace HM := H9; clear H9
                        refine k_mv 0 (heldF HM) ?_
                        refine k_mv 1 (heldF HM) ?_
                        refine k_ia 2 (heldF HM) ?_
                        refine k_ld 3 [30, 31] (heldF HM) ?_
                        refine k_mv 4 (heldF HM) ?_
                        refine k_mv 5 (heldF HM) ?_
                        refine k_mv 6 (heldF HM) ?_
                        refine k_ia 7 (heldF HM) ?_
                        refine k_ld 8 [10, 11, 12, 13, 14, 15, 16, 17, 18, 19, 20, 21, 22, 23, 24, 25, 26, 27, 28, 29, 30, 31] (heldF HM) ?_
                        refine k_mv 9 (heldF HM) ?_
                        refine k_ia 10 (heldF HM) ?_
                        refine k_ld 11 [12, 13, 14, 15, 16, 17, 18, 19, 20, 21, 22, 23, 24, 25, 26, 27, 28, 29, 30, 31] (heldF HM) ?_
                        refine k_mv 12 (heldF HM) ?_
                        refine k_mv 13 (heldF HM) ?_
                        refine k_mv 14 (heldF HM) ?_
                        refine k_ia 15 (heldF HM) ?_
                        refine k_ld 16 [18, 19, 20, 21, 22, 23, 24, 25, 26, 27, 28, 29, 30, 31] (heldF HM) ?_
                        refine k_mv 17 (heldF HM) ?_
                        refine k_ia 18 (heldF HM) ?_
                        refine k_ld 19 [20, 21, 22, 23, 24, 25, 26, 27, 28, 29, 30, 31] (heldF HM) ?_
                        refine k_mv 20 (heldF HM) ?_
                        refine k_mv 21 (heldF HM) ?_
                        refine k_mv 22 (heldF HM) ?_
                        refine k_ia 23 (heldF HM) ?_
                        refine k_ld 24 [26, 27, 28, 29, 30, 31] (heldF HM) ?_
                        refine k_mv 25 (heldF HM) ?_
                        refine k_ia 26 (heldF HM) ?_
                        refine k_ld 27 [28, 29, 30, 31] (heldF HM) ?_
                        refine k_pick 28 (heldF HM) ?_
                        refine k_pick 29 (heldF HM) ?_
                        refine k_ia 30 (heldF HM) ?_
                        refine j_one 31 fun K9 hK9 => ?_
                        refine j_st HM ?_; clear HM; intro w1 HM
                        refine hK9 _ _ heldN ?_; clear hK9 K9
                        refine wpAnyL_done (by kernel_rfl) ?_ _
                        go_wp2_with fail
                        go_roundw
                        case rel => exact ⟨j + 1, by go_num, by omega, (by have := HCL.out _ _ HM; rw [ES.out] at this; exact this)⟩
                        case measure => simp [intOf]; omega
                    ·
                      replace sb : SA 4 _ j (.bool true) _ := sb
                      refine start_M [31] HM (by kernel_rfl) (fun w0x H9 => ?_)
                      replace HM := H9; clear H9
                      refine k_mv 0 (heldF HM) ?_
                      refine k_mv 1 (heldF HM) ?_
                      refine k_ia 2 (heldF HM) ?_
                      refine k_ld 3 [30, 31] (heldF HM) ?_
                      refine k_mv 4 (heldF HM) ?_
                      refine k_mv 5 (heldF HM) ?_
                      refine k_mv 6 (heldF HM) ?_
                      refine k_ia 7 (heldF HM) ?_
                      refine k_ld 8 [10, 11, 12, 13, 14, 15, 16, 17, 18, 19, 20, 21, 22, 23, 24, 25, 26, 27, 28, 29, 30, 31] (heldF HM) ?_
                      refine k_mv 9 (heldF HM) ?_
                      refine k_ia 10 (heldF HM) ?_
                      refine k_ld 11 [12, 13, 14, 15, 16, 17, 18, 19, 20, 21, 22, 23, 24, 25, 26, 27, 28, 29, 30, 31] (heldF HM) ?_
                      refine k_mv 12 (heldF HM) ?_
                      refine k_off 13 (heldF HM) ?_
                      refine k_off 14 (heldF HM) ?_
                      refine k_off 15 (heldF HM) ?_
                      refine k_off 16 (heldF HM) ?_
                      refine k_off 17 (heldF HM) ?_
                      refine k_off 18 (heldF HM) ?_
                      refine k_off 19 (heldF HM) ?_
                      refine k_off 20 (heldF HM) ?_
                      refine k_off 21 (heldF HM) ?_
                      refine k_off 22 (heldF HM) ?_
                      refine k_off 23 (heldF HM) ?_
                      refine k_off 24 (heldF HM) ?_
                      refine k_off 25 (heldF HM) ?_
                      refine k_off 26 (heldF HM) ?_
                      refine k_off 27 (heldF HM) ?_
                      refine k_off 28 (heldF HM) ?_
                      refine k_pick 29 (heldF HM) ?_
                      refine k_ia 30 (heldF HM) ?_
                      refine j_one 31 fun K9 hK9 => ?_
                      refine j_st HM ?_; clear HM; intro w1 HM
                      refine hK9 _ _ heldN ?_; clear hK9 K9
                      refine wpAnyL_done (by kernel_rfl) ?_ _
                      go_wp2_with fail
                      go_roundw
                      case rel => exact ⟨j + 1, by go_num, by omega, (by have := HCL.out _ _ HM; rw [ES.out] at this; exact this)⟩
                      case measure => simp [intOf]; omega
                · obtain rfl : n = j := by omega
                  go_wp2_with fail
                  go_roundw
                  case rel =>
                    refine ⟨i + 1, by go_num, by omega, ?_⟩
                    rw [NF_congr (G := bR n (Ns.wst h k (i + 1) 0)) fun a _ => bR_congr fun b hb => Ns.wst_row hb] at HM
                    exact HM
                  case measure => simp [intOf]; omega
            · obtain rfl : n = i := by omega
              go_wp2_with fail
              go_roundw
              case rel =>
                refine ⟨k + 1, by go_num, by omega, ?_⟩
                rw [NF_congr (G := bR n (Ns.wst h (k + 1) 0 0)) fun a ha => bR_congr fun b _ => Ns.wst_mat (by rw [HRL.out] at ha; exact ha)] at HM
                exact HM
              case measure => simp [intOf]; omega
        · obtain rfl : n = k := by omega
          go_wp2_with fail
          go_ret
          refine ⟨_, rfl, Lib.hid ?_, HM.low⟩
          rw [NF_congr (G := bR n (Ns.rch n h)) fun a ha => bR_congr fun b hb => Ns.wst_done (by rw [HRL.out] at ha; exact ha) hb] at HM
          exact rdG_own (F := fun i j => bc (Ns.rch n h i j)) HM HRL.out (fun _ _ => rfl) (by simp) (fun q hq => by
            have : q ∈ NF rb (bR n (Ns.rch n h)) := hq
            simp [this])
end Go.Proofs.Ytadnddffdedjgaa
