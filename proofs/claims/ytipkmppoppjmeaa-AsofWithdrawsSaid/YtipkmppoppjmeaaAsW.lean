/- The law AsofUnique: plain, and walked. -/
import Derived.Test.YtipkmppoppjmeaaAsV
namespace Go.Proofs.Ytipkmppoppjmeaa
set_option maxRecDepth 8000
open Go.RowKit Go.Maps
namespace As
theorem vis_at {M : List Mk} {k : Int} {i x : Nat} (h : (vis M k)[i]? = some x) : ∃ m, M[x]? = some m ∧ m.vd = false ∧ m.kn ≤ k ∧ cnt M k M.length m.key = some x ∧ ∀ j mj, x < j → M[j]? = some mj → ¬ (mj.kn ≤ k ∧ mj.key = m.key) := by
  obtain ⟨s, hs⟩ := mem_vis.1 (List.mem_of_getElem? h)
  obtain ⟨h1, m, hm, h2, rfl, h4⟩ := cnt_some hs
  refine ⟨m, hm, h4, h2, hs, fun j mj hj hmj hh => ?_⟩
  exact (last_some h1).2.2 j hj (List.getElem?_eq_some_iff.1 hmj).1 ⟨mj, hmj, hh.1, hh.2⟩
theorem vis_lt {M : List Mk} {k : Int} {i j x y : Nat} (hij : i < j) (hx : (vis M k)[i]? = some x) (hy : (vis M k)[j]? = some y) : x < y := by
  obtain ⟨hi, rfl⟩ := List.getElem?_eq_some_iff.1 hx
  obtain ⟨hj, rfl⟩ := List.getElem?_eq_some_iff.1 hy
  exact List.pairwise_iff_getElem.1 (vis_sorted M k) i j hi hj hij
theorem findR_ok {M : List Mk} {k : Int} {s : ByteArray} {x : Nat} (h : As.ok M = true) (hc : cnt M k M.length s = some x) : (x, true, (0 : Int)) = findR M k s := by unfold findR; rw [if_pos h, hc]; rfl
end As
theorem RdS.cellV {w : World} {A : Option Addr} {n cap : Nat} {L : List Nat} (h : RdS 1 w (.slice A n cap) (Is (L.map fun i : Nat => (i : Int)))) {i x : Nat} (hi : L[i]? = some x) : ∃ b off, A = some ⟨b, off, none⟩ ∧ w.cell? ⟨b, off + i, none⟩ = some (.int .i64 (x : Nat)) :=
  RdS.cellI h (by rw [List.getElem?_map, hi]; rfl)
theorem RdS.cellV2 {w : World} {b off n cap : Nat} {L : List Nat} (h : RdS 1 w (.slice (some ⟨b, off, none⟩) n cap) (Is (L.map fun i : Nat => (i : Int)))) {i x : Nat} (hi : L[i]? = some x) : w.cell? ⟨b, off + i, none⟩ = some (.int .i64 (x : Nat)) := by
  obtain ⟨b3, off3, e3, c2⟩ := h.cellV hi
  injection e3 with e3
  injection e3 with e3 e4 e5
  subst e3 e4
  exact c2
theorem As.Rd.cells2 {w : World} {b off n cap : Nat} {M : List As.Mk} (h : As.Rd w (.slice (some ⟨b, off, none⟩) n cap) M) {i : Nat} {m : As.Mk} (hm : M[i]? = some m) :
    w.cell? ⟨b, off + i * 3, none⟩ = some (.string m.key) ∧ w.cell? ⟨b, off + i * 3 + 1, none⟩ = some (.int .i64 m.kn) ∧ w.cell? ⟨b, off + i * 3 + 2, none⟩ = some (.bool m.vd) := by
  obtain ⟨b3, off3, e3, c2⟩ := h.cells hm
  injection e3 with e3
  injection e3 with e3 e4 e5
  subst e3 e4
  exact c2
theorem cell_low {w w' : World} {b o : Nat} {v : Value} (hb : Below w.heap.size w w') (h : w.cell? ⟨b, o, none⟩ = some v) : w'.cell? ⟨b, o, none⟩ = some v := by
  have hlt := World.block_lt_of_cell? w _ h
  unfold World.cell? at h ⊢
  rw [hb.block b hlt]; exact h
set_option maxHeartbeats 8000000 in
theorem unique_any (A : Option Addr) (xs : List Int) (c0 : Nat) (W : World) (hI : IntsAt W A xs) (hxl : xs.length ≤ 9223372036854775807) :
    Calls Try.prog 6 #[.slice A xs.length c0] W fun e w' => e = .returned (.bool true) ∧ Below W.heap.size W w' := by
  have HM := Mem.start W
  have HI := Lib.hid hI
  have hel := el_mark
  clear hI
  go_enter Try.func6, Try.ntmps6
  go_upto_region 2 with (first | fail | (first | ((with_reducible refine g_ld ?_); refine a_ld HM ?_) | ((with_reducible refine g_st ?_); refine a_st HM ?_; clear HM; intro w1 HM) | ((with_reducible refine g_al ?_); refine a_al HM ?_; clear HM; intro bk w1 HM) | ((with_reducible refine g_bx ?_); refine a_bx HM ?_; clear HM; intro bk w1 HM) | ((with_reducible refine g_bld ?_); refine a_bld ?_)))
  obtain ⟨tb, rfl⟩ := HM.nm0
  have HC : Hid (TapeC W 0 #[.slice A xs.length c0, .int .i64 0]) := ⟨A, xs, c0, 0, rfl, by omega, by omega, HI.out, hxl⟩
  have H0 : Hid (Below W.heap.size W W) := Below.refl _ _
  have hle : ∀ b ∈ ([] : List Nat), W.heap.size ≤ b := by simp
  go_wp2_with (first | fail | (first | ((with_reducible refine g_ld ?_); refine a_ld HM ?_) | ((with_reducible refine g_st ?_); refine a_st HM ?_; clear HM; intro w1 HM) | ((with_reducible refine g_al ?_); refine a_al HM ?_; clear HM; intro bk w1 HM) | ((with_reducible refine g_bx ?_); refine a_bx HM ?_; clear HM; intro bk w1 HM) | ((with_reducible refine g_bld ?_); refine a_bld ?_)))
  refine (marks_any W tb 0 _ (HM.tp (by ((repeat (first | exact Look.here | refine Look.there ?_)); done)) HC.out H0.out hle) (by omega)).mono ?_
  rintro e9 w2 ⟨sv, M, n, B, c1, rfl, HMD, hMl, HS, hc1, HM1⟩
  replace HM := HM.joinT (by (repeat (first | exact At.here | apply At.there))) HM1
  replace HC := Lib.hid hc1.out
  clear HM1 hc1
  replace HM : Mem W [] ((tb, c1) :: B) w2 := HM.swapA
  obtain ⟨sA, scap, rfl⟩ := HS.out.marks
  go_wp2_with fail
  (refine (range_any W tb _ (0) (30) _ (HM.tp (by ((repeat (first | exact Look.here | refine Look.there ?_)); done)) HC.out H0.out hle) (by omega) (by omega) (by omega) (by omega)).mono ?_; rintro e9 w2 ⟨k, rfl, hk0, hk1, ⟨c1, hb1, hc1, -, -⟩, hg⟩; replace HM := HM.put (c' := c1) (by (repeat (first | exact At.here | apply At.there))) hb1 (Only.of_grown hg); clear hg hb1; replace HC := Lib.hid hc1; clear hc1)
  replace HM := HM.tail
  obtain ⟨V, hV⟩ : ∃ V, V = As.vis M k := ⟨_, rfl⟩
  have HV := Lib.hid hV
  have V1 : Hid ((V.map (fun i : Nat => (i : Int)), (0 : Int)) = As.visR M k) := Lib.hid (by rw [hV]; exact As.visR_ok (HMD.out.ok hMl))
  have hVl : V.length ≤ 12 := by rw [hV]; have := As.vis_len M k; omega
  clear hV
  go_wp2_with (first | (go_at_call 9; (with_reducible refine (visible_any _ M _ _ (HS.out.readMk HM (by intro p hp; (repeat (first | exact hp | exact List.mem_append_left _ hp | exact (List.mem_singleton.1 hp) ▸ List.mem_cons_self | apply List.mem_append_right | apply List.mem_cons_of_mem)); done) (by omega)) _ _ V1).mono ?_); rintro e9 w2 ⟨sa, Ba, rfl, HSa, HM1⟩; replace HM := HM.join HM1; clear HM1) | (first | ((with_reducible refine g_ld ?_); refine a_ld HM ?_) | ((with_reducible refine g_st ?_); refine a_st HM ?_; clear HM; intro w1 HM) | ((with_reducible refine g_al ?_); refine a_al HM ?_; clear HM; intro bk w1 HM) | ((with_reducible refine g_bx ?_); refine a_bx HM ?_; clear HM; intro bk w1 HM) | ((with_reducible refine g_bld ?_); refine a_bld ?_)))
  obtain ⟨aA, acap, rfl⟩ := (HSa.out.rd HM (by intro p hp; (repeat (first | exact hp | exact List.mem_append_left _ hp | exact (List.mem_singleton.1 hp) ▸ List.mem_cons_self | apply List.mem_append_right | apply List.mem_cons_of_mem)); done)).form1
  rw [V1_len, List.length_map, List.length_map] at HSa ⊢
  go_wp2_with fail
  go_loopw [8] (fun iv wr => ∃ (i : Nat), iv = .int .i64 (i : Nat) ∧ i ≤ V.length ∧ Mem W [] (Ba ++ B) wr) (fun iv _ => V.length - (intOf iv).toNat)
  case atStart => exact ⟨0, rfl, by omega, HM⟩
  case round =>
    clear HM
    obtain ⟨i, rfl, hi, HM⟩ := hrel
    by_cases hlt : i < V.length
    · obtain ⟨x, hx⟩ : ∃ x, V[i]? = some x := ⟨_, List.getElem?_eq_getElem hlt⟩
      obtain ⟨m, hm, hvd, hkn, hcnt, hno⟩ := As.vis_at (HV.out ▸ hx)
      have hxl2 := (List.getElem?_eq_some_iff.1 hm).1
      have hxl3 : (x : Int) < M.length := by omega
      have HNO := Lib.hid hno
      have HX := Lib.hid hx
      have HMM := Lib.hid hm
      have HF := Lib.hid (As.findR_ok (HMD.out.ok hMl) hcnt)
      have hks := (As.keys_size (HMD.out.keys m (List.mem_of_getElem? hm))).2
      have hs : m.key.size ≤ maxLen := len_small (by omega)
      obtain ⟨b, off, rfl, c1⟩ := RdS.cellV (HSa.out.rd HM (by intro p hp; (repeat (first | exact hp | exact List.mem_append_left _ hp | exact (List.mem_singleton.1 hp) ▸ List.mem_cons_self | apply List.mem_append_right | apply List.mem_cons_of_mem)); done)) hx
      obtain ⟨b2, off2, rfl, k0, k1, k2⟩ := (HS.out.readMk HM (by intro p hp; (repeat (first | exact hp | exact List.mem_append_left _ hp | exact (List.mem_singleton.1 hp) ▸ List.mem_cons_self | apply List.mem_append_right | apply List.mem_cons_of_mem)); done) (by omega)).cells hm
      have hlt1 : (i : Int) < V.length := by omega
      rw [hvd] at k2
      have g1 : decide ((x : Int) < 0) = false := decide_eq_false (by omega)
      have g2 : decide ((M.length : Int) ≤ x) = false := decide_eq_false (by omega)
      have n2 : decide (M.length ≤ x) = false := decide_eq_false (by omega)
      have g3 : decide (k < m.kn) = false := decide_eq_false (by omega)
      clear hno hcnt hvd hm hkn hks
      by_cases hi0 : 0 < i
      · obtain ⟨y, hy⟩ : ∃ y, V[i - 1]? = some y := ⟨_, List.getElem?_eq_getElem (by omega)⟩
        have hyx := As.vis_lt (show i - 1 < i by omega) (HV.out ▸ hy) (HV.out ▸ hx)
        have c2 := RdS.cellV2 (HSa.out.rd HM (by intro p hp; (repeat (first | exact hp | exact List.mem_append_left _ hp | exact (List.mem_singleton.1 hp) ▸ List.mem_cons_self | apply List.mem_append_right | apply List.mem_cons_of_mem)); done)) hy
        have hi1 : ((i : Int) - 1).toNat = i - 1 := by omega
        have hi2 : (0 : Int) ≤ (i : Int) - 1 := by omega
        have hi3 : (i : Int) - 1 < V.length := by omega
        have g4 : decide ((0 : Int) < i) = true := decide_eq_true (by omega)
        have g5 : decide ((x : Int) ≤ y) = false := decide_eq_false (by omega)
        have n4 : decide (0 < i) = true := decide_eq_true (by omega)
        have n5 : decide (x ≤ y) = false := decide_eq_false (by omega)
        clear hx hy hyx
        go_wp2_with fail
        go_quiet (fail)
        replace HM : Mem W [] (Ba ++ B) (wr.drewN nq) := HM.drewN nq
        go_wp2_with (first | (go_at_call 11; ((with_reducible refine (find_any _ M _ _ _ (HS.out.readMk HM (by intro p hp; (repeat (first | exact hp | exact List.mem_append_left _ hp | exact (List.mem_singleton.1 hp) ▸ List.mem_cons_self | apply List.mem_append_right | apply List.mem_cons_of_mem)); done) (by omega)) hs _ _ _ HF).mono ?_); rintro e9 w2 ⟨rfl, hL⟩; replace HM := HM.call hL; replace c1 := cell_low (w := wr.drewN nq) hL c1; replace k0 := cell_low (w := wr.drewN nq) hL k0; clear hL k1 k2)) | (first | ((with_reducible refine g_ld ?_); refine a_ld HM ?_) | ((with_reducible refine g_st ?_); refine a_st HM ?_; clear HM; intro w1 HM) | ((with_reducible refine g_al ?_); refine a_al HM ?_; clear HM; intro bk w1 HM) | ((with_reducible refine g_bx ?_); refine a_bx HM ?_; clear HM; intro bk w1 HM) | ((with_reducible refine g_bld ?_); refine a_bld ?_)))
        go_loopw [12] (fun jv wr => ∃ (j : Nat), jv = .int .i64 (j : Nat) ∧ x < j ∧ j ≤ M.length ∧ Hid (wr.cell? ⟨b, off + i, none⟩ = some (.int .i64 (x : Nat)) ∧ wr.cell? ⟨b2, off2 + x * 3, none⟩ = some (.string m.key)) ∧ Mem W [] (Ba ++ B) wr) (fun jv _ => M.length - (intOf jv).toNat)
        case atStart => exact ⟨x + 1, by go_num, by omega, by omega, Lib.hid ⟨c1, k0⟩, HM⟩
        case round =>
          clear HM c1 k0
          obtain ⟨j, rfl, hxj, hj, HCC, HM⟩ := hrel
          by_cases hjt : j < M.length
          · obtain ⟨mj, hmj⟩ : ∃ mj, M[j]? = some mj := ⟨_, List.getElem?_eq_getElem hjt⟩
            obtain ⟨c1, k0⟩ := HCC.out
            obtain ⟨j0, j1, -⟩ := (HS.out.readMk HM (by intro p hp; (repeat (first | exact hp | exact List.mem_append_left _ hp | exact (List.mem_singleton.1 hp) ▸ List.mem_cons_self | apply List.mem_append_right | apply List.mem_cons_of_mem)); done) (by omega)).cells2 hmj
            have hlt2 : (j : Int) < M.length := by omega
            have hn := HNO.out j mj hxj hmj
            by_cases hke : mj.key = m.key
            · have g6 : decide (mj.kn ≤ k) = false := decide_eq_false (fun h => hn ⟨h, hke⟩)
              rw [hke] at j0
              have g7 := bytes_eq m.key
              clear hke hn hmj HMM
              go_wp2_with fail
              go_quiet (fail)
              go_wp2_with fail
              go_roundw
              case rel => exact ⟨j + 1, by go_num, by omega, by omega, HCC, HM.drewN _⟩
              case measure => simp [intOf]; omega
            · have g7 := bytes_ne hke
              clear hke hn hmj HMM
              go_wp2_with fail
              go_quiet (fail)
              go_wp2_with fail
              go_roundw
              case rel => exact ⟨j + 1, by go_num, by omega, by omega, HCC, HM.drewN _⟩
              case measure => simp [intOf]; omega
          · obtain rfl : j = M.length := by omega
            go_wp2_with fail
            go_roundw
            case rel => exact ⟨i + 1, by go_num, by omega, HM⟩
            case measure => simp [intOf]; omega
      · have g4 : decide ((0 : Int) < i) = false := decide_eq_false (by omega)
        have n4 : decide (0 < i) = false := decide_eq_false (by omega)
        clear hx
        go_wp2_with fail
        go_quiet (fail)
        replace HM : Mem W [] (Ba ++ B) (wr.drewN nq) := HM.drewN nq
        go_wp2_with (first | (go_at_call 11; ((with_reducible refine (find_any _ M _ _ _ (HS.out.readMk HM (by intro p hp; (repeat (first | exact hp | exact List.mem_append_left _ hp | exact (List.mem_singleton.1 hp) ▸ List.mem_cons_self | apply List.mem_append_right | apply List.mem_cons_of_mem)); done) (by omega)) hs _ _ _ HF).mono ?_); rintro e9 w2 ⟨rfl, hL⟩; replace HM := HM.call hL; replace c1 := cell_low (w := wr.drewN nq) hL c1; replace k0 := cell_low (w := wr.drewN nq) hL k0; clear hL k1 k2)) | (first | ((with_reducible refine g_ld ?_); refine a_ld HM ?_) | ((with_reducible refine g_st ?_); refine a_st HM ?_; clear HM; intro w1 HM) | ((with_reducible refine g_al ?_); refine a_al HM ?_; clear HM; intro bk w1 HM) | ((with_reducible refine g_bx ?_); refine a_bx HM ?_; clear HM; intro bk w1 HM) | ((with_reducible refine g_bld ?_); refine a_bld ?_)))
        go_loopw [12] (fun jv wr => ∃ (j : Nat), jv = .int .i64 (j : Nat) ∧ x < j ∧ j ≤ M.length ∧ Hid (wr.cell? ⟨b, off + i, none⟩ = some (.int .i64 (x : Nat)) ∧ wr.cell? ⟨b2, off2 + x * 3, none⟩ = some (.string m.key)) ∧ Mem W [] (Ba ++ B) wr) (fun jv _ => M.length - (intOf jv).toNat)
        case atStart => exact ⟨x + 1, by go_num, by omega, by omega, Lib.hid ⟨c1, k0⟩, HM⟩
        case round =>
          clear HM c1 k0
          obtain ⟨j, rfl, hxj, hj, HCC, HM⟩ := hrel
          by_cases hjt : j < M.length
          · obtain ⟨mj, hmj⟩ : ∃ mj, M[j]? = some mj := ⟨_, List.getElem?_eq_getElem hjt⟩
            obtain ⟨c1, k0⟩ := HCC.out
            obtain ⟨j0, j1, -⟩ := (HS.out.readMk HM (by intro p hp; (repeat (first | exact hp | exact List.mem_append_left _ hp | exact (List.mem_singleton.1 hp) ▸ List.mem_cons_self | apply List.mem_append_right | apply List.mem_cons_of_mem)); done) (by omega)).cells2 hmj
            have hlt2 : (j : Int) < M.length := by omega
            have hn := HNO.out j mj hxj hmj
            by_cases hke : mj.key = m.key
            · have g6 : decide (mj.kn ≤ k) = false := decide_eq_false (fun h => hn ⟨h, hke⟩)
              rw [hke] at j0
              have g7 := bytes_eq m.key
              clear hke hn hmj HMM
              go_wp2_with fail
              go_quiet (fail)
              go_wp2_with fail
              go_roundw
              case rel => exact ⟨j + 1, by go_num, by omega, by omega, HCC, HM.drewN _⟩
              case measure => simp [intOf]; omega
            · have g7 := bytes_ne hke
              clear hke hn hmj HMM
              go_wp2_with fail
              go_quiet (fail)
              go_wp2_with fail
              go_roundw
              case rel => exact ⟨j + 1, by go_num, by omega, by omega, HCC, HM.drewN _⟩
              case measure => simp [intOf]; omega
          · obtain rfl : j = M.length := by omega
            go_wp2_with fail
            go_roundw
            case rel => exact ⟨i + 1, by go_num, by omega, HM⟩
            case measure => simp [intOf]; omega
    · go_wp2_with (first | (go_at_call 15; ((with_reducible refine (known_any _).mono ?_); rintro e9 w2 ⟨rfl, hL⟩; replace HM := HM.call hL; clear hL)) | (first | ((with_reducible refine g_ld ?_); refine a_ld HM ?_) | ((with_reducible refine g_st ?_); refine a_st HM ?_; clear HM; intro w1 HM) | ((with_reducible refine g_al ?_); refine a_al HM ?_; clear HM; intro bk w1 HM) | ((with_reducible refine g_bx ?_); refine a_bx HM ?_; clear HM; intro bk w1 HM) | ((with_reducible refine g_bld ?_); refine a_bld ?_)))
      go_ret
      exact ⟨rfl, HM.low⟩
end Go.Proofs.Ytipkmppoppjmeaa
