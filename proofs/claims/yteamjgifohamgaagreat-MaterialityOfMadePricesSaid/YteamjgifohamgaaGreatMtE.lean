/- Material of the program, whole. -/
import Derived.Test.YteamjgifohamgaaGreatMtD
import Derived.Test.YteamjgifohamgaaGreatSums
namespace Go.Proofs.YteamjgifohamgaaGreat
set_option maxRecDepth 8000
open Go.RowKit
set_option maxHeartbeats 4000000 in
theorem delete_nil (x : Rat) (bl : Nat) (w : World) (hx : Rt.Fit x) (hB : Blk w bl (Rt.qA x)) :
    Calls Tryz.prog 27 #[.slice none 0 0, .func (.func 29) #[] #[.pointer (some ⟨bl, 0, none⟩)]] w fun e w' => e = .returned (.slice none 0 0) ∧ Below w.heap.size w w' := by
  have HM := Mem.start w
  have I := fun hB => index_any (.slice none 0 0) [] x bl w ((SlAt.nil (n := 135)).rd HM (by simp)) (by simp) hx (by simp) hB (-1) (Lib.hid rfl)
  have HB := Lib.hid hB
  clear hB
  go_enter Tryz.func27, Tryz.ntmps27
  go_wp2_with (first | (go_at_call 46; ((with_reducible refine (I HB.out).mono ?_); rintro e9 w2 ⟨rfl, hL⟩; replace HM := HM.call hL; clear hL)) | (first | ((with_reducible refine g_ld ?_); refine a_ld HM ?_) | ((with_reducible refine g_st ?_); refine a_st HM ?_; clear HM; intro w1 HM) | ((with_reducible refine g_al ?_); refine a_al HM ?_; clear HM; intro bk w1 HM) | ((with_reducible refine g_bx ?_); refine a_bx HM ?_; clear HM; intro bk w1 HM) | ((with_reducible refine g_bld ?_); refine a_bld ?_)))
  go_ret
  exact ⟨rfl, HM.low⟩
/-- The differences of a slice of the call's own that are kept. -/
theorem delete_m {w0 w : World} {X : List Nat} {R B : List (Nat × Array Value)} {sv : Value} {L : List Mt.D} {x : Rat} {bl : Nat} (HM : Mem w0 X (B ++ R) w) (HS : SlAt 135 sv (L.map Mt.c) B) (hm : (bl, Rt.qA x) ∈ R) (hl : L.length ≤ 100) (hx : Rt.Fit x) (hbad : ∀ d ∈ L, Mt.bad d = false) :
    Calls Tryz.prog 27 #[sv, .func (.func 29) #[] #[.pointer (some ⟨bl, 0, none⟩)]] w fun e w' =>
      ∃ s' B', e = .returned s' ∧ SlAt 135 s' ((Mt.kept x L).map Mt.c) B' ∧ Mem w0 X (B' ++ R) w' := by
  have hB : Blk w bl (Rt.qA x) := HM.blk (bl, _) (List.mem_append_right _ hm)
  generalize hv : L.map Mt.c = l at HS
  cases HS with
  | nil =>
    obtain rfl : L = [] := List.map_eq_nil_iff.1 hv
    refine (delete_nil x bl w hx hB).mono ?_
    rintro e w' ⟨rfl, hL⟩
    exact ⟨_, [], rfl, .nil, HM.call hL⟩
  | row b l sp h =>
    subst hv
    have hn := HM.nod
    have hne : bl ≠ b := by
      rintro rfl
      rw [List.map_append, List.map_cons, List.map_nil, List.singleton_append] at hn
      exact (List.nodup_cons.1 hn).1 (List.mem_map.2 ⟨_, hm, rfl⟩)
    have hb : Blk w b (rowsOf (L.map Mt.c ++ sp)) := HM.blk (b, _) (by simp)
    have hc := delete_any L sp x bl b w (fun c hc => h c (List.mem_append_right _ hc)) hb hl hx hbad hB hne
    rw [List.length_map]
    refine hc.mono ?_
    rintro e w' ⟨S', rfl, hS', HM2⟩
    refine ⟨_, [(b, rowsOf ((Mt.kept x L).map Mt.c ++ S'))], rfl, ?_, ?_⟩
    · have h2 := SlAt.row (n := 135) b ((Mt.kept x L).map Mt.c) S' (by
        intro c hc
        rcases List.mem_append.1 hc with h | h
        · exact Mt.c_sizes _ c h
        · exact hS'.out c h)
      rw [List.length_map] at h2
      exact h2
    · exact HM.put .here (HM2.blk (b, _) List.mem_cons_self) HM2.only
/-- What Material answers. -/
noncomputable def Mt.mat (l : Option Rat) (L : List Mt.D) : List Mt.D × Int := match l with
  | none => ([], 390)
  | some x => open Classical in if 0 ≤ x ∧ x ≤ 1 then (match L.find? Mt.bad with | some d => ([], (Mt.size d.ow d.oi).2) | none => (Mt.kept x L, 0)) else ([], 390)
theorem sign_v0 (c : Array Value) (hv : Rt.Vc none c) (w : World) :
    Calls Tryz.prog 23 #[.agg c] w fun r w' => r = .returned (.tuple #[.int .i64 0, .int .i64 20]) ∧ Below w.heap.size w w' := by
  obtain ⟨s, M, t, N, hM, hN, hk, rfl⟩ := hv
  exact Sign_bad s M t N hM hN (Lib.hid hk.symm) w
theorem Rt.sign_lt {x : Rat} : decide (x.num.sign < 0) = decide (x < 0) := by
  have h : x.num.sign < 0 ↔ x < 0 := by
    rw [Int.sign_neg_iff]
    constructor
    · intro h
      exact Rat.not_le.1 (fun h2 => by have := Rat.num_nonneg.2 h2; omega)
    · intro h
      have h2 : ¬ 0 ≤ x.num := fun h3 => Rat.not_lt.2 (Rat.num_nonneg.1 h3) h
      omega
  exact decide_eq_decide.2 h
theorem rat1 : ((1 : Int) : Rat) = 1 := rfl
theorem Rt.fit_one : Rt.Fit 1 := by
  have h := Bg.p2_mono (show 1 ≤ 480 by decide)
  have h1 : Bg.p2 1 = 2 := by unfold Bg.p2; rfl
  exact ⟨by show 1 < _; omega, by show 1 < _; omega⟩
theorem Mt.find_bad {L : List Mt.D} {i : Nat} {d : Mt.D} (h : ∀ y ∈ L.take i, Mt.bad y = false) (hd : L[i]? = some d) (hb : Mt.bad d = true) : L.find? Mt.bad = some d := by
  obtain ⟨hi, he⟩ := List.getElem?_eq_some_iff.1 hd
  have e : L = L.take i ++ d :: L.drop (i + 1) := by rw [← he, ← List.drop_eq_getElem_cons hi, List.take_append_drop]
  rw [e, List.find?_append, List.find?_eq_none.2 (fun y hy => by rw [h y hy]; simp)]
  simp [hb]
theorem Mt.find_no {L : List Mt.D} (h : ∀ y ∈ L, Mt.bad y = false) : L.find? Mt.bad = none := List.find?_eq_none.2 (fun y hy => by rw [h y hy]; simp)
set_option maxHeartbeats 8000000 in
theorem material_any (sv : Value) (L : List Mt.D) (l : Option Rat) (cl : Array Value) (w : World) (hv : Rt.Vc l cl) (hR : RdS 135 w sv (L.map Mt.c)) (hl : L.length ≤ 12) (K : List Mt.D) (e : Int) (hr : Hid ((K, e) = Mt.mat l L)) :
    Calls Tryz.prog 13 #[sv, .agg cl] w fun r w' => ∃ s' B, r = .returned (.tuple #[s', .int .i64 e]) ∧ Hid (SlAt 135 s' (K.map Mt.c) B) ∧ Mem w [] B w' := by
  have HM := Mem.start w
  obtain ⟨A, cap, rfl⟩ := hR.form1
  have HR := Lib.hid hR
  rw [List.length_map] at HR ⊢
  have kl := la_r66 hv.size
  have h := hr.out
  clear hR
  cases l with
  | none =>
    obtain ⟨rfl, rfl⟩ : K = [] ∧ e = 390 := Prod.mk.inj h
    have S := fun w => sign_v0 cl hv w
    clear h hr
    go_enter Tryz.func13, Tryz.ntmps13
    go_wp2_with (first | (go_at_call 23; ((with_reducible refine (S _).mono ?_); rintro e9 w2 ⟨rfl, hL⟩; replace HM := HM.call hL; clear hL)) | (first | ((with_reducible refine g_ld ?_); refine a_ld HM ?_) | ((with_reducible refine g_st ?_); refine a_st HM ?_; clear HM; intro w1 HM) | ((with_reducible refine g_al ?_); refine a_al HM ?_; clear HM; intro bk w1 HM) | ((with_reducible refine g_bx ?_); refine a_bx HM ?_; clear HM; intro bk w1 HM) | ((with_reducible refine g_bld ?_); refine a_bld ?_)))
    go_ret2
    exact ⟨_, [], rfl, Lib.hid .nil, HM.pick⟩
  | some x =>
    obtain ⟨hx, rfl⟩ := hv
    obtain ⟨g, hg⟩ : ∃ g, Hid (g = x.num.sign) := ⟨_, Lib.hid rfl⟩
    have S := fun w => sign_q x g hx hg w
    have hgs : decide (g < 0) = decide (x < 0) := by rw [hg.out, Rt.sign_lt]
    by_cases h0 : x < 0
    · obtain ⟨rfl, rfl⟩ : K = [] ∧ e = 390 := by
        unfold Mt.mat at h
        simp only [] at h
        rw [if_neg (fun h2 => Rat.not_lt.2 h2.1 h0)] at h
        exact Prod.mk.inj h
      rw [decide_eq_true h0] at hgs
      clear h hr
      go_enter Tryz.func13, Tryz.ntmps13
      go_wp2_with (first | (go_at_call 23; ((with_reducible refine (S _).mono ?_); rintro e9 w2 ⟨rfl, hL⟩; replace HM := HM.call hL; clear hL)) | (first | ((with_reducible refine g_ld ?_); refine a_ld HM ?_) | ((with_reducible refine g_st ?_); refine a_st HM ?_; clear HM; intro w1 HM) | ((with_reducible refine g_al ?_); refine a_al HM ?_; clear HM; intro bk w1 HM) | ((with_reducible refine g_bx ?_); refine a_bx HM ?_; clear HM; intro bk w1 HM) | ((with_reducible refine g_bld ?_); refine a_bld ?_)))
      go_ret2
      exact ⟨_, [], rfl, Lib.hid .nil, HM.pick⟩
    · rw [decide_eq_false h0] at hgs
      have W := fun w => whole_q 1 1 (by decide) (by decide) (Lib.hid rat1.symm) w
      obtain ⟨g1, hg1⟩ : ∃ g, Hid (g = Rt.cmp x 1) := ⟨_, Lib.hid rfl⟩
      have C := fun w => cmp_q x 1 g1 hx Rt.fit_one hg1 w
      have hg2 : decide (0 < g1) = decide (1 < x) := by
        rw [hg1.out]
        rcases Rt.cmp_cases x 1 with ⟨h1, h2⟩ | ⟨h1, h2⟩ | ⟨h1, h2⟩
        · rw [h1, decide_eq_false (Rat.not_lt.2 (Rat.le_of_lt h2))]; rfl
        · rw [h1, h2, decide_eq_false Rat.lt_irrefl]; rfl
        · rw [h1, decide_eq_true h2]; rfl
      go_enter Tryz.func13, Tryz.ntmps13
      go_upto_region 4 with (first | (go_at_call 23; ((with_reducible refine (S _).mono ?_); rintro e9 w2 ⟨rfl, hL⟩; replace HM := HM.call hL; clear hL)) | (first | ((with_reducible refine g_ld ?_); refine a_ld HM ?_) | ((with_reducible refine g_st ?_); refine a_st HM ?_; clear HM; intro w1 HM) | ((with_reducible refine g_al ?_); refine a_al HM ?_; clear HM; intro bk w1 HM) | ((with_reducible refine g_bx ?_); refine a_bx HM ?_; clear HM; intro bk w1 HM) | ((with_reducible refine g_bld ?_); refine a_bld ?_)))
      refine start_M [] HM (by kernel_rfl) (fun w0x H9 => ?_)
      replace HM := H9; clear H9
      refine k_ld 0 [] (heldE HM) ?_
      refine j_one 1 fun K9 hK9 => ?_
      refine j_call1 (v := ?_) HM ?_ ?_; rotate_left 1; (focus (with_reducible (first | exact W _ | exact C _))); clear HM; intro w1 HM
      refine hK9 _ _ (heldE HM) ?_; clear hK9 K9
      refine j_one 2 fun K9 hK9 => ?_
      refine j_call2 (v := ?_) HM ?_ ?_; rotate_left 1; (focus (with_reducible (first | exact W _ | exact C _))); clear HM; intro w1 HM
      refine hK9 _ _ (heldE HM) ?_; clear hK9 K9
      refine k_mv 3 (heldE HM) ?_
      refine k_ext 4 (heldE HM) ?_
      refine k_ext 5 (heldE HM) ?_
      refine k_mv 6 (heldE HM) ?_
      refine k_mv 7 (heldE HM) ?_
      refine wpAnyL_done (by kernel_rfl) ?_ _
      obtain ⟨bk, rfl⟩ := HM.nm0
      by_cases h1 : 1 < x
      · obtain ⟨rfl, rfl⟩ : K = [] ∧ e = 390 := by
          unfold Mt.mat at h
          simp only [] at h
          rw [if_neg (fun h2 => Rat.not_lt.2 h2.2 h1)] at h
          exact Prod.mk.inj h
        rw [decide_eq_true h1] at hg2
        clear h hr
        go_wp2_with fail
        go_ret2
        exact ⟨_, [], rfl, Lib.hid .nil, HM.pick⟩
      · rw [decide_eq_false h1] at hg2
        have HK : Hid ((K, e) = match L.find? Mt.bad with | some d => ([], (Mt.size d.ow d.oi).2) | none => (Mt.kept x L, 0)) := Lib.hid (by
          unfold Mt.mat at h
          simp only [] at h
          rw [if_pos ⟨Rat.not_lt.1 h0, Rat.not_lt.1 h1⟩] at h
          exact h)
        have zd := Mt.za
        have zr := za_rat
        clear h hr S W C hg hg1
        go_upto_region 7 with fail
        go_wp2_with fail
        go_loopw [35] (fun iv wr => ∃ (i : Nat), iv = .int .i64 (i : Nat) ∧ i ≤ L.length ∧ Hid (∀ d ∈ L.take i, Mt.bad d = false) ∧ Mem w [] [(bk, Rt.qA x)] wr) (fun iv _ => L.length - (intOf iv).toNat)
        case atStart => exact ⟨0, rfl, by omega, Lib.hid (by simp), HM⟩
        case round =>
          clear HM
          obtain ⟨i, rfl, hi, HT, HM⟩ := hrel
          by_cases hlt : i < L.length
          · obtain ⟨d, hd⟩ : ∃ d, L[i]? = some d := ⟨_, List.getElem?_eq_getElem hlt⟩
            obtain ⟨b, off, cs, rfl, HC, l0, -⟩ := HR.out.at135 hd
            have hlt1 : (i : Int) < L.length := by omega
            obtain ⟨o, e1, hs⟩ : ∃ o e, Hid ((o, e) = Mt.size d.ow d.oi) := ⟨_, _, Lib.hid rfl⟩
            have S := fun w => size_any d o e1 hs w
            have ld := Mt.la d
            have sd := Mt.sa d (Mt.c_size Mt.zd)
            have so : SA 32 (Bg.rZ 0 0) 0 (.agg (Rt.outV o)) (Rt.outV o) := sa_r66 (Rt.outV_size o) (Rt.outV_one o) (rZ_size 0 0)
            have HBB : Mt.bad d = (decide (e1 ≠ 0) && decide (e1 ≠ 11)) := by unfold Mt.bad; rw [← hs.out]
            by_cases hb : e1 ≠ 0 ∧ e1 ≠ 11
            · obtain ⟨rfl, rfl⟩ : K = [] ∧ e = e1 := by
                have h := HK.out
                rw [Mt.find_bad HT.out hd (by rw [HBB, decide_eq_true hb.1, decide_eq_true hb.2]; rfl)] at h
                have h2 : (K, e) = ([], (Mt.size d.ow d.oi).2) := h
                rw [← hs.out] at h2
                exact Prod.mk.inj h2
              have g1 : (e == 0) = false := by simpa using hb.1
              have g2 : (e == 11) = false := by simpa using hb.2
              have g3 : (e != 0) = true := by simpa using hb.1
              have g4 : (e != 11) = true := by simpa using hb.2
              clear hd hb HBB hs
              go_wp2_with (first | (go_at_call 26; ((with_reducible refine (S _).mono ?_); rintro e9 w2 ⟨rfl, hL⟩; replace HM := HM.call hL; clear hL)) | (first | ((with_reducible refine g_ld ?_); refine a_ld HM ?_) | ((with_reducible refine g_st ?_); refine a_st HM ?_; clear HM; intro w1 HM) | ((with_reducible refine g_al ?_); refine a_al HM ?_; clear HM; intro bk w1 HM) | ((with_reducible refine g_bx ?_); refine a_bx HM ?_; clear HM; intro bk w1 HM) | ((with_reducible refine g_bld ?_); refine a_bld ?_)))
              go_ret2
              exact ⟨_, [], rfl, Lib.hid .nil, HM.pick⟩
            · have HT2 : Hid (∀ d ∈ L.take (i + 1), Mt.bad d = false) := Lib.hid (by
                intro y hy
                rw [List.take_add_one, hd] at hy
                rcases List.mem_append.1 hy with h | h
                · exact HT.out y h
                · simp at h
                  rw [h, HBB]
                  by_cases h5 : e1 = 0
                  · simp [h5]
                  · have h6 : e1 = 11 := Decidable.not_not.1 (fun h6 => hb ⟨h5, h6⟩)
                    simp [h6])
              have hb2 : e1 = 0 ∨ e1 = 11 := by omega
              clear hd hb HBB hs
              rcases hb2 with rfl | rfl
              · go_wp2_with (first | (go_at_call 26; ((with_reducible refine (S _).mono ?_); rintro e9 w2 ⟨rfl, hL⟩; replace HM := HM.call hL; clear hL)) | (first | ((with_reducible refine g_ld ?_); refine a_ld HM ?_) | ((with_reducible refine g_st ?_); refine a_st HM ?_; clear HM; intro w1 HM) | ((with_reducible refine g_al ?_); refine a_al HM ?_; clear HM; intro bk w1 HM) | ((with_reducible refine g_bx ?_); refine a_bx HM ?_; clear HM; intro bk w1 HM) | ((with_reducible refine g_bld ?_); refine a_bld ?_)))
                go_roundw
                case rel => exact ⟨i + 1, by go_num, by omega, HT2, HM.pick⟩
                case measure => simp [intOf]; omega
              · go_wp2_with (first | (go_at_call 26; ((with_reducible refine (S _).mono ?_); rintro e9 w2 ⟨rfl, hL⟩; replace HM := HM.call hL; clear hL)) | (first | ((with_reducible refine g_ld ?_); refine a_ld HM ?_) | ((with_reducible refine g_st ?_); refine a_st HM ?_; clear HM; intro w1 HM) | ((with_reducible refine g_al ?_); refine a_al HM ?_; clear HM; intro bk w1 HM) | ((with_reducible refine g_bx ?_); refine a_bx HM ?_; clear HM; intro bk w1 HM) | ((with_reducible refine g_bld ?_); refine a_bld ?_)))
                go_roundw
                case rel => exact ⟨i + 1, by go_num, by omega, HT2, HM.pick⟩
                case measure => simp [intOf]; omega
          · obtain rfl : i = L.length := by omega
            have hT := HT.out
            rw [List.take_length] at hT
            obtain ⟨rfl, rfl⟩ : K = Mt.kept x L ∧ e = 0 := by
              have h := HK.out
              rw [Mt.find_no hT] at h
              exact Prod.mk.inj h
            have HTT := Lib.hid hT
            clear hT HT HK
            go_wp2_with (first | first
              | (go_at_call 28; (with_reducible refine (clone_any _ L _ (HR.out.below HM.low) (by omega)).mono ?_); rintro e9 w2 ⟨s1, B1, rfl, HS1, HM1⟩; replace HM := HM.join HM1; clear HM1)
              | (go_at_call 27; (with_reducible refine (delete_m HM HS1.out (by simp) (by omega) hx HTT.out).mono ?_); rintro e9 w2 ⟨s2, B2, rfl, HS2, HM2⟩) | (first | ((with_reducible refine g_ld ?_); refine a_ld HM ?_) | ((with_reducible refine g_st ?_); refine a_st HM ?_; clear HM; intro w1 HM) | ((with_reducible refine g_al ?_); refine a_al HM ?_; clear HM; intro bk w1 HM) | ((with_reducible refine g_bx ?_); refine a_bx HM ?_; clear HM; intro bk w1 HM) | ((with_reducible refine g_bld ?_); refine a_bld ?_)))
            go_ret2
            exact ⟨_, B2, rfl, Lib.hid HS2, HM2.pick⟩
end Go.Proofs.YteamjgifohamgaaGreat
