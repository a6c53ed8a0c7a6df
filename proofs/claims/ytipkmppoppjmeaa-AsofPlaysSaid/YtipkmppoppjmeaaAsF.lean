/- Changed of both. -/
import Derived.Test.YtipkmppoppjmeaaAsE
namespace Go.Proofs.Ytipkmppoppjmeaa
set_option maxRecDepth 8000
open Go.RowKit Go.Maps
def As.chgR (M : List As.Mk) (a b : Int) : List (List UInt8) × Int := if As.ok M then (As.chg M a b M.length, 0) else ([], 130)
theorem As.chg_step {M : List As.Mk} {a b : Int} {i : Nat} {m : As.Mk} (hm : M[i]? = some m) : As.chg M a b (i + 1) = if As.enc (As.cnt M a M.length m.key) = As.enc (As.cnt M b M.length m.key) then As.chg M a b i else As.ins (As.chg M a b i) m.key.data.toList := by rw [As.chg, hm]
theorem As.ins_len : ∀ (l : List (List UInt8)) (s : List UInt8), (As.ins l s).length ≤ l.length + 1
  | [], s => by simp [As.ins]
  | x :: l, s => by
    rw [As.ins]
    split
    · rw [List.length_cons, List.length_cons]; have := As.ins_len l s; omega
    · split <;> simp
theorem As.chg_len (M : List As.Mk) (a b : Int) : ∀ n, (As.chg M a b n).length ≤ n
  | 0 => Nat.le_refl _
  | n + 1 => by
    rw [As.chg]
    have ih := As.chg_len M a b n
    split
    · split
      · omega
      · exact Nat.le_trans (As.ins_len _ _) (by omega)
    · omega
set_option maxHeartbeats 8000000 in
theorem rchanged_any (sv : Value) (M : List As.Mk) (a b : Int) (w : World) (hR : As.Rd w sv M) (zs : List (List UInt8)) (e : Int) (hr : Hid ((zs, e) = As.chgR M a b)) :
    Calls Try.prog 14 #[sv, .int .i64 a, .int .i64 b] w fun r w' => ∃ s' B, r = .returned (.tuple #[s', .int .i64 e]) ∧ Hid (SlAt 1 s' (Vs zs) B) ∧ Mem w [] B w' := by
  have HM := Mem.start w
  have HR := Lib.hid hR
  obtain ⟨A, cap, rfl⟩ := hR.form
  have hML := hR.2
  obtain ⟨e0, he0⟩ : ∃ e0, Hid (e0 = As.err M) := ⟨_, Lib.hid rfl⟩
  clear hR
  by_cases hok : As.ok M = true
  · obtain ⟨rfl, rfl⟩ : zs = As.chg M a b M.length ∧ e = 0 := by
      have h := hr.out; unfold As.chgR at h; rw [if_pos hok] at h; exact Prod.mk.inj h
    obtain rfl : e0 = 0 := he0.out.trans (As.err_ok hok)
    have hM4 := As.ok_len hok
    clear hok hr
    go_enter Try.func14, Try.ntmps14
    go_wp2_with (first | (go_at_call 17; ((with_reducible refine (rcheck_any _ M _ (As.Rd.below HR.out HM.low) 0 he0).mono ?_); rintro e9 w2 ⟨rfl, hL⟩; replace HM := HM.call hL; clear hL)) | (first | ((with_reducible refine g_ld ?_); refine a_ld HM ?_) | ((with_reducible refine g_st ?_); refine a_st HM ?_; clear HM; intro w1 HM) | ((with_reducible refine g_al ?_); refine a_al HM ?_; clear HM; intro bk w1 HM) | ((with_reducible refine g_bx ?_); refine a_bx HM ?_; clear HM; intro bk w1 HM) | ((with_reducible refine g_bld ?_); refine a_bld ?_)))
    go_loopw [9, 10] (fun ov iv wr => ∃ (i : Nat) (B : List (Nat × Array Value)), iv = .int .i64 (i : Nat) ∧ i ≤ M.length ∧ Hid (SlAt 1 ov (Vs (As.chg M a b i)) B) ∧ Mem w [] B wr) (fun _ iv _ => M.length - (intOf iv).toNat)
    case atStart => exact ⟨0, [], rfl, by omega, Lib.hid .nil, HM⟩
    case round =>
      clear HM
      obtain ⟨i, B, rfl, hi, HS, HM⟩ := hrel
      by_cases hlt : i < M.length
      · obtain ⟨m, hm⟩ : ∃ m, M[i]? = some m := ⟨_, List.getElem?_eq_getElem hlt⟩
        obtain ⟨bb, off, cs, rfl, HB, l0, l1, l2, l3⟩ := HR.out.at_ hm
        have hlt1 : (i : Int) < M.length := by omega
        obtain ⟨za, hza⟩ : ∃ z, Hid (z = As.enc (As.cnt M a M.length m.key)) := ⟨_, Lib.hid rfl⟩
        obtain ⟨zb, hzb⟩ : ∃ z, Hid (z = As.enc (As.cnt M b M.length m.key)) := ⟨_, Lib.hid rfl⟩
        have hst := As.chg_step (a := a) (b := b) hm
        rw [← hza.out, ← hzb.out] at hst
        have hcl := As.chg_len M a b i
        clear l0 l2 l3 hm
        by_cases he : za = zb
        · rw [if_pos he] at hst
          have HS2 : Hid (SlAt 1 u9 (Vs (As.chg M a b (i + 1))) B) := Lib.hid (by rw [hst]; exact HS.out)
          have g1 : ((za : Int) != zb) = false := by simpa using he
          clear he hst hcl
          go_upto_region 8 with fail
          refine start_M [] HM (by kernel_rfl) (fun w0x H9 => ?_)
          replace HM := H9; clear H9
          refine k_mv 0 (heldE HM) ?_
          refine k_mv 1 (heldE HM) ?_
          refine k_mv 2 (heldE HM) ?_
          refine k_mv 3 (heldE HM) ?_
          refine k_ia 4 (heldE HM) ?_
          refine k_fa 5 (heldE HM) ?_
          refine k_ld 6 [] (heldE HM) ?_
          refine k_mv 8 (heldE HM) ?_
          refine k_mv 9 (heldE HM) ?_
          refine k_mv 10 (heldE HM) ?_
          refine k_mv 11 (heldE HM) ?_
          refine k_ia 12 (heldE HM) ?_
          refine k_fa 13 (heldE HM) ?_
          refine k_ld 14 [] (heldE HM) ?_
          refine j_one 7 fun K9 hK9 => ?_
          refine j_call3 (v := ?_) HM ?_ ?_; rotate_left 1; (focus (with_reducible (first | exact rcounting_any _ M a m.key _ (As.Rd.below HR.out HM.low) za hza | exact rcounting_any _ M b m.key _ (As.Rd.below HR.out HM.low) zb hzb))); clear HM; intro w1 HM
          refine hK9 _ _ (heldE HM) ?_; clear hK9 K9
          refine j_one 15 fun K9 hK9 => ?_
          refine j_call3 (v := ?_) HM ?_ ?_; rotate_left 1; (focus (with_reducible (first | exact rcounting_any _ M a m.key _ (As.Rd.below HR.out HM.low) za hza | exact rcounting_any _ M b m.key _ (As.Rd.below HR.out HM.low) zb hzb))); clear HM; intro w1 HM
          refine hK9 _ _ (heldE HM) ?_; clear hK9 K9
          refine k_bin 16 (heldE HM) ?_
          refine wpAnyL_done (by kernel_rfl) ?_ _
          go_wp2_with fail
          go_roundw
          case rel => exact ⟨i + 1, B, by go_num, by omega, HS2, HM⟩
          case measure => simp [intOf]; omega
        · rw [if_neg he] at hst
          have HN := Lib.hid hst
          have g1 : ((za : Int) != zb) = true := by simpa using he
          clear he hst
          go_upto_region 8 with fail
          refine start_M [] HM (by kernel_rfl) (fun w0x H9 => ?_)
          replace HM := H9; clear H9
          refine k_mv 0 (heldE HM) ?_
          refine k_mv 1 (heldE HM) ?_
          refine k_mv 2 (heldE HM) ?_
          refine k_mv 3 (heldE HM) ?_
          refine k_ia 4 (heldE HM) ?_
          refine k_fa 5 (heldE HM) ?_
          refine k_ld 6 [] (heldE HM) ?_
          refine k_mv 8 (heldE HM) ?_
          refine k_mv 9 (heldE HM) ?_
          refine k_mv 10 (heldE HM) ?_
          refine k_mv 11 (heldE HM) ?_
          refine k_ia 12 (heldE HM) ?_
          refine k_fa 13 (heldE HM) ?_
          refine k_ld 14 [] (heldE HM) ?_
          refine j_one 7 fun K9 hK9 => ?_
          refine j_call3 (v := ?_) HM ?_ ?_; rotate_left 1; (focus (with_reducible (first | exact rcounting_any _ M a m.key _ (As.Rd.below HR.out HM.low) za hza | exact rcounting_any _ M b m.key _ (As.Rd.below HR.out HM.low) zb hzb))); clear HM; intro w1 HM
          refine hK9 _ _ (heldE HM) ?_; clear hK9 K9
          refine j_one 15 fun K9 hK9 => ?_
          refine j_call3 (v := ?_) HM ?_ ?_; rotate_left 1; (focus (with_reducible (first | exact rcounting_any _ M a m.key _ (As.Rd.below HR.out HM.low) za hza | exact rcounting_any _ M b m.key _ (As.Rd.below HR.out HM.low) zb hzb))); clear HM; intro w1 HM
          refine hK9 _ _ (heldE HM) ?_; clear hK9 K9
          refine k_bin 16 (heldE HM) ?_
          refine wpAnyL_done (by kernel_rfl) ?_ _
          go_wp2_with (first | (go_at_call 31; refine (insert_any _ (As.chg M a b i) m.key _ (HS.out.rd HM (by intro p hp; exact hp)) (by omega) _ HN).mono ?_; rintro e9 w2 ⟨s9, rfl, ⟨rfl, hNL, hL⟩ | ⟨B2, HS2, HM2⟩⟩) | (first | ((with_reducible refine g_ld ?_); refine a_ld HM ?_) | ((with_reducible refine g_st ?_); refine a_st HM ?_; clear HM; intro w1 HM) | ((with_reducible refine g_al ?_); refine a_al HM ?_; clear HM; intro bk w1 HM) | ((with_reducible refine g_bx ?_); refine a_bx HM ?_; clear HM; intro bk w1 HM) | ((with_reducible refine g_bld ?_); refine a_bld ?_)))
          · go_roundw
            case rel => exact ⟨i + 1, B, by go_num, by omega, Lib.hid (by rw [hNL]; exact HS.out), HM.call hL⟩
            case measure => simp [intOf]; omega
          · go_roundw
            case rel => exact ⟨i + 1, B2, by go_num, by omega, HS2, (HM.join HM2).pk (Pk.pre _ _)⟩
            case measure => simp [intOf]; omega
      · obtain rfl : i = M.length := by omega
        go_wp2_with fail
        go_ret2
        exact ⟨_, B, rfl, HS, HM⟩
  · have hok := Bool.eq_false_iff.2 hok
    obtain ⟨rfl, rfl⟩ : zs = [] ∧ e = 130 := by
      have h := hr.out; unfold As.chgR at h; rw [hok, if_neg Bool.false_ne_true] at h; exact Prod.mk.inj h
    obtain rfl : e0 = 130 := he0.out.trans (As.err_bad hok)
    clear hok hr
    go_enter Try.func14, Try.ntmps14
    go_wp2_with (first | (go_at_call 17; ((with_reducible refine (rcheck_any _ M _ (As.Rd.below HR.out HM.low) 130 he0).mono ?_); rintro e9 w2 ⟨rfl, hL⟩; replace HM := HM.call hL; clear hL)) | (first | ((with_reducible refine g_ld ?_); refine a_ld HM ?_) | ((with_reducible refine g_st ?_); refine a_st HM ?_; clear HM; intro w1 HM) | ((with_reducible refine g_al ?_); refine a_al HM ?_; clear HM; intro bk w1 HM) | ((with_reducible refine g_bx ?_); refine a_bx HM ?_; clear HM; intro bk w1 HM) | ((with_reducible refine g_bld ?_); refine a_bld ?_)))
    go_ret2
    exact ⟨_, [], rfl, Lib.hid .nil, HM⟩
theorem As.mk_data (x : List UInt8) : (⟨x.toArray⟩ : ByteArray).data.toList = x := rfl
/-- The keys of what was seen first that changed. -/
def As.out1 (g : ByteArray → Option Nat) (S : List (ByteArray × Nat)) : List (List UInt8) := (S.filter fun p => decide (g p.1 ≠ some p.2)).map fun p => p.1.data.toList
/-- The keys of what was seen then that are new. -/
def As.out2 (f : ByteArray → Option Nat) (S : List (ByteArray × Nat)) : List (List UInt8) := (S.filter fun p => decide (f p.1 = none)).map fun p => p.1.data.toList
theorem As.nodup_keys {S : List (ByteArray × Nat)} (hn : (S.map (·.1)).Nodup) (q : ByteArray × Nat → Bool) : ((S.filter q).map fun p => p.1.data.toList).Nodup := by
  have h2 : S.Pairwise (fun p q => p.1 ≠ q.1) := List.pairwise_map.1 hn
  exact List.pairwise_map.2 ((List.Pairwise.filter q h2).imp (fun h e => h (As.key_inj e)))
theorem As.chg_sort {M : List As.Mk} {a b : Int} {S S2 : List (ByteArray × Nat)} (hn : (S.map (·.1)).Nodup) (h : ∀ s i, (s, i) ∈ S ↔ As.cnt M a M.length s = some i) (hn2 : (S2.map (·.1)).Nodup) (h2 : ∀ s i, (s, i) ∈ S2 ↔ As.cnt M b M.length s = some i) :
    (As.out1 (As.cnt M b M.length) S ++ As.out2 (As.cnt M a M.length) S2).mergeSort (fun x y => decide (x ≤ y)) = As.chg M a b M.length := by
  have m1 : ∀ s : ByteArray, s.data.toList ∈ As.out1 (As.cnt M b M.length) S ↔ ∃ i, As.cnt M a M.length s = some i ∧ As.cnt M b M.length s ≠ some i := by
    intro s
    unfold As.out1
    rw [List.mem_map]
    constructor
    · rintro ⟨⟨t, i⟩, hp, e⟩
      obtain rfl : t = s := As.key_inj e
      rw [List.mem_filter] at hp
      exact ⟨i, (h t i).1 hp.1, by simpa using hp.2⟩
    · rintro ⟨i, h3, h4⟩
      exact ⟨(s, i), List.mem_filter.2 ⟨(h s i).2 h3, by simpa using h4⟩, rfl⟩
  have m2 : ∀ s : ByteArray, s.data.toList ∈ As.out2 (As.cnt M a M.length) S2 ↔ As.cnt M a M.length s = none ∧ ∃ i, As.cnt M b M.length s = some i := by
    intro s
    unfold As.out2
    rw [List.mem_map]
    constructor
    · rintro ⟨⟨t, i⟩, hp, e⟩
      obtain rfl : t = s := As.key_inj e
      rw [List.mem_filter] at hp
      exact ⟨by simpa using hp.2, i, (h2 t i).1 hp.1⟩
    · rintro ⟨h3, i, h4⟩
      exact ⟨(s, i), List.mem_filter.2 ⟨(h2 s i).2 h4, by simpa using h3⟩, rfl⟩
  refine As.sort_texts (List.nodup_append.2 ⟨As.nodup_keys hn _, As.nodup_keys hn2 _, ?_⟩) (As.chg_sorted M a b M.length) ?_
  · intro x hx y hy e
    subst e
    rw [← As.mk_data x] at hx hy
    obtain ⟨i, h3, _⟩ := (m1 _).1 hx
    obtain ⟨h4, _⟩ := (m2 _).1 hy
    rw [h3] at h4; cases h4
  · intro x
    rw [← As.mk_data x, List.mem_append, m1, m2, As.chg_all]
    generalize As.cnt M a M.length ⟨x.toArray⟩ = p
    generalize As.cnt M b M.length ⟨x.toArray⟩ = q
    cases p with
    | none =>
      cases q with
      | none => simp
      | some j => simp
    | some i => simp; exact not_congr eq_comm
theorem IRng.ne_map {w : World} {b r n : Nat} {f : ByteArray → Option Nat} {S : List (ByteArray × Nat)} {cnt : Nat} (h : IRng w b r n f S cnt) {b2 n2 : Nat} {g : ByteArray → Option Nat} (k : IMap w b2 n2 g) : b2 ≠ r := by
  obtain ⟨D, left, ⟨es, clock, since, seen, c0, hb1, _, _, _, hr1, _⟩, _⟩ := h
  obtain ⟨D2, ⟨es2, clock2, hb2, _⟩, _⟩ := k
  rintro rfl
  rw [hr1] at hb2; cases hb2
set_option maxHeartbeats 8000000 in
theorem changed_any (sv : Value) (M : List As.Mk) (a b : Int) (w : World) (hR : As.Rd w sv M) (zs : List (List UInt8)) (e : Int) (hr : Hid ((zs, e) = As.chgR M a b)) :
    Calls Try.prog 13 #[sv, .int .i64 a, .int .i64 b] w fun r w' => ∃ s' B, r = .returned (.tuple #[s', .int .i64 e]) ∧ Hid (SlAt 1 s' (Vs zs) B) ∧ Mem w [] B w' := by
  have HM := Mem.start w
  have HR := Lib.hid hR
  obtain ⟨A, cap, rfl⟩ := hR.form
  have hML := hR.2
  have hel := el_str
  obtain ⟨e0, he0⟩ : ∃ e0, Hid (e0 = As.err M) := ⟨_, Lib.hid rfl⟩
  clear hR
  by_cases hok : As.ok M = true
  · obtain ⟨rfl, rfl⟩ : zs = As.chg M a b M.length ∧ e = 0 := by
      have h := hr.out; unfold As.chgR at h; rw [if_pos hok] at h; exact Prod.mk.inj h
    obtain rfl : e0 = 0 := he0.out.trans (As.err_ok hok)
    have hM4 := As.ok_len hok
    have HOK := Lib.hid hok
    clear hok hr
    go_enter Try.func13, Try.ntmps13
    go_wp2_with (first | (go_at_call 16; ((with_reducible refine (check_any _ M _ (As.Rd.below HR.out HM.low) 0 he0).mono ?_); rintro e9 w2 ⟨rfl, hL⟩; replace HM := HM.call hL; clear hL)) | (first | ((with_reducible refine g_ld ?_); refine a_ld HM ?_) | ((with_reducible refine g_st ?_); refine a_st HM ?_; clear HM; intro w1 HM) | ((with_reducible refine g_al ?_); refine a_al HM ?_; clear HM; intro bk w1 HM) | ((with_reducible refine g_bx ?_); refine a_bx HM ?_; clear HM; intro bk w1 HM) | ((with_reducible refine g_bld ?_); refine a_bld ?_)))
    refine (counting_any _ M _ _ (As.Rd.below HR.out HM.low) HOK.out).mono ?_
    rintro e9 w2 ⟨b1, n1, rfl, HI1, hble1, hL⟩
    replace hble1 := Nat.le_trans HM.only.size hble1
    replace HI1 := HI1.out
    replace HM := HM.call hL
    clear hL
    go_wp2_with fail
    refine (counting_any _ M _ _ (As.Rd.below HR.out HM.low) HOK.out).mono ?_
    rintro e9 w2 ⟨b2, n2, rfl, HI2, hble2, hL⟩
    replace hble2 := Nat.le_trans HM.only.size hble2
    replace HI1 := Lib.hid (HI1.below hL)
    replace HM := HM.call hL
    clear hL
    go_wp2_with (first | ((with_reducible refine g_rng ?_); refine a_rng HI1.out ?_; intro r1 w1 cnt HG hr1 hL; replace hr1 := Nat.le_trans HM.only.size hr1; have HJ := Lib.hid (HI2.out.below hL); replace HM := HM.call hL; clear hL HI1 HI2) | (first | ((with_reducible refine g_ld ?_); refine a_ld HM ?_) | ((with_reducible refine g_st ?_); refine a_st HM ?_; clear HM; intro w1 HM) | ((with_reducible refine g_al ?_); refine a_al HM ?_; clear HM; intro bk w1 HM) | ((with_reducible refine g_bx ?_); refine a_bx HM ?_; clear HM; intro bk w1 HM) | ((with_reducible refine g_bld ?_); refine a_bld ?_)))
    go_loopw [11] (fun ov wr => ∃ (S : List (ByteArray × Nat)) (c : Nat) (B : List (Nat × Array Value)), Hid (IRng wr b1 r1 n1 (As.cnt M a M.length) S c) ∧ Hid (IMap wr b2 n2 (As.cnt M b M.length)) ∧ Hid (SlAt 1 ov (Vs (As.out1 (As.cnt M b M.length) S)) B) ∧ Mem w [] B wr) (fun _ wr => wr.rangeLeft b1 r1)
    case atStart => exact ⟨[], _, [], Lib.hid HG, HJ, Lib.hid .nil, HM⟩
    case round =>
      clear HM HG HJ
      obtain ⟨S, c, B, HG, HJ, HS, HM⟩ := hrel
      have HLS := Lib.hid (As.seen_len HG.out.nodup HG.out.vals)
      have HCAP : Hid (((Vs (As.out1 (As.cnt M b M.length) S)).length + [#[Value.string { data := #[] }]].length) * (16 + 1) ≤ 140737488355328) := Lib.hid (by
        have h1 := HLS.out
        have h2 : (As.out1 (As.cnt M b M.length) S).length ≤ S.length := by
          unfold As.out1
          rw [List.length_map]
          exact List.length_filter_le _ _
        rw [Vs_len, List.length_singleton]
        omega)
      go_upto_region 8 with (first | first
        | ((with_reducible refine g_nx ?_); refine a_nx HG.out ?_ ?_; (intro hc0 hfin); rotate_left; (intro s i w1 c2 HG2 hlt hg hsz hfi hen; have HJ2 := Lib.hid (HJ.out.kept (hg.block _ HJ.out.lt (by simpa using HG.out.ne_map HJ.out))); replace HM := HM.side hg hr1 (fun p hp => (HG.out.ne (HM.blk p hp)).2); have HW := HM; replace HM := HW.rebase; replace HG2 := Lib.hid HG2; clear hg); rotate_left)
        | ((with_reducible refine g_rng ?_); refine a_rng HJ.out ?_; intro r2 w1 cnt HG2 hr2 hL; replace hr2 := Nat.le_trans HM.only.size hr2; have HJ2 := Lib.hid (HG.out.owns.below hL); replace HM := HM.call hL; clear hL) | (first | ((with_reducible refine g_ld ?_); refine a_ld HM ?_) | ((with_reducible refine g_st ?_); refine a_st HM ?_; clear HM; intro w1 HM) | ((with_reducible refine g_al ?_); refine a_al HM ?_; clear HM; intro bk w1 HM) | ((with_reducible refine g_bx ?_); refine a_bx HM ?_; clear HM; intro bk w1 HM) | ((with_reducible refine g_bld ?_); refine a_bld ?_)))
      · have HF1 := hfin
        have HN1 := Lib.hid HG.out.nodup
        clear hfin hc0 HCAP
        go_loopw [11] (fun ov wr => ∃ (S2 : List (ByteArray × Nat)) (c : Nat) (B : List (Nat × Array Value)), Hid (IRng wr b2 r2 n2 (As.cnt M b M.length) S2 c) ∧ Hid (IMap wr b1 n1 (As.cnt M a M.length)) ∧ Hid (SlAt 1 ov (Vs (As.out1 (As.cnt M b M.length) S ++ As.out2 (As.cnt M a M.length) S2)) B) ∧ Mem w [] B wr) (fun _ wr => wr.rangeLeft b2 r2)
        case atStart => exact ⟨[], _, B, Lib.hid HG2, HJ2, Lib.hid (by show SlAt 1 _ (Vs (As.out1 (As.cnt M b M.length) S ++ [])) B; rw [List.append_nil]; exact HS.out), HM⟩
        case round =>
          clear HM HG HJ HG2 HJ2 HS
          obtain ⟨S2, c, B, HG, HJ, HS, HM⟩ := hrel
          have HLS2 := Lib.hid (As.seen_len HG.out.nodup HG.out.vals)
          have HLEN : Hid ((As.out1 (As.cnt M b M.length) S ++ As.out2 (As.cnt M a M.length) S2).length ≤ 10000) := Lib.hid (by
            have h1 := HLS.out
            have h2 : (As.out1 (As.cnt M b M.length) S).length ≤ S.length := by
              unfold As.out1
              rw [List.length_map]
              exact List.length_filter_le _ _
            have h3 := HLS2.out
            have h4 : (As.out2 (As.cnt M a M.length) S2).length ≤ S2.length := by
              unfold As.out2
              rw [List.length_map]
              exact List.length_filter_le _ _
            rw [List.length_append]
            omega)
          have HCAP : Hid (((Vs (As.out1 (As.cnt M b M.length) S ++ As.out2 (As.cnt M a M.length) S2)).length + [#[Value.string { data := #[] }]].length) * (16 + 1) ≤ 140737488355328) := Lib.hid (by
            have h1 := HLEN.out
            rw [Vs_len, List.length_singleton]
            omega)
          go_upto_region 15 with (first | first
            | ((with_reducible refine g_nx ?_); refine a_nx HG.out ?_ ?_; (intro hc0 hfin); rotate_left; (intro s i w1 c2 HG2 hlt hg hsz hfi hen; have HJ2 := Lib.hid (HJ.out.kept (hg.block _ HJ.out.lt (by simpa using HG.out.ne_map HJ.out))); replace HM := HM.side hg hr2 (fun p hp => (HG.out.ne (HM.blk p hp)).2); have HW := HM; replace HM := HW.rebase; replace HG2 := Lib.hid HG2; clear hg); rotate_left)
            | (go_at_call 29; refine (sortS_any _ _ HM HS.out (Nat.le_trans HLEN.out (by omega)) (Lib.hid (As.chg_sort HN1.out HF1.out HG.out.nodup hfin.out))).mono ?_; rintro e9 w2 ⟨rfl, B2, HS2, HM2⟩) | (first | ((with_reducible refine g_ld ?_); refine a_ld HM ?_) | ((with_reducible refine g_st ?_); refine a_st HM ?_; clear HM; intro w1 HM) | ((with_reducible refine g_al ?_); refine a_al HM ?_; clear HM; intro bk w1 HM) | ((with_reducible refine g_bx ?_); refine a_bx HM ?_; clear HM; intro bk w1 HM) | ((with_reducible refine g_bld ?_); refine a_bld ?_)))
          · go_ret2
            exact ⟨_, B2, rfl, Lib.hid HS2, HM2⟩
          rcases (show As.cnt M a M.length s = none ∨ ∃ j, As.cnt M a M.length s = some j by
              cases As.cnt M a M.length s with
              | none => exact .inl rfl
              | some j => exact .inr ⟨j, rfl⟩) with ho | ⟨j, ho⟩
          · have HO := Lib.hid ho
            have HE : Hid (As.out2 (As.cnt M a M.length) (S2 ++ [(s, i)]) = As.out2 (As.cnt M a M.length) S2 ++ [s.data.toList]) := Lib.hid (by unfold As.out2; rw [List.filter_append, List.map_append]; congr 1; simp [ho])
            clear ho hfi
            go_wp2_with (first | first
              | ((with_reducible refine g_lk ?_); refine a_lk none HJ2.out hsz HO.out ?_)
              | ((with_reducible refine g_bs1 ?_); refine a_bs1 (c0 := #[.string s]) HM ?_; clear HM; intro bx w1 HM)
              | ((with_reducible refine g_app ?_); refine a_app (m := [#[.string s]]) (F := fun B => B) HM HS.out ((SlAt.made1 bx rfl).rd HM (by simp)) ?_ (Vs_one [s.data.toList]) (hlen := HCAP.out); clear HM; intro s2 B2 w1 HS2 HM) | (first | ((with_reducible refine g_ld ?_); refine a_ld HM ?_) | ((with_reducible refine g_st ?_); refine a_st HM ?_; clear HM; intro w1 HM) | ((with_reducible refine g_al ?_); refine a_al HM ?_; clear HM; intro bk w1 HM) | ((with_reducible refine g_bx ?_); refine a_bx HM ?_; clear HM; intro bk w1 HM) | ((with_reducible refine g_bld ?_); refine a_bld ?_)))
            have HG3 := Lib.hid (HG2.out.kept (HM.stay HG2.out.lt.1 (fun p hp => (HG2.out.ne (HW.blk p hp)).1)) (HM.stay HG2.out.lt.2 (fun p hp => (HG2.out.ne (HW.blk p hp)).2)))
            have HJ3 := Lib.hid (HJ2.out.kept (HM.stay HJ2.out.lt (fun p hp => HJ2.out.ne (HW.blk p hp))))
            go_roundw
            case rel => exact ⟨S2 ++ [(s, i)], c2, B2, HG3, HJ3, Lib.hid (by rw [HE.out, ← List.append_assoc, Vs_app]; exact HS2), HW.trans HM⟩
            case measure => rw [HG3.out.left_eq, HG.out.left_eq]; exact hlt
          · have HO := Lib.hid ho
            have HE : Hid (As.out2 (As.cnt M a M.length) (S2 ++ [(s, i)]) = As.out2 (As.cnt M a M.length) S2) := Lib.hid (by unfold As.out2; rw [List.filter_append]; simp [ho])
            clear ho hfi
            go_wp2_with (first | ((with_reducible refine g_lk ?_); refine a_lk (some j) HJ2.out hsz HO.out ?_) | (first | ((with_reducible refine g_ld ?_); refine a_ld HM ?_) | ((with_reducible refine g_st ?_); refine a_st HM ?_; clear HM; intro w1 HM) | ((with_reducible refine g_al ?_); refine a_al HM ?_; clear HM; intro bk w1 HM) | ((with_reducible refine g_bx ?_); refine a_bx HM ?_; clear HM; intro bk w1 HM) | ((with_reducible refine g_bld ?_); refine a_bld ?_)))
            have HG3 := Lib.hid (HG2.out.kept (HM.stay HG2.out.lt.1 (fun p hp => (HG2.out.ne (HW.blk p hp)).1)) (HM.stay HG2.out.lt.2 (fun p hp => (HG2.out.ne (HW.blk p hp)).2)))
            have HJ3 := Lib.hid (HJ2.out.kept (HM.stay HJ2.out.lt (fun p hp => HJ2.out.ne (HW.blk p hp))))
            go_roundw
            case rel => exact ⟨S2 ++ [(s, i)], c2, B, HG3, HJ3, Lib.hid (by rw [HE.out]; exact HS.out), HW.trans HM⟩
            case measure => rw [HG3.out.left_eq, HG.out.left_eq]; exact hlt
      · rcases (show As.cnt M b M.length s = some i ∨ (∃ j, As.cnt M b M.length s = some j ∧ j ≠ i) ∨ As.cnt M b M.length s = none by
            cases As.cnt M b M.length s with
            | none => exact .inr (.inr rfl)
            | some j =>
              by_cases e : j = i
              · exact .inl (by rw [e])
              · exact .inr (.inl ⟨j, rfl, e⟩)) with ho | ⟨j, ho, hne⟩ | ho
        · have HO := Lib.hid ho
          have HE : Hid (As.out1 (As.cnt M b M.length) (S ++ [(s, i)]) = As.out1 (As.cnt M b M.length) S) := Lib.hid (by unfold As.out1; rw [List.filter_append]; simp [ho])
          clear ho hfi
          go_wp2_with (first | ((with_reducible refine g_lk ?_); refine a_lk (some i) HJ2.out hsz HO.out ?_) | (first | ((with_reducible refine g_ld ?_); refine a_ld HM ?_) | ((with_reducible refine g_st ?_); refine a_st HM ?_; clear HM; intro w1 HM) | ((with_reducible refine g_al ?_); refine a_al HM ?_; clear HM; intro bk w1 HM) | ((with_reducible refine g_bx ?_); refine a_bx HM ?_; clear HM; intro bk w1 HM) | ((with_reducible refine g_bld ?_); refine a_bld ?_)))
          have HG3 := Lib.hid (HG2.out.kept (HM.stay HG2.out.lt.1 (fun p hp => (HG2.out.ne (HW.blk p hp)).1)) (HM.stay HG2.out.lt.2 (fun p hp => (HG2.out.ne (HW.blk p hp)).2)))
          have HJ3 := Lib.hid (HJ2.out.kept (HM.stay HJ2.out.lt (fun p hp => HJ2.out.ne (HW.blk p hp))))
          go_roundw
          case rel => exact ⟨S ++ [(s, i)], c2, B, HG3, HJ3, Lib.hid (by rw [HE.out]; exact HS.out), HW.trans HM⟩
          case measure => rw [HG3.out.left_eq, HG.out.left_eq]; exact hlt
        · have HO := Lib.hid ho
          have HE : Hid (As.out1 (As.cnt M b M.length) (S ++ [(s, i)]) = As.out1 (As.cnt M b M.length) S ++ [s.data.toList]) := Lib.hid (by unfold As.out1; rw [List.filter_append, List.map_append]; congr 1; simp [ho, hne])
          have g1 : ((i : Int) != (j : Int)) = true := bne_iff_ne.2 (by omega)
          clear ho hfi hne
          go_wp2_with (first | first
            | ((with_reducible refine g_lk ?_); refine a_lk (some j) HJ2.out hsz HO.out ?_)
            | ((with_reducible refine g_bs1 ?_); refine a_bs1 (c0 := #[.string s]) HM ?_; clear HM; intro bx w1 HM)
            | ((with_reducible refine g_app ?_); refine a_app (m := [#[.string s]]) (F := fun B => B) HM HS.out ((SlAt.made1 bx rfl).rd HM (by simp)) ?_ (Vs_one [s.data.toList]) (hlen := HCAP.out); clear HM; intro s2 B2 w1 HS2 HM) | (first | ((with_reducible refine g_ld ?_); refine a_ld HM ?_) | ((with_reducible refine g_st ?_); refine a_st HM ?_; clear HM; intro w1 HM) | ((with_reducible refine g_al ?_); refine a_al HM ?_; clear HM; intro bk w1 HM) | ((with_reducible refine g_bx ?_); refine a_bx HM ?_; clear HM; intro bk w1 HM) | ((with_reducible refine g_bld ?_); refine a_bld ?_)))
          have HG3 := Lib.hid (HG2.out.kept (HM.stay HG2.out.lt.1 (fun p hp => (HG2.out.ne (HW.blk p hp)).1)) (HM.stay HG2.out.lt.2 (fun p hp => (HG2.out.ne (HW.blk p hp)).2)))
          have HJ3 := Lib.hid (HJ2.out.kept (HM.stay HJ2.out.lt (fun p hp => HJ2.out.ne (HW.blk p hp))))
          go_roundw
          case rel => exact ⟨S ++ [(s, i)], c2, B2, HG3, HJ3, Lib.hid (by rw [HE.out, Vs_app]; exact HS2), HW.trans HM⟩
          case measure => rw [HG3.out.left_eq, HG.out.left_eq]; exact hlt
        · have HO := Lib.hid ho
          have HE : Hid (As.out1 (As.cnt M b M.length) (S ++ [(s, i)]) = As.out1 (As.cnt M b M.length) S ++ [s.data.toList]) := Lib.hid (by unfold As.out1; rw [List.filter_append, List.map_append]; congr 1; simp [ho])
          clear ho hfi
          go_wp2_with (first | first
            | ((with_reducible refine g_lk ?_); refine a_lk none HJ2.out hsz HO.out ?_)
            | ((with_reducible refine g_bs1 ?_); refine a_bs1 (c0 := #[.string s]) HM ?_; clear HM; intro bx w1 HM)
            | ((with_reducible refine g_app ?_); refine a_app (m := [#[.string s]]) (F := fun B => B) HM HS.out ((SlAt.made1 bx rfl).rd HM (by simp)) ?_ (Vs_one [s.data.toList]) (hlen := HCAP.out); clear HM; intro s2 B2 w1 HS2 HM) | (first | ((with_reducible refine g_ld ?_); refine a_ld HM ?_) | ((with_reducible refine g_st ?_); refine a_st HM ?_; clear HM; intro w1 HM) | ((with_reducible refine g_al ?_); refine a_al HM ?_; clear HM; intro bk w1 HM) | ((with_reducible refine g_bx ?_); refine a_bx HM ?_; clear HM; intro bk w1 HM) | ((with_reducible refine g_bld ?_); refine a_bld ?_)))
          have HG3 := Lib.hid (HG2.out.kept (HM.stay HG2.out.lt.1 (fun p hp => (HG2.out.ne (HW.blk p hp)).1)) (HM.stay HG2.out.lt.2 (fun p hp => (HG2.out.ne (HW.blk p hp)).2)))
          have HJ3 := Lib.hid (HJ2.out.kept (HM.stay HJ2.out.lt (fun p hp => HJ2.out.ne (HW.blk p hp))))
          go_roundw
          case rel => exact ⟨S ++ [(s, i)], c2, B2, HG3, HJ3, Lib.hid (by rw [HE.out, Vs_app]; exact HS2), HW.trans HM⟩
          case measure => rw [HG3.out.left_eq, HG.out.left_eq]; exact hlt
  · have hok := Bool.eq_false_iff.2 hok
    obtain ⟨rfl, rfl⟩ : zs = [] ∧ e = 130 := by
      have h := hr.out; unfold As.chgR at h; rw [hok, if_neg Bool.false_ne_true] at h; exact Prod.mk.inj h
    obtain rfl : e0 = 130 := he0.out.trans (As.err_bad hok)
    clear hok hr
    go_enter Try.func13, Try.ntmps13
    go_wp2_with (first | (go_at_call 16; ((with_reducible refine (check_any _ M _ (As.Rd.below HR.out HM.low) 130 he0).mono ?_); rintro e9 w2 ⟨rfl, hL⟩; replace HM := HM.call hL; clear hL)) | (first | ((with_reducible refine g_ld ?_); refine a_ld HM ?_) | ((with_reducible refine g_st ?_); refine a_st HM ?_; clear HM; intro w1 HM) | ((with_reducible refine g_al ?_); refine a_al HM ?_; clear HM; intro bk w1 HM) | ((with_reducible refine g_bx ?_); refine a_bx HM ?_; clear HM; intro bk w1 HM) | ((with_reducible refine g_bld ?_); refine a_bld ?_)))
    go_ret2
    exact ⟨_, [], rfl, Lib.hid .nil, HM⟩
end Go.Proofs.Ytipkmppoppjmeaa
