/- Walks. -/
import Derived.Test.YtiekmabiecalbaaGreatDoorPa37
namespace Go.Proofs.YtiekmabiecalbaaGreatDoor
set_option maxHeartbeats 16000000
open Go.RowKit
set_option maxRecDepth 8000
set_option linter.unusedSimpArgs false
set_option linter.unusedVariables false
section
open Jb
namespace Tq
def yard (C : List JQ) (q0 : JQ) : JQ := md (C.filter fun q => !(!(q.cur == q0.cur)))
def bad (q0 : JQ) (y tol : Rat) (q : JQ) : Bool := !(q.cur == q0.cur) || !near (px q.prc) y tol
def sel (C : List JQ) (tol : Rat) : Option JQ × List ByteArray := match C with
 | [] => (none, [])
 | q0 :: r => (C.find? (fun q => !bad q0 (px (yard C q0).prc) tol q), (C.filter (bad q0 (px (yard C q0).prc) tol)).map (·.src))
theorem srt_mem : ∀ (l : List JQ) {q : JQ}, q ∈ srt l → q ∈ l := by
 have hb : ∀ (j : Nat) (l : List JQ), j < l.length ∨ j = 0 → ∀ q ∈ bub l j, q ∈ l := by
  intro j
  induction j with
  | zero => intro l _ q h; exact h
  | succ j ih =>
   intro l hj q h
   have hj : j + 1 < l.length := by omega
   rw [bub_step (List.getElem?_eq_getElem hj) (List.getElem?_eq_getElem (by omega : j < l.length))] at h
   split at h
   ·have := ih _ (by rw [List.length_set, List.length_set]; omega) q h
    exact mem_swap (List.getElem_mem _) (List.getElem_mem _) q this
   ·exact h
 have hn : ∀ (k : Nat) (l : List JQ) (i : Nat), i + k ≤ l.length ∨ k = 0 → ∀ q ∈ srtN k l i, q ∈ l := by
  intro k
  induction k with
  | zero => intro l i _ q h; exact h
  | succ k ih =>
   intro l i hk q h
   have := ih _ (i + 1) (by rw [bub_len]; omega) q h
   exact hb i l Zo q this
 intro l q h
 exact hn _ l 1 Zo q h
theorem md_mem {l : List JQ} (h : l ≠ []) : md l ∈ l := by
 have hl : 1 ≤ l.length := by
  cases l with
  | nil => exact absurd rfl h
  | cons _ _ => simp
 have hk : (l.length - 1) / 2 < (srt l).length := by rw [srt_len]; omega
 refine srt_mem l ?_
 unfold md
 rw [List.getD_eq_getElem?_getD, List.getElem?_eq_getElem hk]
 exact List.getElem_mem hk
end Tq
theorem Tq.find_take {C : List JQ} {i : Nat} {x : JQ} (hx : C[i]? = some x) (G : JQ → Bool) : (C.take (i + 1)).find? G = ((C.take i).find? G).or (if G x then some x else none) := by
 rw [List.take_add_one, hx, List.find?_append]
 congr 1
 show [x].find? G = _
 rw [List.find?_cons]
 cases G x <;> rfl
theorem Tq.filter_take {C : List JQ} {i : Nat} {x : JQ} (hx : C[i]? = some x) (D : JQ → Bool) : ((C.take (i + 1)).filter D).map (·.src) = ((C.take i).filter D).map (·.src) ++ (if D x then [x.src] else []) := by
 rw [List.take_add_one, hx, List.filter_append, List.map_append]
 congr 1
 show ([x].filter D).map _ = _
 rw [List.filter_cons]
 cases D x <;> rfl
theorem CH.put_chl (c : CH) (A : Option Addr) (n k : Nat) : SA 29 c.c 69 (.slice A n k) (CH.c { c with chl := ⟨A, n, k⟩ }) := c.s_chl ⟨A, n, k⟩
structure Tq.ChR (w : World) (c : CH) (o : Option JQ) (l : List ByteArray) : Prop where
 src : c.src = (o.getD JQ.zero).src
 cur : c.cur = (o.getD JQ.zero).cur
 day : c.day = (o.getD JQ.zero).day
 prc : c.prc = (o.getD JQ.zero).prc
 chl : RdS 1 w c.chl.v (V1 (Tq.V l))
theorem CH.bld0 (w : World) : (Instr.build 52 #[]).run Tryz.prog w = .ok (.agg CH.zero.c) w :=
 CH.bld (parts := #[]) (r := CH.zero) Zs (by rw [CH.rows]; rfl) w
theorem select_any (L : List JQ) (hb : Tq.Book L) (k : Int) (p : WP) (ss : List ByteArray) (tol : Rat) (inst : ByteArray) (d : Int) (hd0 : 0 ≤ d) (hd1 : d ≤ 73048) (sv : Value) (w : World) (hR : RdS 72 w sv (L.map JQ.c)) (hP : Tq.Pol p ss tol w) (C : List JQ) (hC : Hid (C = Tq.cand (Tq.vis Dt.txt L k) ss inst d p.stale)) :
    Calls Tryz.prog 14 #[sv, .agg p.c, .int .i64 k, .string inst, .int .i64 d] w fun e w' => (∃ (c : CH), e = .returned (.tuple #[.agg c.c, .int .i64 (if C = [] then 151 else 0)]) ∧ Hid (Tq.ChR w' c (Tq.sel C tol).1 (Tq.sel C tol).2)) ∧ Below w.heap.size w w' := by
 have HM := Mem.start w
 have HR := Zi hR
 have HP := Zi hP
 have CC : ∀ w', Below w.heap.size w w' → Calls Tryz.prog 33 #[sv, .agg p.c, .int .i64 k, .string inst, .int .i64 d] w' fun e w'' => ∃ s B, e = .returned (.tuple #[s, .int .i64 0]) ∧ Hid (SlAt 72 s (C.map JQ.c) B) ∧ Mem w' [] B w'' := fun w' hB => by
  rw [hC.out]
  exact cands_any L hb k p ss tol inst d hd0 hd1 sv w' (HR.out.below hB) (HP.out.below hB)
 have HCC := Zi CC
 have HPQ : Hid (∀ q ∈ C, Tq.Pq q ∧ 1 ≤ q.src.size) := Zi (by
  intro q hq
  rw [hC.out] at hq
  obtain ⟨h1, h2, -⟩ := (Tq.vis_facts (T := Dt.txt) L k).2 q (Tq.cand_mem hq)
  exact ⟨hb.pr q h1 h2, (JQ.facts (hb.ok q h1)).1⟩)
 have hCl : C.length ≤ 8 := by
  rw [hC.out]
  exact Nat.le_trans (Tq.cand_len _ _ _ _ _) hP.n1
 have HTB := Zi hP.bd
 have ltol := (WP.f_tol p).la
 rw [hP.tl, rr_c hP.bd.fit] at ltol
 have zc := CH.za
 have lpp := p.la
 have za0 := JQ.za
 have zsl : ZA 26 #[.slice none 0 0] := ⟨.slice none 0 0, rfl, fun w => by kernel_rfl⟩
 obtain ⟨ec, hec⟩ := Zh ((if C = [] then (151 : Int) else 0))
 obtain ⟨O, hO⟩ := Zh ((Tq.sel C tol).1)
 obtain ⟨l9, hl9⟩ := Zh ((Tq.sel C tol).2)
 rw [← hec.out, ← hO.out, ← hl9.out]
 clear hR hP hb hC CC
 go_enter Tryz.func14, Tryz.ntmps14
 go_upto_region 1 with (first | ((with_reducible refine g_ld ?_); refine a_ld HM ?_) | ((with_reducible refine g_st ?_); refine a_st HM ?_; clear HM; intro w1 HM) | ((with_reducible refine g_al ?_); refine a_al HM ?_; clear HM; intro bk w1 HM) | ((with_reducible refine g_bx ?_); refine a_bx HM ?_; clear HM; intro bk w1 HM) | ((with_reducible refine g_bld ?_); refine a_bld ?_))
 obtain ⟨b10, rfl⟩ := HM.nm0
 obtain ⟨b6, rfl⟩ := HM.nm1
 replace HM : Mem w [] [(b10, CH.zero.c), (b6, p.c)] _ := HM
 go_upto_region 2 with (first | (go_at_call 33; refine (HCC.out _ HM.low).mono ?_; rintro e9 w2 ⟨s, B, rfl, HS, HM1⟩; replace HM := HM.join HM1; clear HM1; obtain ⟨A9, c9, rfl, hc9⟩ := HS.out.val; rw [List.length_map] at HS hc9; have ss9 : SA 26 #[.slice none 0 0] 0 (.slice A9 C.length c9) #[.slice A9 C.length c9] := SA.one Zk rfl Zd) | (first | ((with_reducible refine g_ld ?_); refine a_ld HM ?_) | ((with_reducible refine g_st ?_); refine a_st HM ?_; clear HM; intro w1 HM) | ((with_reducible refine g_al ?_); refine a_al HM ?_; clear HM; intro bk w1 HM) | ((with_reducible refine g_bx ?_); refine a_bx HM ?_; clear HM; intro bk w1 HM) | ((with_reducible refine g_bld ?_); refine a_bld ?_)))
 obtain ⟨b12, rfl⟩ := HM.nm0
 rcases List.eq_nil_or_concat C with hCe | ⟨_, _, hCe⟩
 ·subst hCe
  have sz : SA 52 CH.zero.c 0 (.agg CH.zero.c) CH.zero.c := CH.zero.sa (CH.size _)
  have lz := CH.zero.la
  have e0 : ([] : List JQ).length = 0 := rfl
  rw [e0] at *
  have hRn : ∀ w', RdS 1 w' CH.zero.chl.v (V1 (Tq.V [])) := fun w' => ⟨by simp [V1, Tq.V], none, 0, rfl, Nat.le_refl _, .inl rfl⟩
  obtain rfl : ec = 151 := by rw [hec.out, if_pos rfl]
  obtain rfl : O = none := hO.out
  obtain rfl : l9 = [] := hl9.out
  replace HM : Mem w [] ((b12, _) :: (b10, _) :: (b6, _) :: B) _ := HM.perm (List.Perm.cons _ (List.perm_append_comm (l₁ := [(b10, _), (b6, _)]) (l₂ := B)))
  clear HS HCC HPQ
  go_wp2_with (first | ((with_reducible refine g_bld ?_); refine a_rbl (v := .agg CH.zero.c) ?_ (hy := h_bgz rfl (by with_reducible exact CH.bld0))) | (first | ((with_reducible refine g_ld ?_); refine a_ld HM ?_) | ((with_reducible refine g_st ?_); refine a_st HM ?_; clear HM; intro w1 HM) | ((with_reducible refine g_al ?_); refine a_al HM ?_; clear HM; intro bk w1 HM) | ((with_reducible refine g_bx ?_); refine a_bx HM ?_; clear HM; intro bk w1 HM) | ((with_reducible refine g_bld ?_); refine a_bld ?_)))
  (try simp only [Exit.inBlock, Exit.then])
  refine bodyPost_ret (r_ct (b := b10) (k := 0) rfl rfl (HM.get Zl) lz) rfl ⟨⟨CH.zero, rfl, Zi ⟨rfl, rfl, rfl, rfl, hRn _⟩⟩, HM.low⟩
 ·have hne : C ≠ [] := by rw [hCe]; simp
  clear hCe
  obtain ⟨q0, r, hC0⟩ : ∃ q0 r, C = q0 :: r := by
   cases C with
   | nil => exact absurd rfl hne
   | cons a b => exact ⟨a, b, rfl⟩
  have hq0 : C[0]? = some q0 := by rw [hC0]; rfl
  have hsel : Tq.sel C tol = (C.find? (fun q => !Tq.bad q0 (Tq.px (Tq.yard C q0).prc) tol q), (C.filter (Tq.bad q0 (Tq.px (Tq.yard C q0).prc) tol)).map (·.src)) := by rw [hC0]; rfl
  obtain rfl : ec = 0 := by rw [hec.out, if_neg hne]
  have HO := Zi (hO.out.trans (congrArg Prod.fst hsel))
  have HL9 := Zi (hl9.out.trans (congrArg Prod.snd hsel))
  clear hC0 hsel r hec hO hl9
  have hl0 : 0 < C.length := List.length_pos_iff.2 hne
  obtain ⟨bC, sp, e1, e2, hsz⟩ := SlAt.inv HS.out (fun h => hne (List.map_eq_nil_iff.1 h))
  rw [List.length_map] at e1
  injection e1 with e11 e12 e13
  subst e11 e13 e2
  have HSZ := Zi hsz
  have HRC : ∀ (w' : World) (X : List Nat) (K : List (Nat × Array Value)), Mem w X K w' → (bC, rowsOf (C.map JQ.c ++ sp)) ∈ K → RdS 72 w' (.slice (some ⟨bC, 0, none⟩) C.length (C.length + sp.length)) (C.map JQ.c) := fun w' X K H hm => by
   have h := HS.out.rd H (fun p hp => by rw [List.mem_singleton.1 hp]; exact hm)
   exact h
  have HRCH := Zi HRC
  have hn1 : 1 ≤ C.length := by omega
  have hn8 : C.length ≤ 8 := by omega
  have hz0 : ((C.length : Int) == 0) = false := Zb Zo
  replace HM : Mem w [] [(b12, #[.slice (some ⟨bC, 0, none⟩) C.length (C.length + sp.length)]), (bC, rowsOf (C.map JQ.c ++ sp)), (b10, CH.zero.c), (b6, p.c)] _ := HM
  have lsl : LA 26 #[Value.slice (some ⟨bC, 0, none⟩) C.length (C.length + sp.length)] 0 (.slice (some ⟨bC, 0, none⟩) C.length (C.length + sp.length)) := LA.one Zk rfl
  have HQ0 := Zi hq0
  obtain ⟨M, hM⟩ : ∃ M, M = C.filter (fun q => !(!(q.cur == q0.cur))) := ⟨_, rfl⟩
  have HMM := Zi hM
  have HNE := Zi hne
  clear HCC HS ss9 HRC hsz hne hq0 hM hCl hc9 HR HP
  go_upto_region 6 with (first | ((with_reducible refine g_ld ?_); refine a_ld HM ?_) | ((with_reducible refine g_st ?_); refine a_st HM ?_; clear HM; intro w1 HM) | ((with_reducible refine g_al ?_); refine a_al HM ?_; clear HM; intro bk w1 HM) | ((with_reducible refine g_bx ?_); refine a_bx HM ?_; clear HM; intro bk w1 HM) | ((with_reducible refine g_bld ?_); refine a_bld ?_))
  have HMQ : Hid (∀ q ∈ M, Tq.Pq q) := Zi (fun q hq => by rw [HMM.out] at hq; exact (HPQ.out q (List.mem_filter.1 hq).1).1)
  have HMne : Hid (M ≠ []) := Zi (by
   rw [HMM.out]
   intro h
   have := List.filter_eq_nil_iff.1 h q0 (List.mem_of_getElem? HQ0.out)
   exact this (by rw [(jb_str q0.cur q0.cur).2 rfl]; rfl))
  have HMl : M.length ≤ 8 := by
   rw [HMM.out]
   exact Nat.le_trans (List.length_filter_le _ _) hn8
  have hyd : Tq.yard C q0 = Tq.md M := by unfold Tq.yard; rw [← HMM.out]
  have HYD := Zi hyd
  have HMD : Hid (Tq.Pq (Tq.md M)) := Zi (HMQ.out _ (Tq.md_mem HMne.out))
  clear e12 hyd
  go_upto_region 7 with (first | first
   | (go_at_call 35; refine (qclone_any C Zo _ _ (HRCH.out _ _ _ HM Zs)).mono ?_; rintro e9 w9 ⟨sk, Bk, rfl, HSK, HM9⟩; replace HM := HM.join HM9; clear HM9; obtain ⟨bK, sp2, e1, e2, hs2⟩ := SlAt.inv HSK.out (fun h => HNE.out (List.map_eq_nil_iff.1 h)); rw [List.length_map] at e1; subst e1 e2; replace HM : Mem w [] [(bK, rowsOf (C.map JQ.c ++ sp2)), (b12, #[.slice (some ⟨bC, 0, none⟩) C.length (C.length + sp.length)]), (bC, rowsOf (C.map JQ.c ++ sp)), (b10, CH.zero.c), (b6, p.c)] _ := HM)
   | (go_at_call 34; refine (qdel_any C.length (C.length + sp2.length) C rfl sp2 rfl hs2 Zo hl0 (fun q => !(q.cur == q0.cur)) b12 HM (fun cs q w' H => sdel_any q q0 C b12 _ _ _ w' (H.get Zl) (HRCH.out _ _ _ H Zs) HQ0.out)).mono ?_; clear HM; rintro e9 w9 ⟨s7, c7, rfl, HS7, HM⟩) | (first | ((with_reducible refine g_ld ?_); refine a_ld HM ?_) | ((with_reducible refine g_st ?_); refine a_st HM ?_; clear HM; intro w1 HM) | ((with_reducible refine g_al ?_); refine a_al HM ?_; clear HM; intro bk w1 HM) | ((with_reducible refine g_bx ?_); refine a_bx HM ?_; clear HM; intro bk w1 HM) | ((with_reducible refine g_bld ?_); refine a_bld ?_)))
  have HS8 := HS7.out
  rw [← HMM.out] at HS8
  have HS8 := Zi HS8
  clear HS7 HSK hs2
  obtain ⟨ey, by_, -⟩ := HMD.out.get
  obtain ⟨y, hy⟩ : ∃ y, y = Tq.px (Tq.md M).prc := ⟨_, rfl⟩
  rw [← hy] at ey by_
  have HY := Zi hy
  have sy : SA 35 (Bg.rZ 0 0) 0 (.agg (Rt.qA y)) (Rt.qA y) := sa_q y (rZ_size 0 0)
  have zr := za_rat
  have fy := JQ.f_prc (Tq.md M)
  rw [ey] at fy
  clear hy HMM
  go_upto_region 8 with (first | (go_at_call 37; refine (median_any M HMQ.out Zo HMne.out _ _ HS8.out).mono ?_; rintro e9 w9 ⟨rfl, hL⟩; replace HM := HM.call hL; clear hL) | ((with_reducible refine g_fld ?_); refine a_fld ?_ fy) | (first | ((with_reducible refine g_ld ?_); refine a_ld HM ?_) | ((with_reducible refine g_st ?_); refine a_st HM ?_; clear HM; intro w1 HM) | ((with_reducible refine g_al ?_); refine a_al HM ?_; clear HM; intro bk w1 HM) | ((with_reducible refine g_bx ?_); refine a_bx HM ?_; clear HM; intro bk w1 HM) | ((with_reducible refine g_bld ?_); refine a_bld ?_)))
  go_upto_region 9 with (first | ((with_reducible refine g_ld ?_); refine a_ld HM ?_) | ((with_reducible refine g_st ?_); refine a_st HM ?_; clear HM; intro w1 HM) | ((with_reducible refine g_al ?_); refine a_al HM ?_; clear HM; intro bk w1 HM) | ((with_reducible refine g_bx ?_); refine a_bx HM ?_; clear HM; intro bk w1 HM) | ((with_reducible refine g_bld ?_); refine a_bld ?_))
  obtain ⟨b16, rfl⟩ := HM.nm0
  obtain ⟨b15, rfl⟩ := HM.nm1
  replace HM : Mem w [] [(b16, CH.zero.c), (b15, Rt.qA y), (b12, #[.slice (some ⟨bC, 0, none⟩) C.length (C.length + sp.length)]), (bC, rowsOf (C.map JQ.c ++ sp)), (b6, p.c), (b10, CH.zero.c)] _ := HM.pick
  have ly := la_q y
  have lH0 : Hid (∀ q ∈ C, 1 ≤ q.src.size) := Zi (fun q hq => (HPQ.out q hq).2)
  obtain ⟨G, hG⟩ : ∃ G, G = fun q => !Tq.bad q0 y tol q := ⟨_, rfl⟩
  obtain ⟨D, hD⟩ : ∃ D, D = Tq.bad q0 y tol := ⟨_, rfl⟩
  have HGD : Hid (∀ q, G q = !D q) := Zi (fun q => by rw [hG, hD])
  have HDD := Zi hD
  have HO2 : Hid (O = C.find? G) := Zi (by rw [HO.out, hG, HYD.out, ← HY.out])
  have HL2 : Hid (l9 = (C.filter D).map (·.src)) := Zi (by rw [HL9.out, hD, HYD.out, ← HY.out])
  have els : elemB 29 9 1 16 = true := by kernel_rfl
  clear HO HL9 hG hD zr sy fy HY HYD HMD HMne HMQ HS8 HMl ey hn1
  go_wp2_with (first | ((with_reducible refine g_ld ?_); refine a_ld HM ?_) | ((with_reducible refine g_st ?_); refine a_st HM ?_; clear HM; intro w1 HM) | ((with_reducible refine g_al ?_); refine a_al HM ?_; clear HM; intro bk w1 HM) | ((with_reducible refine g_bx ?_); refine a_bx HM ?_; clear HM; intro bk w1 HM) | ((with_reducible refine g_bld ?_); refine a_bld ?_))
  go_loopw [47] (fun iv wr => ∃ (i : Nat) (c : CH) (ch : List ByteArray) (B : List (Nat × Array Value)), iv = .int .i64 (i : Nat) ∧ i ≤ C.length ∧ Hid (c.src = (((C.take i).find? G).getD JQ.zero).src ∧ c.cur = (((C.take i).find? G).getD JQ.zero).cur ∧ c.day = (((C.take i).find? G).getD JQ.zero).day ∧ c.prc = (((C.take i).find? G).getD JQ.zero).prc) ∧ Hid (ch = ((C.take i).filter D).map (·.src)) ∧ Hid (SlAt 1 c.chl.v (V1 (Tq.V ch)) B) ∧ Mem w [] ((b16, c.c) :: (b15, Rt.qA y) :: (b12, #[.slice (some ⟨bC, 0, none⟩) C.length (C.length + sp.length)]) :: (bC, rowsOf (C.map JQ.c ++ sp)) :: (b6, p.c) :: (b10, CH.zero.c) :: B) wr) (fun iv _ => C.length - (intOf iv).toNat)
  case atStart => exact ⟨0, CH.zero, [], [], rfl, by omega, Zi ⟨rfl, rfl, rfl, rfl⟩, Zi rfl, Zi .nil, HM⟩
  case round =>
   clear HM
   obtain ⟨i, c, ch, B, rfl, hi, HC, HCH, HSB, HM⟩ := hrel
   by_cases hlt : i < C.length
   ·have hlt1 : (i : Int) < C.length := by omega
    obtain ⟨x, hx⟩ : ∃ x, C[i]? = some x := ⟨_, List.getElem?_eq_getElem hlt⟩
    have lx := Tq.row_at HSZ.out hx
    have hin0 : ∀ j, j < 72 → (rowsOf (C.map JQ.c ++ sp))[0 + j]? = q0.c[j]? := fun j hj => by
     rw [Nat.zero_add]
     have h := rows_at HSZ.out (k := 0) (j := j) (c := q0.c) (by rw [List.getElem?_append_left (by rw [List.length_map]; exact hl0), List.getElem?_map, HQ0.out]; rfl) hj
     rwa [Nat.mul_zero, Nat.zero_add] at h
    have lq0 : LA 9 (rowsOf (C.map JQ.c ++ sp)) 2 (.string q0.cur) := by simpa using LA.inRow (p := 0) q0.f_cur Zk hin0 Zd
    have sx := x.sa JQ.zero.size
    have l0 := (JQ.f_src x).la
    have l1 := (JQ.f_cur x).la
    have l2 := (JQ.f_day x).la
    have l3 := (JQ.f_prc x).la
    obtain ⟨ex, bx, -⟩ := (HPQ.out x (List.mem_of_getElem? hx)).1.get
    have hsrc := lH0.out x (List.mem_of_getElem? hx)
    rw [ex] at l3
    have HFT := Zi (Tq.find_take hx G)
    have HFL := Zi (Tq.filter_take hx D)
    have hst := Jb.str_l x.cur q0.cur
    have hDv : D x = (!(x.cur == q0.cur) || !Tq.near (Tq.px x.prc) y tol) := by rw [HDD.out]; rfl
    have NE := fun w => near_any (Tq.px x.prc) y tol bx by_ HTB.out w
    have hGD := HGD.out x
    have hone : ∀ c ∈ [#[Value.string x.src]], c.all (·.oneCell') = true := fun c hc => by rw [List.mem_singleton.1 hc]; simp [Value.oneCell']
    have HBL : ((V1 (Tq.V ch)).length + [#[Value.string x.src]].length) * (16 + 1) ≤ 140737488355328 := by
     rw [Tq.V_len, HCH.out, List.length_map, List.length_singleton]
     have := List.length_filter_le D (C.take i)
     rw [List.length_take] at this
     omega
    have lchl := c.f_chl.la
    obtain ⟨A1, c1, e1, -⟩ := HSB.out.val
    rw [e1] at lchl
    have HSB2 := HSB.out
    rw [e1] at HSB2
    have HSB2 := Zi HSB2
    clear e1
    have lcs := c.f_src.la
    obtain ⟨PX, hPX⟩ := Zh (Tq.px x.prc)
    generalize Tq.px x.prc = px0 at *
    generalize (x.cur == q0.cur) = vc at *
    generalize Tq.near px0 y tol = vn at *
    clear hx bx hin0 hPX
    go_upto_region 12 with (first | ((with_reducible refine g_ld ?_); refine a_ld HM ?_) | ((with_reducible refine g_st ?_); refine a_st HM ?_; clear HM; intro w1 HM) | ((with_reducible refine g_al ?_); refine a_al HM ?_; clear HM; intro bk w1 HM) | ((with_reducible refine g_bx ?_); refine a_bx HM ?_; clear HM; intro bk w1 HM) | ((with_reducible refine g_bld ?_); refine a_bld ?_))
    obtain ⟨b18, rfl⟩ := HM.nm0
    cases vc with
    | false =>
     have hDx : D x = true := hDv
     have hG : G x = false := by rw [hGD, hDx]; rfl
     clear hDv hGD
     have HP2 : Hid ((C.take (i + 1)).find? G = (C.take i).find? G) := Zi (by rw [HFT.out, hG, if_neg Bool.false_ne_true, Option.or_none])
     have HCH2 : Hid (ch ++ [x.src] = ((C.take (i + 1)).filter D).map (·.src)) := Zi (by rw [HFL.out, hDx, if_pos rfl, HCH.out])
     have HC2 : Hid (c.src = (((C.take (i + 1)).find? G).getD JQ.zero).src ∧ c.cur = (((C.take (i + 1)).find? G).getD JQ.zero).cur ∧ c.day = (((C.take (i + 1)).find? G).getD JQ.zero).day ∧ c.prc = (((C.take (i + 1)).find? G).getD JQ.zero).prc) := Zi (by rw [HP2.out]; exact HC.out)
     clear hG hDx HFT HFL HC HCH
     refine start_M2 [] HM ((Sub.keep (Sub.keep (Sub.keep (Sub.keep (Sub.keep (Sub.keep Sub.nil))))))) Zk (fun w0x H9 => ?_)
     replace HM := H9; clear H9
     refine k_fa 0 (heldF HM) ?_
     refine k_ld 1 [] (heldF HM) ?_
     refine k_ld 2 [] (heldF HM) ?_
     refine k_ia 3 (heldF HM) ?_
     refine k_fa 4 (heldF HM) ?_
     refine k_ld 5 [] (heldF HM) ?_
     refine k_bin 6 (heldF HM) ?_
     refine k_mv 7 (heldF HM) ?_
     refine k_off 8 (heldF HM) ?_
     refine k_off 9 (heldF HM) ?_
     refine k_off 10 (heldF HM) ?_
     refine k_off 11 (heldF HM) ?_
     refine k_off 12 (heldF HM) ?_
     refine k_off 13 (heldF HM) ?_
     refine k_off 14 (heldF HM) ?_
     refine k_pick 15 (heldF HM) ?_
     refine k_mv 16 (heldF HM) ?_
     refine wpAnyL_done Zk ?_ _
     go_wp2_with (first | ((with_reducible refine g_bs1 ?_); refine a_bs1 (c0 := #[.string x.src]) HM ?_; clear HM; intro b9 w9 HM) | ((with_reducible refine g_app ?_); refine a_app (m := [#[.string x.src]]) (F := fun X => (b18, x.c) :: (b16, c.c) :: (b15, Rt.qA y) :: (b12, #[.slice (some ⟨bC, 0, none⟩) C.length (C.length + sp.length)]) :: (bC, rowsOf (C.map JQ.c ++ sp)) :: (b6, p.c) :: (b10, CH.zero.c) :: X) HM HSB2.out ((SlAt.made1 b9 rfl).rd HM Zs) ?_ hone (hlen := HBL); clear HM; intro s9 B9 w9 HS9 HM; obtain ⟨A9, c9, rfl, -⟩ := HS9.val; have s9 : SA 29 c.c 69 (.slice A9 (V1 (Tq.V ch) ++ [#[Value.string x.src]]).length c9) (CH.c { c with chl := ⟨A9, (V1 (Tq.V ch) ++ [#[Value.string x.src]]).length, c9⟩ }) := c.put_chl A9 _ c9) | (first | ((with_reducible refine g_ld ?_); refine a_ld HM ?_) | ((with_reducible refine g_st ?_); refine a_st HM ?_; clear HM; intro w1 HM) | ((with_reducible refine g_al ?_); refine a_al HM ?_; clear HM; intro bk w1 HM) | ((with_reducible refine g_bx ?_); refine a_bx HM ?_; clear HM; intro bk w1 HM) | ((with_reducible refine g_bld ?_); refine a_bld ?_)))
     go_roundw
     case rel => exact ⟨i + 1, { c with chl := ⟨A9, (V1 (Tq.V ch) ++ [#[Value.string x.src]]).length, c9⟩ }, ch ++ [x.src], B9, by go_num, by omega, HC2, HCH2, Zi (by have h := HS9; unfold Tq.V V1 at h ⊢; rw [List.map_append, List.map_append]; exact h), HM.tail⟩
     case measure => simp [intOf]; omega
    | true =>
     cases vn with
     | false =>
      have hDx : D x = true := hDv
      have hG : G x = false := by rw [hGD, hDx]; rfl
      clear hDv hGD
      have HP2 : Hid ((C.take (i + 1)).find? G = (C.take i).find? G) := Zi (by rw [HFT.out, hG, if_neg Bool.false_ne_true, Option.or_none])
      have HCH2 : Hid (ch ++ [x.src] = ((C.take (i + 1)).filter D).map (·.src)) := Zi (by rw [HFL.out, hDx, if_pos rfl, HCH.out])
      have HC2 : Hid (c.src = (((C.take (i + 1)).find? G).getD JQ.zero).src ∧ c.cur = (((C.take (i + 1)).find? G).getD JQ.zero).cur ∧ c.day = (((C.take (i + 1)).find? G).getD JQ.zero).day ∧ c.prc = (((C.take (i + 1)).find? G).getD JQ.zero).prc) := Zi (by rw [HP2.out]; exact HC.out)
      clear hG hDx HFT HFL HC HCH
      refine start_M2 [] HM ((Sub.keep (Sub.keep (Sub.keep (Sub.keep (Sub.keep (Sub.keep Sub.nil))))))) Zk (fun w0x H9 => ?_)
      replace HM := H9; clear H9
      refine k_fa 0 (heldF HM) ?_
      refine k_ld 1 [] (heldF HM) ?_
      refine k_ld 2 [] (heldF HM) ?_
      refine k_ia 3 (heldF HM) ?_
      refine k_fa 4 (heldF HM) ?_
      refine k_ld 5 [] (heldF HM) ?_
      refine k_bin 6 (heldF HM) ?_
      refine k_mv 7 (heldF HM) ?_
      refine k_fa 8 (heldF HM) ?_
      refine k_ld 9 [] (heldF HM) ?_
      refine k_ld 10 [] (heldF HM) ?_
      refine k_fa 11 (heldF HM) ?_
      refine k_ld 12 [] (heldF HM) ?_
      refine j_one 13 fun K9 hK9 => ?_
      refine j_call3 (v := ?_) HM ?_ ?_; rotate_left 1; (focus (with_reducible (exact NE _))); clear HM; intro w1 HM
      refine hK9 _ _ (heldF HM) ?_; clear hK9 K9
      refine k_not 14 (heldF HM) ?_
      refine k_pick 15 (heldF HM) ?_
      refine k_mv 16 (heldF HM) ?_
      refine wpAnyL_done Zk ?_ _
      go_wp2_with (first | ((with_reducible refine g_bs1 ?_); refine a_bs1 (c0 := #[.string x.src]) HM ?_; clear HM; intro b9 w9 HM) | ((with_reducible refine g_app ?_); refine a_app (m := [#[.string x.src]]) (F := fun X => (b18, x.c) :: (b16, c.c) :: (b15, Rt.qA y) :: (b12, #[.slice (some ⟨bC, 0, none⟩) C.length (C.length + sp.length)]) :: (bC, rowsOf (C.map JQ.c ++ sp)) :: (b6, p.c) :: (b10, CH.zero.c) :: X) HM HSB2.out ((SlAt.made1 b9 rfl).rd HM Zs) ?_ hone (hlen := HBL); clear HM; intro s9 B9 w9 HS9 HM; obtain ⟨A9, c9, rfl, -⟩ := HS9.val; have s9 : SA 29 c.c 69 (.slice A9 (V1 (Tq.V ch) ++ [#[Value.string x.src]]).length c9) (CH.c { c with chl := ⟨A9, (V1 (Tq.V ch) ++ [#[Value.string x.src]]).length, c9⟩ }) := c.put_chl A9 _ c9) | (first | ((with_reducible refine g_ld ?_); refine a_ld HM ?_) | ((with_reducible refine g_st ?_); refine a_st HM ?_; clear HM; intro w1 HM) | ((with_reducible refine g_al ?_); refine a_al HM ?_; clear HM; intro bk w1 HM) | ((with_reducible refine g_bx ?_); refine a_bx HM ?_; clear HM; intro bk w1 HM) | ((with_reducible refine g_bld ?_); refine a_bld ?_)))
      go_roundw
      case rel => exact ⟨i + 1, { c with chl := ⟨A9, (V1 (Tq.V ch) ++ [#[Value.string x.src]]).length, c9⟩ }, ch ++ [x.src], B9, by go_num, by omega, HC2, HCH2, Zi (by have h := HS9; unfold Tq.V V1 at h ⊢; rw [List.map_append, List.map_append]; exact h), HM.tail⟩
      case measure => simp [intOf]; omega
     | true =>
      have hDx : D x = false := hDv
      have hG : G x = true := by rw [hGD, hDx]; rfl
      have HCH2 : Hid (ch = ((C.take (i + 1)).filter D).map (·.src)) := Zi (by rw [HFL.out, hDx, if_neg Bool.false_ne_true, HCH.out, List.append_nil])
      clear hDv hGD hDx HFL HCH hone HBL lchl HSB2
      cases hP : (C.take i).find? G with
      | none =>
       have hs0 : c.src = ({ data := #[] } : ByteArray) := by have h := HC.out.1; rw [hP] at h; exact h
       have HP2 : (C.take (i + 1)).find? G = some x := by rw [HFT.out, hP, hG]; rfl
       have HC2 : Hid (x.src = (((C.take (i + 1)).find? G).getD JQ.zero).src ∧ x.cur = (((C.take (i + 1)).find? G).getD JQ.zero).cur ∧ x.day = (((C.take (i + 1)).find? G).getD JQ.zero).day ∧ x.prc = (((C.take (i + 1)).find? G).getD JQ.zero).prc) := Zi (by rw [HP2]; exact ⟨rfl, rfl, rfl, rfl⟩)
       have he : (({ data := #[] } : ByteArray).toList == ({ data := #[] } : ByteArray).toList) = true := beq_self_eq_true _
       have k1 := c.s_src x.src
       have k2 := ({ c with src := x.src } : CH).s_cur x.cur
       have k3 := ({ c with src := x.src, cur := x.cur } : CH).s_day x.day
       have k4 := ({ c with src := x.src, cur := x.cur, day := x.day } : CH).s_prc x.prc
       rw [ex] at k4
       rw [hs0] at lcs
       clear hs0 HP2 hP HFT HC hG
       refine start_M2 [] HM ((Sub.keep (Sub.keep (Sub.keep (Sub.keep (Sub.keep (Sub.keep Sub.nil))))))) Zk (fun w0x H9 => ?_)
       replace HM := H9; clear H9
       refine k_fa 0 (heldF HM) ?_
       refine k_ld 1 [] (heldF HM) ?_
       refine k_ld 2 [] (heldF HM) ?_
       refine k_ia 3 (heldF HM) ?_
       refine k_fa 4 (heldF HM) ?_
       refine k_ld 5 [] (heldF HM) ?_
       refine k_bin 6 (heldF HM) ?_
       refine k_mv 7 (heldF HM) ?_
       refine k_fa 8 (heldF HM) ?_
       refine k_ld 9 [] (heldF HM) ?_
       refine k_ld 10 [] (heldF HM) ?_
       refine k_fa 11 (heldF HM) ?_
       refine k_ld 12 [] (heldF HM) ?_
       refine j_one 13 fun K9 hK9 => ?_
       refine j_call3 (v := ?_) HM ?_ ?_; rotate_left 1; (focus (with_reducible (exact NE _))); clear HM; intro w1 HM
       refine hK9 _ _ (heldF HM) ?_; clear hK9 K9
       refine k_not 14 (heldF HM) ?_
       refine k_pick 15 (heldF HM) ?_
       refine k_mv 16 (heldF HM) ?_
       refine wpAnyL_done Zk ?_ _
       go_upto_region 15 with (first | ((with_reducible refine g_ld ?_); refine a_ld HM ?_) | ((with_reducible refine g_st ?_); refine a_st HM ?_; clear HM; intro w1 HM) | ((with_reducible refine g_al ?_); refine a_al HM ?_; clear HM; intro bk w1 HM) | ((with_reducible refine g_bx ?_); refine a_bx HM ?_; clear HM; intro bk w1 HM) | ((with_reducible refine g_bld ?_); refine a_bld ?_))
       refine start_M2 [] HM ((Sub.keep Sub.nil)) Zk (fun w0x H9 => ?_)
       replace HM := H9; clear H9
       refine k_fa 0 (heldF HM) ?_
       refine k_ld 1 [] (heldF HM) ?_
       refine k_fa 2 (heldF HM) ?_
       refine k_ld 3 [] (heldF HM) ?_
       refine k_fa 4 (heldF HM) ?_
       refine k_ld 5 [] (heldF HM) ?_
       refine k_fa 6 (heldF HM) ?_
       refine k_ld 7 [] (heldF HM) ?_
       refine k_fa 8 (heldF HM) ?_
       refine j_one 9 fun K9 hK9 => ?_
       refine j_st HM ?_; clear HM; intro w1 HM
       refine hK9 _ _ (heldF HM) ?_; clear hK9 K9
       refine k_fa 10 (heldF HM) ?_
       refine j_one 11 fun K9 hK9 => ?_
       refine j_st HM ?_; clear HM; intro w1 HM
       refine hK9 _ _ (heldF HM) ?_; clear hK9 K9
       refine k_fa 12 (heldF HM) ?_
       refine j_one 13 fun K9 hK9 => ?_
       refine j_st HM ?_; clear HM; intro w1 HM
       refine hK9 _ _ (heldF HM) ?_; clear hK9 K9
       refine k_fa 14 (heldF HM) ?_
       refine j_one 15 fun K9 hK9 => ?_
       refine j_st HM ?_; clear HM; intro w1 HM
       refine hK9 _ _ (heldF HM) ?_; clear hK9 K9
       refine wpAnyL_done Zk ?_ _
       go_wp2_with fail
       go_roundw
       case rel => exact ⟨i + 1, ⟨x.src, x.cur, x.day, x.prc, c.chl⟩, ch, B, by go_num, by omega, HC2, HCH2, HSB, HM.tail⟩
       case measure => simp [intOf]; omega
      | some o =>
       have hso : c.src = o.src := by have h := HC.out.1; rw [hP] at h; exact h
       have hos := lH0.out o (List.mem_of_mem_take (List.mem_of_find?_eq_some hP))
       have he : (c.src.toList == ({ data := #[] } : ByteArray).toList) = false := by
        rw [Jb.str_l]
        cases h : c.src == ({ data := #[] } : ByteArray) with
        | false => rfl
        | true =>
         have := (jb_str _ _).1 h
         rw [← hso, this] at hos
         exact absurd hos Zd
       have he1 : ¬ c.src.toList = [] := by
        intro h
        rw [h] at he
        have h0 : ({ data := #[] } : ByteArray).toList = [] := by rw [ByteArray.toList_eq]
        rw [h0] at he
        exact absurd he Zd
       have he2 : (c.src.toList == []) = false := by
        cases hh : c.src.toList with
        | nil => exact absurd hh he1
        | cons _ _ => rfl
       have he3 : c.src.toList.isEmpty = false := by
        cases hh : c.src.toList with
        | nil => exact absurd hh he1
        | cons _ _ => rfl
       have HP2 : (C.take (i + 1)).find? G = (C.take i).find? G := by rw [HFT.out, hP]; rfl
       have HC2 : Hid (c.src = (((C.take (i + 1)).find? G).getD JQ.zero).src ∧ c.cur = (((C.take (i + 1)).find? G).getD JQ.zero).cur ∧ c.day = (((C.take (i + 1)).find? G).getD JQ.zero).day ∧ c.prc = (((C.take (i + 1)).find? G).getD JQ.zero).prc) := Zi (by rw [HP2]; exact HC.out)
       clear hso hos HP2 hP HFT HC hG
       refine start_M2 [] HM ((Sub.keep (Sub.keep (Sub.keep (Sub.keep (Sub.keep (Sub.keep Sub.nil))))))) Zk (fun w0x H9 => ?_)
       replace HM := H9; clear H9
       refine k_fa 0 (heldF HM) ?_
       refine k_ld 1 [] (heldF HM) ?_
       refine k_ld 2 [] (heldF HM) ?_
       refine k_ia 3 (heldF HM) ?_
       refine k_fa 4 (heldF HM) ?_
       refine k_ld 5 [] (heldF HM) ?_
       refine k_bin 6 (heldF HM) ?_
       refine k_mv 7 (heldF HM) ?_
       refine k_fa 8 (heldF HM) ?_
       refine k_ld 9 [] (heldF HM) ?_
       refine k_ld 10 [] (heldF HM) ?_
       refine k_fa 11 (heldF HM) ?_
       refine k_ld 12 [] (heldF HM) ?_
       refine j_one 13 fun K9 hK9 => ?_
       refine j_call3 (v := ?_) HM ?_ ?_; rotate_left 1; (focus (with_reducible (exact NE _))); clear HM; intro w1 HM
       refine hK9 _ _ (heldF HM) ?_; clear hK9 K9
       refine k_not 14 (heldF HM) ?_
       refine k_pick 15 (heldF HM) ?_
       refine k_mv 16 (heldF HM) ?_
       refine wpAnyL_done Zk ?_ _
       go_wp2_with (first | ((with_reducible refine g_ld ?_); refine a_ld HM ?_) | ((with_reducible refine g_st ?_); refine a_st HM ?_; clear HM; intro w1 HM) | ((with_reducible refine g_al ?_); refine a_al HM ?_; clear HM; intro bk w1 HM) | ((with_reducible refine g_bx ?_); refine a_bx HM ?_; clear HM; intro bk w1 HM) | ((with_reducible refine g_bld ?_); refine a_bld ?_))
       go_roundw
       case rel => exact ⟨i + 1, c, ch, B, by go_num, by omega, HC2, HCH2, HSB, HM.tail⟩
       case measure => simp [intOf]; omega
   ·obtain rfl : i = C.length := by omega
    have lcc := c.la
    have sc := c.sa (z := CH.zero.c) (CH.size _)
    have HFIN : Hid (∀ w', RdS 1 w' c.chl.v (V1 (Tq.V ch)) → Tq.ChR w' c O l9) := Zi (fun w' h => by
     have h1 := HC.out
     have h2 := HCH.out
     rw [List.take_length] at h1 h2
     rw [← HO2.out] at h1
     refine ⟨h1.1, h1.2.1, h1.2.2.1, h1.2.2.2, ?_⟩
     rw [HL2.out, ← h2]
     exact h)
    clear HC HCH HO2 HL2
    go_wp2_with (first | ((with_reducible refine g_ld ?_); refine a_ld HM ?_) | ((with_reducible refine g_st ?_); refine a_st HM ?_; clear HM; intro w1 HM) | ((with_reducible refine g_al ?_); refine a_al HM ?_; clear HM; intro bk w1 HM) | ((with_reducible refine g_bx ?_); refine a_bx HM ?_; clear HM; intro bk w1 HM) | ((with_reducible refine g_bld ?_); refine a_bld ?_))
    (try simp only [Exit.inBlock, Exit.then])
    refine bodyPost_ret (r_ct (b := b10) (k := 0) rfl rfl (HM.get Zl) lcc) rfl ⟨⟨c, rfl, Zi (HFIN.out _ (HSB.out.rd HM (fun p hp => by simp [hp])))⟩, HM.low⟩
end
section
open Jb
structure Tq.Mar (m : MM) (L : List JQ) (ss : List ByteArray) (tol : Rat) (w : World) : Prop where
 bk : Tq.Book L
 rd : RdS 72 w m.l.v (L.map JQ.c)
 pl : Tq.Pol m.p ss tol w
 d0 : 0 ≤ m.day
 d1 : m.day ≤ 73048
theorem Tq.Mar.below {m : MM} {L : List JQ} {ss : List ByteArray} {tol : Rat} {w w' : World} (h : Tq.Mar m L ss tol w) (hb : Below w.heap.size w w') : Tq.Mar m L ss tol w' := { h with rd := h.rd.below hb, pl := h.pl.below hb }
namespace Tq
noncomputable def cho (m : MM) (L : List JQ) (ss : List ByteArray) (tol : Rat) (i : ByteArray) : Option JQ := (sel (cand (vis Dt.txt L m.k) ss i m.day m.p.stale) tol).1
noncomputable def prc (m : MM) (L : List JQ) (ss : List ByteArray) (tol : Rat) (a b : ByteArray) : Rr × Bool := (((cho m L ss tol (a ++ b)).getD JQ.zero).prc, ((cho m L ss tol (a ++ b)).getD JQ.zero).cur == b)
theorem sel_nil {C : List JQ} {tol : Rat} (h : C = []) : (sel C tol).1 = none := by rw [h]; rfl
theorem sel_mem {C : List JQ} {tol : Rat} {q : JQ} (h : (sel C tol).1 = some q) : q ∈ C := by
 cases C with
 | nil => cases h
 | cons a r => exact List.mem_of_find?_eq_some (show (a :: r).find? (fun q => !bad a (px (yard (a :: r) a).prc) tol q) = some q from h)
theorem cho_pq {m : MM} {L : List JQ} {ss : List ByteArray} {tol : Rat} {i : ByteArray} (hb : Book L) {q : JQ} (h : cho m L ss tol i = some q) : Pq q := by
 obtain ⟨h1, h2, -⟩ := (vis_facts (T := Dt.txt) L m.k).2 q (cand_mem (sel_mem h))
 exact hb.pr q h1 h2
theorem prc_pq {m : MM} {L : List JQ} {ss : List ByteArray} {tol : Rat} {a b : ByteArray} (hb : Book L) (hn : b.size ≠ 0) (h : (prc m L ss tol a b).2 = true) : (prc m L ss tol a b).1.c = Rt.qA (px (prc m L ss tol a b).1) ∧ Rt.Bd (px (prc m L ss tol a b).1) 50 20 ∧ 0 < px (prc m L ss tol a b).1 := by
 unfold prc at h ⊢
 cases hc : cho m L ss tol (a ++ b) with
 | none =>
  rw [hc] at h
  have := (jb_str _ _).1 h
  have h0 : b.size = 0 := by rw [← this]; rfl
  exact absurd h0 hn
 | some q => exact (cho_pq hb hc).get
end Tq
theorem price_any (m : MM) (L : List JQ) (ss : List ByteArray) (tol : Rat) (a b : ByteArray) (ha : a.size ≤ 100) (hb : b.size ≤ 100) (hn : b.size ≠ 0) (w : World) (hM : Tq.Mar m L ss tol w) (R : Rr × Bool) (hR : Hid (R = Tq.prc m L ss tol a b)) :
    Calls Tryz.prog 137 #[.agg m.c, .string a, .string b] w fun e w' => e = .returned (.tuple #[.agg R.1.c, .bool R.2]) ∧ Below w.heap.size w w' := by
 have HM := Mem.start w
 have HMA := Zi hM
 obtain ⟨C, hC⟩ := Zh (Tq.cand (Tq.vis Dt.txt L m.k) ss (a ++ b) m.day m.p.stale)
 have CS := fun w' (hB : Below w.heap.size w w') => select_any L hM.bk m.k m.p ss tol (a ++ b) m.day hM.d0 hM.d1 m.l.v w' (hM.below hB).rd (hM.below hB).pl C hC
 obtain ⟨ec, hec⟩ := Zh ((if C = [] then (151 : Int) else 0))
 rw [← hec.out] at CS
 have HCS := Zi CS
 have l1 := m.f_l.la
 have l2 := m.f_p.la
 have l3 := m.f_k.la
 have l4 := m.f_day.la
 have zr := za_rat
 have zc := CH.za
 obtain ⟨ab, hab⟩ := Zh (a ++ b)
 obtain ⟨R1, R2⟩ := R
 clear hM CS
 go_enter Tryz.func137, Tryz.ntmps137
 go_upto_region 2 with (first | (go_at_call 14; refine (HCS.out _ HM.low).mono ?_; rintro e9 w2 ⟨⟨c, rfl, HCR⟩, hL⟩; replace HM := HM.call hL; clear hL; have sc := c.sa (z := CH.zero.c) (CH.size _)) | (first | ((with_reducible refine g_ld ?_); refine a_ld HM ?_) | ((with_reducible refine g_st ?_); refine a_st HM ?_; clear HM; intro w1 HM) | ((with_reducible refine g_al ?_); refine a_al HM ?_; clear HM; intro bk w1 HM) | ((with_reducible refine g_bx ?_); refine a_bx HM ?_; clear HM; intro bk w1 HM)))
 obtain ⟨b8, rfl⟩ := HM.nm0
 obtain ⟨b6, rfl⟩ := HM.nm1
 have lcp := c.f_prc.la
 have lcc := c.f_cur.la
 obtain ⟨o, ho⟩ := Zh ((Tq.cho m L ss tol (a ++ b)).getD JQ.zero)
 have hR1 : (R1, R2) = (o.prc, o.cur == b) := by rw [hR.out, ho.out]; rfl
 have hcho : (Tq.sel C tol).1 = Tq.cho m L ss tol (a ++ b) := by rw [hC.out]; rfl
 have hcp : c.prc = o.prc := by have h := HCR.out.prc; rw [hcho, ← ho.out] at h; exact h
 have hcc : c.cur = o.cur := by have h := HCR.out.cur; rw [hcho, ← ho.out] at h; exact h
 have hCn : C = [] → (o.cur == b) = false := fun h => by
  have h1 : o = JQ.zero := by rw [ho.out, ← hcho, Tq.sel_nil h]; rfl
  cases hh : o.cur == b with
  | false => rfl
  | true =>
   have := (jb_str _ _).1 hh
   rw [h1] at this
   exact absurd (by rw [← this]; rfl) hn
 rw [hcp] at lcp
 rw [hcc] at lcc
 obtain ⟨rfl, hR2⟩ := Prod.mk.inj hR1
 clear hR1
 have hst := Jb.str_l o.cur b
 have sop : SA 35 (Bg.rZ 0 0) 0 (.agg o.prc.c) o.prc.c := o.prc.sa (rZ_size 0 0)
 have lop := o.prc.la
 clear hR HCR hcho ho hcp hcc HCS HMA
 have fin : ∀ (v : Bool), (o.cur == b) = v → True := fun _ _ => trivial
 by_cases hCe : C = []
 ·obtain rfl : ec = 151 := by rw [hec.out, if_pos hCe]
  have hv := hCn hCe
  rw [hv] at hst hR2
  subst hR2
  clear hCe hCn hec hC fin hab
  refine start_M2 [] HM ((Sub.keep Sub.nil)) Zk (fun w0x H9 => ?_)
  replace HM := H9; clear H9
  refine k_fa 0 (heldE HM) ?_
  refine k_ld 1 [] (heldE HM) ?_
  refine k_mv 2 (heldE HM) ?_
  refine k_bin 3 (heldE HM) ?_
  refine k_mv 4 (heldE HM) ?_
  refine k_off 5 (heldE HM) ?_
  refine k_off 6 (heldE HM) ?_
  refine k_off 7 (heldE HM) ?_
  refine k_off 8 (heldE HM) ?_
  refine k_pick 9 (heldE HM) ?_
  refine j_one 10 fun K9 hK9 => ?_
  refine j_st HM ?_; clear HM; intro w1 HM
  refine hK9 _ _ (heldE HM) ?_; clear hK9 K9
  refine k_mv 11 (heldE HM) ?_
  refine wpAnyL_done Zk ?_ _
  (go_wp2_with fail; refine bodyPost_ret (r_ct (b := b6) (k := 0) rfl rfl (HM.get Zl) lop) rfl ⟨rfl, HM.low⟩)
 ·obtain rfl : ec = 0 := by rw [hec.out, if_neg hCe]
  rw [← hR2] at hst
  clear hCe hCn hec hC fin hab hR2
  cases R2
  all_goals
   refine start_M2 [] HM ((Sub.keep Sub.nil)) Zk (fun w0x H9 => ?_)
   replace HM := H9; clear H9
   refine k_fa 0 (heldE HM) ?_
   refine k_ld 1 [] (heldE HM) ?_
   refine k_mv 2 (heldE HM) ?_
   refine k_bin 3 (heldE HM) ?_
   refine k_mv 4 (heldE HM) ?_
   refine k_fa 5 (heldE HM) ?_
   refine k_ld 6 [] (heldE HM) ?_
   refine k_mv 7 (heldE HM) ?_
   refine k_bin 8 (heldE HM) ?_
   refine k_pick 9 (heldE HM) ?_
   refine j_one 10 fun K9 hK9 => ?_
   refine j_st HM ?_; clear HM; intro w1 HM
   refine hK9 _ _ (heldE HM) ?_; clear hK9 K9
   refine k_mv 11 (heldE HM) ?_
   refine wpAnyL_done Zk ?_ _
   (go_wp2_with fail; refine bodyPost_ret (r_ct (b := b6) (k := 0) rfl rfl (HM.get Zl) lop) rfl ⟨rfl, HM.low⟩)
end
section
open Jb
namespace Tq
noncomputable def lg (m : MM) (L : List JQ) (ss : List ByteArray) (tol : Rat) (a b : ByteArray) : Option Rat := if a == b then none else if (prc m L ss tol a b).2 then some (px (prc m L ss tol a b).1) else if (prc m L ss tol b a).2 then some (((1 : Int) : Rat) / px (prc m L ss tol b a).1) else none
def rc : Option Rat → Array Value
 | some x => Rt.qA x
 | none => Bg.rZ 0 0
theorem lg_bd {m : MM} {L : List JQ} {ss : List ByteArray} {tol : Rat} {a b : ByteArray} (hb : Book L) (ha : a.size ≠ 0) (hn : b.size ≠ 0) {x : Rat} (h : lg m L ss tol a b = some x) : Rt.Bd x 50 51 := by
 unfold lg at h
 split at h
 ·cases h
 split at h
 ·next h1 =>
  injection h with h
  rw [← h]
  exact (prc_pq hb hn h1).2.1.up
 split at h
 ·next h1 =>
  injection h with h
  rw [← h]
  obtain ⟨-, hbd, hpos⟩ := prc_pq hb ha h1
  have h1b : Rt.Bd ((1 : Int) : Rat) 1 1 := ⟨Bg.p2_small 1 2 (by unfold Bg.p2; rfl) (by rw [Rat.num_intCast]; decide), Bg.p2_small 1 2 (by unfold Bg.p2; rfl) (by rw [Rat.den_intCast]; decide)⟩
  exact (h1b.quo hbd (by intro h0; rw [h0] at hpos; exact absurd hpos Zd)).up
 ·cases h
end Tq
theorem leg_any (m : MM) (L : List JQ) (ss : List ByteArray) (tol : Rat) (a b : ByteArray) (ha : a.size ≤ 100) (hb : b.size ≤ 100) (ha0 : a.size ≠ 0) (hb0 : b.size ≠ 0) (w : World) (hM : Tq.Mar m L ss tol w) (o : Option Rat) (ho : Hid (o = Tq.lg m L ss tol a b)) :
    Calls Tryz.prog 94 #[.agg m.c, .string a, .string b] w fun e w' => e = .returned (.tuple #[.agg (Tq.rc o), .bool o.isSome]) ∧ Below w.heap.size w w' := by
 have HM := Mem.start w
 have HMA := Zi hM
 obtain ⟨R, hR⟩ := Zh (Tq.prc m L ss tol a b)
 obtain ⟨S, hS⟩ := Zh (Tq.prc m L ss tol b a)
 have C1 := fun w' (hB : Below w.heap.size w w') => price_any m L ss tol a b ha hb hb0 w' (hM.below hB) R hR
 have C2 := fun w' (hB : Below w.heap.size w w') => price_any m L ss tol b a hb ha ha0 w' (hM.below hB) S hS
 have hlg : o = if a == b then none else if R.2 then some (Tq.px R.1) else if S.2 then some (((1 : Int) : Rat) / Tq.px S.1) else none := by rw [ho.out, hR.out, hS.out]; rfl
 have hpR : R.2 = true → R.1.c = Rt.qA (Tq.px R.1) := fun h => by
  rw [hR.out] at h ⊢
  exact (Tq.prc_pq hM.bk hb0 h).1
 have hpS : S.2 = true → S.1.c = Rt.qA (Tq.px S.1) ∧ Rt.Bd (Tq.px S.1) 50 20 ∧ 0 < Tq.px S.1 := fun h => by
  rw [hS.out] at h ⊢
  exact Tq.prc_pq hM.bk ha0 h
 obtain ⟨R1, R2⟩ := R
 obtain ⟨S1, S2⟩ := S
 have zr := za_rat
 have lm := m.la
 have hst := Jb.str_l a b
 have sz := sa_c (rZ_size 0 0) (rZ_one 0 0) (rZ_size 0 0)
 have lz := la_c (rZ_size 0 0)
 have sR := R1.sa (z := Bg.rZ 0 0) (rZ_size 0 0)
 have lR := R1.la
 have sS := S1.sa (z := Bg.rZ 0 0) (rZ_size 0 0)
 have lS := S1.la
 clear hM hR hS ho
 cases hab : a == b with
 | true =>
  rw [hab] at hst hlg
  rw [if_pos rfl] at hlg
  subst hlg
  clear hab hpR hpS C1 C2
  go_enter Tryz.func94, Tryz.ntmps94
  go_upto_region 2 with (first | ((with_reducible refine g_ld ?_); refine a_ld HM ?_) | ((with_reducible refine g_st ?_); refine a_st HM ?_; clear HM; intro w1 HM) | ((with_reducible refine g_al ?_); refine a_al HM ?_; clear HM; intro bk w1 HM) | ((with_reducible refine g_bx ?_); refine a_bx HM ?_; clear HM; intro bk w1 HM) | ((with_reducible refine g_bld ?_); refine a_bld ?_))
  obtain ⟨b6, rfl⟩ := HM.nm0
  go_wp2_with (first | ((with_reducible refine g_bld ?_); refine a_rbl (v := .agg (Bg.rZ 0 0)) ?_ (hy := h_bgz rfl (by with_reducible exact run_build_rat0))) | (first | ((with_reducible refine g_ld ?_); refine a_ld HM ?_) | ((with_reducible refine g_st ?_); refine a_st HM ?_; clear HM; intro w1 HM) | ((with_reducible refine g_al ?_); refine a_al HM ?_; clear HM; intro bk w1 HM) | ((with_reducible refine g_bx ?_); refine a_bx HM ?_; clear HM; intro bk w1 HM) | ((with_reducible refine g_bld ?_); refine a_bld ?_)))
  (try simp only [Exit.inBlock, Exit.then])
  refine bodyPost_ret (r_ct (b := b6) (k := 0) rfl rfl (HM.get Zl) lz) rfl ⟨rfl, HM.low⟩
 | false =>
  rw [hab] at hst hlg
  rw [if_neg Bool.false_ne_true] at hlg
  cases R2 with
  | true =>
   rw [if_pos rfl] at hlg
   have e1 := hpR rfl
   have hoc : Tq.rc o = R1.c := by rw [hlg, e1]; rfl
   have hos : o.isSome = true := by rw [hlg]; rfl
   rw [hoc, hos]
   clear hab hpR hpS C2 hlg hoc hos e1
   go_enter Tryz.func94, Tryz.ntmps94
   go_upto_region 3 with (first | ((with_reducible refine g_ld ?_); refine a_ld HM ?_) | ((with_reducible refine g_st ?_); refine a_st HM ?_; clear HM; intro w1 HM) | ((with_reducible refine g_al ?_); refine a_al HM ?_; clear HM; intro bk w1 HM) | ((with_reducible refine g_bx ?_); refine a_bx HM ?_; clear HM; intro bk w1 HM) | ((with_reducible refine g_bld ?_); refine a_bld ?_))
   obtain ⟨b6, rfl⟩ := HM.nm0
   go_wp2_with (first | (go_at_call 137; (with_reducible refine Zc HM (C1 _ HM.low) ?_; clear HM; intro w2 HM)) | (first | ((with_reducible refine g_ld ?_); refine a_ld HM ?_) | ((with_reducible refine g_st ?_); refine a_st HM ?_; clear HM; intro w1 HM) | ((with_reducible refine g_al ?_); refine a_al HM ?_; clear HM; intro bk w1 HM) | ((with_reducible refine g_bx ?_); refine a_bx HM ?_; clear HM; intro bk w1 HM) | ((with_reducible refine g_bld ?_); refine a_bld ?_)))
   (try simp only [Exit.inBlock, Exit.then])
   refine bodyPost_ret (r_ct (b := b6) (k := 0) rfl rfl (HM.get Zl) lR) rfl ⟨rfl, HM.low⟩
  | false =>
   rw [if_neg Bool.false_ne_true] at hlg
   cases S2 with
   | false =>
    rw [if_neg Bool.false_ne_true] at hlg
    subst hlg
    clear hab hpR hpS
    go_enter Tryz.func94, Tryz.ntmps94
    go_upto_region 3 with (first | ((with_reducible refine g_ld ?_); refine a_ld HM ?_) | ((with_reducible refine g_st ?_); refine a_st HM ?_; clear HM; intro w1 HM) | ((with_reducible refine g_al ?_); refine a_al HM ?_; clear HM; intro bk w1 HM) | ((with_reducible refine g_bx ?_); refine a_bx HM ?_; clear HM; intro bk w1 HM) | ((with_reducible refine g_bld ?_); refine a_bld ?_))
    obtain ⟨b6, rfl⟩ := HM.nm0
    go_wp2_with (first | ((with_reducible refine g_bld ?_); refine a_rbl (v := .agg (Bg.rZ 0 0)) ?_ (hy := h_bgz rfl (by with_reducible exact run_build_rat0))) | (go_at_call 137; (with_reducible refine Zc HM (C1 _ HM.low) ?_; clear HM; intro w2 HM)) | (go_at_call 137; (with_reducible refine Zc HM (C2 _ HM.low) ?_; clear HM; intro w2 HM)) | (first | ((with_reducible refine g_ld ?_); refine a_ld HM ?_) | ((with_reducible refine g_st ?_); refine a_st HM ?_; clear HM; intro w1 HM) | ((with_reducible refine g_al ?_); refine a_al HM ?_; clear HM; intro bk w1 HM) | ((with_reducible refine g_bx ?_); refine a_bx HM ?_; clear HM; intro bk w1 HM) | ((with_reducible refine g_bld ?_); refine a_bld ?_)))
    (try simp only [Exit.inBlock, Exit.then])
    refine bodyPost_ret (r_ct (b := b6) (k := 0) rfl rfl (HM.get Zl) lz) rfl ⟨rfl, HM.low⟩
   | true =>
    rw [if_pos rfl] at hlg
    obtain ⟨e1, hbd, hpos⟩ := hpS rfl
    obtain ⟨one, hone⟩ := Zh ((((1 : Int)) : Rat))
    obtain ⟨q, hq⟩ := Zh (one / Tq.px S1)
    have h1b : Rt.Bd one 1 1 := by rw [hone.out]; exact ⟨Bg.p2_small 1 2 (by unfold Bg.p2; rfl) (by rw [Rat.num_intCast]; decide), Bg.p2_small 1 2 (by unfold Bg.p2; rfl) (by rw [Rat.den_intCast]; decide)⟩
    have hn0 : Tq.px S1 ≠ 0 := by intro h0; rw [h0] at hpos; exact absurd hpos Zd
    have hqb : Rt.Fit q := by rw [hq.out]; exact (h1b.quo hbd hn0).fit
    have CW := fun w => whole_q 1 one Zd Zd hone w
    have CQ := fun w => quo_q one (Tq.px S1) q h1b.fit hbd.fit hn0 hq hqb w
    have hoc : Tq.rc o = Rt.qA q := by rw [hlg, hq.out, hone.out]; rfl
    have hos : o.isSome = true := by rw [hlg]; rfl
    rw [hoc, hos]
    rw [e1] at lS sS C2
    have sq := sa_q q (qA_size (Tq.px S1))
    have sq2 := sa_q q (rZ_size 0 0)
    have lq := la_q q
    generalize Tq.px S1 = ps at *
    clear hab hpR hpS hlg hoc hos e1 hbd hpos hq hone h1b hn0 hqb
    go_enter Tryz.func94, Tryz.ntmps94
    go_upto_region 3 with (first | ((with_reducible refine g_ld ?_); refine a_ld HM ?_) | ((with_reducible refine g_st ?_); refine a_st HM ?_; clear HM; intro w1 HM) | ((with_reducible refine g_al ?_); refine a_al HM ?_; clear HM; intro bk w1 HM) | ((with_reducible refine g_bx ?_); refine a_bx HM ?_; clear HM; intro bk w1 HM) | ((with_reducible refine g_bld ?_); refine a_bld ?_))
    obtain ⟨b6, rfl⟩ := HM.nm0
    go_upto_region 9 with (first | (go_at_call 137; (with_reducible refine Zc HM (C1 _ HM.low) ?_; clear HM; intro w2 HM)) | (go_at_call 137; (with_reducible refine Zc HM (C2 _ HM.low) ?_; clear HM; intro w2 HM)) | (first | ((with_reducible refine g_ld ?_); refine a_ld HM ?_) | ((with_reducible refine g_st ?_); refine a_st HM ?_; clear HM; intro w1 HM) | ((with_reducible refine g_al ?_); refine a_al HM ?_; clear HM; intro bk w1 HM) | ((with_reducible refine g_bx ?_); refine a_bx HM ?_; clear HM; intro bk w1 HM) | ((with_reducible refine g_bld ?_); refine a_bld ?_)))
    refine start_M [6] HM Zk (fun w0x H9 => ?_)
    replace HM := H9; clear H9
    refine k_ld 1 [2, 3, 4, 5, 6] (heldE HM) ?_
    refine j_one 0 fun K9 hK9 => ?_
    refine j_call1 (v := ?_) HM ?_ ?_; rotate_left 1; (focus (with_reducible (first | exact CW _ | exact CQ _))); clear HM; intro w1 HM
    refine hK9 _ _ (heldE HM) ?_; clear hK9 K9
    refine j_one 2 fun K9 hK9 => ?_
    refine j_call2 (v := ?_) HM ?_ ?_; rotate_left 1; (focus (with_reducible (first | exact CW _ | exact CQ _))); clear HM; intro w1 HM
    refine hK9 _ _ (heldE HM) ?_; clear hK9 K9
    refine k_mv 3 (heldE HM) ?_
    refine k_ext 4 (heldE HM) ?_
    refine k_ext 5 (heldE HM) ?_
    refine j_one 6 fun K9 hK9 => ?_
    refine j_st HM ?_; clear HM; intro w1 HM
    refine hK9 _ _ heldN ?_; clear hK9 K9
    refine wpAnyL_done Zk ?_ _
    go_wp2_with (first | ((with_reducible refine g_ld ?_); refine a_ld HM ?_) | ((with_reducible refine g_st ?_); refine a_st HM ?_; clear HM; intro w1 HM) | ((with_reducible refine g_al ?_); refine a_al HM ?_; clear HM; intro bk w1 HM) | ((with_reducible refine g_bx ?_); refine a_bx HM ?_; clear HM; intro bk w1 HM) | ((with_reducible refine g_bld ?_); refine a_bld ?_))
    (try simp only [Exit.inBlock, Exit.then])
    refine bodyPost_ret (r_ct (b := b6) (k := 0) rfl rfl (HM.get Zl) lq) rfl ⟨rfl, HM.low⟩
end
end Go.Proofs.YtiekmabiecalbaaGreatDoor
