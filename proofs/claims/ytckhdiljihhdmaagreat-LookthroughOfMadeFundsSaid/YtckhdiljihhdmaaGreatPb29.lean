/- Walks, and plain facts for them. -/
import Derived.Lib.SliceRun
import Derived.Test.YtckhdiljihhdmaaGreatPb28
import Derived.Test.YtckhdiljihhdmaaGreatPb26
import Derived.Test.YtckhdiljihhdmaaGreatPb23
namespace Go.Proofs.YtckhdiljihhdmaaGreat
set_option maxRecDepth 8000
open Go.RowKit
namespace Lk
def od (U : List Int) (H : List (List Int)) (i j k : Nat) : Int := Ns.gu U k - Ns.zs (if k < j then i + 1 else i) (fun r => Ns.gh H r k)
def ods (U : List Int) (H : List (List Int)) (i j : Nat) : List Int := (List.range U.length).map (od U H i j)
def outs (U : List Int) (H : List (List Int)) : List Int := (List.range U.length).map (fun k => Ns.gu U k - Ns.zs U.length (fun r => Ns.gh H r k))
noncomputable def osl (U : List Int) (H : List (List Int)) : List Int := if Ns.chk U H = 0 then outs U H else []
theorem ods_len (U : List Int) (H : List (List Int)) (i j : Nat) : (ods U H i j).length = U.length := by simp [ods]
theorem ods_at (U : List Int) (H : List (List Int)) (i j : Nat) {k : Nat} (h : k < U.length) : (ods U H i j)[k]? = some (od U H i j k) := by
 unfold ods; rw [List.getElem?_map, List.getElem?_range h]; rfl
theorem ods_zero (U : List Int) (H : List (List Int)) : ods U H 0 0 = U := by
 apply List.ext_getElem?
 intro k
 by_cases hk : k < U.length
 ·rw [ods_at _ _ _ _ hk]
  unfold od
  rw [if_neg (Nat.not_lt_zero k)]
  obtain ⟨x, hx⟩ : ∃ x, U[k]? = some x := ⟨_, List.getElem?_eq_getElem hk⟩
  rw [Ns.gu_at hx, hx]
  show some (x - 0) = some x
  rw [Int.sub_zero]
 ·rw [List.getElem?_eq_none (by rw [ods_len]; omega), List.getElem?_eq_none (by omega)]
theorem ods_all (U : List Int) (H : List (List Int)) : ods U H U.length 0 = outs U H := by
 unfold ods outs
 refine List.map_congr_left fun k _ => ?_
 unfold od
 rw [if_neg (Nat.not_lt_zero k)]
theorem ods_row (U : List Int) (H : List (List Int)) (i : Nat) : ods U H i U.length = ods U H (i + 1) 0 := by
 unfold ods
 refine List.map_congr_left fun k hk => ?_
 unfold od
 rw [if_pos (List.mem_range.1 hk), if_neg (Nat.not_lt_zero k)]
theorem ods_set (U : List Int) (H : List (List Int)) {i j : Nat} (hj : j < U.length) : (ods U H i j).set j (od U H i j j - Ns.gh H i j) = ods U H i (j + 1) := by
 apply List.ext_getElem?
 intro k
 rw [List.getElem?_set]
 by_cases e : j = k
 ·subst e
  rw [if_pos rfl, if_pos (by rw [ods_len]; exact hj), ods_at _ _ _ _ hj]
  unfold od
  rw [if_neg (Nat.lt_irrefl j), if_pos (Nat.lt_succ_self j), Ns.zs]
  congr 1
  omega
 ·rw [if_neg e]
  by_cases hk : k < U.length
  ·rw [ods_at _ _ _ _ hk, ods_at _ _ _ _ hk]
   unfold od
   by_cases h1 : k < j
   ·rw [if_pos h1, if_pos (by omega)]
   ·rw [if_neg h1, if_neg (by omega)]
  ·rw [List.getElem?_eq_none (by rw [ods_len]; omega), List.getElem?_eq_none (by rw [ods_len]; omega)]
theorem part_bd {U : List Int} {H : List (List Int)} (hO : Ns.Ok U.length (Ns.gu U) (Ns.gh H)) {m k : Nat} (hm : m ≤ U.length) (hk : k < U.length) : 0 ≤ Ns.zs m (fun r => Ns.gh H r k) ∧ Ns.zs m (fun r => Ns.gh H r k) ≤ Ns.gu U k :=
 ⟨Ns.zs_nonneg fun r hr => hO.h0 r k (by omega) hk, Int.le_trans (Ns.zs_mono (fun r hr => hO.h0 r k hr hk) hm) (hO.held k hk)⟩
theorem od_bd {U : List Int} {H : List (List Int)} (hO : Ns.Ok U.length (Ns.gu U) (Ns.gh H)) {i j k : Nat} (hi : i < U.length) (hk : k < U.length) : 0 ≤ od U H i j k ∧ od U H i j k ≤ 1000000000000000 := by
 have h1 := part_bd hO (m := if k < j then i + 1 else i) (k := k) (by split <;> omega) hk
 have h2 := hO.u1 k hk
 unfold od
 omega
end Lk
set_option maxHeartbeats 1000000 in
theorem clone_any (sv : Value) (l : List Int) (w : World) (hR : RdI w sv l) (hl : l.length ≤ 1000) :
    Calls Tryz.prog 37 #[sv] w fun e w' => ∃ s B, e = .returned s ∧ Hid (SlAt 1 s (l.map ic) B) ∧ Mem w [] B w' := by
 have HM := Mem.start w
 have HR := Lib.hid hR
 obtain ⟨A, cap, rfl⟩ := hR.form
 clear hR
 have eli : elemB 22 3 1 8 = true := by kernel_rfl
 have h1 : ∀ c ∈ l.map ic, c.all (·.oneCell') = true := by
  intro c hc
  obtain ⟨x, _, rfl⟩ := List.mem_map.1 hc
  simp [ic, Value.oneCell']
 go_enter Tryz.func37, Tryz.ntmps37
 cases A with
 | none =>
  have e0 : l = [] := by
   cases l with
   | nil => rfl
   | cons x l =>
    obtain ⟨b, off, cs, e, _⟩ := HR.out.at_ (i := 0) rfl
    cases e
  subst e0
  have q0 : ∀ w, (binOp .eql 22 (.slice none 0 cap) (.slice none 0 0)).run Tryz.prog w = .ok (.bool true) w := fun w => Go.Lib.run_eql_slice_nil w _ _ none 0 cap 0 0 Tryz.underlying22
  go_wp2_with fail
  go_ret
  exact ⟨_, [], rfl, Lib.hid SlAt.nil, HM⟩
 | some a =>
  have q0 : ∀ w, (binOp .eql 22 (.slice (some a) l.length cap) (.slice none 0 0)).run Tryz.prog w = .ok (.bool false) w := fun w => Go.Lib.run_eql_slice_nil w _ _ (some a) l.length cap 0 0 Tryz.underlying22
  have RB := Lib.hid fun w' (hB : Below w.heap.size w w') => (HR.out.below hB : RdS 1 w' _ (l.map ic))
  have hlen : ((([] : List (Array Value)).length) + (l.map ic).length) * (8 + 1) ≤ 140737488355328 := by rw [List.length_map]; simp; omega
  go_upto_region 3 with fail
  go_wp2_with (first | ((with_reducible refine g_bs0 ?_); refine a_bs0 HM ?_; clear HM; intro b0 w1 HM) | ((with_reducible refine g_app ?_); refine a_app (m := l.map ic) (F := fun X => X) HM (SlAt.made0 b0) (RB.out _ HM.low) ?_ h1 (hlen := hlen); clear HM; intro s2 B2 w2 HS2 HM) | fail)
  go_ret
  exact ⟨_, B2, rfl, Lib.hid HS2, HM⟩
theorem ic_sizes2 (A : List Int) (sp : List (Array Value)) (hs : ∀ c ∈ sp, c.size = 1) : ∀ c ∈ A.map ic ++ sp, c.size = 1 := by
 intro c hc
 rcases List.mem_append.1 hc with hc | hc
 ·exact ic_sizes A c hc
 ·exact hs c hc
theorem lk_la (A : List Int) (sp : List (Array Value)) (hs : ∀ c ∈ sp, c.size = 1) {i : Nat} {x : Int} (h : A[i]? = some x) : LA 3 (rowsOf (A.map ic ++ sp)) i (.int .i64 x) :=
 la_i1 (ic_sizes2 A sp hs) (by
  have hl := (List.getElem?_eq_some_iff.1 h).1
  rw [List.getElem?_append_left (by rw [List.length_map]; exact hl), List.getElem?_map, h]; rfl)
theorem lk_sa (A : List Int) (sp : List (Array Value)) (hs : ∀ c ∈ sp, c.size = 1) {i : Nat} (x : Int) (h : i < A.length) : SA 3 (rowsOf (A.map ic ++ sp)) i (.int .i64 x) (rowsOf ((A.set i x).map ic ++ sp)) := by
 have h1 : (A.map ic ++ sp)[i]? = some (ic A[i]) := by rw [List.getElem?_append_left (by rw [List.length_map]; exact h), List.getElem?_map, List.getElem?_eq_getElem h]; rfl
 have := sa_rowone (T := 3) (n := 1) (a := 0) (l := A.map ic ++ sp) (k := i) (v := .int .i64 x) (by kernel_rfl) (ic_sizes2 A sp hs) h1 (by decide) rfl
 rw [Nat.mul_one, Nat.add_zero] at this
 have e : (A.map ic ++ sp).set i ((ic A[i]).setIfInBounds 0 (.int .i64 x)) = (A.set i x).map ic ++ sp := by
  rw [List.set_append_left _ _ (by rw [List.length_map]; exact h), List.map_set]; rfl
 rw [e] at this
 exact this
set_option maxHeartbeats 4000000 in
theorem outside_any (us hs : Value) (U : List Int) (H : List (List Int)) (w : World) (hR : RdN w us hs U H) (r : Int) (hr : Hid (r = Ns.chk U H)) :
    Calls Tryz.prog 10 #[.agg #[us, hs]] w fun e w' => ∃ s, e = .returned (.tuple #[s, .int .i64 r]) ∧ Hid (RdI w' s (Lk.osl U H)) ∧ Below w.heap.size w w' := by
 have HM := Mem.start w
 have C := fun w' hB => ncheck_any us hs U H w' (hR.below hB) r hr
 have n2 := la_nest us hs
 have HR := Lib.hid hR
 obtain ⟨Au, cu, rfl⟩ := hR.u.form
 obtain ⟨Ah, ch, rfl⟩ := hR.h.form
 clear hR
 have n0 := la_n0 (.slice Au U.length cu) (.slice Ah H.length ch)
 have n1 := la_n1 (.slice Au U.length cu) (.slice Ah H.length ch)
 go_enter Tryz.func10, Tryz.ntmps10
 by_cases h0 : r = 0
 case neg =>
  have g0 : (r == 0) = false := beq_eq_false_iff_ne.2 h0
  have e0 : Lk.osl U H = [] := if_neg (by rw [← hr.out]; exact h0)
  rw [e0]
  clear hr e0
  go_wp2_with (first | (go_at_call 36; ((with_reducible refine (C _ HM.low).mono ?_); rintro e9 w2 ⟨rfl, hL⟩; replace HM := HM.call hL; clear hL)) | (first | ((with_reducible refine g_ld ?_); refine a_ld HM ?_) | ((with_reducible refine g_st ?_); refine a_st HM ?_; clear HM; intro w1 HM) | ((with_reducible refine g_bx ?_); refine a_bx HM ?_; clear HM; intro bk w1 HM)))
  go_ret2
  exact ⟨_, rfl, Lib.hid ⟨by simp, none, 0, rfl, Nat.le_refl _, .inl rfl⟩, HM.low⟩
 subst h0
 have e0 : Lk.osl U H = Lk.outs U H := if_pos hr.out.symm
 rw [e0]
 have hG := Ns.chk_good hr.out.symm
 have hn8 := hG.sh.1
 have HHL : Hid (H.length = U.length) := Lib.hid hG.sh.2
 have HG := Lib.hid hG
 clear hG e0
 go_upto_region 5 with (first | (go_at_call 36; ((with_reducible refine (C _ HM.low).mono ?_); rintro e9 w2 ⟨rfl, hL⟩; replace HM := HM.call hL; clear hL)) | (go_at_call 37; refine (clone_any _ U _ (HR.out.u.below HM.low) (by omega)).mono ?_; rintro e9 w2 ⟨so, Bo, rfl, HS, hJ⟩; replace HM := HM.join hJ; clear hJ) | (first | ((with_reducible refine g_ld ?_); refine a_ld HM ?_) | ((with_reducible refine g_st ?_); refine a_st HM ?_; clear HM; intro w1 HM) | ((with_reducible refine g_bx ?_); refine a_bx HM ?_; clear HM; intro bk w1 HM)))
 obtain ⟨bn, rfl⟩ : ∃ x, x = bk := ⟨bk, rfl⟩
 by_cases hz : U.length = 0
 ·have hh0 : H = [] := List.eq_nil_of_length_eq_zero (HHL.out.trans hz)
  have hu0 : U = [] := List.eq_nil_of_length_eq_zero hz
  subst hh0 hu0
  have hRd : Hid (RdI _ so (Lk.outs [] [])) := Lib.hid (HS.out.rd HM (fun p hp => List.mem_append_left _ hp))
  have HM2 : Mem w [] [(bn, #[.slice Au 0 cu, .slice Ah 0 ch])] _ := HM.pk (by exact Pk.post _ _)
  have HRd := Lib.hid fun w' hB => (hRd.out.below hB : RdI w' so (Lk.outs [] []))
  have HB0 := Lib.hid HM.low
  replace HM := Mem.start _ |> fun (h : Mem w2 [] [] w2) => h
  have HBn : Hid (Rbk w2 bn #[.slice Au 0 cu, .slice Ah 0 ch]) := Lib.hid (HM2.get Look.here).rbk
  clear HM2 hRd HS
  go_wp2_with (first | ((with_reducible refine g_ld ?_); refine a_ld HM ?_) | ((with_reducible refine g_st ?_); refine a_st HM ?_; clear HM; intro w1 HM) | ((with_reducible refine g_bx ?_); refine a_bx HM ?_; clear HM; intro bk w1 HM))
  go_loopw [21] (fun iv wr => iv = .int .i64 0 ∧ Mem w2 [] [] wr) (fun _ _ => 0)
  case atStart => exact ⟨rfl, HM⟩
  case round =>
   clear HM
   obtain ⟨rfl, HM⟩ := hrel
   go_wp2_with (first | ((with_reducible refine g_ld ?_); refine a_ld HM ?_) | ((with_reducible refine g_st ?_); refine a_st HM ?_; clear HM; intro w1 HM) | ((with_reducible refine g_bx ?_); refine a_bx HM ?_; clear HM; intro bk w1 HM))
   go_ret2
   exact ⟨_, rfl, Lib.hid (HRd.out _ HM.low), below_seq HB0.out HM.low⟩
 obtain ⟨bo, sp, rfl, rfl, hsz⟩ := HS.out.inv (by intro e; exact hz (by simpa using congrArg List.length e))
 rw [List.length_map]
 clear HS
 have HSP := Lib.hid (fun c hc => hsz c (List.mem_append_right _ hc) : ∀ c ∈ sp, c.size = 1)
 clear hsz
 have eU := Lk.ods_zero U H
 have HE : Hid (Mem w [] [(bo, rowsOf ((Lk.ods U H 0 0).map ic ++ sp)), (bn, #[.slice Au U.length cu, .slice Ah H.length ch])] _) := Lib.hid (by rw [eU]; exact HM)
 replace HM := HE.out
 clear HE eU
 go_wp2_with (first | ((with_reducible refine g_ld ?_); refine a_ld HM ?_) | ((with_reducible refine g_st ?_); refine a_st HM ?_; clear HM; intro w1 HM) | ((with_reducible refine g_bx ?_); refine a_bx HM ?_; clear HM; intro bk w1 HM))
 go_loopw [21] (fun iv wr => ∃ i : Nat, iv = .int .i64 (i : Nat) ∧ i ≤ U.length ∧ Mem w [] [(bo, rowsOf ((Lk.ods U H i 0).map ic ++ sp)), (bn, #[.slice Au U.length cu, .slice Ah H.length ch])] wr) (fun iv _ => U.length - (intOf iv).toNat)
 case atStart => exact ⟨0, rfl, by omega, HM⟩
 case round =>
  clear HM
  obtain ⟨i, rfl, hi, HM⟩ := hrel
  by_cases hlt : i < U.length
  ·have hlt1 : (i : Int) < H.length := by rw [HHL.out]; omega
   obtain ⟨l, hl, hll⟩ := HG.out.at_ hlt
   obtain ⟨b, off, cs, A2, c2, rfl, HB, k1, HL⟩ := HR.out.h.at_ hl
   have HLL := Lib.hid hl
   have HLE := Lib.hid hll
   clear hl hll
   go_wp2_with (first | ((with_reducible refine g_ld ?_); refine a_ld HM ?_) | ((with_reducible refine g_st ?_); refine a_st HM ?_; clear HM; intro w1 HM) | ((with_reducible refine g_bx ?_); refine a_bx HM ?_; clear HM; intro bk w1 HM))
   go_loopw [27] (fun jv wr => ∃ j : Nat, jv = .int .i64 (j : Nat) ∧ j ≤ l.length ∧ Mem w [] [(bo, rowsOf ((Lk.ods U H i j).map ic ++ sp)), (bn, #[.slice Au U.length cu, .slice (some ⟨b, off, none⟩) H.length ch])] wr) (fun jv _ => l.length - (intOf jv).toNat)
   case atStart => exact ⟨0, rfl, by omega, HM.pick⟩
   case round =>
    clear HM
    obtain ⟨j, rfl, hj, HM⟩ := hrel
    by_cases hjt : j < l.length
    ·have hjt1 : (j : Int) < l.length := by omega
     have hju : j < U.length := by rw [← HLE.out]; exact hjt
     have hju1 : (j : Int) < U.length := by omega
     obtain ⟨y, hy⟩ : ∃ y, l[j]? = some y := ⟨_, List.getElem?_eq_getElem hjt⟩
     obtain ⟨b2, off2, cs2, rfl, HB2, k2⟩ := HL.out.at_ hy
     have ey := Ns.gh_at HLL.out hy
     have hb := Lk.od_bd HG.out.ok (i := i) (j := j) (k := j) hlt hju
     have hy0 := HG.out.ok.h0 i j hlt hju
     have hy1 := HG.out.ok.h1 i j hlt hju
     have est := Lk.ods_set U H (i := i) (j := j) hju
     rw [ey] at hy0 hy1 est
     obtain ⟨x, hx⟩ : ∃ x, x = Lk.od U H i j j := ⟨_, rfl⟩
     rw [← hx] at hb est
     have kl := lk_la (Lk.ods U H i j) sp HSP.out (i := j) (x := x) (by rw [hx]; exact Lk.ods_at _ _ _ _ hju)
     have ks := lk_sa (Lk.ods U H i j) sp HSP.out (i := j) (x - y) (by rw [Lk.ods_len]; exact hju)
     rw [est] at ks
     obtain ⟨hb0, hb1⟩ := hb
     clear est hx hy ey
     go_wp2_with (first | ((with_reducible refine g_ld ?_); refine a_ld HM ?_) | ((with_reducible refine g_st ?_); refine a_st HM ?_; clear HM; intro w1 HM) | ((with_reducible refine g_bx ?_); refine a_bx HM ?_; clear HM; intro bk w1 HM))
     go_roundw
     case rel => exact ⟨j + 1, by go_num, by omega, HM.pick⟩
     case measure => simp [intOf]; omega
    ·obtain rfl : j = l.length := by omega
     rw [HLE.out, Lk.ods_row] at HM
     go_wp2_with (first | ((with_reducible refine g_ld ?_); refine a_ld HM ?_) | ((with_reducible refine g_st ?_); refine a_st HM ?_; clear HM; intro w1 HM) | ((with_reducible refine g_bx ?_); refine a_bx HM ?_; clear HM; intro bk w1 HM))
     go_roundw
     case rel => exact ⟨i + 1, by go_num, by omega, HM.pick⟩
     case measure => simp [intOf]; omega
  ·obtain rfl : i = U.length := by omega
   have hgi : ¬ (U.length : Int) < H.length := by rw [HHL.out]; omega
   rw [Lk.ods_all] at HM
   have hRd : Hid (RdI wr (.slice (some ⟨bo, 0, none⟩) U.length (U.length + sp.length)) (Lk.outs U H)) := Lib.hid (by
    have h1 := (SlAt.row (n := 1) bo ((Lk.outs U H).map ic) sp (ic_sizes2 _ sp HSP.out)).rd HM (by simp)
    rw [List.length_map, show (Lk.outs U H).length = U.length by simp [Lk.outs]] at h1
    exact h1)
   go_wp2_with (first | ((with_reducible refine g_ld ?_); refine a_ld HM ?_) | ((with_reducible refine g_st ?_); refine a_st HM ?_; clear HM; intro w1 HM) | ((with_reducible refine g_bx ?_); refine a_bx HM ?_; clear HM; intro bk w1 HM))
   go_ret2
   exact ⟨_, rfl, hRd, HM.low⟩
end Go.Proofs.YtckhdiljihhdmaaGreat
namespace Go.Proofs.YtckhdiljihhdmaaGreat
set_option maxRecDepth 8000
open Go.RowKit
structure Xp where
 nm : ByteArray
 q : Rat
@[irreducible] def Xp.c (x : Xp) : Array Value := rowsOf [#[.string x.nm], Rt.qA x.q]
theorem Xp.c_rows (x : Xp) : Xp.c x = rowsOf [#[.string x.nm], Rt.qA x.q] := by unfold Xp.c; rfl
theorem Xp.c_size (x : Xp) : (Xp.c x).size = 67 := by rw [Xp.c_rows]; simp [rowsOf, qA_size]
theorem Xp.c_one (x : Xp) : (Xp.c x).all (·.oneCell') = true := by
 rw [Xp.c_rows]
 exact rows_cells_one (by
  intro e he
  simp only [List.mem_cons, List.not_mem_nil, or_false] at he
  rcases he with rfl | rfl
  ·simp [Value.oneCell']
  ·exact qA_one _)
theorem Xp.ones (l : List Xp) : ∀ c ∈ l.map Xp.c, c.all (·.oneCell') = true := by
 intro c hc
 obtain ⟨x, _, rfl⟩ := List.mem_map.1 hc
 exact Xp.c_one x
theorem Xp.fnm (x : Xp) : FA 9 (Xp.c x) 0 (.string x.nm) := by rw [Xp.c_rows]; exact fa_one 0 (by kernel_rfl) rfl rfl
theorem Xp.fq (x : Xp) : FA 50 (Xp.c x) 1 (.agg (Rt.qA x.q)) := by rw [Xp.c_rows]; exact fa_agg 1 (by kernel_rfl) (by rw [qA_size]; exact sT_rat) rfl (by simp [offs])
theorem Xp.zeroC : rowsOf [#[Value.string { data := #[] }], Bg.rZ 0 0] = #[Value.string { data := #[] }] ++ Bg.ratA false 0 false 0 := by rw [← rZ_zero]; simp [rowsOf]
theorem Xp.zeroF : (zeroValue 52).run Tryz.prog = fun w => .ok (.agg (rowsOf [#[.string { data := #[] }], Bg.rZ 0 0])) w := by
 rw [Xp.zeroC]; unfold Bg.ratA; rw [← Bg.zeroInt]; kernel_rfl
theorem Xp.und : Tryz.prog.underlying 52 = some (.struct (Tryz.prog.fieldsOf 52)) := by kernel_rfl
theorem Xp.shape : shapeOf [#[Value.string { data := #[] }], Bg.rZ 0 0] = [(0, 1), (1, 66)] := by
 simp [shapeOf, offs, rZ_size, List.range, List.range.loop]
theorem Xp.places (w : World) : ((Tryz.prog.fieldsOf 52).mapM (fun f => do pure (f.offset, ← sizeOf f.type)) : Sem (Array (Nat × Nat))).run Tryz.prog w = .ok [(0, 1), (1, 66)].toArray w := by kernel_rfl
theorem Xp.build (x : Xp) (w : World) : (Instr.build 52 #[(0, .string x.nm), (1, .agg (Rt.qA x.q))]).run Tryz.prog w = .ok (.agg (Xp.c x)) w :=
 run_build_flds Xp.und (fun w => by rw [Xp.zeroF]) Xp.places Xp.shape (by simp [Value.cells, qA_size]) (by rw [Xp.c_rows]; rfl) w
theorem lk_eq_int (d : Nat) (s : Bool) (N : Nat) (hN : N < Bg.lim) : EqT (d + 3) 48 (.agg (Bg.intA s N)) (.agg (Bg.intA s N)) true := by
 have h1 : FA 4 (Bg.intA s N) 0 (.bool s) := .inl ⟨by kernel_rfl, Bg.intA_neg s N⟩
 have h2 : FA 46 (Bg.intA s N) 1 (.agg (Bg.row 32 N)) := .inr ⟨by kernel_rfl, Bg.row 32 N, by rw [Bg.row_size]; kernel_rfl, by rw [Bg.intA_size, Bg.row_size]; omega, by rw [Bg.row_size]; exact intA_mag s N, rfl⟩
 have e1 : EqT (d + 2) 4 (.bool s) (.bool s) true := by
  have := eq_t_bool (d := d + 1) Tryz.underlying4 s s
  rwa [beq_self_eq_true] at this
 have e2 : EqT (d + 2) 46 (.agg (Bg.row 32 N)) (.agg (Bg.row 32 N)) true := fun w => by
  have := eq_arr N N hN hN d w
  rwa [decide_eq_true rfl] at this
 exact eq_agg (S := [(4, 0), (46, 1)]) (by kernel_rfl) (by kernel_rfl) (by kernel_rfl) (EqF.cons h1 h1 e1 (EqF.cons h2 h2 e2 .nil))
theorem lk_eq_rat (d : Nat) {x : Rat} (h : Rt.Fit x) : EqT (d + 4) 50 (.agg (Rt.qA x)) (.agg (Rt.qA x)) true := by
 obtain ⟨s, M, t, N, hM, hN, e⟩ : ∃ s M t N, M < Bg.lim ∧ N < Bg.lim ∧ Rt.qA x = Bg.ratA s M t N := ⟨_, _, _, _, h.ln, h.ld, by rw [qA_rZ, rZ_ratA]⟩
 rw [e]
 have h1 : FA 48 (Bg.ratA s M t N) 0 (.agg (Bg.intA s M)) := .inr ⟨by kernel_rfl, Bg.intA s M, by rw [Bg.intA_size]; exact sT_int, by rw [Bg.intA_size, ratA_size]; omega, by rw [Bg.intA_size]; exact ratA_num s M t N, rfl⟩
 have h2 : FA 48 (Bg.ratA s M t N) 33 (.agg (Bg.intA t N)) := .inr ⟨by kernel_rfl, Bg.intA t N, by rw [Bg.intA_size]; exact sT_int, by rw [Bg.intA_size, ratA_size]; omega, by rw [Bg.intA_size]; exact ratA_den s M t N, rfl⟩
 exact eq_agg (S := [(48, 0), (48, 33)]) (by kernel_rfl) (by kernel_rfl) (by kernel_rfl) (EqF.cons h1 h1 (lk_eq_int d s M hM) (EqF.cons h2 h2 (lk_eq_int d t N hN) .nil))
theorem Xp.eq_self (x : Xp) (h : Rt.Fit x.q) : EqT 10000 52 (.agg (Xp.c x)) (.agg (Xp.c x)) true := by
 have e2 : ∀ s : ByteArray, EqT 9999 9 (.string s) (.string s) true := fun s => by
  have := eq_t_str (d := 9998) Tryz.underlying9 s s
  have hs : (s == s) = true := (show (s.data == s.data) = true from beq_self_eq_true _)
  rwa [hs] at this
 exact eq_agg (d := 9999) (S := [(9, 0), (50, 1)]) (by kernel_rfl) (by kernel_rfl) (by kernel_rfl)
  (EqF.cons (Xp.fnm x) (Xp.fnm x) (e2 _) (EqF.cons (Xp.fq x) (Xp.fq x) (lk_eq_rat 9995 h) .nil))
def RdX (w : World) (sv : Value) (l : List Xp) : Prop := RdS 67 w sv (l.map Xp.c)
theorem RdX.below {w w' : World} {sv : Value} {l : List Xp} (h : RdX w sv l) (hb : Below w.heap.size w w') : RdX w' sv l := RdS.below h hb
theorem RdX.form {w : World} {sv : Value} {l : List Xp} (h : RdX w sv l) : ∃ A cap, sv = .slice A l.length cap := by
 obtain ⟨A, cap, e⟩ := RdS.form1 h
 rw [List.length_map] at e
 exact ⟨A, cap, e⟩
theorem RdX.nil (w : World) : RdX w (.slice none 0 0) [] := ⟨by simp, none, 0, rfl, Nat.le_refl _, .inl rfl⟩
theorem RdX.at_ {w : World} {A : Option Addr} {n cap : Nat} {l : List Xp} (h : RdX w (.slice A n cap) l) {i : Nat} {x : Xp} (hx : l[i]? = some x) :
    ∃ b off cs, A = some ⟨b, off, none⟩ ∧ Hid (Rbk w b cs) ∧ LA 52 cs (off + i * 67) (.agg (Xp.c x)) ∧ LA 9 cs (off + i * 67) (.string x.nm) ∧ LA 50 cs (off + i * 67 + 1) (.agg (Rt.qA x.q)) := by
 obtain ⟨b, off, cs, cap', e, hb, hc⟩ := RdS.get h (k := i) (c := Xp.c x) (by rw [List.getElem?_map, hx]; rfl)
 injection e with e1 e2 e3
 have hcs := Xp.c_rows x
 have hget : ∀ j, j < 66 → (Xp.c x)[1 + j]? = (Rt.qA x.q)[j]? := fun j hj => by
  rw [hcs]
  have : (rowsOf [#[Value.string x.nm], Rt.qA x.q])[1 + j]? = (#[Value.string x.nm] ++ Rt.qA x.q)[1 + j]? := by simp [rowsOf]
  rw [this, Array.getElem?_append_right (by simp)]
  simp
 refine ⟨b, off, cs, e1, Lib.hid hb, la_in (n := 67) (by kernel_rfl) (by kernel_rfl) (Xp.c_size x) hc (by decide), LA.one (by kernel_rfl) ?_, la_in (n := 66) (by kernel_rfl) (by kernel_rfl) (qA_size _) (fun j hj => ?_) (by decide)⟩
 ·have := hc 0 (by decide); rw [Nat.add_zero] at this
  rw [this, hcs]
  have e9 : rowsOf [#[Value.string x.nm], Rt.qA x.q] = #[Value.string x.nm] ++ Rt.qA x.q := by simp [rowsOf]
  rw [e9, Array.getElem?_append_left (by simp)]
  rfl
 ·rw [Nat.add_assoc (off + i * 67) 1 j, hc (1 + j) (by omega)]
  exact hget j hj
set_option maxHeartbeats 4000000 in
theorem same36_any (a b : Value) (l : List Xp) (w : World) (ha : RdX w a l) (hb : RdX w b l) (hn : l.length ≤ 100000) (hf : ∀ x ∈ l, Rt.Fit x.q) :
    Calls Tryz.prog 14 #[a, b] w fun e w' => e = .returned (.bool true) ∧ Below w.heap.size w w' := by
 have HM := Mem.start w
 have HA := Lib.hid ha
 have HB := Lib.hid hb
 have HF := Lib.hid hf
 obtain ⟨Aa, ca, rfl⟩ := ha.form
 obtain ⟨Ab, cb, rfl⟩ := hb.form
 clear ha hb hf
 have g1 : ((l.length : Int) != (l.length : Int)) = false := by simp
 go_enter Tryz.func14, Tryz.ntmps14
 go_wp2_with ((with_reducible refine g_ld ?_); refine a_ld HM ?_)
 go_loopw [4, 5] (fun rv iv wr => ∃ i : Nat, rv = .bool false ∧ iv = .int .i64 (i : Nat) ∧ i ≤ l.length ∧ Mem w [] [] wr) (fun _ iv _ => l.length - (intOf iv).toNat)
 case atStart => exact ⟨0, rfl, rfl, by omega, HM⟩
 case round =>
  clear HM
  obtain ⟨i, rfl, rfl, hi, HM⟩ := hrel
  by_cases hlt : i < l.length
  ·have hlt1 : (i : Int) < l.length := by omega
   obtain ⟨x, hx⟩ : ∃ x, l[i]? = some x := ⟨_, List.getElem?_eq_getElem hlt⟩
   obtain ⟨b1, off1, cs1, rfl, HB1, k1, -, -⟩ := HA.out.at_ hx
   obtain ⟨b2, off2, cs2, rfl, HB2, k2, -, -⟩ := HB.out.at_ hx
   have E := Xp.eq_self x (HF.out x (List.mem_of_getElem? hx))
   clear hx
   go_upto_region 6 with ((with_reducible refine g_ld ?_); refine a_ld HM ?_)
   refine start_M [] HM (by kernel_rfl) (fun w0x H9 => ?_)
   replace HM := H9; clear H9
   refine k_mv 0 (heldE HM) ?_
   refine k_mv 1 (heldE HM) ?_
   refine k_ia 2 (heldE HM) ?_
   refine k_ld 3 [] (heldE HM) ?_
   refine k_mv 4 (heldE HM) ?_
   refine k_mv 5 (heldE HM) ?_
   refine k_ia 6 (heldE HM) ?_
   refine k_ld 7 [] (heldE HM) ?_
   refine t_eq (i := 8) (v := ?_) [] rfl rfl rfl (by kernel_rfl) (fun _ _ _ h => h) (heldE HM) ?_ ?_; rotate_left 1; (focus ((refine y_cmps .neq false (.inr rfl) (E) rfl (by kernel_rfl) (x := ?_) (y := ?_) (t := ?_) ?_ ?_ ?_ ?_; rotate_left 3; (focus rfl); (focus rfl); (focus ((conv => lhs; whnf) <;> rfl)); ((conv => lhs; whnf) <;> rfl)))); ((try simp only [List.setIfInBounds_toArray]); (try simp only [List.set_cons_succ]); (try simp only [List.set_cons_zero]))
   refine wpAnyL_done (by kernel_rfl) ?_ _
   go_wp2_with fail
   go_roundw
   case rel => exact ⟨i + 1, rfl, by go_num, by omega, HM⟩
   case measure => simp [intOf]; omega
  ·obtain rfl : i = l.length := by omega
   go_wp2_with ((with_reducible refine g_ld ?_); refine a_ld HM ?_)
   go_ret
   exact ⟨rfl, HM.low⟩
set_option maxHeartbeats 4000000 in
theorem same23_any (a b : Value) (l : List Int) (w : World) (ha : RdI w a l) (hb : RdI w b l) (hn : l.length ≤ 100000) :
    Calls Tryz.prog 15 #[a, b] w fun e w' => e = .returned (.bool true) ∧ Below w.heap.size w w' := by
 have HM := Mem.start w
 have HA := Lib.hid ha
 have HB := Lib.hid hb
 obtain ⟨Aa, ca, rfl⟩ := ha.form
 obtain ⟨Ab, cb, rfl⟩ := hb.form
 clear ha hb
 have g1 : ((l.length : Int) != (l.length : Int)) = false := by simp
 go_enter Tryz.func15, Tryz.ntmps15
 go_wp2_with ((with_reducible refine g_ld ?_); refine a_ld HM ?_)
 go_loopw [4, 5] (fun rv iv wr => ∃ i : Nat, rv = .bool false ∧ iv = .int .i64 (i : Nat) ∧ i ≤ l.length ∧ Mem w [] [] wr) (fun _ iv _ => l.length - (intOf iv).toNat)
 case atStart => exact ⟨0, rfl, rfl, by omega, HM⟩
 case round =>
  clear HM
  obtain ⟨i, rfl, rfl, hi, HM⟩ := hrel
  by_cases hlt : i < l.length
  ·have hlt1 : (i : Int) < l.length := by omega
   obtain ⟨x, hx⟩ : ∃ x, l[i]? = some x := ⟨_, List.getElem?_eq_getElem hlt⟩
   obtain ⟨b1, off1, cs1, rfl, HB1, k1⟩ := HA.out.at_ hx
   obtain ⟨b2, off2, cs2, rfl, HB2, k2⟩ := HB.out.at_ hx
   have gx : (x != x) = false := by simp
   clear hx
   go_upto_region 6 with ((with_reducible refine g_ld ?_); refine a_ld HM ?_)
   refine start_M [] HM (by kernel_rfl) (fun w0x H9 => ?_)
   replace HM := H9; clear H9
   refine k_mv 0 (heldE HM) ?_
   refine k_mv 1 (heldE HM) ?_
   refine k_ia 2 (heldE HM) ?_
   refine k_ld 3 [] (heldE HM) ?_
   refine k_mv 4 (heldE HM) ?_
   refine k_mv 5 (heldE HM) ?_
   refine k_ia 6 (heldE HM) ?_
   refine k_ld 7 [] (heldE HM) ?_
   refine k_bin 8 (heldE HM) ?_
   refine wpAnyL_done (by kernel_rfl) ?_ _
   go_wp2_with fail
   go_roundw
   case rel => exact ⟨i + 1, rfl, by go_num, by omega, HM⟩
   case measure => simp [intOf]; omega
  ·obtain rfl : i = l.length := by omega
   go_wp2_with ((with_reducible refine g_ld ?_); refine a_ld HM ?_)
   go_ret
   exact ⟨rfl, HM.low⟩
end Go.Proofs.YtckhdiljihhdmaaGreat
