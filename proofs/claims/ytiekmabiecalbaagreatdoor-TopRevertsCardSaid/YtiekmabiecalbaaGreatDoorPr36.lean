/- Walks. -/
import Derived.Test.YtiekmabiecalbaaGreatDoorPr35
namespace Go.Proofs.YtiekmabiecalbaaGreatDoor
set_option maxHeartbeats 16000000
open Go.RowKit
set_option maxRecDepth 8000
set_option linter.unusedSimpArgs false
set_option linter.unusedVariables false
section
theorem z9_93 {P : Prop} (h : P := by
 refine ⟨(heldE HM), ?_⟩; ((try simp only [Za]); (try simp only [Zx]); (try simp only [Zy]))
 refine j_two 10 17 ?_ ?_
 ·refine o_callg (pick_any W tb _ (some ⟨bl, 0, none⟩) [0, 0, 0, 1, 2, 5] 6 _ (HM.tp Zl HC.out H0.out hle) Zo (tq_own (HM.get Zl)) (fun b o e => by cases e; exact hne) Zs Zs) rfl ?_ ?_; (focus (refine h_call2 (ts := ?_) (x1 := ?_) (x2 := ?_) ?_ Zk ?_ ?_; rotate_left 3; (focus rfl); (focus rfl); rfl)); rintro e9 w1 ⟨p, rfl, hp, ⟨c1, hb1, hc1, -, -⟩, hg9⟩; replace HM := HM.put (c' := c1) Zg hb1 (Only.of_grown hg9); clear hg9 hb1; replace HC := Zi hc1; clear hc1; refine ⟨_, rfl, ?_⟩; have hp2 : 0 ≤ p ∧ p ≤ 5 := (by simp only [List.mem_cons, List.not_mem_nil, or_false] at hp; omega); obtain ⟨dq, hdq⟩ : ∃ dq, dq = max 0 (day - p) := ⟨_, rfl⟩
  refine ⟨(heldE HM), ?_⟩; ((try simp only [Za]); (try simp only [Zx]); (try simp only [Zy]))
  refine k_sub 11 (heldE HM) ?_
  refine t_pure (i := 12) (v := .int .i64 dq) rfl rfl Zk (fun _ _ _ h => h) (heldE HM) Zv ?_ ?_; (focus (exact h_max rfl Zw Zw hdq)); ((try simp only [Za]); (try simp only [Zx]); (try simp only [Zy]))
  refine j_two 14 17 ?_ ?_
  ·refine o_callg (mprice_any W tb _ _ (HM.tp Zl HC.out H0.out hle) Zo) rfl ?_ ?_; (focus (refine h_call1 (ts := ?_) (x1 := ?_) ?_ Zk ?_; rotate_left 2; (focus rfl); rfl)); rintro e9 w1 ⟨x, rfl, hx, ⟨c1, hb1, hc1, -, -⟩, hg9⟩; replace HM := HM.put (c' := c1) Zg hb1 (Only.of_grown hg9); clear hg9 hb1; replace HC := Zi hc1; clear hc1; refine ⟨_, rfl, ?_⟩; have HB := Tq.q0_bld s i dq x known hx; have sx := (Tq.q0 s i dq x known).sa JQ.zero.size
   refine ⟨(heldE HM), ?_⟩; ((try simp only [Za]); (try simp only [Zx]); (try simp only [Zy]))
   refine t_pure (i := 16) (v := .agg (Tq.q0 s i dq x known).c) rfl rfl Zk (fun _ _ _ h => h) (heldE HM) Zv ?_ ?_; (focus (exact h_bg6 rfl Zw Zw Zw Zw Zw Zw HB)); ((try simp only [Za]); (try simp only [Zx]); (try simp only [Zy]))
   refine j_one 17 fun K9 hK9 => ?_
   refine j_al HM ?_; clear HM; intro bk w1 HM
   refine hK9 _ _ (heldE HM) ?_; clear hK9 K9
   refine j_one 18 fun K9 hK9 => ?_
   refine j_st HM ?_; clear HM; intro w1 HM
   refine hK9 _ _ (heldE HM) ?_; clear hK9 K9
   refine wpAnyL_done Zk ?_ _
   (go_wp2_with fail; go_meet; (case rel => exact ⟨_, Tq.q0 s i dq x known, _, rfl, Zi (Tq.mq_mk hsm hi hp2 hdq hx), rfl, Zi (HC.out.mono Zo), HM.pick⟩))
  ·refine j_al HM ?_; clear HM; intro bk w1 HM
   refine ⟨(heldE HM), ?_⟩
   refine j_one 14 fun K9 hK9 => ?_
   refine o_callg (mprice_any W tb _ _ (HM.tp Zl HC.out H0.out hle) Zo) rfl ?_ ?_; (focus (refine h_call1 (ts := ?_) (x1 := ?_) ?_ Zk ?_; rotate_left 2; (focus rfl); rfl)); rintro e9 w1 ⟨x, rfl, hx, ⟨c1, hb1, hc1, -, -⟩, hg9⟩; replace HM := HM.put (c' := c1) Zg hb1 (Only.of_grown hg9); clear hg9 hb1; replace HC := Zi hc1; clear hc1; refine ⟨_, rfl, ?_⟩; have HB := Tq.q0_bld s i dq x known hx; have sx := (Tq.q0 s i dq x known).sa JQ.zero.size
   refine hK9 _ _ (heldE HM) ?_; clear hK9 K9; ((try simp only [Za]); (try simp only [Zx]); (try simp only [Zy]))
   refine t_pure (i := 16) (v := .agg (Tq.q0 s i dq x known).c) rfl rfl Zk (fun _ _ _ h => h) (heldE HM) Zv ?_ ?_; (focus (exact h_bg6 rfl Zw Zw Zw Zw Zw Zw HB)); ((try simp only [Za]); (try simp only [Zx]); (try simp only [Zy]))
   refine j_one 18 fun K9 hK9 => ?_
   refine j_st HM ?_; clear HM; intro w1 HM
   refine hK9 _ _ (heldE HM) ?_; clear hK9 K9
   refine wpAnyL_done Zk ?_ _
   (go_wp2_with fail; go_meet; (case rel => exact ⟨_, Tq.q0 s i dq x known, _, rfl, Zi (Tq.mq_mk hsm hi hp2 hdq hx), rfl, Zi (HC.out.mono Zo), HM.pick⟩))
 ·refine j_al HM ?_; clear HM; intro bk w1 HM
  refine ⟨(heldE HM), ?_⟩
  refine j_one 10 fun K9 hK9 => ?_
  refine o_callg (pick_any W tb _ (some ⟨bl, 0, none⟩) [0, 0, 0, 1, 2, 5] 6 _ (HM.tp Zl HC.out H0.out hle) Zo (tq_own (HM.get Zl)) (fun b o e => by cases e; exact hne) Zs Zs) rfl ?_ ?_; (focus (refine h_call2 (ts := ?_) (x1 := ?_) (x2 := ?_) ?_ Zk ?_ ?_; rotate_left 3; (focus rfl); (focus rfl); rfl)); rintro e9 w1 ⟨p, rfl, hp, ⟨c1, hb1, hc1, -, -⟩, hg9⟩; replace HM := HM.put (c' := c1) Zg hb1 (Only.of_grown hg9); clear hg9 hb1; replace HC := Zi hc1; clear hc1; refine ⟨_, rfl, ?_⟩; have hp2 : 0 ≤ p ∧ p ≤ 5 := (by simp only [List.mem_cons, List.not_mem_nil, or_false] at hp; omega); obtain ⟨dq, hdq⟩ : ∃ dq, dq = max 0 (day - p) := ⟨_, rfl⟩
  refine hK9 _ _ (heldE HM) ?_; clear hK9 K9; ((try simp only [Za]); (try simp only [Zx]); (try simp only [Zy]))
  refine k_sub 11 (heldE HM) ?_
  refine t_pure (i := 12) (v := .int .i64 dq) rfl rfl Zk (fun _ _ _ h => h) (heldE HM) Zv ?_ ?_; (focus (exact h_max rfl Zw Zw hdq)); ((try simp only [Za]); (try simp only [Zx]); (try simp only [Zy]))
  refine j_one 14 fun K9 hK9 => ?_
  refine o_callg (mprice_any W tb _ _ (HM.tp Zl HC.out H0.out hle) Zo) rfl ?_ ?_; (focus (refine h_call1 (ts := ?_) (x1 := ?_) ?_ Zk ?_; rotate_left 2; (focus rfl); rfl)); rintro e9 w1 ⟨x, rfl, hx, ⟨c1, hb1, hc1, -, -⟩, hg9⟩; replace HM := HM.put (c' := c1) Zg hb1 (Only.of_grown hg9); clear hg9 hb1; replace HC := Zi hc1; clear hc1; refine ⟨_, rfl, ?_⟩; have HB := Tq.q0_bld s i dq x known hx; have sx := (Tq.q0 s i dq x known).sa JQ.zero.size
  refine hK9 _ _ (heldE HM) ?_; clear hK9 K9; ((try simp only [Za]); (try simp only [Zx]); (try simp only [Zy]))
  refine t_pure (i := 16) (v := .agg (Tq.q0 s i dq x known).c) rfl rfl Zk (fun _ _ _ h => h) (heldE HM) Zv ?_ ?_; (focus (exact h_bg6 rfl Zw Zw Zw Zw Zw Zw HB)); ((try simp only [Za]); (try simp only [Zx]); (try simp only [Zy]))
  refine j_one 18 fun K9 hK9 => ?_
  refine j_st HM ?_; clear HM; intro w1 HM
  refine hK9 _ _ (heldE HM) ?_; clear hK9 K9
  refine wpAnyL_done Zk ?_ _
  (go_wp2_with fail; go_meet; (case rel => exact ⟨_, Tq.q0 s i dq x known, _, rfl, Zi (Tq.mq_mk hsm hi hp2 hdq hx), rfl, Zi (HC.out.mono Zo), HM.pick⟩))) : P := h
theorem z9_94 {P : Prop} (h : P := by
 refine j_one 9 fun K9 hK9 => ?_
 refine tqj_bs6 HM ?_ (hT := eli); clear HM; intro bl w1 HM; have hne := Tq.ne HM (b' := tb) Zs
 refine hK9 _ _ (heldE HM) ?_; clear hK9 K9; ((try simp only [Za]); (try simp only [Zx]); (try simp only [Zy]))
 refine j_one 10 fun K9 hK9 => ?_
 refine o_callg (pick_any W tb _ (some ⟨bl, 0, none⟩) [0, 0, 0, 1, 2, 5] 6 _ (HM.tp Zl HC.out H0.out hle) Zo (tq_own (HM.get Zl)) (fun b o e => by cases e; exact hne) Zs Zs) rfl ?_ ?_; (focus (refine h_call2 (ts := ?_) (x1 := ?_) (x2 := ?_) ?_ Zk ?_ ?_; rotate_left 3; (focus rfl); (focus rfl); rfl)); rintro e9 w1 ⟨p, rfl, hp, ⟨c1, hb1, hc1, -, -⟩, hg9⟩; replace HM := HM.put (c' := c1) Zg hb1 (Only.of_grown hg9); clear hg9 hb1; replace HC := Zi hc1; clear hc1; refine ⟨_, rfl, ?_⟩; have hp2 : 0 ≤ p ∧ p ≤ 5 := (by simp only [List.mem_cons, List.not_mem_nil, or_false] at hp; omega); obtain ⟨dq, hdq⟩ : ∃ dq, dq = max 0 (day - p) := ⟨_, rfl⟩
 refine hK9 _ _ (heldE HM) ?_; clear hK9 K9; ((try simp only [Za]); (try simp only [Zx]); (try simp only [Zy]))
 refine k_sub 11 (heldE HM) ?_
 refine t_pure (i := 12) (v := .int .i64 dq) rfl rfl Zk (fun _ _ _ h => h) (heldE HM) Zv ?_ ?_; (focus (exact h_max rfl Zw Zw hdq)); ((try simp only [Za]); (try simp only [Zx]); (try simp only [Zy]))
 refine j_one 14 fun K9 hK9 => ?_
 refine o_callg (mprice_any W tb _ _ (HM.tp Zl HC.out H0.out hle) Zo) rfl ?_ ?_; (focus (refine h_call1 (ts := ?_) (x1 := ?_) ?_ Zk ?_; rotate_left 2; (focus rfl); rfl)); rintro e9 w1 ⟨x, rfl, hx, ⟨c1, hb1, hc1, -, -⟩, hg9⟩; replace HM := HM.put (c' := c1) Zg hb1 (Only.of_grown hg9); clear hg9 hb1; replace HC := Zi hc1; clear hc1; refine ⟨_, rfl, ?_⟩; have HB := Tq.q0_bld s i dq x known hx; have sx := (Tq.q0 s i dq x known).sa JQ.zero.size
 refine hK9 _ _ (heldE HM) ?_; clear hK9 K9; ((try simp only [Za]); (try simp only [Zx]); (try simp only [Zy]))
 refine t_pure (i := 16) (v := .agg (Tq.q0 s i dq x known).c) rfl rfl Zk (fun _ _ _ h => h) (heldE HM) Zv ?_ ?_; (focus (exact h_bg6 rfl Zw Zw Zw Zw Zw Zw HB)); ((try simp only [Za]); (try simp only [Zx]); (try simp only [Zy]))
 refine j_one 18 fun K9 hK9 => ?_
 refine j_st HM ?_; clear HM; intro w1 HM
 refine hK9 _ _ (heldE HM) ?_; clear hK9 K9
 refine wpAnyL_done Zk ?_ _
 (go_wp2_with fail; go_meet; (case rel => exact ⟨_, Tq.q0 s i dq x known, _, rfl, Zi (Tq.mq_mk hsm hi hp2 hdq hx), rfl, Zi (HC.out.mono Zo), HM.pick⟩))) : P := h
theorem z9_95 {P : Prop} (h : P := by
 refine j_two 6 17 ?_ ?_
 ·refine o_callg (mpaper_any W tb _ _ (HM.tp Zl HC.out H0.out hle) Zo) rfl ?_ ?_; (focus (refine h_call1 (ts := ?_) (x1 := ?_) ?_ Zk ?_; rotate_left 2; (focus rfl); rfl)); rintro e9 w1 ⟨i, rfl, hi, ⟨c1, hb1, hc1, -, -⟩, hg9⟩; replace HM := HM.put (c' := c1) Zg hb1 (Only.of_grown hg9); clear hg9 hb1; replace HC := Zi hc1; clear hc1; refine ⟨_, rfl, ?_⟩
  refine ⟨(heldE HM), ?_⟩; ((try simp only [Za]); (try simp only [Zx]); (try simp only [Zy]))
  refine j_two 10 17 ?_ ?_
  ·refine o_callg (pick_any W tb _ (some ⟨bl, 0, none⟩) [0, 0, 0, 1, 2, 5] 6 _ (HM.tp Zl HC.out H0.out hle) Zo (tq_own (HM.get Zl)) (fun b o e => by cases e; exact hne) Zs Zs) rfl ?_ ?_; (focus (refine h_call2 (ts := ?_) (x1 := ?_) (x2 := ?_) ?_ Zk ?_ ?_; rotate_left 3; (focus rfl); (focus rfl); rfl)); rintro e9 w1 ⟨p, rfl, hp, ⟨c1, hb1, hc1, -, -⟩, hg9⟩; replace HM := HM.put (c' := c1) Zg hb1 (Only.of_grown hg9); clear hg9 hb1; replace HC := Zi hc1; clear hc1; refine ⟨_, rfl, ?_⟩; have hp2 : 0 ≤ p ∧ p ≤ 5 := (by simp only [List.mem_cons, List.not_mem_nil, or_false] at hp; omega); obtain ⟨dq, hdq⟩ : ∃ dq, dq = max 0 (day - p) := ⟨_, rfl⟩
   refine ⟨(heldE HM), ?_⟩; ((try simp only [Za]); (try simp only [Zx]); (try simp only [Zy]))
   refine k_sub 11 (heldE HM) ?_
   refine t_pure (i := 12) (v := .int .i64 dq) rfl rfl Zk (fun _ _ _ h => h) (heldE HM) Zv ?_ ?_; (focus (exact h_max rfl Zw Zw hdq)); ((try simp only [Za]); (try simp only [Zx]); (try simp only [Zy]))
   refine j_two 14 17 ?_ ?_
   ·refine o_callg (mprice_any W tb _ _ (HM.tp Zl HC.out H0.out hle) Zo) rfl ?_ ?_; (focus (refine h_call1 (ts := ?_) (x1 := ?_) ?_ Zk ?_; rotate_left 2; (focus rfl); rfl)); rintro e9 w1 ⟨x, rfl, hx, ⟨c1, hb1, hc1, -, -⟩, hg9⟩; replace HM := HM.put (c' := c1) Zg hb1 (Only.of_grown hg9); clear hg9 hb1; replace HC := Zi hc1; clear hc1; refine ⟨_, rfl, ?_⟩; have HB := Tq.q0_bld s i dq x known hx; have sx := (Tq.q0 s i dq x known).sa JQ.zero.size
    refine ⟨(heldE HM), ?_⟩; ((try simp only [Za]); (try simp only [Zx]); (try simp only [Zy]))
    refine t_pure (i := 16) (v := .agg (Tq.q0 s i dq x known).c) rfl rfl Zk (fun _ _ _ h => h) (heldE HM) Zv ?_ ?_; (focus (exact h_bg6 rfl Zw Zw Zw Zw Zw Zw HB)); ((try simp only [Za]); (try simp only [Zx]); (try simp only [Zy]))
    refine j_one 17 fun K9 hK9 => ?_
    refine j_al HM ?_; clear HM; intro bk w1 HM
    refine hK9 _ _ (heldE HM) ?_; clear hK9 K9
    refine j_one 18 fun K9 hK9 => ?_
    refine j_st HM ?_; clear HM; intro w1 HM
    refine hK9 _ _ (heldE HM) ?_; clear hK9 K9
    refine wpAnyL_done Zk ?_ _
    (go_wp2_with fail; go_meet; (case rel => exact ⟨_, Tq.q0 s i dq x known, _, rfl, Zi (Tq.mq_mk hsm hi hp2 hdq hx), rfl, Zi (HC.out.mono Zo), HM.pick⟩))
   ·refine j_al HM ?_; clear HM; intro bk w1 HM
    refine ⟨(heldE HM), ?_⟩
    refine j_one 14 fun K9 hK9 => ?_
    refine o_callg (mprice_any W tb _ _ (HM.tp Zl HC.out H0.out hle) Zo) rfl ?_ ?_; (focus (refine h_call1 (ts := ?_) (x1 := ?_) ?_ Zk ?_; rotate_left 2; (focus rfl); rfl)); rintro e9 w1 ⟨x, rfl, hx, ⟨c1, hb1, hc1, -, -⟩, hg9⟩; replace HM := HM.put (c' := c1) Zg hb1 (Only.of_grown hg9); clear hg9 hb1; replace HC := Zi hc1; clear hc1; refine ⟨_, rfl, ?_⟩; have HB := Tq.q0_bld s i dq x known hx; have sx := (Tq.q0 s i dq x known).sa JQ.zero.size
    refine hK9 _ _ (heldE HM) ?_; clear hK9 K9; ((try simp only [Za]); (try simp only [Zx]); (try simp only [Zy]))
    refine t_pure (i := 16) (v := .agg (Tq.q0 s i dq x known).c) rfl rfl Zk (fun _ _ _ h => h) (heldE HM) Zv ?_ ?_; (focus (exact h_bg6 rfl Zw Zw Zw Zw Zw Zw HB)); ((try simp only [Za]); (try simp only [Zx]); (try simp only [Zy]))
    refine j_one 18 fun K9 hK9 => ?_
    refine j_st HM ?_; clear HM; intro w1 HM
    refine hK9 _ _ (heldE HM) ?_; clear hK9 K9
    refine wpAnyL_done Zk ?_ _
    (go_wp2_with fail; go_meet; (case rel => exact ⟨_, Tq.q0 s i dq x known, _, rfl, Zi (Tq.mq_mk hsm hi hp2 hdq hx), rfl, Zi (HC.out.mono Zo), HM.pick⟩))
  ·refine j_al HM ?_; clear HM; intro bk w1 HM
   refine ⟨(heldE HM), ?_⟩
   refine j_one 10 fun K9 hK9 => ?_
   refine o_callg (pick_any W tb _ (some ⟨bl, 0, none⟩) [0, 0, 0, 1, 2, 5] 6 _ (HM.tp Zl HC.out H0.out hle) Zo (tq_own (HM.get Zl)) (fun b o e => by cases e; exact hne) Zs Zs) rfl ?_ ?_; (focus (refine h_call2 (ts := ?_) (x1 := ?_) (x2 := ?_) ?_ Zk ?_ ?_; rotate_left 3; (focus rfl); (focus rfl); rfl)); rintro e9 w1 ⟨p, rfl, hp, ⟨c1, hb1, hc1, -, -⟩, hg9⟩; replace HM := HM.put (c' := c1) Zg hb1 (Only.of_grown hg9); clear hg9 hb1; replace HC := Zi hc1; clear hc1; refine ⟨_, rfl, ?_⟩; have hp2 : 0 ≤ p ∧ p ≤ 5 := (by simp only [List.mem_cons, List.not_mem_nil, or_false] at hp; omega); obtain ⟨dq, hdq⟩ : ∃ dq, dq = max 0 (day - p) := ⟨_, rfl⟩
   refine hK9 _ _ (heldE HM) ?_; clear hK9 K9; ((try simp only [Za]); (try simp only [Zx]); (try simp only [Zy]))
   refine k_sub 11 (heldE HM) ?_
   refine t_pure (i := 12) (v := .int .i64 dq) rfl rfl Zk (fun _ _ _ h => h) (heldE HM) Zv ?_ ?_; (focus (exact h_max rfl Zw Zw hdq)); ((try simp only [Za]); (try simp only [Zx]); (try simp only [Zy]))
   refine j_one 14 fun K9 hK9 => ?_
   refine o_callg (mprice_any W tb _ _ (HM.tp Zl HC.out H0.out hle) Zo) rfl ?_ ?_; (focus (refine h_call1 (ts := ?_) (x1 := ?_) ?_ Zk ?_; rotate_left 2; (focus rfl); rfl)); rintro e9 w1 ⟨x, rfl, hx, ⟨c1, hb1, hc1, -, -⟩, hg9⟩; replace HM := HM.put (c' := c1) Zg hb1 (Only.of_grown hg9); clear hg9 hb1; replace HC := Zi hc1; clear hc1; refine ⟨_, rfl, ?_⟩; have HB := Tq.q0_bld s i dq x known hx; have sx := (Tq.q0 s i dq x known).sa JQ.zero.size
   refine hK9 _ _ (heldE HM) ?_; clear hK9 K9; ((try simp only [Za]); (try simp only [Zx]); (try simp only [Zy]))
   refine t_pure (i := 16) (v := .agg (Tq.q0 s i dq x known).c) rfl rfl Zk (fun _ _ _ h => h) (heldE HM) Zv ?_ ?_; (focus (exact h_bg6 rfl Zw Zw Zw Zw Zw Zw HB)); ((try simp only [Za]); (try simp only [Zx]); (try simp only [Zy]))
   refine j_one 18 fun K9 hK9 => ?_
   refine j_st HM ?_; clear HM; intro w1 HM
   refine hK9 _ _ (heldE HM) ?_; clear hK9 K9
   refine wpAnyL_done Zk ?_ _
   (go_wp2_with fail; go_meet; (case rel => exact ⟨_, Tq.q0 s i dq x known, _, rfl, Zi (Tq.mq_mk hsm hi hp2 hdq hx), rfl, Zi (HC.out.mono Zo), HM.pick⟩))
 ·refine j_al HM ?_; clear HM; intro bk w1 HM
  refine ⟨(heldE HM), ?_⟩
  refine j_one 6 fun K9 hK9 => ?_
  refine o_callg (mpaper_any W tb _ _ (HM.tp Zl HC.out H0.out hle) Zo) rfl ?_ ?_; (focus (refine h_call1 (ts := ?_) (x1 := ?_) ?_ Zk ?_; rotate_left 2; (focus rfl); rfl)); rintro e9 w1 ⟨i, rfl, hi, ⟨c1, hb1, hc1, -, -⟩, hg9⟩; replace HM := HM.put (c' := c1) Zg hb1 (Only.of_grown hg9); clear hg9 hb1; replace HC := Zi hc1; clear hc1; refine ⟨_, rfl, ?_⟩
  refine hK9 _ _ (heldE HM) ?_; clear hK9 K9; ((try simp only [Za]); (try simp only [Zx]); (try simp only [Zy]))
  refine j_one 10 fun K9 hK9 => ?_
  refine o_callg (pick_any W tb _ (some ⟨bl, 0, none⟩) [0, 0, 0, 1, 2, 5] 6 _ (HM.tp Zl HC.out H0.out hle) Zo (tq_own (HM.get Zl)) (fun b o e => by cases e; exact hne) Zs Zs) rfl ?_ ?_; (focus (refine h_call2 (ts := ?_) (x1 := ?_) (x2 := ?_) ?_ Zk ?_ ?_; rotate_left 3; (focus rfl); (focus rfl); rfl)); rintro e9 w1 ⟨p, rfl, hp, ⟨c1, hb1, hc1, -, -⟩, hg9⟩; replace HM := HM.put (c' := c1) Zg hb1 (Only.of_grown hg9); clear hg9 hb1; replace HC := Zi hc1; clear hc1; refine ⟨_, rfl, ?_⟩; have hp2 : 0 ≤ p ∧ p ≤ 5 := (by simp only [List.mem_cons, List.not_mem_nil, or_false] at hp; omega); obtain ⟨dq, hdq⟩ : ∃ dq, dq = max 0 (day - p) := ⟨_, rfl⟩
  refine hK9 _ _ (heldE HM) ?_; clear hK9 K9; ((try simp only [Za]); (try simp only [Zx]); (try simp only [Zy]))
  refine k_sub 11 (heldE HM) ?_
  refine t_pure (i := 12) (v := .int .i64 dq) rfl rfl Zk (fun _ _ _ h => h) (heldE HM) Zv ?_ ?_; (focus (exact h_max rfl Zw Zw hdq)); ((try simp only [Za]); (try simp only [Zx]); (try simp only [Zy]))
  refine j_one 14 fun K9 hK9 => ?_
  refine o_callg (mprice_any W tb _ _ (HM.tp Zl HC.out H0.out hle) Zo) rfl ?_ ?_; (focus (refine h_call1 (ts := ?_) (x1 := ?_) ?_ Zk ?_; rotate_left 2; (focus rfl); rfl)); rintro e9 w1 ⟨x, rfl, hx, ⟨c1, hb1, hc1, -, -⟩, hg9⟩; replace HM := HM.put (c' := c1) Zg hb1 (Only.of_grown hg9); clear hg9 hb1; replace HC := Zi hc1; clear hc1; refine ⟨_, rfl, ?_⟩; have HB := Tq.q0_bld s i dq x known hx; have sx := (Tq.q0 s i dq x known).sa JQ.zero.size
  refine hK9 _ _ (heldE HM) ?_; clear hK9 K9; ((try simp only [Za]); (try simp only [Zx]); (try simp only [Zy]))
  refine t_pure (i := 16) (v := .agg (Tq.q0 s i dq x known).c) rfl rfl Zk (fun _ _ _ h => h) (heldE HM) Zv ?_ ?_; (focus (exact h_bg6 rfl Zw Zw Zw Zw Zw Zw HB)); ((try simp only [Za]); (try simp only [Zx]); (try simp only [Zy]))
  refine j_one 18 fun K9 hK9 => ?_
  refine j_st HM ?_; clear HM; intro w1 HM
  refine hK9 _ _ (heldE HM) ?_; clear hK9 K9
  refine wpAnyL_done Zk ?_ _
  (go_wp2_with fail; go_meet; (case rel => exact ⟨_, Tq.q0 s i dq x known, _, rfl, Zi (Tq.mq_mk hsm hi hp2 hdq hx), rfl, Zi (HC.out.mono Zo), HM.pick⟩))) : P := h
theorem z9_96 {P : Prop} (h : P := by
 refine j_two 6 9 ?_ ?_
 ·refine o_callg (mpaper_any W tb _ _ (HM.tp Zl HC.out H0.out hle) Zo) rfl ?_ ?_; (focus (refine h_call1 (ts := ?_) (x1 := ?_) ?_ Zk ?_; rotate_left 2; (focus rfl); rfl)); rintro e9 w1 ⟨i, rfl, hi, ⟨c1, hb1, hc1, -, -⟩, hg9⟩; replace HM := HM.put (c' := c1) Zg hb1 (Only.of_grown hg9); clear hg9 hb1; replace HC := Zi hc1; clear hc1; refine ⟨_, rfl, ?_⟩
  refine ⟨(heldE HM), ?_⟩; ((try simp only [Za]); (try simp only [Zx]); (try simp only [Zy]))
  refine j_one 9 fun K9 hK9 => ?_
  refine tqj_bs6 HM ?_ (hT := eli); clear HM; intro bl w1 HM; have hne := Tq.ne HM (b' := tb) Zs
  refine hK9 _ _ (heldE HM) ?_; clear hK9 K9; ((try simp only [Za]); (try simp only [Zx]); (try simp only [Zy]))
  refine j_one 10 fun K9 hK9 => ?_
  refine o_callg (pick_any W tb _ (some ⟨bl, 0, none⟩) [0, 0, 0, 1, 2, 5] 6 _ (HM.tp Zl HC.out H0.out hle) Zo (tq_own (HM.get Zl)) (fun b o e => by cases e; exact hne) Zs Zs) rfl ?_ ?_; (focus (refine h_call2 (ts := ?_) (x1 := ?_) (x2 := ?_) ?_ Zk ?_ ?_; rotate_left 3; (focus rfl); (focus rfl); rfl)); rintro e9 w1 ⟨p, rfl, hp, ⟨c1, hb1, hc1, -, -⟩, hg9⟩; replace HM := HM.put (c' := c1) Zg hb1 (Only.of_grown hg9); clear hg9 hb1; replace HC := Zi hc1; clear hc1; refine ⟨_, rfl, ?_⟩; have hp2 : 0 ≤ p ∧ p ≤ 5 := (by simp only [List.mem_cons, List.not_mem_nil, or_false] at hp; omega); obtain ⟨dq, hdq⟩ : ∃ dq, dq = max 0 (day - p) := ⟨_, rfl⟩
  refine hK9 _ _ (heldE HM) ?_; clear hK9 K9; ((try simp only [Za]); (try simp only [Zx]); (try simp only [Zy]))
  refine k_sub 11 (heldE HM) ?_
  refine t_pure (i := 12) (v := .int .i64 dq) rfl rfl Zk (fun _ _ _ h => h) (heldE HM) Zv ?_ ?_; (focus (exact h_max rfl Zw Zw hdq)); ((try simp only [Za]); (try simp only [Zx]); (try simp only [Zy]))
  refine j_one 14 fun K9 hK9 => ?_
  refine o_callg (mprice_any W tb _ _ (HM.tp Zl HC.out H0.out hle) Zo) rfl ?_ ?_; (focus (refine h_call1 (ts := ?_) (x1 := ?_) ?_ Zk ?_; rotate_left 2; (focus rfl); rfl)); rintro e9 w1 ⟨x, rfl, hx, ⟨c1, hb1, hc1, -, -⟩, hg9⟩; replace HM := HM.put (c' := c1) Zg hb1 (Only.of_grown hg9); clear hg9 hb1; replace HC := Zi hc1; clear hc1; refine ⟨_, rfl, ?_⟩; have HB := Tq.q0_bld s i dq x known hx; have sx := (Tq.q0 s i dq x known).sa JQ.zero.size
  refine hK9 _ _ (heldE HM) ?_; clear hK9 K9; ((try simp only [Za]); (try simp only [Zx]); (try simp only [Zy]))
  refine t_pure (i := 16) (v := .agg (Tq.q0 s i dq x known).c) rfl rfl Zk (fun _ _ _ h => h) (heldE HM) Zv ?_ ?_; (focus (exact h_bg6 rfl Zw Zw Zw Zw Zw Zw HB)); ((try simp only [Za]); (try simp only [Zx]); (try simp only [Zy]))
  refine j_one 18 fun K9 hK9 => ?_
  refine j_st HM ?_; clear HM; intro w1 HM
  refine hK9 _ _ (heldE HM) ?_; clear hK9 K9
  refine wpAnyL_done Zk ?_ _
  (go_wp2_with fail; go_meet; (case rel => exact ⟨_, Tq.q0 s i dq x known, _, rfl, Zi (Tq.mq_mk hsm hi hp2 hdq hx), rfl, Zi (HC.out.mono Zo), HM.pick⟩))
 ·refine tqj_bs6 HM ?_ (hT := eli); clear HM; intro bl w1 HM; have hne := Tq.ne HM (b' := tb) Zs
  refine ⟨(heldE HM), ?_⟩; ((try simp only [Za]); (try simp only [Zx]); (try simp only [Zy]))
  refine j_one 6 fun K9 hK9 => ?_
  refine o_callg (mpaper_any W tb _ _ (HM.tp Zl HC.out H0.out hle) Zo) rfl ?_ ?_; (focus (refine h_call1 (ts := ?_) (x1 := ?_) ?_ Zk ?_; rotate_left 2; (focus rfl); rfl)); rintro e9 w1 ⟨i, rfl, hi, ⟨c1, hb1, hc1, -, -⟩, hg9⟩; replace HM := HM.put (c' := c1) Zg hb1 (Only.of_grown hg9); clear hg9 hb1; replace HC := Zi hc1; clear hc1; refine ⟨_, rfl, ?_⟩
  refine hK9 _ _ (heldE HM) ?_; clear hK9 K9; ((try simp only [Za]); (try simp only [Zx]); (try simp only [Zy]))
  refine j_one 10 fun K9 hK9 => ?_
  refine o_callg (pick_any W tb _ (some ⟨bl, 0, none⟩) [0, 0, 0, 1, 2, 5] 6 _ (HM.tp Zl HC.out H0.out hle) Zo (tq_own (HM.get Zl)) (fun b o e => by cases e; exact hne) Zs Zs) rfl ?_ ?_; (focus (refine h_call2 (ts := ?_) (x1 := ?_) (x2 := ?_) ?_ Zk ?_ ?_; rotate_left 3; (focus rfl); (focus rfl); rfl)); rintro e9 w1 ⟨p, rfl, hp, ⟨c1, hb1, hc1, -, -⟩, hg9⟩; replace HM := HM.put (c' := c1) Zg hb1 (Only.of_grown hg9); clear hg9 hb1; replace HC := Zi hc1; clear hc1; refine ⟨_, rfl, ?_⟩; have hp2 : 0 ≤ p ∧ p ≤ 5 := (by simp only [List.mem_cons, List.not_mem_nil, or_false] at hp; omega); obtain ⟨dq, hdq⟩ : ∃ dq, dq = max 0 (day - p) := ⟨_, rfl⟩
  refine hK9 _ _ (heldE HM) ?_; clear hK9 K9; ((try simp only [Za]); (try simp only [Zx]); (try simp only [Zy]))
  refine k_sub 11 (heldE HM) ?_
  refine t_pure (i := 12) (v := .int .i64 dq) rfl rfl Zk (fun _ _ _ h => h) (heldE HM) Zv ?_ ?_; (focus (exact h_max rfl Zw Zw hdq)); ((try simp only [Za]); (try simp only [Zx]); (try simp only [Zy]))
  refine j_one 14 fun K9 hK9 => ?_
  refine o_callg (mprice_any W tb _ _ (HM.tp Zl HC.out H0.out hle) Zo) rfl ?_ ?_; (focus (refine h_call1 (ts := ?_) (x1 := ?_) ?_ Zk ?_; rotate_left 2; (focus rfl); rfl)); rintro e9 w1 ⟨x, rfl, hx, ⟨c1, hb1, hc1, -, -⟩, hg9⟩; replace HM := HM.put (c' := c1) Zg hb1 (Only.of_grown hg9); clear hg9 hb1; replace HC := Zi hc1; clear hc1; refine ⟨_, rfl, ?_⟩; have HB := Tq.q0_bld s i dq x known hx; have sx := (Tq.q0 s i dq x known).sa JQ.zero.size
  refine hK9 _ _ (heldE HM) ?_; clear hK9 K9; ((try simp only [Za]); (try simp only [Zx]); (try simp only [Zy]))
  refine t_pure (i := 16) (v := .agg (Tq.q0 s i dq x known).c) rfl rfl Zk (fun _ _ _ h => h) (heldE HM) Zv ?_ ?_; (focus (exact h_bg6 rfl Zw Zw Zw Zw Zw Zw HB)); ((try simp only [Za]); (try simp only [Zx]); (try simp only [Zy]))
  refine j_one 18 fun K9 hK9 => ?_
  refine j_st HM ?_; clear HM; intro w1 HM
  refine hK9 _ _ (heldE HM) ?_; clear hK9 K9
  refine wpAnyL_done Zk ?_ _
  (go_wp2_with fail; go_meet; (case rel => exact ⟨_, Tq.q0 s i dq x known, _, rfl, Zi (Tq.mq_mk hsm hi hp2 hdq hx), rfl, Zi (HC.out.mono Zo), HM.pick⟩))) : P := h
theorem z9_97 {P : Prop} (h : P := by
 refine j_two 2 17 ?_ ?_
 ·refine o_callg (next_any W tb _ 4 _ (HM.tp Zl HC.out H0.out hle) Zo Zo Zo) rfl ?_ ?_; (focus (refine h_call2 (ts := ?_) (x1 := ?_) (x2 := ?_) ?_ Zk ?_ ?_; rotate_left 3; (focus rfl); (focus rfl); rfl)); rintro e9 w1 ⟨v, rfl, v0, v1, ⟨c1, hb1, hc1, -, -⟩, hg9⟩; replace HM := HM.put (c' := c1) Zg hb1 (Only.of_grown hg9); clear hg9 hb1; replace HC := Zi hc1; clear hc1; refine ⟨_, rfl, ?_⟩; obtain ⟨k, rfl⟩ : ∃ k : Nat, v = k := ⟨v.toNat, by omega⟩; obtain ⟨s, hs⟩ : ∃ s, Tq.srcs[k]? = some s := ⟨_, List.getElem?_eq_getElem (show k < Tq.srcs.length by show k < 4; omega)⟩; have ls := HL.out k s hs; have hsm := List.mem_of_getElem? hs
  refine ⟨(heldE HM), ?_⟩; ((try simp only [Za]); (try simp only [Zx]); (try simp only [Zy]))
  refine k_ia 3 (heldE HM) ?_
  refine k_ld 4 [] (heldE HM) ?_
  refine j_two 6 17 ?_ ?_
  ·refine o_callg (mpaper_any W tb _ _ (HM.tp Zl HC.out H0.out hle) Zo) rfl ?_ ?_; (focus (refine h_call1 (ts := ?_) (x1 := ?_) ?_ Zk ?_; rotate_left 2; (focus rfl); rfl)); rintro e9 w1 ⟨i, rfl, hi, ⟨c1, hb1, hc1, -, -⟩, hg9⟩; replace HM := HM.put (c' := c1) Zg hb1 (Only.of_grown hg9); clear hg9 hb1; replace HC := Zi hc1; clear hc1; refine ⟨_, rfl, ?_⟩
   refine ⟨(heldE HM), ?_⟩; ((try simp only [Za]); (try simp only [Zx]); (try simp only [Zy]))
   refine j_two 10 17 ?_ ?_
   ·refine o_callg (pick_any W tb _ (some ⟨bl, 0, none⟩) [0, 0, 0, 1, 2, 5] 6 _ (HM.tp Zl HC.out H0.out hle) Zo (tq_own (HM.get Zl)) (fun b o e => by cases e; exact hne) Zs Zs) rfl ?_ ?_; (focus (refine h_call2 (ts := ?_) (x1 := ?_) (x2 := ?_) ?_ Zk ?_ ?_; rotate_left 3; (focus rfl); (focus rfl); rfl)); rintro e9 w1 ⟨p, rfl, hp, ⟨c1, hb1, hc1, -, -⟩, hg9⟩; replace HM := HM.put (c' := c1) Zg hb1 (Only.of_grown hg9); clear hg9 hb1; replace HC := Zi hc1; clear hc1; refine ⟨_, rfl, ?_⟩; have hp2 : 0 ≤ p ∧ p ≤ 5 := (by simp only [List.mem_cons, List.not_mem_nil, or_false] at hp; omega); obtain ⟨dq, hdq⟩ : ∃ dq, dq = max 0 (day - p) := ⟨_, rfl⟩
    refine ⟨(heldE HM), ?_⟩; ((try simp only [Za]); (try simp only [Zx]); (try simp only [Zy]))
    refine k_sub 11 (heldE HM) ?_
    refine t_pure (i := 12) (v := .int .i64 dq) rfl rfl Zk (fun _ _ _ h => h) (heldE HM) Zv ?_ ?_; (focus (exact h_max rfl Zw Zw hdq)); ((try simp only [Za]); (try simp only [Zx]); (try simp only [Zy]))
    refine j_two 14 17 ?_ ?_
    ·refine o_callg (mprice_any W tb _ _ (HM.tp Zl HC.out H0.out hle) Zo) rfl ?_ ?_; (focus (refine h_call1 (ts := ?_) (x1 := ?_) ?_ Zk ?_; rotate_left 2; (focus rfl); rfl)); rintro e9 w1 ⟨x, rfl, hx, ⟨c1, hb1, hc1, -, -⟩, hg9⟩; replace HM := HM.put (c' := c1) Zg hb1 (Only.of_grown hg9); clear hg9 hb1; replace HC := Zi hc1; clear hc1; refine ⟨_, rfl, ?_⟩; have HB := Tq.q0_bld s i dq x known hx; have sx := (Tq.q0 s i dq x known).sa JQ.zero.size
     refine ⟨(heldE HM), ?_⟩; ((try simp only [Za]); (try simp only [Zx]); (try simp only [Zy]))
     refine t_pure (i := 16) (v := .agg (Tq.q0 s i dq x known).c) rfl rfl Zk (fun _ _ _ h => h) (heldE HM) Zv ?_ ?_; (focus (exact h_bg6 rfl Zw Zw Zw Zw Zw Zw HB)); ((try simp only [Za]); (try simp only [Zx]); (try simp only [Zy]))
     refine j_one 17 fun K9 hK9 => ?_
     refine j_al HM ?_; clear HM; intro bk w1 HM
     refine hK9 _ _ (heldE HM) ?_; clear hK9 K9
     refine j_one 18 fun K9 hK9 => ?_
     refine j_st HM ?_; clear HM; intro w1 HM
     refine hK9 _ _ (heldE HM) ?_; clear hK9 K9
     refine wpAnyL_done Zk ?_ _
     (go_wp2_with fail; go_meet; (case rel => exact ⟨_, Tq.q0 s i dq x known, _, rfl, Zi (Tq.mq_mk hsm hi hp2 hdq hx), rfl, Zi (HC.out.mono Zo), HM.pick⟩))
    ·refine j_al HM ?_; clear HM; intro bk w1 HM
     refine ⟨(heldE HM), ?_⟩
     refine j_one 14 fun K9 hK9 => ?_
     refine o_callg (mprice_any W tb _ _ (HM.tp Zl HC.out H0.out hle) Zo) rfl ?_ ?_; (focus (refine h_call1 (ts := ?_) (x1 := ?_) ?_ Zk ?_; rotate_left 2; (focus rfl); rfl)); rintro e9 w1 ⟨x, rfl, hx, ⟨c1, hb1, hc1, -, -⟩, hg9⟩; replace HM := HM.put (c' := c1) Zg hb1 (Only.of_grown hg9); clear hg9 hb1; replace HC := Zi hc1; clear hc1; refine ⟨_, rfl, ?_⟩; have HB := Tq.q0_bld s i dq x known hx; have sx := (Tq.q0 s i dq x known).sa JQ.zero.size
     refine hK9 _ _ (heldE HM) ?_; clear hK9 K9; ((try simp only [Za]); (try simp only [Zx]); (try simp only [Zy]))
     refine t_pure (i := 16) (v := .agg (Tq.q0 s i dq x known).c) rfl rfl Zk (fun _ _ _ h => h) (heldE HM) Zv ?_ ?_; (focus (exact h_bg6 rfl Zw Zw Zw Zw Zw Zw HB)); ((try simp only [Za]); (try simp only [Zx]); (try simp only [Zy]))
     refine j_one 18 fun K9 hK9 => ?_
     refine j_st HM ?_; clear HM; intro w1 HM
     refine hK9 _ _ (heldE HM) ?_; clear hK9 K9
     refine wpAnyL_done Zk ?_ _
     (go_wp2_with fail; go_meet; (case rel => exact ⟨_, Tq.q0 s i dq x known, _, rfl, Zi (Tq.mq_mk hsm hi hp2 hdq hx), rfl, Zi (HC.out.mono Zo), HM.pick⟩))
   ·refine j_al HM ?_; clear HM; intro bk w1 HM
    refine ⟨(heldE HM), ?_⟩
    refine j_one 10 fun K9 hK9 => ?_
    refine o_callg (pick_any W tb _ (some ⟨bl, 0, none⟩) [0, 0, 0, 1, 2, 5] 6 _ (HM.tp Zl HC.out H0.out hle) Zo (tq_own (HM.get Zl)) (fun b o e => by cases e; exact hne) Zs Zs) rfl ?_ ?_; (focus (refine h_call2 (ts := ?_) (x1 := ?_) (x2 := ?_) ?_ Zk ?_ ?_; rotate_left 3; (focus rfl); (focus rfl); rfl)); rintro e9 w1 ⟨p, rfl, hp, ⟨c1, hb1, hc1, -, -⟩, hg9⟩; replace HM := HM.put (c' := c1) Zg hb1 (Only.of_grown hg9); clear hg9 hb1; replace HC := Zi hc1; clear hc1; refine ⟨_, rfl, ?_⟩; have hp2 : 0 ≤ p ∧ p ≤ 5 := (by simp only [List.mem_cons, List.not_mem_nil, or_false] at hp; omega); obtain ⟨dq, hdq⟩ : ∃ dq, dq = max 0 (day - p) := ⟨_, rfl⟩
    refine hK9 _ _ (heldE HM) ?_; clear hK9 K9; ((try simp only [Za]); (try simp only [Zx]); (try simp only [Zy]))
    refine k_sub 11 (heldE HM) ?_
    refine t_pure (i := 12) (v := .int .i64 dq) rfl rfl Zk (fun _ _ _ h => h) (heldE HM) Zv ?_ ?_; (focus (exact h_max rfl Zw Zw hdq)); ((try simp only [Za]); (try simp only [Zx]); (try simp only [Zy]))
    refine j_one 14 fun K9 hK9 => ?_
    refine o_callg (mprice_any W tb _ _ (HM.tp Zl HC.out H0.out hle) Zo) rfl ?_ ?_; (focus (refine h_call1 (ts := ?_) (x1 := ?_) ?_ Zk ?_; rotate_left 2; (focus rfl); rfl)); rintro e9 w1 ⟨x, rfl, hx, ⟨c1, hb1, hc1, -, -⟩, hg9⟩; replace HM := HM.put (c' := c1) Zg hb1 (Only.of_grown hg9); clear hg9 hb1; replace HC := Zi hc1; clear hc1; refine ⟨_, rfl, ?_⟩; have HB := Tq.q0_bld s i dq x known hx; have sx := (Tq.q0 s i dq x known).sa JQ.zero.size
    refine hK9 _ _ (heldE HM) ?_; clear hK9 K9; ((try simp only [Za]); (try simp only [Zx]); (try simp only [Zy]))
    refine t_pure (i := 16) (v := .agg (Tq.q0 s i dq x known).c) rfl rfl Zk (fun _ _ _ h => h) (heldE HM) Zv ?_ ?_; (focus (exact h_bg6 rfl Zw Zw Zw Zw Zw Zw HB)); ((try simp only [Za]); (try simp only [Zx]); (try simp only [Zy]))
    refine j_one 18 fun K9 hK9 => ?_
    refine j_st HM ?_; clear HM; intro w1 HM
    refine hK9 _ _ (heldE HM) ?_; clear hK9 K9
    refine wpAnyL_done Zk ?_ _
    (go_wp2_with fail; go_meet; (case rel => exact ⟨_, Tq.q0 s i dq x known, _, rfl, Zi (Tq.mq_mk hsm hi hp2 hdq hx), rfl, Zi (HC.out.mono Zo), HM.pick⟩))
  ·refine j_al HM ?_; clear HM; intro bk w1 HM
   refine ⟨(heldE HM), ?_⟩
   refine j_one 6 fun K9 hK9 => ?_
   refine o_callg (mpaper_any W tb _ _ (HM.tp Zl HC.out H0.out hle) Zo) rfl ?_ ?_; (focus (refine h_call1 (ts := ?_) (x1 := ?_) ?_ Zk ?_; rotate_left 2; (focus rfl); rfl)); rintro e9 w1 ⟨i, rfl, hi, ⟨c1, hb1, hc1, -, -⟩, hg9⟩; replace HM := HM.put (c' := c1) Zg hb1 (Only.of_grown hg9); clear hg9 hb1; replace HC := Zi hc1; clear hc1; refine ⟨_, rfl, ?_⟩
   refine hK9 _ _ (heldE HM) ?_; clear hK9 K9; ((try simp only [Za]); (try simp only [Zx]); (try simp only [Zy]))
   refine j_one 10 fun K9 hK9 => ?_
   refine o_callg (pick_any W tb _ (some ⟨bl, 0, none⟩) [0, 0, 0, 1, 2, 5] 6 _ (HM.tp Zl HC.out H0.out hle) Zo (tq_own (HM.get Zl)) (fun b o e => by cases e; exact hne) Zs Zs) rfl ?_ ?_; (focus (refine h_call2 (ts := ?_) (x1 := ?_) (x2 := ?_) ?_ Zk ?_ ?_; rotate_left 3; (focus rfl); (focus rfl); rfl)); rintro e9 w1 ⟨p, rfl, hp, ⟨c1, hb1, hc1, -, -⟩, hg9⟩; replace HM := HM.put (c' := c1) Zg hb1 (Only.of_grown hg9); clear hg9 hb1; replace HC := Zi hc1; clear hc1; refine ⟨_, rfl, ?_⟩; have hp2 : 0 ≤ p ∧ p ≤ 5 := (by simp only [List.mem_cons, List.not_mem_nil, or_false] at hp; omega); obtain ⟨dq, hdq⟩ : ∃ dq, dq = max 0 (day - p) := ⟨_, rfl⟩
   refine hK9 _ _ (heldE HM) ?_; clear hK9 K9; ((try simp only [Za]); (try simp only [Zx]); (try simp only [Zy]))
   refine k_sub 11 (heldE HM) ?_
   refine t_pure (i := 12) (v := .int .i64 dq) rfl rfl Zk (fun _ _ _ h => h) (heldE HM) Zv ?_ ?_; (focus (exact h_max rfl Zw Zw hdq)); ((try simp only [Za]); (try simp only [Zx]); (try simp only [Zy]))
   refine j_one 14 fun K9 hK9 => ?_
   refine o_callg (mprice_any W tb _ _ (HM.tp Zl HC.out H0.out hle) Zo) rfl ?_ ?_; (focus (refine h_call1 (ts := ?_) (x1 := ?_) ?_ Zk ?_; rotate_left 2; (focus rfl); rfl)); rintro e9 w1 ⟨x, rfl, hx, ⟨c1, hb1, hc1, -, -⟩, hg9⟩; replace HM := HM.put (c' := c1) Zg hb1 (Only.of_grown hg9); clear hg9 hb1; replace HC := Zi hc1; clear hc1; refine ⟨_, rfl, ?_⟩; have HB := Tq.q0_bld s i dq x known hx; have sx := (Tq.q0 s i dq x known).sa JQ.zero.size
   refine hK9 _ _ (heldE HM) ?_; clear hK9 K9; ((try simp only [Za]); (try simp only [Zx]); (try simp only [Zy]))
   refine t_pure (i := 16) (v := .agg (Tq.q0 s i dq x known).c) rfl rfl Zk (fun _ _ _ h => h) (heldE HM) Zv ?_ ?_; (focus (exact h_bg6 rfl Zw Zw Zw Zw Zw Zw HB)); ((try simp only [Za]); (try simp only [Zx]); (try simp only [Zy]))
   refine j_one 18 fun K9 hK9 => ?_
   refine j_st HM ?_; clear HM; intro w1 HM
   refine hK9 _ _ (heldE HM) ?_; clear hK9 K9
   refine wpAnyL_done Zk ?_ _
   (go_wp2_with fail; go_meet; (case rel => exact ⟨_, Tq.q0 s i dq x known, _, rfl, Zi (Tq.mq_mk hsm hi hp2 hdq hx), rfl, Zi (HC.out.mono Zo), HM.pick⟩))
 ·refine j_al HM ?_; clear HM; intro bk w1 HM
  refine ⟨(heldE HM), ?_⟩
  refine j_one 2 fun K9 hK9 => ?_
  refine o_callg (next_any W tb _ 4 _ (HM.tp Zl HC.out H0.out hle) Zo Zo Zo) rfl ?_ ?_; (focus (refine h_call2 (ts := ?_) (x1 := ?_) (x2 := ?_) ?_ Zk ?_ ?_; rotate_left 3; (focus rfl); (focus rfl); rfl)); rintro e9 w1 ⟨v, rfl, v0, v1, ⟨c1, hb1, hc1, -, -⟩, hg9⟩; replace HM := HM.put (c' := c1) Zg hb1 (Only.of_grown hg9); clear hg9 hb1; replace HC := Zi hc1; clear hc1; refine ⟨_, rfl, ?_⟩; obtain ⟨k, rfl⟩ : ∃ k : Nat, v = k := ⟨v.toNat, by omega⟩; obtain ⟨s, hs⟩ : ∃ s, Tq.srcs[k]? = some s := ⟨_, List.getElem?_eq_getElem (show k < Tq.srcs.length by show k < 4; omega)⟩; have ls := HL.out k s hs; have hsm := List.mem_of_getElem? hs
  refine hK9 _ _ (heldE HM) ?_; clear hK9 K9; ((try simp only [Za]); (try simp only [Zx]); (try simp only [Zy]))
  refine k_ia 3 (heldE HM) ?_
  refine k_ld 4 [] (heldE HM) ?_
  refine j_one 6 fun K9 hK9 => ?_
  refine o_callg (mpaper_any W tb _ _ (HM.tp Zl HC.out H0.out hle) Zo) rfl ?_ ?_; (focus (refine h_call1 (ts := ?_) (x1 := ?_) ?_ Zk ?_; rotate_left 2; (focus rfl); rfl)); rintro e9 w1 ⟨i, rfl, hi, ⟨c1, hb1, hc1, -, -⟩, hg9⟩; replace HM := HM.put (c' := c1) Zg hb1 (Only.of_grown hg9); clear hg9 hb1; replace HC := Zi hc1; clear hc1; refine ⟨_, rfl, ?_⟩
  refine hK9 _ _ (heldE HM) ?_; clear hK9 K9; ((try simp only [Za]); (try simp only [Zx]); (try simp only [Zy]))
  refine j_one 10 fun K9 hK9 => ?_
  refine o_callg (pick_any W tb _ (some ⟨bl, 0, none⟩) [0, 0, 0, 1, 2, 5] 6 _ (HM.tp Zl HC.out H0.out hle) Zo (tq_own (HM.get Zl)) (fun b o e => by cases e; exact hne) Zs Zs) rfl ?_ ?_; (focus (refine h_call2 (ts := ?_) (x1 := ?_) (x2 := ?_) ?_ Zk ?_ ?_; rotate_left 3; (focus rfl); (focus rfl); rfl)); rintro e9 w1 ⟨p, rfl, hp, ⟨c1, hb1, hc1, -, -⟩, hg9⟩; replace HM := HM.put (c' := c1) Zg hb1 (Only.of_grown hg9); clear hg9 hb1; replace HC := Zi hc1; clear hc1; refine ⟨_, rfl, ?_⟩; have hp2 : 0 ≤ p ∧ p ≤ 5 := (by simp only [List.mem_cons, List.not_mem_nil, or_false] at hp; omega); obtain ⟨dq, hdq⟩ : ∃ dq, dq = max 0 (day - p) := ⟨_, rfl⟩
  refine hK9 _ _ (heldE HM) ?_; clear hK9 K9; ((try simp only [Za]); (try simp only [Zx]); (try simp only [Zy]))
  refine k_sub 11 (heldE HM) ?_
  refine t_pure (i := 12) (v := .int .i64 dq) rfl rfl Zk (fun _ _ _ h => h) (heldE HM) Zv ?_ ?_; (focus (exact h_max rfl Zw Zw hdq)); ((try simp only [Za]); (try simp only [Zx]); (try simp only [Zy]))
  refine j_one 14 fun K9 hK9 => ?_
  refine o_callg (mprice_any W tb _ _ (HM.tp Zl HC.out H0.out hle) Zo) rfl ?_ ?_; (focus (refine h_call1 (ts := ?_) (x1 := ?_) ?_ Zk ?_; rotate_left 2; (focus rfl); rfl)); rintro e9 w1 ⟨x, rfl, hx, ⟨c1, hb1, hc1, -, -⟩, hg9⟩; replace HM := HM.put (c' := c1) Zg hb1 (Only.of_grown hg9); clear hg9 hb1; replace HC := Zi hc1; clear hc1; refine ⟨_, rfl, ?_⟩; have HB := Tq.q0_bld s i dq x known hx; have sx := (Tq.q0 s i dq x known).sa JQ.zero.size
  refine hK9 _ _ (heldE HM) ?_; clear hK9 K9; ((try simp only [Za]); (try simp only [Zx]); (try simp only [Zy]))
  refine t_pure (i := 16) (v := .agg (Tq.q0 s i dq x known).c) rfl rfl Zk (fun _ _ _ h => h) (heldE HM) Zv ?_ ?_; (focus (exact h_bg6 rfl Zw Zw Zw Zw Zw Zw HB)); ((try simp only [Za]); (try simp only [Zx]); (try simp only [Zy]))
  refine j_one 18 fun K9 hK9 => ?_
  refine j_st HM ?_; clear HM; intro w1 HM
  refine hK9 _ _ (heldE HM) ?_; clear hK9 K9
  refine wpAnyL_done Zk ?_ _
  (go_wp2_with fail; go_meet; (case rel => exact ⟨_, Tq.q0 s i dq x known, _, rfl, Zi (Tq.mq_mk hsm hi hp2 hdq hx), rfl, Zi (HC.out.mono Zo), HM.pick⟩))) : P := h
theorem z9_98 {P : Prop} (h : P := by
 refine j_two 2 9 ?_ ?_
 ·refine o_callg (next_any W tb _ 4 _ (HM.tp Zl HC.out H0.out hle) Zo Zo Zo) rfl ?_ ?_; (focus (refine h_call2 (ts := ?_) (x1 := ?_) (x2 := ?_) ?_ Zk ?_ ?_; rotate_left 3; (focus rfl); (focus rfl); rfl)); rintro e9 w1 ⟨v, rfl, v0, v1, ⟨c1, hb1, hc1, -, -⟩, hg9⟩; replace HM := HM.put (c' := c1) Zg hb1 (Only.of_grown hg9); clear hg9 hb1; replace HC := Zi hc1; clear hc1; refine ⟨_, rfl, ?_⟩; obtain ⟨k, rfl⟩ : ∃ k : Nat, v = k := ⟨v.toNat, by omega⟩; obtain ⟨s, hs⟩ : ∃ s, Tq.srcs[k]? = some s := ⟨_, List.getElem?_eq_getElem (show k < Tq.srcs.length by show k < 4; omega)⟩; have ls := HL.out k s hs; have hsm := List.mem_of_getElem? hs
  refine ⟨(heldE HM), ?_⟩; ((try simp only [Za]); (try simp only [Zx]); (try simp only [Zy]))
  refine k_ia 3 (heldE HM) ?_
  refine k_ld 4 [] (heldE HM) ?_
  refine j_two 6 9 ?_ ?_
  ·refine o_callg (mpaper_any W tb _ _ (HM.tp Zl HC.out H0.out hle) Zo) rfl ?_ ?_; (focus (refine h_call1 (ts := ?_) (x1 := ?_) ?_ Zk ?_; rotate_left 2; (focus rfl); rfl)); rintro e9 w1 ⟨i, rfl, hi, ⟨c1, hb1, hc1, -, -⟩, hg9⟩; replace HM := HM.put (c' := c1) Zg hb1 (Only.of_grown hg9); clear hg9 hb1; replace HC := Zi hc1; clear hc1; refine ⟨_, rfl, ?_⟩
   refine ⟨(heldE HM), ?_⟩; ((try simp only [Za]); (try simp only [Zx]); (try simp only [Zy]))
   refine j_one 9 fun K9 hK9 => ?_
   refine tqj_bs6 HM ?_ (hT := eli); clear HM; intro bl w1 HM; have hne := Tq.ne HM (b' := tb) Zs
   refine hK9 _ _ (heldE HM) ?_; clear hK9 K9; ((try simp only [Za]); (try simp only [Zx]); (try simp only [Zy]))
   refine j_one 10 fun K9 hK9 => ?_
   refine o_callg (pick_any W tb _ (some ⟨bl, 0, none⟩) [0, 0, 0, 1, 2, 5] 6 _ (HM.tp Zl HC.out H0.out hle) Zo (tq_own (HM.get Zl)) (fun b o e => by cases e; exact hne) Zs Zs) rfl ?_ ?_; (focus (refine h_call2 (ts := ?_) (x1 := ?_) (x2 := ?_) ?_ Zk ?_ ?_; rotate_left 3; (focus rfl); (focus rfl); rfl)); rintro e9 w1 ⟨p, rfl, hp, ⟨c1, hb1, hc1, -, -⟩, hg9⟩; replace HM := HM.put (c' := c1) Zg hb1 (Only.of_grown hg9); clear hg9 hb1; replace HC := Zi hc1; clear hc1; refine ⟨_, rfl, ?_⟩; have hp2 : 0 ≤ p ∧ p ≤ 5 := (by simp only [List.mem_cons, List.not_mem_nil, or_false] at hp; omega); obtain ⟨dq, hdq⟩ : ∃ dq, dq = max 0 (day - p) := ⟨_, rfl⟩
   refine hK9 _ _ (heldE HM) ?_; clear hK9 K9; ((try simp only [Za]); (try simp only [Zx]); (try simp only [Zy]))
   refine k_sub 11 (heldE HM) ?_
   refine t_pure (i := 12) (v := .int .i64 dq) rfl rfl Zk (fun _ _ _ h => h) (heldE HM) Zv ?_ ?_; (focus (exact h_max rfl Zw Zw hdq)); ((try simp only [Za]); (try simp only [Zx]); (try simp only [Zy]))
   refine j_one 14 fun K9 hK9 => ?_
   refine o_callg (mprice_any W tb _ _ (HM.tp Zl HC.out H0.out hle) Zo) rfl ?_ ?_; (focus (refine h_call1 (ts := ?_) (x1 := ?_) ?_ Zk ?_; rotate_left 2; (focus rfl); rfl)); rintro e9 w1 ⟨x, rfl, hx, ⟨c1, hb1, hc1, -, -⟩, hg9⟩; replace HM := HM.put (c' := c1) Zg hb1 (Only.of_grown hg9); clear hg9 hb1; replace HC := Zi hc1; clear hc1; refine ⟨_, rfl, ?_⟩; have HB := Tq.q0_bld s i dq x known hx; have sx := (Tq.q0 s i dq x known).sa JQ.zero.size
   refine hK9 _ _ (heldE HM) ?_; clear hK9 K9; ((try simp only [Za]); (try simp only [Zx]); (try simp only [Zy]))
   refine t_pure (i := 16) (v := .agg (Tq.q0 s i dq x known).c) rfl rfl Zk (fun _ _ _ h => h) (heldE HM) Zv ?_ ?_; (focus (exact h_bg6 rfl Zw Zw Zw Zw Zw Zw HB)); ((try simp only [Za]); (try simp only [Zx]); (try simp only [Zy]))
   refine j_one 18 fun K9 hK9 => ?_
   refine j_st HM ?_; clear HM; intro w1 HM
   refine hK9 _ _ (heldE HM) ?_; clear hK9 K9
   refine wpAnyL_done Zk ?_ _
   (go_wp2_with fail; go_meet; (case rel => exact ⟨_, Tq.q0 s i dq x known, _, rfl, Zi (Tq.mq_mk hsm hi hp2 hdq hx), rfl, Zi (HC.out.mono Zo), HM.pick⟩))
  ·refine tqj_bs6 HM ?_ (hT := eli); clear HM; intro bl w1 HM; have hne := Tq.ne HM (b' := tb) Zs
   refine ⟨(heldE HM), ?_⟩; ((try simp only [Za]); (try simp only [Zx]); (try simp only [Zy]))
   refine j_one 6 fun K9 hK9 => ?_
   refine o_callg (mpaper_any W tb _ _ (HM.tp Zl HC.out H0.out hle) Zo) rfl ?_ ?_; (focus (refine h_call1 (ts := ?_) (x1 := ?_) ?_ Zk ?_; rotate_left 2; (focus rfl); rfl)); rintro e9 w1 ⟨i, rfl, hi, ⟨c1, hb1, hc1, -, -⟩, hg9⟩; replace HM := HM.put (c' := c1) Zg hb1 (Only.of_grown hg9); clear hg9 hb1; replace HC := Zi hc1; clear hc1; refine ⟨_, rfl, ?_⟩
   refine hK9 _ _ (heldE HM) ?_; clear hK9 K9; ((try simp only [Za]); (try simp only [Zx]); (try simp only [Zy]))
   refine j_one 10 fun K9 hK9 => ?_
   refine o_callg (pick_any W tb _ (some ⟨bl, 0, none⟩) [0, 0, 0, 1, 2, 5] 6 _ (HM.tp Zl HC.out H0.out hle) Zo (tq_own (HM.get Zl)) (fun b o e => by cases e; exact hne) Zs Zs) rfl ?_ ?_; (focus (refine h_call2 (ts := ?_) (x1 := ?_) (x2 := ?_) ?_ Zk ?_ ?_; rotate_left 3; (focus rfl); (focus rfl); rfl)); rintro e9 w1 ⟨p, rfl, hp, ⟨c1, hb1, hc1, -, -⟩, hg9⟩; replace HM := HM.put (c' := c1) Zg hb1 (Only.of_grown hg9); clear hg9 hb1; replace HC := Zi hc1; clear hc1; refine ⟨_, rfl, ?_⟩; have hp2 : 0 ≤ p ∧ p ≤ 5 := (by simp only [List.mem_cons, List.not_mem_nil, or_false] at hp; omega); obtain ⟨dq, hdq⟩ : ∃ dq, dq = max 0 (day - p) := ⟨_, rfl⟩
   refine hK9 _ _ (heldE HM) ?_; clear hK9 K9; ((try simp only [Za]); (try simp only [Zx]); (try simp only [Zy]))
   refine k_sub 11 (heldE HM) ?_
   refine t_pure (i := 12) (v := .int .i64 dq) rfl rfl Zk (fun _ _ _ h => h) (heldE HM) Zv ?_ ?_; (focus (exact h_max rfl Zw Zw hdq)); ((try simp only [Za]); (try simp only [Zx]); (try simp only [Zy]))
   refine j_one 14 fun K9 hK9 => ?_
   refine o_callg (mprice_any W tb _ _ (HM.tp Zl HC.out H0.out hle) Zo) rfl ?_ ?_; (focus (refine h_call1 (ts := ?_) (x1 := ?_) ?_ Zk ?_; rotate_left 2; (focus rfl); rfl)); rintro e9 w1 ⟨x, rfl, hx, ⟨c1, hb1, hc1, -, -⟩, hg9⟩; replace HM := HM.put (c' := c1) Zg hb1 (Only.of_grown hg9); clear hg9 hb1; replace HC := Zi hc1; clear hc1; refine ⟨_, rfl, ?_⟩; have HB := Tq.q0_bld s i dq x known hx; have sx := (Tq.q0 s i dq x known).sa JQ.zero.size
   refine hK9 _ _ (heldE HM) ?_; clear hK9 K9; ((try simp only [Za]); (try simp only [Zx]); (try simp only [Zy]))
   refine t_pure (i := 16) (v := .agg (Tq.q0 s i dq x known).c) rfl rfl Zk (fun _ _ _ h => h) (heldE HM) Zv ?_ ?_; (focus (exact h_bg6 rfl Zw Zw Zw Zw Zw Zw HB)); ((try simp only [Za]); (try simp only [Zx]); (try simp only [Zy]))
   refine j_one 18 fun K9 hK9 => ?_
   refine j_st HM ?_; clear HM; intro w1 HM
   refine hK9 _ _ (heldE HM) ?_; clear hK9 K9
   refine wpAnyL_done Zk ?_ _
   (go_wp2_with fail; go_meet; (case rel => exact ⟨_, Tq.q0 s i dq x known, _, rfl, Zi (Tq.mq_mk hsm hi hp2 hdq hx), rfl, Zi (HC.out.mono Zo), HM.pick⟩))
 ·refine tqj_bs6 HM ?_ (hT := eli); clear HM; intro bl w1 HM; have hne := Tq.ne HM (b' := tb) Zs
  refine ⟨(heldE HM), ?_⟩; ((try simp only [Za]); (try simp only [Zx]); (try simp only [Zy]))
  refine j_one 2 fun K9 hK9 => ?_
  refine o_callg (next_any W tb _ 4 _ (HM.tp Zl HC.out H0.out hle) Zo Zo Zo) rfl ?_ ?_; (focus (refine h_call2 (ts := ?_) (x1 := ?_) (x2 := ?_) ?_ Zk ?_ ?_; rotate_left 3; (focus rfl); (focus rfl); rfl)); rintro e9 w1 ⟨v, rfl, v0, v1, ⟨c1, hb1, hc1, -, -⟩, hg9⟩; replace HM := HM.put (c' := c1) Zg hb1 (Only.of_grown hg9); clear hg9 hb1; replace HC := Zi hc1; clear hc1; refine ⟨_, rfl, ?_⟩; obtain ⟨k, rfl⟩ : ∃ k : Nat, v = k := ⟨v.toNat, by omega⟩; obtain ⟨s, hs⟩ : ∃ s, Tq.srcs[k]? = some s := ⟨_, List.getElem?_eq_getElem (show k < Tq.srcs.length by show k < 4; omega)⟩; have ls := HL.out k s hs; have hsm := List.mem_of_getElem? hs
  refine hK9 _ _ (heldE HM) ?_; clear hK9 K9; ((try simp only [Za]); (try simp only [Zx]); (try simp only [Zy]))
  refine k_ia 3 (heldE HM) ?_
  refine k_ld 4 [] (heldE HM) ?_
  refine j_one 6 fun K9 hK9 => ?_
  refine o_callg (mpaper_any W tb _ _ (HM.tp Zl HC.out H0.out hle) Zo) rfl ?_ ?_; (focus (refine h_call1 (ts := ?_) (x1 := ?_) ?_ Zk ?_; rotate_left 2; (focus rfl); rfl)); rintro e9 w1 ⟨i, rfl, hi, ⟨c1, hb1, hc1, -, -⟩, hg9⟩; replace HM := HM.put (c' := c1) Zg hb1 (Only.of_grown hg9); clear hg9 hb1; replace HC := Zi hc1; clear hc1; refine ⟨_, rfl, ?_⟩
  refine hK9 _ _ (heldE HM) ?_; clear hK9 K9; ((try simp only [Za]); (try simp only [Zx]); (try simp only [Zy]))
  refine j_one 10 fun K9 hK9 => ?_
  refine o_callg (pick_any W tb _ (some ⟨bl, 0, none⟩) [0, 0, 0, 1, 2, 5] 6 _ (HM.tp Zl HC.out H0.out hle) Zo (tq_own (HM.get Zl)) (fun b o e => by cases e; exact hne) Zs Zs) rfl ?_ ?_; (focus (refine h_call2 (ts := ?_) (x1 := ?_) (x2 := ?_) ?_ Zk ?_ ?_; rotate_left 3; (focus rfl); (focus rfl); rfl)); rintro e9 w1 ⟨p, rfl, hp, ⟨c1, hb1, hc1, -, -⟩, hg9⟩; replace HM := HM.put (c' := c1) Zg hb1 (Only.of_grown hg9); clear hg9 hb1; replace HC := Zi hc1; clear hc1; refine ⟨_, rfl, ?_⟩; have hp2 : 0 ≤ p ∧ p ≤ 5 := (by simp only [List.mem_cons, List.not_mem_nil, or_false] at hp; omega); obtain ⟨dq, hdq⟩ : ∃ dq, dq = max 0 (day - p) := ⟨_, rfl⟩
  refine hK9 _ _ (heldE HM) ?_; clear hK9 K9; ((try simp only [Za]); (try simp only [Zx]); (try simp only [Zy]))
  refine k_sub 11 (heldE HM) ?_
  refine t_pure (i := 12) (v := .int .i64 dq) rfl rfl Zk (fun _ _ _ h => h) (heldE HM) Zv ?_ ?_; (focus (exact h_max rfl Zw Zw hdq)); ((try simp only [Za]); (try simp only [Zx]); (try simp only [Zy]))
  refine j_one 14 fun K9 hK9 => ?_
  refine o_callg (mprice_any W tb _ _ (HM.tp Zl HC.out H0.out hle) Zo) rfl ?_ ?_; (focus (refine h_call1 (ts := ?_) (x1 := ?_) ?_ Zk ?_; rotate_left 2; (focus rfl); rfl)); rintro e9 w1 ⟨x, rfl, hx, ⟨c1, hb1, hc1, -, -⟩, hg9⟩; replace HM := HM.put (c' := c1) Zg hb1 (Only.of_grown hg9); clear hg9 hb1; replace HC := Zi hc1; clear hc1; refine ⟨_, rfl, ?_⟩; have HB := Tq.q0_bld s i dq x known hx; have sx := (Tq.q0 s i dq x known).sa JQ.zero.size
  refine hK9 _ _ (heldE HM) ?_; clear hK9 K9; ((try simp only [Za]); (try simp only [Zx]); (try simp only [Zy]))
  refine t_pure (i := 16) (v := .agg (Tq.q0 s i dq x known).c) rfl rfl Zk (fun _ _ _ h => h) (heldE HM) Zv ?_ ?_; (focus (exact h_bg6 rfl Zw Zw Zw Zw Zw Zw HB)); ((try simp only [Za]); (try simp only [Zx]); (try simp only [Zy]))
  refine j_one 18 fun K9 hK9 => ?_
  refine j_st HM ?_; clear HM; intro w1 HM
  refine hK9 _ _ (heldE HM) ?_; clear hK9 K9
  refine wpAnyL_done Zk ?_ _
  (go_wp2_with fail; go_meet; (case rel => exact ⟨_, Tq.q0 s i dq x known, _, rfl, Zi (Tq.mq_mk hsm hi hp2 hdq hx), rfl, Zi (HC.out.mono Zo), HM.pick⟩))) : P := h
theorem z9_99 {P : Prop} (h : P := by
 refine j_one 0 fun K9 hK9 => ?_
 refine o_callg (msrc_at _) rfl ?_ ?_; (focus (refine h_call0 (ts := ?_) ?_ Zk; rotate_left 1; rfl)); rintro e9 w1 ⟨bs, off, cv, rfl, HL, hB9⟩; replace HM := HM.join hB9; clear hB9; simp only [List.cons_append, List.nil_append] at HM; refine ⟨_, rfl, ?_⟩
 refine hK9 _ _ (heldE HM) ?_; clear hK9 K9; ((try simp only [Za]); (try simp only [Zx]); (try simp only [Zy]))
 refine tqk_more ((bs, cv) :: [(b6, JQ.zero.c)]) ?_
 refine j_one 2 fun K9 hK9 => ?_
 refine o_callg (next_any W tb _ 4 _ (HM.tp Zl HC.out H0.out hle) Zo Zo Zo) rfl ?_ ?_; (focus (refine h_call2 (ts := ?_) (x1 := ?_) (x2 := ?_) ?_ Zk ?_ ?_; rotate_left 3; (focus rfl); (focus rfl); rfl)); rintro e9 w1 ⟨v, rfl, v0, v1, ⟨c1, hb1, hc1, -, -⟩, hg9⟩; replace HM := HM.put (c' := c1) Zg hb1 (Only.of_grown hg9); clear hg9 hb1; replace HC := Zi hc1; clear hc1; refine ⟨_, rfl, ?_⟩; obtain ⟨k, rfl⟩ : ∃ k : Nat, v = k := ⟨v.toNat, by omega⟩; obtain ⟨s, hs⟩ : ∃ s, Tq.srcs[k]? = some s := ⟨_, List.getElem?_eq_getElem (show k < Tq.srcs.length by show k < 4; omega)⟩; have ls := HL.out k s hs; have hsm := List.mem_of_getElem? hs
 refine hK9 _ _ (heldE HM) ?_; clear hK9 K9; ((try simp only [Za]); (try simp only [Zx]); (try simp only [Zy]))
 refine k_ia 3 (heldE HM) ?_
 refine k_ld 4 [] (heldE HM) ?_
 refine j_one 6 fun K9 hK9 => ?_
 refine o_callg (mpaper_any W tb _ _ (HM.tp Zl HC.out H0.out hle) Zo) rfl ?_ ?_; (focus (refine h_call1 (ts := ?_) (x1 := ?_) ?_ Zk ?_; rotate_left 2; (focus rfl); rfl)); rintro e9 w1 ⟨i, rfl, hi, ⟨c1, hb1, hc1, -, -⟩, hg9⟩; replace HM := HM.put (c' := c1) Zg hb1 (Only.of_grown hg9); clear hg9 hb1; replace HC := Zi hc1; clear hc1; refine ⟨_, rfl, ?_⟩
 refine hK9 _ _ (heldE HM) ?_; clear hK9 K9; ((try simp only [Za]); (try simp only [Zx]); (try simp only [Zy]))
 refine j_one 10 fun K9 hK9 => ?_
 refine o_callg (pick_any W tb _ (some ⟨bl, 0, none⟩) [0, 0, 0, 1, 2, 5] 6 _ (HM.tp Zl HC.out H0.out hle) Zo (tq_own (HM.get Zl)) (fun b o e => by cases e; exact hne) Zs Zs) rfl ?_ ?_; (focus (refine h_call2 (ts := ?_) (x1 := ?_) (x2 := ?_) ?_ Zk ?_ ?_; rotate_left 3; (focus rfl); (focus rfl); rfl)); rintro e9 w1 ⟨p, rfl, hp, ⟨c1, hb1, hc1, -, -⟩, hg9⟩; replace HM := HM.put (c' := c1) Zg hb1 (Only.of_grown hg9); clear hg9 hb1; replace HC := Zi hc1; clear hc1; refine ⟨_, rfl, ?_⟩; have hp2 : 0 ≤ p ∧ p ≤ 5 := (by simp only [List.mem_cons, List.not_mem_nil, or_false] at hp; omega); obtain ⟨dq, hdq⟩ : ∃ dq, dq = max 0 (day - p) := ⟨_, rfl⟩
 refine hK9 _ _ (heldE HM) ?_; clear hK9 K9; ((try simp only [Za]); (try simp only [Zx]); (try simp only [Zy]))
 refine k_sub 11 (heldE HM) ?_
 refine t_pure (i := 12) (v := .int .i64 dq) rfl rfl Zk (fun _ _ _ h => h) (heldE HM) Zv ?_ ?_; (focus (exact h_max rfl Zw Zw hdq)); ((try simp only [Za]); (try simp only [Zx]); (try simp only [Zy]))
 refine j_one 14 fun K9 hK9 => ?_
 refine o_callg (mprice_any W tb _ _ (HM.tp Zl HC.out H0.out hle) Zo) rfl ?_ ?_; (focus (refine h_call1 (ts := ?_) (x1 := ?_) ?_ Zk ?_; rotate_left 2; (focus rfl); rfl)); rintro e9 w1 ⟨x, rfl, hx, ⟨c1, hb1, hc1, -, -⟩, hg9⟩; replace HM := HM.put (c' := c1) Zg hb1 (Only.of_grown hg9); clear hg9 hb1; replace HC := Zi hc1; clear hc1; refine ⟨_, rfl, ?_⟩; have HB := Tq.q0_bld s i dq x known hx; have sx := (Tq.q0 s i dq x known).sa JQ.zero.size
 refine hK9 _ _ (heldE HM) ?_; clear hK9 K9; ((try simp only [Za]); (try simp only [Zx]); (try simp only [Zy]))
 refine t_pure (i := 16) (v := .agg (Tq.q0 s i dq x known).c) rfl rfl Zk (fun _ _ _ h => h) (heldE HM) Zv ?_ ?_; (focus (exact h_bg6 rfl Zw Zw Zw Zw Zw Zw HB)); ((try simp only [Za]); (try simp only [Zx]); (try simp only [Zy]))
 refine j_one 18 fun K9 hK9 => ?_
 refine j_st HM ?_; clear HM; intro w1 HM
 refine hK9 _ _ (heldE HM) ?_; clear hK9 K9
 refine wpAnyL_done Zk ?_ _
 (go_wp2_with fail; go_meet; (case rel => exact ⟨_, Tq.q0 s i dq x known, _, rfl, Zi (Tq.mq_mk hsm hi hp2 hdq hx), rfl, Zi (HC.out.mono Zo), HM.pick⟩))) : P := h
end
section
open Jb
def tqic (x : Int) : Array Value := #[.int .i64 x]
theorem tqic_sizes (A : List Int) : ∀ c ∈ A.map tqic, c.size = 1 := by
 intro c hc
 obtain ⟨x, _, rfl⟩ := List.mem_map.1 hc
 rfl
theorem tq_own {w : World} {b : Nat} {ds : List Int} (hb : Blk w b (rowsOf (ds.map tqic))) : IntsAt w (some ⟨b, 0, none⟩) ds := by
 refine .inr ⟨b, 0, rfl, hb.lt, fun j hj => ?_⟩
 rw [Nat.zero_add, hb.cell j]
 have := rows_at (tqic_sizes ds) (k := j) (j := 0) (c := tqic ds[j]) (by rw [List.getElem?_map, List.getElem?_eq_getElem hj]; rfl) Zd
 rw [Nat.one_mul, Nat.add_zero] at this
 rw [this, List.getD_eq_getElem?_getD, List.getElem?_eq_getElem hj]; rfl
theorem Tq.ne {w0 w : World} {X : List Nat} {b b' : Nat} {c : Array Value} {L : List (Nat × Array Value)} (h : Mem w0 X ((b, c) :: L) w) (hl : b' ∈ L.map (·.1)) : b ≠ b' := fun e => by
 subst e
 exact (List.nodup_cons.1 h.nod).1 hl
section
variable {Q : Exit → Act → World → Prop} {w w0 : World} {X : List Nat} {L : List (Nat × Array Value)} {oi : Oper} {d : Tmp} {a : Act} {R : Act → World → Prop}
theorem tqj_bs6 {t e : TypeId} {by_ : Nat} {x0 x1 x2 x3 x4 x5 : Operand} {v0 v1 v2 v3 v4 v5 : Int} {a2 : Nat → Act} (HM : Mem w0 X L w) (h : ∀ b w', Mem w0 X ((b, rowsOf ([v0, v1, v2, v3, v4, v5].map tqic)) :: L) w' → R (a2 b) w') (hd : oi.dst = some d := by rfl) (ho : oi.op = .buildSlice t 6 #[(0, x0), (1, x1), (2, x2), (3, x3), (4, x4), (5, x5)] := by rfl) (hT : elemB t e 1 by_ = true := by with_reducible assumption) (h0 : a.eval x0 = .int .i64 v0 := by (conv => lhs; whnf) <;> rfl) (h1 : a.eval x1 = .int .i64 v1 := by (conv => lhs; whnf) <;> rfl) (h2 : a.eval x2 = .int .i64 v2 := by (conv => lhs; whnf) <;> rfl) (h3 : a.eval x3 = .int .i64 v3 := by (conv => lhs; whnf) <;> rfl) (h4 : a.eval x4 = .int .i64 v4 := by (conv => lhs; whnf) <;> rfl) (h5 : a.eval x5 = .int .i64 v5 := by (conv => lhs; whnf) <;> rfl) (ha : ∀ b, ({ a with tmps := a.tmps.setIfInBounds d (.slice (some ⟨b, 0, none⟩) 6 6) } : Act) = a2 b := by intro b; ((try simp only [Za, Zx, Zy]) <;> rfl)) : Oper.wp Tryz.prog oi a w R Q := by
 obtain ⟨i, z, hE⟩ := elemT hT
 have hr := run_bs hE [.int .i64 v0, .int .i64 v1, .int .i64 v2, .int .i64 v3, .int .i64 v4, .int .i64 v5] (by simp [Value.cells]) Zs (parts := #[(0, .int .i64 v0), (1, .int .i64 v1), (2, .int .i64 v2), (3, .int .i64 v3), (4, .int .i64 v4), (5, .int .i64 v5)]) rfl w
 unfold Oper.wp execOp
 simp [ho, h0, h1, h2, h3, h4, h5] at hr ⊢
 simp only [hr, Result.andThen]
 rw [Oper.upon_value, hd]
 have h9 := h _ _ (HM.new (rowsOf ([v0, v1, v2, v3, v4, v5].map tqic)) e)
 rw [← ha] at h9
 exact h9
end
section
variable {P : Program} {md : Region.Mode} {ops : Array Oper} {Q : Exit → Act → World → Prop} {S1 S2 S3 : World → Prop} {K : List Nat}
theorem tqmore_L (h : ∀ w, S3 w → S2 w) : ∀ (fuel : Nat) (listed : Array Bool) (a : Act) (w : World), wpAnyL P md ops Q S1 S3 K fuel listed a w → wpAnyL P md ops Q S1 S2 K fuel listed a w
 | 0, _, _, _, h0 => h0
 | fuel + 1, listed, a, w, h0 => ⟨h0.1, fun i hi => wpOp_mono (fun a' w' h' => ⟨⟨h'.1.1, fun n => h _ (h'.1.2 n)⟩, tqmore_L h fuel _ a' w' h'.2⟩) (h0.2 i hi)⟩
end
section
variable {md : Region.Mode} {ops : Array Oper} {Q : Exit → Act → World → Prop} {S1 : World → Prop} {K : List Nat} {w0 w : World} {X : List Nat} {L L' : List (Nat × Array Value)} {fuel : Nat} {listed : Array Bool} {a : Act}
theorem tqk_more (L' : List (Nat × Array Value)) (h : wpAnyL Tryz.prog md ops Q S1 (fun w' => Mem w0 X L' w') K fuel listed a w) (hs : Sub L L' := by (repeat (first | exact Sub.nil | exact Sub.refl _ | refine Sub.keep ?_ | refine Sub.skip ?_))) : wpAnyL Tryz.prog md ops Q S1 (fun w' => Mem w0 X L w') K fuel listed a w :=
 tqmore_L (fun _ hm => hm.less hs) _ _ _ _ h
end
theorem msrc_at (w : World) : Calls Tryz.prog 21 #[] w fun e w' => ∃ b off cs, e = .returned (.slice (some ⟨b, off, none⟩) 4 4) ∧ Hid (∀ (k : Nat) (s : ByteArray), Tq.srcs[k]? = some s → LA 9 cs (off + k) (.string s)) ∧ Mem w [] [(b, cs)] w' := by
 refine (msrc_any w).mono ?_
 rintro e w' ⟨b, rfl, HM⟩
 refine ⟨b, 0, _, rfl, Zi (fun k s hs => ?_), HM⟩
 have hv := Tq.V_at hs
 have h9 := rows_at (n := 1) (l := V1 (Tq.V Tq.srcs)) (k := k) (j := 0) (c := #[.string s]) (by intro c hc; obtain ⟨v, _, rfl⟩ := List.mem_map.1 hc; rfl) (by unfold V1; rw [List.getElem?_map, hv]; rfl) Zd
 refine LA.one Zk ?_
 rw [Nat.zero_add]
 rw [Nat.one_mul, Nat.add_zero] at h9
 exact h9
structure Tq.MQ (day known : Int) (q : JQ) : Prop where
 src : q.src ∈ Tq.srcs
 ins : q.ins ∈ Tq.papers
 cur : q.cur ∈ Tq.codes
 day0 : max 0 (day - 5) ≤ q.day
 day1 : q.day ≤ max 0 day
 kn : q.kn = known
 pr : q.vd = false → ∃ x, q.prc = rr x ∧ Tq.MP x
 no : q.vd = true → q.prc = Rr.zero
def Tq.q0 (s i : ByteArray) (d : Int) (x : Rat) (k : Int) : JQ := ⟨s, i, { data := #[85, 83, 68] }, d, rr x, k, false⟩
theorem Tq.q0_bld (s i : ByteArray) (d : Int) (x : Rat) (k : Int) (h : Tq.MP x) (w : World) : (Instr.build 40 #[(0, .string s), (1, .string i), (2, .string { data := #[85, 83, 68] }), (3, .int .i64 d), (4, .agg (Rt.qA x)), (5, .int .i64 k)]).run Tryz.prog w = .ok (.agg (Tq.q0 s i d x k).c) w :=
 JQ.bld (parts := #[(0, .string s), (1, .string i), (2, .string { data := #[85, 83, 68] }), (3, .int .i64 d), (4, .agg (Rt.qA x)), (5, .int .i64 k)]) (r := Tq.q0 s i d x k) (by simp [Value.cells, qA_size]) (by rw [JQ.rows]; show _ = rowsOf [_, _, _, _, (rr x).c, _, _]; rw [rr_c h.1.fit]; rfl) w
theorem Tq.mq_mk {s i : ByteArray} {day known p d : Int} {x : Rat} (hs : s ∈ Tq.srcs) (hi : i ∈ Tq.papers) (hp : 0 ≤ p ∧ p ≤ 5) (hd : d = max 0 (day - p)) (hx : Tq.MP x) : Tq.MQ day known (Tq.q0 s i d x known) :=
 ⟨hs, hi, .head _, by show _ ≤ d; omega, by show d ≤ _; omega, rfl, fun _ => ⟨x, rfl, hx⟩, fun e => by cases e⟩
theorem Tq.MQ.setc {day known : Int} {q : JQ} (h : Tq.MQ day known q) {c : ByteArray} (hc : c ∈ Tq.codes) : Tq.MQ day known { q with cur := c } := ⟨h.src, h.ins, hc, h.day0, h.day1, h.kn, h.pr, h.no⟩
theorem Tq.MQ.void {day known : Int} {q : JQ} (h : Tq.MQ day known q) : Tq.MQ day known { q with vd := true, prc := Rr.zero } := ⟨h.src, h.ins, h.cur, h.day0, h.day1, h.kn, fun e => by (cases e), fun _ => rfl⟩
theorem JQ.s_prc0 (x : JQ) : SA 35 x.c 4 (.agg (Bg.rZ 0 0)) { x with prc := Rr.zero }.c := by
 have h := JQ.s_prc x Rr.zero
 rw [Rr.zero_c] at h
 rw [rZ_ratA]
 exact h
def MQPost (W : World) (tb m : Nat) (day known : Int) (w : World) (e : Ending) (w' : World) : Prop :=
 ∃ q : JQ, e = .returned (.agg q.c) ∧ Tq.MQ day known q ∧ Tp W tb (m + 10) w' ∧ w.grownBy w' (some tb)
set_option maxRecDepth 100000 in
theorem mquote_any (W : World) (tb m : Nat) (day known : Int) (hd0 : 0 ≤ day) (hd1 : day ≤ 73048) (w : World) (hT : Tp W tb m w) (hm : m ≤ 800000000) :
    Calls Tryz.prog 8 #[.pointer (some ⟨tb, 0, none⟩), .int .i64 day, .int .i64 known] w (MQPost W tb m day known w) := by
 obtain ⟨cs, hb, hc, h0, hle0⟩ := hT
 have HM := Mem.start1 w hb
 have HC := Zi hc
 have H0 := Zi h0
 have hle : ∀ b ∈ [tb], W.heap.size ≤ b := by simpa using hle0
 have za0 := JQ.za
 have hz0 := za_rat
 have eli : elemB 22 3 1 8 = true := by kernel_rfl
 clear hb hc h0
 go_enter Tryz.func8, Tryz.ntmps8
 go_upto_region 1 with (first | ((with_reducible refine g_ld ?_); refine a_ld HM ?_) | ((with_reducible refine g_st ?_); refine a_st HM ?_; clear HM; intro w1 HM) | ((with_reducible refine g_al ?_); refine a_al HM ?_; clear HM; intro bk w1 HM) | ((with_reducible refine g_bld ?_); refine a_bld ?_))
 obtain ⟨b6, rfl⟩ := HM.nm0
 go_cut [7] (fun v wc => ∃ (b7 : Nat) (q : JQ) (c : Array Value), v = .pointer (some ⟨b7, 0, none⟩) ∧ Hid (Tq.MQ day known q) ∧ q.vd = false ∧ Hid (TapeC W (m + 7) c) ∧ Mem w [tb] [(b7, q.c), (b6, JQ.zero.c), (tb, c)] wc)
 case first =>
  refine start_M2 [] HM ((Sub.keep Sub.nil)) Zk (fun w0x H9 => ?_)
  replace HM := H9; clear H9
  refine k_mv 1 (heldE HM) ?_
  refine k_mv 5 (heldE HM) ?_
  refine k_mv 7 (heldE HM) ?_
  refine k_mv 8 (heldE HM) ?_
  refine k_mv 13 (heldE HM) ?_
  refine k_mv 15 (heldE HM) ?_
  refine three_L (i := 0) (j := 9) (k := 17) Zk (op_L rfl Zv ?_) (op_L rfl Zv ?_) (op_L rfl Zv ?_)
  ·refine o_callg (msrc_at _) rfl ?_ ?_; (focus (refine h_call0 (ts := ?_) ?_ Zk; rotate_left 1; rfl)); rintro e9 w1 ⟨bs, off, cv, rfl, HL, hB9⟩; replace HM := HM.join hB9; clear hB9; simp only [List.cons_append, List.nil_append] at HM; refine ⟨_, rfl, ?_⟩
   refine ⟨(heldE HM), ?_⟩; ((try simp only [Za]); (try simp only [Zx]); (try simp only [Zy]))
   refine tqk_more ((bs, cv) :: [(b6, JQ.zero.c)]) ?_
   refine three_L (i := 2) (j := 9) (k := 17) Zk (op_L rfl Zv ?_) (op_L rfl Zv ?_) (op_L rfl Zv ?_)
   ·refine o_callg (next_any W tb _ 4 _ (HM.tp Zl HC.out H0.out hle) Zo Zo Zo) rfl ?_ ?_; (focus (refine h_call2 (ts := ?_) (x1 := ?_) (x2 := ?_) ?_ Zk ?_ ?_; rotate_left 3; (focus rfl); (focus rfl); rfl)); rintro e9 w1 ⟨v, rfl, v0, v1, ⟨c1, hb1, hc1, -, -⟩, hg9⟩; replace HM := HM.put (c' := c1) Zg hb1 (Only.of_grown hg9); clear hg9 hb1; replace HC := Zi hc1; clear hc1; refine ⟨_, rfl, ?_⟩; obtain ⟨k, rfl⟩ : ∃ k : Nat, v = k := ⟨v.toNat, by omega⟩; obtain ⟨s, hs⟩ : ∃ s, Tq.srcs[k]? = some s := ⟨_, List.getElem?_eq_getElem (show k < Tq.srcs.length by show k < 4; omega)⟩; have ls := HL.out k s hs; have hsm := List.mem_of_getElem? hs
    refine ⟨(heldE HM), ?_⟩; ((try simp only [Za]); (try simp only [Zx]); (try simp only [Zy]))
    refine k_ia 3 (heldE HM) ?_
    refine k_ld 4 [] (heldE HM) ?_
    refine three_L (i := 6) (j := 9) (k := 17) Zk (op_L rfl Zv ?_) (op_L rfl Zv ?_) (op_L rfl Zv ?_)
    ·refine o_callg (mpaper_any W tb _ _ (HM.tp Zl HC.out H0.out hle) Zo) rfl ?_ ?_; (focus (refine h_call1 (ts := ?_) (x1 := ?_) ?_ Zk ?_; rotate_left 2; (focus rfl); rfl)); rintro e9 w1 ⟨i, rfl, hi, ⟨c1, hb1, hc1, -, -⟩, hg9⟩; replace HM := HM.put (c' := c1) Zg hb1 (Only.of_grown hg9); clear hg9 hb1; replace HC := Zi hc1; clear hc1; refine ⟨_, rfl, ?_⟩
     refine ⟨(heldE HM), ?_⟩; ((try simp only [Za]); (try simp only [Zx]); (try simp only [Zy]))
     refine j_two 9 17 ?_ ?_
     ·refine tqj_bs6 HM ?_ (hT := eli); clear HM; intro bl w1 HM; have hne := Tq.ne HM (b' := tb) Zs
      exact z9_93
     ·refine j_al HM ?_; clear HM; intro bk w1 HM
      refine ⟨(heldE HM), ?_⟩
      exact z9_94
    ·refine tqj_bs6 HM ?_ (hT := eli); clear HM; intro bl w1 HM; have hne := Tq.ne HM (b' := tb) Zs
     refine ⟨(heldE HM), ?_⟩; ((try simp only [Za]); (try simp only [Zx]); (try simp only [Zy]))
     exact z9_95
    ·refine j_al HM ?_; clear HM; intro bk w1 HM
     refine ⟨(heldE HM), ?_⟩
     exact z9_96
   ·refine tqj_bs6 HM ?_ (hT := eli); clear HM; intro bl w1 HM; have hne := Tq.ne HM (b' := tb) Zs
    refine ⟨(heldE HM), ?_⟩; ((try simp only [Za]); (try simp only [Zx]); (try simp only [Zy]))
    exact z9_97
   ·refine j_al HM ?_; clear HM; intro bk w1 HM
    refine ⟨(heldE HM), ?_⟩
    exact z9_98
  ·refine tqj_bs6 HM ?_ (hT := eli); clear HM; intro bl w1 HM; have hne := Tq.ne HM (b' := tb) Zs
   refine ⟨(heldE HM), ?_⟩; ((try simp only [Za]); (try simp only [Zx]); (try simp only [Zy]))
   refine j_two 0 17 ?_ ?_
   ·refine o_callg (msrc_at _) rfl ?_ ?_; (focus (refine h_call0 (ts := ?_) ?_ Zk; rotate_left 1; rfl)); rintro e9 w1 ⟨bs, off, cv, rfl, HL, hB9⟩; replace HM := HM.join hB9; clear hB9; simp only [List.cons_append, List.nil_append] at HM; refine ⟨_, rfl, ?_⟩
    refine ⟨(heldE HM), ?_⟩; ((try simp only [Za]); (try simp only [Zx]); (try simp only [Zy]))
    refine tqk_more ((bs, cv) :: [(b6, JQ.zero.c)]) ?_
    exact z9_97
   ·refine j_al HM ?_; clear HM; intro bk w1 HM
    refine ⟨(heldE HM), ?_⟩
    exact z9_99
  ·refine j_al HM ?_; clear HM; intro bk w1 HM
   refine ⟨(heldE HM), ?_⟩
   refine j_two 0 9 ?_ ?_
   ·refine o_callg (msrc_at _) rfl ?_ ?_; (focus (refine h_call0 (ts := ?_) ?_ Zk; rotate_left 1; rfl)); rintro e9 w1 ⟨bs, off, cv, rfl, HL, hB9⟩; replace HM := HM.join hB9; clear hB9; simp only [List.cons_append, List.nil_append] at HM; refine ⟨_, rfl, ?_⟩
    refine ⟨(heldE HM), ?_⟩; ((try simp only [Za]); (try simp only [Zx]); (try simp only [Zy]))
    refine tqk_more ((bs, cv) :: [(b6, JQ.zero.c)]) ?_
    exact z9_98
   ·refine tqj_bs6 HM ?_ (hT := eli); clear HM; intro bl w1 HM; have hne := Tq.ne HM (b' := tb) Zs
    refine ⟨(heldE HM), ?_⟩; ((try simp only [Za]); (try simp only [Zx]); (try simp only [Zy]))
    exact z9_99
 case rest =>
  clear HM HC
  obtain ⟨b7, q, c, rfl, HQ, hv, HC, HM⟩ := hcut
  have l1 := (JQ.f_ins q).la
  obtain ⟨b1, hb1⟩ : ∃ b, b = (q.ins == { data := #[85, 83, 68, 71, 66, 80] }) := ⟨_, rfl⟩
  obtain ⟨b2, hb2⟩ : ∃ b, b = (q.ins == { data := #[69, 85, 82, 85, 83, 68] }) := ⟨_, rfl⟩
  have hs1 := Jb.str_l q.ins { data := #[85, 83, 68, 71, 66, 80] }
  have hs2 := Jb.str_l q.ins { data := #[69, 85, 82, 85, 83, 68] }
  have t1 : ({ data := #[85, 83, 68, 71, 66, 80] } : ByteArray).toList = [85, 83, 68, 71, 66, 80] := by decide +kernel
  have t2 : ({ data := #[69, 85, 82, 85, 83, 68] } : ByteArray).toList = [69, 85, 82, 85, 83, 68] := by decide +kernel
  rw [← hb1, t1] at hs1
  rw [← hb2, t2] at hs2
  clear hb1 hb2 t1 t2
  cases b1 with
  | true =>
   have sg := JQ.s_cur q { data := #[71, 66, 80] }
   go_step
   go_wp2_with (first | ((with_reducible refine g_ld ?_); refine a_ld HM ?_) | ((with_reducible refine g_st ?_); refine a_st HM ?_; clear HM; intro w1 HM) | ((with_reducible refine g_al ?_); refine a_al HM ?_; clear HM; intro bk w1 HM) | ((with_reducible refine g_bld ?_); refine a_bld ?_))
   (refine (chance_any W tb _ 1 9 _ (HM.tp Zl HC.out H0.out hle) Zo Zo Zo).mono ?_; rintro e9 w2 ⟨v, rfl, ⟨c1, hb1, hc1, -, -⟩, hg⟩; replace HM := HM.put (c' := c1) Zg hb1 (Only.of_grown hg); clear hg hb1; replace HC := Zi hc1; clear hc1); have s1 := JQ.s_vd { q with cur := { data := #[71, 66, 80] } } true; have s2 := JQ.s_prc0 { ({ q with cur := { data := #[71, 66, 80] } }) with vd := true }; have sZ := JQ.sa { q with cur := { data := #[71, 66, 80] } } JQ.zero.size; have lZ := JQ.la { q with cur := { data := #[71, 66, 80] } }; have sY := JQ.sa { ({ q with cur := { data := #[71, 66, 80] } }) with vd := true, prc := Rr.zero } JQ.zero.size; have lY := JQ.la { ({ q with cur := { data := #[71, 66, 80] } }) with vd := true, prc := Rr.zero }; (cases v; (focus (go_wp2_with (first | ((with_reducible refine g_ld ?_); refine a_ld HM ?_) | ((with_reducible refine g_st ?_); refine a_st HM ?_; clear HM; intro w1 HM) | ((with_reducible refine g_al ?_); refine a_al HM ?_; clear HM; intro bk w1 HM) | ((with_reducible refine g_bld ?_); refine a_bld ?_)); (refine bodyPost_ret (r_c rfl rfl (HM.get Zl) lZ) rfl ?_; obtain ⟨hT, hg⟩ := HM.done Zl HC.out H0.out hle0; exact ⟨{ q with cur := { data := #[71, 66, 80] } }, rfl, (HQ.out.setc (c := { data := #[71, 66, 80] }) (by unfold Tq.codes; simp)), hT.mono Zo, hg⟩))); (focus (go_wp2_with (first | ((with_reducible refine g_bld ?_); refine a_rbl (v := .agg (Bg.rZ 0 0)) ?_ (hy := h_bgz rfl (by with_reducible exact run_build_rat0))) | (first | ((with_reducible refine g_ld ?_); refine a_ld HM ?_) | ((with_reducible refine g_st ?_); refine a_st HM ?_; clear HM; intro w1 HM) | ((with_reducible refine g_al ?_); refine a_al HM ?_; clear HM; intro bk w1 HM) | ((with_reducible refine g_bld ?_); refine a_bld ?_))); (refine bodyPost_ret (r_c rfl rfl (HM.get Zl) lY) rfl ?_; obtain ⟨hT, hg⟩ := HM.done Zl HC.out H0.out hle0; exact ⟨_, rfl, Tq.MQ.void (HQ.out.setc (c := { data := #[71, 66, 80] }) (by unfold Tq.codes; simp)), hT.mono Zo, hg⟩))))
  | false =>
   cases b2 with
   | true =>
    go_step
    go_wp2_with (first | ((with_reducible refine g_ld ?_); refine a_ld HM ?_) | ((with_reducible refine g_st ?_); refine a_st HM ?_; clear HM; intro w1 HM) | ((with_reducible refine g_al ?_); refine a_al HM ?_; clear HM; intro bk w1 HM) | ((with_reducible refine g_bld ?_); refine a_bld ?_))
    (refine (chance_any W tb _ 1 9 _ (HM.tp Zl HC.out H0.out hle) Zo Zo Zo).mono ?_; rintro e9 w2 ⟨v, rfl, ⟨c1, hb1, hc1, -, -⟩, hg⟩; replace HM := HM.put (c' := c1) Zg hb1 (Only.of_grown hg); clear hg hb1; replace HC := Zi hc1; clear hc1); have s1 := JQ.s_vd q true; have s2 := JQ.s_prc0 { (q) with vd := true }; have sZ := JQ.sa q JQ.zero.size; have lZ := JQ.la q; have sY := JQ.sa { (q) with vd := true, prc := Rr.zero } JQ.zero.size; have lY := JQ.la { (q) with vd := true, prc := Rr.zero }; (cases v; (focus (go_wp2_with (first | ((with_reducible refine g_ld ?_); refine a_ld HM ?_) | ((with_reducible refine g_st ?_); refine a_st HM ?_; clear HM; intro w1 HM) | ((with_reducible refine g_al ?_); refine a_al HM ?_; clear HM; intro bk w1 HM) | ((with_reducible refine g_bld ?_); refine a_bld ?_)); (refine bodyPost_ret (r_c rfl rfl (HM.get Zl) lZ) rfl ?_; obtain ⟨hT, hg⟩ := HM.done Zl HC.out H0.out hle0; exact ⟨q, rfl, HQ.out, hT.mono Zo, hg⟩))); (focus (go_wp2_with (first | ((with_reducible refine g_bld ?_); refine a_rbl (v := .agg (Bg.rZ 0 0)) ?_ (hy := h_bgz rfl (by with_reducible exact run_build_rat0))) | (first | ((with_reducible refine g_ld ?_); refine a_ld HM ?_) | ((with_reducible refine g_st ?_); refine a_st HM ?_; clear HM; intro w1 HM) | ((with_reducible refine g_al ?_); refine a_al HM ?_; clear HM; intro bk w1 HM) | ((with_reducible refine g_bld ?_); refine a_bld ?_))); (refine bodyPost_ret (r_c rfl rfl (HM.get Zl) lY) rfl ?_; obtain ⟨hT, hg⟩ := HM.done Zl HC.out H0.out hle0; exact ⟨_, rfl, Tq.MQ.void HQ.out, hT.mono Zo, hg⟩))))
   | false =>
    go_step
    go_wp2_with (first | ((with_reducible refine g_ld ?_); refine a_ld HM ?_) | ((with_reducible refine g_st ?_); refine a_st HM ?_; clear HM; intro w1 HM) | ((with_reducible refine g_al ?_); refine a_al HM ?_; clear HM; intro bk w1 HM) | ((with_reducible refine g_bld ?_); refine a_bld ?_))
    (refine (chance_any W tb _ 1 4 _ (HM.tp Zl HC.out H0.out hle) Zo Zo Zo).mono ?_; rintro e9 w2 ⟨u, rfl, ⟨c1, hb1, hc1, -, -⟩, hg⟩; replace HM := HM.put (c' := c1) Zg hb1 (Only.of_grown hg); clear hg hb1; replace HC := Zi hc1; clear hc1)
    cases u with
    | false =>
     go_wp2_with (first | ((with_reducible refine g_ld ?_); refine a_ld HM ?_) | ((with_reducible refine g_st ?_); refine a_st HM ?_; clear HM; intro w1 HM) | ((with_reducible refine g_al ?_); refine a_al HM ?_; clear HM; intro bk w1 HM) | ((with_reducible refine g_bld ?_); refine a_bld ?_))
     (refine (chance_any W tb _ 1 9 _ (HM.tp Zl HC.out H0.out hle) Zo Zo Zo).mono ?_; rintro e9 w2 ⟨v, rfl, ⟨c1, hb1, hc1, -, -⟩, hg⟩; replace HM := HM.put (c' := c1) Zg hb1 (Only.of_grown hg); clear hg hb1; replace HC := Zi hc1; clear hc1); have s1 := JQ.s_vd q true; have s2 := JQ.s_prc0 { (q) with vd := true }; have sZ := JQ.sa q JQ.zero.size; have lZ := JQ.la q; have sY := JQ.sa { (q) with vd := true, prc := Rr.zero } JQ.zero.size; have lY := JQ.la { (q) with vd := true, prc := Rr.zero }; (cases v; (focus (go_wp2_with (first | ((with_reducible refine g_ld ?_); refine a_ld HM ?_) | ((with_reducible refine g_st ?_); refine a_st HM ?_; clear HM; intro w1 HM) | ((with_reducible refine g_al ?_); refine a_al HM ?_; clear HM; intro bk w1 HM) | ((with_reducible refine g_bld ?_); refine a_bld ?_)); (refine bodyPost_ret (r_c rfl rfl (HM.get Zl) lZ) rfl ?_; obtain ⟨hT, hg⟩ := HM.done Zl HC.out H0.out hle0; exact ⟨q, rfl, HQ.out, hT.mono Zo, hg⟩))); (focus (go_wp2_with (first | ((with_reducible refine g_bld ?_); refine a_rbl (v := .agg (Bg.rZ 0 0)) ?_ (hy := h_bgz rfl (by with_reducible exact run_build_rat0))) | (first | ((with_reducible refine g_ld ?_); refine a_ld HM ?_) | ((with_reducible refine g_st ?_); refine a_st HM ?_; clear HM; intro w1 HM) | ((with_reducible refine g_al ?_); refine a_al HM ?_; clear HM; intro bk w1 HM) | ((with_reducible refine g_bld ?_); refine a_bld ?_))); (refine bodyPost_ret (r_c rfl rfl (HM.get Zl) lY) rfl ?_; obtain ⟨hT, hg⟩ := HM.done Zl HC.out H0.out hle0; exact ⟨_, rfl, Tq.MQ.void HQ.out, hT.mono Zo, hg⟩))))
    | true =>
     go_wp2_with (first | ((with_reducible refine g_ld ?_); refine a_ld HM ?_) | ((with_reducible refine g_st ?_); refine a_st HM ?_; clear HM; intro w1 HM) | ((with_reducible refine g_al ?_); refine a_al HM ?_; clear HM; intro bk w1 HM) | ((with_reducible refine g_bld ?_); refine a_bld ?_))
     refine (mcode_any W tb _ _ (HM.tp Zl HC.out H0.out hle) Zo).mono ?_
     rintro e9 w2 ⟨cc, rfl, hcc, ⟨c1, hb1, hc1, -, -⟩, hg9⟩
     replace HM := HM.put (c' := c1) Zg hb1 (Only.of_grown hg9)
     clear hg9 hb1
     replace HC := Zi hc1
     clear hc1
     have sg := JQ.s_cur q cc
     go_wp2_with (first | ((with_reducible refine g_ld ?_); refine a_ld HM ?_) | ((with_reducible refine g_st ?_); refine a_st HM ?_; clear HM; intro w1 HM) | ((with_reducible refine g_al ?_); refine a_al HM ?_; clear HM; intro bk w1 HM) | ((with_reducible refine g_bld ?_); refine a_bld ?_))
     (refine (chance_any W tb _ 1 9 _ (HM.tp Zl HC.out H0.out hle) Zo Zo Zo).mono ?_; rintro e9 w2 ⟨v, rfl, ⟨c1, hb1, hc1, -, -⟩, hg⟩; replace HM := HM.put (c' := c1) Zg hb1 (Only.of_grown hg); clear hg hb1; replace HC := Zi hc1; clear hc1); have s1 := JQ.s_vd { q with cur := cc } true; have s2 := JQ.s_prc0 { ({ q with cur := cc }) with vd := true }; have sZ := JQ.sa { q with cur := cc } JQ.zero.size; have lZ := JQ.la { q with cur := cc }; have sY := JQ.sa { ({ q with cur := cc }) with vd := true, prc := Rr.zero } JQ.zero.size; have lY := JQ.la { ({ q with cur := cc }) with vd := true, prc := Rr.zero }; (cases v; (focus (go_wp2_with (first | ((with_reducible refine g_ld ?_); refine a_ld HM ?_) | ((with_reducible refine g_st ?_); refine a_st HM ?_; clear HM; intro w1 HM) | ((with_reducible refine g_al ?_); refine a_al HM ?_; clear HM; intro bk w1 HM) | ((with_reducible refine g_bld ?_); refine a_bld ?_)); (refine bodyPost_ret (r_c rfl rfl (HM.get Zl) lZ) rfl ?_; obtain ⟨hT, hg⟩ := HM.done Zl HC.out H0.out hle0; exact ⟨{ q with cur := cc }, rfl, (HQ.out.setc hcc), hT.mono Zo, hg⟩))); (focus (go_wp2_with (first | ((with_reducible refine g_bld ?_); refine a_rbl (v := .agg (Bg.rZ 0 0)) ?_ (hy := h_bgz rfl (by with_reducible exact run_build_rat0))) | (first | ((with_reducible refine g_ld ?_); refine a_ld HM ?_) | ((with_reducible refine g_st ?_); refine a_st HM ?_; clear HM; intro w1 HM) | ((with_reducible refine g_al ?_); refine a_al HM ?_; clear HM; intro bk w1 HM) | ((with_reducible refine g_bld ?_); refine a_bld ?_))); (refine bodyPost_ret (r_c rfl rfl (HM.get Zl) lY) rfl ?_; obtain ⟨hT, hg⟩ := HM.done Zl HC.out H0.out hle0; exact ⟨_, rfl, Tq.MQ.void (HQ.out.setc hcc), hT.mono Zo, hg⟩))))
end
end Go.Proofs.YtiekmabiecalbaaGreatDoor
