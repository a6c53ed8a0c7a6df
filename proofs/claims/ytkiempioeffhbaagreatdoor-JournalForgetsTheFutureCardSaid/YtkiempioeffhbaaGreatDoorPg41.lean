/- Walks. -/
import Derived.Test.YtkiempioeffhbaaGreatDoorPg40
namespace Go.Proofs.YtkiempioeffhbaaGreatDoor
set_option maxHeartbeats 16000000
open Go.RowKit
set_option maxRecDepth 8000
set_option linter.unusedSimpArgs false
set_option linter.unusedVariables false
section
theorem YPgbo12 {P : Prop} (h : P := by
 refine j_one 30 fun K9 hK9 => ?_
 refine j_st HM ?_; clear HM; intro w1 HM
 refine hK9 _ _ (heldE HM) ?_; clear hK9 K9
 refine wpAnyL_done Zk ?_ _
 (exact hQ _ _ _ _ _ _ _ _ _ _ _ _ _ _ _ _ _ _ _ _ _ _ _ _ _ _ _ _ _ _ _ _ _ _ HOK HC HM.pick)) : P := h
theorem YPgbo1 {P : Prop} (h : P := by
 refine j_one 28 fun K9 hK9 => ?_
 refine o_callg (sask_new (tb := tb) HM Zl HC.out H0.out hle (⟨k2 111 (97 + k), acc, f.nm, x.nm, 0, 0, 0, (max 0 ((day - 1 + v) * 1440 + z)), (l.length : Int) + 1, false⟩ : JO) rfl rfl) rfl ?_ ?_; (focus (refine h_call2 (ts := ?_) (x1 := ?_) (x2 := ?_) ?_ Zk ?_ ?_; rotate_left 3; (focus rfl); (focus rfl); rfl)); rintro e9 w1 ⟨kd, am, un, rfl, hs, ⟨c1, hc1, hb1, hg9⟩⟩; replace HM := HM.put (c' := c1) Zg hb1 hg9; clear hg9 hb1; replace HC := Zi hc1; clear hc1; refine ⟨_, rfl, ?_⟩; have HAT := at_in hd0 hd1 v0 v1 z0 z1; have HOK := Zi (ask_ok Zo hk.out hfn hxn HAT.1 HAT.2 HL1.out HJ.out.kn hs.out); have so := (JO.mk (k2 111 (97 + k)) acc f.nm x.nm kd am un (max 0 ((day - 1 + v) * 1440 + z)) ((l.length : Int) + 1) false).sa JO.zero.size
 refine hK9 _ _ (heldE HM) ?_; clear hK9 K9; ((try simp only [Za]); (try simp only [Zx]); (try simp only [Zy]))
 exact YPgbo12) : P := h
theorem YPgbo6 {P : Prop} (h : P := by
 refine j_two 28 29 ?_ ?_
 ·refine o_callg (sask_new (tb := tb) HM Zl HC.out H0.out hle (⟨k2 111 (97 + k), acc, f.nm, x.nm, 0, 0, 0, (max 0 ((day - 1 + v) * 1440 + z)), (l.length : Int) + 1, false⟩ : JO) rfl rfl) rfl ?_ ?_; (focus (refine h_call2 (ts := ?_) (x1 := ?_) (x2 := ?_) ?_ Zk ?_ ?_; rotate_left 3; (focus rfl); (focus rfl); rfl)); rintro e9 w1 ⟨kd, am, un, rfl, hs, ⟨c1, hc1, hb1, hg9⟩⟩; replace HM := HM.put (c' := c1) Zg hb1 hg9; clear hg9 hb1; replace HC := Zi hc1; clear hc1; refine ⟨_, rfl, ?_⟩; have HAT := at_in hd0 hd1 v0 v1 z0 z1; have HOK := Zi (ask_ok Zo hk.out hfn hxn HAT.1 HAT.2 HL1.out HJ.out.kn hs.out); have so := (JO.mk (k2 111 (97 + k)) acc f.nm x.nm kd am un (max 0 ((day - 1 + v) * 1440 + z)) ((l.length : Int) + 1) false).sa JO.zero.size
  refine ⟨(heldE HM), ?_⟩; ((try simp only [Za]); (try simp only [Zx]); (try simp only [Zy]))
  refine j_one 29 fun K9 hK9 => ?_
  refine j_al HM ?_; clear HM; intro bk w1 HM
  refine hK9 _ _ (heldE HM) ?_; clear hK9 K9
  exact YPgbo12
 ·refine j_al HM ?_; clear HM; intro bk w1 HM
  refine ⟨(heldE HM), ?_⟩
  exact YPgbo1) : P := h
theorem YPgbo3 {P : Prop} (h : P := by
 refine o_callg (snext_inf W tb _ (1440) _ (HM.tp Zl HC.out H0.out hle) Zo Zo) rfl ?_ ?_; (focus (refine h_call2 (ts := ?_) (x1 := ?_) (x2 := ?_) ?_ Zk ?_ ?_; rotate_left 3; (focus rfl); (focus rfl); rfl)); rintro e9 w1 ⟨z, rfl, z0, z1, ⟨c1, hb1, hc1, -, -⟩, hg9⟩; replace HM := HM.put (c' := c1) Zg hb1 (Only.of_grown hg9); clear hg9 hb1; replace HC := Zi hc1; clear hc1; refine ⟨_, rfl, ?_⟩; have HB := fun w => JO.bld (parts := #[(0, .string (({ data := #[111] } : ByteArray) ++ Tx.bytes [97 + k])), (1, .agg acc.c), (2, .string f.nm), (3, .string x.nm), (7, .int .i64 (max 0 ((day - 1 + v) * 1440 + z))), (8, .int .i64 ((l.length : Int) + 1))]) (r := (⟨k2 111 (97 + k), acc, f.nm, x.nm, 0, 0, 0, (max 0 ((day - 1 + v) * 1440 + z)), (l.length : Int) + 1, false⟩ : JO)) (by simp [Value.cells, JK.size]) (by rw [JO.rows]; rfl) w
 refine ⟨(heldE HM), ?_⟩; ((try simp only [Za]); (try simp only [Zx]); (try simp only [Zy]))
 refine k_add 22 (heldE HM) ?_
 refine k_pv 23 (heldE HM) ?_
 refine t_pure (i := 27) (v := .agg (JO.c (⟨k2 111 (97 + k), acc, f.nm, x.nm, 0, 0, 0, (max 0 ((day - 1 + v) * 1440 + z)), (l.length : Int) + 1, false⟩ : JO))) rfl rfl Zk (fun _ _ _ h => h) (heldE HM) Zv ?_ ?_; (focus (exact h_bg6 rfl Zw Zw Zw Zw Zw Zw HB)); ((try simp only [Za]); (try simp only [Zx]); (try simp only [Zy]))
 exact YPgbo6) : P := h
theorem YPgbo11 {P : Prop} (h : P := by
 refine t_pure (i := 27) (v := .agg (JO.c (⟨k2 111 (97 + k), acc, f.nm, x.nm, 0, 0, 0, (max 0 ((day - 1 + v) * 1440 + z)), (l.length : Int) + 1, false⟩ : JO))) rfl rfl Zk (fun _ _ _ h => h) (heldE HM) Zv ?_ ?_; (focus (exact h_bg6 rfl Zw Zw Zw Zw Zw Zw HB)); ((try simp only [Za]); (try simp only [Zx]); (try simp only [Zy]))
 exact YPgbo1) : P := h
theorem YPgbo0 {P : Prop} (h : P := by
 refine j_one 21 fun K9 hK9 => ?_
 refine o_callg (snext_inf W tb _ (1440) _ (HM.tp Zl HC.out H0.out hle) Zo Zo) rfl ?_ ?_; (focus (refine h_call2 (ts := ?_) (x1 := ?_) (x2 := ?_) ?_ Zk ?_ ?_; rotate_left 3; (focus rfl); (focus rfl); rfl)); rintro e9 w1 ⟨z, rfl, z0, z1, ⟨c1, hb1, hc1, -, -⟩, hg9⟩; replace HM := HM.put (c' := c1) Zg hb1 (Only.of_grown hg9); clear hg9 hb1; replace HC := Zi hc1; clear hc1; refine ⟨_, rfl, ?_⟩; have HB := fun w => JO.bld (parts := #[(0, .string (({ data := #[111] } : ByteArray) ++ Tx.bytes [97 + k])), (1, .agg acc.c), (2, .string f.nm), (3, .string x.nm), (7, .int .i64 (max 0 ((day - 1 + v) * 1440 + z))), (8, .int .i64 ((l.length : Int) + 1))]) (r := (⟨k2 111 (97 + k), acc, f.nm, x.nm, 0, 0, 0, (max 0 ((day - 1 + v) * 1440 + z)), (l.length : Int) + 1, false⟩ : JO)) (by simp [Value.cells, JK.size]) (by rw [JO.rows]; rfl) w
 refine hK9 _ _ (heldE HM) ?_; clear hK9 K9; ((try simp only [Za]); (try simp only [Zx]); (try simp only [Zy]))
 refine k_add 22 (heldE HM) ?_
 refine k_pv 23 (heldE HM) ?_
 exact YPgbo11) : P := h
theorem YPgbo4 {P : Prop} (h : P := by
 refine j_one 17 fun K9 hK9 => ?_
 refine o_callg (snext_inf W tb _ (3) _ (HM.tp Zl HC.out H0.out hle) Zo Zo) rfl ?_ ?_; (focus (refine h_call2 (ts := ?_) (x1 := ?_) (x2 := ?_) ?_ Zk ?_ ?_; rotate_left 3; (focus rfl); (focus rfl); rfl)); rintro e9 w1 ⟨v, rfl, v0, v1, ⟨c1, hb1, hc1, -, -⟩, hg9⟩; replace HM := HM.put (c' := c1) Zg hb1 (Only.of_grown hg9); clear hg9 hb1; replace HC := Zi hc1; clear hc1; refine ⟨_, rfl, ?_⟩
 refine hK9 _ _ (heldE HM) ?_; clear hK9 K9; ((try simp only [Za]); (try simp only [Zx]); (try simp only [Zy]))
 refine k_add 18 (heldE HM) ?_
 refine k_mul 19 (heldE HM) ?_
 exact YPgbo0) : P := h
theorem z9_129 {P : Prop} (h : P := by
 refine j_two 17 29 ?_ ?_
 ·refine o_callg (snext_inf W tb _ (3) _ (HM.tp Zl HC.out H0.out hle) Zo Zo) rfl ?_ ?_; (focus (refine h_call2 (ts := ?_) (x1 := ?_) (x2 := ?_) ?_ Zk ?_ ?_; rotate_left 3; (focus rfl); (focus rfl); rfl)); rintro e9 w1 ⟨v, rfl, v0, v1, ⟨c1, hb1, hc1, -, -⟩, hg9⟩; replace HM := HM.put (c' := c1) Zg hb1 (Only.of_grown hg9); clear hg9 hb1; replace HC := Zi hc1; clear hc1; refine ⟨_, rfl, ?_⟩
  refine ⟨(heldE HM), ?_⟩; ((try simp only [Za]); (try simp only [Zx]); (try simp only [Zy]))
  refine k_add 18 (heldE HM) ?_
  refine k_mul 19 (heldE HM) ?_
  refine j_two 21 29 ?_ ?_
  ·exact YPgbo3
  ·refine j_al HM ?_; clear HM; intro bk w1 HM
   refine ⟨(heldE HM), ?_⟩
   exact YPgbo0
 ·refine j_al HM ?_; clear HM; intro bk w1 HM
  refine ⟨(heldE HM), ?_⟩
  exact YPgbo4) : P := h
theorem YPgbo10 {P : Prop} (h : P := by
 refine o_callg (sacc_new (tb := tb) HM Zl HC.out H0.out hle) rfl ?_ ?_; (focus (refine h_call1 (ts := ?_) (x1 := ?_) ?_ Zk ?_; rotate_left 2; (focus rfl); rfl)); rintro e9 w1 ⟨acc, rfl, hk, ⟨c1, hc1, hb1, hg9⟩⟩; replace HM := HM.put (c' := c1) Zg hb1 hg9; clear hg9 hb1; replace HC := Zi hc1; clear hc1; refine ⟨_, rfl, ?_⟩
 refine hK9 _ _ (heldE HM) ?_; clear hK9 K9; ((try simp only [Za]); (try simp only [Zx]); (try simp only [Zy]))
 exact YPgbo4) : P := h
theorem z9_130 {P : Prop} (h : P := by
 refine j_one 9 fun K9 hK9 => ?_
 exact YPgbo10) : P := h
theorem z9_131 {P : Prop} (h : P := by
 refine j_two 21 29 ?_ ?_
 ·exact YPgbo3
 ·refine j_al HM ?_; clear HM; intro bk w1 HM
  refine ⟨(heldE HM), ?_⟩
  exact YPgbo0) : P := h
theorem z9_132 {P : Prop} (h : P := by
 refine t_pure (i := 27) (v := .agg (JO.c (⟨k2 111 (97 + k), acc, f.nm, x.nm, 0, 0, 0, (max 0 ((day - 1 + v) * 1440 + z)), (l.length : Int) + 1, false⟩ : JO))) rfl rfl Zk (fun _ _ _ h => h) (heldE HM) Zv ?_ ?_; (focus (exact h_bg6 rfl Zw Zw Zw Zw Zw Zw HB)); ((try simp only [Za]); (try simp only [Zx]); (try simp only [Zy]))
 exact YPgbo6) : P := h
theorem YPgbo7 {P : Prop} (h : P := by
 refine j_bs1 (c0 := Tx.b (97 + k)) HM ?_ (hT := elb) (z0 := rfl); clear HM; intro bc w1 HM
 refine hK9 _ _ (heldE HM) ?_; clear hK9 K9; ((try simp only [Za]); (try simp only [Zx]); (try simp only [Zy]))
 refine k_more ((bc, rowsOf [Tx.b (97 + k)]) :: [(b13, x.c), (b12, f.c), (b4, uc)]) ?_
 refine t_eq (i := 6) (v := ?_) [] rfl rfl rfl Zk (fun _ _ _ h => h) (heldE HM) ?_ ?_; rotate_left 1; (focus (refine y_cvb (x := ?_) bc (97 + k) ?_ ?_ ?_ ?_ ?_; rotate_left 1; (focus (exact fun _ h => h.2.get .here)); (focus omega); (focus rfl); (focus rfl); ((conv => lhs; whnf) <;> rfl))); ((try simp only [Za]); (try simp only [Zx]); (try simp only [Zy]))
 refine t_pure (i := 7) (v := .string (({ data := #[111] } : ByteArray) ++ Tx.bytes [97 + k])) rfl rfl Zk (fun _ _ _ h => h) (heldE HM) Zv ?_ ?_; (focus (exact h_cat (s := { data := #[111] }) (t := Tx.bytes [97 + k]) rfl Zw Zw (by show 1 + 1 ≤ _; decide))); ((try simp only [Za]); (try simp only [Zx]); (try simp only [Zy]))
 exact YPgbo11) : P := h
theorem z9_133 {P : Prop} (h : P := by
 refine j_one 5 fun K9 hK9 => ?_
 exact YPgbo7) : P := h
theorem YPgbo5 {P : Prop} (h : P := by
 refine j_bs1 (c0 := Tx.b (97 + k)) HM ?_ (hT := elb) (z0 := rfl); clear HM; intro bc w1 HM
 refine ⟨(heldE HM), ?_⟩; ((try simp only [Za]); (try simp only [Zx]); (try simp only [Zy]))
 refine k_more ((bc, rowsOf [Tx.b (97 + k)]) :: [(b13, x.c), (b12, f.c), (b4, uc)]) ?_
 refine t_eq (i := 6) (v := ?_) [] rfl rfl rfl Zk (fun _ _ _ h => h) (heldE HM) ?_ ?_; rotate_left 1; (focus (refine y_cvb (x := ?_) bc (97 + k) ?_ ?_ ?_ ?_ ?_; rotate_left 1; (focus (exact fun _ h => h.2.get .here)); (focus omega); (focus rfl); (focus rfl); ((conv => lhs; whnf) <;> rfl))); ((try simp only [Za]); (try simp only [Zx]); (try simp only [Zy]))
 refine t_pure (i := 7) (v := .string (({ data := #[111] } : ByteArray) ++ Tx.bytes [97 + k])) rfl rfl Zk (fun _ _ _ h => h) (heldE HM) Zv ?_ ?_; (focus (exact h_cat (s := { data := #[111] }) (t := Tx.bytes [97 + k]) rfl Zw Zw (by show 1 + 1 ≤ _; decide))); ((try simp only [Za]); (try simp only [Zx]); (try simp only [Zy]))
 exact YPgbo0) : P := h
theorem YPgbo2 {P : Prop} (h : P := by
 refine o_callg (snext_inf W tb _ (1440) _ (HM.tp Zl HC.out H0.out hle) Zo Zo) rfl ?_ ?_; (focus (refine h_call2 (ts := ?_) (x1 := ?_) (x2 := ?_) ?_ Zk ?_ ?_; rotate_left 3; (focus rfl); (focus rfl); rfl)); rintro e9 w1 ⟨z, rfl, z0, z1, ⟨c1, hb1, hc1, -, -⟩, hg9⟩; replace HM := HM.put (c' := c1) Zg hb1 (Only.of_grown hg9); clear hg9 hb1; replace HC := Zi hc1; clear hc1; refine ⟨_, rfl, ?_⟩; have HB := fun w => JO.bld (parts := #[(0, .string (({ data := #[111] } : ByteArray) ++ Tx.bytes [97 + k])), (1, .agg acc.c), (2, .string f.nm), (3, .string x.nm), (7, .int .i64 (max 0 ((day - 1 + v) * 1440 + z))), (8, .int .i64 ((l.length : Int) + 1))]) (r := (⟨k2 111 (97 + k), acc, f.nm, x.nm, 0, 0, 0, (max 0 ((day - 1 + v) * 1440 + z)), (l.length : Int) + 1, false⟩ : JO)) (by simp [Value.cells, JK.size]) (by rw [JO.rows]; rfl) w
 refine ⟨(heldE HM), ?_⟩; ((try simp only [Za]); (try simp only [Zx]); (try simp only [Zy]))
 refine k_add 22 (heldE HM) ?_
 refine k_pv 23 (heldE HM) ?_
 refine j_one 5 fun K9 hK9 => ?_
 exact YPgbo7) : P := h
theorem z9_134 {P : Prop} (h : P := by
 refine j_two 5 21 ?_ ?_
 ·exact YPgbo5
 ·exact YPgbo2) : P := h
theorem YPgbo8 {P : Prop} (h : P := by
 refine j_bs1 (c0 := Tx.b (97 + k)) HM ?_ (hT := elb) (z0 := rfl); clear HM; intro bc w1 HM
 refine ⟨(heldE HM), ?_⟩; ((try simp only [Za]); (try simp only [Zx]); (try simp only [Zy]))
 refine k_more ((bc, rowsOf [Tx.b (97 + k)]) :: [(b13, x.c), (b12, f.c), (b4, uc)]) ?_
 refine t_eq (i := 6) (v := ?_) [] rfl rfl rfl Zk (fun _ _ _ h => h) (heldE HM) ?_ ?_; rotate_left 1; (focus (refine y_cvb (x := ?_) bc (97 + k) ?_ ?_ ?_ ?_ ?_; rotate_left 1; (focus (exact fun _ h => h.2.get .here)); (focus omega); (focus rfl); (focus rfl); ((conv => lhs; whnf) <;> rfl))); ((try simp only [Za]); (try simp only [Zx]); (try simp only [Zy]))
 refine t_pure (i := 7) (v := .string (({ data := #[111] } : ByteArray) ++ Tx.bytes [97 + k])) rfl rfl Zk (fun _ _ _ h => h) (heldE HM) Zv ?_ ?_; (focus (exact h_cat (s := { data := #[111] }) (t := Tx.bytes [97 + k]) rfl Zw Zw (by show 1 + 1 ≤ _; decide))); ((try simp only [Za]); (try simp only [Zx]); (try simp only [Zy]))
 exact YPgbo4) : P := h
theorem YPgbo9 {P : Prop} (h : P := by
 refine o_callg (snext_inf W tb _ (3) _ (HM.tp Zl HC.out H0.out hle) Zo Zo) rfl ?_ ?_; (focus (refine h_call2 (ts := ?_) (x1 := ?_) (x2 := ?_) ?_ Zk ?_ ?_; rotate_left 3; (focus rfl); (focus rfl); rfl)); rintro e9 w1 ⟨v, rfl, v0, v1, ⟨c1, hb1, hc1, -, -⟩, hg9⟩; replace HM := HM.put (c' := c1) Zg hb1 (Only.of_grown hg9); clear hg9 hb1; replace HC := Zi hc1; clear hc1; refine ⟨_, rfl, ?_⟩
 refine ⟨(heldE HM), ?_⟩; ((try simp only [Za]); (try simp only [Zx]); (try simp only [Zy]))
 refine k_add 18 (heldE HM) ?_
 refine k_mul 19 (heldE HM) ?_
 refine j_two 5 21 ?_ ?_
 ·exact YPgbo5
 ·exact YPgbo2) : P := h
theorem z9_135 {P : Prop} (h : P := by
 refine j_two 5 17 ?_ ?_
 ·exact YPgbo8
 ·exact YPgbo9) : P := h
theorem z9_136 {P : Prop} (h : P := by
 refine j_two 5 9 ?_ ?_
 ·refine j_bs1 (c0 := Tx.b (97 + k)) HM ?_ (hT := elb) (z0 := rfl); clear HM; intro bc w1 HM
  refine ⟨(heldE HM), ?_⟩; ((try simp only [Za]); (try simp only [Zx]); (try simp only [Zy]))
  refine k_more ((bc, rowsOf [Tx.b (97 + k)]) :: [(b13, x.c), (b12, f.c), (b4, uc)]) ?_
  refine t_eq (i := 6) (v := ?_) [] rfl rfl rfl Zk (fun _ _ _ h => h) (heldE HM) ?_ ?_; rotate_left 1; (focus (refine y_cvb (x := ?_) bc (97 + k) ?_ ?_ ?_ ?_ ?_; rotate_left 1; (focus (exact fun _ h => h.2.get .here)); (focus omega); (focus rfl); (focus rfl); ((conv => lhs; whnf) <;> rfl))); ((try simp only [Za]); (try simp only [Zx]); (try simp only [Zy]))
  refine t_pure (i := 7) (v := .string (({ data := #[111] } : ByteArray) ++ Tx.bytes [97 + k])) rfl rfl Zk (fun _ _ _ h => h) (heldE HM) Zv ?_ ?_; (focus (exact h_cat (s := { data := #[111] }) (t := Tx.bytes [97 + k]) rfl Zw Zw (by show 1 + 1 ≤ _; decide))); ((try simp only [Za]); (try simp only [Zx]); (try simp only [Zy]))
  refine j_one 9 fun K9 hK9 => ?_
  exact YPgbo10
 ·refine o_callg (sacc_new (tb := tb) HM Zl HC.out H0.out hle) rfl ?_ ?_; (focus (refine h_call1 (ts := ?_) (x1 := ?_) ?_ Zk ?_; rotate_left 2; (focus rfl); rfl)); rintro e9 w1 ⟨acc, rfl, hk, ⟨c1, hc1, hb1, hg9⟩⟩; replace HM := HM.put (c' := c1) Zg hb1 hg9; clear hg9 hb1; replace HC := Zi hc1; clear hc1; refine ⟨_, rfl, ?_⟩
  refine ⟨(heldE HM), ?_⟩; ((try simp only [Za]); (try simp only [Zx]); (try simp only [Zy]))
  refine j_two 5 17 ?_ ?_
  ·exact YPgbo8
  ·exact YPgbo9) : P := h
end
section
open Jb
def OrdOk (o : JO) (n : Nat) : Prop := o.right = true ∧ o.kn = (n : Int) ∧ o.wf
def AskOk (o : JO) (n : Nat) : Prop := OrdOk o n ∧ name o.key = true ∧ 0 ≤ o.at_ ∧ o.at_ ≤ 1000000
theorem at_in {day v z : Int} (h0 : 9 ≤ day) (h1 : day ≤ 209) (v0 : 0 ≤ v) (v1 : v < 3) (z0 : 0 ≤ z) (z1 : z < 1440) : 0 ≤ max 0 ((day - 1 + v) * 1440 + z) ∧ max 0 ((day - 1 + v) * 1440 + z) ≤ 1000000 := by
 rw [Int.max_def]
 split <;> omega
theorem acc_wf {k : JK} (h : Jb.AccOk k) : k.wf := ⟨Nat.le_trans h.2.1 Zd, Nat.le_trans h.2.2 Zd⟩
theorem ask_ok {k : Nat} {acc : JK} {f c : ByteArray} {kd am un at_ kn : Int} {n : Nat} (hk : k < 20) (ha : Jb.AccOk acc) (hf : name f = true) (hc : name c = true) (a0 : 0 ≤ at_) (a1 : at_ ≤ 1000000) (hn : kn = (n : Int)) (hkn : known (n : Int) = true) (hs : JO.asked ⟨k2 111 (97 + k), acc, f, c, kd, am, un, at_, kn, false⟩ = true) : AskOk ⟨k2 111 (97 + k), acc, f, c, kd, am, un, at_, kn, false⟩ n := by
 subst hn
 exact ⟨⟨o_right (key_o k hk) ha.1 hf hc a0 a1 hkn hs, rfl, ⟨(by decide : (2 : Nat) ≤ _), acc_wf ha, name_wf hf, name_wf hc⟩⟩, key_o k hk, a0, a1⟩
theorem void_ok {o : JO} {n : Nat} (h : AskOk o n) (hkn : known (n : Int) = true) : OrdOk { JO.zero with key := o.key, at_ := o.at_, kn := o.kn, vd := true } n := by
 obtain ⟨⟨_, h1, h2⟩, h3, h4, h5⟩ := h
 exact ⟨ov_right h3 h4 h5 (by rw [h1]; exact hkn), h1, ⟨h2.1, ⟨Nat.zero_le _, Nat.zero_le _⟩, Nat.zero_le _, Nat.zero_le _⟩⟩
def ord (k : Nat) (acc : JK) (f c : ByteArray) (am at_ kn : Int) : JO := ⟨k2 115 (49 + k), acc, f, c, 1, am, 0, at_, kn, false⟩
theorem ord_ok {k : Nat} {acc : JK} {f c : ByteArray} {am at_ kn : Int} {n : Nat} (hk : k < 2) (ha : Jb.AccOk acc) (hf : name f = true) (hc : name c = true) (a0 : 1 ≤ am) (a1 : am ≤ 1000000000000) (t0 : 0 ≤ at_) (t1 : at_ ≤ 1000000) (hn : kn = (n : Int)) (hkn : known (n : Int) = true) : OrdOk (ord k acc f c am at_ kn) n := by
 subst hn
 refine ⟨o_right (key_s k hk) ha.1 hf hc t0 t1 hkn ?_, rfl, ⟨(by decide : (2 : Nat) ≤ _), acc_wf ha, name_wf hf, name_wf hc⟩⟩
 have hu : amount am = true := by unfold amount; simp only [Bool.and_eq_true, decide_eq_true_eq]; omega
 show (if (1 : Int) = 1 ∨ (1 : Int) = 4 then amount am && decide ((0 : Int) = 0) else _) = true
 rw [if_pos (.inl rfl), hu]; rfl
theorem jr24 {W w0 w : World} {tb b4 : Nat} {uc : Array Value} {B : List (Nat × Array Value)} {b12 b13 : Nat} {f : WF} {x : WK} {c : Array Value} {m : Nat} {A7 : Option Addr} {l : List JR} {n7 : Nat} {day last : Int} {Q : Exit → Act → World → Prop} {x1 x2 x3 x5 x6 x9 x10 x11 x14 x15 x16 x17 x18 x19 x20 x21 x22 x23 x24 x25 x26 x27 x28 x29 x30 x31 x32 x33 x34 x35 x36 x37 x38 x39 x40 x41 x42 x43 x44 x45 x46 x47 x48 x49 x50 x51 x52 x53 x54 x55 x56 x57 x58 x59 x60 x61 x62 x63 x64 x65 x66 x67 x68 x69 x70 x71 x72 x73 x74 x75 x76 x77 x78 x79 x80 x81 x82 x83 x84 x85 x86 x87 x88 x89 x90 x91 x92 x93 x94 x95 x96 x97 x98 x99 x100 x101 x102 x103 x104 x105 x106 x107 x108 x109 x110 x111 x112 x113 x114 x115 x116 x117 x118 x119 x120 x121 x122 x123 x124 x125 x126 x127 x128 x129 x130 x131 x132 x133 x134 x135 x136 x137 x138 x139 x140 x141 x142 x143 x144 x145 x146 x147 x148 x149 x150 x151 x152 x153 x154 x155 x156 x157 x158 x159 x160 x161 x162 x163 x164 x165 x166 x167 x168 x169 x170 x171 x172 x173 x174 x175 x176 x177 x178 x179 x180 x181 x182 x183 x184 x185 x186 x187 x188 x189 x190 x191 x192 x193 x194 x195 x196 x197 x198 x199 x200 x201 x202 x203 x204 x205 x206 x207 x208 x209 x210 x211 x212 x213 x214 x215 x216 x217 x218 x219 x220 x221 x222 x223 x224 x225 x226 x227 x228 x229 x230 x231 x232 x233 x234 x235 x236 x237 x238 x239 x240 x241 x242 x243 x244 x245 x246 x247 x248 x249 x250 x251 x252 x253 x254 x255 x256 x257 x258 x259 x260 x261 x262 x263 x264 x265 x266 x267 x268 x269 x270 x271 x272 x273 x274 x275 x276 x277 x278 x279 x280 x281 x282 x283 x284 x285 x286 x287 x288 x289 x290 x291 x292 x293 x294 x295 x296 x297 x298 x299 x300 x301 x302 x303 x304 x305 x306 x307 x308 x309 x310 x311 x312 x313 x314 x315 x316 x317 x318 x319 x320 x321 x322 x323 x324 x325 x326 : Value} (HM : Mem w0 [tb] ((b13, x.c) :: (b12, f.c) :: (b4, uc) :: (tb, c) :: B) w) (HJ : Hid (Jb.Jn l day last)) (hl40 : l.length < 40) (hfn : name f.nm = true) (hxn : name x.nm = true) (HC : Hid (TapeC W m c)) (H0 : Hid (Below W.heap.size W w0)) (hle : ∀ b ∈ [tb], W.heap.size ≤ b)
    (hQ : ∀ (b14 : Nat) (o : JO) (c9 : Array Value) (m9 : Nat) (y161 y162 y163 y164 y165 y166 y167 y168 y169 y170 y171 y172 y173 y174 y175 y176 y177 y178 y179 y180 y181 y182 y183 y184 y185 y186 y187 y188 y189 : Value) (w9 : World), Hid (AskOk o (l.length + 1)) → Hid (TapeC W m9 c9) → Mem w0 [tb] ((b14, o.c) :: (b13, x.c) :: (b12, f.c) :: (b4, uc) :: (tb, c9) :: B) w9 → Q .normal { tmps := #[.pointer (some ⟨tb, 0, none⟩), x1, x2, x3, .pointer (some ⟨b4, 0, none⟩), x5, x6, .slice A7 l.length n7, .int .i64 day, x9, x10, x11, .pointer (some ⟨b12, 0, none⟩), .pointer (some ⟨b13, 0, none⟩), .pointer (some ⟨b14, 0, none⟩), x15, x16, x17, x18, x19, x20, x21, x22, x23, x24, x25, x26, x27, x28, x29, x30, x31, x32, x33, x34, x35, x36, x37, x38, x39, x40, x41, x42, x43, x44, x45, x46, x47, x48, x49, x50, x51, x52, x53, x54, x55, x56, x57, x58, x59, x60, x61, x62, x63, x64, x65, x66, x67, x68, x69, x70, x71, x72, x73, x74, x75, x76, x77, x78, x79, x80, x81, x82, x83, x84, x85, x86, x87, x88, x89, x90, x91, x92, x93, x94, x95, x96, x97, x98, x99, x100, x101, x102, x103, x104, x105, x106, x107, x108, x109, x110, x111, x112, x113, x114, x115, x116, x117, x118, x119, x120, x121, x122, x123, x124, x125, x126, x127, x128, x129, x130, x131, x132, x133, x134, x135, x136, x137, x138, x139, x140, x141, x142, x143, x144, x145, x146, x147, x148, x149, x150, x151, x152, x153, x154, x155, x156, x157, x158, x159, x160, y161, y162, y163, y164, y165, y166, y167, y168, y169, y170, y171, y172, y173, y174, y175, y176, y177, y178, y179, y180, y181, y182, y183, y184, y185, y186, y187, y188, y189, x190, x191, x192, x193, x194, x195, x196, x197, x198, x199, x200, x201, x202, x203, x204, x205, x206, x207, x208, x209, x210, x211, x212, x213, x214, x215, x216, x217, x218, x219, x220, x221, x222, x223, x224, x225, x226, x227, x228, x229, x230, x231, x232, x233, x234, x235, x236, x237, x238, x239, x240, x241, x242, x243, x244, x245, x246, x247, x248, x249, x250, x251, x252, x253, x254, x255, x256, x257, x258, x259, x260, x261, x262, x263, x264, x265, x266, x267, x268, x269, x270, x271, x272, x273, x274, x275, x276, x277, x278, x279, x280, x281, x282, x283, x284, x285, x286, x287, x288, x289, x290, x291, x292, x293, x294, x295, x296, x297, x298, x299, x300, x301, x302, x303, x304, x305, x306, x307, x308, x309, x310, x311, x312, x313, x314, x315, x316, x317, x318, x319, x320, x321, x322, x323, x324, x325, x326], defers := [] } w9) :
    (Code.region 24 (opsJ 24) true).wp Tryz.prog Q { tmps := #[.pointer (some ⟨tb, 0, none⟩), x1, x2, x3, .pointer (some ⟨b4, 0, none⟩), x5, x6, .slice A7 l.length n7, .int .i64 day, x9, x10, x11, .pointer (some ⟨b12, 0, none⟩), .pointer (some ⟨b13, 0, none⟩), x14, x15, x16, x17, x18, x19, x20, x21, x22, x23, x24, x25, x26, x27, x28, x29, x30, x31, x32, x33, x34, x35, x36, x37, x38, x39, x40, x41, x42, x43, x44, x45, x46, x47, x48, x49, x50, x51, x52, x53, x54, x55, x56, x57, x58, x59, x60, x61, x62, x63, x64, x65, x66, x67, x68, x69, x70, x71, x72, x73, x74, x75, x76, x77, x78, x79, x80, x81, x82, x83, x84, x85, x86, x87, x88, x89, x90, x91, x92, x93, x94, x95, x96, x97, x98, x99, x100, x101, x102, x103, x104, x105, x106, x107, x108, x109, x110, x111, x112, x113, x114, x115, x116, x117, x118, x119, x120, x121, x122, x123, x124, x125, x126, x127, x128, x129, x130, x131, x132, x133, x134, x135, x136, x137, x138, x139, x140, x141, x142, x143, x144, x145, x146, x147, x148, x149, x150, x151, x152, x153, x154, x155, x156, x157, x158, x159, x160, x161, x162, x163, x164, x165, x166, x167, x168, x169, x170, x171, x172, x173, x174, x175, x176, x177, x178, x179, x180, x181, x182, x183, x184, x185, x186, x187, x188, x189, x190, x191, x192, x193, x194, x195, x196, x197, x198, x199, x200, x201, x202, x203, x204, x205, x206, x207, x208, x209, x210, x211, x212, x213, x214, x215, x216, x217, x218, x219, x220, x221, x222, x223, x224, x225, x226, x227, x228, x229, x230, x231, x232, x233, x234, x235, x236, x237, x238, x239, x240, x241, x242, x243, x244, x245, x246, x247, x248, x249, x250, x251, x252, x253, x254, x255, x256, x257, x258, x259, x260, x261, x262, x263, x264, x265, x266, x267, x268, x269, x270, x271, x272, x273, x274, x275, x276, x277, x278, x279, x280, x281, x282, x283, x284, x285, x286, x287, x288, x289, x290, x291, x292, x293, x294, x295, x296, x297, x298, x299, x300, x301, x302, x303, x304, x305, x306, x307, x308, x309, x310, x311, x312, x313, x314, x315, x316, x317, x318, x319, x320, x321, x322, x323, x324, x325, x326], defers := [] } w := by
 refine Qn.run ?_
 unfold opsJ
 conv => enter [2, 2]; whnf
 have elr := jr_el
 have els : elemB 80 9 1 16 = true := by kernel_rfl
 have elb : elemB 78 5 1 1 = true := by kernel_rfl
 have zo := JO.za
 have HL1 : Hid ((l.length : Int) + 1 = ((l.length + 1 : Nat) : Int)) := Zi Zo
 have hd0 := HJ.out.d0
 have hd1 := HJ.out.day
 have hcap : ∀ r : JR, ((l.map JR.c).length + [r.c].length) * (1184 + 1) ≤ 140737488355328 := fun r => jr_cap Zo
 have lfn := (f.f_nm).la
 have lxn := (x.f_nm).la
 refine start_M2 [] HM ((Sub.keep (Sub.keep (Sub.keep Sub.nil)))) Zk (fun w0x H9 => ?_)
 replace HM := H9; clear H9
 refine k_mv 0 (heldE HM) ?_
 refine k_mv 1 (heldE HM) ?_
 refine k_mv 8 (heldE HM) ?_
 refine k_fa 10 (heldE HM) ?_
 refine k_ld 11 [] (heldE HM) ?_
 refine k_fa 12 (heldE HM) ?_
 refine k_ld 13 [] (heldE HM) ?_
 refine k_mv 14 (heldE HM) ?_
 refine k_sub 15 (heldE HM) ?_
 refine k_mv 16 (heldE HM) ?_
 refine k_mv 20 (heldE HM) ?_
 refine k_mv 24 (heldE HM) ?_
 refine k_pv 25 (heldE HM) ?_
 refine k_add 26 (heldE HM) ?_
 refine j_two 2 29 ?_ ?_
 ·refine o_callg (snext_inf W tb _ (20) _ (HM.tp Zl HC.out H0.out hle) Zo Zo) rfl ?_ ?_; (focus (refine h_call2 (ts := ?_) (x1 := ?_) (x2 := ?_) ?_ Zk ?_ ?_; rotate_left 3; (focus rfl); (focus rfl); rfl)); rintro e9 w1 ⟨u, rfl, u0, u1, ⟨c1, hb1, hc1, -, -⟩, hg9⟩; replace HM := HM.put (c' := c1) Zg hb1 (Only.of_grown hg9); clear hg9 hb1; replace HC := Zi hc1; clear hc1; refine ⟨_, rfl, ?_⟩; obtain ⟨k, rfl⟩ : ∃ k : Nat, u = k := ⟨u.toNat, by omega⟩; have HEI : Hid ((97 : Int) + (k : Nat) = ((97 + k : Nat) : Int)) := Zi Zo
  refine ⟨(heldE HM), ?_⟩; ((try simp only [Za]); (try simp only [Zx]); (try simp only [Zy]))
  refine k_add 3 (heldE HM) ?_
  refine t_pure (i := 4) (v := .int .u8 ((97 + k : Nat) : Int)) rfl rfl Zk (fun _ _ _ h => h) (heldE HM) Zv ?_ ?_; (focus (exact h_cv rfl (by first | exact congrArg _ HEI.out | (simp only [HEI.out]; rfl) | (show Value.int .i64 _ = _; rw [HEI.out])) (fun w9 => cv_u8 (97 + k) Zo w9))); ((try simp only [Za]); (try simp only [Zx]); (try simp only [Zy]))
  refine three_L (i := 5) (j := 9) (k := 29) Zk (op_L rfl Zv ?_) (op_L rfl Zv ?_) (op_L rfl Zv ?_)
  ·refine j_bs1 (c0 := Tx.b (97 + k)) HM ?_ (hT := elb) (z0 := rfl); clear HM; intro bc w1 HM
   refine ⟨(heldE HM), ?_⟩; ((try simp only [Za]); (try simp only [Zx]); (try simp only [Zy]))
   refine k_more ((bc, rowsOf [Tx.b (97 + k)]) :: [(b13, x.c), (b12, f.c), (b4, uc)]) ?_
   refine t_eq (i := 6) (v := ?_) [] rfl rfl rfl Zk (fun _ _ _ h => h) (heldE HM) ?_ ?_; rotate_left 1; (focus (refine y_cvb (x := ?_) bc (97 + k) ?_ ?_ ?_ ?_ ?_; rotate_left 1; (focus (exact fun _ h => h.2.get .here)); (focus omega); (focus rfl); (focus rfl); ((conv => lhs; whnf) <;> rfl))); ((try simp only [Za]); (try simp only [Zx]); (try simp only [Zy]))
   refine t_pure (i := 7) (v := .string (({ data := #[111] } : ByteArray) ++ Tx.bytes [97 + k])) rfl rfl Zk (fun _ _ _ h => h) (heldE HM) Zv ?_ ?_; (focus (exact h_cat (s := { data := #[111] }) (t := Tx.bytes [97 + k]) rfl Zw Zw (by show 1 + 1 ≤ _; decide))); ((try simp only [Za]); (try simp only [Zx]); (try simp only [Zy]))
   refine j_two 9 29 ?_ ?_
   ·refine o_callg (sacc_new (tb := tb) HM Zl HC.out H0.out hle) rfl ?_ ?_; (focus (refine h_call1 (ts := ?_) (x1 := ?_) ?_ Zk ?_; rotate_left 2; (focus rfl); rfl)); rintro e9 w1 ⟨acc, rfl, hk, ⟨c1, hc1, hb1, hg9⟩⟩; replace HM := HM.put (c' := c1) Zg hb1 hg9; clear hg9 hb1; replace HC := Zi hc1; clear hc1; refine ⟨_, rfl, ?_⟩
    refine ⟨(heldE HM), ?_⟩; ((try simp only [Za]); (try simp only [Zx]); (try simp only [Zy]))
    exact z9_129
   ·refine j_al HM ?_; clear HM; intro bk w1 HM
    refine ⟨(heldE HM), ?_⟩
    exact z9_130
  ·refine o_callg (sacc_new (tb := tb) HM Zl HC.out H0.out hle) rfl ?_ ?_; (focus (refine h_call1 (ts := ?_) (x1 := ?_) ?_ Zk ?_; rotate_left 2; (focus rfl); rfl)); rintro e9 w1 ⟨acc, rfl, hk, ⟨c1, hc1, hb1, hg9⟩⟩; replace HM := HM.put (c' := c1) Zg hb1 hg9; clear hg9 hb1; replace HC := Zi hc1; clear hc1; refine ⟨_, rfl, ?_⟩
   refine ⟨(heldE HM), ?_⟩; ((try simp only [Za]); (try simp only [Zx]); (try simp only [Zy]))
   refine three_L (i := 5) (j := 17) (k := 29) Zk (op_L rfl Zv ?_) (op_L rfl Zv ?_) (op_L rfl Zv ?_)
   ·refine j_bs1 (c0 := Tx.b (97 + k)) HM ?_ (hT := elb) (z0 := rfl); clear HM; intro bc w1 HM
    refine ⟨(heldE HM), ?_⟩; ((try simp only [Za]); (try simp only [Zx]); (try simp only [Zy]))
    refine k_more ((bc, rowsOf [Tx.b (97 + k)]) :: [(b13, x.c), (b12, f.c), (b4, uc)]) ?_
    refine t_eq (i := 6) (v := ?_) [] rfl rfl rfl Zk (fun _ _ _ h => h) (heldE HM) ?_ ?_; rotate_left 1; (focus (refine y_cvb (x := ?_) bc (97 + k) ?_ ?_ ?_ ?_ ?_; rotate_left 1; (focus (exact fun _ h => h.2.get .here)); (focus omega); (focus rfl); (focus rfl); ((conv => lhs; whnf) <;> rfl))); ((try simp only [Za]); (try simp only [Zx]); (try simp only [Zy]))
    refine t_pure (i := 7) (v := .string (({ data := #[111] } : ByteArray) ++ Tx.bytes [97 + k])) rfl rfl Zk (fun _ _ _ h => h) (heldE HM) Zv ?_ ?_; (focus (exact h_cat (s := { data := #[111] }) (t := Tx.bytes [97 + k]) rfl Zw Zw (by show 1 + 1 ≤ _; decide))); ((try simp only [Za]); (try simp only [Zx]); (try simp only [Zy]))
    exact z9_129
   ·refine o_callg (snext_inf W tb _ (3) _ (HM.tp Zl HC.out H0.out hle) Zo Zo) rfl ?_ ?_; (focus (refine h_call2 (ts := ?_) (x1 := ?_) (x2 := ?_) ?_ Zk ?_ ?_; rotate_left 3; (focus rfl); (focus rfl); rfl)); rintro e9 w1 ⟨v, rfl, v0, v1, ⟨c1, hb1, hc1, -, -⟩, hg9⟩; replace HM := HM.put (c' := c1) Zg hb1 (Only.of_grown hg9); clear hg9 hb1; replace HC := Zi hc1; clear hc1; refine ⟨_, rfl, ?_⟩
    refine ⟨(heldE HM), ?_⟩; ((try simp only [Za]); (try simp only [Zx]); (try simp only [Zy]))
    refine k_add 18 (heldE HM) ?_
    refine k_mul 19 (heldE HM) ?_
    refine three_L (i := 5) (j := 21) (k := 29) Zk (op_L rfl Zv ?_) (op_L rfl Zv ?_) (op_L rfl Zv ?_)
    ·refine j_bs1 (c0 := Tx.b (97 + k)) HM ?_ (hT := elb) (z0 := rfl); clear HM; intro bc w1 HM
     refine ⟨(heldE HM), ?_⟩; ((try simp only [Za]); (try simp only [Zx]); (try simp only [Zy]))
     refine k_more ((bc, rowsOf [Tx.b (97 + k)]) :: [(b13, x.c), (b12, f.c), (b4, uc)]) ?_
     refine t_eq (i := 6) (v := ?_) [] rfl rfl rfl Zk (fun _ _ _ h => h) (heldE HM) ?_ ?_; rotate_left 1; (focus (refine y_cvb (x := ?_) bc (97 + k) ?_ ?_ ?_ ?_ ?_; rotate_left 1; (focus (exact fun _ h => h.2.get .here)); (focus omega); (focus rfl); (focus rfl); ((conv => lhs; whnf) <;> rfl))); ((try simp only [Za]); (try simp only [Zx]); (try simp only [Zy]))
     refine t_pure (i := 7) (v := .string (({ data := #[111] } : ByteArray) ++ Tx.bytes [97 + k])) rfl rfl Zk (fun _ _ _ h => h) (heldE HM) Zv ?_ ?_; (focus (exact h_cat (s := { data := #[111] }) (t := Tx.bytes [97 + k]) rfl Zw Zw (by show 1 + 1 ≤ _; decide))); ((try simp only [Za]); (try simp only [Zx]); (try simp only [Zy]))
     exact z9_131
    ·refine o_callg (snext_inf W tb _ (1440) _ (HM.tp Zl HC.out H0.out hle) Zo Zo) rfl ?_ ?_; (focus (refine h_call2 (ts := ?_) (x1 := ?_) (x2 := ?_) ?_ Zk ?_ ?_; rotate_left 3; (focus rfl); (focus rfl); rfl)); rintro e9 w1 ⟨z, rfl, z0, z1, ⟨c1, hb1, hc1, -, -⟩, hg9⟩; replace HM := HM.put (c' := c1) Zg hb1 (Only.of_grown hg9); clear hg9 hb1; replace HC := Zi hc1; clear hc1; refine ⟨_, rfl, ?_⟩; have HB := fun w => JO.bld (parts := #[(0, .string (({ data := #[111] } : ByteArray) ++ Tx.bytes [97 + k])), (1, .agg acc.c), (2, .string f.nm), (3, .string x.nm), (7, .int .i64 (max 0 ((day - 1 + v) * 1440 + z))), (8, .int .i64 ((l.length : Int) + 1))]) (r := (⟨k2 111 (97 + k), acc, f.nm, x.nm, 0, 0, 0, (max 0 ((day - 1 + v) * 1440 + z)), (l.length : Int) + 1, false⟩ : JO)) (by simp [Value.cells, JK.size]) (by rw [JO.rows]; rfl) w
     refine ⟨(heldE HM), ?_⟩; ((try simp only [Za]); (try simp only [Zx]); (try simp only [Zy]))
     refine k_add 22 (heldE HM) ?_
     refine k_pv 23 (heldE HM) ?_
     refine j_two 5 29 ?_ ?_
     ·refine j_bs1 (c0 := Tx.b (97 + k)) HM ?_ (hT := elb) (z0 := rfl); clear HM; intro bc w1 HM
      refine ⟨(heldE HM), ?_⟩; ((try simp only [Za]); (try simp only [Zx]); (try simp only [Zy]))
      refine k_more ((bc, rowsOf [Tx.b (97 + k)]) :: [(b13, x.c), (b12, f.c), (b4, uc)]) ?_
      refine t_eq (i := 6) (v := ?_) [] rfl rfl rfl Zk (fun _ _ _ h => h) (heldE HM) ?_ ?_; rotate_left 1; (focus (refine y_cvb (x := ?_) bc (97 + k) ?_ ?_ ?_ ?_ ?_; rotate_left 1; (focus (exact fun _ h => h.2.get .here)); (focus omega); (focus rfl); (focus rfl); ((conv => lhs; whnf) <;> rfl))); ((try simp only [Za]); (try simp only [Zx]); (try simp only [Zy]))
      refine t_pure (i := 7) (v := .string (({ data := #[111] } : ByteArray) ++ Tx.bytes [97 + k])) rfl rfl Zk (fun _ _ _ h => h) (heldE HM) Zv ?_ ?_; (focus (exact h_cat (s := { data := #[111] }) (t := Tx.bytes [97 + k]) rfl Zw Zw (by show 1 + 1 ≤ _; decide))); ((try simp only [Za]); (try simp only [Zx]); (try simp only [Zy]))
      exact z9_132
     ·refine j_al HM ?_; clear HM; intro bk w1 HM
      refine ⟨(heldE HM), ?_⟩
      exact z9_133
    ·refine j_al HM ?_; clear HM; intro bk w1 HM
     refine ⟨(heldE HM), ?_⟩
     exact z9_134
   ·refine j_al HM ?_; clear HM; intro bk w1 HM
    refine ⟨(heldE HM), ?_⟩
    exact z9_135
  ·refine j_al HM ?_; clear HM; intro bk w1 HM
   refine ⟨(heldE HM), ?_⟩
   exact z9_136
 ·refine j_al HM ?_; clear HM; intro bk w1 HM
  refine ⟨(heldE HM), ?_⟩
  refine j_one 2 fun K9 hK9 => ?_
  refine o_callg (snext_inf W tb _ (20) _ (HM.tp Zl HC.out H0.out hle) Zo Zo) rfl ?_ ?_; (focus (refine h_call2 (ts := ?_) (x1 := ?_) (x2 := ?_) ?_ Zk ?_ ?_; rotate_left 3; (focus rfl); (focus rfl); rfl)); rintro e9 w1 ⟨u, rfl, u0, u1, ⟨c1, hb1, hc1, -, -⟩, hg9⟩; replace HM := HM.put (c' := c1) Zg hb1 (Only.of_grown hg9); clear hg9 hb1; replace HC := Zi hc1; clear hc1; refine ⟨_, rfl, ?_⟩; obtain ⟨k, rfl⟩ : ∃ k : Nat, u = k := ⟨u.toNat, by omega⟩; have HEI : Hid ((97 : Int) + (k : Nat) = ((97 + k : Nat) : Int)) := Zi Zo
  refine hK9 _ _ (heldE HM) ?_; clear hK9 K9; ((try simp only [Za]); (try simp only [Zx]); (try simp only [Zy]))
  refine k_add 3 (heldE HM) ?_
  refine t_pure (i := 4) (v := .int .u8 ((97 + k : Nat) : Int)) rfl rfl Zk (fun _ _ _ h => h) (heldE HM) Zv ?_ ?_; (focus (exact h_cv rfl (by first | exact congrArg _ HEI.out | (simp only [HEI.out]; rfl) | (show Value.int .i64 _ = _; rw [HEI.out])) (fun w9 => cv_u8 (97 + k) Zo w9))); ((try simp only [Za]); (try simp only [Zx]); (try simp only [Zy]))
  exact z9_136
end
end Go.Proofs.YtkiempioeffhbaaGreatDoor
