/- Walks. -/
import Derived.Test.YtkiempioeffhbaaGreatDoorPg36
namespace Go.Proofs.YtkiempioeffhbaaGreatDoor
set_option maxHeartbeats 16000000
open Go.RowKit
set_option maxRecDepth 8000
set_option linter.unusedSimpArgs false
set_option linter.unusedVariables false
section
theorem YPgbk12 {P : Prop} (h : P := by
 refine j_one 18 fun K9 hK9 => ?_
 refine j_st HM ?_; clear HM; intro w1 HM
 refine hK9 _ _ (heldE HM) ?_; clear hK9 K9
 refine wpAnyL_done Zk ?_ _
 (go_wp2_with fail; go_meet; (case rel => exact ⟨_, p, k, n, _, rfl, hp, by omega, n0, n1, Zi (HC.out.mono Zo), HM.pick⟩))) : P := h
theorem YPgbk6 {P : Prop} (h : P := by
 refine t_pure (i := 16) (v := .agg (Jb.ac1 p day known k n { data := #[] } 0 0).c) rfl rfl Zk (fun _ _ _ h => h) (heldE HM) Zv ?_ ?_; (focus (exact h_bg7 rfl Zw Zw Zw Zw Zw Zw Zw HB)); ((try simp only [Za]); (try simp only [Zx]); (try simp only [Zy]))
 refine j_one 17 fun K9 hK9 => ?_
 refine j_al HM ?_; clear HM; intro bk w1 HM
 refine hK9 _ _ (heldE HM) ?_; clear hK9 K9
 exact YPgbk12) : P := h
theorem YPgbk15 {P : Prop} (h : P := by
 refine j_call2 (v := ?_) HM ?_ ?_; rotate_left 1; (focus (with_reducible (exact sratio_r (1 + n) 100 Zo Zo Zd Zd _))); clear HM; intro w1 HM
 refine ⟨(heldE HM), ?_⟩
 exact YPgbk6) : P := h
theorem YPgbk1 {P : Prop} (h : P := by
 refine t_pure (i := 16) (v := .agg (Jb.ac1 p day known k n { data := #[] } 0 0).c) rfl rfl Zk (fun _ _ _ h => h) (heldE HM) Zv ?_ ?_; (focus (exact h_bg7 rfl Zw Zw Zw Zw Zw Zw Zw HB)); ((try simp only [Za]); (try simp only [Zx]); (try simp only [Zy]))
 exact YPgbk12) : P := h
theorem YPgbk9 {P : Prop} (h : P := by
 refine j_one 14 fun K9 hK9 => ?_
 refine j_call2 (v := ?_) HM ?_ ?_; rotate_left 1; (focus (with_reducible (exact sratio_r (1 + n) 100 Zo Zo Zd Zd _))); clear HM; intro w1 HM
 refine hK9 _ _ (heldE HM) ?_; clear hK9 K9
 exact YPgbk1) : P := h
theorem z9_110 {P : Prop} (h : P := by
 refine j_two 14 17 ?_ ?_
 ·exact YPgbk15
 ·refine j_al HM ?_; clear HM; intro bk w1 HM
  refine ⟨(heldE HM), ?_⟩
  exact YPgbk9) : P := h
theorem YPgbk3 {P : Prop} (h : P := by
 refine o_callg (snext_inf W tb _ (300) _ (HM.tp Zl HC.out H0.out hle) Zo Zo) rfl ?_ ?_; (focus (refine h_call2 (ts := ?_) (x1 := ?_) (x2 := ?_) ?_ Zk ?_ ?_; rotate_left 3; (focus rfl); (focus rfl); rfl)); rintro e9 w1 ⟨n, rfl, n0, n1, ⟨c1, hb1, hc1, -, -⟩, hg9⟩; replace HM := HM.put (c' := c1) Zg hb1 (Only.of_grown hg9); clear hg9 hb1; replace HC := Zi hc1; clear hc1; refine ⟨_, rfl, ?_⟩; have HB := fun w => JA.bld (parts := #[(0, .int .i64 p), (1, .string (({ data := #[99] } : ByteArray) ++ Tx.bytes [97 + k])), (2, .string { data := #[65, 67, 77, 69] }), (4, .int .i64 day), (7, .agg (rr (Rat.divInt (1 + n) 100)).c), (8, .string { data := #[85, 83, 68] }), (9, .int .i64 known)]) (r := Jb.ac1 p day known k n { data := #[] } 0 0) (by simp [Value.cells, Rr.size]) (by rw [JA.rows]; rfl) w; have sx := (Jb.ac1 p day known k n { data := #[] } 0 0).sa JA.zero.size
 refine hK9 _ _ (heldE HM) ?_; clear hK9 K9; ((try simp only [Za]); (try simp only [Zx]); (try simp only [Zy]))
 refine k_add 13 (heldE HM) ?_
 exact YPgbk9) : P := h
theorem z9_111 {P : Prop} (h : P := by
 refine j_one 12 fun K9 hK9 => ?_
 exact YPgbk3) : P := h
theorem YPgbk10 {P : Prop} (h : P := by
 refine j_cvb (b := bc) (v := 97 + k) HM Zl Zo ?_
 refine ⟨(heldE HM), ?_⟩; ((try simp only [Za]); (try simp only [Zx]); (try simp only [Zy]))
 refine t_pure (i := 9) (v := .string (({ data := #[99] } : ByteArray) ++ Tx.bytes [97 + k])) rfl rfl Zk (fun _ _ _ h => h) (heldE HM) Zv ?_ ?_; (focus (exact h_cat (s := { data := #[99] }) (t := Tx.bytes [97 + k]) rfl Zw Zw (by show 1 + 1 ≤ _; decide))); ((try simp only [Za]); (try simp only [Zx]); (try simp only [Zy]))
 exact YPgbk6) : P := h
theorem YPgbk4 {P : Prop} (h : P := by
 refine j_one 8 fun K9 hK9 => ?_
 refine j_cvb (b := bc) (v := 97 + k) HM Zl Zo ?_
 refine hK9 _ _ (heldE HM) ?_; clear hK9 K9; ((try simp only [Za]); (try simp only [Zx]); (try simp only [Zy]))
 refine t_pure (i := 9) (v := .string (({ data := #[99] } : ByteArray) ++ Tx.bytes [97 + k])) rfl rfl Zk (fun _ _ _ h => h) (heldE HM) Zv ?_ ?_; (focus (exact h_cat (s := { data := #[99] }) (t := Tx.bytes [97 + k]) rfl Zw Zw (by show 1 + 1 ≤ _; decide))); ((try simp only [Za]); (try simp only [Zx]); (try simp only [Zy]))
 exact YPgbk1) : P := h
theorem YPgbk0 {P : Prop} (h : P := by
 refine j_two 8 14 ?_ ?_
 ·refine j_cvb (b := bc) (v := 97 + k) HM Zl Zo ?_
  refine ⟨(heldE HM), ?_⟩; ((try simp only [Za]); (try simp only [Zx]); (try simp only [Zy]))
  refine t_pure (i := 9) (v := .string (({ data := #[99] } : ByteArray) ++ Tx.bytes [97 + k])) rfl rfl Zk (fun _ _ _ h => h) (heldE HM) Zv ?_ ?_; (focus (exact h_cat (s := { data := #[99] }) (t := Tx.bytes [97 + k]) rfl Zw Zw (by show 1 + 1 ≤ _; decide))); ((try simp only [Za]); (try simp only [Zx]); (try simp only [Zy]))
  exact YPgbk9
 ·refine j_call2 (v := ?_) HM ?_ ?_; rotate_left 1; (focus (with_reducible (exact sratio_r (1 + n) 100 Zo Zo Zd Zd _))); clear HM; intro w1 HM
  refine ⟨(heldE HM), ?_⟩
  exact YPgbk4) : P := h
theorem z9_112 {P : Prop} (h : P := by
 refine three_L (i := 8) (j := 14) (k := 17) Zk (op_L rfl Zv ?_) (op_L rfl Zv ?_) (op_L rfl Zv ?_)
 ·refine j_cvb (b := bc) (v := 97 + k) HM Zl Zo ?_
  refine ⟨(heldE HM), ?_⟩; ((try simp only [Za]); (try simp only [Zx]); (try simp only [Zy]))
  refine t_pure (i := 9) (v := .string (({ data := #[99] } : ByteArray) ++ Tx.bytes [97 + k])) rfl rfl Zk (fun _ _ _ h => h) (heldE HM) Zv ?_ ?_; (focus (exact h_cat (s := { data := #[99] }) (t := Tx.bytes [97 + k]) rfl Zw Zw (by show 1 + 1 ≤ _; decide))); ((try simp only [Za]); (try simp only [Zx]); (try simp only [Zy]))
  refine j_two 14 17 ?_ ?_
  ·exact YPgbk15
  ·refine j_al HM ?_; clear HM; intro bk w1 HM
   refine ⟨(heldE HM), ?_⟩
   exact YPgbk9
 ·refine j_call2 (v := ?_) HM ?_ ?_; rotate_left 1; (focus (with_reducible (exact sratio_r (1 + n) 100 Zo Zo Zd Zd _))); clear HM; intro w1 HM
  refine ⟨(heldE HM), ?_⟩
  refine j_two 8 17 ?_ ?_
  ·exact YPgbk10
  ·refine j_al HM ?_; clear HM; intro bk w1 HM
   refine ⟨(heldE HM), ?_⟩
   exact YPgbk4
 ·refine j_al HM ?_; clear HM; intro bk w1 HM
  refine ⟨(heldE HM), ?_⟩
  exact YPgbk0) : P := h
theorem YPgbk8 {P : Prop} (h : P := by
 refine j_cvb (b := bc) (v := 97 + k) HM Zl Zo ?_
 refine ⟨(heldE HM), ?_⟩; ((try simp only [Za]); (try simp only [Zx]); (try simp only [Zy]))
 refine t_pure (i := 9) (v := .string (({ data := #[99] } : ByteArray) ++ Tx.bytes [97 + k])) rfl rfl Zk (fun _ _ _ h => h) (heldE HM) Zv ?_ ?_; (focus (exact h_cat (s := { data := #[99] }) (t := Tx.bytes [97 + k]) rfl Zw Zw (by show 1 + 1 ≤ _; decide))); ((try simp only [Za]); (try simp only [Zx]); (try simp only [Zy]))
 refine j_one 12 fun K9 hK9 => ?_
 exact YPgbk3) : P := h
theorem YPgbk5 {P : Prop} (h : P := by
 refine o_callg (snext_inf W tb _ (300) _ (HM.tp Zl HC.out H0.out hle) Zo Zo) rfl ?_ ?_; (focus (refine h_call2 (ts := ?_) (x1 := ?_) (x2 := ?_) ?_ Zk ?_ ?_; rotate_left 3; (focus rfl); (focus rfl); rfl)); rintro e9 w1 ⟨n, rfl, n0, n1, ⟨c1, hb1, hc1, -, -⟩, hg9⟩; replace HM := HM.put (c' := c1) Zg hb1 (Only.of_grown hg9); clear hg9 hb1; replace HC := Zi hc1; clear hc1; refine ⟨_, rfl, ?_⟩; have HB := fun w => JA.bld (parts := #[(0, .int .i64 p), (1, .string (({ data := #[99] } : ByteArray) ++ Tx.bytes [97 + k])), (2, .string { data := #[65, 67, 77, 69] }), (4, .int .i64 day), (7, .agg (rr (Rat.divInt (1 + n) 100)).c), (8, .string { data := #[85, 83, 68] }), (9, .int .i64 known)]) (r := Jb.ac1 p day known k n { data := #[] } 0 0) (by simp [Value.cells, Rr.size]) (by rw [JA.rows]; rfl) w; have sx := (Jb.ac1 p day known k n { data := #[] } 0 0).sa JA.zero.size
 refine ⟨(heldE HM), ?_⟩; ((try simp only [Za]); (try simp only [Zx]); (try simp only [Zy]))
 refine k_add 13 (heldE HM) ?_
 exact YPgbk0) : P := h
theorem z9_113 {P : Prop} (h : P := by
 refine j_two 8 12 ?_ ?_
 ·exact YPgbk8
 ·exact YPgbk5) : P := h
theorem z9_114 {P : Prop} (h : P := by
 refine j_two 8 17 ?_ ?_
 ·exact YPgbk10
 ·refine j_al HM ?_; clear HM; intro bk w1 HM
  refine ⟨(heldE HM), ?_⟩
  exact YPgbk4) : P := h
theorem YPgbk11 {P : Prop} (h : P := by
 refine j_one 7 fun K9 hK9 => ?_
 refine j_bs1 (c0 := Tx.b (97 + k)) HM ?_ (hT := elb) (z0 := rfl); clear HM; intro bc w1 HM
 refine hK9 _ _ (heldE HM) ?_; clear hK9 K9; ((try simp only [Za]); (try simp only [Zx]); (try simp only [Zy]))
 exact YPgbk4) : P := h
theorem z9_115 {P : Prop} (h : P := by
 refine ⟨(heldE HM), ?_⟩
 exact YPgbk11) : P := h
theorem YPgbk14 {P : Prop} (h : P := by
 refine j_bs1 (c0 := Tx.b (97 + k)) HM ?_ (hT := elb) (z0 := rfl); clear HM; intro bc w1 HM
 refine ⟨(heldE HM), ?_⟩; ((try simp only [Za]); (try simp only [Zx]); (try simp only [Zy]))
 exact YPgbk0) : P := h
theorem YPgbk16 {P : Prop} (h : P := by
 refine j_call2 (v := ?_) HM ?_ ?_; rotate_left 1; (focus (with_reducible (exact sratio_r (1 + n) 100 Zo Zo Zd Zd _))); clear HM; intro w1 HM
 refine ⟨(heldE HM), ?_⟩
 exact YPgbk11) : P := h
theorem z9_116 {P : Prop} (h : P := by
 refine j_two 7 14 ?_ ?_
 ·exact YPgbk14
 ·exact YPgbk16) : P := h
theorem YPgbk13 {P : Prop} (h : P := by
 refine j_bs1 (c0 := Tx.b (97 + k)) HM ?_ (hT := elb) (z0 := rfl); clear HM; intro bc w1 HM
 refine ⟨(heldE HM), ?_⟩; ((try simp only [Za]); (try simp only [Zx]); (try simp only [Zy]))
 refine j_two 8 12 ?_ ?_
 ·exact YPgbk8
 ·exact YPgbk5) : P := h
theorem YPgbk7 {P : Prop} (h : P := by
 refine o_callg (snext_inf W tb _ (300) _ (HM.tp Zl HC.out H0.out hle) Zo Zo) rfl ?_ ?_; (focus (refine h_call2 (ts := ?_) (x1 := ?_) (x2 := ?_) ?_ Zk ?_ ?_; rotate_left 3; (focus rfl); (focus rfl); rfl)); rintro e9 w1 ⟨n, rfl, n0, n1, ⟨c1, hb1, hc1, -, -⟩, hg9⟩; replace HM := HM.put (c' := c1) Zg hb1 (Only.of_grown hg9); clear hg9 hb1; replace HC := Zi hc1; clear hc1; refine ⟨_, rfl, ?_⟩; have HB := fun w => JA.bld (parts := #[(0, .int .i64 p), (1, .string (({ data := #[99] } : ByteArray) ++ Tx.bytes [97 + k])), (2, .string { data := #[65, 67, 77, 69] }), (4, .int .i64 day), (7, .agg (rr (Rat.divInt (1 + n) 100)).c), (8, .string { data := #[85, 83, 68] }), (9, .int .i64 known)]) (r := Jb.ac1 p day known k n { data := #[] } 0 0) (by simp [Value.cells, Rr.size]) (by rw [JA.rows]; rfl) w; have sx := (Jb.ac1 p day known k n { data := #[] } 0 0).sa JA.zero.size
 refine ⟨(heldE HM), ?_⟩; ((try simp only [Za]); (try simp only [Zx]); (try simp only [Zy]))
 refine k_add 13 (heldE HM) ?_
 refine j_two 7 14 ?_ ?_
 ·exact YPgbk14
 ·exact YPgbk16) : P := h
theorem z9_117 {P : Prop} (h : P := by
 refine j_two 7 12 ?_ ?_
 ·exact YPgbk13
 ·exact YPgbk7) : P := h
theorem YPgbk2 {P : Prop} (h : P := by
 refine o_callg (snext_inf W tb _ (9) _ (HM.tp Zl HC.out H0.out hle) Zo Zo) rfl ?_ ?_; (focus (refine h_call2 (ts := ?_) (x1 := ?_) (x2 := ?_) ?_ Zk ?_ ?_; rotate_left 3; (focus rfl); (focus rfl); rfl)); rintro e9 w1 ⟨v, rfl, v0, v1, ⟨c1, hb1, hc1, -, -⟩, hg9⟩; replace HM := HM.put (c' := c1) Zg hb1 (Only.of_grown hg9); clear hg9 hb1; replace HC := Zi hc1; clear hc1; refine ⟨_, rfl, ?_⟩; obtain ⟨k, rfl⟩ : ∃ k : Nat, v = k := ⟨v.toNat, by omega⟩; have ek : (97 : Int) + (k : Nat) = ((97 + k : Nat) : Int) := by omega
 refine hK9 _ _ (heldE HM) ?_; clear hK9 K9; ((try simp only [Za]); (try simp only [Zx]); (try simp only [Zy]))
 refine k_add 5 (heldE HM) ?_
 refine t_pure (i := 6) (v := .int .u8 ((97 + k : Nat) : Int)) rfl rfl Zk (fun _ _ _ h => h) (heldE HM) Zv ?_ ?_; (focus (exact h_cv rfl (by first | exact congrArg _ ek | (simp only [ek]; rfl) | (show Value.int .i64 _ = _; rw [ek])) (fun w9 => cv_u8 (97 + k) Zo w9))); ((try simp only [Za]); (try simp only [Zx]); (try simp only [Zy]))
 refine j_two 7 12 ?_ ?_
 ·exact YPgbk13
 ·exact YPgbk7) : P := h
theorem z9_118 {P : Prop} (h : P := by
 refine j_one 4 fun K9 hK9 => ?_
 exact YPgbk2) : P := h
theorem z9_119 {P : Prop} (h : P := by
 refine j_one 2 fun K9 hK9 => ?_
 refine o_callg (spick_inf W tb _ (some ⟨bl, 0, none⟩) [2, 2, 1, 3] 4 _ (HM.tp Zl HC.out H0.out hle) (ac_ints_own (HM.get Zl)) (fun b o e => by cases e; exact hne) Zs Zs) rfl ?_ ?_; (focus (refine h_call2 (ts := ?_) (x1 := ?_) (x2 := ?_) ?_ Zk ?_ ?_; rotate_left 3; (focus rfl); (focus rfl); rfl)); rintro e9 w1 ⟨p, rfl, hp, ⟨c1, hb1, hc1, -, -⟩, hg9⟩; replace HM := HM.put (c' := c1) Zg hb1 (Only.of_grown hg9); clear hg9 hb1; replace HC := Zi hc1; clear hc1; refine ⟨_, rfl, ?_⟩
 refine hK9 _ _ (heldE HM) ?_; clear hK9 K9; ((try simp only [Za]); (try simp only [Zx]); (try simp only [Zy]))
 refine j_one 4 fun K9 hK9 => ?_
 exact YPgbk2) : P := h
theorem z9_120 {P : Prop} (h : P := by
 go_wp2_with ((with_reducible refine g_st ?_); refine a_st HM ?_; clear HM; intro w1 HM)
 (refine (sbool_inf W tb _ 6 _ (HM.tp Zl HC.out H0.out hle) Zo Zo).mono ?_; rintro e9 w2 ⟨g, rfl, ⟨c1, hb1, hc1, -, -⟩, hg⟩; replace HM := HM.put (c' := c1) Zg hb1 (Only.of_grown hg); clear hg hb1; replace HC := Zi hc1; clear hc1)
 cases g with
 | true =>
  go_wp2_with (first | ((with_reducible refine g_bld ?_); refine a_rbl (v := .agg (Jb.acv known k).c) ?_ (hy := h_bg3 rfl Zw Zw Zw (by with_reducible exact (BV)))) | ((with_reducible refine g_ld ?_); refine a_ld HM ?_) | ((with_reducible refine g_st ?_); refine a_st HM ?_; clear HM; intro w1 HM))
  refine bodyPost_ret (r_c rfl rfl (HM.get Zl) l8) rfl ⟨_, rfl, HV, TPost.mk' HC HM Zl Zo⟩
 | false =>
  go_wp2_with (first | ((with_reducible refine g_ld ?_); refine a_ld HM ?_) | ((with_reducible refine g_st ?_); refine a_st HM ?_; clear HM; intro w1 HM))
  refine bodyPost_ret (r_c rfl rfl (HM.get Zl) la) rfl ⟨_, rfl, HA, TPost.mk' HC HM Zl Zo⟩) : P := h
theorem z9_121 {P : Prop} (h : P := by
 (refine (sbool_inf W tb _ 6 _ (HM.tp Zl HC.out H0.out hle) Zo Zo).mono ?_; rintro e9 w2 ⟨g, rfl, ⟨c1, hb1, hc1, -, -⟩, hg⟩; replace HM := HM.put (c' := c1) Zg hb1 (Only.of_grown hg); clear hg hb1; replace HC := Zi hc1; clear hc1)
 cases g with
 | true =>
  go_wp2_with (first | ((with_reducible refine g_bld ?_); refine a_rbl (v := .agg (Jb.acv known k).c) ?_ (hy := h_bg3 rfl Zw Zw Zw (by with_reducible exact (BV)))) | ((with_reducible refine g_ld ?_); refine a_ld HM ?_) | ((with_reducible refine g_st ?_); refine a_st HM ?_; clear HM; intro w1 HM))
  refine bodyPost_ret (r_c rfl rfl (HM.get Zl) l8) rfl ⟨_, rfl, HV, TPost.mk' HC HM Zl Zo⟩
 | false =>
  go_wp2_with (first | ((with_reducible refine g_ld ?_); refine a_ld HM ?_) | ((with_reducible refine g_st ?_); refine a_st HM ?_; clear HM; intro w1 HM))
  refine bodyPost_ret (r_c rfl rfl (HM.get Zl) la) rfl ⟨_, rfl, HA, TPost.mk' HC HM Zl Zo⟩) : P := h
end
section
open Jb
namespace Jb
def acme : ByteArray := { data := #[65, 67, 77, 69] }
def core : ByteArray := { data := #[67, 79, 82, 69] }
def usd : ByteArray := { data := #[85, 83, 68] }
def ac1 (p day known : Int) (k : Nat) (n : Int) (into : ByteArray) (nm dn : Int) : JA := ⟨p, k2 99 (97 + k), { data := #[65, 67, 77, 69] }, into, day, nm, dn, rr (Rat.divInt (1 + n) 100), { data := #[85, 83, 68] }, known, false⟩
def acv (known : Int) (k : Nat) : JA := { JA.zero with key := k2 99 (97 + k), kn := known, vd := true }
def ActOk (known : Int) (a : JA) : Prop := a.right = true ∧ a.kn = known ∧ a.wf
theorem acme_paper : paper acme = true := by decide +kernel
theorem core_paper : paper core = true := by decide +kernel
theorem usd_code : code usd = true := by decide +kernel
theorem acv_ok {known : Int} {k : Nat} (hk : Jb.known known = true) : ActOk known (acv known k) := by
 refine ⟨?_, rfl, ?_⟩
 ·unfold JA.right
  have h1 : (acv known k).vd = true := rfl
  have h2 : decide (1 ≤ (acv known k).key.size) = true := rfl
  have h3 : decide ((acv known k).key.size ≤ 64) = true := rfl
  have h4 : (acv known k).kn = known := rfl
  rw [h1, h2, h3, h4, hk, if_pos rfl]
  show (true && (true && true) && JA.b (acv known k) (acv known k)) = true
  rw [JA.b_self]; rfl
 ·exact ⟨(by decide : (2 : Nat) ≤ _), (by decide : (0 : Nat) ≤ _), (by decide : (0 : Nat) ≤ _), (by decide : (0 : Nat) ≤ _)⟩
theorem ac1_ok {p day known : Int} {k : Nat} {n : Int} {into : ByteArray} {nm dn : Int} (hd : Dt.isDay day = true) (hk : Jb.known known = true) (h0 : 0 ≤ n) (h1 : n < 300)
    (h : (p = 1 ∧ into.size = 0 ∧ factor nm = true ∧ factor dn = true) ∨ (p = 2 ∧ into.size = 0 ∧ nm = 0 ∧ dn = 0) ∨ (p = 3 ∧ into = core ∧ factor nm = true ∧ factor dn = true)) : ActOk known (ac1 p day known k n into nm dn) := by
 refine ⟨?_, rfl, ?_⟩
 ·unfold JA.right
  have e1 : decide (1 ≤ (ac1 p day known k n into nm dn).key.size) = true := rfl
  have e2 : decide ((ac1 p day known k n into nm dn).key.size ≤ 64) = true := rfl
  have e3 : (ac1 p day known k n into nm dn).kn = known := rfl
  have e4 : (ac1 p day known k n into nm dn).vd = false := rfl
  have e5 : (ac1 p day known k n into nm dn).ins = acme := rfl
  have e6 : (ac1 p day known k n into nm dn).day = day := rfl
  have e7 : (ac1 p day known k n into nm dn).csh = rr (Rat.divInt (1 + n) 100) := rfl
  have e8 : (ac1 p day known k n into nm dn).cur = usd := rfl
  have e9 : (ac1 p day known k n into nm dn).kd = p := rfl
  have ea : (ac1 p day known k n into nm dn).into = into := rfl
  have eb : (ac1 p day known k n into nm dn).nm = nm := rfl
  have ec : (ac1 p day known k n into nm dn).dn = dn := rfl
  have f1 : price (rr (Rat.divInt (1 + n) 100)) = true := price_r (k := 10000) Zo Zo Zd Zd
  have f2 : Rr.b (rr (Rat.divInt (1 + n) 100)) rat0 = false := rr_no Zo Zd Zo Zd
  rw [e1, e2, e3, e4, e5, e6, e7, e8, e9, ea, eb, ec, hk, hd, f1, f2, acme_paper, usd_code]
  rcases h with ⟨rfl, g1, g2, g3⟩ | ⟨rfl, g1, g2, g3⟩ | ⟨rfl, rfl, g2, g3⟩
  ·rw [g2, g3, Zt g1]; rfl
  ·rw [Zt g1, Zt g2, Zt g3]; rfl
  ·have hne : (core == acme) = false := by decide +kernel
   rw [g2, g3, core_paper, hne]; rfl
 ·refine ⟨(by decide : (2 : Nat) ≤ _), (by decide : (4 : Nat) ≤ _), ?_, (by decide : (3 : Nat) ≤ _)⟩
  show into.size ≤ _
  rcases h with ⟨_, g, _⟩ | ⟨_, g, _⟩ | ⟨_, rfl, _⟩
  ·omega
  ·omega
  ·decide
end Jb
set_option maxRecDepth 100000 in
theorem sact_new {W w0 w : World} {X : List Nat} {L : List (Nat × Array Value)} {tb m : Nat} {cs : Array Value} (HMo : Mem w0 X L w) (hl : Look L tb cs) (hc : TapeC W m cs) (h0 : Below W.heap.size W w0) (hX : ∀ b ∈ X, W.heap.size ≤ b) (day known : Int) (hd : Dt.isDay day = true) (hk : Jb.known known = true) :
    Calls Tryz.prog 22 #[.pointer (some ⟨tb, 0, none⟩), .int .i64 day, .int .i64 known] w fun e w' => ∃ a : JA, e = .returned (.agg a.c) ∧ Hid (Jb.ActOk known a) ∧ TPost W tb (m + 20) w w' := by
 have HM := Mem.start1 w (HMo.get hl)
 have HC := Zi hc
 have HT := HMo.tp hl hc h0 hX
 have H0 : Hid (Below W.heap.size W w) := Zi (by obtain ⟨_, _, _, h, _⟩ := HT; exact h)
 have hle : ∀ b ∈ [tb], W.heap.size ≤ b := by
  exact z9_109
 have HD := Zi hd
 have HK := Zi hk
 clear HT hc h0 hX hl HMo hd hk
 have za0 := JA.za
 have eli : elemB 22 3 1 8 = true := by kernel_rfl
 have elb : elemB 78 5 1 1 = true := by kernel_rfl
 go_enter Tryz.func22, Tryz.ntmps22
 go_upto_region 1 with ((with_reducible refine g_al ?_); refine a_al HM ?_; clear HM; intro bk w1 HM)
 obtain ⟨b6, rfl⟩ := HM.nm0
 go_cut [7] (fun v wc => ∃ (b7 : Nat) (p : Int) (k : Nat) (n : Int) (c : Array Value), v = .pointer (some ⟨b7, 0, none⟩) ∧ p ∈ ([2, 2, 1, 3] : List Int) ∧ k < 9 ∧ 0 ≤ n ∧ n < 300 ∧ Hid (TapeC W (m + 4) c) ∧ Mem w [tb] [(b7, (Jb.ac1 p day known k n { data := #[] } 0 0).c), (b6, JA.zero.c), (tb, c)] wc)
 case first =>
  refine start_M2 [] HM ((Sub.keep Sub.nil)) Zk (fun w0x H9 => ?_)
  replace HM := H9; clear H9
  refine k_mv 0 (heldE HM) ?_
  refine k_mv 3 (heldE HM) ?_
  refine k_mv 10 (heldE HM) ?_
  refine k_mv 11 (heldE HM) ?_
  refine k_mv 15 (heldE HM) ?_
  refine j_two 1 17 ?_ ?_
  ·refine acj_bs4 HM ?_ (hT := eli); clear HM; intro bl w1 HM; have hne := Ac.ne HM (b' := tb) (c' := cs) Zl
   refine ⟨(heldE HM), ?_⟩; ((try simp only [Za]); (try simp only [Zx]); (try simp only [Zy]))
   refine j_two 2 17 ?_ ?_
   ·refine o_callg (spick_inf W tb _ (some ⟨bl, 0, none⟩) [2, 2, 1, 3] 4 _ (HM.tp Zl HC.out H0.out hle) (ac_ints_own (HM.get Zl)) (fun b o e => by cases e; exact hne) Zs Zs) rfl ?_ ?_; (focus (refine h_call2 (ts := ?_) (x1 := ?_) (x2 := ?_) ?_ Zk ?_ ?_; rotate_left 3; (focus rfl); (focus rfl); rfl)); rintro e9 w1 ⟨p, rfl, hp, ⟨c1, hb1, hc1, -, -⟩, hg9⟩; replace HM := HM.put (c' := c1) Zg hb1 (Only.of_grown hg9); clear hg9 hb1; replace HC := Zi hc1; clear hc1; refine ⟨_, rfl, ?_⟩
    refine ⟨(heldE HM), ?_⟩; ((try simp only [Za]); (try simp only [Zx]); (try simp only [Zy]))
    refine j_two 4 17 ?_ ?_
    ·refine o_callg (snext_inf W tb _ (9) _ (HM.tp Zl HC.out H0.out hle) Zo Zo) rfl ?_ ?_; (focus (refine h_call2 (ts := ?_) (x1 := ?_) (x2 := ?_) ?_ Zk ?_ ?_; rotate_left 3; (focus rfl); (focus rfl); rfl)); rintro e9 w1 ⟨v, rfl, v0, v1, ⟨c1, hb1, hc1, -, -⟩, hg9⟩; replace HM := HM.put (c' := c1) Zg hb1 (Only.of_grown hg9); clear hg9 hb1; replace HC := Zi hc1; clear hc1; refine ⟨_, rfl, ?_⟩; obtain ⟨k, rfl⟩ : ∃ k : Nat, v = k := ⟨v.toNat, by omega⟩; have ek : (97 : Int) + (k : Nat) = ((97 + k : Nat) : Int) := by omega
     refine ⟨(heldE HM), ?_⟩; ((try simp only [Za]); (try simp only [Zx]); (try simp only [Zy]))
     refine k_add 5 (heldE HM) ?_
     refine t_pure (i := 6) (v := .int .u8 ((97 + k : Nat) : Int)) rfl rfl Zk (fun _ _ _ h => h) (heldE HM) Zv ?_ ?_; (focus (exact h_cv rfl (by first | exact congrArg _ ek | (simp only [ek]; rfl) | (show Value.int .i64 _ = _; rw [ek])) (fun w9 => cv_u8 (97 + k) Zo w9))); ((try simp only [Za]); (try simp only [Zx]); (try simp only [Zy]))
     refine three_L (i := 7) (j := 12) (k := 17) Zk (op_L rfl Zv ?_) (op_L rfl Zv ?_) (op_L rfl Zv ?_)
     ·refine j_bs1 (c0 := Tx.b (97 + k)) HM ?_ (hT := elb) (z0 := rfl); clear HM; intro bc w1 HM
      refine ⟨(heldE HM), ?_⟩; ((try simp only [Za]); (try simp only [Zx]); (try simp only [Zy]))
      refine three_L (i := 8) (j := 12) (k := 17) Zk (op_L rfl Zv ?_) (op_L rfl Zv ?_) (op_L rfl Zv ?_)
      ·refine j_cvb (b := bc) (v := 97 + k) HM Zl Zo ?_
       refine ⟨(heldE HM), ?_⟩; ((try simp only [Za]); (try simp only [Zx]); (try simp only [Zy]))
       refine t_pure (i := 9) (v := .string (({ data := #[99] } : ByteArray) ++ Tx.bytes [97 + k])) rfl rfl Zk (fun _ _ _ h => h) (heldE HM) Zv ?_ ?_; (focus (exact h_cat (s := { data := #[99] }) (t := Tx.bytes [97 + k]) rfl Zw Zw (by show 1 + 1 ≤ _; decide))); ((try simp only [Za]); (try simp only [Zx]); (try simp only [Zy]))
       refine j_two 12 17 ?_ ?_
       ·refine o_callg (snext_inf W tb _ (300) _ (HM.tp Zl HC.out H0.out hle) Zo Zo) rfl ?_ ?_; (focus (refine h_call2 (ts := ?_) (x1 := ?_) (x2 := ?_) ?_ Zk ?_ ?_; rotate_left 3; (focus rfl); (focus rfl); rfl)); rintro e9 w1 ⟨n, rfl, n0, n1, ⟨c1, hb1, hc1, -, -⟩, hg9⟩; replace HM := HM.put (c' := c1) Zg hb1 (Only.of_grown hg9); clear hg9 hb1; replace HC := Zi hc1; clear hc1; refine ⟨_, rfl, ?_⟩; have HB := fun w => JA.bld (parts := #[(0, .int .i64 p), (1, .string (({ data := #[99] } : ByteArray) ++ Tx.bytes [97 + k])), (2, .string { data := #[65, 67, 77, 69] }), (4, .int .i64 day), (7, .agg (rr (Rat.divInt (1 + n) 100)).c), (8, .string { data := #[85, 83, 68] }), (9, .int .i64 known)]) (r := Jb.ac1 p day known k n { data := #[] } 0 0) (by simp [Value.cells, Rr.size]) (by rw [JA.rows]; rfl) w; have sx := (Jb.ac1 p day known k n { data := #[] } 0 0).sa JA.zero.size
        refine ⟨(heldE HM), ?_⟩; ((try simp only [Za]); (try simp only [Zx]); (try simp only [Zy]))
        refine k_add 13 (heldE HM) ?_
        exact z9_110
       ·refine j_al HM ?_; clear HM; intro bk w1 HM
        refine ⟨(heldE HM), ?_⟩
        exact z9_111
      ·refine o_callg (snext_inf W tb _ (300) _ (HM.tp Zl HC.out H0.out hle) Zo Zo) rfl ?_ ?_; (focus (refine h_call2 (ts := ?_) (x1 := ?_) (x2 := ?_) ?_ Zk ?_ ?_; rotate_left 3; (focus rfl); (focus rfl); rfl)); rintro e9 w1 ⟨n, rfl, n0, n1, ⟨c1, hb1, hc1, -, -⟩, hg9⟩; replace HM := HM.put (c' := c1) Zg hb1 (Only.of_grown hg9); clear hg9 hb1; replace HC := Zi hc1; clear hc1; refine ⟨_, rfl, ?_⟩; have HB := fun w => JA.bld (parts := #[(0, .int .i64 p), (1, .string (({ data := #[99] } : ByteArray) ++ Tx.bytes [97 + k])), (2, .string { data := #[65, 67, 77, 69] }), (4, .int .i64 day), (7, .agg (rr (Rat.divInt (1 + n) 100)).c), (8, .string { data := #[85, 83, 68] }), (9, .int .i64 known)]) (r := Jb.ac1 p day known k n { data := #[] } 0 0) (by simp [Value.cells, Rr.size]) (by rw [JA.rows]; rfl) w; have sx := (Jb.ac1 p day known k n { data := #[] } 0 0).sa JA.zero.size
       refine ⟨(heldE HM), ?_⟩; ((try simp only [Za]); (try simp only [Zx]); (try simp only [Zy]))
       refine k_add 13 (heldE HM) ?_
       exact z9_112
      ·refine j_al HM ?_; clear HM; intro bk w1 HM
       refine ⟨(heldE HM), ?_⟩
       exact z9_113
     ·refine o_callg (snext_inf W tb _ (300) _ (HM.tp Zl HC.out H0.out hle) Zo Zo) rfl ?_ ?_; (focus (refine h_call2 (ts := ?_) (x1 := ?_) (x2 := ?_) ?_ Zk ?_ ?_; rotate_left 3; (focus rfl); (focus rfl); rfl)); rintro e9 w1 ⟨n, rfl, n0, n1, ⟨c1, hb1, hc1, -, -⟩, hg9⟩; replace HM := HM.put (c' := c1) Zg hb1 (Only.of_grown hg9); clear hg9 hb1; replace HC := Zi hc1; clear hc1; refine ⟨_, rfl, ?_⟩; have HB := fun w => JA.bld (parts := #[(0, .int .i64 p), (1, .string (({ data := #[99] } : ByteArray) ++ Tx.bytes [97 + k])), (2, .string { data := #[65, 67, 77, 69] }), (4, .int .i64 day), (7, .agg (rr (Rat.divInt (1 + n) 100)).c), (8, .string { data := #[85, 83, 68] }), (9, .int .i64 known)]) (r := Jb.ac1 p day known k n { data := #[] } 0 0) (by simp [Value.cells, Rr.size]) (by rw [JA.rows]; rfl) w; have sx := (Jb.ac1 p day known k n { data := #[] } 0 0).sa JA.zero.size
      refine ⟨(heldE HM), ?_⟩; ((try simp only [Za]); (try simp only [Zx]); (try simp only [Zy]))
      refine k_add 13 (heldE HM) ?_
      refine three_L (i := 7) (j := 14) (k := 17) Zk (op_L rfl Zv ?_) (op_L rfl Zv ?_) (op_L rfl Zv ?_)
      ·refine j_bs1 (c0 := Tx.b (97 + k)) HM ?_ (hT := elb) (z0 := rfl); clear HM; intro bc w1 HM
       refine ⟨(heldE HM), ?_⟩; ((try simp only [Za]); (try simp only [Zx]); (try simp only [Zy]))
       exact z9_112
      ·refine j_call2 (v := ?_) HM ?_ ?_; rotate_left 1; (focus (with_reducible (exact sratio_r (1 + n) 100 Zo Zo Zd Zd _))); clear HM; intro w1 HM
       refine ⟨(heldE HM), ?_⟩
       refine j_two 7 17 ?_ ?_
       ·refine j_bs1 (c0 := Tx.b (97 + k)) HM ?_ (hT := elb) (z0 := rfl); clear HM; intro bc w1 HM
        refine ⟨(heldE HM), ?_⟩; ((try simp only [Za]); (try simp only [Zx]); (try simp only [Zy]))
        exact z9_114
       ·refine j_al HM ?_; clear HM; intro bk w1 HM
        exact z9_115
      ·refine j_al HM ?_; clear HM; intro bk w1 HM
       refine ⟨(heldE HM), ?_⟩
       exact z9_116
     ·refine j_al HM ?_; clear HM; intro bk w1 HM
      refine ⟨(heldE HM), ?_⟩
      exact z9_117
    ·refine j_al HM ?_; clear HM; intro bk w1 HM
     refine ⟨(heldE HM), ?_⟩
     exact z9_118
   ·refine j_al HM ?_; clear HM; intro bk w1 HM
    refine ⟨(heldE HM), ?_⟩
    exact z9_119
  ·refine j_al HM ?_; clear HM; intro bk w1 HM
   refine ⟨(heldE HM), ?_⟩
   refine j_one 1 fun K9 hK9 => ?_
   refine acj_bs4 HM ?_ (hT := eli); clear HM; intro bl w1 HM; have hne := Ac.ne HM (b' := tb) (c' := cs) Zl
   refine hK9 _ _ (heldE HM) ?_; clear hK9 K9; ((try simp only [Za]); (try simp only [Zx]); (try simp only [Zy]))
   exact z9_119
 case rest =>
  clear HM HC
  obtain ⟨b7, p, k, n, c, rfl, hp, hk, n0, n1, HC, HM⟩ := hcut
  have hp3 : p = 1 ∨ p = 2 ∨ p = 3 := by
   simp only [List.mem_cons, List.not_mem_nil, or_false] at hp
   omega
  clear hp
  have s8 : SA 47 JA.zero.c 0 (.agg (Jb.acv known k).c) (Jb.acv known k).c := (Jb.acv known k).sa JA.zero.size
  have l8 := (Jb.acv known k).la
  have HV := Zi (Jb.acv_ok (k := k) HK.out)
  have BV := fun w => JA.bld (parts := #[(1, .string (Jb.k2 99 (97 + k))), (9, .int .i64 known), (10, .bool true)]) (r := Jb.acv known k) (by simp [Value.cells]) (by rw [JA.rows]; rfl) w
  rcases hp3 with rfl | rfl | rfl
  ·have lk : LA 3 (Jb.ac1 1 day known k n { data := #[] } 0 0).c 0 (.int .i64 1) := (JA.f_kd _).la
   go_step
   go_wp2_with ((with_reducible refine g_ld ?_); refine a_ld HM ?_)
   (refine (spick_newi (tb := tb) (W := W) HM Zl HC.out H0.out (by first | exact hle | simpa using hle) [2, 1, 3] _ Zs Zs).mono ?_; rintro e9 w2 ⟨a, c1, rfl, ha, hc1, hb1, hg⟩; replace HM := HM.put (c' := c1) Zg hb1 hg; clear hg hb1; replace HC := Zi hc1; clear hc1)
   go_wp2_with fail
   (refine (spick_newi (tb := tb) (W := W) HM Zl HC.out H0.out (by first | exact hle | simpa using hle) [1, 2] _ Zs Zs).mono ?_; rintro e9 w2 ⟨e, c1, rfl, he, hc1, hb1, hg⟩; replace HM := HM.put (c' := c1) Zg hb1 hg; clear hg hb1; replace HC := Zi hc1; clear hc1)
   have s1 : SA 3 (Jb.ac1 1 day known k n { data := #[] } 0 0).c 5 (.int .i64 a) (Jb.ac1 1 day known k n { data := #[] } a 0).c := JA.s_nm _ a
   have s2 : SA 3 (Jb.ac1 1 day known k n { data := #[] } a 0).c 6 (.int .i64 e) (Jb.ac1 1 day known k n { data := #[] } a e).c := JA.s_dn _ e
   have HA := Zi (Jb.ac1_ok (into := { data := #[] }) (nm := a) (dn := e) (k := k) (p := 1) HD.out HK.out n0 n1 (.inl ⟨rfl, rfl, by
    simp only [List.mem_cons, List.not_mem_nil, or_false] at ha
    rcases ha with rfl | rfl | rfl <;> rfl, by
    simp only [List.mem_cons, List.not_mem_nil, or_false] at he
    rcases he with rfl | rfl <;> rfl⟩))
   clear ha he
   have lq : LA 9 (Jb.ac1 1 day known k n { data := #[] } a e).c 1 (.string (Jb.k2 99 (97 + k))) := (JA.f_key _).la
   have la := (Jb.ac1 1 day known k n { data := #[] } a e).la
   have s9 := (Jb.ac1 1 day known k n { data := #[] } a e).sa JA.zero.size
   exact z9_120
  ·have lk : LA 3 (Jb.ac1 2 day known k n { data := #[] } 0 0).c 0 (.int .i64 2) := (JA.f_kd _).la
   have HA := Zi (Jb.ac1_ok (into := { data := #[] }) (nm := 0) (dn := 0) (k := k) (p := 2) HD.out HK.out n0 n1 (.inr (.inl ⟨rfl, rfl, rfl, rfl⟩)))
   have lq : LA 9 (Jb.ac1 2 day known k n { data := #[] } 0 0).c 1 (.string (Jb.k2 99 (97 + k))) := (JA.f_key _).la
   have la := (Jb.ac1 2 day known k n { data := #[] } 0 0).la
   have s9 := (Jb.ac1 2 day known k n { data := #[] } 0 0).sa JA.zero.size
   go_step
   go_wp2_with ((with_reducible refine g_ld ?_); refine a_ld HM ?_)
   exact z9_121
  ·have lk : LA 3 (Jb.ac1 3 day known k n { data := #[] } 0 0).c 0 (.int .i64 3) := (JA.f_kd _).la
   go_step
   go_wp2_with ((with_reducible refine g_ld ?_); refine a_ld HM ?_)
   (refine (spick_newi (tb := tb) (W := W) HM Zl HC.out H0.out (by first | exact hle | simpa using hle) [1, 3] _ Zs Zs).mono ?_; rintro e9 w2 ⟨a, c1, rfl, ha, hc1, hb1, hg⟩; replace HM := HM.put (c' := c1) Zg hb1 hg; clear hg hb1; replace HC := Zi hc1; clear hc1)
   go_wp2_with fail
   (refine (spick_newi (tb := tb) (W := W) HM Zl HC.out H0.out (by first | exact hle | simpa using hle) [1, 2] _ Zs Zs).mono ?_; rintro e9 w2 ⟨e, c1, rfl, he, hc1, hb1, hg⟩; replace HM := HM.put (c' := c1) Zg hb1 hg; clear hg hb1; replace HC := Zi hc1; clear hc1)
   have s0 : SA 9 (Jb.ac1 3 day known k n { data := #[] } 0 0).c 3 (.string { data := #[67, 79, 82, 69] }) (Jb.ac1 3 day known k n { data := #[67, 79, 82, 69] } 0 0).c := JA.s_into _ { data := #[67, 79, 82, 69] }
   have s1 : SA 3 (Jb.ac1 3 day known k n { data := #[67, 79, 82, 69] } 0 0).c 5 (.int .i64 a) (Jb.ac1 3 day known k n { data := #[67, 79, 82, 69] } a 0).c := JA.s_nm _ a
   have s2 : SA 3 (Jb.ac1 3 day known k n { data := #[67, 79, 82, 69] } a 0).c 6 (.int .i64 e) (Jb.ac1 3 day known k n { data := #[67, 79, 82, 69] } a e).c := JA.s_dn _ e
   have HA := Zi (Jb.ac1_ok (into := { data := #[67, 79, 82, 69] }) (nm := a) (dn := e) (k := k) (p := 3) HD.out HK.out n0 n1 (.inr (.inr ⟨rfl, rfl, by
    simp only [List.mem_cons, List.not_mem_nil, or_false] at ha
    rcases ha with rfl | rfl <;> rfl, by
    simp only [List.mem_cons, List.not_mem_nil, or_false] at he
    rcases he with rfl | rfl <;> rfl⟩)))
   clear ha he
   have lq : LA 9 (Jb.ac1 3 day known k n { data := #[67, 79, 82, 69] } a e).c 1 (.string (Jb.k2 99 (97 + k))) := (JA.f_key _).la
   have la := (Jb.ac1 3 day known k n { data := #[67, 79, 82, 69] } a e).la
   have s9 := (Jb.ac1 3 day known k n { data := #[67, 79, 82, 69] } a e).sa JA.zero.size
   exact z9_120
end
end Go.Proofs.YtkiempioeffhbaaGreatDoor
