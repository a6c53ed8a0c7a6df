/- Walks. -/
import Derived.Test.YtkiempioeffhbaaGreatDoorPg32
import Derived.Test.YtkiempioeffhbaaGreatDoorPg33
import Derived.Test.YtkiempioeffhbaaGreatDoorPg35
namespace Go.Proofs.YtkiempioeffhbaaGreatDoor
set_option maxHeartbeats 16000000
open Go.RowKit
set_option maxRecDepth 8000
set_option linter.unusedSimpArgs false
set_option linter.unusedVariables false
section
theorem z9_109 {P : Prop} (h : P := by
 obtain ⟨_, _, _, _, h⟩ := HT
 intro b hb
 rw [List.mem_singleton.1 hb]; exact h) : P := h
end
section
open Jb
section
variable {ops : Array Oper} {rest : List Oper} {a : Act} {w w0 : World} {X : List Nat} {L : List (Nat × Array Value)} {Q : Exit → Act → World → Prop} {d : Option Tmp} {ty t tx e : TypeId} {n by_ : Nat} {ps : String} {af : Array Edge} {g : Option (Nat × Bool)} {x y : Operand}
theorem g_bs6 {x0 x1 x2 x3 x4 x5 : Operand} (h : OpG ops Q rest a w { dst := d, op := .buildSlice t 6 #[(0, x0), (1, x1), (2, x2), (3, x3), (4, x4), (5, x5)], type := ty, pos := ps, after := af, guard := g }) : wpList Tryz.prog ops Q ({ dst := d, op := .buildSlice t 6 #[(0, x0), (1, x1), (2, x2), (3, x3), (4, x4), (5, x5)], type := ty, pos := ps, after := af, guard := g } :: rest) a w := h
theorem a_bs6 {x0 x1 x2 x3 x4 x5 : Operand} {v0 v1 v2 v3 v4 v5 : Value} {c0 c1 c2 c3 c4 c5 : Array Value} {a2 : Nat → Act} (HM : Mem w0 X L w) (h : ∀ b w', Mem w0 X ((b, rowsOf [c0, c1, c2, c3, c4, c5]) :: L) w' → wpList Tryz.prog ops Q rest (a2 b) w') (hT : elemB t e n by_ = true := by with_reducible assumption) (hw : WantT ops { dst := d, op := .buildSlice t 6 #[(0, x0), (1, x1), (2, x2), (3, x3), (4, x4), (5, x5)], type := ty, pos := ps, after := af, guard := g } a := by first | exact Or.inl rfl | exact Or.inr ⟨_, _, _, rfl, rfl, rfl⟩) (h0 : a.eval x0 = v0 := by (conv => lhs; whnf) <;> rfl) (k0 : v0.cells = c0 := by (conv => lhs; whnf) <;> rfl) (z0 : c0.size = n := by (first | assumption | rfl)) (h1 : a.eval x1 = v1 := by (conv => lhs; whnf) <;> rfl) (k1 : v1.cells = c1 := by (conv => lhs; whnf) <;> rfl) (z1 : c1.size = n := by (first | assumption | rfl)) (h2 : a.eval x2 = v2 := by (conv => lhs; whnf) <;> rfl) (k2 : v2.cells = c2 := by (conv => lhs; whnf) <;> rfl) (z2 : c2.size = n := by (first | assumption | rfl)) (h3 : a.eval x3 = v3 := by (conv => lhs; whnf) <;> rfl) (k3 : v3.cells = c3 := by (conv => lhs; whnf) <;> rfl) (z3 : c3.size = n := by (first | assumption | rfl)) (h4 : a.eval x4 = v4 := by (conv => lhs; whnf) <;> rfl) (k4 : v4.cells = c4 := by (conv => lhs; whnf) <;> rfl) (z4 : c4.size = n := by (first | assumption | rfl)) (h5 : a.eval x5 = v5 := by (conv => lhs; whnf) <;> rfl) (k5 : v5.cells = c5 := by (conv => lhs; whnf) <;> rfl) (z5 : c5.size = n := by (first | assumption | rfl)) (hn : 6 * n ≤ 16777216 := by decide) (ha : ∀ b, a.put d (.slice (some ⟨b, 0, none⟩) 6 6) = a2 b := by intro b; ((try simp only [Act.put, Za, Zx, Zy]) <;> rfl)) : OpG ops Q rest a w { dst := d, op := .buildSlice t 6 #[(0, x0), (1, x1), (2, x2), (3, x3), (4, x4), (5, x5)], type := ty, pos := ps, after := af, guard := g } := by
 obtain ⟨i, z, hE⟩ := elemT hT
 refine wpList_step fun K9 hK => ?_
 rw [if_pos hw.wanted]
 have hr := run_bs hE [v0, v1, v2, v3, v4, v5] (by simp [k0, z0, k1, z1, k2, z2, k3, z3, k4, z4, k5, z5]) hn (parts := #[(0, v0), (1, v1), (2, v2), (3, v3), (4, v4), (5, v5)]) rfl w
 unfold Oper.wp
 simp [execOp, List.map_cons, List.map_nil, h0, h1, h2, h3, h4, h5, k0, k1, k2, k3, k4, k5] at hr ⊢
 exact z9_14
end
def TPost (W : World) (tb m : Nat) (w w' : World) : Prop := ∃ c', TapeC W m c' ∧ Blk w' tb c' ∧ Only [tb] w w'
theorem TPost.mk' {W w w' : World} {tb m m' : Nat} {c' : Array Value} {L : List (Nat × Array Value)} (HC : Hid (TapeC W m c')) (HM : Mem w [tb] L w') (hl : Look L tb c') (h : m ≤ m') : TPost W tb m' w w' := ⟨c', HC.out.mono h, HM.get hl, HM.only⟩
namespace Jb
def nil : ByteArray := { data := #[] }
def acc0 : JK := ⟨{ data := #[] }, { data := #[115, 109, 105, 116, 104] }⟩
def acc1 : JK := ⟨{ data := #[] }, { data := #[106, 111, 110, 101, 115] }⟩
def acc2 : JK := ⟨{ data := #[98, 97, 110, 107] }, { data := #[97, 110, 110] }⟩
def acc3 : JK := ⟨{ data := #[98, 97, 110, 107] }, { data := #[98, 111, 98] }⟩
def acc4 : JK := ⟨{ data := #[] }, { data := #[97, 110, 110] }⟩
def acc5 : JK := ⟨{ data := #[] }, { data := #[98, 97, 110, 107] }⟩
def accs : List JK := [acc0, acc1, acc2, acc3, acc4, acc5]
def AccOk (k : JK) : Prop := k.right = true ∧ k.nom.size ≤ 16 ∧ k.hol.size ≤ 16
theorem accs_ok : ∀ k ∈ accs, AccOk k := by
 intro k hk
 simp only [accs, List.mem_cons, List.not_mem_nil, or_false] at hk
 rcases hk with rfl | rfl | rfl | rfl | rfl | rfl <;> exact ⟨by decide +kernel, by decide, by decide⟩
end Jb
theorem sacc_new {W w0 w : World} {X : List Nat} {L : List (Nat × Array Value)} {tb m : Nat} {cs : Array Value} (HMo : Mem w0 X L w) (hl : Look L tb cs) (hc : TapeC W m cs) (h0 : Below W.heap.size W w0) (hX : ∀ b ∈ X, W.heap.size ≤ b) :
    Calls Tryz.prog 21 #[.pointer (some ⟨tb, 0, none⟩)] w fun e w' => ∃ k : JK, e = .returned (.agg k.c) ∧ Hid (Jb.AccOk k) ∧ TPost W tb (m + 4) w w' := by
 have HM := Mem.start1 w (HMo.get hl)
 have HC := Zi hc
 have HT := HMo.tp hl hc h0 hX
 have H0 : Hid (Below W.heap.size W w) := Zi (by obtain ⟨_, _, _, h, _⟩ := HT; exact h)
 have hle : ∀ b ∈ [tb], W.heap.size ≤ b := by
  exact z9_109
 clear HT hc h0 hX hl HMo
 have za0 := JK.za
 have el : elemB 132 51 2 32 = true := by kernel_rfl
 have B0 := fun w => JK.bld (parts := #[(1, .string { data := #[115, 109, 105, 116, 104] })]) (r := Jb.acc0) (by simp [Value.cells]) (by rw [JK.rows]; rfl) w
 have B1 := fun w => JK.bld (parts := #[(1, .string { data := #[106, 111, 110, 101, 115] })]) (r := Jb.acc1) (by simp [Value.cells]) (by rw [JK.rows]; rfl) w
 have B2 := fun w => JK.bld (parts := #[(0, .string { data := #[98, 97, 110, 107] }), (1, .string { data := #[97, 110, 110] })]) (r := Jb.acc2) (by simp [Value.cells]) (by rw [JK.rows]; rfl) w
 have B3 := fun w => JK.bld (parts := #[(0, .string { data := #[98, 97, 110, 107] }), (1, .string { data := #[98, 111, 98] })]) (r := Jb.acc3) (by simp [Value.cells]) (by rw [JK.rows]; rfl) w
 have B4 := fun w => JK.bld (parts := #[(1, .string { data := #[97, 110, 110] })]) (r := Jb.acc4) (by simp [Value.cells]) (by rw [JK.rows]; rfl) w
 have B5 := fun w => JK.bld (parts := #[(1, .string { data := #[98, 97, 110, 107] })]) (r := Jb.acc5) (by simp [Value.cells]) (by rw [JK.rows]; rfl) w
 have z0 := Jb.acc0.size
 have z1 := Jb.acc1.size
 have z2 := Jb.acc2.size
 have z3 := Jb.acc3.size
 have z4 := Jb.acc4.size
 have z5 := Jb.acc5.size
 go_enter Tryz.func21, Tryz.ntmps21
 go_wp2_with (first | ((with_reducible refine g_bld ?_); refine a_rbl (v := .agg Jb.acc0.c) ?_ (hy := h_bg1 rfl Zw (by with_reducible exact (B0)))) | ((with_reducible refine g_bld ?_); refine a_rbl (v := .agg Jb.acc1.c) ?_ (hy := h_bg1 rfl Zw (by with_reducible exact (B1)))) | ((with_reducible refine g_bld ?_); refine a_rbl (v := .agg Jb.acc2.c) ?_ (hy := h_bg2 rfl Zw Zw (by with_reducible exact (B2)))) | ((with_reducible refine g_bld ?_); refine a_rbl (v := .agg Jb.acc3.c) ?_ (hy := h_bg2 rfl Zw Zw (by with_reducible exact (B3)))) | ((with_reducible refine g_bld ?_); refine a_rbl (v := .agg Jb.acc4.c) ?_ (hy := h_bg1 rfl Zw (by with_reducible exact (B4)))) | ((with_reducible refine g_bld ?_); refine a_rbl (v := .agg Jb.acc5.c) ?_ (hy := h_bg1 rfl Zw (by with_reducible exact (B5)))) | ((with_reducible refine g_bs6 ?_); refine a_bs6 HM ?_; clear HM; intro b9 w9 HM) | ((with_reducible refine g_al ?_); refine a_al HM ?_; clear HM; intro bk w1 HM))
 clear B0 B1 B2 B3 B4 B5 z0 z1 z2 z3 z4 z5
 (refine (snext_inf W tb _ _ _ (HM.tp Zl HC.out H0.out hle) Zo Zo).mono ?_; rintro e9 w2 ⟨v, rfl, hv0, hv1, ⟨c1, hb1, hc1, -, -⟩, hg⟩; replace HM := HM.put (c' := c1) Zg hb1 (Only.of_grown hg); clear hg hb1; replace HC := Zi hc1; clear hc1)
 obtain ⟨k, rfl⟩ : ∃ k : Nat, v = k := ⟨v.toNat, by omega⟩
 have hk : k < 6 := by omega
 obtain ⟨x, hx⟩ : ∃ x, Jb.accs[k]? = some x := ⟨_, List.getElem?_eq_getElem hk⟩
 have HX := Zi (Jb.accs_ok x (List.mem_of_getElem? hx))
 have lr : LA 51 (rowsOf [Jb.acc0.c, Jb.acc1.c, Jb.acc2.c, Jb.acc3.c, Jb.acc4.c, Jb.acc5.c]) (k * 2) (.agg x.c) := la_row (l := Jb.accs.map JK.c) Zk Zk (by intro c hc; obtain ⟨y, _, rfl⟩ := List.mem_map.1 hc; exact y.size) (by rw [List.getElem?_map, hx]; rfl)
 have sx := x.sa JK.zero.size
 have lx := x.la
 clear hx
 go_wp2_with (first | ((with_reducible refine g_ld ?_); refine a_ld HM ?_) | ((with_reducible refine g_st ?_); refine a_st HM ?_; clear HM; intro w1 HM))
 refine bodyPost_ret (r_c rfl rfl (HM.get Zl) lx) rfl ⟨x, rfl, HX, TPost.mk' HC HM Zl Zo⟩
theorem sunit_new {W w0 w : World} {X : List Nat} {L : List (Nat × Array Value)} {tb m : Nat} {cs : Array Value} (HMo : Mem w0 X L w) (hl : Look L tb cs) (hc : TapeC W m cs) (h0 : Below W.heap.size W w0) (hX : ∀ b ∈ X, W.heap.size ≤ b) :
    Calls Tryz.prog 25 #[.pointer (some ⟨tb, 0, none⟩)] w fun e w' => ∃ (q : Int), e = .returned (.int .i64 q) ∧ 1 ≤ q ∧ q ≤ 1000000 ∧ TPost W tb (m + 4) w w' := by
 have HM := Mem.start1 w (HMo.get hl)
 have HC := Zi hc
 have HT := HMo.tp hl hc h0 hX
 have H0 : Hid (Below W.heap.size W w) := Zi (by obtain ⟨_, _, _, h, _⟩ := HT; exact h)
 have hle : ∀ b ∈ [tb], W.heap.size ≤ b := by
  exact z9_109
 clear HT hc h0 hX hl HMo
 go_enter Tryz.func25, Tryz.ntmps25
 go_wp2_with fail
 (refine (snext_inf W tb _ _ _ (HM.tp Zl HC.out H0.out hle) Zo Zo).mono ?_; rintro e9 w2 ⟨v, rfl, hv0, hv1, ⟨c1, hb1, hc1, -, -⟩, hg⟩; replace HM := HM.put (c' := c1) Zg hb1 (Only.of_grown hg); clear hg hb1; replace HC := Zi hc1; clear hc1)
 go_wp2_with fail
 (refine (snext_inf W tb _ _ _ (HM.tp Zl HC.out H0.out hle) Zo Zo).mono ?_; rintro e9 w2 ⟨u, rfl, hu0, hu1, ⟨c1, hb1, hc1, -, -⟩, hg⟩; replace HM := HM.put (c' := c1) Zg hb1 (Only.of_grown hg); clear hg hb1; replace HC := Zi hc1; clear hc1)
 go_wp2_with fail
 (refine (snext_inf W tb _ _ _ (HM.tp Zl HC.out H0.out hle) Zo Zo).mono ?_; rintro e9 w2 ⟨y, rfl, hy0, hy1, ⟨c1, hb1, hc1, -, -⟩, hg⟩; replace HM := HM.put (c' := c1) Zg hb1 (Only.of_grown hg); clear hg hb1; replace HC := Zi hc1; clear hc1)
 go_wp2_with fail
 (refine (spick_newi (tb := tb) (W := W) HM Zl HC.out H0.out (by first | exact hle | simpa using hle) [1, 2, 3, 1 + v, 1 + u, 1 + y] _ Zs Zs).mono ?_; rintro e9 w2 ⟨v1, c1, rfl, hv, hc1, hb1, hg⟩; replace HM := HM.put (c' := c1) Zg hb1 hg; clear hg hb1; replace HC := Zi hc1; clear hc1)
 have hx : 1 ≤ v1 ∧ v1 ≤ 1000000 := by
  simp at hv
  omega
 clear hv
 go_wp2_with fail
 go_ret
 exact ⟨v1, rfl, hx.1, hx.2, TPost.mk' HC HM .here Zo⟩
end
section
open Jb
theorem sask_new {W w0 w : World} {X : List Nat} {L : List (Nat × Array Value)} {tb m : Nat} {cs : Array Value} (HMo : Mem w0 X L w) (hl : Look L tb cs) (hc : TapeC W m cs) (h0 : Below W.heap.size W w0) (hX : ∀ b ∈ X, W.heap.size ≤ b) (o : JO) (ha : o.amt = 0) (hu : o.un = 0) :
    Calls Tryz.prog 23 #[.pointer (some ⟨tb, 0, none⟩), .agg o.c] w fun e w' => ∃ kd am un : Int, e = .returned (.agg (JO.c { o with kd := kd, amt := am, un := un })) ∧ Hid (JO.asked { o with kd := kd, amt := am, un := un } = true) ∧ TPost W tb (m + 9) w w' := by
 have HM := Mem.start1 w (HMo.get hl)
 have HC := Zi hc
 have HT := HMo.tp hl hc h0 hX
 have H0 : Hid (Below W.heap.size W w) := Zi (by obtain ⟨_, _, _, h, _⟩ := HT; exact h)
 have hle : ∀ b ∈ [tb], W.heap.size ≤ b := by
  exact z9_109
 clear HT hc h0 hX hl HMo
 obtain ⟨key, acc, fnd, cls, kd0, am0, un0, at9, kn, vd⟩ := o
 obtain rfl : am0 = 0 := ha
 obtain rfl : un0 = 0 := hu
 have za0 := JO.za
 go_enter Tryz.func23, Tryz.ntmps23
 go_wp2_with (first | ((with_reducible refine g_al ?_); refine a_al HM ?_; clear HM; intro bk w1 HM) | ((with_reducible refine g_bx ?_); refine a_bx HM ?_; clear HM; intro bk w1 HM))
 (refine (snext_inf W tb _ _ _ (HM.tp Zl HC.out H0.out hle) Zo Zo).mono ?_; rintro e9 w2 ⟨v, rfl, hv0, hv1, ⟨c1, hb1, hc1, -, -⟩, hg⟩; replace HM := HM.put (c' := c1) Zg hb1 (Only.of_grown hg); clear hg hb1; replace HC := Zi hc1; clear hc1)
 have h5 : v = 0 ∨ v = 1 ∨ v = 2 ∨ v = 3 ∨ v = 4 := by omega
 clear hv0 hv1
 rcases h5 with rfl | rfl | rfl | rfl | rfl
 ·have s1 := JO.s_kd ⟨key, acc, fnd, cls, kd0, 0, 0, at9, kn, vd⟩ 1
  have l1 := (JO.f_kd ⟨key, acc, fnd, cls, 1, 0, 0, at9, kn, vd⟩).la
  go_wp2_with (first | ((with_reducible refine g_ld ?_); refine a_ld HM ?_) | ((with_reducible refine g_st ?_); refine a_st HM ?_; clear HM; intro w1 HM))
  (refine (snext_inf W tb _ _ _ (HM.tp Zl HC.out H0.out hle) Zo Zo).mono ?_; rintro e9 w2 ⟨x, rfl, hx0, hx1, ⟨c1, hb1, hc1, -, -⟩, hg⟩; replace HM := HM.put (c' := c1) Zg hb1 (Only.of_grown hg); clear hg hb1; replace HC := Zi hc1; clear hc1)
  go_wp2_with fail
  (refine (snext_inf W tb _ _ _ (HM.tp Zl HC.out H0.out hle) Zo Zo).mono ?_; rintro e9 w2 ⟨y, rfl, hy0, hy1, ⟨c1, hb1, hc1, -, -⟩, hg⟩; replace HM := HM.put (c' := c1) Zg hb1 (Only.of_grown hg); clear hg hb1; replace HC := Zi hc1; clear hc1)
  go_wp2_with fail
  (refine (spick_newi (tb := tb) (W := W) HM Zl HC.out H0.out (by first | exact hle | simpa using hle) [1, 99, 1000, 1 + x, 1 + y] _ Zs Zs).mono ?_; rintro e9 w2 ⟨v1, c1, rfl, hv, hc1, hb1, hg⟩; replace HM := HM.put (c' := c1) Zg hb1 hg; clear hg hb1; replace HC := Zi hc1; clear hc1)
  have hx : 1 ≤ v1 ∧ v1 ≤ 1000000000000000 := by
   simp at hv
   omega
  have HA : Hid (JO.asked ⟨key, acc, fnd, cls, 1, v1, 0, at9, kn, vd⟩ = true) := Zi (by unfold JO.asked Jb.amount; simp [hx.1, hx.2])
  clear hv hx
  have s2 := JO.s_amt ⟨key, acc, fnd, cls, 1, 0, 0, at9, kn, vd⟩ v1
  have l8 := (⟨key, acc, fnd, cls, 1, v1, 0, at9, kn, vd⟩ : JO).la
  have s9 := (⟨key, acc, fnd, cls, 1, v1, 0, at9, kn, vd⟩ : JO).sa JO.zero.size
  have l9 := (⟨key, acc, fnd, cls, 1, v1, 0, at9, kn, vd⟩ : JO).la
  go_wp2_with (first | ((with_reducible refine g_ld ?_); refine a_ld HM ?_) | ((with_reducible refine g_st ?_); refine a_st HM ?_; clear HM; intro w1 HM))
  refine bodyPost_ret (r_c rfl rfl (HM.get Zl) l9) rfl ⟨1, v1, 0, rfl, HA, TPost.mk' HC HM Zl Zo⟩
 ·have s1 := JO.s_kd ⟨key, acc, fnd, cls, kd0, 0, 0, at9, kn, vd⟩ 2
  have l1 := (JO.f_kd ⟨key, acc, fnd, cls, 2, 0, 0, at9, kn, vd⟩).la
  go_wp2_with (first | ((with_reducible refine g_ld ?_); refine a_ld HM ?_) | ((with_reducible refine g_st ?_); refine a_st HM ?_; clear HM; intro w1 HM))
  (refine (sunit_new (tb := tb) HM Zl HC.out H0.out hle).mono ?_; rintro e9 w2 ⟨q, rfl, q0, q1, ⟨c1, hc1, hb1, hg9⟩⟩; replace HM := HM.put (c' := c1) Zg hb1 hg9; clear hg9 hb1; replace HC := Zi hc1; clear hc1)
  have HA : Hid (JO.asked ⟨key, acc, fnd, cls, 2, 0, q, at9, kn, vd⟩ = true) := Zi (by unfold JO.asked Jb.amount; simp [q0]; omega)
  have s2 := JO.s_un ⟨key, acc, fnd, cls, 2, 0, 0, at9, kn, vd⟩ q
  have l8 := (⟨key, acc, fnd, cls, 2, 0, q, at9, kn, vd⟩ : JO).la
  have s9 := (⟨key, acc, fnd, cls, 2, 0, q, at9, kn, vd⟩ : JO).sa JO.zero.size
  have l9 := (⟨key, acc, fnd, cls, 2, 0, q, at9, kn, vd⟩ : JO).la
  go_wp2_with (first | ((with_reducible refine g_ld ?_); refine a_ld HM ?_) | ((with_reducible refine g_st ?_); refine a_st HM ?_; clear HM; intro w1 HM))
  refine bodyPost_ret (r_c rfl rfl (HM.get Zl) l9) rfl ⟨2, 0, q, rfl, HA, TPost.mk' HC HM Zl Zo⟩
 ·have s1 := JO.s_kd ⟨key, acc, fnd, cls, kd0, 0, 0, at9, kn, vd⟩ 3
  have l1 := (JO.f_kd ⟨key, acc, fnd, cls, 3, 0, 0, at9, kn, vd⟩).la
  go_wp2_with (first | ((with_reducible refine g_ld ?_); refine a_ld HM ?_) | ((with_reducible refine g_st ?_); refine a_st HM ?_; clear HM; intro w1 HM))
  (refine (sunit_new (tb := tb) HM Zl HC.out H0.out hle).mono ?_; rintro e9 w2 ⟨q, rfl, q0, q1, ⟨c1, hc1, hb1, hg9⟩⟩; replace HM := HM.put (c' := c1) Zg hb1 hg9; clear hg9 hb1; replace HC := Zi hc1; clear hc1)
  have HA : Hid (JO.asked ⟨key, acc, fnd, cls, 3, 0, q, at9, kn, vd⟩ = true) := Zi (by unfold JO.asked Jb.amount; simp [q0]; omega)
  have s2 := JO.s_un ⟨key, acc, fnd, cls, 3, 0, 0, at9, kn, vd⟩ q
  have l8 := (⟨key, acc, fnd, cls, 3, 0, q, at9, kn, vd⟩ : JO).la
  have s9 := (⟨key, acc, fnd, cls, 3, 0, q, at9, kn, vd⟩ : JO).sa JO.zero.size
  have l9 := (⟨key, acc, fnd, cls, 3, 0, q, at9, kn, vd⟩ : JO).la
  go_wp2_with (first | ((with_reducible refine g_ld ?_); refine a_ld HM ?_) | ((with_reducible refine g_st ?_); refine a_st HM ?_; clear HM; intro w1 HM))
  refine bodyPost_ret (r_c rfl rfl (HM.get Zl) l9) rfl ⟨3, 0, q, rfl, HA, TPost.mk' HC HM Zl Zo⟩
 ·have s1 := JO.s_kd ⟨key, acc, fnd, cls, kd0, 0, 0, at9, kn, vd⟩ 4
  have l1 := (JO.f_kd ⟨key, acc, fnd, cls, 4, 0, 0, at9, kn, vd⟩).la
  go_wp2_with (first | ((with_reducible refine g_ld ?_); refine a_ld HM ?_) | ((with_reducible refine g_st ?_); refine a_st HM ?_; clear HM; intro w1 HM))
  (refine (snext_inf W tb _ _ _ (HM.tp Zl HC.out H0.out hle) Zo Zo).mono ?_; rintro e9 w2 ⟨x, rfl, hx0, hx1, ⟨c1, hb1, hc1, -, -⟩, hg⟩; replace HM := HM.put (c' := c1) Zg hb1 (Only.of_grown hg); clear hg hb1; replace HC := Zi hc1; clear hc1)
  go_wp2_with fail
  (refine (snext_inf W tb _ _ _ (HM.tp Zl HC.out H0.out hle) Zo Zo).mono ?_; rintro e9 w2 ⟨y, rfl, hy0, hy1, ⟨c1, hb1, hc1, -, -⟩, hg⟩; replace HM := HM.put (c' := c1) Zg hb1 (Only.of_grown hg); clear hg hb1; replace HC := Zi hc1; clear hc1)
  go_wp2_with fail
  (refine (spick_newi (tb := tb) (W := W) HM Zl HC.out H0.out (by first | exact hle | simpa using hle) [1, 99, 1000, 1 + x, 1 + y] _ Zs Zs).mono ?_; rintro e9 w2 ⟨v1, c1, rfl, hv, hc1, hb1, hg⟩; replace HM := HM.put (c' := c1) Zg hb1 hg; clear hg hb1; replace HC := Zi hc1; clear hc1)
  have hx : 1 ≤ v1 ∧ v1 ≤ 1000000000000000 := by
   simp at hv
   omega
  have HA : Hid (JO.asked ⟨key, acc, fnd, cls, 4, v1, 0, at9, kn, vd⟩ = true) := Zi (by unfold JO.asked Jb.amount; simp [hx.1, hx.2])
  clear hv hx
  have s2 := JO.s_amt ⟨key, acc, fnd, cls, 4, 0, 0, at9, kn, vd⟩ v1
  have l8 := (⟨key, acc, fnd, cls, 4, v1, 0, at9, kn, vd⟩ : JO).la
  have s9 := (⟨key, acc, fnd, cls, 4, v1, 0, at9, kn, vd⟩ : JO).sa JO.zero.size
  have l9 := (⟨key, acc, fnd, cls, 4, v1, 0, at9, kn, vd⟩ : JO).la
  go_wp2_with (first | ((with_reducible refine g_ld ?_); refine a_ld HM ?_) | ((with_reducible refine g_st ?_); refine a_st HM ?_; clear HM; intro w1 HM))
  refine bodyPost_ret (r_c rfl rfl (HM.get Zl) l9) rfl ⟨4, v1, 0, rfl, HA, TPost.mk' HC HM Zl Zo⟩
 ·have s1 := JO.s_kd ⟨key, acc, fnd, cls, kd0, 0, 0, at9, kn, vd⟩ 5
  have l1 := (JO.f_kd ⟨key, acc, fnd, cls, 5, 0, 0, at9, kn, vd⟩).la
  have HA : Hid (JO.asked ⟨key, acc, fnd, cls, 5, 0, 0, at9, kn, vd⟩ = true) := Zi (by unfold JO.asked; simp)
  have l8 := (⟨key, acc, fnd, cls, 5, 0, 0, at9, kn, vd⟩ : JO).la
  have s9 := (⟨key, acc, fnd, cls, 5, 0, 0, at9, kn, vd⟩ : JO).sa JO.zero.size
  have l9 := (⟨key, acc, fnd, cls, 5, 0, 0, at9, kn, vd⟩ : JO).la
  go_wp2_with (first | ((with_reducible refine g_ld ?_); refine a_ld HM ?_) | ((with_reducible refine g_st ?_); refine a_st HM ?_; clear HM; intro w1 HM))
  refine bodyPost_ret (r_c rfl rfl (HM.get Zl) l9) rfl ⟨5, 0, 0, rfl, HA, TPost.mk' HC HM Zl Zo⟩
end
section
open Jb
theorem Tx.txt_small {N k : Nat} (h : N < 10 ^ k) (hk : 0 < k) : (Tx.txt false N).size ≤ k := by
 unfold Tx.txt
 by_cases h0 : N = 0
 ·rw [if_pos h0, Tx.str_len]; exact hk
 ·rw [if_neg h0, if_neg Bool.false_ne_true, Tx.str_len, List.length_reverse]
  exact Tx.dig_len h
def acic (x : Int) : Array Value := #[.int .i64 x]
theorem acic_sizes (A : List Int) : ∀ c ∈ A.map acic, c.size = 1 := by
 intro c hc
 obtain ⟨x, _, rfl⟩ := List.mem_map.1 hc
 rfl
theorem ac_ints_own {w : World} {b : Nat} {ds : List Int} (hb : Blk w b (rowsOf (ds.map acic))) : IntsAt w (some ⟨b, 0, none⟩) ds := by
 refine .inr ⟨b, 0, rfl, hb.lt, fun j hj => ?_⟩
 rw [Nat.zero_add, hb.cell j]
 have := rows_at (acic_sizes ds) (k := j) (j := 0) (c := acic ds[j]) (by rw [List.getElem?_map, List.getElem?_eq_getElem hj]; rfl) Zd
 rw [Nat.one_mul, Nat.add_zero] at this
 rw [this, List.getD_eq_getElem?_getD, List.getElem?_eq_getElem hj]; rfl
theorem Ac.ne {w0 w : World} {X : List Nat} {b b' : Nat} {c c' : Array Value} {L : List (Nat × Array Value)} (h : Mem w0 X ((b, c) :: L) w) (hl : Look L b' c') : b ≠ b' := fun e => by
 subst e
 exact (List.nodup_cons.1 h.nod).1 (List.mem_map.2 ⟨_, hl.mem, rfl⟩)
section
variable {Q : Exit → Act → World → Prop} {w w0 : World} {X : List Nat} {L : List (Nat × Array Value)} {oi : Oper} {d : Tmp} {a : Act} {R : Act → World → Prop}
theorem acj_bs4 {t e : TypeId} {by_ : Nat} {x0 x1 x2 x3 : Operand} {v0 v1 v2 v3 : Int} {a2 : Nat → Act} (HM : Mem w0 X L w) (h : ∀ b w', Mem w0 X ((b, rowsOf ([v0, v1, v2, v3].map acic)) :: L) w' → R (a2 b) w') (hd : oi.dst = some d := by rfl) (ho : oi.op = .buildSlice t 4 #[(0, x0), (1, x1), (2, x2), (3, x3)] := by rfl) (hT : elemB t e 1 by_ = true := by with_reducible assumption) (h0 : a.eval x0 = .int .i64 v0 := by (conv => lhs; whnf) <;> rfl) (h1 : a.eval x1 = .int .i64 v1 := by (conv => lhs; whnf) <;> rfl) (h2 : a.eval x2 = .int .i64 v2 := by (conv => lhs; whnf) <;> rfl) (h3 : a.eval x3 = .int .i64 v3 := by (conv => lhs; whnf) <;> rfl) (ha : ∀ b, ({ a with tmps := a.tmps.setIfInBounds d (.slice (some ⟨b, 0, none⟩) 4 4) } : Act) = a2 b := by intro b; ((try simp only [Za, Zx, Zy]) <;> rfl)) : Oper.wp Tryz.prog oi a w R Q := by
 obtain ⟨i, z, hE⟩ := elemT hT
 have hr := run_bs hE [.int .i64 v0, .int .i64 v1, .int .i64 v2, .int .i64 v3] (by simp [Value.cells]) Zs (parts := #[(0, .int .i64 v0), (1, .int .i64 v1), (2, .int .i64 v2), (3, .int .i64 v3)]) rfl w
 unfold Oper.wp execOp
 simp [ho, h0, h1, h2, h3] at hr ⊢
 simp only [hr, Result.andThen]
 rw [Oper.upon_value, hd]
 have h9 := h _ _ (HM.new (rowsOf ([v0, v1, v2, v3].map acic)) e)
 rw [← ha] at h9
 exact h9
end
namespace Jb
open Classical in
theorem price_q {q : Int} (h0 : 0 ≤ q) (h1 : q ≤ 1000000000000) : price (rr (Rat.divInt q 1000000)) = true := by
 obtain ⟨y, hy⟩ : ∃ y, y = Rat.divInt q 1000000 := ⟨_, rfl⟩
 have hp : Ac.p10 6 = 1000000 := by decide
 have hy2 : y.num * 1000000 = q * y.den := by
  have h9 := hy
  conv at h9 => lhs; rw [← Rat.num_divInt_den y]
  rwa [Rat.divInt_eq_divInt_iff (Rt.den_ne y) Zd] at h9
 have hd := Ac.den_pos y
 have e40 : Bg.p2 41 = 2199023255552 := by unfold Bg.p2; rfl
 have hF : Rt.Fit y := by rw [hy]; exact (Rt.Bd.divInt (i := 41) (j := 41) Zd Zo (by rw [e40]; decide)).fit
 rw [← hy]
 unfold price
 refine Zt ⟨y, ⟨hF, rr_c hF⟩, ?_, ?_, ?_⟩
 ·unfold Ac.Txt
  have hre : Ac.re y 6 = 0 := by
   unfold Ac.re
   rw [hp, hy2]
   exact Int.mul_emod_left _ _
  have hlo : Ac.lo y 6 = q := by
   unfold Ac.lo
   rw [hp, hy2]
   exact Int.mul_ediv_cancel _ Zo
  rw [hre, hlo]
  exact ⟨rfl, Nat.le_trans (Tx.txt_small (k := 13) Zo Zd) Zd⟩
 ·rw [hy, Rat.divInt_eq_div]
  have e3 : ((1000000 : Int) : Rat) = 1000000 := rfl
  have e0 : ((0 : Int) : Rat) ≤ ((q : Int) : Rat) := Rat.intCast_le_intCast.2 h0
  have e1 : ((0 : Int) : Rat) = 0 := rfl
  rw [e3]
  grind
 ·rw [hy, Rat.divInt_eq_div]
  have e3 : ((1000000 : Int) : Rat) = 1000000 := rfl
  have e4 : ((1000000000 : Int) : Rat) = 1000000000 := rfl
  have e0 : ((q : Int) : Rat) ≤ ((1000000000000 : Int) : Rat) := Rat.intCast_le_intCast.2 h1
  have e1 : ((1000000000000 : Int) : Rat) = 1000000000000 := rfl
  rw [e3, e4]
  grind
theorem price_r {n d k : Int} (h0 : 0 ≤ n) (h1 : n ≤ 1000000) (hd : 0 < d) (hk : d * k = 1000000) : price (rr (Rat.divInt n d)) = true := by
 have k0 : 0 < k := by
  rcases Int.lt_or_le 0 k with h | h
  ·exact h
  ·have := Int.mul_nonpos_of_nonneg_of_nonpos (Int.le_of_lt hd) h; omega
 have e : Rat.divInt n d = Rat.divInt (n * k) 1000000 := by
  rw [Rat.divInt_eq_divInt_iff Zo Zd, ← hk, Int.mul_assoc, Int.mul_comm k d]
 rw [e]
 have hk1 : k ≤ 1000000 := by
  have := Int.mul_le_mul_of_nonneg_right (show 1 ≤ d by omega) (Int.le_of_lt k0)
  omega
 refine price_q (Int.mul_nonneg h0 (Int.le_of_lt k0)) ?_
 have h2 : n * k ≤ 1000000 * k := Int.mul_le_mul_of_nonneg_right h1 (Int.le_of_lt k0)
 omega
theorem rr_no {n d : Int} (h0 : 0 < n) (hd : 0 < d) (h1 : n ≤ 1000000000) (hd1 : d ≤ 1000000) : Rr.b (rr (Rat.divInt n d)) rat0 = false := by
 obtain ⟨y, hy⟩ : ∃ y, y = Rat.divInt n d := ⟨_, rfl⟩
 have e40 : Bg.p2 41 = 2199023255552 := by unfold Bg.p2; rfl
 have hF : Rt.Fit y := by rw [hy]; exact (Rt.Bd.divInt (i := 41) (j := 41) Zo Zo Zo).fit
 have hn : y.num ≠ 0 := by
  intro e
  have h9 := hy
  conv at h9 => lhs; rw [← Rat.num_divInt_den y]
  rw [Rat.divInt_eq_divInt_iff (Rt.den_ne y) Zo, e, Int.zero_mul] at h9
  have hd2 := Ac.den_pos y
  have := Int.mul_pos h0 hd2
  omega
 rw [← hy]
 unfold rr
 rw [dif_pos ⟨lt480_lim hF.1, lt480_lim hF.2⟩]
 unfold Rr.b rat0
 refine Bool.eq_false_iff.2 (fun h => ?_)
 simp only [Bool.and_eq_true, decide_eq_true_eq] at h
 have h9 : y.num.natAbs = 0 := h.1.2.1
 omega
def k2 (a b : Nat) : ByteArray := Tx.bytes [a, b]
end Jb
theorem sratio_r (n d : Int) (h1 : 0 ≤ n) (h2 : n ≤ 1000000000) (d1 : 1 ≤ d) (d2 : d ≤ 1000000) (w : World) :
    Calls Tryz.prog 19 #[.int .i64 n, .int .i64 d] w fun r w' => r = .returned (.agg (rr (Rat.divInt n d)).c) ∧ Below w.heap.size w w' := by
 have e40 : Bg.p2 41 = 2199023255552 := by unfold Bg.p2; rfl
 rw [rr_c (Rt.Bd.divInt (i := 41) (j := 41) Zo Zo Zo).fit]
 exact sratio_any n d _ Zo Zo d1 Zo (Zi rfl) w
section
variable {Q : Exit → Act → World → Prop} {w w0 : World} {X : List Nat} {L : List (Nat × Array Value)} {oi : Oper} {o : Oper} {d : Tmp} {a a2 : Act} {R : Act → World → Prop} {x y : Operand} {T T2 : TypeId}
theorem j_cvb {b v : Nat} (HM : Mem w0 X L w) (hl : Look L b (rowsOf [Tx.b v])) (hv : v < 256) (h : R a2 w) (hd : oi.dst = some d := by rfl) (ho : oi.op = .convert 78 9 x := by rfl) (hx : a.eval x = .slice (some ⟨b, 0, none⟩) 1 1 := by (conv => lhs; whnf) <;> rfl) (ha : ({ a with tmps := a.tmps.setIfInBounds d (.string (Tx.bytes [v])) } : Act) = a2 := by ((try simp only [Za, Zx, Zy]) <;> rfl)) : Oper.wp Tryz.prog oi a w R Q := by
 have hc := conv_b (w := w) (b := b) (l := [v]) (sp := []) (HM.get hl) (by simp [Tx.b]) (by simpa using hv) 1
 unfold Oper.wp execOp
 simp only [ho, hx, Sem.run_bind]
 simp only [List.length_singleton] at hc
 rw [hc]
 simp only [Result.andThen_ok, Sem.run_pure, Oper.upon_value]
 rw [hd]
 rw [← ha] at h
 exact h
theorem cv_u8 (k : Nat) (h : k < 256) (w : World) : (convert 3 5 (.int .i64 (k : Nat))).run Tryz.prog w = .ok (.int .u8 (k : Nat)) w := by
 go_simp
 first | done | (rw [IntWalk.u8_in _ Zo]) | (congr 1; simp [IntKind.wrap]; omega)
theorem h_cat {s t : ByteArray} (ho : o.op = .binOp .add 9 x y T2) (hx : a.eval x = .string s) (hy : a.eval y = .string t) (hs : s.size + t.size ≤ 9223372036854775807) : ∀ w, (execOp a.eval o).run Tryz.prog w = .ok (.value (.string (s ++ t))) w :=
 h_bin ho hx hy (fun w => by go_simp)
end
end
end Go.Proofs.YtkiempioeffhbaaGreatDoor
