/- Walks. -/
import Derived.Maps.OwnSet
import Derived.Maps.StringElems
import Derived.Test.YtkiempioeffhbaaGreatDoorPg40
namespace Go.Proofs.YtkiempioeffhbaaGreatDoor
set_option maxHeartbeats 16000000
set_option maxRecDepth 8000
set_option linter.unusedSimpArgs false
set_option linter.unusedVariables false
section
theorem z9_145 {P : Prop} (h : P := by
 refine j_one 5 fun K9 hK9 => ?_
 refine o_callg (snext_inf W tb _ (2) _ (HM.tp Zl HC.out H0.out hle) Zo Zo) rfl ?_ ?_; (focus (refine h_call2 (ts := ?_) (x1 := ?_) (x2 := ?_) ?_ Zk ?_ ?_; rotate_left 3; (focus rfl); (focus rfl); rfl)); rintro e9 w1 ⟨u, rfl, u0, u1, ⟨c1, hb1, hc1, -, -⟩, hg9⟩; replace HM := HM.put (c' := c1) Zg hb1 (Only.of_grown hg9); clear hg9 hb1; replace HC := Zi hc1; clear hc1; refine ⟨_, rfl, ?_⟩; obtain ⟨k, rfl⟩ : ∃ k : Nat, u = k := ⟨u.toNat, by omega⟩; have lp := Jb.pap_at (k := k) Zo
 refine hK9 _ _ (heldE HM) ?_; clear hK9 K9; ((try simp only [Za]); (try simp only [Zx]); (try simp only [Zy]))
 refine k_ia 6 (heldE HM) ?_
 refine k_ld 7 [] (heldE HM) ?_
 refine k_mv 8 (heldE HM) ?_
 refine k_mv 9 (heldE HM) ?_
 refine wpAnyL_done Zk ?_ _
 (exact hQ (1 + v) (Jb.pap k) _ _ _ _ _ _ _ _ _ _ _ Zo Zo (Jb.pap_paper k) (by rw [Jb.pap_size]; decide) HC HM.pick)) : P := h
theorem z9_146 {P : Prop} (h : P := by
 refine k_mv 9 (heldE HM) ?_
 refine wpAnyL_done Zk ?_ _
 (exact hQ (1 + v) (Jb.pap k) _ _ _ _ _ _ _ _ _ _ _ Zo Zo (Jb.pap_paper k) (by rw [Jb.pap_size]; decide) HC HM.pick)) : P := h
theorem z9_147 {P : Prop} (h : P := by
 refine hK9 _ _ (heldE HM) ?_; clear hK9 K9; ((try simp only [Za]); (try simp only [Zx]); (try simp only [Zy]))
 refine k_mv 6 (heldE HM) ?_
 refine j_one 9 fun K9 hK9 => ?_
 refine j_lks HS Jb.alpha betac Zd (by decide +kernel) ?_
 refine hK9 _ _ (heldE HM) ?_; clear hK9 K9; ((try simp only [Za]); (try simp only [Zx]); (try simp only [Zy]))
 refine k_mv 11 (heldE HM) ?_
 refine wpAnyL_done Zk ?_ _
 (exact hQ _ betac _ _ _ _ _ _ _ _ _ h20.1 h20.2 (by decide +kernel) Zd HM)) : P := h
theorem z9_148 {P : Prop} (h : P := by
 refine hK9 _ _ (heldE HM) ?_; clear hK9 K9; ((try simp only [Za]); (try simp only [Zx]); (try simp only [Zy]))
 refine k_mv 6 (heldE HM) ?_
 refine j_one 9 fun K9 hK9 => ?_
 refine j_lks HS Jb.beta alphaa Zd (by decide +kernel) ?_
 refine hK9 _ _ (heldE HM) ?_; clear hK9 K9; ((try simp only [Za]); (try simp only [Zx]); (try simp only [Zy]))
 refine k_mv 11 (heldE HM) ?_
 refine wpAnyL_done Zk ?_ _
 (exact hQ _ alphaa _ _ _ _ _ _ _ _ _ h20.1 h20.2 (by decide +kernel) Zd HM)) : P := h
theorem YPgbq0 {P : Prop} (h : P := by
 refine t_pure (i := 27) (v := .agg (JR.c (rE f.nm (⟨1, k2 116 (97 + k), day, day + v, pp, n, -n * (500 + z), usd, (l.length : Int) + 1, false⟩ : JE)))) rfl rfl Zk (fun _ _ _ h => h) (heldE HM) Zv ?_ ?_; (focus (exact h_bg3 rfl Zw Zw Zw HR)); ((try simp only [Za]); (try simp only [Zx]); (try simp only [Zy]))
 refine j_one 28 fun K9 hK9 => ?_
 refine j_bs1 (c0 := (rE f.nm (⟨1, k2 116 (97 + k), day, day + v, pp, n, -n * (500 + z), usd, (l.length : Int) + 1, false⟩ : JE)).c) HM ?_ (z0 := JR.size _) (hT := elr); clear HM; intro b9 w1 HM
 refine hK9 _ _ (heldE HM) ?_; clear hK9 K9; ((try simp only [Za]); (try simp only [Zx]); (try simp only [Zy]))
 refine j_one 29 fun K9 hK9 => ?_
 refine j_app (m := [(rE f.nm (⟨1, k2 116 (97 + k), day, day + v, pp, n, -n * (500 + z), usd, (l.length : Int) + 1, false⟩ : JE)).c]) (F := fun X => (bc, rowsOf [Tx.b (97 + k)]) :: (b13, x.c) :: (b12, f.c) :: (b4, uc) :: (tb, c1) :: X) HM HS.out ((SlAt.made1 b9 (JR.size _)).rd HM Zs) ?_ (jr_one _) (hT := elr) (hTx := elr) (hlen := hcap _); clear HM; intro s9 B9 w9 HSS HM; obtain ⟨hsl, HSS⟩ := app_len HSS
 refine hK9 _ _ (heldE HM) ?_; clear hK9 K9; ((try simp only [Za]); (try simp only [Zx]); (try simp only [Zy]))
 refine k_mv 30 (heldE HM) ?_
 refine wpAnyL_done Zk ?_ _
 (exact hQ s9 _ _ _ B9 _ _ _ _ _ _ _ _ _ _ _ _ _ _ _ _ _ _ _ _ _ _ _ _ _ _ _ _ _ _ _ HJ2 (Zi HSS) HC hsl HM.pick)) : P := h
theorem z9_149 {P : Prop} (h : P := by
 refine j_one 20 fun K9 hK9 => ?_
 refine o_callg (snext_inf W tb _ (1500) _ (HM.tp Zl HC.out H0.out hle) Zo Zo) rfl ?_ ?_; (focus (refine h_call2 (ts := ?_) (x1 := ?_) (x2 := ?_) ?_ Zk ?_ ?_; rotate_left 3; (focus rfl); (focus rfl); rfl)); rintro e9 w1 ⟨z, rfl, z0, z1, ⟨c1, hb1, hc1, -, -⟩, hg9⟩; replace HM := HM.put (c' := c1) Zg hb1 (Only.of_grown hg9); clear hg9 hb1; replace HC := Zi hc1; clear hc1; refine ⟨_, rfl, ?_⟩; have hm : -400000 ≤ -n * (500 + z) ∧ -n * (500 + z) ≤ 400000 := trade_in n0 n1 z0 z1; have HB := fun w => JE.bld (parts := #[(0, .int .i64 1), (1, .string (({ data := #[116] } : ByteArray) ++ Tx.bytes [97 + k])), (2, .int .i64 day), (3, .int .i64 (day + v)), (4, .string pp), (5, .int .i64 n), (6, .int .i64 (-n * (500 + z))), (7, .string { data := #[85, 83, 68] }), (8, .int .i64 ((l.length : Int) + 1))]) (r := (⟨1, k2 116 (97 + k), day, day + v, pp, n, -n * (500 + z), usd, (l.length : Int) + 1, false⟩ : JE)) (by simp [Value.cells]) (by rw [JE.rows]; rfl) w; have HR := fun w => JR.bld (parts := #[(0, .int .i64 3), (1, .string f.nm), (5, .agg (JE.c (⟨1, k2 116 (97 + k), day, day + v, pp, n, -n * (500 + z), usd, (l.length : Int) + 1, false⟩ : JE)))]) (r := rE f.nm (⟨1, k2 116 (97 + k), day, day + v, pp, n, -n * (500 + z), usd, (l.length : Int) + 1, false⟩ : JE)) (by simp [Value.cells, JE.size]) (by rw [JR.rows]; rfl) w; have HJ2 : Hid (Jb.Jn (l ++ [rE f.nm (⟨1, k2 116 (97 + k), day, day + v, pp, n, -n * (500 + z), usd, (l.length : Int) + 1, false⟩ : JE)]) day last) := Zi (HJ.out.putE (f := f.nm) hl40 (e_right hpp (by rw [HL1.out]; exact HJ.out.kn) Zo Zo Zo n0 Zo Zo Zo) HL1.out ⟨(by decide : (2 : Nat) ≤ _), Nat.le_trans hps Zd, (by decide : (3 : Nat) ≤ _)⟩ hfn)
 refine hK9 _ _ (heldE HM) ?_; clear hK9 K9; ((try simp only [Za]); (try simp only [Zx]); (try simp only [Zy]))
 refine k_add 21 (heldE HM) ?_
 refine k_mul 22 (heldE HM) ?_
 refine t_pure (i := 26) (v := .agg (JE.c (⟨1, k2 116 (97 + k), day, day + v, pp, n, -n * (500 + z), usd, (l.length : Int) + 1, false⟩ : JE))) rfl rfl Zk (fun _ _ _ h => h) (heldE HM) Zv ?_ ?_; (focus (exact h_bg9 rfl Zw Zw Zw Zw Zw Zw Zw Zw Zw HB)); ((try simp only [Za]); (try simp only [Zx]); (try simp only [Zy]))
 exact YPgbq0) : P := h
theorem z9_150 {P : Prop} (h : P := by
 refine t_pure (i := 26) (v := .agg (JE.c (⟨1, k2 116 (97 + k), day, day + v, pp, n, -n * (500 + z), usd, (l.length : Int) + 1, false⟩ : JE))) rfl rfl Zk (fun _ _ _ h => h) (heldE HM) Zv ?_ ?_; (focus (exact h_bg9 rfl Zw Zw Zw Zw Zw Zw Zw Zw Zw HB)); ((try simp only [Za]); (try simp only [Zx]); (try simp only [Zy]))
 exact YPgbq0) : P := h
end
section
open Go.RowKit Go.Maps
open Jb
theorem und_tmap : Tryz.prog.underlying 96 = some (.map 9 9) := Tryz.underlying96
theorem str_zero (w : World) : (zeroValue 9).run Tryz.prog w = .ok (.string { data := #[] }) w := by kernel_rfl
def SView (D : DataW Unit) (f : ByteArray → Option ByteArray) : Prop := ∀ (s : ByteArray) (z : DataW Unit), D.atKey (.string s.data.toList) z = ((f s).map fun t : ByteArray => DataW.lit (.string t.data.toList)).getD z
def SMap (w : World) (b n : Nat) (f : ByteArray → Option ByteArray) : Prop :=
 ∃ D : DataW Unit, w.ownsMap Tryz.prog 9 (plainElem Tryz.prog 9) b n D ∧ SView D f
theorem SMap.made (w : World) : SMap (w.alloc (.map #[] 0)) w.heap.size 0 (fun _ => none) := ⟨.map [], World.ownsMap_made _ _ _ _, fun _ _ => rfl⟩
theorem SView.put {D : DataW Unit} {f : ByteArray → Option ByteArray} (h : SView D f) (hD : IsMap D) (s t : ByteArray) : SView (D.put (.string s.data.toList) (.lit (.string t.data.toList))) (fun q => if s = q then some t else f q) := by
 intro q z
 by_cases e : s = q
 ·subst e
  rw [atKey_put_same hD (by simp [WideAt.IsKeyLit])]
  simp
 ·rw [atKey_put_other (fun h => e (As.key_inj (by injection h with h; exact h.symm)))]
  simp only [if_neg e]
  exact h q z
section
variable {Q : Exit → Act → World → Prop} {w w0 : World} {X : List Nat} {L : List (Nat × Array Value)} {oi : Oper} {d : Tmp} {a : Act} {R : Act → World → Prop} {x y z : Operand} {b n : Nat} {f : ByteArray → Option ByteArray}
theorem j_mkm {a2 : Nat → Act} (HM : Mem w0 X L w) (h : ∀ b w', SMap w' b 0 (fun _ => none) → Mem w0 X L w' → w0.heap.size ≤ b → (∀ p ∈ L, p.1 ≠ b) → R (a2 b) w') (hd : oi.dst = some d := by rfl) (ho : oi.op = .makeMap 96 none := by rfl) (ha : ∀ b, ({ a with tmps := a.tmps.setIfInBounds d (.map (some b)) } : Act) = a2 b := by intro b; ((try simp only [Za, Zx, Zy]) <;> rfl)) : Oper.wp Tryz.prog oi a w R Q := by
 unfold Oper.wp execOp
 simp [ho, run_makeMap, Result.andThen]
 rw [Oper.upon_value, hd]
 have h9 := h _ _ (SMap.made w) (HM.call ⟨rfl, rfl, rfl, Nat.le_trans (Nat.le_succ _) (Nat.le_of_eq (alloc_sz w _)), fun k hk => Below.heap_alloc w _ k hk⟩) HM.only.size (fun p hp e => by have := (HM.blk p hp).lt; omega)
 rw [← ha] at h9
 exact h9
theorem j_ins {u : Nat} (HM : Mem w0 X L w) (HS : SMap w b u f) (hb : w0.heap.size ≤ b) (hL : ∀ p ∈ L, p.1 ≠ b) (s t : ByteArray) (hs : s.size ≤ maxLen) (ht : t.size ≤ maxLen) (hu : u < maxLen) (h : ∀ w', SMap w' b (u + 1) (fun q => if s = q then some t else f q) → Mem w0 X L w' → R a w') (hd : oi.dst = none := by rfl) (ho : oi.op = .insert 96 x y z := by rfl) (hx : a.eval x = .map (some b) := by (conv => lhs; whnf) <;> rfl) (hy : a.eval y = .string s := by (conv => lhs; whnf) <;> rfl) (hz : a.eval z = .string t := by (conv => lhs; whnf) <;> rfl) : Oper.wp Tryz.prog oi a w R Q := by
 obtain ⟨D, h1, h2⟩ := HS
 have hD := h1.isMap
 obtain ⟨w', hrun, k1, k2⟩ := h1.update str_law und_tmap hu (key_mk hs) (plainElem_string Tryz.underlying9 ht)
 unfold Oper.wp execOp
 simp [ho, hx, hy, hz, hrun, Result.andThen]
 have h9 := h w' ⟨_, k1, h2.put hD s t⟩ (HM.side k2 hb hL)
 first | exact h9 | (rw [Oper.upon_skip, hd]; exact h9) | (simp [Oper.upon, hd, Act.put]; exact h9)
theorem j_lks {a2 : Act} {u : Nat} (HS : SMap w b u f) (s t : ByteArray) (hs : s.size ≤ maxLen) (ht : f s = some t) (h : R a2 w) (hd : oi.dst = some d := by rfl) (ho : oi.op = .lookup 96 x y false := by rfl) (hx : a.eval x = .map (some b) := by (conv => lhs; whnf) <;> rfl) (hy : a.eval y = .string s := by (conv => lhs; whnf) <;> rfl) (ha : ({ a with tmps := a.tmps.setIfInBounds d (.string t) } : Act) = a2 := by ((try simp only [Za, Zx, Zy]) <;> rfl)) : Oper.wp Tryz.prog oi a w R Q := by
 obtain ⟨D, h1, h2⟩ := HS
 obtain ⟨v, ps, hrun, hv⟩ := h1.lookup str_law und_tmap (str_zero w) (plainElem_string Tryz.underlying9 Zd) (key_mk hs)
 rw [h2 s, ht] at hv
 obtain ⟨t2, rfl, e2, _⟩ := plainElem_string_inv Tryz.underlying9 hv
 have e3 : t2 = t := by
  simp only [Option.map_some, Option.getD_some, Prod.mk.injEq] at e2
  have e4 := e2.1
  injection e4 with e4
  injection e4 with e4
  exact ByteArray.ext (Array.toList_inj.1 e4.symm)
 subst e3
 unfold Oper.wp execOp
 simp [ho, hx, hy, hrun, Result.andThen]
 rw [Oper.upon_value, hd]
 rw [← ha] at h
 exact h
end
theorem jr29 {W w0 w : World} {tb b4 : Nat} {uc : Array Value} {B : List (Nat × Array Value)} {b12 b13 : Nat} {f : WF} {x : WK} {c : Array Value} {m : Nat} {A7 : Option Addr} {l : List JR} {n7 : Nat} {day last : Int} {Q : Exit → Act → World → Prop} {x1 x2 x3 x5 x6 x9 x10 x11 x14 x15 x16 x17 x18 x19 x20 x21 x22 x23 x24 x25 x26 x27 x28 x29 x30 x31 x32 x33 x34 x35 x36 x37 x38 x39 x40 x41 x42 x43 x44 x45 x46 x47 x48 x49 x50 x51 x52 x53 x54 x55 x56 x57 x58 x59 x60 x61 x62 x63 x64 x65 x66 x67 x68 x69 x70 x71 x72 x73 x74 x75 x76 x77 x78 x79 x80 x81 x82 x83 x84 x85 x86 x87 x88 x89 x90 x91 x92 x93 x94 x95 x96 x97 x98 x99 x100 x101 x102 x103 x104 x105 x106 x107 x108 x109 x110 x111 x112 x113 x114 x115 x116 x117 x118 x119 x120 x121 x122 x123 x124 x125 x126 x127 x128 x129 x130 x131 x132 x133 x134 x135 x136 x137 x138 x139 x140 x141 x142 x143 x144 x145 x146 x147 x148 x149 x150 x151 x152 x153 x154 x155 x156 x157 x158 x159 x160 x161 x162 x163 x164 x165 x166 x167 x168 x169 x170 x171 x172 x173 x174 x175 x176 x177 x178 x179 x180 x181 x182 x183 x184 x185 x186 x187 x188 x189 x190 x191 x192 x193 x194 x195 x196 x197 x198 x199 x200 x201 x202 x203 x204 x205 x206 x207 x208 x209 x210 x211 x212 x213 x214 x215 x216 x217 x218 x219 x220 x221 x222 x223 x224 x225 x226 x227 x228 x229 x230 x231 x232 x233 x234 x235 x236 x237 x238 x239 x240 x241 x242 x243 x244 x245 x246 x247 x248 x249 x250 x251 x252 x253 x254 x255 x256 x257 x258 x259 x260 x261 x262 x263 x264 x265 x266 x267 x268 x269 x270 x271 x272 x273 x274 x275 x276 x277 x278 x279 x280 x281 x282 x283 x284 x285 x286 x287 x288 x289 x290 x291 x292 x293 x294 x295 x296 x297 x298 x299 x300 x301 x302 x303 x304 x305 x306 x307 x308 x309 x310 x311 x312 x313 x314 x315 x316 x317 x318 x319 x320 x321 x322 x323 x324 x325 x326 : Value} (HM : Mem w0 [tb] ((b13, x.c) :: (b12, f.c) :: (b4, uc) :: (tb, c) :: B) w) (HC : Hid (TapeC W m c)) (H0 : Hid (Below W.heap.size W w0)) (hle : ∀ b ∈ [tb], W.heap.size ≤ b)
    (hQ : ∀ (n : Int) (pp : ByteArray) (c9 : Array Value) (m9 : Nat) (y206 y207 y208 y209 y210 y211 y212 y213 : Value) (w9 : World), 1 ≤ n → n ≤ 200 → paper pp = true → pp.size ≤ 12 → Hid (TapeC W m9 c9) → Mem w0 [tb] ((b13, x.c) :: (b12, f.c) :: (b4, uc) :: (tb, c9) :: B) w9 → Q .normal { tmps := #[.pointer (some ⟨tb, 0, none⟩), x1, x2, x3, .pointer (some ⟨b4, 0, none⟩), x5, x6, .slice A7 l.length n7, .int .i64 day, x9, x10, x11, .pointer (some ⟨b12, 0, none⟩), .pointer (some ⟨b13, 0, none⟩), x14, .int .i64 n, .string pp, x17, x18, x19, x20, x21, x22, x23, x24, x25, x26, x27, x28, x29, x30, x31, x32, x33, x34, x35, x36, x37, x38, x39, x40, x41, x42, x43, x44, x45, x46, x47, x48, x49, x50, x51, x52, x53, x54, x55, x56, x57, x58, x59, x60, x61, x62, x63, x64, x65, x66, x67, x68, x69, x70, x71, x72, x73, x74, x75, x76, x77, x78, x79, x80, x81, x82, x83, x84, x85, x86, x87, x88, x89, x90, x91, x92, x93, x94, x95, x96, x97, x98, x99, x100, x101, x102, x103, x104, x105, x106, x107, x108, x109, x110, x111, x112, x113, x114, x115, x116, x117, x118, x119, x120, x121, x122, x123, x124, x125, x126, x127, x128, x129, x130, x131, x132, x133, x134, x135, x136, x137, x138, x139, x140, x141, x142, x143, x144, x145, x146, x147, x148, x149, x150, x151, x152, x153, x154, x155, x156, x157, x158, x159, x160, x161, x162, x163, x164, x165, x166, x167, x168, x169, x170, x171, x172, x173, x174, x175, x176, x177, x178, x179, x180, x181, x182, x183, x184, x185, x186, x187, x188, x189, x190, x191, x192, x193, x194, x195, x196, x197, x198, x199, x200, x201, x202, x203, x204, x205, y206, y207, y208, y209, y210, y211, y212, y213, x214, x215, x216, x217, x218, x219, x220, x221, x222, x223, x224, x225, x226, x227, x228, x229, x230, x231, x232, x233, x234, x235, x236, x237, x238, x239, x240, x241, x242, x243, x244, x245, x246, x247, x248, x249, x250, x251, x252, x253, x254, x255, x256, x257, x258, x259, x260, x261, x262, x263, x264, x265, x266, x267, x268, x269, x270, x271, x272, x273, x274, x275, x276, x277, x278, x279, x280, x281, x282, x283, x284, x285, x286, x287, x288, x289, x290, x291, x292, x293, x294, x295, x296, x297, x298, x299, x300, x301, x302, x303, x304, x305, x306, x307, x308, x309, x310, x311, x312, x313, x314, x315, x316, x317, x318, x319, x320, x321, x322, x323, x324, x325, x326], defers := [] } w9) :
    (Code.region 29 (opsJ 29) true).wp Tryz.prog Q { tmps := #[.pointer (some ⟨tb, 0, none⟩), x1, x2, x3, .pointer (some ⟨b4, 0, none⟩), x5, x6, .slice A7 l.length n7, .int .i64 day, x9, x10, x11, .pointer (some ⟨b12, 0, none⟩), .pointer (some ⟨b13, 0, none⟩), x14, x15, x16, x17, x18, x19, x20, x21, x22, x23, x24, x25, x26, x27, x28, x29, x30, x31, x32, x33, x34, x35, x36, x37, x38, x39, x40, x41, x42, x43, x44, x45, x46, x47, x48, x49, x50, x51, x52, x53, x54, x55, x56, x57, x58, x59, x60, x61, x62, x63, x64, x65, x66, x67, x68, x69, x70, x71, x72, x73, x74, x75, x76, x77, x78, x79, x80, x81, x82, x83, x84, x85, x86, x87, x88, x89, x90, x91, x92, x93, x94, x95, x96, x97, x98, x99, x100, x101, x102, x103, x104, x105, x106, x107, x108, x109, x110, x111, x112, x113, x114, x115, x116, x117, x118, x119, x120, x121, x122, x123, x124, x125, x126, x127, x128, x129, x130, x131, x132, x133, x134, x135, x136, x137, x138, x139, x140, x141, x142, x143, x144, x145, x146, x147, x148, x149, x150, x151, x152, x153, x154, x155, x156, x157, x158, x159, x160, x161, x162, x163, x164, x165, x166, x167, x168, x169, x170, x171, x172, x173, x174, x175, x176, x177, x178, x179, x180, x181, x182, x183, x184, x185, x186, x187, x188, x189, x190, x191, x192, x193, x194, x195, x196, x197, x198, x199, x200, x201, x202, x203, x204, x205, x206, x207, x208, x209, x210, x211, x212, x213, x214, x215, x216, x217, x218, x219, x220, x221, x222, x223, x224, x225, x226, x227, x228, x229, x230, x231, x232, x233, x234, x235, x236, x237, x238, x239, x240, x241, x242, x243, x244, x245, x246, x247, x248, x249, x250, x251, x252, x253, x254, x255, x256, x257, x258, x259, x260, x261, x262, x263, x264, x265, x266, x267, x268, x269, x270, x271, x272, x273, x274, x275, x276, x277, x278, x279, x280, x281, x282, x283, x284, x285, x286, x287, x288, x289, x290, x291, x292, x293, x294, x295, x296, x297, x298, x299, x300, x301, x302, x303, x304, x305, x306, x307, x308, x309, x310, x311, x312, x313, x314, x315, x316, x317, x318, x319, x320, x321, x322, x323, x324, x325, x326], defers := [] } w := by
 refine Qn.run ?_
 unfold opsJ
 conv => enter [2, 2]; whnf
 have els : elemB 80 9 1 16 = true := by kernel_rfl
 refine start_M2 [] HM ((Sub.keep (Sub.keep (Sub.keep Sub.nil)))) Zk (fun w0x H9 => ?_)
 replace HM := H9; clear H9
 refine k_mv 0 (heldE HM) ?_
 refine k_mv 4 (heldE HM) ?_
 refine j_two 1 3 ?_ ?_
 ·refine o_callg (snext_inf W tb _ (200) _ (HM.tp Zl HC.out H0.out hle) Zo Zo) rfl ?_ ?_; (focus (refine h_call2 (ts := ?_) (x1 := ?_) (x2 := ?_) ?_ Zk ?_ ?_; rotate_left 3; (focus rfl); (focus rfl); rfl)); rintro e9 w1 ⟨v, rfl, v0, v1, ⟨c1, hb1, hc1, -, -⟩, hg9⟩; replace HM := HM.put (c' := c1) Zg hb1 (Only.of_grown hg9); clear hg9 hb1; replace HC := Zi hc1; clear hc1; refine ⟨_, rfl, ?_⟩
  refine ⟨(heldE HM), ?_⟩; ((try simp only [Za]); (try simp only [Zx]); (try simp only [Zy]))
  refine k_add 2 (heldE HM) ?_
  refine j_two 3 5 ?_ ?_
  ·refine j_s2 HM ?_ (hT := els); clear HM; intro bs w1 HM
   refine ⟨(heldE HM), ?_⟩; ((try simp only [Za]); (try simp only [Zx]); (try simp only [Zy]))
   refine k_more ((bs, rowsOf [#[.string { data := #[65, 67, 77, 69] }], #[.string { data := #[67, 79, 82, 69] }]]) :: [(b13, x.c), (b12, f.c), (b4, uc)]) ?_
   exact z9_145
  ·refine o_callg (snext_inf W tb _ (2) _ (HM.tp Zl HC.out H0.out hle) Zo Zo) rfl ?_ ?_; (focus (refine h_call2 (ts := ?_) (x1 := ?_) (x2 := ?_) ?_ Zk ?_ ?_; rotate_left 3; (focus rfl); (focus rfl); rfl)); rintro e9 w1 ⟨u, rfl, u0, u1, ⟨c1, hb1, hc1, -, -⟩, hg9⟩; replace HM := HM.put (c' := c1) Zg hb1 (Only.of_grown hg9); clear hg9 hb1; replace HC := Zi hc1; clear hc1; refine ⟨_, rfl, ?_⟩; obtain ⟨k, rfl⟩ : ∃ k : Nat, u = k := ⟨u.toNat, by omega⟩; have lp := Jb.pap_at (k := k) Zo
   refine ⟨(heldE HM), ?_⟩; ((try simp only [Za]); (try simp only [Zx]); (try simp only [Zy]))
   refine k_mv 8 (heldE HM) ?_
   refine j_one 3 fun K9 hK9 => ?_
   refine j_s2 HM ?_ (hT := els); clear HM; intro bs w1 HM
   refine hK9 _ _ (heldE HM) ?_; clear hK9 K9; ((try simp only [Za]); (try simp only [Zx]); (try simp only [Zy]))
   refine k_more ((bs, rowsOf [#[.string { data := #[65, 67, 77, 69] }], #[.string { data := #[67, 79, 82, 69] }]]) :: [(b13, x.c), (b12, f.c), (b4, uc)]) ?_
   refine k_ia 6 (heldE HM) ?_
   refine k_ld 7 [] (heldE HM) ?_
   exact z9_146
 ·refine j_s2 HM ?_ (hT := els); clear HM; intro bs w1 HM
  refine ⟨(heldE HM), ?_⟩; ((try simp only [Za]); (try simp only [Zx]); (try simp only [Zy]))
  refine k_more ((bs, rowsOf [#[.string { data := #[65, 67, 77, 69] }], #[.string { data := #[67, 79, 82, 69] }]]) :: [(b13, x.c), (b12, f.c), (b4, uc)]) ?_
  refine j_one 1 fun K9 hK9 => ?_
  refine o_callg (snext_inf W tb _ (200) _ (HM.tp Zl HC.out H0.out hle) Zo Zo) rfl ?_ ?_; (focus (refine h_call2 (ts := ?_) (x1 := ?_) (x2 := ?_) ?_ Zk ?_ ?_; rotate_left 3; (focus rfl); (focus rfl); rfl)); rintro e9 w1 ⟨v, rfl, v0, v1, ⟨c1, hb1, hc1, -, -⟩, hg9⟩; replace HM := HM.put (c' := c1) Zg hb1 (Only.of_grown hg9); clear hg9 hb1; replace HC := Zi hc1; clear hc1; refine ⟨_, rfl, ?_⟩
  refine hK9 _ _ (heldE HM) ?_; clear hK9 K9; ((try simp only [Za]); (try simp only [Zx]); (try simp only [Zy]))
  refine k_add 2 (heldE HM) ?_
  exact z9_145
def betac : ByteArray := { data := #[66, 69, 84, 65, 67] }
def alphaa : ByteArray := { data := #[65, 76, 80, 72, 65, 65] }
theorem jr31 {W w0 w : World} {tb b4 : Nat} {uc : Array Value} {B : List (Nat × Array Value)} {b12 b13 : Nat} {f : WF} {x : WK} {c : Array Value} {m : Nat} {A7 : Option Addr} {l : List JR} {n7 : Nat} {day last : Int} {n : Int} {Q : Exit → Act → World → Prop} {x1 x2 x3 x5 x6 x9 x10 x11 x14 x16 x17 x18 x19 x20 x21 x22 x23 x24 x25 x26 x27 x28 x29 x30 x31 x32 x33 x34 x35 x36 x37 x38 x39 x40 x41 x42 x43 x44 x45 x46 x47 x48 x49 x50 x51 x52 x53 x54 x55 x56 x57 x58 x59 x60 x61 x62 x63 x64 x65 x66 x67 x68 x69 x70 x71 x72 x73 x74 x75 x76 x77 x78 x79 x80 x81 x82 x83 x84 x85 x86 x87 x88 x89 x90 x91 x92 x93 x94 x95 x96 x97 x98 x99 x100 x101 x102 x103 x104 x105 x106 x107 x108 x109 x110 x111 x112 x113 x114 x115 x116 x117 x118 x119 x120 x121 x122 x123 x124 x125 x126 x127 x128 x129 x130 x131 x132 x133 x134 x135 x136 x137 x138 x139 x140 x141 x142 x143 x144 x145 x146 x147 x148 x149 x150 x151 x152 x153 x154 x155 x156 x157 x158 x159 x160 x161 x162 x163 x164 x165 x166 x167 x168 x169 x170 x171 x172 x173 x174 x175 x176 x177 x178 x179 x180 x181 x182 x183 x184 x185 x186 x187 x188 x189 x190 x191 x192 x193 x194 x195 x196 x197 x198 x199 x200 x201 x202 x203 x204 x205 x206 x207 x208 x209 x210 x211 x212 x213 x214 x215 x216 x217 x218 x219 x220 x221 x222 x223 x224 x225 x226 x227 x228 x229 x230 x231 x232 x233 x234 x235 x236 x237 x238 x239 x240 x241 x242 x243 x244 x245 x246 x247 x248 x249 x250 x251 x252 x253 x254 x255 x256 x257 x258 x259 x260 x261 x262 x263 x264 x265 x266 x267 x268 x269 x270 x271 x272 x273 x274 x275 x276 x277 x278 x279 x280 x281 x282 x283 x284 x285 x286 x287 x288 x289 x290 x291 x292 x293 x294 x295 x296 x297 x298 x299 x300 x301 x302 x303 x304 x305 x306 x307 x308 x309 x310 x311 x312 x313 x314 x315 x316 x317 x318 x319 x320 x321 x322 x323 x324 x325 x326 : Value} (HM : Mem w0 [tb] ((b13, x.c) :: (b12, f.c) :: (b4, uc) :: (tb, c) :: B) w) (hnm : f.nm = Jb.alpha ∨ f.nm = Jb.beta) (n0 : 1 ≤ n) (n1 : n ≤ 200)
    (hQ : ∀ (n2 : Int) (pp : ByteArray) (y226 y227 y228 y229 y230 y231 y232 y233 : Value) (w9 : World), 1 ≤ n2 → n2 ≤ 20 → paper pp = true → pp.size ≤ 12 → Mem w0 [tb] ((b13, x.c) :: (b12, f.c) :: (b4, uc) :: (tb, c) :: B) w9 → Q .normal { tmps := #[.pointer (some ⟨tb, 0, none⟩), x1, x2, x3, .pointer (some ⟨b4, 0, none⟩), x5, x6, .slice A7 l.length n7, .int .i64 day, x9, x10, x11, .pointer (some ⟨b12, 0, none⟩), .pointer (some ⟨b13, 0, none⟩), x14, .int .i64 n2, .string pp, x17, x18, x19, x20, x21, x22, x23, x24, x25, x26, x27, x28, x29, x30, x31, x32, x33, x34, x35, x36, x37, x38, x39, x40, x41, x42, x43, x44, x45, x46, x47, x48, x49, x50, x51, x52, x53, x54, x55, x56, x57, x58, x59, x60, x61, x62, x63, x64, x65, x66, x67, x68, x69, x70, x71, x72, x73, x74, x75, x76, x77, x78, x79, x80, x81, x82, x83, x84, x85, x86, x87, x88, x89, x90, x91, x92, x93, x94, x95, x96, x97, x98, x99, x100, x101, x102, x103, x104, x105, x106, x107, x108, x109, x110, x111, x112, x113, x114, x115, x116, x117, x118, x119, x120, x121, x122, x123, x124, x125, x126, x127, x128, x129, x130, x131, x132, x133, x134, x135, x136, x137, x138, x139, x140, x141, x142, x143, x144, x145, x146, x147, x148, x149, x150, x151, x152, x153, x154, x155, x156, x157, x158, x159, x160, x161, x162, x163, x164, x165, x166, x167, x168, x169, x170, x171, x172, x173, x174, x175, x176, x177, x178, x179, x180, x181, x182, x183, x184, x185, x186, x187, x188, x189, x190, x191, x192, x193, x194, x195, x196, x197, x198, x199, x200, x201, x202, x203, x204, x205, x206, x207, x208, x209, x210, x211, x212, x213, x214, x215, x216, x217, x218, x219, x220, x221, x222, x223, x224, x225, y226, y227, y228, y229, y230, y231, y232, y233, x234, x235, x236, x237, x238, x239, x240, x241, x242, x243, x244, x245, x246, x247, x248, x249, x250, x251, x252, x253, x254, x255, x256, x257, x258, x259, x260, x261, x262, x263, x264, x265, x266, x267, x268, x269, x270, x271, x272, x273, x274, x275, x276, x277, x278, x279, x280, x281, x282, x283, x284, x285, x286, x287, x288, x289, x290, x291, x292, x293, x294, x295, x296, x297, x298, x299, x300, x301, x302, x303, x304, x305, x306, x307, x308, x309, x310, x311, x312, x313, x314, x315, x316, x317, x318, x319, x320, x321, x322, x323, x324, x325, x326], defers := [] } w9) :
    (Code.region 31 (opsJ 31) true).wp Tryz.prog Q { tmps := #[.pointer (some ⟨tb, 0, none⟩), x1, x2, x3, .pointer (some ⟨b4, 0, none⟩), x5, x6, .slice A7 l.length n7, .int .i64 day, x9, x10, x11, .pointer (some ⟨b12, 0, none⟩), .pointer (some ⟨b13, 0, none⟩), x14, .int .i64 n, x16, x17, x18, x19, x20, x21, x22, x23, x24, x25, x26, x27, x28, x29, x30, x31, x32, x33, x34, x35, x36, x37, x38, x39, x40, x41, x42, x43, x44, x45, x46, x47, x48, x49, x50, x51, x52, x53, x54, x55, x56, x57, x58, x59, x60, x61, x62, x63, x64, x65, x66, x67, x68, x69, x70, x71, x72, x73, x74, x75, x76, x77, x78, x79, x80, x81, x82, x83, x84, x85, x86, x87, x88, x89, x90, x91, x92, x93, x94, x95, x96, x97, x98, x99, x100, x101, x102, x103, x104, x105, x106, x107, x108, x109, x110, x111, x112, x113, x114, x115, x116, x117, x118, x119, x120, x121, x122, x123, x124, x125, x126, x127, x128, x129, x130, x131, x132, x133, x134, x135, x136, x137, x138, x139, x140, x141, x142, x143, x144, x145, x146, x147, x148, x149, x150, x151, x152, x153, x154, x155, x156, x157, x158, x159, x160, x161, x162, x163, x164, x165, x166, x167, x168, x169, x170, x171, x172, x173, x174, x175, x176, x177, x178, x179, x180, x181, x182, x183, x184, x185, x186, x187, x188, x189, x190, x191, x192, x193, x194, x195, x196, x197, x198, x199, x200, x201, x202, x203, x204, x205, x206, x207, x208, x209, x210, x211, x212, x213, x214, x215, x216, x217, x218, x219, x220, x221, x222, x223, x224, x225, x226, x227, x228, x229, x230, x231, x232, x233, x234, x235, x236, x237, x238, x239, x240, x241, x242, x243, x244, x245, x246, x247, x248, x249, x250, x251, x252, x253, x254, x255, x256, x257, x258, x259, x260, x261, x262, x263, x264, x265, x266, x267, x268, x269, x270, x271, x272, x273, x274, x275, x276, x277, x278, x279, x280, x281, x282, x283, x284, x285, x286, x287, x288, x289, x290, x291, x292, x293, x294, x295, x296, x297, x298, x299, x300, x301, x302, x303, x304, x305, x306, x307, x308, x309, x310, x311, x312, x313, x314, x315, x316, x317, x318, x319, x320, x321, x322, x323, x324, x325, x326], defers := [] } w := by
 refine Qn.run ?_
 unfold opsJ
 conv => enter [2, 2]; whnf
 have h20 : 1 ≤ 1 + n.tmod 20 ∧ 1 + n.tmod 20 ≤ 20 := by
  have h1 : n.tmod 20 < 20 := Int.tmod_lt_of_pos n Zd
  have h2 : 0 ≤ n.tmod 20 := Int.tmod_nonneg _ Zo
  omega
 rcases hnm with hnm | hnm
 case inl =>
  have lfn : LA 9 f.c 0 (.string Jb.alpha) := by
   have h := (f.f_nm).la
   rw [hnm] at h
   exact h
  refine start_M2 [] HM ((Sub.keep (Sub.keep (Sub.keep Sub.nil)))) Zk (fun w0x H9 => ?_)
  replace HM := H9; clear H9
  refine k_mv 0 (heldE HM) ?_
  refine k_bin 1 (heldE HM) ?_
  refine k_add 2 (heldE HM) ?_
  refine k_fa 7 (heldE HM) ?_
  refine k_ld 8 [] (heldE HM) ?_
  refine k_mv 10 (heldE HM) ?_
  refine j_one 3 fun K9 hK9 => ?_
  refine j_mkm HM ?_; clear HM; intro bm w1 HS HM hbm hLm
  refine hK9 _ _ (heldE HM) ?_; clear hK9 K9; ((try simp only [Za]); (try simp only [Zx]); (try simp only [Zy]))
  refine j_two 4 5 ?_ ?_
  ·refine j_ins HM HS hbm hLm Jb.alpha betac Zd Zd Zd ?_; clear HM HS; intro w1 HS HM
   refine ⟨(heldE HM), ?_⟩; ((try simp only [Za]); (try simp only [Zx]); (try simp only [Zy]))
   refine j_one 5 fun K9 hK9 => ?_
   refine j_ins HM HS hbm hLm Jb.beta alphaa Zd Zd Zd ?_; clear HM HS; intro w1 HS HM
   exact z9_147
  ·refine j_ins HM HS hbm hLm Jb.beta alphaa Zd Zd Zd ?_; clear HM HS; intro w1 HS HM
   refine ⟨(heldE HM), ?_⟩; ((try simp only [Za]); (try simp only [Zx]); (try simp only [Zy]))
   refine j_one 4 fun K9 hK9 => ?_
   refine j_ins HM HS hbm hLm Jb.alpha betac Zd Zd Zd ?_; clear HM HS; intro w1 HS HM
   exact z9_147
 case inr =>
  have lfn : LA 9 f.c 0 (.string Jb.beta) := by
   have h := (f.f_nm).la
   rw [hnm] at h
   exact h
  refine start_M2 [] HM ((Sub.keep (Sub.keep (Sub.keep Sub.nil)))) Zk (fun w0x H9 => ?_)
  replace HM := H9; clear H9
  refine k_mv 0 (heldE HM) ?_
  refine k_bin 1 (heldE HM) ?_
  refine k_add 2 (heldE HM) ?_
  refine k_fa 7 (heldE HM) ?_
  refine k_ld 8 [] (heldE HM) ?_
  refine k_mv 10 (heldE HM) ?_
  refine j_one 3 fun K9 hK9 => ?_
  refine j_mkm HM ?_; clear HM; intro bm w1 HS HM hbm hLm
  refine hK9 _ _ (heldE HM) ?_; clear hK9 K9; ((try simp only [Za]); (try simp only [Zx]); (try simp only [Zy]))
  refine j_two 4 5 ?_ ?_
  ·refine j_ins HM HS hbm hLm Jb.alpha betac Zd Zd Zd ?_; clear HM HS; intro w1 HS HM
   refine ⟨(heldE HM), ?_⟩; ((try simp only [Za]); (try simp only [Zx]); (try simp only [Zy]))
   refine j_one 5 fun K9 hK9 => ?_
   refine j_ins HM HS hbm hLm Jb.beta alphaa Zd Zd Zd ?_; clear HM HS; intro w1 HS HM
   exact z9_148
  ·refine j_ins HM HS hbm hLm Jb.beta alphaa Zd Zd Zd ?_; clear HM HS; intro w1 HS HM
   refine ⟨(heldE HM), ?_⟩; ((try simp only [Za]); (try simp only [Zx]); (try simp only [Zy]))
   refine j_one 4 fun K9 hK9 => ?_
   refine j_ins HM HS hbm hLm Jb.alpha betac Zd Zd Zd ?_; clear HM HS; intro w1 HS HM
   exact z9_148
theorem trade_in {n z : Int} (n0 : 1 ≤ n) (n1 : n ≤ 200) (z0 : 0 ≤ z) (z1 : z < 1500) : -400000 ≤ -n * (500 + z) ∧ -n * (500 + z) ≤ 400000 := by
 have h1 : n * (500 + z) ≤ 200 * 2000 := Int.mul_le_mul n1 Zo Zo Zo
 have h0 : 0 ≤ n * (500 + z) := Int.mul_nonneg Zo Zo
 rw [Int.neg_mul]
 omega
theorem jr32 {W w0 w : World} {tb b4 : Nat} {uc : Array Value} {B : List (Nat × Array Value)} {b12 b13 : Nat} {f : WF} {x : WK} {c : Array Value} {m : Nat} {A7 : Option Addr} {l : List JR} {n7 : Nat} {day last : Int} {n : Int} {pp : ByteArray} {Q : Exit → Act → World → Prop} {x1 x2 x3 x5 x6 x9 x10 x11 x14 x17 x18 x19 x20 x21 x22 x23 x24 x25 x26 x27 x28 x29 x30 x31 x32 x33 x34 x35 x36 x37 x38 x39 x40 x41 x42 x43 x44 x45 x46 x47 x48 x49 x50 x51 x52 x53 x54 x55 x56 x57 x58 x59 x60 x61 x62 x63 x64 x65 x66 x67 x68 x69 x70 x71 x72 x73 x74 x75 x76 x77 x78 x79 x80 x81 x82 x83 x84 x85 x86 x87 x88 x89 x90 x91 x92 x93 x94 x95 x96 x97 x98 x99 x100 x101 x102 x103 x104 x105 x106 x107 x108 x109 x110 x111 x112 x113 x114 x115 x116 x117 x118 x119 x120 x121 x122 x123 x124 x125 x126 x127 x128 x129 x130 x131 x132 x133 x134 x135 x136 x137 x138 x139 x140 x141 x142 x143 x144 x145 x146 x147 x148 x149 x150 x151 x152 x153 x154 x155 x156 x157 x158 x159 x160 x161 x162 x163 x164 x165 x166 x167 x168 x169 x170 x171 x172 x173 x174 x175 x176 x177 x178 x179 x180 x181 x182 x183 x184 x185 x186 x187 x188 x189 x190 x191 x192 x193 x194 x195 x196 x197 x198 x199 x200 x201 x202 x203 x204 x205 x206 x207 x208 x209 x210 x211 x212 x213 x214 x215 x216 x217 x218 x219 x220 x221 x222 x223 x224 x225 x226 x227 x228 x229 x230 x231 x232 x233 x234 x235 x236 x237 x238 x239 x240 x241 x242 x243 x244 x245 x246 x247 x248 x249 x250 x251 x252 x253 x254 x255 x256 x257 x258 x259 x260 x261 x262 x263 x264 x265 x266 x267 x268 x269 x270 x271 x272 x273 x274 x275 x276 x277 x278 x279 x280 x281 x282 x283 x284 x285 x286 x287 x288 x289 x290 x291 x292 x293 x294 x295 x296 x297 x298 x299 x300 x301 x302 x303 x304 x305 x306 x307 x308 x309 x310 x311 x312 x313 x314 x315 x316 x317 x318 x319 x320 x321 x322 x323 x324 x325 x326 : Value} (HM : Mem w0 [tb] ((b13, x.c) :: (b12, f.c) :: (b4, uc) :: (tb, c) :: B) w) (HS : Hid (SlAt 189 (.slice A7 l.length n7) (l.map JR.c) B)) (HJ : Hid (Jb.Jn l day last)) (hl40 : l.length < 40) (hfn : name f.nm = true) (n0 : 1 ≤ n) (n1 : n ≤ 200) (hpp : paper pp = true) (hps : pp.size ≤ 12) (HC : Hid (TapeC W m c)) (H0 : Hid (Below W.heap.size W w0)) (hle : ∀ b ∈ [tb], W.heap.size ≤ b)
    (hQ : ∀ (s9 : Value) (r : JR) (c9 : Array Value) (m9 : Nat) (B9 : List (Nat × Array Value)) (y234 y235 y236 y237 y238 y239 y240 y241 y242 y243 y244 y245 y246 y247 y248 y249 y250 y251 y252 y253 y254 y255 y256 y257 y258 y259 y260 y261 y262 y263 : Value) (w9 : World), Hid (Jb.Jn (l ++ [r]) day last) → Hid (SlAt 189 s9 ((l ++ [r]).map JR.c) B9) → Hid (TapeC W m9 c9) → slen s9 = l.length + 1 → Mem w0 [tb] ((b13, x.c) :: (b12, f.c) :: (b4, uc) :: (tb, c9) :: B9) w9 → Q .normal { tmps := #[.pointer (some ⟨tb, 0, none⟩), x1, x2, x3, .pointer (some ⟨b4, 0, none⟩), x5, x6, s9, .int .i64 day, x9, x10, x11, .pointer (some ⟨b12, 0, none⟩), .pointer (some ⟨b13, 0, none⟩), x14, .int .i64 n, .string pp, x17, x18, x19, x20, x21, x22, x23, x24, x25, x26, x27, x28, x29, x30, x31, x32, x33, x34, x35, x36, x37, x38, x39, x40, x41, x42, x43, x44, x45, x46, x47, x48, x49, x50, x51, x52, x53, x54, x55, x56, x57, x58, x59, x60, x61, x62, x63, x64, x65, x66, x67, x68, x69, x70, x71, x72, x73, x74, x75, x76, x77, x78, x79, x80, x81, x82, x83, x84, x85, x86, x87, x88, x89, x90, x91, x92, x93, x94, x95, x96, x97, x98, x99, x100, x101, x102, x103, x104, x105, x106, x107, x108, x109, x110, x111, x112, x113, x114, x115, x116, x117, x118, x119, x120, x121, x122, x123, x124, x125, x126, x127, x128, x129, x130, x131, x132, x133, x134, x135, x136, x137, x138, x139, x140, x141, x142, x143, x144, x145, x146, x147, x148, x149, x150, x151, x152, x153, x154, x155, x156, x157, x158, x159, x160, x161, x162, x163, x164, x165, x166, x167, x168, x169, x170, x171, x172, x173, x174, x175, x176, x177, x178, x179, x180, x181, x182, x183, x184, x185, x186, x187, x188, x189, x190, x191, x192, x193, x194, x195, x196, x197, x198, x199, x200, x201, x202, x203, x204, x205, x206, x207, x208, x209, x210, x211, x212, x213, x214, x215, x216, x217, x218, x219, x220, x221, x222, x223, x224, x225, x226, x227, x228, x229, x230, x231, x232, x233, y234, y235, y236, y237, y238, y239, y240, y241, y242, y243, y244, y245, y246, y247, y248, y249, y250, y251, y252, y253, y254, y255, y256, y257, y258, y259, y260, y261, y262, y263, x264, x265, x266, x267, x268, x269, x270, x271, x272, x273, x274, x275, x276, x277, x278, x279, x280, x281, x282, x283, x284, x285, x286, x287, x288, x289, x290, x291, x292, x293, x294, x295, x296, x297, x298, x299, x300, x301, x302, x303, x304, x305, x306, x307, x308, x309, x310, x311, x312, x313, x314, x315, x316, x317, x318, x319, x320, x321, x322, x323, x324, x325, x326], defers := [] } w9) :
    (Code.region 32 (opsJ 32) true).wp Tryz.prog Q { tmps := #[.pointer (some ⟨tb, 0, none⟩), x1, x2, x3, .pointer (some ⟨b4, 0, none⟩), x5, x6, .slice A7 l.length n7, .int .i64 day, x9, x10, x11, .pointer (some ⟨b12, 0, none⟩), .pointer (some ⟨b13, 0, none⟩), x14, .int .i64 n, .string pp, x17, x18, x19, x20, x21, x22, x23, x24, x25, x26, x27, x28, x29, x30, x31, x32, x33, x34, x35, x36, x37, x38, x39, x40, x41, x42, x43, x44, x45, x46, x47, x48, x49, x50, x51, x52, x53, x54, x55, x56, x57, x58, x59, x60, x61, x62, x63, x64, x65, x66, x67, x68, x69, x70, x71, x72, x73, x74, x75, x76, x77, x78, x79, x80, x81, x82, x83, x84, x85, x86, x87, x88, x89, x90, x91, x92, x93, x94, x95, x96, x97, x98, x99, x100, x101, x102, x103, x104, x105, x106, x107, x108, x109, x110, x111, x112, x113, x114, x115, x116, x117, x118, x119, x120, x121, x122, x123, x124, x125, x126, x127, x128, x129, x130, x131, x132, x133, x134, x135, x136, x137, x138, x139, x140, x141, x142, x143, x144, x145, x146, x147, x148, x149, x150, x151, x152, x153, x154, x155, x156, x157, x158, x159, x160, x161, x162, x163, x164, x165, x166, x167, x168, x169, x170, x171, x172, x173, x174, x175, x176, x177, x178, x179, x180, x181, x182, x183, x184, x185, x186, x187, x188, x189, x190, x191, x192, x193, x194, x195, x196, x197, x198, x199, x200, x201, x202, x203, x204, x205, x206, x207, x208, x209, x210, x211, x212, x213, x214, x215, x216, x217, x218, x219, x220, x221, x222, x223, x224, x225, x226, x227, x228, x229, x230, x231, x232, x233, x234, x235, x236, x237, x238, x239, x240, x241, x242, x243, x244, x245, x246, x247, x248, x249, x250, x251, x252, x253, x254, x255, x256, x257, x258, x259, x260, x261, x262, x263, x264, x265, x266, x267, x268, x269, x270, x271, x272, x273, x274, x275, x276, x277, x278, x279, x280, x281, x282, x283, x284, x285, x286, x287, x288, x289, x290, x291, x292, x293, x294, x295, x296, x297, x298, x299, x300, x301, x302, x303, x304, x305, x306, x307, x308, x309, x310, x311, x312, x313, x314, x315, x316, x317, x318, x319, x320, x321, x322, x323, x324, x325, x326], defers := [] } w := by
 refine Qn.run ?_
 unfold opsJ
 conv => enter [2, 2]; whnf
 have elr := jr_el
 have els : elemB 80 9 1 16 = true := by kernel_rfl
 have elb : elemB 78 5 1 1 = true := by kernel_rfl
 have zo := JO.za
 have HL1 : Hid ((l.length : Int) + 1 = ((l.length + 1 : Nat) : Int)) := Zi Zo
 have hd0 := HJ.out.d0
 have hd1 := HJ.out.day
 have hcap : ∀ r : JR, ((l.map JR.c).length + [r.c].length) * (1184 + 1) ≤ 140737488355328 := fun r => jr_cap Zo
 have lfn := (f.f_nm).la
 refine start_M2 [] HM ((Sub.keep (Sub.keep (Sub.keep Sub.nil)))) Zk (fun w0x H9 => ?_)
 replace HM := H9; clear H9
 refine k_mv 0 (heldE HM) ?_
 refine k_fa 1 (heldE HM) ?_
 refine k_ld 2 [] (heldE HM) ?_
 refine k_mv 3 (heldE HM) ?_
 refine k_mv 10 (heldE HM) ?_
 refine k_mv 11 (heldE HM) ?_
 refine k_mv 12 (heldE HM) ?_
 refine k_mv 15 (heldE HM) ?_
 refine k_mv 16 (heldE HM) ?_
 refine k_mv 17 (heldE HM) ?_
 refine t_pure (i := 18) (v := .int .i64 (-n)) rfl rfl Zk (fun _ _ _ h => h) (heldE HM) Zv ?_ ?_; (focus (refine h_un (u := ?_) (T := ?_) (x := ?_) (vx := ?_) ?_ ?_ ?_; rotate_left 4; (focus rfl); (focus ((conv => lhs; whnf) <;> rfl)); intro w9; go_simp; rw [IntWalk.i64_in _ Zo])); ((try simp only [Za]); (try simp only [Zx]); (try simp only [Zy]))
 refine k_mv 19 (heldE HM) ?_
 refine k_mv 23 (heldE HM) ?_
 refine k_pv 24 (heldE HM) ?_
 refine k_add 25 (heldE HM) ?_
 refine j_one 4 fun K9 hK9 => ?_
 refine o_callg (snext_inf W tb _ (20) _ (HM.tp Zl HC.out H0.out hle) Zo Zo) rfl ?_ ?_; (focus (refine h_call2 (ts := ?_) (x1 := ?_) (x2 := ?_) ?_ Zk ?_ ?_; rotate_left 3; (focus rfl); (focus rfl); rfl)); rintro e9 w1 ⟨u, rfl, u0, u1, ⟨c1, hb1, hc1, -, -⟩, hg9⟩; replace HM := HM.put (c' := c1) Zg hb1 (Only.of_grown hg9); clear hg9 hb1; replace HC := Zi hc1; clear hc1; refine ⟨_, rfl, ?_⟩; obtain ⟨k, rfl⟩ : ∃ k : Nat, u = k := ⟨u.toNat, by omega⟩; have HEI : Hid ((97 : Int) + (k : Nat) = ((97 + k : Nat) : Int)) := Zi Zo
 refine hK9 _ _ (heldE HM) ?_; clear hK9 K9; ((try simp only [Za]); (try simp only [Zx]); (try simp only [Zy]))
 refine k_add 5 (heldE HM) ?_
 refine t_pure (i := 6) (v := .int .u8 ((97 + k : Nat) : Int)) rfl rfl Zk (fun _ _ _ h => h) (heldE HM) Zv ?_ ?_; (focus (exact h_cv rfl (by first | exact congrArg _ HEI.out | (simp only [HEI.out]; rfl) | (show Value.int .i64 _ = _; rw [HEI.out])) (fun w9 => cv_u8 (97 + k) Zo w9))); ((try simp only [Za]); (try simp only [Zx]); (try simp only [Zy]))
 refine j_two 7 13 ?_ ?_
 ·refine j_bs1 (c0 := Tx.b (97 + k)) HM ?_ (hT := elb) (z0 := rfl); clear HM; intro bc w1 HM
  refine ⟨(heldE HM), ?_⟩; ((try simp only [Za]); (try simp only [Zx]); (try simp only [Zy]))
  refine k_more ((bc, rowsOf [Tx.b (97 + k)]) :: [(b13, x.c), (b12, f.c), (b4, uc)]) ?_
  refine t_eq (i := 8) (v := ?_) [] rfl rfl rfl Zk (fun _ _ _ h => h) (heldE HM) ?_ ?_; rotate_left 1; (focus (refine y_cvb (x := ?_) bc (97 + k) ?_ ?_ ?_ ?_ ?_; rotate_left 1; (focus (exact fun _ h => h.2.get .here)); (focus omega); (focus rfl); (focus rfl); ((conv => lhs; whnf) <;> rfl))); ((try simp only [Za]); (try simp only [Zx]); (try simp only [Zy]))
  refine t_pure (i := 9) (v := .string (({ data := #[116] } : ByteArray) ++ Tx.bytes [97 + k])) rfl rfl Zk (fun _ _ _ h => h) (heldE HM) Zv ?_ ?_; (focus (exact h_cat (s := { data := #[116] }) (t := Tx.bytes [97 + k]) rfl Zw Zw (by show 1 + 1 ≤ _; decide))); ((try simp only [Za]); (try simp only [Zx]); (try simp only [Zy]))
  refine j_one 13 fun K9 hK9 => ?_
  refine o_callg (snext_inf W tb _ (3) _ (HM.tp Zl HC.out H0.out hle) Zo Zo) rfl ?_ ?_; (focus (refine h_call2 (ts := ?_) (x1 := ?_) (x2 := ?_) ?_ Zk ?_ ?_; rotate_left 3; (focus rfl); (focus rfl); rfl)); rintro e9 w1 ⟨v, rfl, v0, v1, ⟨c1, hb1, hc1, -, -⟩, hg9⟩; replace HM := HM.put (c' := c1) Zg hb1 (Only.of_grown hg9); clear hg9 hb1; replace HC := Zi hc1; clear hc1; refine ⟨_, rfl, ?_⟩
  refine hK9 _ _ (heldE HM) ?_; clear hK9 K9; ((try simp only [Za]); (try simp only [Zx]); (try simp only [Zy]))
  refine k_add 14 (heldE HM) ?_
  exact z9_149
 ·refine o_callg (snext_inf W tb _ (3) _ (HM.tp Zl HC.out H0.out hle) Zo Zo) rfl ?_ ?_; (focus (refine h_call2 (ts := ?_) (x1 := ?_) (x2 := ?_) ?_ Zk ?_ ?_; rotate_left 3; (focus rfl); (focus rfl); rfl)); rintro e9 w1 ⟨v, rfl, v0, v1, ⟨c1, hb1, hc1, -, -⟩, hg9⟩; replace HM := HM.put (c' := c1) Zg hb1 (Only.of_grown hg9); clear hg9 hb1; replace HC := Zi hc1; clear hc1; refine ⟨_, rfl, ?_⟩
  refine ⟨(heldE HM), ?_⟩; ((try simp only [Za]); (try simp only [Zx]); (try simp only [Zy]))
  refine k_add 14 (heldE HM) ?_
  refine j_two 7 20 ?_ ?_
  ·refine j_bs1 (c0 := Tx.b (97 + k)) HM ?_ (hT := elb) (z0 := rfl); clear HM; intro bc w1 HM
   refine ⟨(heldE HM), ?_⟩; ((try simp only [Za]); (try simp only [Zx]); (try simp only [Zy]))
   refine k_more ((bc, rowsOf [Tx.b (97 + k)]) :: [(b13, x.c), (b12, f.c), (b4, uc)]) ?_
   refine t_eq (i := 8) (v := ?_) [] rfl rfl rfl Zk (fun _ _ _ h => h) (heldE HM) ?_ ?_; rotate_left 1; (focus (refine y_cvb (x := ?_) bc (97 + k) ?_ ?_ ?_ ?_ ?_; rotate_left 1; (focus (exact fun _ h => h.2.get .here)); (focus omega); (focus rfl); (focus rfl); ((conv => lhs; whnf) <;> rfl))); ((try simp only [Za]); (try simp only [Zx]); (try simp only [Zy]))
   refine t_pure (i := 9) (v := .string (({ data := #[116] } : ByteArray) ++ Tx.bytes [97 + k])) rfl rfl Zk (fun _ _ _ h => h) (heldE HM) Zv ?_ ?_; (focus (exact h_cat (s := { data := #[116] }) (t := Tx.bytes [97 + k]) rfl Zw Zw (by show 1 + 1 ≤ _; decide))); ((try simp only [Za]); (try simp only [Zx]); (try simp only [Zy]))
   exact z9_149
  ·refine o_callg (snext_inf W tb _ (1500) _ (HM.tp Zl HC.out H0.out hle) Zo Zo) rfl ?_ ?_; (focus (refine h_call2 (ts := ?_) (x1 := ?_) (x2 := ?_) ?_ Zk ?_ ?_; rotate_left 3; (focus rfl); (focus rfl); rfl)); rintro e9 w1 ⟨z, rfl, z0, z1, ⟨c1, hb1, hc1, -, -⟩, hg9⟩; replace HM := HM.put (c' := c1) Zg hb1 (Only.of_grown hg9); clear hg9 hb1; replace HC := Zi hc1; clear hc1; refine ⟨_, rfl, ?_⟩; have hm : -400000 ≤ -n * (500 + z) ∧ -n * (500 + z) ≤ 400000 := trade_in n0 n1 z0 z1; have HB := fun w => JE.bld (parts := #[(0, .int .i64 1), (1, .string (({ data := #[116] } : ByteArray) ++ Tx.bytes [97 + k])), (2, .int .i64 day), (3, .int .i64 (day + v)), (4, .string pp), (5, .int .i64 n), (6, .int .i64 (-n * (500 + z))), (7, .string { data := #[85, 83, 68] }), (8, .int .i64 ((l.length : Int) + 1))]) (r := (⟨1, k2 116 (97 + k), day, day + v, pp, n, -n * (500 + z), usd, (l.length : Int) + 1, false⟩ : JE)) (by simp [Value.cells]) (by rw [JE.rows]; rfl) w; have HR := fun w => JR.bld (parts := #[(0, .int .i64 3), (1, .string f.nm), (5, .agg (JE.c (⟨1, k2 116 (97 + k), day, day + v, pp, n, -n * (500 + z), usd, (l.length : Int) + 1, false⟩ : JE)))]) (r := rE f.nm (⟨1, k2 116 (97 + k), day, day + v, pp, n, -n * (500 + z), usd, (l.length : Int) + 1, false⟩ : JE)) (by simp [Value.cells, JE.size]) (by rw [JR.rows]; rfl) w; have HJ2 : Hid (Jb.Jn (l ++ [rE f.nm (⟨1, k2 116 (97 + k), day, day + v, pp, n, -n * (500 + z), usd, (l.length : Int) + 1, false⟩ : JE)]) day last) := Zi (HJ.out.putE (f := f.nm) hl40 (e_right hpp (by rw [HL1.out]; exact HJ.out.kn) Zo Zo Zo n0 Zo Zo Zo) HL1.out ⟨(by decide : (2 : Nat) ≤ _), Nat.le_trans hps Zd, (by decide : (3 : Nat) ≤ _)⟩ hfn)
   refine ⟨(heldE HM), ?_⟩; ((try simp only [Za]); (try simp only [Zx]); (try simp only [Zy]))
   refine k_add 21 (heldE HM) ?_
   refine k_mul 22 (heldE HM) ?_
   refine j_one 7 fun K9 hK9 => ?_
   refine j_bs1 (c0 := Tx.b (97 + k)) HM ?_ (hT := elb) (z0 := rfl); clear HM; intro bc w1 HM
   refine hK9 _ _ (heldE HM) ?_; clear hK9 K9; ((try simp only [Za]); (try simp only [Zx]); (try simp only [Zy]))
   refine k_more ((bc, rowsOf [Tx.b (97 + k)]) :: [(b13, x.c), (b12, f.c), (b4, uc)]) ?_
   refine t_eq (i := 8) (v := ?_) [] rfl rfl rfl Zk (fun _ _ _ h => h) (heldE HM) ?_ ?_; rotate_left 1; (focus (refine y_cvb (x := ?_) bc (97 + k) ?_ ?_ ?_ ?_ ?_; rotate_left 1; (focus (exact fun _ h => h.2.get .here)); (focus omega); (focus rfl); (focus rfl); ((conv => lhs; whnf) <;> rfl))); ((try simp only [Za]); (try simp only [Zx]); (try simp only [Zy]))
   refine t_pure (i := 9) (v := .string (({ data := #[116] } : ByteArray) ++ Tx.bytes [97 + k])) rfl rfl Zk (fun _ _ _ h => h) (heldE HM) Zv ?_ ?_; (focus (exact h_cat (s := { data := #[116] }) (t := Tx.bytes [97 + k]) rfl Zw Zw (by show 1 + 1 ≤ _; decide))); ((try simp only [Za]); (try simp only [Zx]); (try simp only [Zy]))
   exact z9_150
end
end Go.Proofs.YtkiempioeffhbaaGreatDoor
