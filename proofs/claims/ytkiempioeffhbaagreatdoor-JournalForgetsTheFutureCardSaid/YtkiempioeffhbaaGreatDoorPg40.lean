/- Walks. -/
import Derived.Test.YtkiempioeffhbaaGreatDoorPg39
namespace Go.Proofs.YtkiempioeffhbaaGreatDoor
set_option maxHeartbeats 16000000
open Go.RowKit
set_option maxRecDepth 8000
set_option linter.unusedSimpArgs false
set_option linter.unusedVariables false
section
theorem YPgbn1 {P : Prop} (h : P := by
 refine t_pure (i := 15) (v := .agg (JR.c (rQ (⟨s1, Jb.pap k, usd, day, rr (Rat.divInt (500 + v) 100), (l.length : Int) + 1, false⟩ : JQ)))) rfl rfl Zk (fun _ _ _ h => h) (heldE HM) Zv ?_ ?_; (focus (exact h_bg2 rfl Zw Zw HR)); ((try simp only [Za]); (try simp only [Zx]); (try simp only [Zy]))
 refine j_one 16 fun K9 hK9 => ?_
 refine j_bs1 (c0 := (rQ (⟨s1, Jb.pap k, usd, day, rr (Rat.divInt (500 + v) 100), (l.length : Int) + 1, false⟩ : JQ)).c) HM ?_ (z0 := JR.size _) (hT := elr); clear HM; intro b9 w1 HM
 refine hK9 _ _ (heldE HM) ?_; clear hK9 K9; ((try simp only [Za]); (try simp only [Zx]); (try simp only [Zy]))
 refine j_one 17 fun K9 hK9 => ?_
 refine j_app (m := [(rQ (⟨s1, Jb.pap k, usd, day, rr (Rat.divInt (500 + v) 100), (l.length : Int) + 1, false⟩ : JQ)).c]) (F := fun X => (bs, rowsOf [#[.string { data := #[65, 67, 77, 69] }], #[.string { data := #[67, 79, 82, 69] }]]) :: (b13, x.c) :: (b12, f.c) :: (b4, uc) :: (tb, c1) :: X) HM HS.out ((SlAt.made1 b9 (JR.size _)).rd HM Zs) ?_ (jr_one _) (hT := elr) (hTx := elr) (hlen := hcap _); clear HM; intro s9 B9 w9 HSS HM; obtain ⟨hsl, HSS⟩ := app_len HSS
 refine hK9 _ _ (heldE HM) ?_; clear hK9 K9; ((try simp only [Za]); (try simp only [Zx]); (try simp only [Zy]))
 refine k_mv 18 (heldE HM) ?_
 refine wpAnyL_done Zk ?_ _
 (exact hQ s9 _ _ _ B9 _ _ _ _ _ _ _ _ _ _ _ _ _ _ _ _ _ _ _ HJ2 (Zi HSS) HC hsl HM.pick)) : P := h
theorem YPgbn0 {P : Prop} (h : P := by
 refine o_callg (sratio_r (500 + v) 100 Zo Zo Zd Zd _) rfl ?_ ?_; (focus (refine h_call2 (ts := ?_) (x1 := ?_) (x2 := ?_) ?_ Zk ?_ ?_; rotate_left 3; (focus rfl); (focus rfl); rfl)); rintro e9 w2 ⟨rfl, hL⟩; replace HM := HM.call hL; clear hL; refine ⟨_, rfl, ?_⟩; have HB := fun w => JQ.bld (parts := #[(0, .string { data := #[115, 49] }), (1, .string (Jb.pap k)), (2, .string { data := #[85, 83, 68] }), (3, .int .i64 day), (4, .agg (rr (Rat.divInt (500 + v) 100)).c), (5, .int .i64 ((l.length : Int) + 1))]) (r := (⟨s1, Jb.pap k, usd, day, rr (Rat.divInt (500 + v) 100), (l.length : Int) + 1, false⟩ : JQ)) (by simp [Value.cells, Rr.size]) (by rw [JQ.rows]; rfl) w; have HR := fun w => JR.bld (parts := #[(0, .int .i64 1), (3, .agg (JQ.c (⟨s1, Jb.pap k, usd, day, rr (Rat.divInt (500 + v) 100), (l.length : Int) + 1, false⟩ : JQ)))]) (r := rQ (⟨s1, Jb.pap k, usd, day, rr (Rat.divInt (500 + v) 100), (l.length : Int) + 1, false⟩ : JQ)) (by simp [Value.cells, JQ.size]) (by rw [JR.rows]; rfl) w; have HJ2 : Hid (Jb.Jn (l ++ [rQ (⟨s1, Jb.pap k, usd, day, rr (Rat.divInt (500 + v) 100), (l.length : Int) + 1, false⟩ : JQ)]) day last) := Zi (HJ.out.putQ hl40 (q_right (k := 10000) (Jb.pap_paper k) HJ.out.isDay (by rw [HL1.out]; exact HJ.out.kn) Zo Zo Zd Zd Zd) HL1.out (q_wf (by rw [Jb.pap_size]; decide)))
 refine hK9 _ _ (heldE HM) ?_; clear hK9 K9; ((try simp only [Za]); (try simp only [Zx]); (try simp only [Zy]))
 refine t_pure (i := 14) (v := .agg (JQ.c (⟨s1, Jb.pap k, usd, day, rr (Rat.divInt (500 + v) 100), (l.length : Int) + 1, false⟩ : JQ))) rfl rfl Zk (fun _ _ _ h => h) (heldE HM) Zv ?_ ?_; (focus (exact h_bg6 rfl Zw Zw Zw Zw Zw Zw HB)); ((try simp only [Za]); (try simp only [Zx]); (try simp only [Zy]))
 exact YPgbn1) : P := h
theorem z9_126 {P : Prop} (h : P := by
 refine k_ia 4 (heldE HM) ?_
 refine k_ld 5 [] (heldE HM) ?_
 refine j_one 8 fun K9 hK9 => ?_
 refine o_callg (snext_inf W tb _ (1500) _ (HM.tp Zl HC.out H0.out hle) Zo Zo) rfl ?_ ?_; (focus (refine h_call2 (ts := ?_) (x1 := ?_) (x2 := ?_) ?_ Zk ?_ ?_; rotate_left 3; (focus rfl); (focus rfl); rfl)); rintro e9 w1 ⟨v, rfl, v0, v1, ⟨c1, hb1, hc1, -, -⟩, hg9⟩; replace HM := HM.put (c' := c1) Zg hb1 (Only.of_grown hg9); clear hg9 hb1; replace HC := Zi hc1; clear hc1; refine ⟨_, rfl, ?_⟩
 refine hK9 _ _ (heldE HM) ?_; clear hK9 K9; ((try simp only [Za]); (try simp only [Zx]); (try simp only [Zy]))
 refine k_add 9 (heldE HM) ?_
 refine j_one 10 fun K9 hK9 => ?_
 exact YPgbn0) : P := h
theorem z9_127 {P : Prop} (h : P := by
 refine j_one 10 fun K9 hK9 => ?_
 exact YPgbn0) : P := h
theorem z9_128 {P : Prop} (h : P := by
 refine t_pure (i := 14) (v := .agg (JQ.c (⟨s1, Jb.pap k, usd, day, rr (Rat.divInt (500 + v) 100), (l.length : Int) + 1, false⟩ : JQ))) rfl rfl Zk (fun _ _ _ h => h) (heldE HM) Zv ?_ ?_; (focus (exact h_bg6 rfl Zw Zw Zw Zw Zw Zw HB)); ((try simp only [Za]); (try simp only [Zx]); (try simp only [Zy]))
 exact YPgbn1) : P := h
end
section
open Jb
theorem jr_one (r : JR) : ∀ c ∈ [r.c], c.all (·.oneCell') = true := by simpa using r.one
theorem jr_cap {l : List JR} {r : JR} (h : l.length ≤ 40) : ((l.map JR.c).length + [r.c].length) * (1184 + 1) ≤ 140737488355328 := by simp; omega
theorem app_len {s : Value} {l : List JR} {r : JR} {B : List (Nat × Array Value)} (h : SlAt 189 s (l.map JR.c ++ [r.c]) B) : slen s = l.length + 1 ∧ SlAt 189 s ((l ++ [r]).map JR.c) B := by
 obtain ⟨A, n, e, _⟩ := h.val
 refine ⟨by rw [e]; simp [slen], by rw [List.map_append]; exact h⟩
theorem jr21 {W w0 w : World} {tb b4 : Nat} {uc : Array Value} {B : List (Nat × Array Value)} {b12 b13 : Nat} {f : WF} {x : WK} {c : Array Value} {m : Nat} {A7 : Option Addr} {l : List JR} {n7 : Nat} {day last : Int} {Q : Exit → Act → World → Prop} {x1 x2 x3 x5 x6 x9 x10 x11 x14 x15 x16 x17 x18 x19 x20 x21 x22 x23 x24 x25 x26 x27 x28 x29 x30 x31 x32 x33 x34 x35 x36 x37 x38 x39 x40 x41 x42 x43 x44 x45 x46 x47 x48 x49 x50 x51 x52 x53 x54 x55 x56 x57 x58 x59 x60 x61 x62 x63 x64 x65 x66 x67 x68 x69 x70 x71 x72 x73 x74 x75 x76 x77 x78 x79 x80 x81 x82 x83 x84 x85 x86 x87 x88 x89 x90 x91 x92 x93 x94 x95 x96 x97 x98 x99 x100 x101 x102 x103 x104 x105 x106 x107 x108 x109 x110 x111 x112 x113 x114 x115 x116 x117 x118 x119 x120 x121 x122 x123 x124 x125 x126 x127 x128 x129 x130 x131 x132 x133 x134 x135 x136 x137 x138 x139 x140 x141 x142 x143 x144 x145 x146 x147 x148 x149 x150 x151 x152 x153 x154 x155 x156 x157 x158 x159 x160 x161 x162 x163 x164 x165 x166 x167 x168 x169 x170 x171 x172 x173 x174 x175 x176 x177 x178 x179 x180 x181 x182 x183 x184 x185 x186 x187 x188 x189 x190 x191 x192 x193 x194 x195 x196 x197 x198 x199 x200 x201 x202 x203 x204 x205 x206 x207 x208 x209 x210 x211 x212 x213 x214 x215 x216 x217 x218 x219 x220 x221 x222 x223 x224 x225 x226 x227 x228 x229 x230 x231 x232 x233 x234 x235 x236 x237 x238 x239 x240 x241 x242 x243 x244 x245 x246 x247 x248 x249 x250 x251 x252 x253 x254 x255 x256 x257 x258 x259 x260 x261 x262 x263 x264 x265 x266 x267 x268 x269 x270 x271 x272 x273 x274 x275 x276 x277 x278 x279 x280 x281 x282 x283 x284 x285 x286 x287 x288 x289 x290 x291 x292 x293 x294 x295 x296 x297 x298 x299 x300 x301 x302 x303 x304 x305 x306 x307 x308 x309 x310 x311 x312 x313 x314 x315 x316 x317 x318 x319 x320 x321 x322 x323 x324 x325 x326 : Value} (HM : Mem w0 [tb] ((b13, x.c) :: (b12, f.c) :: (b4, uc) :: (tb, c) :: B) w) (HS : Hid (SlAt 189 (.slice A7 l.length n7) (l.map JR.c) B)) (HJ : Hid (Jb.Jn l day last)) (hl40 : l.length < 40) (HC : Hid (TapeC W m c)) (H0 : Hid (Below W.heap.size W w0)) (hle : ∀ b ∈ [tb], W.heap.size ≤ b)
    (hQ : ∀ (s9 : Value) (r : JR) (c9 : Array Value) (m9 : Nat) (B9 : List (Nat × Array Value)) (y140 y141 y142 y143 y144 y145 y146 y147 y148 y149 y150 y151 y152 y153 y154 y155 y156 y157 : Value) (w9 : World), Hid (Jb.Jn (l ++ [r]) day last) → Hid (SlAt 189 s9 ((l ++ [r]).map JR.c) B9) → Hid (TapeC W m9 c9) → slen s9 = l.length + 1 → Mem w0 [tb] ((b13, x.c) :: (b12, f.c) :: (b4, uc) :: (tb, c9) :: B9) w9 → Q .normal { tmps := #[.pointer (some ⟨tb, 0, none⟩), x1, x2, x3, .pointer (some ⟨b4, 0, none⟩), x5, x6, s9, .int .i64 day, x9, x10, x11, .pointer (some ⟨b12, 0, none⟩), .pointer (some ⟨b13, 0, none⟩), x14, x15, x16, x17, x18, x19, x20, x21, x22, x23, x24, x25, x26, x27, x28, x29, x30, x31, x32, x33, x34, x35, x36, x37, x38, x39, x40, x41, x42, x43, x44, x45, x46, x47, x48, x49, x50, x51, x52, x53, x54, x55, x56, x57, x58, x59, x60, x61, x62, x63, x64, x65, x66, x67, x68, x69, x70, x71, x72, x73, x74, x75, x76, x77, x78, x79, x80, x81, x82, x83, x84, x85, x86, x87, x88, x89, x90, x91, x92, x93, x94, x95, x96, x97, x98, x99, x100, x101, x102, x103, x104, x105, x106, x107, x108, x109, x110, x111, x112, x113, x114, x115, x116, x117, x118, x119, x120, x121, x122, x123, x124, x125, x126, x127, x128, x129, x130, x131, x132, x133, x134, x135, x136, x137, x138, x139, y140, y141, y142, y143, y144, y145, y146, y147, y148, y149, y150, y151, y152, y153, y154, y155, y156, y157, x158, x159, x160, x161, x162, x163, x164, x165, x166, x167, x168, x169, x170, x171, x172, x173, x174, x175, x176, x177, x178, x179, x180, x181, x182, x183, x184, x185, x186, x187, x188, x189, x190, x191, x192, x193, x194, x195, x196, x197, x198, x199, x200, x201, x202, x203, x204, x205, x206, x207, x208, x209, x210, x211, x212, x213, x214, x215, x216, x217, x218, x219, x220, x221, x222, x223, x224, x225, x226, x227, x228, x229, x230, x231, x232, x233, x234, x235, x236, x237, x238, x239, x240, x241, x242, x243, x244, x245, x246, x247, x248, x249, x250, x251, x252, x253, x254, x255, x256, x257, x258, x259, x260, x261, x262, x263, x264, x265, x266, x267, x268, x269, x270, x271, x272, x273, x274, x275, x276, x277, x278, x279, x280, x281, x282, x283, x284, x285, x286, x287, x288, x289, x290, x291, x292, x293, x294, x295, x296, x297, x298, x299, x300, x301, x302, x303, x304, x305, x306, x307, x308, x309, x310, x311, x312, x313, x314, x315, x316, x317, x318, x319, x320, x321, x322, x323, x324, x325, x326], defers := [] } w9) :
    (Code.region 21 (opsJ 21) true).wp Tryz.prog Q { tmps := #[.pointer (some ⟨tb, 0, none⟩), x1, x2, x3, .pointer (some ⟨b4, 0, none⟩), x5, x6, .slice A7 l.length n7, .int .i64 day, x9, x10, x11, .pointer (some ⟨b12, 0, none⟩), .pointer (some ⟨b13, 0, none⟩), x14, x15, x16, x17, x18, x19, x20, x21, x22, x23, x24, x25, x26, x27, x28, x29, x30, x31, x32, x33, x34, x35, x36, x37, x38, x39, x40, x41, x42, x43, x44, x45, x46, x47, x48, x49, x50, x51, x52, x53, x54, x55, x56, x57, x58, x59, x60, x61, x62, x63, x64, x65, x66, x67, x68, x69, x70, x71, x72, x73, x74, x75, x76, x77, x78, x79, x80, x81, x82, x83, x84, x85, x86, x87, x88, x89, x90, x91, x92, x93, x94, x95, x96, x97, x98, x99, x100, x101, x102, x103, x104, x105, x106, x107, x108, x109, x110, x111, x112, x113, x114, x115, x116, x117, x118, x119, x120, x121, x122, x123, x124, x125, x126, x127, x128, x129, x130, x131, x132, x133, x134, x135, x136, x137, x138, x139, x140, x141, x142, x143, x144, x145, x146, x147, x148, x149, x150, x151, x152, x153, x154, x155, x156, x157, x158, x159, x160, x161, x162, x163, x164, x165, x166, x167, x168, x169, x170, x171, x172, x173, x174, x175, x176, x177, x178, x179, x180, x181, x182, x183, x184, x185, x186, x187, x188, x189, x190, x191, x192, x193, x194, x195, x196, x197, x198, x199, x200, x201, x202, x203, x204, x205, x206, x207, x208, x209, x210, x211, x212, x213, x214, x215, x216, x217, x218, x219, x220, x221, x222, x223, x224, x225, x226, x227, x228, x229, x230, x231, x232, x233, x234, x235, x236, x237, x238, x239, x240, x241, x242, x243, x244, x245, x246, x247, x248, x249, x250, x251, x252, x253, x254, x255, x256, x257, x258, x259, x260, x261, x262, x263, x264, x265, x266, x267, x268, x269, x270, x271, x272, x273, x274, x275, x276, x277, x278, x279, x280, x281, x282, x283, x284, x285, x286, x287, x288, x289, x290, x291, x292, x293, x294, x295, x296, x297, x298, x299, x300, x301, x302, x303, x304, x305, x306, x307, x308, x309, x310, x311, x312, x313, x314, x315, x316, x317, x318, x319, x320, x321, x322, x323, x324, x325, x326], defers := [] } w := by
 refine Qn.run ?_
 unfold opsJ
 conv => enter [2, 2]; whnf
 have elr := jr_el
 have els : elemB 80 9 1 16 = true := by kernel_rfl
 have elb : elemB 78 5 1 1 = true := by kernel_rfl
 have zo := JO.za
 have HL1 : Hid ((l.length : Int) + 1 = ((l.length + 1 : Nat) : Int)) := Zi Zo
 have hd0 := HJ.out.d0
 have hd1 := HJ.out.day
 have hcap : ∀ r : JR, ((l.map JR.c).length + [r.c].length) * (1184 + 1) ≤ 140737488355328 := fun r => jr_cap Zo
 refine start_M2 [] HM ((Sub.keep (Sub.keep (Sub.keep Sub.nil)))) Zk (fun w0x H9 => ?_)
 replace HM := H9; clear H9
 refine k_mv 0 (heldE HM) ?_
 refine k_mv 2 (heldE HM) ?_
 refine k_mv 6 (heldE HM) ?_
 refine k_mv 7 (heldE HM) ?_
 refine k_mv 11 (heldE HM) ?_
 refine k_pv 12 (heldE HM) ?_
 refine k_add 13 (heldE HM) ?_
 refine j_two 1 3 ?_ ?_
 ·refine j_s2 HM ?_ (hT := els); clear HM; intro bs w1 HM
  refine ⟨(heldE HM), ?_⟩; ((try simp only [Za]); (try simp only [Zx]); (try simp only [Zy]))
  refine k_more ((bs, rowsOf [#[.string { data := #[65, 67, 77, 69] }], #[.string { data := #[67, 79, 82, 69] }]]) :: [(b13, x.c), (b12, f.c), (b4, uc)]) ?_
  refine j_one 3 fun K9 hK9 => ?_
  refine o_callg (snext_inf W tb _ (2) _ (HM.tp Zl HC.out H0.out hle) Zo Zo) rfl ?_ ?_; (focus (refine h_call2 (ts := ?_) (x1 := ?_) (x2 := ?_) ?_ Zk ?_ ?_; rotate_left 3; (focus rfl); (focus rfl); rfl)); rintro e9 w1 ⟨u, rfl, u0, u1, ⟨c1, hb1, hc1, -, -⟩, hg9⟩; replace HM := HM.put (c' := c1) Zg hb1 (Only.of_grown hg9); clear hg9 hb1; replace HC := Zi hc1; clear hc1; refine ⟨_, rfl, ?_⟩; obtain ⟨k, rfl⟩ : ∃ k : Nat, u = k := ⟨u.toNat, by omega⟩; have lp := Jb.pap_at (k := k) Zo
  refine hK9 _ _ (heldE HM) ?_; clear hK9 K9; ((try simp only [Za]); (try simp only [Zx]); (try simp only [Zy]))
  exact z9_126
 ·refine o_callg (snext_inf W tb _ (2) _ (HM.tp Zl HC.out H0.out hle) Zo Zo) rfl ?_ ?_; (focus (refine h_call2 (ts := ?_) (x1 := ?_) (x2 := ?_) ?_ Zk ?_ ?_; rotate_left 3; (focus rfl); (focus rfl); rfl)); rintro e9 w1 ⟨u, rfl, u0, u1, ⟨c1, hb1, hc1, -, -⟩, hg9⟩; replace HM := HM.put (c' := c1) Zg hb1 (Only.of_grown hg9); clear hg9 hb1; replace HC := Zi hc1; clear hc1; refine ⟨_, rfl, ?_⟩; obtain ⟨k, rfl⟩ : ∃ k : Nat, u = k := ⟨u.toNat, by omega⟩; have lp := Jb.pap_at (k := k) Zo
  refine ⟨(heldE HM), ?_⟩; ((try simp only [Za]); (try simp only [Zx]); (try simp only [Zy]))
  refine j_two 1 8 ?_ ?_
  ·refine j_s2 HM ?_ (hT := els); clear HM; intro bs w1 HM
   refine ⟨(heldE HM), ?_⟩; ((try simp only [Za]); (try simp only [Zx]); (try simp only [Zy]))
   refine k_more ((bs, rowsOf [#[.string { data := #[65, 67, 77, 69] }], #[.string { data := #[67, 79, 82, 69] }]]) :: [(b13, x.c), (b12, f.c), (b4, uc)]) ?_
   exact z9_126
  ·refine o_callg (snext_inf W tb _ (1500) _ (HM.tp Zl HC.out H0.out hle) Zo Zo) rfl ?_ ?_; (focus (refine h_call2 (ts := ?_) (x1 := ?_) (x2 := ?_) ?_ Zk ?_ ?_; rotate_left 3; (focus rfl); (focus rfl); rfl)); rintro e9 w1 ⟨v, rfl, v0, v1, ⟨c1, hb1, hc1, -, -⟩, hg9⟩; replace HM := HM.put (c' := c1) Zg hb1 (Only.of_grown hg9); clear hg9 hb1; replace HC := Zi hc1; clear hc1; refine ⟨_, rfl, ?_⟩
   refine ⟨(heldE HM), ?_⟩; ((try simp only [Za]); (try simp only [Zx]); (try simp only [Zy]))
   refine k_add 9 (heldE HM) ?_
   refine j_two 1 10 ?_ ?_
   ·refine j_s2 HM ?_ (hT := els); clear HM; intro bs w1 HM
    refine ⟨(heldE HM), ?_⟩; ((try simp only [Za]); (try simp only [Zx]); (try simp only [Zy]))
    refine k_more ((bs, rowsOf [#[.string { data := #[65, 67, 77, 69] }], #[.string { data := #[67, 79, 82, 69] }]]) :: [(b13, x.c), (b12, f.c), (b4, uc)]) ?_
    refine k_ia 4 (heldE HM) ?_
    refine k_ld 5 [] (heldE HM) ?_
    exact z9_127
   ·refine o_callg (sratio_r (500 + v) 100 Zo Zo Zd Zd _) rfl ?_ ?_; (focus (refine h_call2 (ts := ?_) (x1 := ?_) (x2 := ?_) ?_ Zk ?_ ?_; rotate_left 3; (focus rfl); (focus rfl); rfl)); rintro e9 w2 ⟨rfl, hL⟩; replace HM := HM.call hL; clear hL; refine ⟨_, rfl, ?_⟩; have HB := fun w => JQ.bld (parts := #[(0, .string { data := #[115, 49] }), (1, .string (Jb.pap k)), (2, .string { data := #[85, 83, 68] }), (3, .int .i64 day), (4, .agg (rr (Rat.divInt (500 + v) 100)).c), (5, .int .i64 ((l.length : Int) + 1))]) (r := (⟨s1, Jb.pap k, usd, day, rr (Rat.divInt (500 + v) 100), (l.length : Int) + 1, false⟩ : JQ)) (by simp [Value.cells, Rr.size]) (by rw [JQ.rows]; rfl) w; have HR := fun w => JR.bld (parts := #[(0, .int .i64 1), (3, .agg (JQ.c (⟨s1, Jb.pap k, usd, day, rr (Rat.divInt (500 + v) 100), (l.length : Int) + 1, false⟩ : JQ)))]) (r := rQ (⟨s1, Jb.pap k, usd, day, rr (Rat.divInt (500 + v) 100), (l.length : Int) + 1, false⟩ : JQ)) (by simp [Value.cells, JQ.size]) (by rw [JR.rows]; rfl) w; have HJ2 : Hid (Jb.Jn (l ++ [rQ (⟨s1, Jb.pap k, usd, day, rr (Rat.divInt (500 + v) 100), (l.length : Int) + 1, false⟩ : JQ)]) day last) := Zi (HJ.out.putQ hl40 (q_right (k := 10000) (Jb.pap_paper k) HJ.out.isDay (by rw [HL1.out]; exact HJ.out.kn) Zo Zo Zd Zd Zd) HL1.out (q_wf (by rw [Jb.pap_size]; decide)))
    refine ⟨(heldE HM), ?_⟩; ((try simp only [Za]); (try simp only [Zx]); (try simp only [Zy]))
    refine j_one 1 fun K9 hK9 => ?_
    refine j_s2 HM ?_ (hT := els); clear HM; intro bs w1 HM
    refine hK9 _ _ (heldE HM) ?_; clear hK9 K9; ((try simp only [Za]); (try simp only [Zx]); (try simp only [Zy]))
    refine k_more ((bs, rowsOf [#[.string { data := #[65, 67, 77, 69] }], #[.string { data := #[67, 79, 82, 69] }]]) :: [(b13, x.c), (b12, f.c), (b4, uc)]) ?_
    refine k_ia 4 (heldE HM) ?_
    refine k_ld 5 [] (heldE HM) ?_
    exact z9_128
theorem jr39 {W w0 w : World} {tb b4 : Nat} {uc : Array Value} {B : List (Nat × Array Value)} {b12 b13 : Nat} {f : WF} {x : WK} {c : Array Value} {m : Nat} {A7 : Option Addr} {l : List JR} {n7 : Nat} {day last : Int} {Q : Exit → Act → World → Prop} {x1 x2 x3 x5 x6 x9 x10 x11 x14 x15 x16 x17 x18 x19 x20 x21 x22 x23 x24 x25 x26 x27 x28 x29 x30 x31 x32 x33 x34 x35 x36 x37 x38 x39 x40 x41 x42 x43 x44 x45 x46 x47 x48 x49 x50 x51 x52 x53 x54 x55 x56 x57 x58 x59 x60 x61 x62 x63 x64 x65 x66 x67 x68 x69 x70 x71 x72 x73 x74 x75 x76 x77 x78 x79 x80 x81 x82 x83 x84 x85 x86 x87 x88 x89 x90 x91 x92 x93 x94 x95 x96 x97 x98 x99 x100 x101 x102 x103 x104 x105 x106 x107 x108 x109 x110 x111 x112 x113 x114 x115 x116 x117 x118 x119 x120 x121 x122 x123 x124 x125 x126 x127 x128 x129 x130 x131 x132 x133 x134 x135 x136 x137 x138 x139 x140 x141 x142 x143 x144 x145 x146 x147 x148 x149 x150 x151 x152 x153 x154 x155 x156 x157 x158 x159 x160 x161 x162 x163 x164 x165 x166 x167 x168 x169 x170 x171 x172 x173 x174 x175 x176 x177 x178 x179 x180 x181 x182 x183 x184 x185 x186 x187 x188 x189 x190 x191 x192 x193 x194 x195 x196 x197 x198 x199 x200 x201 x202 x203 x204 x205 x206 x207 x208 x209 x210 x211 x212 x213 x214 x215 x216 x217 x218 x219 x220 x221 x222 x223 x224 x225 x226 x227 x228 x229 x230 x231 x232 x233 x234 x235 x236 x237 x238 x239 x240 x241 x242 x243 x244 x245 x246 x247 x248 x249 x250 x251 x252 x253 x254 x255 x256 x257 x258 x259 x260 x261 x262 x263 x264 x265 x266 x267 x268 x269 x270 x271 x272 x273 x274 x275 x276 x277 x278 x279 x280 x281 x282 x283 x284 x285 x286 x287 x288 x289 x290 x291 x292 x293 x294 x295 x296 x297 x298 x299 x300 x301 x302 x303 x304 x305 x306 x307 x308 x309 x310 x311 x312 x313 x314 x315 x316 x317 x318 x319 x320 x321 x322 x323 x324 x325 x326 : Value} (HM : Mem w0 [tb] ((b13, x.c) :: (b12, f.c) :: (b4, uc) :: (tb, c) :: B) w) (HS : Hid (SlAt 189 (.slice A7 l.length n7) (l.map JR.c) B)) (HJ : Hid (Jb.Jn l day last)) (hl40 : l.length < 40) (hfn : name f.nm = true) (HC : Hid (TapeC W m c)) (H0 : Hid (Below W.heap.size W w0)) (hle : ∀ b ∈ [tb], W.heap.size ≤ b)
    (hQ : ∀ (s9 : Value) (r : JR) (c9 : Array Value) (m9 : Nat) (B9 : List (Nat × Array Value)) (y311 y312 y313 y314 y315 y316 y317 y318 y319 y320 y321 y322 y323 y324 y325 : Value) (w9 : World), Hid (Jb.Jn (l ++ [r]) day last) → Hid (SlAt 189 s9 ((l ++ [r]).map JR.c) B9) → Hid (TapeC W m9 c9) → slen s9 = l.length + 1 → Mem w0 [tb] ((b13, x.c) :: (b12, f.c) :: (b4, uc) :: (tb, c9) :: B9) w9 → Q .normal { tmps := #[.pointer (some ⟨tb, 0, none⟩), x1, x2, x3, .pointer (some ⟨b4, 0, none⟩), x5, x6, s9, .int .i64 day, x9, x10, x11, .pointer (some ⟨b12, 0, none⟩), .pointer (some ⟨b13, 0, none⟩), x14, x15, x16, x17, x18, x19, x20, x21, x22, x23, x24, x25, x26, x27, x28, x29, x30, x31, x32, x33, x34, x35, x36, x37, x38, x39, x40, x41, x42, x43, x44, x45, x46, x47, x48, x49, x50, x51, x52, x53, x54, x55, x56, x57, x58, x59, x60, x61, x62, x63, x64, x65, x66, x67, x68, x69, x70, x71, x72, x73, x74, x75, x76, x77, x78, x79, x80, x81, x82, x83, x84, x85, x86, x87, x88, x89, x90, x91, x92, x93, x94, x95, x96, x97, x98, x99, x100, x101, x102, x103, x104, x105, x106, x107, x108, x109, x110, x111, x112, x113, x114, x115, x116, x117, x118, x119, x120, x121, x122, x123, x124, x125, x126, x127, x128, x129, x130, x131, x132, x133, x134, x135, x136, x137, x138, x139, x140, x141, x142, x143, x144, x145, x146, x147, x148, x149, x150, x151, x152, x153, x154, x155, x156, x157, x158, x159, x160, x161, x162, x163, x164, x165, x166, x167, x168, x169, x170, x171, x172, x173, x174, x175, x176, x177, x178, x179, x180, x181, x182, x183, x184, x185, x186, x187, x188, x189, x190, x191, x192, x193, x194, x195, x196, x197, x198, x199, x200, x201, x202, x203, x204, x205, x206, x207, x208, x209, x210, x211, x212, x213, x214, x215, x216, x217, x218, x219, x220, x221, x222, x223, x224, x225, x226, x227, x228, x229, x230, x231, x232, x233, x234, x235, x236, x237, x238, x239, x240, x241, x242, x243, x244, x245, x246, x247, x248, x249, x250, x251, x252, x253, x254, x255, x256, x257, x258, x259, x260, x261, x262, x263, x264, x265, x266, x267, x268, x269, x270, x271, x272, x273, x274, x275, x276, x277, x278, x279, x280, x281, x282, x283, x284, x285, x286, x287, x288, x289, x290, x291, x292, x293, x294, x295, x296, x297, x298, x299, x300, x301, x302, x303, x304, x305, x306, x307, x308, x309, x310, y311, y312, y313, y314, y315, y316, y317, y318, y319, y320, y321, y322, y323, y324, y325, x326], defers := [] } w9) :
    (Code.region 39 (opsJ 39) true).wp Tryz.prog Q { tmps := #[.pointer (some ⟨tb, 0, none⟩), x1, x2, x3, .pointer (some ⟨b4, 0, none⟩), x5, x6, .slice A7 l.length n7, .int .i64 day, x9, x10, x11, .pointer (some ⟨b12, 0, none⟩), .pointer (some ⟨b13, 0, none⟩), x14, x15, x16, x17, x18, x19, x20, x21, x22, x23, x24, x25, x26, x27, x28, x29, x30, x31, x32, x33, x34, x35, x36, x37, x38, x39, x40, x41, x42, x43, x44, x45, x46, x47, x48, x49, x50, x51, x52, x53, x54, x55, x56, x57, x58, x59, x60, x61, x62, x63, x64, x65, x66, x67, x68, x69, x70, x71, x72, x73, x74, x75, x76, x77, x78, x79, x80, x81, x82, x83, x84, x85, x86, x87, x88, x89, x90, x91, x92, x93, x94, x95, x96, x97, x98, x99, x100, x101, x102, x103, x104, x105, x106, x107, x108, x109, x110, x111, x112, x113, x114, x115, x116, x117, x118, x119, x120, x121, x122, x123, x124, x125, x126, x127, x128, x129, x130, x131, x132, x133, x134, x135, x136, x137, x138, x139, x140, x141, x142, x143, x144, x145, x146, x147, x148, x149, x150, x151, x152, x153, x154, x155, x156, x157, x158, x159, x160, x161, x162, x163, x164, x165, x166, x167, x168, x169, x170, x171, x172, x173, x174, x175, x176, x177, x178, x179, x180, x181, x182, x183, x184, x185, x186, x187, x188, x189, x190, x191, x192, x193, x194, x195, x196, x197, x198, x199, x200, x201, x202, x203, x204, x205, x206, x207, x208, x209, x210, x211, x212, x213, x214, x215, x216, x217, x218, x219, x220, x221, x222, x223, x224, x225, x226, x227, x228, x229, x230, x231, x232, x233, x234, x235, x236, x237, x238, x239, x240, x241, x242, x243, x244, x245, x246, x247, x248, x249, x250, x251, x252, x253, x254, x255, x256, x257, x258, x259, x260, x261, x262, x263, x264, x265, x266, x267, x268, x269, x270, x271, x272, x273, x274, x275, x276, x277, x278, x279, x280, x281, x282, x283, x284, x285, x286, x287, x288, x289, x290, x291, x292, x293, x294, x295, x296, x297, x298, x299, x300, x301, x302, x303, x304, x305, x306, x307, x308, x309, x310, x311, x312, x313, x314, x315, x316, x317, x318, x319, x320, x321, x322, x323, x324, x325, x326], defers := [] } w := by
 refine Qn.run ?_
 unfold opsJ
 conv => enter [2, 2]; whnf
 have elr := jr_el
 have els : elemB 80 9 1 16 = true := by kernel_rfl
 have elb : elemB 78 5 1 1 = true := by kernel_rfl
 have zo := JO.za
 have HL1 : Hid ((l.length : Int) + 1 = ((l.length + 1 : Nat) : Int)) := Zi Zo
 have hd0 := HJ.out.d0
 have hd1 := HJ.out.day
 have hcap : ∀ r : JR, ((l.map JR.c).length + [r.c].length) * (1184 + 1) ≤ 140737488355328 := fun r => jr_cap Zo
 have lfn := (f.f_nm).la
 refine start_M2 [] HM ((Sub.keep (Sub.keep (Sub.keep Sub.nil)))) Zk (fun w0x H9 => ?_)
 replace HM := H9; clear H9
 refine k_mv 0 (heldE HM) ?_
 refine k_fa 1 (heldE HM) ?_
 refine k_ld 2 [] (heldE HM) ?_
 refine k_mv 3 (heldE HM) ?_
 refine k_mv 4 (heldE HM) ?_
 refine k_mv 5 (heldE HM) ?_
 refine k_mv 8 (heldE HM) ?_
 refine k_pv 9 (heldE HM) ?_
 refine k_add 10 (heldE HM) ?_
 refine j_one 6 fun K9 hK9 => ?_
 refine o_callg (snext_inf W tb _ (5) _ (HM.tp Zl HC.out H0.out hle) Zo Zo) rfl ?_ ?_; (focus (refine h_call2 (ts := ?_) (x1 := ?_) (x2 := ?_) ?_ Zk ?_ ?_; rotate_left 3; (focus rfl); (focus rfl); rfl)); rintro e9 w1 ⟨v, rfl, v0, v1, ⟨c1, hb1, hc1, -, -⟩, hg9⟩; replace HM := HM.put (c' := c1) Zg hb1 (Only.of_grown hg9); clear hg9 hb1; replace HC := Zi hc1; clear hc1; refine ⟨_, rfl, ?_⟩; have HB := fun w => JS.bld (parts := #[(0, .string { data := #[117, 49] }), (1, .string f.nm), (2, .int .i64 day), (3, .int .i64 (day + v)), (4, .int .i64 ((l.length : Int) + 1))]) (r := (⟨u1, f.nm, day, day + v, (l.length : Int) + 1, false⟩ : JS)) (by simp [Value.cells]) (by rw [JS.rows]; rfl) w; have HR := fun w => JR.bld (parts := #[(0, .int .i64 6), (8, .agg (JS.c (⟨u1, f.nm, day, day + v, (l.length : Int) + 1, false⟩ : JS)))]) (r := rS (⟨u1, f.nm, day, day + v, (l.length : Int) + 1, false⟩ : JS)) (by simp [Value.cells, JS.size]) (by rw [JR.rows]; rfl) w; have HJ2 : Hid (Jb.Jn (l ++ [rS (⟨u1, f.nm, day, day + v, (l.length : Int) + 1, false⟩ : JS)]) day last) := Zi (HJ.out.putS hl40 (s_right hfn Zo Zo Zo (by rw [HL1.out]; exact HJ.out.kn)) HL1.out ⟨(by decide : (2 : Nat) ≤ _), name_wf hfn⟩)
 refine hK9 _ _ (heldE HM) ?_; clear hK9 K9; ((try simp only [Za]); (try simp only [Zx]); (try simp only [Zy]))
 refine k_add 7 (heldE HM) ?_
 refine t_pure (i := 11) (v := .agg (JS.c (⟨u1, f.nm, day, day + v, (l.length : Int) + 1, false⟩ : JS))) rfl rfl Zk (fun _ _ _ h => h) (heldE HM) Zv ?_ ?_; (focus (exact h_bg5 rfl Zw Zw Zw Zw Zw HB)); ((try simp only [Za]); (try simp only [Zx]); (try simp only [Zy]))
 refine t_pure (i := 12) (v := .agg (JR.c (rS (⟨u1, f.nm, day, day + v, (l.length : Int) + 1, false⟩ : JS)))) rfl rfl Zk (fun _ _ _ h => h) (heldE HM) Zv ?_ ?_; (focus (exact h_bg2 rfl Zw Zw HR)); ((try simp only [Za]); (try simp only [Zx]); (try simp only [Zy]))
 refine j_one 13 fun K9 hK9 => ?_
 refine j_bs1 (c0 := (rS (⟨u1, f.nm, day, day + v, (l.length : Int) + 1, false⟩ : JS)).c) HM ?_ (z0 := JR.size _) (hT := elr); clear HM; intro b9 w1 HM
 refine hK9 _ _ (heldE HM) ?_; clear hK9 K9; ((try simp only [Za]); (try simp only [Zx]); (try simp only [Zy]))
 refine j_one 14 fun K9 hK9 => ?_
 refine j_app (m := [(rS (⟨u1, f.nm, day, day + v, (l.length : Int) + 1, false⟩ : JS)).c]) (F := fun X => (b13, x.c) :: (b12, f.c) :: (b4, uc) :: (tb, c1) :: X) HM HS.out ((SlAt.made1 b9 (JR.size _)).rd HM Zs) ?_ (jr_one _) (hT := elr) (hTx := elr) (hlen := hcap _); clear HM; intro s9 B9 w9 HSS HM; obtain ⟨hsl, HSS⟩ := app_len HSS
 refine hK9 _ _ (heldE HM) ?_; clear hK9 K9; ((try simp only [Za]); (try simp only [Zx]); (try simp only [Zy]))
 refine k_mv 15 (heldE HM) ?_
 refine wpAnyL_done Zk ?_ _
 (exact hQ s9 _ _ _ B9 _ _ _ _ _ _ _ _ _ _ _ _ _ _ _ _ HJ2 (Zi HSS) HC hsl HM)
end
end Go.Proofs.YtkiempioeffhbaaGreatDoor
