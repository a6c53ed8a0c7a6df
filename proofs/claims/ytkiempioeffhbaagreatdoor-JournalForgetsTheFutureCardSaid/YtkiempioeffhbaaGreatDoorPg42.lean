/- Walks. -/
import Derived.Test.YtkiempioeffhbaaGreatDoorPg41
namespace Go.Proofs.YtkiempioeffhbaaGreatDoor
set_option maxHeartbeats 16000000
open Go.RowKit
set_option maxRecDepth 8000
set_option linter.unusedSimpArgs false
set_option linter.unusedVariables false
section
theorem YPgbp3 {P : Prop} (h : P := by
 refine t_pure (i := 23) (v := .agg (JR.c (rT (⟨k2 120 (97 + k), f.nm, x.nm, acc, ac2, q, day, (l.length : Int) + 1, false⟩ : JT)))) rfl rfl Zk (fun _ _ _ h => h) (heldE HM) Zv ?_ ?_; (focus (exact h_bg2 rfl Zw Zw HR)); ((try simp only [Za]); (try simp only [Zx]); (try simp only [Zy]))
 refine j_one 24 fun K9 hK9 => ?_
 refine j_bs1 (c0 := (rT (⟨k2 120 (97 + k), f.nm, x.nm, acc, ac2, q, day, (l.length : Int) + 1, false⟩ : JT)).c) HM ?_ (z0 := JR.size _) (hT := elr); clear HM; intro b9 w1 HM
 refine hK9 _ _ (heldE HM) ?_; clear hK9 K9; ((try simp only [Za]); (try simp only [Zx]); (try simp only [Zy]))
 refine j_one 25 fun K9 hK9 => ?_
 refine j_app (m := [(rT (⟨k2 120 (97 + k), f.nm, x.nm, acc, ac2, q, day, (l.length : Int) + 1, false⟩ : JT)).c]) (F := fun X => (bc, rowsOf [Tx.b (97 + k)]) :: (b13, x.c) :: (b12, f.c) :: (b4, uc) :: (tb, c1) :: X) HM HS.out ((SlAt.made1 b9 (JR.size _)).rd HM Zs) ?_ (jr_one _) (hT := elr) (hTx := elr) (hlen := hcap _); clear HM; intro s9 B9 w9 HSS HM; obtain ⟨hsl, HSS⟩ := app_len HSS
 refine hK9 _ _ (heldE HM) ?_; clear hK9 K9; ((try simp only [Za]); (try simp only [Zx]); (try simp only [Zy]))
 refine k_mv 26 (heldE HM) ?_
 refine wpAnyL_done Zk ?_ _
 (exact hQ s9 _ _ _ B9 _ _ _ _ _ _ _ _ _ _ _ _ _ _ _ _ _ _ _ _ _ _ _ _ _ _ _ HJ2 (Zi HSS) HC hsl HM.pick)) : P := h
theorem YPgbp1 {P : Prop} (h : P := by
 refine o_callg (sunit_new (tb := tb) HM Zl HC.out H0.out hle) rfl ?_ ?_; (focus (refine h_call1 (ts := ?_) (x1 := ?_) ?_ Zk ?_; rotate_left 2; (focus rfl); rfl)); rintro e9 w1 ⟨q, rfl, q0, q1, ⟨c1, hc1, hb1, hg9⟩⟩; replace HM := HM.put (c' := c1) Zg hb1 hg9; clear hg9 hb1; replace HC := Zi hc1; clear hc1; refine ⟨_, rfl, ?_⟩; have HB := fun w => JT.bld (parts := #[(0, .string (({ data := #[120] } : ByteArray) ++ Tx.bytes [97 + k])), (1, .string f.nm), (2, .string x.nm), (3, .agg acc.c), (4, .agg ac2.c), (5, .int .i64 q), (6, .int .i64 day), (7, .int .i64 ((l.length : Int) + 1))]) (r := (⟨k2 120 (97 + k), f.nm, x.nm, acc, ac2, q, day, (l.length : Int) + 1, false⟩ : JT)) (by simp [Value.cells, JK.size]) (by rw [JT.rows]; rfl) w; have HR := fun w => JR.bld (parts := #[(0, .int .i64 5), (7, .agg (JT.c (⟨k2 120 (97 + k), f.nm, x.nm, acc, ac2, q, day, (l.length : Int) + 1, false⟩ : JT)))]) (r := rT (⟨k2 120 (97 + k), f.nm, x.nm, acc, ac2, q, day, (l.length : Int) + 1, false⟩ : JT)) (by simp [Value.cells, JT.size]) (by rw [JR.rows]; rfl) w; have HJ2 : Hid (Jb.Jn (l ++ [rT (⟨k2 120 (97 + k), f.nm, x.nm, acc, ac2, q, day, (l.length : Int) + 1, false⟩ : JT)]) day last) := Zi (HJ.out.putT hl40 (t_right (key_x k Zo) hfn hxn hk.out.1 hk2.out.1 q0 q1 HJ.out.isDay (by rw [HL1.out]; exact HJ.out.kn)) HL1.out ⟨(by decide : (2 : Nat) ≤ _), name_wf hfn, name_wf hxn, acc_wf hk.out, acc_wf hk2.out⟩)
 refine hK9 _ _ (heldE HM) ?_; clear hK9 K9; ((try simp only [Za]); (try simp only [Zx]); (try simp only [Zy]))
 refine t_pure (i := 22) (v := .agg (JT.c (⟨k2 120 (97 + k), f.nm, x.nm, acc, ac2, q, day, (l.length : Int) + 1, false⟩ : JT))) rfl rfl Zk (fun _ _ _ h => h) (heldE HM) Zv ?_ ?_; (focus (exact h_bg8 rfl Zw Zw Zw Zw Zw Zw Zw Zw HB)); ((try simp only [Za]); (try simp only [Zx]); (try simp only [Zy]))
 exact YPgbp3) : P := h
theorem z9_137 {P : Prop} (h : P := by
 refine j_one 15 fun K9 hK9 => ?_
 refine o_callg (sacc_new (tb := tb) HM Zl HC.out H0.out hle) rfl ?_ ?_; (focus (refine h_call1 (ts := ?_) (x1 := ?_) ?_ Zk ?_; rotate_left 2; (focus rfl); rfl)); rintro e9 w1 ⟨ac2, rfl, hk2, ⟨c1, hc1, hb1, hg9⟩⟩; replace HM := HM.put (c' := c1) Zg hb1 hg9; clear hg9 hb1; replace HC := Zi hc1; clear hc1; refine ⟨_, rfl, ?_⟩
 refine hK9 _ _ (heldE HM) ?_; clear hK9 K9; ((try simp only [Za]); (try simp only [Zx]); (try simp only [Zy]))
 refine j_one 17 fun K9 hK9 => ?_
 exact YPgbp1) : P := h
theorem z9_138 {P : Prop} (h : P := by
 refine j_one 17 fun K9 hK9 => ?_
 exact YPgbp1) : P := h
theorem z9_139 {P : Prop} (h : P := by
 refine t_pure (i := 22) (v := .agg (JT.c (⟨k2 120 (97 + k), f.nm, x.nm, acc, ac2, q, day, (l.length : Int) + 1, false⟩ : JT))) rfl rfl Zk (fun _ _ _ h => h) (heldE HM) Zv ?_ ?_; (focus (exact h_bg8 rfl Zw Zw Zw Zw Zw Zw Zw Zw HB)); ((try simp only [Za]); (try simp only [Zx]); (try simp only [Zy]))
 exact YPgbp3) : P := h
theorem YPgbp4 {P : Prop} (h : P := by
 refine j_one 33 fun K9 hK9 => ?_
 refine j_st HM ?_; clear HM; intro w1 HM
 refine hK9 _ _ (heldE HM) ?_; clear hK9 K9
 refine wpAnyL_done Zk ?_ _
 (exact hQ _ _ _ _ _ _ _ _ _ _ _ _ _ _ _ _ _ _ _ _ _ _ _ _ _ _ _ _ _ _ _ _ _ _ _ _ _ HOK HC HM.pick)) : P := h
theorem YPgbp5 {P : Prop} (h : P := by
 refine t_pure (i := 31) (v := .agg (ord i k f.nm x.nm (1000000 + v) (day * 1440) ((l.length : Int) + 1)).c) rfl rfl Zk (fun _ _ _ h => h) (heldE HM) Zv ?_ ?_; (focus (exact h_bg8 rfl Zw Zw Zw Zw Zw Zw Zw Zw HB)); ((try simp only [Za]); (try simp only [Zx]); (try simp only [Zy]))
 exact YPgbp4) : P := h
theorem YPgbp0 {P : Prop} (h : P := by
 refine j_one 24 fun K9 hK9 => ?_
 refine o_callg (snext_inf W tb _ (100000000) _ (HM.tp Zl HC.out H0.out hle) Zo Zo) rfl ?_ ?_; (focus (refine h_call2 (ts := ?_) (x1 := ?_) (x2 := ?_) ?_ Zk ?_ ?_; rotate_left 3; (focus rfl); (focus rfl); rfl)); rintro e9 w1 ⟨v, rfl, v0, v1, ⟨c1, hb1, hc1, -, -⟩, hg9⟩; replace HM := HM.put (c' := c1) Zg hb1 (Only.of_grown hg9); clear hg9 hb1; replace HC := Zi hc1; clear hc1; refine ⟨_, rfl, ?_⟩; have HB := fun w => JO.bld (parts := #[(0, .string (({ data := #[115] } : ByteArray) ++ Tx.bytes [49 + i])), (1, .agg k.c), (2, .string f.nm), (3, .string x.nm), (4, .int .i64 1), (5, .int .i64 (1000000 + v)), (7, .int .i64 (day * 1440)), (8, .int .i64 ((l.length : Int) + 1))]) (r := ord i k f.nm x.nm (1000000 + v) (day * 1440) ((l.length : Int) + 1)) (by simp [Value.cells, JK.size]) (by rw [JO.rows]; rfl) w; have sx := (ord i k f.nm x.nm (1000000 + v) (day * 1440) ((l.length : Int) + 1)).sa JO.zero.size; have HOK : Hid (OrdOk (ord i k f.nm x.nm (1000000 + v) (day * 1440) ((l.length : Int) + 1)) (l.length + 1)) := Zi (ord_ok hi2 hk.out hfn hxn Zo Zo Zo Zo HL1.out HJ.out.kn)
 refine hK9 _ _ (heldE HM) ?_; clear hK9 K9; ((try simp only [Za]); (try simp only [Zx]); (try simp only [Zy]))
 refine k_add 25 (heldE HM) ?_
 exact YPgbp5) : P := h
theorem z9_140 {P : Prop} (h : P := by
 refine j_two 24 32 ?_ ?_
 ·refine o_callg (snext_inf W tb _ (100000000) _ (HM.tp Zl HC.out H0.out hle) Zo Zo) rfl ?_ ?_; (focus (refine h_call2 (ts := ?_) (x1 := ?_) (x2 := ?_) ?_ Zk ?_ ?_; rotate_left 3; (focus rfl); (focus rfl); rfl)); rintro e9 w1 ⟨v, rfl, v0, v1, ⟨c1, hb1, hc1, -, -⟩, hg9⟩; replace HM := HM.put (c' := c1) Zg hb1 (Only.of_grown hg9); clear hg9 hb1; replace HC := Zi hc1; clear hc1; refine ⟨_, rfl, ?_⟩; have HB := fun w => JO.bld (parts := #[(0, .string (({ data := #[115] } : ByteArray) ++ Tx.bytes [49 + i])), (1, .agg k.c), (2, .string f.nm), (3, .string x.nm), (4, .int .i64 1), (5, .int .i64 (1000000 + v)), (7, .int .i64 (day * 1440)), (8, .int .i64 ((l.length : Int) + 1))]) (r := ord i k f.nm x.nm (1000000 + v) (day * 1440) ((l.length : Int) + 1)) (by simp [Value.cells, JK.size]) (by rw [JO.rows]; rfl) w; have sx := (ord i k f.nm x.nm (1000000 + v) (day * 1440) ((l.length : Int) + 1)).sa JO.zero.size; have HOK : Hid (OrdOk (ord i k f.nm x.nm (1000000 + v) (day * 1440) ((l.length : Int) + 1)) (l.length + 1)) := Zi (ord_ok hi2 hk.out hfn hxn Zo Zo Zo Zo HL1.out HJ.out.kn)
  refine ⟨(heldE HM), ?_⟩; ((try simp only [Za]); (try simp only [Zx]); (try simp only [Zy]))
  refine k_add 25 (heldE HM) ?_
  refine t_pure (i := 31) (v := .agg (ord i k f.nm x.nm (1000000 + v) (day * 1440) ((l.length : Int) + 1)).c) rfl rfl Zk (fun _ _ _ h => h) (heldE HM) Zv ?_ ?_; (focus (exact h_bg8 rfl Zw Zw Zw Zw Zw Zw Zw Zw HB)); ((try simp only [Za]); (try simp only [Zx]); (try simp only [Zy]))
  refine j_one 32 fun K9 hK9 => ?_
  refine j_al HM ?_; clear HM; intro bk w1 HM
  refine hK9 _ _ (heldE HM) ?_; clear hK9 K9
  exact YPgbp4
 ·refine j_al HM ?_; clear HM; intro bk w1 HM
  refine ⟨(heldE HM), ?_⟩
  exact YPgbp0) : P := h
theorem z9_141 {P : Prop} (h : P := by
 refine j_one 7 fun K9 hK9 => ?_
 refine o_callg (sacc_new (tb := tb) HM Zl HC.out H0.out hle) rfl ?_ ?_; (focus (refine h_call1 (ts := ?_) (x1 := ?_) ?_ Zk ?_; rotate_left 2; (focus rfl); rfl)); rintro e9 w1 ⟨k, rfl, hk, ⟨c1, hc1, hb1, hg9⟩⟩; replace HM := HM.put (c' := c1) Zg hb1 hg9; clear hg9 hb1; replace HC := Zi hc1; clear hc1; refine ⟨_, rfl, ?_⟩
 refine hK9 _ _ (heldE HM) ?_; clear hK9 K9; ((try simp only [Za]); (try simp only [Zx]); (try simp only [Zy]))
 exact YPgbp0) : P := h
theorem z9_142 {P : Prop} (h : P := by
 refine t_pure (i := 31) (v := .agg (ord i k f.nm x.nm (1000000 + v) (day * 1440) ((l.length : Int) + 1)).c) rfl rfl Zk (fun _ _ _ h => h) (heldE HM) Zv ?_ ?_; (focus (exact h_bg8 rfl Zw Zw Zw Zw Zw Zw Zw Zw HB)); ((try simp only [Za]); (try simp only [Zx]); (try simp only [Zy]))
 refine j_one 32 fun K9 hK9 => ?_
 refine j_al HM ?_; clear HM; intro bk w1 HM
 refine hK9 _ _ (heldE HM) ?_; clear hK9 K9
 exact YPgbp4) : P := h
theorem YPgbp2 {P : Prop} (h : P := by
 refine j_bs1 (c0 := Tx.b (49 + i)) HM ?_ (hT := elb) (z0 := rfl); clear HM; intro bc w1 HM
 refine hK9 _ _ (heldE HM) ?_; clear hK9 K9; ((try simp only [Za]); (try simp only [Zx]); (try simp only [Zy]))
 refine k_more ((bc, rowsOf [Tx.b (49 + i)]) :: [(b4, uc)]) ?_
 refine t_eq (i := 4) (v := ?_) [] rfl rfl rfl Zk (fun _ _ _ h => h) (heldE HM) ?_ ?_; rotate_left 1; (focus (refine y_cvb (x := ?_) bc (49 + i) ?_ ?_ ?_ ?_ ?_; rotate_left 1; (focus (exact fun _ h => h.2.get .here)); (focus omega); (focus rfl); (focus rfl); ((conv => lhs; whnf) <;> rfl))); ((try simp only [Za]); (try simp only [Zx]); (try simp only [Zy]))
 refine t_pure (i := 5) (v := .string (({ data := #[115] } : ByteArray) ++ Tx.bytes [49 + i])) rfl rfl Zk (fun _ _ _ h => h) (heldE HM) Zv ?_ ?_; (focus (exact h_cat (s := { data := #[115] }) (t := Tx.bytes [49 + i]) rfl Zw Zw (by show 1 + 1 ≤ _; decide))); ((try simp only [Za]); (try simp only [Zx]); (try simp only [Zy]))
 exact YPgbp5) : P := h
theorem z9_143 {P : Prop} (h : P := by
 refine j_one 3 fun K9 hK9 => ?_
 exact YPgbp2) : P := h
theorem z9_144 {P : Prop} (h : P := by
 refine j_two 3 24 ?_ ?_
 ·refine j_bs1 (c0 := Tx.b (49 + i)) HM ?_ (hT := elb) (z0 := rfl); clear HM; intro bc w1 HM
  refine ⟨(heldE HM), ?_⟩; ((try simp only [Za]); (try simp only [Zx]); (try simp only [Zy]))
  refine k_more ((bc, rowsOf [Tx.b (49 + i)]) :: [(b4, uc)]) ?_
  refine t_eq (i := 4) (v := ?_) [] rfl rfl rfl Zk (fun _ _ _ h => h) (heldE HM) ?_ ?_; rotate_left 1; (focus (refine y_cvb (x := ?_) bc (49 + i) ?_ ?_ ?_ ?_ ?_; rotate_left 1; (focus (exact fun _ h => h.2.get .here)); (focus omega); (focus rfl); (focus rfl); ((conv => lhs; whnf) <;> rfl))); ((try simp only [Za]); (try simp only [Zx]); (try simp only [Zy]))
  refine t_pure (i := 5) (v := .string (({ data := #[115] } : ByteArray) ++ Tx.bytes [49 + i])) rfl rfl Zk (fun _ _ _ h => h) (heldE HM) Zv ?_ ?_; (focus (exact h_cat (s := { data := #[115] }) (t := Tx.bytes [49 + i]) rfl Zw Zw (by show 1 + 1 ≤ _; decide))); ((try simp only [Za]); (try simp only [Zx]); (try simp only [Zy]))
  exact YPgbp0
 ·refine o_callg (snext_inf W tb _ (100000000) _ (HM.tp Zl HC.out H0.out hle) Zo Zo) rfl ?_ ?_; (focus (refine h_call2 (ts := ?_) (x1 := ?_) (x2 := ?_) ?_ Zk ?_ ?_; rotate_left 3; (focus rfl); (focus rfl); rfl)); rintro e9 w1 ⟨v, rfl, v0, v1, ⟨c1, hb1, hc1, -, -⟩, hg9⟩; replace HM := HM.put (c' := c1) Zg hb1 (Only.of_grown hg9); clear hg9 hb1; replace HC := Zi hc1; clear hc1; refine ⟨_, rfl, ?_⟩; have HB := fun w => JO.bld (parts := #[(0, .string (({ data := #[115] } : ByteArray) ++ Tx.bytes [49 + i])), (1, .agg k.c), (2, .string f.nm), (3, .string x.nm), (4, .int .i64 1), (5, .int .i64 (1000000 + v)), (7, .int .i64 (day * 1440)), (8, .int .i64 ((l.length : Int) + 1))]) (r := ord i k f.nm x.nm (1000000 + v) (day * 1440) ((l.length : Int) + 1)) (by simp [Value.cells, JK.size]) (by rw [JO.rows]; rfl) w; have sx := (ord i k f.nm x.nm (1000000 + v) (day * 1440) ((l.length : Int) + 1)).sa JO.zero.size; have HOK : Hid (OrdOk (ord i k f.nm x.nm (1000000 + v) (day * 1440) ((l.length : Int) + 1)) (l.length + 1)) := Zi (ord_ok hi2 hk.out hfn hxn Zo Zo Zo Zo HL1.out HJ.out.kn)
  refine ⟨(heldE HM), ?_⟩; ((try simp only [Za]); (try simp only [Zx]); (try simp only [Zy]))
  refine k_add 25 (heldE HM) ?_
  refine j_one 3 fun K9 hK9 => ?_
  exact YPgbp2) : P := h
end
section
open Jb
theorem jr34 {W w0 w : World} {tb b4 : Nat} {uc : Array Value} {B : List (Nat × Array Value)} {b12 b13 : Nat} {f : WF} {x : WK} {c : Array Value} {m : Nat} {A7 : Option Addr} {l : List JR} {n7 : Nat} {day last : Int} {Q : Exit → Act → World → Prop} {x1 x2 x3 x5 x6 x9 x10 x11 x14 x15 x16 x17 x18 x19 x20 x21 x22 x23 x24 x25 x26 x27 x28 x29 x30 x31 x32 x33 x34 x35 x36 x37 x38 x39 x40 x41 x42 x43 x44 x45 x46 x47 x48 x49 x50 x51 x52 x53 x54 x55 x56 x57 x58 x59 x60 x61 x62 x63 x64 x65 x66 x67 x68 x69 x70 x71 x72 x73 x74 x75 x76 x77 x78 x79 x80 x81 x82 x83 x84 x85 x86 x87 x88 x89 x90 x91 x92 x93 x94 x95 x96 x97 x98 x99 x100 x101 x102 x103 x104 x105 x106 x107 x108 x109 x110 x111 x112 x113 x114 x115 x116 x117 x118 x119 x120 x121 x122 x123 x124 x125 x126 x127 x128 x129 x130 x131 x132 x133 x134 x135 x136 x137 x138 x139 x140 x141 x142 x143 x144 x145 x146 x147 x148 x149 x150 x151 x152 x153 x154 x155 x156 x157 x158 x159 x160 x161 x162 x163 x164 x165 x166 x167 x168 x169 x170 x171 x172 x173 x174 x175 x176 x177 x178 x179 x180 x181 x182 x183 x184 x185 x186 x187 x188 x189 x190 x191 x192 x193 x194 x195 x196 x197 x198 x199 x200 x201 x202 x203 x204 x205 x206 x207 x208 x209 x210 x211 x212 x213 x214 x215 x216 x217 x218 x219 x220 x221 x222 x223 x224 x225 x226 x227 x228 x229 x230 x231 x232 x233 x234 x235 x236 x237 x238 x239 x240 x241 x242 x243 x244 x245 x246 x247 x248 x249 x250 x251 x252 x253 x254 x255 x256 x257 x258 x259 x260 x261 x262 x263 x264 x265 x266 x267 x268 x269 x270 x271 x272 x273 x274 x275 x276 x277 x278 x279 x280 x281 x282 x283 x284 x285 x286 x287 x288 x289 x290 x291 x292 x293 x294 x295 x296 x297 x298 x299 x300 x301 x302 x303 x304 x305 x306 x307 x308 x309 x310 x311 x312 x313 x314 x315 x316 x317 x318 x319 x320 x321 x322 x323 x324 x325 x326 : Value} (HM : Mem w0 [tb] ((b13, x.c) :: (b12, f.c) :: (b4, uc) :: (tb, c) :: B) w) (HS : Hid (SlAt 189 (.slice A7 l.length n7) (l.map JR.c) B)) (HJ : Hid (Jb.Jn l day last)) (hl40 : l.length < 40) (hfn : name f.nm = true) (hxn : name x.nm = true) (HC : Hid (TapeC W m c)) (H0 : Hid (Below W.heap.size W w0)) (hle : ∀ b ∈ [tb], W.heap.size ≤ b)
    (hQ : ∀ (s9 : Value) (r : JR) (c9 : Array Value) (m9 : Nat) (B9 : List (Nat × Array Value)) (y266 y267 y268 y269 y270 y271 y272 y273 y274 y275 y276 y277 y278 y279 y280 y281 y282 y283 y284 y285 y286 y287 y288 y289 y290 y291 : Value) (w9 : World), Hid (Jb.Jn (l ++ [r]) day last) → Hid (SlAt 189 s9 ((l ++ [r]).map JR.c) B9) → Hid (TapeC W m9 c9) → slen s9 = l.length + 1 → Mem w0 [tb] ((b13, x.c) :: (b12, f.c) :: (b4, uc) :: (tb, c9) :: B9) w9 → Q .normal { tmps := #[.pointer (some ⟨tb, 0, none⟩), x1, x2, x3, .pointer (some ⟨b4, 0, none⟩), x5, x6, s9, .int .i64 day, x9, x10, x11, .pointer (some ⟨b12, 0, none⟩), .pointer (some ⟨b13, 0, none⟩), x14, x15, x16, x17, x18, x19, x20, x21, x22, x23, x24, x25, x26, x27, x28, x29, x30, x31, x32, x33, x34, x35, x36, x37, x38, x39, x40, x41, x42, x43, x44, x45, x46, x47, x48, x49, x50, x51, x52, x53, x54, x55, x56, x57, x58, x59, x60, x61, x62, x63, x64, x65, x66, x67, x68, x69, x70, x71, x72, x73, x74, x75, x76, x77, x78, x79, x80, x81, x82, x83, x84, x85, x86, x87, x88, x89, x90, x91, x92, x93, x94, x95, x96, x97, x98, x99, x100, x101, x102, x103, x104, x105, x106, x107, x108, x109, x110, x111, x112, x113, x114, x115, x116, x117, x118, x119, x120, x121, x122, x123, x124, x125, x126, x127, x128, x129, x130, x131, x132, x133, x134, x135, x136, x137, x138, x139, x140, x141, x142, x143, x144, x145, x146, x147, x148, x149, x150, x151, x152, x153, x154, x155, x156, x157, x158, x159, x160, x161, x162, x163, x164, x165, x166, x167, x168, x169, x170, x171, x172, x173, x174, x175, x176, x177, x178, x179, x180, x181, x182, x183, x184, x185, x186, x187, x188, x189, x190, x191, x192, x193, x194, x195, x196, x197, x198, x199, x200, x201, x202, x203, x204, x205, x206, x207, x208, x209, x210, x211, x212, x213, x214, x215, x216, x217, x218, x219, x220, x221, x222, x223, x224, x225, x226, x227, x228, x229, x230, x231, x232, x233, x234, x235, x236, x237, x238, x239, x240, x241, x242, x243, x244, x245, x246, x247, x248, x249, x250, x251, x252, x253, x254, x255, x256, x257, x258, x259, x260, x261, x262, x263, x264, x265, y266, y267, y268, y269, y270, y271, y272, y273, y274, y275, y276, y277, y278, y279, y280, y281, y282, y283, y284, y285, y286, y287, y288, y289, y290, y291, x292, x293, x294, x295, x296, x297, x298, x299, x300, x301, x302, x303, x304, x305, x306, x307, x308, x309, x310, x311, x312, x313, x314, x315, x316, x317, x318, x319, x320, x321, x322, x323, x324, x325, x326], defers := [] } w9) :
    (Code.region 34 (opsJ 34) true).wp Tryz.prog Q { tmps := #[.pointer (some ⟨tb, 0, none⟩), x1, x2, x3, .pointer (some ⟨b4, 0, none⟩), x5, x6, .slice A7 l.length n7, .int .i64 day, x9, x10, x11, .pointer (some ⟨b12, 0, none⟩), .pointer (some ⟨b13, 0, none⟩), x14, x15, x16, x17, x18, x19, x20, x21, x22, x23, x24, x25, x26, x27, x28, x29, x30, x31, x32, x33, x34, x35, x36, x37, x38, x39, x40, x41, x42, x43, x44, x45, x46, x47, x48, x49, x50, x51, x52, x53, x54, x55, x56, x57, x58, x59, x60, x61, x62, x63, x64, x65, x66, x67, x68, x69, x70, x71, x72, x73, x74, x75, x76, x77, x78, x79, x80, x81, x82, x83, x84, x85, x86, x87, x88, x89, x90, x91, x92, x93, x94, x95, x96, x97, x98, x99, x100, x101, x102, x103, x104, x105, x106, x107, x108, x109, x110, x111, x112, x113, x114, x115, x116, x117, x118, x119, x120, x121, x122, x123, x124, x125, x126, x127, x128, x129, x130, x131, x132, x133, x134, x135, x136, x137, x138, x139, x140, x141, x142, x143, x144, x145, x146, x147, x148, x149, x150, x151, x152, x153, x154, x155, x156, x157, x158, x159, x160, x161, x162, x163, x164, x165, x166, x167, x168, x169, x170, x171, x172, x173, x174, x175, x176, x177, x178, x179, x180, x181, x182, x183, x184, x185, x186, x187, x188, x189, x190, x191, x192, x193, x194, x195, x196, x197, x198, x199, x200, x201, x202, x203, x204, x205, x206, x207, x208, x209, x210, x211, x212, x213, x214, x215, x216, x217, x218, x219, x220, x221, x222, x223, x224, x225, x226, x227, x228, x229, x230, x231, x232, x233, x234, x235, x236, x237, x238, x239, x240, x241, x242, x243, x244, x245, x246, x247, x248, x249, x250, x251, x252, x253, x254, x255, x256, x257, x258, x259, x260, x261, x262, x263, x264, x265, x266, x267, x268, x269, x270, x271, x272, x273, x274, x275, x276, x277, x278, x279, x280, x281, x282, x283, x284, x285, x286, x287, x288, x289, x290, x291, x292, x293, x294, x295, x296, x297, x298, x299, x300, x301, x302, x303, x304, x305, x306, x307, x308, x309, x310, x311, x312, x313, x314, x315, x316, x317, x318, x319, x320, x321, x322, x323, x324, x325, x326], defers := [] } w := by
 refine Qn.run ?_
 unfold opsJ
 conv => enter [2, 2]; whnf
 have elr := jr_el
 have els : elemB 80 9 1 16 = true := by kernel_rfl
 have elb : elemB 78 5 1 1 = true := by kernel_rfl
 have zo := JO.za
 have HL1 : Hid ((l.length : Int) + 1 = ((l.length + 1 : Nat) : Int)) := Zi Zo
 have hd0 := HJ.out.d0
 have hd1 := HJ.out.day
 have hcap : ∀ r : JR, ((l.map JR.c).length + [r.c].length) * (1184 + 1) ≤ 140737488355328 := fun r => jr_cap Zo
 have lfn := (f.f_nm).la
 have lxn := (x.f_nm).la
 refine start_M2 [] HM ((Sub.keep (Sub.keep (Sub.keep Sub.nil)))) Zk (fun w0x H9 => ?_)
 replace HM := H9; clear H9
 refine k_mv 0 (heldE HM) ?_
 refine k_mv 1 (heldE HM) ?_
 refine k_fa 8 (heldE HM) ?_
 refine k_ld 9 [] (heldE HM) ?_
 refine k_fa 10 (heldE HM) ?_
 refine k_ld 11 [] (heldE HM) ?_
 refine k_mv 12 (heldE HM) ?_
 refine k_mv 14 (heldE HM) ?_
 refine k_mv 16 (heldE HM) ?_
 refine k_mv 18 (heldE HM) ?_
 refine k_mv 19 (heldE HM) ?_
 refine k_pv 20 (heldE HM) ?_
 refine k_add 21 (heldE HM) ?_
 refine j_one 2 fun K9 hK9 => ?_
 refine o_callg (snext_inf W tb _ (9) _ (HM.tp Zl HC.out H0.out hle) Zo Zo) rfl ?_ ?_; (focus (refine h_call2 (ts := ?_) (x1 := ?_) (x2 := ?_) ?_ Zk ?_ ?_; rotate_left 3; (focus rfl); (focus rfl); rfl)); rintro e9 w1 ⟨u, rfl, u0, u1, ⟨c1, hb1, hc1, -, -⟩, hg9⟩; replace HM := HM.put (c' := c1) Zg hb1 (Only.of_grown hg9); clear hg9 hb1; replace HC := Zi hc1; clear hc1; refine ⟨_, rfl, ?_⟩; obtain ⟨k, rfl⟩ : ∃ k : Nat, u = k := ⟨u.toNat, by omega⟩; have HEI : Hid ((97 : Int) + (k : Nat) = ((97 + k : Nat) : Int)) := Zi Zo
 refine hK9 _ _ (heldE HM) ?_; clear hK9 K9; ((try simp only [Za]); (try simp only [Zx]); (try simp only [Zy]))
 refine k_add 3 (heldE HM) ?_
 refine t_pure (i := 4) (v := .int .u8 ((97 + k : Nat) : Int)) rfl rfl Zk (fun _ _ _ h => h) (heldE HM) Zv ?_ ?_; (focus (exact h_cv rfl (by first | exact congrArg _ HEI.out | (simp only [HEI.out]; rfl) | (show Value.int .i64 _ = _; rw [HEI.out])) (fun w9 => cv_u8 (97 + k) Zo w9))); ((try simp only [Za]); (try simp only [Zx]); (try simp only [Zy]))
 refine j_two 5 13 ?_ ?_
 ·refine j_bs1 (c0 := Tx.b (97 + k)) HM ?_ (hT := elb) (z0 := rfl); clear HM; intro bc w1 HM
  refine ⟨(heldE HM), ?_⟩; ((try simp only [Za]); (try simp only [Zx]); (try simp only [Zy]))
  refine k_more ((bc, rowsOf [Tx.b (97 + k)]) :: [(b13, x.c), (b12, f.c), (b4, uc)]) ?_
  refine t_eq (i := 6) (v := ?_) [] rfl rfl rfl Zk (fun _ _ _ h => h) (heldE HM) ?_ ?_; rotate_left 1; (focus (refine y_cvb (x := ?_) bc (97 + k) ?_ ?_ ?_ ?_ ?_; rotate_left 1; (focus (exact fun _ h => h.2.get .here)); (focus omega); (focus rfl); (focus rfl); ((conv => lhs; whnf) <;> rfl))); ((try simp only [Za]); (try simp only [Zx]); (try simp only [Zy]))
  refine t_pure (i := 7) (v := .string (({ data := #[120] } : ByteArray) ++ Tx.bytes [97 + k])) rfl rfl Zk (fun _ _ _ h => h) (heldE HM) Zv ?_ ?_; (focus (exact h_cat (s := { data := #[120] }) (t := Tx.bytes [97 + k]) rfl Zw Zw (by show 1 + 1 ≤ _; decide))); ((try simp only [Za]); (try simp only [Zx]); (try simp only [Zy]))
  refine j_one 13 fun K9 hK9 => ?_
  refine o_callg (sacc_new (tb := tb) HM Zl HC.out H0.out hle) rfl ?_ ?_; (focus (refine h_call1 (ts := ?_) (x1 := ?_) ?_ Zk ?_; rotate_left 2; (focus rfl); rfl)); rintro e9 w1 ⟨acc, rfl, hk, ⟨c1, hc1, hb1, hg9⟩⟩; replace HM := HM.put (c' := c1) Zg hb1 hg9; clear hg9 hb1; replace HC := Zi hc1; clear hc1; refine ⟨_, rfl, ?_⟩
  refine hK9 _ _ (heldE HM) ?_; clear hK9 K9; ((try simp only [Za]); (try simp only [Zx]); (try simp only [Zy]))
  exact z9_137
 ·refine o_callg (sacc_new (tb := tb) HM Zl HC.out H0.out hle) rfl ?_ ?_; (focus (refine h_call1 (ts := ?_) (x1 := ?_) ?_ Zk ?_; rotate_left 2; (focus rfl); rfl)); rintro e9 w1 ⟨acc, rfl, hk, ⟨c1, hc1, hb1, hg9⟩⟩; replace HM := HM.put (c' := c1) Zg hb1 hg9; clear hg9 hb1; replace HC := Zi hc1; clear hc1; refine ⟨_, rfl, ?_⟩
  refine ⟨(heldE HM), ?_⟩; ((try simp only [Za]); (try simp only [Zx]); (try simp only [Zy]))
  refine j_two 5 15 ?_ ?_
  ·refine j_bs1 (c0 := Tx.b (97 + k)) HM ?_ (hT := elb) (z0 := rfl); clear HM; intro bc w1 HM
   refine ⟨(heldE HM), ?_⟩; ((try simp only [Za]); (try simp only [Zx]); (try simp only [Zy]))
   refine k_more ((bc, rowsOf [Tx.b (97 + k)]) :: [(b13, x.c), (b12, f.c), (b4, uc)]) ?_
   refine t_eq (i := 6) (v := ?_) [] rfl rfl rfl Zk (fun _ _ _ h => h) (heldE HM) ?_ ?_; rotate_left 1; (focus (refine y_cvb (x := ?_) bc (97 + k) ?_ ?_ ?_ ?_ ?_; rotate_left 1; (focus (exact fun _ h => h.2.get .here)); (focus omega); (focus rfl); (focus rfl); ((conv => lhs; whnf) <;> rfl))); ((try simp only [Za]); (try simp only [Zx]); (try simp only [Zy]))
   refine t_pure (i := 7) (v := .string (({ data := #[120] } : ByteArray) ++ Tx.bytes [97 + k])) rfl rfl Zk (fun _ _ _ h => h) (heldE HM) Zv ?_ ?_; (focus (exact h_cat (s := { data := #[120] }) (t := Tx.bytes [97 + k]) rfl Zw Zw (by show 1 + 1 ≤ _; decide))); ((try simp only [Za]); (try simp only [Zx]); (try simp only [Zy]))
   exact z9_137
  ·refine o_callg (sacc_new (tb := tb) HM Zl HC.out H0.out hle) rfl ?_ ?_; (focus (refine h_call1 (ts := ?_) (x1 := ?_) ?_ Zk ?_; rotate_left 2; (focus rfl); rfl)); rintro e9 w1 ⟨ac2, rfl, hk2, ⟨c1, hc1, hb1, hg9⟩⟩; replace HM := HM.put (c' := c1) Zg hb1 hg9; clear hg9 hb1; replace HC := Zi hc1; clear hc1; refine ⟨_, rfl, ?_⟩
   refine ⟨(heldE HM), ?_⟩; ((try simp only [Za]); (try simp only [Zx]); (try simp only [Zy]))
   refine j_two 5 17 ?_ ?_
   ·refine j_bs1 (c0 := Tx.b (97 + k)) HM ?_ (hT := elb) (z0 := rfl); clear HM; intro bc w1 HM
    refine ⟨(heldE HM), ?_⟩; ((try simp only [Za]); (try simp only [Zx]); (try simp only [Zy]))
    refine k_more ((bc, rowsOf [Tx.b (97 + k)]) :: [(b13, x.c), (b12, f.c), (b4, uc)]) ?_
    refine t_eq (i := 6) (v := ?_) [] rfl rfl rfl Zk (fun _ _ _ h => h) (heldE HM) ?_ ?_; rotate_left 1; (focus (refine y_cvb (x := ?_) bc (97 + k) ?_ ?_ ?_ ?_ ?_; rotate_left 1; (focus (exact fun _ h => h.2.get .here)); (focus omega); (focus rfl); (focus rfl); ((conv => lhs; whnf) <;> rfl))); ((try simp only [Za]); (try simp only [Zx]); (try simp only [Zy]))
    refine t_pure (i := 7) (v := .string (({ data := #[120] } : ByteArray) ++ Tx.bytes [97 + k])) rfl rfl Zk (fun _ _ _ h => h) (heldE HM) Zv ?_ ?_; (focus (exact h_cat (s := { data := #[120] }) (t := Tx.bytes [97 + k]) rfl Zw Zw (by show 1 + 1 ≤ _; decide))); ((try simp only [Za]); (try simp only [Zx]); (try simp only [Zy]))
    exact z9_138
   ·refine o_callg (sunit_new (tb := tb) HM Zl HC.out H0.out hle) rfl ?_ ?_; (focus (refine h_call1 (ts := ?_) (x1 := ?_) ?_ Zk ?_; rotate_left 2; (focus rfl); rfl)); rintro e9 w1 ⟨q, rfl, q0, q1, ⟨c1, hc1, hb1, hg9⟩⟩; replace HM := HM.put (c' := c1) Zg hb1 hg9; clear hg9 hb1; replace HC := Zi hc1; clear hc1; refine ⟨_, rfl, ?_⟩; have HB := fun w => JT.bld (parts := #[(0, .string (({ data := #[120] } : ByteArray) ++ Tx.bytes [97 + k])), (1, .string f.nm), (2, .string x.nm), (3, .agg acc.c), (4, .agg ac2.c), (5, .int .i64 q), (6, .int .i64 day), (7, .int .i64 ((l.length : Int) + 1))]) (r := (⟨k2 120 (97 + k), f.nm, x.nm, acc, ac2, q, day, (l.length : Int) + 1, false⟩ : JT)) (by simp [Value.cells, JK.size]) (by rw [JT.rows]; rfl) w; have HR := fun w => JR.bld (parts := #[(0, .int .i64 5), (7, .agg (JT.c (⟨k2 120 (97 + k), f.nm, x.nm, acc, ac2, q, day, (l.length : Int) + 1, false⟩ : JT)))]) (r := rT (⟨k2 120 (97 + k), f.nm, x.nm, acc, ac2, q, day, (l.length : Int) + 1, false⟩ : JT)) (by simp [Value.cells, JT.size]) (by rw [JR.rows]; rfl) w; have HJ2 : Hid (Jb.Jn (l ++ [rT (⟨k2 120 (97 + k), f.nm, x.nm, acc, ac2, q, day, (l.length : Int) + 1, false⟩ : JT)]) day last) := Zi (HJ.out.putT hl40 (t_right (key_x k Zo) hfn hxn hk.out.1 hk2.out.1 q0 q1 HJ.out.isDay (by rw [HL1.out]; exact HJ.out.kn)) HL1.out ⟨(by decide : (2 : Nat) ≤ _), name_wf hfn, name_wf hxn, acc_wf hk.out, acc_wf hk2.out⟩)
    refine ⟨(heldE HM), ?_⟩; ((try simp only [Za]); (try simp only [Zx]); (try simp only [Zy]))
    refine j_one 5 fun K9 hK9 => ?_
    refine j_bs1 (c0 := Tx.b (97 + k)) HM ?_ (hT := elb) (z0 := rfl); clear HM; intro bc w1 HM
    refine hK9 _ _ (heldE HM) ?_; clear hK9 K9; ((try simp only [Za]); (try simp only [Zx]); (try simp only [Zy]))
    refine k_more ((bc, rowsOf [Tx.b (97 + k)]) :: [(b13, x.c), (b12, f.c), (b4, uc)]) ?_
    refine t_eq (i := 6) (v := ?_) [] rfl rfl rfl Zk (fun _ _ _ h => h) (heldE HM) ?_ ?_; rotate_left 1; (focus (refine y_cvb (x := ?_) bc (97 + k) ?_ ?_ ?_ ?_ ?_; rotate_left 1; (focus (exact fun _ h => h.2.get .here)); (focus omega); (focus rfl); (focus rfl); ((conv => lhs; whnf) <;> rfl))); ((try simp only [Za]); (try simp only [Zx]); (try simp only [Zy]))
    refine t_pure (i := 7) (v := .string (({ data := #[120] } : ByteArray) ++ Tx.bytes [97 + k])) rfl rfl Zk (fun _ _ _ h => h) (heldE HM) Zv ?_ ?_; (focus (exact h_cat (s := { data := #[120] }) (t := Tx.bytes [97 + k]) rfl Zw Zw (by show 1 + 1 ≤ _; decide))); ((try simp only [Za]); (try simp only [Zx]); (try simp only [Zy]))
    exact z9_139
theorem jr8 {W w0 w : World} {tb b4 : Nat} {uc : Array Value} {B : List (Nat × Array Value)} {c : Array Value} {m : Nat} {A7 : Option Addr} {l : List JR} {n7 i : Nat} {day last : Int} {fb fo fc cb co cap : Nat} {fcs ccs : Array Value} {FK : List (WF × List WK)} {K : List WK} {f : WF} {x : WK} {Q : Exit → Act → World → Prop} {x1 x2 x3 x5 x6 x9 x11 x12 x13 x14 x15 x16 x17 x18 x19 x20 x21 x22 x23 x24 x25 x26 x27 x28 x29 x30 x31 x32 x33 x34 x35 x36 x37 x38 x39 x40 x41 x42 x43 x44 x45 x46 x47 x48 x49 x50 x51 x52 x53 x54 x55 x56 x57 x58 x59 x60 x61 x62 x63 x64 x65 x66 x67 x68 x69 x70 x71 x72 x73 x74 x75 x76 x77 x78 x79 x80 x81 x82 x83 x84 x85 x86 x87 x88 x89 x90 x91 x92 x93 x94 x95 x96 x97 x98 x99 x100 x101 x102 x103 x104 x105 x106 x107 x108 x109 x110 x111 x112 x113 x114 x115 x116 x117 x118 x119 x120 x121 x122 x123 x124 x125 x126 x127 x128 x129 x130 x131 x132 x133 x134 x135 x136 x137 x138 x139 x140 x141 x142 x143 x144 x145 x146 x147 x148 x149 x150 x151 x152 x153 x154 x155 x156 x157 x158 x159 x160 x161 x162 x163 x164 x165 x166 x167 x168 x169 x170 x171 x172 x173 x174 x175 x176 x177 x178 x179 x180 x181 x182 x183 x184 x185 x186 x187 x188 x189 x190 x191 x192 x193 x194 x195 x196 x197 x198 x199 x200 x201 x202 x203 x204 x205 x206 x207 x208 x209 x210 x211 x212 x213 x214 x215 x216 x217 x218 x219 x220 x221 x222 x223 x224 x225 x226 x227 x228 x229 x230 x231 x232 x233 x234 x235 x236 x237 x238 x239 x240 x241 x242 x243 x244 x245 x246 x247 x248 x249 x250 x251 x252 x253 x254 x255 x256 x257 x258 x259 x260 x261 x262 x263 x264 x265 x266 x267 x268 x269 x270 x271 x272 x273 x274 x275 x276 x277 x278 x279 x280 x281 x282 x283 x284 x285 x286 x287 x288 x289 x290 x291 x292 x293 x294 x295 x296 x297 x298 x299 x300 x301 x302 x303 x304 x305 x306 x307 x308 x309 x310 x311 x312 x313 x314 x315 x316 x317 x318 x319 x320 x321 x322 x323 x324 x325 x326 : Value} (HM : Mem w0 [tb] ((b4, uc) :: (tb, c) :: B) w) (lfu : LA 27 uc 0 (.slice (some ⟨fb, fo, none⟩) FK.length fc)) (HFB : Hid (Rbk w0 fb fcs)) (hfb : fb ∉ [tb]) (HKB : Hid (Rbk w0 cb ccs)) (hcb : cb ∉ [tb]) (lfn : LA 9 fcs (fo + i * 277) (.string f.nm)) (lfk : LA 86 fcs (fo + i * 277 + 276) (.slice (some ⟨cb, co, none⟩) K.length cap)) (lkn : LA 9 ccs co (.string x.nm)) (hi : i < FK.length) (hi2 : i < 2) (hK0 : 0 < K.length) (hK1 : K.length ≤ 2) (hF1 : FK.length ≤ 2) (HJ : Hid (Jb.Jn l day last)) (hl40 : l.length < 40) (hfn : name f.nm = true) (hxn : name x.nm = true) (HC : Hid (TapeC W m c)) (H0 : Hid (Below W.heap.size W w0)) (hle : ∀ b ∈ [tb], W.heap.size ≤ b)
    (hQ : ∀ (b11 : Nat) (o : JO) (c9 : Array Value) (m9 : Nat) (y41 y42 y43 y44 y45 y46 y47 y48 y49 y50 y51 y52 y53 y54 y55 y56 y57 y58 y59 y60 y61 y62 y63 y64 y65 y66 y67 y68 y69 y70 y71 y72 : Value) (w9 : World), Hid (OrdOk o (l.length + 1)) → Hid (TapeC W m9 c9) → Mem w0 [tb] ((b11, o.c) :: (b4, uc) :: (tb, c9) :: B) w9 → Q .normal { tmps := #[.pointer (some ⟨tb, 0, none⟩), x1, x2, x3, .pointer (some ⟨b4, 0, none⟩), x5, x6, .slice A7 l.length n7, .int .i64 day, x9, .int .i64 (i : Nat), .pointer (some ⟨b11, 0, none⟩), x12, x13, x14, x15, x16, x17, x18, x19, x20, x21, x22, x23, x24, x25, x26, x27, x28, x29, x30, x31, x32, x33, x34, x35, x36, x37, x38, x39, x40, y41, y42, y43, y44, y45, y46, y47, y48, y49, y50, y51, y52, y53, y54, y55, y56, y57, y58, y59, y60, y61, y62, y63, y64, y65, y66, y67, y68, y69, y70, y71, y72, x73, x74, x75, x76, x77, x78, x79, x80, x81, x82, x83, x84, x85, x86, x87, x88, x89, x90, x91, x92, x93, x94, x95, x96, x97, x98, x99, x100, x101, x102, x103, x104, x105, x106, x107, x108, x109, x110, x111, x112, x113, x114, x115, x116, x117, x118, x119, x120, x121, x122, x123, x124, x125, x126, x127, x128, x129, x130, x131, x132, x133, x134, x135, x136, x137, x138, x139, x140, x141, x142, x143, x144, x145, x146, x147, x148, x149, x150, x151, x152, x153, x154, x155, x156, x157, x158, x159, x160, x161, x162, x163, x164, x165, x166, x167, x168, x169, x170, x171, x172, x173, x174, x175, x176, x177, x178, x179, x180, x181, x182, x183, x184, x185, x186, x187, x188, x189, x190, x191, x192, x193, x194, x195, x196, x197, x198, x199, x200, x201, x202, x203, x204, x205, x206, x207, x208, x209, x210, x211, x212, x213, x214, x215, x216, x217, x218, x219, x220, x221, x222, x223, x224, x225, x226, x227, x228, x229, x230, x231, x232, x233, x234, x235, x236, x237, x238, x239, x240, x241, x242, x243, x244, x245, x246, x247, x248, x249, x250, x251, x252, x253, x254, x255, x256, x257, x258, x259, x260, x261, x262, x263, x264, x265, x266, x267, x268, x269, x270, x271, x272, x273, x274, x275, x276, x277, x278, x279, x280, x281, x282, x283, x284, x285, x286, x287, x288, x289, x290, x291, x292, x293, x294, x295, x296, x297, x298, x299, x300, x301, x302, x303, x304, x305, x306, x307, x308, x309, x310, x311, x312, x313, x314, x315, x316, x317, x318, x319, x320, x321, x322, x323, x324, x325, x326], defers := [] } w9) :
    (Code.region 8 (opsJ 8) true).wp Tryz.prog Q { tmps := #[.pointer (some ⟨tb, 0, none⟩), x1, x2, x3, .pointer (some ⟨b4, 0, none⟩), x5, x6, .slice A7 l.length n7, .int .i64 day, x9, .int .i64 (i : Nat), x11, x12, x13, x14, x15, x16, x17, x18, x19, x20, x21, x22, x23, x24, x25, x26, x27, x28, x29, x30, x31, x32, x33, x34, x35, x36, x37, x38, x39, x40, x41, x42, x43, x44, x45, x46, x47, x48, x49, x50, x51, x52, x53, x54, x55, x56, x57, x58, x59, x60, x61, x62, x63, x64, x65, x66, x67, x68, x69, x70, x71, x72, x73, x74, x75, x76, x77, x78, x79, x80, x81, x82, x83, x84, x85, x86, x87, x88, x89, x90, x91, x92, x93, x94, x95, x96, x97, x98, x99, x100, x101, x102, x103, x104, x105, x106, x107, x108, x109, x110, x111, x112, x113, x114, x115, x116, x117, x118, x119, x120, x121, x122, x123, x124, x125, x126, x127, x128, x129, x130, x131, x132, x133, x134, x135, x136, x137, x138, x139, x140, x141, x142, x143, x144, x145, x146, x147, x148, x149, x150, x151, x152, x153, x154, x155, x156, x157, x158, x159, x160, x161, x162, x163, x164, x165, x166, x167, x168, x169, x170, x171, x172, x173, x174, x175, x176, x177, x178, x179, x180, x181, x182, x183, x184, x185, x186, x187, x188, x189, x190, x191, x192, x193, x194, x195, x196, x197, x198, x199, x200, x201, x202, x203, x204, x205, x206, x207, x208, x209, x210, x211, x212, x213, x214, x215, x216, x217, x218, x219, x220, x221, x222, x223, x224, x225, x226, x227, x228, x229, x230, x231, x232, x233, x234, x235, x236, x237, x238, x239, x240, x241, x242, x243, x244, x245, x246, x247, x248, x249, x250, x251, x252, x253, x254, x255, x256, x257, x258, x259, x260, x261, x262, x263, x264, x265, x266, x267, x268, x269, x270, x271, x272, x273, x274, x275, x276, x277, x278, x279, x280, x281, x282, x283, x284, x285, x286, x287, x288, x289, x290, x291, x292, x293, x294, x295, x296, x297, x298, x299, x300, x301, x302, x303, x304, x305, x306, x307, x308, x309, x310, x311, x312, x313, x314, x315, x316, x317, x318, x319, x320, x321, x322, x323, x324, x325, x326], defers := [] } w := by
 refine Qn.run ?_
 unfold opsJ
 conv => enter [2, 2]; whnf
 have elr := jr_el
 have els : elemB 80 9 1 16 = true := by kernel_rfl
 have elb : elemB 78 5 1 1 = true := by kernel_rfl
 have zo := JO.za
 have HL1 : Hid ((l.length : Int) + 1 = ((l.length + 1 : Nat) : Int)) := Zi Zo
 have hd0 := HJ.out.d0
 have hd1 := HJ.out.day
 have hcap : ∀ r : JR, ((l.map JR.c).length + [r.c].length) * (1184 + 1) ≤ 140737488355328 := fun r => jr_cap Zo
 have HEI : Hid ((49 : Int) + (i : Nat) = ((49 + i : Nat) : Int)) := Zi Zo
 have hi1 : (i : Int) < FK.length := by omega
 refine start_M2 [] HM ((Sub.keep Sub.nil)) Zk (fun w0x H9 => ?_)
 replace HM := H9; clear H9
 refine k_mv 0 (heldE HM) ?_
 refine k_add 1 (heldE HM) ?_
 refine t_pure (i := 2) (v := .int .u8 ((49 + i : Nat) : Int)) rfl rfl Zk (fun _ _ _ h => h) (heldE HM) Zv ?_ ?_; (focus (exact h_cv rfl (by first | exact congrArg _ HEI.out | (simp only [HEI.out]; rfl) | (show Value.int .i64 _ = _; rw [HEI.out])) (fun w9 => cv_u8 (49 + i) Zo w9))); ((try simp only [Za]); (try simp only [Zx]); (try simp only [Zy]))
 refine k_mv 6 (heldE HM) ?_
 refine k_fa 8 (heldE HM) ?_
 refine k_ld 9 [] (heldE HM) ?_
 refine k_mv 10 (heldE HM) ?_
 refine k_ia 11 (heldE HM) ?_
 refine k_fa 12 (heldE HM) ?_
 refine k_ld 13 [] (heldE HM) ?_ (hl := rd_rro (Hid.out (by assumption)) (by assumption))
 refine k_fa 14 (heldE HM) ?_
 refine k_ld 15 [] (heldE HM) ?_
 refine k_mv 16 (heldE HM) ?_
 refine k_ia 17 (heldE HM) ?_
 refine k_fa 18 (heldE HM) ?_
 refine k_ld 19 [] (heldE HM) ?_ (hl := rd_rro (Hid.out (by assumption)) (by assumption))
 refine k_ia 20 (heldE HM) ?_
 refine k_fa 21 (heldE HM) ?_
 refine k_ld 22 [] (heldE HM) ?_ (hl := rd_rro (Hid.out (by assumption)) (by assumption))
 refine k_mv 23 (heldE HM) ?_
 refine k_mv 26 (heldE HM) ?_
 refine k_mul 27 (heldE HM) ?_
 refine k_mv 28 (heldE HM) ?_
 refine k_pv 29 (heldE HM) ?_
 refine k_add 30 (heldE HM) ?_
 refine three_L (i := 3) (j := 7) (k := 32) Zk (op_L rfl Zv ?_) (op_L rfl Zv ?_) (op_L rfl Zv ?_)
 ·refine j_bs1 (c0 := Tx.b (49 + i)) HM ?_ (hT := elb) (z0 := rfl); clear HM; intro bc w1 HM
  refine ⟨(heldE HM), ?_⟩; ((try simp only [Za]); (try simp only [Zx]); (try simp only [Zy]))
  refine k_more ((bc, rowsOf [Tx.b (49 + i)]) :: [(b4, uc)]) ?_
  refine t_eq (i := 4) (v := ?_) [] rfl rfl rfl Zk (fun _ _ _ h => h) (heldE HM) ?_ ?_; rotate_left 1; (focus (refine y_cvb (x := ?_) bc (49 + i) ?_ ?_ ?_ ?_ ?_; rotate_left 1; (focus (exact fun _ h => h.2.get .here)); (focus omega); (focus rfl); (focus rfl); ((conv => lhs; whnf) <;> rfl))); ((try simp only [Za]); (try simp only [Zx]); (try simp only [Zy]))
  refine t_pure (i := 5) (v := .string (({ data := #[115] } : ByteArray) ++ Tx.bytes [49 + i])) rfl rfl Zk (fun _ _ _ h => h) (heldE HM) Zv ?_ ?_; (focus (exact h_cat (s := { data := #[115] }) (t := Tx.bytes [49 + i]) rfl Zw Zw (by show 1 + 1 ≤ _; decide))); ((try simp only [Za]); (try simp only [Zx]); (try simp only [Zy]))
  refine j_two 7 32 ?_ ?_
  ·refine o_callg (sacc_new (tb := tb) HM Zl HC.out H0.out hle) rfl ?_ ?_; (focus (refine h_call1 (ts := ?_) (x1 := ?_) ?_ Zk ?_; rotate_left 2; (focus rfl); rfl)); rintro e9 w1 ⟨k, rfl, hk, ⟨c1, hc1, hb1, hg9⟩⟩; replace HM := HM.put (c' := c1) Zg hb1 hg9; clear hg9 hb1; replace HC := Zi hc1; clear hc1; refine ⟨_, rfl, ?_⟩
   refine ⟨(heldE HM), ?_⟩; ((try simp only [Za]); (try simp only [Zx]); (try simp only [Zy]))
   exact z9_140
  ·refine j_al HM ?_; clear HM; intro bk w1 HM
   refine ⟨(heldE HM), ?_⟩
   exact z9_141
 ·refine o_callg (sacc_new (tb := tb) HM Zl HC.out H0.out hle) rfl ?_ ?_; (focus (refine h_call1 (ts := ?_) (x1 := ?_) ?_ Zk ?_; rotate_left 2; (focus rfl); rfl)); rintro e9 w1 ⟨k, rfl, hk, ⟨c1, hc1, hb1, hg9⟩⟩; replace HM := HM.put (c' := c1) Zg hb1 hg9; clear hg9 hb1; replace HC := Zi hc1; clear hc1; refine ⟨_, rfl, ?_⟩
  refine ⟨(heldE HM), ?_⟩; ((try simp only [Za]); (try simp only [Zx]); (try simp only [Zy]))
  refine three_L (i := 3) (j := 24) (k := 32) Zk (op_L rfl Zv ?_) (op_L rfl Zv ?_) (op_L rfl Zv ?_)
  ·refine j_bs1 (c0 := Tx.b (49 + i)) HM ?_ (hT := elb) (z0 := rfl); clear HM; intro bc w1 HM
   refine ⟨(heldE HM), ?_⟩; ((try simp only [Za]); (try simp only [Zx]); (try simp only [Zy]))
   refine k_more ((bc, rowsOf [Tx.b (49 + i)]) :: [(b4, uc)]) ?_
   refine t_eq (i := 4) (v := ?_) [] rfl rfl rfl Zk (fun _ _ _ h => h) (heldE HM) ?_ ?_; rotate_left 1; (focus (refine y_cvb (x := ?_) bc (49 + i) ?_ ?_ ?_ ?_ ?_; rotate_left 1; (focus (exact fun _ h => h.2.get .here)); (focus omega); (focus rfl); (focus rfl); ((conv => lhs; whnf) <;> rfl))); ((try simp only [Za]); (try simp only [Zx]); (try simp only [Zy]))
   refine t_pure (i := 5) (v := .string (({ data := #[115] } : ByteArray) ++ Tx.bytes [49 + i])) rfl rfl Zk (fun _ _ _ h => h) (heldE HM) Zv ?_ ?_; (focus (exact h_cat (s := { data := #[115] }) (t := Tx.bytes [49 + i]) rfl Zw Zw (by show 1 + 1 ≤ _; decide))); ((try simp only [Za]); (try simp only [Zx]); (try simp only [Zy]))
   exact z9_140
  ·refine o_callg (snext_inf W tb _ (100000000) _ (HM.tp Zl HC.out H0.out hle) Zo Zo) rfl ?_ ?_; (focus (refine h_call2 (ts := ?_) (x1 := ?_) (x2 := ?_) ?_ Zk ?_ ?_; rotate_left 3; (focus rfl); (focus rfl); rfl)); rintro e9 w1 ⟨v, rfl, v0, v1, ⟨c1, hb1, hc1, -, -⟩, hg9⟩; replace HM := HM.put (c' := c1) Zg hb1 (Only.of_grown hg9); clear hg9 hb1; replace HC := Zi hc1; clear hc1; refine ⟨_, rfl, ?_⟩; have HB := fun w => JO.bld (parts := #[(0, .string (({ data := #[115] } : ByteArray) ++ Tx.bytes [49 + i])), (1, .agg k.c), (2, .string f.nm), (3, .string x.nm), (4, .int .i64 1), (5, .int .i64 (1000000 + v)), (7, .int .i64 (day * 1440)), (8, .int .i64 ((l.length : Int) + 1))]) (r := ord i k f.nm x.nm (1000000 + v) (day * 1440) ((l.length : Int) + 1)) (by simp [Value.cells, JK.size]) (by rw [JO.rows]; rfl) w; have sx := (ord i k f.nm x.nm (1000000 + v) (day * 1440) ((l.length : Int) + 1)).sa JO.zero.size; have HOK : Hid (OrdOk (ord i k f.nm x.nm (1000000 + v) (day * 1440) ((l.length : Int) + 1)) (l.length + 1)) := Zi (ord_ok hi2 hk.out hfn hxn Zo Zo Zo Zo HL1.out HJ.out.kn)
   refine ⟨(heldE HM), ?_⟩; ((try simp only [Za]); (try simp only [Zx]); (try simp only [Zy]))
   refine k_add 25 (heldE HM) ?_
   refine j_two 3 32 ?_ ?_
   ·refine j_bs1 (c0 := Tx.b (49 + i)) HM ?_ (hT := elb) (z0 := rfl); clear HM; intro bc w1 HM
    refine ⟨(heldE HM), ?_⟩; ((try simp only [Za]); (try simp only [Zx]); (try simp only [Zy]))
    refine k_more ((bc, rowsOf [Tx.b (49 + i)]) :: [(b4, uc)]) ?_
    refine t_eq (i := 4) (v := ?_) [] rfl rfl rfl Zk (fun _ _ _ h => h) (heldE HM) ?_ ?_; rotate_left 1; (focus (refine y_cvb (x := ?_) bc (49 + i) ?_ ?_ ?_ ?_ ?_; rotate_left 1; (focus (exact fun _ h => h.2.get .here)); (focus omega); (focus rfl); (focus rfl); ((conv => lhs; whnf) <;> rfl))); ((try simp only [Za]); (try simp only [Zx]); (try simp only [Zy]))
    refine t_pure (i := 5) (v := .string (({ data := #[115] } : ByteArray) ++ Tx.bytes [49 + i])) rfl rfl Zk (fun _ _ _ h => h) (heldE HM) Zv ?_ ?_; (focus (exact h_cat (s := { data := #[115] }) (t := Tx.bytes [49 + i]) rfl Zw Zw (by show 1 + 1 ≤ _; decide))); ((try simp only [Za]); (try simp only [Zx]); (try simp only [Zy]))
    exact z9_142
   ·refine j_al HM ?_; clear HM; intro bk w1 HM
    refine ⟨(heldE HM), ?_⟩
    exact z9_143
  ·refine j_al HM ?_; clear HM; intro bk w1 HM
   refine ⟨(heldE HM), ?_⟩
   exact z9_144
 ·refine j_al HM ?_; clear HM; intro bk w1 HM
  refine ⟨(heldE HM), ?_⟩
  refine j_two 3 7 ?_ ?_
  ·refine j_bs1 (c0 := Tx.b (49 + i)) HM ?_ (hT := elb) (z0 := rfl); clear HM; intro bc w1 HM
   refine ⟨(heldE HM), ?_⟩; ((try simp only [Za]); (try simp only [Zx]); (try simp only [Zy]))
   refine k_more ((bc, rowsOf [Tx.b (49 + i)]) :: [(b4, uc)]) ?_
   refine t_eq (i := 4) (v := ?_) [] rfl rfl rfl Zk (fun _ _ _ h => h) (heldE HM) ?_ ?_; rotate_left 1; (focus (refine y_cvb (x := ?_) bc (49 + i) ?_ ?_ ?_ ?_ ?_; rotate_left 1; (focus (exact fun _ h => h.2.get .here)); (focus omega); (focus rfl); (focus rfl); ((conv => lhs; whnf) <;> rfl))); ((try simp only [Za]); (try simp only [Zx]); (try simp only [Zy]))
   refine t_pure (i := 5) (v := .string (({ data := #[115] } : ByteArray) ++ Tx.bytes [49 + i])) rfl rfl Zk (fun _ _ _ h => h) (heldE HM) Zv ?_ ?_; (focus (exact h_cat (s := { data := #[115] }) (t := Tx.bytes [49 + i]) rfl Zw Zw (by show 1 + 1 ≤ _; decide))); ((try simp only [Za]); (try simp only [Zx]); (try simp only [Zy]))
   exact z9_141
  ·refine o_callg (sacc_new (tb := tb) HM Zl HC.out H0.out hle) rfl ?_ ?_; (focus (refine h_call1 (ts := ?_) (x1 := ?_) ?_ Zk ?_; rotate_left 2; (focus rfl); rfl)); rintro e9 w1 ⟨k, rfl, hk, ⟨c1, hc1, hb1, hg9⟩⟩; replace HM := HM.put (c' := c1) Zg hb1 hg9; clear hg9 hb1; replace HC := Zi hc1; clear hc1; refine ⟨_, rfl, ?_⟩
   refine ⟨(heldE HM), ?_⟩; ((try simp only [Za]); (try simp only [Zx]); (try simp only [Zy]))
   exact z9_144
end
end Go.Proofs.YtkiempioeffhbaaGreatDoor
