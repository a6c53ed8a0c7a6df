/- Walks. -/
import Derived.Test.YtkiempioeffhbaaGreatDoorPg38
namespace Go.Proofs.YtkiempioeffhbaaGreatDoor
set_option maxHeartbeats 16000000
open Go.RowKit
set_option maxRecDepth 8000
set_option linter.unusedSimpArgs false
set_option linter.unusedVariables false
section
open Jb
theorem FA.in_ {T : TypeId} {c cs : Array Value} {k n p : Nat} {v : Value} (h : FA T c k v) (hT : aggT T = some false) (hin : ∀ j, j < n → cs[p + j]? = c[j]?) (hk : k < n) : LA T cs (p + k) v := by
 rcases h with ⟨h1, h2⟩ | ⟨h1, _⟩
 ·exact LA.one hT ((hin k hk).trans h2)
 ·rw [hT] at h1; cases h1
theorem nb_mem {tb b : Nat} {o : Nat} {n c : Nat} (h : Jb.NB tb (.slice (some ⟨b, o, none⟩) n c)) : b ∉ [tb] := by
 rw [List.mem_singleton]; exact h b o none n c rfl
theorem Jb.SetR.at_ {w : World} {tb : Nat} {fA : Option Addr} {fn fc : Nat} {zs cs : Sl} {pv : ByteArray} {F : List (WF × List WK)} (h : Jb.SetR w tb ⟨⟨fA, fn, fc⟩, zs, cs, pv⟩ F) : fn = F.length ∧ ∃ fb fo fcs, fA = some ⟨fb, fo, none⟩ ∧ Hid (Rbk w fb fcs) ∧ fb ∉ [tb] ∧ Hid (∀ k p, F[k]? = some p → LA 88 fcs (fo + k * 277) (.agg p.1.c) ∧ LA 9 fcs (fo + k * 277) (.string p.1.nm) ∧ LA 86 fcs (fo + k * 277 + 276) (Sl.v p.1.cls)) := by
 obtain ⟨h1, h2, h3, h4, h5⟩ := h
 obtain ⟨hs, A, cap, e, hc, h6⟩ := h3
 unfold Sl.v at e h4
 injection e with e1 e2 e3
 simp only at e1 e2 e3
 subst e1 e3
 rw [List.length_map] at e2
 rcases h6 with h6 | ⟨b, off, cs9, rfl, hb, hcc⟩
 ·rw [List.map_eq_nil_iff] at h6; subst h6; exact absurd h1 Zd
 refine ⟨e2, b, off, cs9, rfl, Zi hb, nb_mem h4, Zi fun k p hp => ?_⟩
 have hk := (List.getElem?_eq_some_iff.1 hp).1
 have hin : ∀ j, j < 277 → cs9[off + k * 277 + j]? = p.1.c[j]? := by
  intro j hj
  have h7 := hcc (k * 277 + j) (by rw [List.length_map]; have : k * 277 + 277 ≤ F.length * 277 := by have := Nat.mul_le_mul_right 277 (show k + 1 ≤ F.length by omega); omega
                                   omega)
  rw [← Nat.add_assoc] at h7
  rw [h7, Nat.mul_comm k 277]
  exact rows_at (n := 277) (k := k) (j := j) (fun c hc => by obtain ⟨q, _, rfl⟩ := List.mem_map.1 hc; exact q.1.size) (by rw [List.getElem?_map, hp]; rfl) hj
 exact ⟨la_in Zk Zk p.1.size hin Zd, by simpa using (p.1.f_nm).in_ Zk hin (by decide : (0 : Nat) < 277), (p.1.f_cls).in_ Zk hin Zd⟩
theorem Jb.FundR.at_ {w : World} {tb : Nat} {f : WF} {K : List WK} (h : Jb.FundR w tb f K) : ∃ cb co ccs cap, Sl.v f.cls = .slice (some ⟨cb, co, none⟩) K.length cap ∧ Hid (Rbk w cb ccs) ∧ cb ∉ [tb] ∧ Hid (∀ k x, K[k]? = some x → LA 92 ccs (co + k * 275) (.agg x.c) ∧ LA 9 ccs (co + k * 275) (.string x.nm)) := by
 obtain ⟨h1, h2, h3, h4⟩ := h
 obtain ⟨hs, A, cap, e, hc, h6⟩ := h3
 rw [List.length_map] at e
 rw [e] at h4
 rcases h6 with h6 | ⟨b, off, cs9, rfl, hb, hcc⟩
 ·rw [List.map_eq_nil_iff] at h6; subst h6; exact absurd h2.l0 Zd
 refine ⟨b, off, cs9, cap, e, Zi hb, nb_mem h4, Zi fun k x hx => ?_⟩
 have hk := (List.getElem?_eq_some_iff.1 hx).1
 have hin : ∀ j, j < 275 → cs9[off + k * 275 + j]? = x.c[j]? := by
  intro j hj
  have h7 := hcc (k * 275 + j) (by rw [List.length_map]; have : k * 275 + 275 ≤ K.length * 275 := by have := Nat.mul_le_mul_right 275 (show k + 1 ≤ K.length by omega); omega
                                   omega)
  rw [← Nat.add_assoc] at h7
  rw [h7, Nat.mul_comm k 275]
  exact rows_at (n := 275) (k := k) (j := j) (fun c hc => by obtain ⟨q, _, rfl⟩ := List.mem_map.1 hc; exact q.size) (by rw [List.getElem?_map, hx]; rfl) hj
 exact ⟨la_in Zk Zk x.size hin Zd, by simpa using (x.f_nm).in_ Zk hin (by decide : (0 : Nat) < 275)⟩
theorem tape_x {W : World} {L : Option Addr} {xs : List Int} {c : Nat} {a : Int} (h0 : 0 ≤ a) (hI : IntsAt W L xs) (hx : xs.length ≤ 9223372036854775807) : TapeC W a.toNat #[.slice L xs.length c, .int .i64 a] := ⟨L, xs, c, a, rfl, h0, by omega, hI, hx⟩
theorem snext_f {W w0 w : World} {X : List Nat} {L : List (Nat × Array Value)} {tb : Nat} {A : Option Addr} {xs : List Int} {c : Nat} {a : Int} (HM : Mem w0 X L w) (hl : Look L tb #[.slice A xs.length c, .int .i64 a]) (ha : 0 ≤ a) (hI : IntsAt W A xs) (hx : xs.length ≤ 9223372036854775807) (h0 : Below W.heap.size W w0) (hX : ∀ b ∈ X, W.heap.size ≤ b) (n : Int) (n0 : 1 ≤ n) (n1 : n ≤ 4611686018427387904) :
    Calls Tryz.prog 20 #[.pointer (some ⟨tb, 0, none⟩), .int .i64 n] w fun e w' => ∃ v : Int, e = .returned (.int .i64 v) ∧ 0 ≤ v ∧ v < n ∧ ∃ a' : Int, a ≤ a' ∧ (a < xs.length → a < a') ∧ Blk w' tb #[.slice A xs.length c, .int .i64 a'] ∧ Only [tb] w w' := by
 have HT := HM.tp hl (tape_x ha hI hx) h0 hX
 refine (snext_x (W := W) n (HM.get hl) ha hI hx HT.low HT.le n0 n1).mono ?_
 rintro e w' ⟨v, rfl, v0, v1, a', h1, h2, h3, h4⟩
 exact ⟨v, rfl, v0, v1, a', h1, h2, h3, Only.of_grown h4⟩
theorem sbool_f {W w0 w : World} {X : List Nat} {L : List (Nat × Array Value)} {tb : Nat} {A : Option Addr} {xs : List Int} {c : Nat} {a : Int} (HM : Mem w0 X L w) (hl : Look L tb #[.slice A xs.length c, .int .i64 a]) (ha : 0 ≤ a) (hI : IntsAt W A xs) (hx : xs.length ≤ 9223372036854775807) (h0 : Below W.heap.size W w0) (hX : ∀ b ∈ X, W.heap.size ≤ b) (n : Int) (n0 : 1 ≤ n) (n1 : n ≤ 4611686018427387904) :
    Calls Tryz.prog 24 #[.pointer (some ⟨tb, 0, none⟩), .int .i64 n] w fun e w' => ∃ b : Bool, e = .returned (.bool b) ∧ ∃ a' : Int, a ≤ a' ∧ (a < xs.length → a < a') ∧ Blk w' tb #[.slice A xs.length c, .int .i64 a'] ∧ Only [tb] w w' := by
 have HT := HM.tp hl (tape_x ha hI hx) h0 hX
 refine (sbool_x (W := W) n (HM.get hl) ha hI hx HT.low HT.le n0 n1).mono ?_
 rintro e w' ⟨v, rfl, a', h1, h2, h3, h4⟩
 exact ⟨v, rfl, a', h1, h2, h3, Only.of_grown h4⟩
def tleft (w : World) (tb : Nat) : Nat := match w.cell? ⟨tb, 0, none⟩, w.cell? ⟨tb, 1, none⟩ with
 | some (.slice _ n _), some (.int _ a) => n - a.toNat
 | _, _ => 0
theorem tleft_at {w0 w : World} {X : List Nat} {L : List (Nat × Array Value)} {tb : Nat} {A : Option Addr} {n c : Nat} {a : Int} (HM : Mem w0 X L w) (hl : Look L tb #[.slice A n c, .int .i64 a]) : tleft w tb = n - a.toNat := by
 have h0 := (HM.get hl).cell 0
 have h1 := (HM.get hl).cell 1
 unfold tleft
 rw [h0, h1]; rfl
theorem tleft_le {W w0 w : World} {X : List Nat} {L : List (Nat × Array Value)} {tb m : Nat} {cs : Array Value} (HM : Mem w0 X L w) (hl : Look L tb cs) (hc : TapeC W m cs) : tleft w tb < 9223372036854775808 := by
 obtain ⟨A, xs, c, a, rfl, h0, _, _, hx⟩ := hc
 rw [tleft_at HM hl]; omega
def slen : Value → Nat
 | .slice _ n _ => n
 | _ => 0
end
section
theorem z9_123 {P : Prop} (h : P := by
 refine k_pick 15 (heldE HM) ?_
 refine wpAnyL_done Zk ?_ _
 exact hQ false _ _ _ _ _ _ _ _ _ _ _ _ _ _ _ _ HB.out HM) : P := h
theorem z9_124 {P : Prop} (h : P := by
 refine j_one 10 fun K9 hK9 => ?_
 refine j_st HM ?_; clear HM; intro w1 HM
 refine hK9 _ _ (heldE HM) ?_; clear hK9 K9
 refine wpAnyL_done Zk ?_ _
 (exact hQ _ k p a1 _ _ _ _ _ _ _ _ _ _ HP.out hA1 hA2 HM.pick)) : P := h
theorem z9_125 {P : Prop} (h : P := by
 refine j_one 10 fun K9 hK9 => ?_
 refine j_st HM ?_; clear HM; intro w1 HM
 refine hK9 _ _ (heldE HM) ?_; clear hK9 K9
 refine wpAnyL_done Zk ?_ _
 (exact hQ _ k x a1 _ _ _ _ _ _ _ _ _ _ HP.out hA1 hA2 HM.pick)) : P := h
end
section
open Jb
def Qn (K : Act → World → Prop) : Exit → Act → World → Prop
 | .normal, a, w => K a w
 | _, _, _ => False
theorem Qn.run {P : Program} {c : Code} {Q : Exit → Act → World → Prop} {a : Act} {w : World} (h : c.wp P (Qn fun a w => Q .normal a w) a w) : c.wp P Q a w :=
 Code.wp_mono (fun e a w h => by cases e <;> first | exact h | exact h.elim) h
def regOf (id : Nat) : Code → Option (Array Oper)
 | .region i ops _ => if i = id then some ops else none
 | .seq a b => (regOf id a).orElse fun _ => regOf id b
 | .cond _ a b => (regOf id a).orElse fun _ => regOf id b
 | .block _ b => regOf id b
 | .loop b => regOf id b
 | .scope b => regOf id b
 | _ => none
noncomputable def opsJ (id : Nat) : Array Oper := ((Tryz.f8.body.bind (regOf id)).getD #[])
section
variable {P : Program} {md : Region.Mode} {ops : Array Oper} {Q : Exit → Act → World → Prop} {S1 S2 S3 : World → Prop} {K : List Nat}
theorem more_L (h : ∀ w, S3 w → S2 w) : ∀ (fuel : Nat) (listed : Array Bool) (a : Act) (w : World), wpAnyL P md ops Q S1 S3 K fuel listed a w → wpAnyL P md ops Q S1 S2 K fuel listed a w
 | 0, _, _, _, h0 => h0
 | fuel + 1, listed, a, w, h0 => ⟨h0.1, fun i hi => wpOp_mono (fun a' w' h' => ⟨⟨h'.1.1, fun n => h _ (h'.1.2 n)⟩, more_L h fuel _ a' w' h'.2⟩) (h0.2 i hi)⟩
end
section
variable {md : Region.Mode} {ops : Array Oper} {Q : Exit → Act → World → Prop} {S1 : World → Prop} {K : List Nat} {w0 w : World} {X : List Nat} {L L' : List (Nat × Array Value)} {oi : Oper} {d : Tmp} {fuel : Nat} {listed : Array Bool} {a : Act} {R : Act → World → Prop} {x y : Operand}
theorem k_more (L' : List (Nat × Array Value)) (h : wpAnyL Tryz.prog md ops Q S1 (fun w' => Mem w0 X L' w') K fuel listed a w) (hs : Sub L L' := by (repeat (first | exact Sub.nil | exact Sub.refl _ | refine Sub.keep ?_ | refine Sub.skip ?_))) : wpAnyL Tryz.prog md ops Q S1 (fun w' => Mem w0 X L w') K fuel listed a w :=
 more_L (fun _ hm => hm.less hs) _ _ _ _ h
theorem y_cvb {S : World → Prop} (b v : Nat) (hb : ∀ w, S w → Blk w b (rowsOf [Tx.b v])) (hv : v < 256) (hw : Region.wanted oi (yielded ops a.tmps) = true) (ho : oi.op = .convert 78 9 x) (hx : a.eval x = .slice (some ⟨b, 0, none⟩) 1 1) : YieldsIf Tryz.prog ops S oi (.string (Tx.bytes [v])) a :=
 .inl ⟨hw, fun w hS => by
  have hc := conv_b (w := w) (b := b) (l := [v]) (sp := []) (hb w hS) (by simp [Tx.b]) (by simpa using hv) 1
  simp only [List.length_singleton] at hc
  unfold execOp
  simp only [ho, hx, Sem.run_bind]
  rw [hc]
  simp only [Result.andThen_ok, Sem.run_pure]⟩
theorem j_s2 {t e : TypeId} {by_ : Nat} {x0 x1 : Operand} {v0 v1 : ByteArray} {a2 : Nat → Act} (HM : Mem w0 X L w) (h : ∀ b w', Mem w0 X ((b, rowsOf [#[.string v0], #[.string v1]]) :: L) w' → R (a2 b) w') (hd : oi.dst = some d := by rfl) (ho : oi.op = .buildSlice t 2 #[(0, x0), (1, x1)] := by rfl) (hT : elemB t e 1 by_ = true := by with_reducible assumption) (h0 : a.eval x0 = .string v0 := by (conv => lhs; whnf) <;> rfl) (h1 : a.eval x1 = .string v1 := by (conv => lhs; whnf) <;> rfl) (ha : ∀ b, ({ a with tmps := a.tmps.setIfInBounds d (.slice (some ⟨b, 0, none⟩) 2 2) } : Act) = a2 b := by intro b; ((try simp only [Za, Zx, Zy]) <;> rfl)) : Oper.wp Tryz.prog oi a w R Q := by
 obtain ⟨i, z, hE⟩ := elemT hT
 have hr := run_bs hE [.string v0, .string v1] (by simp [Value.cells]) Zs (parts := #[(0, .string v0), (1, .string v1)]) rfl w
 unfold Oper.wp execOp
 simp [ho, h0, h1] at hr ⊢
 simp only [hr, Result.andThen]
 rw [Oper.upon_value, hd]
 have h9 := h _ _ (HM.new (rowsOf [#[.string v0], #[.string v1]]) e)
 rw [← ha] at h9
 exact h9
end
def Jb.pap (k : Nat) : ByteArray := if k = 0 then Jb.acme else Jb.core
theorem Jb.pap_paper (k : Nat) : Jb.paper (Jb.pap k) = true := by
 unfold Jb.pap
 by_cases h : k = 0
 ·rw [if_pos h]; exact Jb.acme_paper
 ·rw [if_neg h]; exact Jb.core_paper
theorem Jb.pap_size (k : Nat) : (Jb.pap k).size = 4 := by
 unfold Jb.pap
 by_cases h : k = 0
 ·rw [if_pos h]; rfl
 ·rw [if_neg h]; rfl
theorem Jb.pap_at {k : Nat} (h : k < 2) : LA 9 (rowsOf [#[Value.string { data := #[65, 67, 77, 69] }], #[.string { data := #[67, 79, 82, 69] }]]) k (.string (Jb.pap k)) := by
 refine LA.one Zk ?_
 match k, h with
 | 0, _ => rfl
 | 1, _ => rfl
theorem jr10 {W w0 w : World} {tb b4 : Nat} {uc : Array Value} {B : List (Nat × Array Value)} {Lx : Option Addr} {xs : List Int} {c0 : Nat} {a : Int} {A7 : Option Addr} {l : List JR} {n7 : Nat} {most : Int} {Q : Exit → Act → World → Prop} {x1 x3 x5 x6 x8 x9 x10 x11 x12 x13 x14 x15 x16 x17 x18 x19 x20 x21 x22 x23 x24 x25 x26 x27 x28 x29 x30 x31 x32 x33 x34 x35 x36 x37 x38 x39 x40 x41 x42 x43 x44 x45 x46 x47 x48 x49 x50 x51 x52 x53 x54 x55 x56 x57 x58 x59 x60 x61 x62 x63 x64 x65 x66 x67 x68 x69 x70 x71 x72 x73 x74 x75 x76 x77 x78 x79 x80 x81 x82 x83 x84 x85 x86 x87 x88 x89 x90 x91 x92 x93 x94 x95 x96 x97 x98 x99 x100 x101 x102 x103 x104 x105 x106 x107 x108 x109 x110 x111 x112 x113 x114 x115 x116 x117 x118 x119 x120 x121 x122 x123 x124 x125 x126 x127 x128 x129 x130 x131 x132 x133 x134 x135 x136 x137 x138 x139 x140 x141 x142 x143 x144 x145 x146 x147 x148 x149 x150 x151 x152 x153 x154 x155 x156 x157 x158 x159 x160 x161 x162 x163 x164 x165 x166 x167 x168 x169 x170 x171 x172 x173 x174 x175 x176 x177 x178 x179 x180 x181 x182 x183 x184 x185 x186 x187 x188 x189 x190 x191 x192 x193 x194 x195 x196 x197 x198 x199 x200 x201 x202 x203 x204 x205 x206 x207 x208 x209 x210 x211 x212 x213 x214 x215 x216 x217 x218 x219 x220 x221 x222 x223 x224 x225 x226 x227 x228 x229 x230 x231 x232 x233 x234 x235 x236 x237 x238 x239 x240 x241 x242 x243 x244 x245 x246 x247 x248 x249 x250 x251 x252 x253 x254 x255 x256 x257 x258 x259 x260 x261 x262 x263 x264 x265 x266 x267 x268 x269 x270 x271 x272 x273 x274 x275 x276 x277 x278 x279 x280 x281 x282 x283 x284 x285 x286 x287 x288 x289 x290 x291 x292 x293 x294 x295 x296 x297 x298 x299 x300 x301 x302 x303 x304 x305 x306 x307 x308 x309 x310 x311 x312 x313 x314 x315 x316 x317 x318 x319 x320 x321 x322 x323 x324 x325 x326 : Value} (HM : Mem w0 [tb] ((b4, uc) :: (tb, #[.slice Lx xs.length c0, .int .i64 a]) :: B) w) (hl40 : l.length ≤ 40) (hxl : xs.length ≤ 9223372036854775807)
    (hQ : ∀ (b : Bool) (y78 y79 y80 y81 y82 y83 y84 y85 y86 y87 y88 y89 y90 y91 y92 : Value) (w9 : World), b = (decide ((l.length : Int) < most) && decide (a < (xs.length : Int))) → Mem w0 [tb] ((b4, uc) :: (tb, #[.slice Lx xs.length c0, .int .i64 a]) :: B) w9 → Q .normal { tmps := #[.pointer (some ⟨tb, 0, none⟩), x1, .int .i64 most, x3, .pointer (some ⟨b4, 0, none⟩), x5, x6, .slice A7 l.length n7, x8, x9, x10, x11, x12, x13, x14, x15, x16, x17, x18, x19, x20, x21, x22, x23, x24, x25, x26, x27, x28, x29, x30, x31, x32, x33, x34, x35, x36, x37, x38, x39, x40, x41, x42, x43, x44, x45, x46, x47, x48, x49, x50, x51, x52, x53, x54, x55, x56, x57, x58, x59, x60, x61, x62, x63, x64, x65, x66, x67, x68, x69, x70, x71, x72, x73, x74, x75, x76, x77, y78, y79, y80, y81, y82, y83, y84, y85, y86, y87, y88, y89, y90, y91, y92, .bool b, x94, x95, x96, x97, x98, x99, x100, x101, x102, x103, x104, x105, x106, x107, x108, x109, x110, x111, x112, x113, x114, x115, x116, x117, x118, x119, x120, x121, x122, x123, x124, x125, x126, x127, x128, x129, x130, x131, x132, x133, x134, x135, x136, x137, x138, x139, x140, x141, x142, x143, x144, x145, x146, x147, x148, x149, x150, x151, x152, x153, x154, x155, x156, x157, x158, x159, x160, x161, x162, x163, x164, x165, x166, x167, x168, x169, x170, x171, x172, x173, x174, x175, x176, x177, x178, x179, x180, x181, x182, x183, x184, x185, x186, x187, x188, x189, x190, x191, x192, x193, x194, x195, x196, x197, x198, x199, x200, x201, x202, x203, x204, x205, x206, x207, x208, x209, x210, x211, x212, x213, x214, x215, x216, x217, x218, x219, x220, x221, x222, x223, x224, x225, x226, x227, x228, x229, x230, x231, x232, x233, x234, x235, x236, x237, x238, x239, x240, x241, x242, x243, x244, x245, x246, x247, x248, x249, x250, x251, x252, x253, x254, x255, x256, x257, x258, x259, x260, x261, x262, x263, x264, x265, x266, x267, x268, x269, x270, x271, x272, x273, x274, x275, x276, x277, x278, x279, x280, x281, x282, x283, x284, x285, x286, x287, x288, x289, x290, x291, x292, x293, x294, x295, x296, x297, x298, x299, x300, x301, x302, x303, x304, x305, x306, x307, x308, x309, x310, x311, x312, x313, x314, x315, x316, x317, x318, x319, x320, x321, x322, x323, x324, x325, x326], defers := [] } w9) :
    (Code.region 10 (opsJ 10) true).wp Tryz.prog Q { tmps := #[.pointer (some ⟨tb, 0, none⟩), x1, .int .i64 most, x3, .pointer (some ⟨b4, 0, none⟩), x5, x6, .slice A7 l.length n7, x8, x9, x10, x11, x12, x13, x14, x15, x16, x17, x18, x19, x20, x21, x22, x23, x24, x25, x26, x27, x28, x29, x30, x31, x32, x33, x34, x35, x36, x37, x38, x39, x40, x41, x42, x43, x44, x45, x46, x47, x48, x49, x50, x51, x52, x53, x54, x55, x56, x57, x58, x59, x60, x61, x62, x63, x64, x65, x66, x67, x68, x69, x70, x71, x72, x73, x74, x75, x76, x77, x78, x79, x80, x81, x82, x83, x84, x85, x86, x87, x88, x89, x90, x91, x92, x93, x94, x95, x96, x97, x98, x99, x100, x101, x102, x103, x104, x105, x106, x107, x108, x109, x110, x111, x112, x113, x114, x115, x116, x117, x118, x119, x120, x121, x122, x123, x124, x125, x126, x127, x128, x129, x130, x131, x132, x133, x134, x135, x136, x137, x138, x139, x140, x141, x142, x143, x144, x145, x146, x147, x148, x149, x150, x151, x152, x153, x154, x155, x156, x157, x158, x159, x160, x161, x162, x163, x164, x165, x166, x167, x168, x169, x170, x171, x172, x173, x174, x175, x176, x177, x178, x179, x180, x181, x182, x183, x184, x185, x186, x187, x188, x189, x190, x191, x192, x193, x194, x195, x196, x197, x198, x199, x200, x201, x202, x203, x204, x205, x206, x207, x208, x209, x210, x211, x212, x213, x214, x215, x216, x217, x218, x219, x220, x221, x222, x223, x224, x225, x226, x227, x228, x229, x230, x231, x232, x233, x234, x235, x236, x237, x238, x239, x240, x241, x242, x243, x244, x245, x246, x247, x248, x249, x250, x251, x252, x253, x254, x255, x256, x257, x258, x259, x260, x261, x262, x263, x264, x265, x266, x267, x268, x269, x270, x271, x272, x273, x274, x275, x276, x277, x278, x279, x280, x281, x282, x283, x284, x285, x286, x287, x288, x289, x290, x291, x292, x293, x294, x295, x296, x297, x298, x299, x300, x301, x302, x303, x304, x305, x306, x307, x308, x309, x310, x311, x312, x313, x314, x315, x316, x317, x318, x319, x320, x321, x322, x323, x324, x325, x326], defers := [] } w := by
 refine Qn.run ?_
 unfold opsJ
 conv => enter [2, 2]; whnf
 have lt0 : LA 22 #[.slice Lx xs.length c0, .int .i64 a] 0 (.slice Lx xs.length c0) := LA.one Zk rfl
 have lt1 : LA 3 #[.slice Lx xs.length c0, .int .i64 a] 1 (.int .i64 a) := LA.one Zk rfl
 by_cases hlen : (l.length : Int) < most
 case neg =>
  have hld : decide ((l.length : Int) < most) = false := Zf hlen
  have HB : Hid (false = (decide ((l.length : Int) < most) && decide (a < (xs.length : Int)))) := Zi (by rw [hld]; rfl)
  clear hlen
  refine start_M2 [] HM ((Sub.keep (Sub.keep Sub.nil))) Zk (fun w0x H9 => ?_)
  replace HM := H9; clear H9
  refine k_mv 0 (heldE HM) ?_
  refine k_pv 1 (heldE HM) ?_
  refine k_mv 2 (heldE HM) ?_
  refine k_bin 3 (heldE HM) ?_
  refine k_mv 4 (heldE HM) ?_
  refine k_off 5 (heldE HM) ?_
  refine k_off 6 (heldE HM) ?_
  refine k_off 7 (heldE HM) ?_
  refine k_off 8 (heldE HM) ?_
  refine k_off 9 (heldE HM) ?_
  refine k_off 10 (heldE HM) ?_
  refine k_off 11 (heldE HM) ?_
  refine k_off 12 (heldE HM) ?_
  refine k_off 13 (heldE HM) ?_
  refine k_off 14 (heldE HM) ?_
  exact z9_123
 case pos =>
  have hld : decide ((l.length : Int) < most) = true := Zt hlen
  by_cases hat : a < (xs.length : Int)
  case neg =>
   have had : decide (a < (xs.length : Int)) = false := Zf hat
   have HB : Hid (false = (decide ((l.length : Int) < most) && decide (a < (xs.length : Int)))) := Zi (by rw [hld, had]; rfl)
   clear hlen hat
   refine start_M2 [] HM ((Sub.keep (Sub.keep Sub.nil))) Zk (fun w0x H9 => ?_)
   replace HM := H9; clear H9
   refine k_mv 0 (heldE HM) ?_
   refine k_pv 1 (heldE HM) ?_
   refine k_mv 2 (heldE HM) ?_
   refine k_bin 3 (heldE HM) ?_
   refine k_mv 4 (heldE HM) ?_
   refine k_mv 5 (heldE HM) ?_
   refine k_pv 6 (heldE HM) ?_
   refine k_fa 7 (heldE HM) ?_
   refine k_ld 8 [] (heldE HM) ?_
   refine k_mv 9 (heldE HM) ?_
   refine k_pv 10 (heldE HM) ?_
   refine k_fa 11 (heldE HM) ?_
   refine k_ld 12 [] (heldE HM) ?_
   refine k_pv 13 (heldE HM) ?_
   refine k_bin 14 (heldE HM) ?_
   exact z9_123
  case pos =>
   have had : decide (a < (xs.length : Int)) = true := Zt hat
   have HB : Hid (true = (decide ((l.length : Int) < most) && decide (a < (xs.length : Int)))) := Zi (by rw [hld, had]; rfl)
   clear hlen hat
   refine start_M2 [] HM ((Sub.keep (Sub.keep Sub.nil))) Zk (fun w0x H9 => ?_)
   replace HM := H9; clear H9
   refine k_mv 0 (heldE HM) ?_
   refine k_pv 1 (heldE HM) ?_
   refine k_mv 2 (heldE HM) ?_
   refine k_bin 3 (heldE HM) ?_
   refine k_mv 4 (heldE HM) ?_
   refine k_mv 5 (heldE HM) ?_
   refine k_pv 6 (heldE HM) ?_
   refine k_fa 7 (heldE HM) ?_
   refine k_ld 8 [] (heldE HM) ?_
   refine k_mv 9 (heldE HM) ?_
   refine k_pv 10 (heldE HM) ?_
   refine k_fa 11 (heldE HM) ?_
   refine k_ld 12 [] (heldE HM) ?_
   refine k_pv 13 (heldE HM) ?_
   refine k_bin 14 (heldE HM) ?_
   refine k_pick 15 (heldE HM) ?_
   refine wpAnyL_done Zk ?_ _
   exact hQ true _ _ _ _ _ _ _ _ _ _ _ _ _ _ _ _ HB.out HM
theorem jr11 {W w0 w : World} {tb b4 : Nat} {uc : Array Value} {B : List (Nat × Array Value)} {Lx : Option Addr} {xs : List Int} {c0 : Nat} {a : Int} {fb fo fc : Nat} {fcs : Array Value} {FK : List (WF × List WK)} {Q : Exit → Act → World → Prop} {x1 x2 x3 x5 x6 x7 x8 x9 x10 x11 x12 x13 x14 x15 x16 x17 x18 x19 x20 x21 x22 x23 x24 x25 x26 x27 x28 x29 x30 x31 x32 x33 x34 x35 x36 x37 x38 x39 x40 x41 x42 x43 x44 x45 x46 x47 x48 x49 x50 x51 x52 x53 x54 x55 x56 x57 x58 x59 x60 x61 x62 x63 x64 x65 x66 x67 x68 x69 x70 x71 x72 x73 x74 x75 x76 x77 x78 x79 x80 x81 x82 x83 x84 x85 x86 x87 x88 x89 x90 x91 x92 x93 x94 x95 x96 x97 x98 x99 x100 x101 x102 x103 x104 x105 x106 x107 x108 x109 x110 x111 x112 x113 x114 x115 x116 x117 x118 x119 x120 x121 x122 x123 x124 x125 x126 x127 x128 x129 x130 x131 x132 x133 x134 x135 x136 x137 x138 x139 x140 x141 x142 x143 x144 x145 x146 x147 x148 x149 x150 x151 x152 x153 x154 x155 x156 x157 x158 x159 x160 x161 x162 x163 x164 x165 x166 x167 x168 x169 x170 x171 x172 x173 x174 x175 x176 x177 x178 x179 x180 x181 x182 x183 x184 x185 x186 x187 x188 x189 x190 x191 x192 x193 x194 x195 x196 x197 x198 x199 x200 x201 x202 x203 x204 x205 x206 x207 x208 x209 x210 x211 x212 x213 x214 x215 x216 x217 x218 x219 x220 x221 x222 x223 x224 x225 x226 x227 x228 x229 x230 x231 x232 x233 x234 x235 x236 x237 x238 x239 x240 x241 x242 x243 x244 x245 x246 x247 x248 x249 x250 x251 x252 x253 x254 x255 x256 x257 x258 x259 x260 x261 x262 x263 x264 x265 x266 x267 x268 x269 x270 x271 x272 x273 x274 x275 x276 x277 x278 x279 x280 x281 x282 x283 x284 x285 x286 x287 x288 x289 x290 x291 x292 x293 x294 x295 x296 x297 x298 x299 x300 x301 x302 x303 x304 x305 x306 x307 x308 x309 x310 x311 x312 x313 x314 x315 x316 x317 x318 x319 x320 x321 x322 x323 x324 x325 x326 : Value} (HM : Mem w0 [tb] ((b4, uc) :: (tb, #[.slice Lx xs.length c0, .int .i64 a]) :: B) w) (lfu : LA 27 uc 0 (.slice (some ⟨fb, fo, none⟩) FK.length fc)) (HFB : Hid (Rbk w0 fb fcs)) (hfb : fb ∉ [tb]) (HFL : Hid (∀ k p, FK[k]? = some p → LA 88 fcs (fo + k * 277) (.agg p.1.c) ∧ LA 9 fcs (fo + k * 277) (.string p.1.nm) ∧ LA 86 fcs (fo + k * 277 + 276) (Sl.v p.1.cls))) (hF0 : 0 < FK.length) (hF1 : FK.length ≤ 2) (HI : Hid (IntsAt W Lx xs)) (ha0 : 0 ≤ a) (hxl : xs.length ≤ 9223372036854775807) (H0 : Hid (Below W.heap.size W w0)) (hle : ∀ b ∈ [tb], W.heap.size ≤ b)
    (hQ : ∀ (b12 k : Nat) (p : WF × List WK) (a1 : Int) (y94 y95 y96 y97 y98 y99 y100 y101 y102 : Value) (w9 : World), FK[k]? = some p → a ≤ a1 → (a < xs.length → a < a1) → Mem w0 [tb] ((b12, p.1.c) :: (b4, uc) :: (tb, #[.slice Lx xs.length c0, .int .i64 a1]) :: B) w9 → Q .normal { tmps := #[.pointer (some ⟨tb, 0, none⟩), x1, x2, x3, .pointer (some ⟨b4, 0, none⟩), x5, x6, x7, x8, x9, x10, x11, .pointer (some ⟨b12, 0, none⟩), x13, x14, x15, x16, x17, x18, x19, x20, x21, x22, x23, x24, x25, x26, x27, x28, x29, x30, x31, x32, x33, x34, x35, x36, x37, x38, x39, x40, x41, x42, x43, x44, x45, x46, x47, x48, x49, x50, x51, x52, x53, x54, x55, x56, x57, x58, x59, x60, x61, x62, x63, x64, x65, x66, x67, x68, x69, x70, x71, x72, x73, x74, x75, x76, x77, x78, x79, x80, x81, x82, x83, x84, x85, x86, x87, x88, x89, x90, x91, x92, x93, y94, y95, y96, y97, y98, y99, y100, y101, y102, x103, x104, x105, x106, x107, x108, x109, x110, x111, x112, x113, x114, x115, x116, x117, x118, x119, x120, x121, x122, x123, x124, x125, x126, x127, x128, x129, x130, x131, x132, x133, x134, x135, x136, x137, x138, x139, x140, x141, x142, x143, x144, x145, x146, x147, x148, x149, x150, x151, x152, x153, x154, x155, x156, x157, x158, x159, x160, x161, x162, x163, x164, x165, x166, x167, x168, x169, x170, x171, x172, x173, x174, x175, x176, x177, x178, x179, x180, x181, x182, x183, x184, x185, x186, x187, x188, x189, x190, x191, x192, x193, x194, x195, x196, x197, x198, x199, x200, x201, x202, x203, x204, x205, x206, x207, x208, x209, x210, x211, x212, x213, x214, x215, x216, x217, x218, x219, x220, x221, x222, x223, x224, x225, x226, x227, x228, x229, x230, x231, x232, x233, x234, x235, x236, x237, x238, x239, x240, x241, x242, x243, x244, x245, x246, x247, x248, x249, x250, x251, x252, x253, x254, x255, x256, x257, x258, x259, x260, x261, x262, x263, x264, x265, x266, x267, x268, x269, x270, x271, x272, x273, x274, x275, x276, x277, x278, x279, x280, x281, x282, x283, x284, x285, x286, x287, x288, x289, x290, x291, x292, x293, x294, x295, x296, x297, x298, x299, x300, x301, x302, x303, x304, x305, x306, x307, x308, x309, x310, x311, x312, x313, x314, x315, x316, x317, x318, x319, x320, x321, x322, x323, x324, x325, x326], defers := [] } w9) :
    (Code.region 11 (opsJ 11) true).wp Tryz.prog Q { tmps := #[.pointer (some ⟨tb, 0, none⟩), x1, x2, x3, .pointer (some ⟨b4, 0, none⟩), x5, x6, x7, x8, x9, x10, x11, x12, x13, x14, x15, x16, x17, x18, x19, x20, x21, x22, x23, x24, x25, x26, x27, x28, x29, x30, x31, x32, x33, x34, x35, x36, x37, x38, x39, x40, x41, x42, x43, x44, x45, x46, x47, x48, x49, x50, x51, x52, x53, x54, x55, x56, x57, x58, x59, x60, x61, x62, x63, x64, x65, x66, x67, x68, x69, x70, x71, x72, x73, x74, x75, x76, x77, x78, x79, x80, x81, x82, x83, x84, x85, x86, x87, x88, x89, x90, x91, x92, x93, x94, x95, x96, x97, x98, x99, x100, x101, x102, x103, x104, x105, x106, x107, x108, x109, x110, x111, x112, x113, x114, x115, x116, x117, x118, x119, x120, x121, x122, x123, x124, x125, x126, x127, x128, x129, x130, x131, x132, x133, x134, x135, x136, x137, x138, x139, x140, x141, x142, x143, x144, x145, x146, x147, x148, x149, x150, x151, x152, x153, x154, x155, x156, x157, x158, x159, x160, x161, x162, x163, x164, x165, x166, x167, x168, x169, x170, x171, x172, x173, x174, x175, x176, x177, x178, x179, x180, x181, x182, x183, x184, x185, x186, x187, x188, x189, x190, x191, x192, x193, x194, x195, x196, x197, x198, x199, x200, x201, x202, x203, x204, x205, x206, x207, x208, x209, x210, x211, x212, x213, x214, x215, x216, x217, x218, x219, x220, x221, x222, x223, x224, x225, x226, x227, x228, x229, x230, x231, x232, x233, x234, x235, x236, x237, x238, x239, x240, x241, x242, x243, x244, x245, x246, x247, x248, x249, x250, x251, x252, x253, x254, x255, x256, x257, x258, x259, x260, x261, x262, x263, x264, x265, x266, x267, x268, x269, x270, x271, x272, x273, x274, x275, x276, x277, x278, x279, x280, x281, x282, x283, x284, x285, x286, x287, x288, x289, x290, x291, x292, x293, x294, x295, x296, x297, x298, x299, x300, x301, x302, x303, x304, x305, x306, x307, x308, x309, x310, x311, x312, x313, x314, x315, x316, x317, x318, x319, x320, x321, x322, x323, x324, x325, x326], defers := [] } w := by
 refine Qn.run ?_
 unfold opsJ
 conv => enter [2, 2]; whnf
 have zf := WF.za
 refine start_M2 [] HM ((Sub.keep Sub.nil)) Zk (fun w0x H9 => ?_)
 replace HM := H9; clear H9
 refine k_fa 0 (heldE HM) ?_
 refine k_ld 1 [] (heldE HM) ?_
 refine k_mv 2 (heldE HM) ?_
 refine k_fa 3 (heldE HM) ?_
 refine k_ld 4 [] (heldE HM) ?_
 refine k_pv 5 (heldE HM) ?_
 refine j_two 6 9 ?_ ?_
 ·refine o_callg (snext_f (tb := tb) HM Zl ha0 HI.out hxl H0.out hle (FK.length) Zo Zo) rfl ?_ ?_; (focus (refine h_call2 (ts := ?_) (x1 := ?_) (x2 := ?_) ?_ Zk ?_ ?_; rotate_left 3; (focus rfl); (focus rfl); rfl)); rintro e9 w1 ⟨v, rfl, v0, v1, a1, hA1, hA2, hb1, hg9⟩; replace HM := HM.put (c' := #[.slice Lx xs.length c0, .int .i64 a1]) Zg hb1 hg9; clear hg9 hb1; refine ⟨_, rfl, ?_⟩; obtain ⟨k, rfl⟩ : ∃ k : Nat, v = k := ⟨v.toNat, by omega⟩; obtain ⟨p, hp⟩ : ∃ p, FK[k]? = some p := ⟨_, List.getElem?_eq_getElem Zo⟩; obtain ⟨lF, -, -⟩ := HFL.out k p hp; have HP := Zi hp; clear hp; have sF := p.1.sa WF.zero.size
  refine ⟨(heldE HM), ?_⟩; ((try simp only [Za]); (try simp only [Zx]); (try simp only [Zy]))
  refine k_ia 7 (heldE HM) ?_
  refine k_ld 8 [] (heldE HM) ?_ (hl := rd_rro (Hid.out (by assumption)) (by assumption))
  refine j_one 9 fun K9 hK9 => ?_
  refine j_al HM ?_; clear HM; intro bk w1 HM
  refine hK9 _ _ (heldE HM) ?_; clear hK9 K9
  exact z9_124
 ·refine j_al HM ?_; clear HM; intro bk w1 HM
  refine ⟨(heldE HM), ?_⟩
  refine j_one 6 fun K9 hK9 => ?_
  refine o_callg (snext_f (tb := tb) HM Zl ha0 HI.out hxl H0.out hle (FK.length) Zo Zo) rfl ?_ ?_; (focus (refine h_call2 (ts := ?_) (x1 := ?_) (x2 := ?_) ?_ Zk ?_ ?_; rotate_left 3; (focus rfl); (focus rfl); rfl)); rintro e9 w1 ⟨v, rfl, v0, v1, a1, hA1, hA2, hb1, hg9⟩; replace HM := HM.put (c' := #[.slice Lx xs.length c0, .int .i64 a1]) Zg hb1 hg9; clear hg9 hb1; refine ⟨_, rfl, ?_⟩; obtain ⟨k, rfl⟩ : ∃ k : Nat, v = k := ⟨v.toNat, by omega⟩; obtain ⟨p, hp⟩ : ∃ p, FK[k]? = some p := ⟨_, List.getElem?_eq_getElem Zo⟩; obtain ⟨lF, -, -⟩ := HFL.out k p hp; have HP := Zi hp; clear hp; have sF := p.1.sa WF.zero.size
  refine hK9 _ _ (heldE HM) ?_; clear hK9 K9; ((try simp only [Za]); (try simp only [Zx]); (try simp only [Zy]))
  refine k_ia 7 (heldE HM) ?_
  refine k_ld 8 [] (heldE HM) ?_ (hl := rd_rro (Hid.out (by assumption)) (by assumption))
  exact z9_124
theorem jr12 {W w0 w : World} {tb b4 : Nat} {uc : Array Value} {B : List (Nat × Array Value)} {Lx : Option Addr} {xs : List Int} {c0 : Nat} {a : Int} {b12 cb co cap : Nat} {ccs : Array Value} {f : WF} {K : List WK} {Q : Exit → Act → World → Prop} {x1 x2 x3 x5 x6 x7 x8 x9 x10 x11 x13 x14 x15 x16 x17 x18 x19 x20 x21 x22 x23 x24 x25 x26 x27 x28 x29 x30 x31 x32 x33 x34 x35 x36 x37 x38 x39 x40 x41 x42 x43 x44 x45 x46 x47 x48 x49 x50 x51 x52 x53 x54 x55 x56 x57 x58 x59 x60 x61 x62 x63 x64 x65 x66 x67 x68 x69 x70 x71 x72 x73 x74 x75 x76 x77 x78 x79 x80 x81 x82 x83 x84 x85 x86 x87 x88 x89 x90 x91 x92 x93 x94 x95 x96 x97 x98 x99 x100 x101 x102 x103 x104 x105 x106 x107 x108 x109 x110 x111 x112 x113 x114 x115 x116 x117 x118 x119 x120 x121 x122 x123 x124 x125 x126 x127 x128 x129 x130 x131 x132 x133 x134 x135 x136 x137 x138 x139 x140 x141 x142 x143 x144 x145 x146 x147 x148 x149 x150 x151 x152 x153 x154 x155 x156 x157 x158 x159 x160 x161 x162 x163 x164 x165 x166 x167 x168 x169 x170 x171 x172 x173 x174 x175 x176 x177 x178 x179 x180 x181 x182 x183 x184 x185 x186 x187 x188 x189 x190 x191 x192 x193 x194 x195 x196 x197 x198 x199 x200 x201 x202 x203 x204 x205 x206 x207 x208 x209 x210 x211 x212 x213 x214 x215 x216 x217 x218 x219 x220 x221 x222 x223 x224 x225 x226 x227 x228 x229 x230 x231 x232 x233 x234 x235 x236 x237 x238 x239 x240 x241 x242 x243 x244 x245 x246 x247 x248 x249 x250 x251 x252 x253 x254 x255 x256 x257 x258 x259 x260 x261 x262 x263 x264 x265 x266 x267 x268 x269 x270 x271 x272 x273 x274 x275 x276 x277 x278 x279 x280 x281 x282 x283 x284 x285 x286 x287 x288 x289 x290 x291 x292 x293 x294 x295 x296 x297 x298 x299 x300 x301 x302 x303 x304 x305 x306 x307 x308 x309 x310 x311 x312 x313 x314 x315 x316 x317 x318 x319 x320 x321 x322 x323 x324 x325 x326 : Value} (HM : Mem w0 [tb] ((b12, f.c) :: (b4, uc) :: (tb, #[.slice Lx xs.length c0, .int .i64 a]) :: B) w) (lk : LA 86 f.c 276 (.slice (some ⟨cb, co, none⟩) K.length cap)) (HKB : Hid (Rbk w0 cb ccs)) (hcb : cb ∉ [tb]) (HKL : Hid (∀ k x, K[k]? = some x → LA 92 ccs (co + k * 275) (.agg x.c) ∧ LA 9 ccs (co + k * 275) (.string x.nm))) (hK0 : 0 < K.length) (hK1 : K.length ≤ 2) (HI : Hid (IntsAt W Lx xs)) (ha0 : 0 ≤ a) (hxl : xs.length ≤ 9223372036854775807) (H0 : Hid (Below W.heap.size W w0)) (hle : ∀ b ∈ [tb], W.heap.size ≤ b)
    (hQ : ∀ (b13 k : Nat) (x : WK) (a1 : Int) (y103 y104 y105 y106 y107 y108 y109 y110 y111 : Value) (w9 : World), K[k]? = some x → a ≤ a1 → (a < xs.length → a < a1) → Mem w0 [tb] ((b13, x.c) :: (b12, f.c) :: (b4, uc) :: (tb, #[.slice Lx xs.length c0, .int .i64 a1]) :: B) w9 → Q .normal { tmps := #[.pointer (some ⟨tb, 0, none⟩), x1, x2, x3, .pointer (some ⟨b4, 0, none⟩), x5, x6, x7, x8, x9, x10, x11, .pointer (some ⟨b12, 0, none⟩), .pointer (some ⟨b13, 0, none⟩), x14, x15, x16, x17, x18, x19, x20, x21, x22, x23, x24, x25, x26, x27, x28, x29, x30, x31, x32, x33, x34, x35, x36, x37, x38, x39, x40, x41, x42, x43, x44, x45, x46, x47, x48, x49, x50, x51, x52, x53, x54, x55, x56, x57, x58, x59, x60, x61, x62, x63, x64, x65, x66, x67, x68, x69, x70, x71, x72, x73, x74, x75, x76, x77, x78, x79, x80, x81, x82, x83, x84, x85, x86, x87, x88, x89, x90, x91, x92, x93, x94, x95, x96, x97, x98, x99, x100, x101, x102, y103, y104, y105, y106, y107, y108, y109, y110, y111, x112, x113, x114, x115, x116, x117, x118, x119, x120, x121, x122, x123, x124, x125, x126, x127, x128, x129, x130, x131, x132, x133, x134, x135, x136, x137, x138, x139, x140, x141, x142, x143, x144, x145, x146, x147, x148, x149, x150, x151, x152, x153, x154, x155, x156, x157, x158, x159, x160, x161, x162, x163, x164, x165, x166, x167, x168, x169, x170, x171, x172, x173, x174, x175, x176, x177, x178, x179, x180, x181, x182, x183, x184, x185, x186, x187, x188, x189, x190, x191, x192, x193, x194, x195, x196, x197, x198, x199, x200, x201, x202, x203, x204, x205, x206, x207, x208, x209, x210, x211, x212, x213, x214, x215, x216, x217, x218, x219, x220, x221, x222, x223, x224, x225, x226, x227, x228, x229, x230, x231, x232, x233, x234, x235, x236, x237, x238, x239, x240, x241, x242, x243, x244, x245, x246, x247, x248, x249, x250, x251, x252, x253, x254, x255, x256, x257, x258, x259, x260, x261, x262, x263, x264, x265, x266, x267, x268, x269, x270, x271, x272, x273, x274, x275, x276, x277, x278, x279, x280, x281, x282, x283, x284, x285, x286, x287, x288, x289, x290, x291, x292, x293, x294, x295, x296, x297, x298, x299, x300, x301, x302, x303, x304, x305, x306, x307, x308, x309, x310, x311, x312, x313, x314, x315, x316, x317, x318, x319, x320, x321, x322, x323, x324, x325, x326], defers := [] } w9) :
    (Code.region 12 (opsJ 12) true).wp Tryz.prog Q { tmps := #[.pointer (some ⟨tb, 0, none⟩), x1, x2, x3, .pointer (some ⟨b4, 0, none⟩), x5, x6, x7, x8, x9, x10, x11, .pointer (some ⟨b12, 0, none⟩), x13, x14, x15, x16, x17, x18, x19, x20, x21, x22, x23, x24, x25, x26, x27, x28, x29, x30, x31, x32, x33, x34, x35, x36, x37, x38, x39, x40, x41, x42, x43, x44, x45, x46, x47, x48, x49, x50, x51, x52, x53, x54, x55, x56, x57, x58, x59, x60, x61, x62, x63, x64, x65, x66, x67, x68, x69, x70, x71, x72, x73, x74, x75, x76, x77, x78, x79, x80, x81, x82, x83, x84, x85, x86, x87, x88, x89, x90, x91, x92, x93, x94, x95, x96, x97, x98, x99, x100, x101, x102, x103, x104, x105, x106, x107, x108, x109, x110, x111, x112, x113, x114, x115, x116, x117, x118, x119, x120, x121, x122, x123, x124, x125, x126, x127, x128, x129, x130, x131, x132, x133, x134, x135, x136, x137, x138, x139, x140, x141, x142, x143, x144, x145, x146, x147, x148, x149, x150, x151, x152, x153, x154, x155, x156, x157, x158, x159, x160, x161, x162, x163, x164, x165, x166, x167, x168, x169, x170, x171, x172, x173, x174, x175, x176, x177, x178, x179, x180, x181, x182, x183, x184, x185, x186, x187, x188, x189, x190, x191, x192, x193, x194, x195, x196, x197, x198, x199, x200, x201, x202, x203, x204, x205, x206, x207, x208, x209, x210, x211, x212, x213, x214, x215, x216, x217, x218, x219, x220, x221, x222, x223, x224, x225, x226, x227, x228, x229, x230, x231, x232, x233, x234, x235, x236, x237, x238, x239, x240, x241, x242, x243, x244, x245, x246, x247, x248, x249, x250, x251, x252, x253, x254, x255, x256, x257, x258, x259, x260, x261, x262, x263, x264, x265, x266, x267, x268, x269, x270, x271, x272, x273, x274, x275, x276, x277, x278, x279, x280, x281, x282, x283, x284, x285, x286, x287, x288, x289, x290, x291, x292, x293, x294, x295, x296, x297, x298, x299, x300, x301, x302, x303, x304, x305, x306, x307, x308, x309, x310, x311, x312, x313, x314, x315, x316, x317, x318, x319, x320, x321, x322, x323, x324, x325, x326], defers := [] } w := by
 refine Qn.run ?_
 unfold opsJ
 conv => enter [2, 2]; whnf
 have zk := WK.za
 refine start_M2 [] HM ((Sub.keep (Sub.keep Sub.nil))) Zk (fun w0x H9 => ?_)
 replace HM := H9; clear H9
 refine k_fa 0 (heldE HM) ?_
 refine k_ld 1 [] (heldE HM) ?_
 refine k_mv 2 (heldE HM) ?_
 refine k_fa 3 (heldE HM) ?_
 refine k_ld 4 [] (heldE HM) ?_
 refine k_pv 5 (heldE HM) ?_
 refine j_two 6 9 ?_ ?_
 ·refine o_callg (snext_f (tb := tb) HM Zl ha0 HI.out hxl H0.out hle (K.length) Zo Zo) rfl ?_ ?_; (focus (refine h_call2 (ts := ?_) (x1 := ?_) (x2 := ?_) ?_ Zk ?_ ?_; rotate_left 3; (focus rfl); (focus rfl); rfl)); rintro e9 w1 ⟨v, rfl, v0, v1, a1, hA1, hA2, hb1, hg9⟩; replace HM := HM.put (c' := #[.slice Lx xs.length c0, .int .i64 a1]) Zg hb1 hg9; clear hg9 hb1; refine ⟨_, rfl, ?_⟩; obtain ⟨k, rfl⟩ : ∃ k : Nat, v = k := ⟨v.toNat, by omega⟩; obtain ⟨x, hx⟩ : ∃ x, K[k]? = some x := ⟨_, List.getElem?_eq_getElem Zo⟩; obtain ⟨lK, -⟩ := HKL.out k x hx; have HP := Zi hx; clear hx; have sK := x.sa WK.zero.size
  refine ⟨(heldE HM), ?_⟩; ((try simp only [Za]); (try simp only [Zx]); (try simp only [Zy]))
  refine k_ia 7 (heldE HM) ?_
  refine k_ld 8 [] (heldE HM) ?_ (hl := rd_rro (Hid.out (by assumption)) (by assumption))
  refine j_one 9 fun K9 hK9 => ?_
  refine j_al HM ?_; clear HM; intro bk w1 HM
  refine hK9 _ _ (heldE HM) ?_; clear hK9 K9
  exact z9_125
 ·refine j_al HM ?_; clear HM; intro bk w1 HM
  refine ⟨(heldE HM), ?_⟩
  refine j_one 6 fun K9 hK9 => ?_
  refine o_callg (snext_f (tb := tb) HM Zl ha0 HI.out hxl H0.out hle (K.length) Zo Zo) rfl ?_ ?_; (focus (refine h_call2 (ts := ?_) (x1 := ?_) (x2 := ?_) ?_ Zk ?_ ?_; rotate_left 3; (focus rfl); (focus rfl); rfl)); rintro e9 w1 ⟨v, rfl, v0, v1, a1, hA1, hA2, hb1, hg9⟩; replace HM := HM.put (c' := #[.slice Lx xs.length c0, .int .i64 a1]) Zg hb1 hg9; clear hg9 hb1; refine ⟨_, rfl, ?_⟩; obtain ⟨k, rfl⟩ : ∃ k : Nat, v = k := ⟨v.toNat, by omega⟩; obtain ⟨x, hx⟩ : ∃ x, K[k]? = some x := ⟨_, List.getElem?_eq_getElem Zo⟩; obtain ⟨lK, -⟩ := HKL.out k x hx; have HP := Zi hx; clear hx; have sK := x.sa WK.zero.size
  refine hK9 _ _ (heldE HM) ?_; clear hK9 K9; ((try simp only [Za]); (try simp only [Zx]); (try simp only [Zy]))
  refine k_ia 7 (heldE HM) ?_
  refine k_ld 8 [] (heldE HM) ?_ (hl := rd_rro (Hid.out (by assumption)) (by assumption))
  exact z9_125
end
end Go.Proofs.YtkiempioeffhbaaGreatDoor
