/- The law RatioSums, walked: the sum of a list, valid or not, is the sum of its parts. -/
import Derived.Test.YtekfabhmopkapaaRatT
import Derived.Test.YtekfabhmopkapaaSlicesC
namespace Go.Proofs.Ytekfabhmopkapaa
set_option maxRecDepth 8000
open Go.RowKit
theorem Rt.vc_out (o : Option Rat) (h : ∀ x, o = some x → Rt.Fit x) : Rt.Vc o (Rt.outV o) := by
  cases o with
  | some x => exact ⟨h x rfl, rfl⟩
  | none => exact ⟨false, 0, false, 0, Bg.ppos 32, Bg.ppos 32, Rt.ok_zero, rZ_zero.symm⟩
/-- The sum of two values. -/
noncomputable def Rt.addVV : Option Rat → Option Rat → Array Value × Int
  | some x, o => Rt.addV x o
  | none, _ => (Bg.rZ 0 0, 20)
theorem add_vv (p o : Option Rat) (u d c : Array Value) (e : Int) (hu : Rt.Vc p u) (hd : Rt.Vc o d) (hr : Hid ((c, e) = Rt.addVV p o)) (w : World) :
    Calls Try.prog 22 #[.agg u, .agg d] w fun r w' => r = .returned (.tuple #[.agg c, .int .i64 e]) ∧ Below w.heap.size w w' := by
  cases p with
  | some x => obtain ⟨hx, rfl⟩ := hu; exact add_v x o d c e hx hd hr w
  | none =>
    obtain ⟨s, M, t, N, hM, hN, hk, rfl⟩ := hu
    obtain ⟨rfl, rfl⟩ : c = Bg.rZ 0 0 ∧ e = 20 := by simpa [Rt.addVV] using hr.out
    obtain ⟨s2, M2, t2, N2, hM2, hN2, rfl⟩ : ∃ s M t N, M < Bg.lim ∧ N < Bg.lim ∧ d = Bg.ratA s M t N := by
      cases o with
      | some y => obtain ⟨hy, rfl⟩ := hd; exact ⟨_, _, _, _, hy.ln, hy.ld, by rw [qA_rZ, rZ_ratA]⟩
      | none => obtain ⟨s, M, t, N, a, b, _, e⟩ := hd; exact ⟨s, M, t, N, a, b, e⟩
    exact add_g _ _ _ _ _ _ _ _ 0 0 20 hM hN hM2 hN2 (Lib.hid (by rw [hk]; rfl)) w
theorem Rt.sumV_fit : ∀ (l : List (Option Rat)) (acc : Rat), Rt.Fit acc → ∀ x, (Rt.sumV acc l).1 = some x → Rt.Fit x
  | [], acc, h, x, e => by rw [Rt.sumV] at e; injection e with e; rwa [← e]
  | none :: l, acc, h, x, e => by rw [Rt.sumV] at e; cases e
  | some y :: l, acc, h, x, e => by
    rw [Rt.sumV] at e
    split at e
    · exact Rt.sumV_fit l _ ‹_› x e
    · cases e
theorem Rt.sumV_ok : ∀ (l : List (Option Rat)) (acc : Rat), (Rt.sumV acc l).2 = 0 → ∃ ys : List Rat, l = ys.map some ∧ (Rt.sumV acc l).1 = some (acc + ys.sum)
  | [], acc, _ => ⟨[], rfl, by rw [Rt.sumV]; simp [Rat.add_zero]⟩
  | none :: l, acc, h => by rw [Rt.sumV] at h; cases h
  | some y :: l, acc, h => by
    rw [Rt.sumV] at h
    split at h
    · obtain ⟨ys, e1, e2⟩ := Rt.sumV_ok l _ h
      refine ⟨y :: ys, by rw [e1]; rfl, ?_⟩
      rw [Rt.sumV, if_pos ‹_›, e2, List.sum_cons, Rat.add_assoc]
    · cases h
/-- If a list and its two parts have sums, they add up. -/
theorem Rt.sum_parts {os : List (Option Rat)} {k : Nat} {o a b : Option Rat} {c : Array Value} (h : (o, (0 : Int)) = Rt.sumV 0 os) (ha : (a, (0 : Int)) = Rt.sumV 0 (os.take k)) (hb : (b, (0 : Int)) = Rt.sumV 0 (os.drop k)) (hc : (c, (0 : Int)) = Rt.addVV a b) : c = Rt.outV o := by
  obtain ⟨ys, e1, e2⟩ := Rt.sumV_ok os 0 (by rw [← h])
  obtain ⟨us, f1, f2⟩ := Rt.sumV_ok (os.take k) 0 (by rw [← ha])
  obtain ⟨vs, g1, g2⟩ := Rt.sumV_ok (os.drop k) 0 (by rw [← hb])
  rw [← h] at e2
  rw [← ha] at f2
  rw [← hb] at g2
  have hy : ys = us ++ vs := by
    have : ys.map some = (us ++ vs).map (some : Rat → Option Rat) := by rw [← e1, List.map_append, ← f1, ← g1, List.take_append_drop]
    exact (List.map_inj_right (fun _ _ h => by injection h)).1 this
  simp only at e2 f2 g2
  subst e2 f2 g2
  have hs : ys.sum = us.sum + vs.sum := by rw [hy, List.sum_append]
  simp only [Rt.addVV, Rt.addV, Rat.zero_add] at hc
  unfold Rt.res at hc
  split at hc
  · injection hc with hc; rw [hc, Rt.outV, hs, Rat.zero_add]
  · simp at hc
/-- Drawn ratios. -/
def SumsL (j : Nat) (os : List (Option Rat)) (cs : List (Array Value)) : Prop := Rt.Vcs os cs ∧ cs.length = j
theorem Rt.Vcs.app {os os2 : List (Option Rat)} {cs cs2 : List (Array Value)} (h : Rt.Vcs os cs) (h2 : Rt.Vcs os2 cs2) : Rt.Vcs (os ++ os2) (cs ++ cs2) := by
  induction h with
  | nil => exact h2
  | cons h t ih => exact .cons h ih
theorem Rt.Vcs.take {os : List (Option Rat)} {cs : List (Array Value)} (h : Rt.Vcs os cs) : ∀ k, Rt.Vcs (os.take k) (cs.take k) := by
  induction h with
  | nil => intro k; simp; exact .nil
  | cons h t ih =>
    intro k
    cases k with
    | zero => exact .nil
    | succ k => exact .cons h (ih k)
theorem Rt.Vcs.drop {os : List (Option Rat)} {cs : List (Array Value)} (h : Rt.Vcs os cs) : ∀ k, Rt.Vcs (os.drop k) (cs.drop k) := by
  induction h with
  | nil => intro k; simp; exact .nil
  | cons h t ih =>
    intro k
    cases k with
    | zero => exact .cons h t
    | succ k => exact ih k
theorem Rt.Vcs.one {os : List (Option Rat)} {cs : List (Array Value)} (h : Rt.Vcs os cs) : ∀ c ∈ cs, c.all (·.oneCell') = true := by
  induction h with
  | nil => simp
  | cons h t ih => intro c hc; rcases List.mem_cons.1 hc with rfl | hc <;> first | exact h.one | exact ih c hc
theorem el_rat : elemB 47 27 66 264 = true := by kernel_rfl
theorem Rt.outV_size (o : Option Rat) : (Rt.outV o).size = 66 := by cases o <;> first | exact qA_size _ | exact rZ_size 0 0
theorem Rt.outV_one (o : Option Rat) : (Rt.outV o).all (·.oneCell') = true := by cases o <;> first | exact qA_one _ | exact rZ_one 0 0
theorem Rt.outV_rZ (o : Option Rat) (h : ∀ x, o = some x → Rt.Fit x) : ∃ n d : Int, Rt.outV o = Bg.rZ n d ∧ n.natAbs < Bg.lim ∧ d.natAbs < Bg.lim := by
  cases o with
  | none => exact ⟨0, 0, rfl, Bg.ppos 32, Bg.ppos 32⟩
  | some x => exact ⟨_, _, qA_rZ x, (h x rfl).ln, (h x rfl).ld⟩
section
variable {ops : Array Oper} {rest : List Oper} {a a2 : Act} {w : World} {Q : Exit → Act → World → Prop} {d : Option Tmp} {ty t : TypeId} {ps : String} {af : Array Edge} {g : Option (Nat × Bool)} {x y : Operand}
/-- A ratio compared with itself. -/
theorem a_same (op : BinOp) (c : Array Value) (v : Bool) (he : op = .eql ∨ op = .neq) (hv : v = if op = .eql then true else false) (hc : ∃ n d : Int, c = Bg.rZ n d ∧ n.natAbs < Bg.lim ∧ d.natAbs < Bg.lim) (h : wpList Try.prog ops Q rest a2 w) (hw : WantT ops { dst := d, op := .binOp op 27 x y t, type := ty, pos := ps, after := af, guard := g } a := by first | exact Or.inl rfl | exact Or.inr ⟨_, _, _, rfl, rfl, rfl⟩) (hx : a.eval x = .agg c := by (conv => lhs; whnf) <;> rfl) (hy : a.eval y = .agg c := by (conv => lhs; whnf) <;> rfl) (ha : a.put d (.bool v) = a2 := by ((try simp only [Act.put, List.setIfInBounds_toArray, List.set_cons_succ, List.set_cons_zero]) <;> rfl)) : OpG ops Q rest a w { dst := d, op := .binOp op 27 x y t, type := ty, pos := ps, after := af, guard := g } := by
  obtain ⟨n, d1, rfl, h1, h2⟩ := hc
  exact m_cmpr op n d1 n d1 v he (by rw [hv]; simp) h1 h2 h1 h2 hw hx hy (ha ▸ h)
end
theorem Rt.addVV_out (a b : Option Rat) : ∃ p e, (Rt.outV p, e) = Rt.addVV a b := by
  cases a with
  | none => exact ⟨none, 20, rfl⟩
  | some x =>
    cases b with
    | none => exact ⟨none, 20, rfl⟩
    | some y =>
      by_cases h : Rt.Fit (x + y)
      · exact ⟨some (x + y), 0, Rt.res_fit h⟩
      · exact ⟨none, 10, by show _ = Rt.res _; unfold Rt.res; rw [if_neg h]; rfl⟩
set_option maxRecDepth 100000 in
set_option maxHeartbeats 8000000 in
theorem rsums_any (A : Option Addr) (xs : List Int) (c0 : Nat) (s : Bool) (M : Nat) (t : Bool) (N : Nat) (at_ : Int) (W : World) (hI : IntsAt W A xs) (hxl : xs.length ≤ 9223372036854775807) (hM : M < Bg.lim) (hN : N < Bg.lim) (_ha1 : -9223372036854775808 ≤ at_) (_ha2 : at_ < 9223372036854775808) :
    Calls Try.prog 5 #[.slice A xs.length c0, .agg (Bg.ratA s M t N), .int .i64 at_] W fun e w' => e = .returned (.bool true) ∧ Below W.heap.size W w' := by
  have HM := Mem.start W
  have HI := Lib.hid hI
  have hz0 := za_rat
  have hel := el_rat
  clear hI
  obtain ⟨ob, hob⟩ := Rt.vc_any (s := s) (t := t) hM hN
  have HOB := Lib.hid hob
  obtain ⟨cb, hcb⟩ : ∃ cb, cb = Bg.ratA s M t N := ⟨_, rfl⟩
  rw [← hcb] at HOB ⊢
  clear hcb hob
  have kb := la_c HOB.out.size
  go_enter Try.func5, Try.ntmps5
  go_upto_region 2 with (first | fail | (first | ((with_reducible refine g_ld ?_); refine a_ld HM ?_) | ((with_reducible refine g_st ?_); refine a_st HM ?_; clear HM; intro w1 HM) | ((with_reducible refine g_al ?_); refine a_al HM ?_; clear HM; intro bk w1 HM) | ((with_reducible refine g_bx ?_); refine a_bx HM ?_; clear HM; intro bk w1 HM) | ((with_reducible refine g_bld ?_); refine a_bld ?_)))
  obtain ⟨tb, rfl⟩ := HM.nm0
  obtain ⟨bb, rfl⟩ := HM.nm1
  have HC : Hid (TapeC W 0 #[.slice A xs.length c0, .int .i64 0]) := ⟨A, xs, c0, 0, rfl, by omega, by omega, HI.out, hxl⟩
  have H0 : Hid (Below W.heap.size W W) := Below.refl _ _
  have hle : ∀ b ∈ ([] : List Nat), W.heap.size ≤ b := by simp
  go_wp2_with (first | fail | (first | ((with_reducible refine g_ld ?_); refine a_ld HM ?_) | ((with_reducible refine g_st ?_); refine a_st HM ?_; clear HM; intro w1 HM) | ((with_reducible refine g_al ?_); refine a_al HM ?_; clear HM; intro bk w1 HM) | ((with_reducible refine g_bx ?_); refine a_bx HM ?_; clear HM; intro bk w1 HM) | ((with_reducible refine g_bld ?_); refine a_bld ?_)))
  go_loopw [8, 9] (fun sv i wr => ∃ (j q : Nat) (c : Array Value) (os : List (Option Rat)) (cs : List (Array Value)) (B : List (Nat × Array Value)), i = .int .i64 (j : Nat) ∧ j ≤ 6 ∧ q ≤ 2000 * j ∧ Hid (TapeC W q c) ∧ SumsL j os cs ∧ SlAt 66 sv cs B ∧ Mem W [] ((tb, c) :: (bb, cb) :: B) wr) (fun _ i _ => 6 - (intOf i).toNat)
  case atStart => exact ⟨0, 0, _, [], [], [], rfl, by omega, by omega, HC, ⟨.nil, rfl⟩, .nil, HM⟩
  case round =>
    obtain ⟨j, q, c, os, cs, B, rfl, hj, hq, HC, ⟨hV, hcl⟩, HS, HM⟩ := hrel
    go_wp2_with fail
    (refine (next_any W tb _ _ _ (HM.tp (by ((repeat (first | exact Look.here | refine Look.there ?_)); done)) HC.out H0.out hle) (by omega) (by omega) (by omega)).mono ?_; rintro e9 w2 ⟨v, rfl, h0v, h1v, ⟨c1, hb1, hc1, -, -⟩, hg⟩; replace HM := HM.put (c' := c1) (by (repeat (first | exact At.here | apply At.there))) hb1 (Only.of_grown hg); clear hg hb1; replace HC := Lib.hid hc1; clear hc1)
    by_cases hlt : (j : Int) < v
    · go_wp2_with fail
      (refine (ratio_any W tb _ _ (HM.tp (by ((repeat (first | exact Look.here | refine Look.there ?_)); done)) HC.out H0.out hle) (by omega)).mono ?_; rintro e9 w2 ⟨x, rfl, hx1, hx2, ⟨c1, hb1, hc1, -, -⟩, hg9⟩; replace HM := HM.put (c' := c1) (by (repeat (first | exact At.here | apply At.there))) hb1 (Only.of_grown hg9); clear hg9 hb1; replace HC := Lib.hid hc1; clear hc1)
      have hx := Rt.fit_k hx1 hx2 (by decide)
      go_wp2_with (first | first
        | ((with_reducible refine g_bs1 ?_); refine a_bs1 HM ?_; clear HM; intro bx w1 HM)
        | ((with_reducible refine g_app ?_); refine a_app (F := fun B => (tb, c1) :: (bb, cb) :: B) HM HS ((SlAt.made1 bx (qA_size x)).rd HM (by simp)) ?_ (by simpa using qA_one x); clear HM; intro s2 B2 w1 HS2 HM) | (first | ((with_reducible refine g_ld ?_); refine a_ld HM ?_) | ((with_reducible refine g_st ?_); refine a_st HM ?_; clear HM; intro w1 HM) | ((with_reducible refine g_al ?_); refine a_al HM ?_; clear HM; intro bk w1 HM) | ((with_reducible refine g_bx ?_); refine a_bx HM ?_; clear HM; intro bk w1 HM) | ((with_reducible refine g_bld ?_); refine a_bld ?_)))
      go_roundw
      case rel => exact ⟨j + 1, _, _, os ++ [some x], cs ++ [Rt.qA x], B2, by go_num, by omega, by omega, HC, ⟨hV.app (.cons ⟨hx, rfl⟩ .nil), by simp [hcl]⟩, HS2, HM⟩
      case measure => simp [intOf]; omega
    · subst hcl
      obtain ⟨A1, cap, e1, hcap⟩ := HS.val
      subst e1
      have hVL := Lib.hid hV
      have HSL := Lib.hid HS
      obtain ⟨o, e, hr⟩ : ∃ o e, Hid ((o, e) = Rt.sumV 0 os) := ⟨_, _, rfl⟩
      have so := sa_c (Rt.outV_size o) (Rt.outV_one o) (rZ_size 0 0)
      have ko := la_c (Rt.outV_size o)
      clear hV HS
      go_upto_region 7 with fail
      clear h0v h1v hlt
      go_upto_region 9 with (first | first | (go_at_call 29; ((with_reducible refine (sum_v _ cs os _ (HSL.out.rd HM (by intro p hp; simp [hp])) hVL.out (by omega) o e hr).mono ?_); rintro e9 w2 ⟨rfl, hL⟩; replace HM := HM.call hL; clear hL)) | (go_at_call 30; ((with_reducible refine (rsum_v _ cs os _ (HSL.out.rd HM (by intro p hp; simp [hp])) hVL.out (by omega) o e hr).mono ?_); rintro e9 w2 ⟨rfl, hL⟩; replace HM := HM.call hL; clear hL)) | (first | ((with_reducible refine g_ld ?_); refine a_ld HM ?_) | ((with_reducible refine g_st ?_); refine a_st HM ?_; clear HM; intro w1 HM) | ((with_reducible refine g_al ?_); refine a_al HM ?_; clear HM; intro bk w1 HM) | ((with_reducible refine g_bx ?_); refine a_bx HM ?_; clear HM; intro bk w1 HM) | ((with_reducible refine g_bld ?_); refine a_bld ?_)))
      go_wp2_with fail
      (refine (next_any W tb _ _ _ (HM.tp (by ((repeat (first | exact Look.here | refine Look.there ?_)); done)) HC.out H0.out hle) (by omega) (by omega) (by omega)).mono ?_; rintro e9 w2 ⟨kv, rfl, h0k, h1k, ⟨c1, hb1, hc1, -, -⟩, hg⟩; replace HM := HM.put (c' := c1) (by (repeat (first | exact At.here | apply At.there))) hb1 (Only.of_grown hg); clear hg hb1; replace HC := Lib.hid hc1; clear hc1)
      obtain ⟨k, rfl⟩ : ∃ k : Nat, kv = k := ⟨kv.toNat, by omega⟩
      have hk : k ≤ cs.length := by omega
      clear h0k h1k
      obtain ⟨sv1, hrun1, hrd1⟩ := run_take (HSL.out.rd HM (by intro p hp; simp [hp])) hel hk
      obtain ⟨sv2, hrun2, hrd2⟩ := run_drop (HSL.out.rd HM (by intro p hp; simp [hp])) hel hk
      have HR1 := Lib.hid hrun1
      have HR2 := Lib.hid hrun2
      have HD1 := Lib.hid hrd1
      have HD2 := Lib.hid hrd2
      clear hrun1 hrun2 hrd1 hrd2
      obtain ⟨p, g, hp⟩ : ∃ o e, Hid ((o, e) = Rt.sumV 0 (os.take k)) := ⟨_, _, rfl⟩
      obtain ⟨r, h, hq⟩ : ∃ o e, Hid ((o, e) = Rt.sumV 0 (os.drop k)) := ⟨_, _, rfl⟩
      obtain ⟨u, i, hu⟩ := Rt.addVV_out p r
      have HU := Lib.hid hu
      have vp := Lib.hid (Rt.vc_out p (fun x e => Rt.sumV_fit _ 0 Rt.fit_zero x (by rw [← hp.out]; exact e)))
      have vr := Lib.hid (Rt.vc_out r (fun x e => Rt.sumV_fit _ 0 Rt.fit_zero x (by rw [← hq.out]; exact e)))
      have sp := sa_c (Rt.outV_size p) (Rt.outV_one p) (rZ_size 0 0)
      have kp := la_c (Rt.outV_size p)
      have sr := sa_c (Rt.outV_size r) (Rt.outV_one r) (rZ_size 0 0)
      have kr := la_c (Rt.outV_size r)
      have su := sa_c (Rt.outV_size u) (Rt.outV_one u) (rZ_size 0 0)
      have ku := la_c (Rt.outV_size u)
      have hfo : Hid (∀ x, o = some x → Rt.Fit x) := Lib.hid (fun x e => Rt.sumV_fit _ 0 Rt.fit_zero x (by rw [← hr.out]; exact e))
      have hparts : Hid (e = 0 → g = 0 → h = 0 → i = 0 → Rt.outV u = Rt.outV o) := Lib.hid (fun h1 h2 h3 h4 => Rt.sum_parts (h1 ▸ hr.out) (h2 ▸ hp.out) (h3 ▸ hq.out) (h4 ▸ HU.out))
      clear hu
      have tl : (cs.take k).length ≤ 4611686018427387904 := by rw [List.length_take]; omega
      have dl : (cs.drop k).length ≤ 4611686018427387904 := by rw [List.length_drop]; omega
      obtain ⟨b12, rfl⟩ := HM.nm0
      obtain ⟨b10, rfl⟩ := HM.nm1
      go_upto_region 13 with (first | first
        | ((with_reducible refine g_sl ?_); refine a_sl (v := sv1) ?_ (fun w => by simpa [Act.eval] using HR1.out w))
        | ((with_reducible refine g_sl ?_); refine a_sl (v := sv2) ?_ (fun w => by simpa [Act.eval] using HR2.out w))
        | (go_at_call 29; ((with_reducible refine (sum_v sv1 (cs.take k) (os.take k) _ (HD1.out _ (HSL.out.rd HM (by intro p hp; simp [hp]))) (hVL.out.take k) tl p g hp).mono ?_); rintro e9 w2 ⟨rfl, hL⟩; replace HM := HM.call hL; clear hL))
        | (go_at_call 29; ((with_reducible refine (sum_v sv2 (cs.drop k) (os.drop k) _ (HD2.out _ (HSL.out.rd HM (by intro p hp; simp [hp]))) (hVL.out.drop k) dl r h hq).mono ?_); rintro e9 w2 ⟨rfl, hL⟩; replace HM := HM.call hL; clear hL))
        | (go_at_call 22; ((with_reducible refine (add_vv p r _ _ _ i vp.out vr.out HU _).mono ?_); rintro e9 w2 ⟨rfl, hL⟩; replace HM := HM.call hL; clear hL)) | (first | ((with_reducible refine g_ld ?_); refine a_ld HM ?_) | ((with_reducible refine g_st ?_); refine a_st HM ?_; clear HM; intro w1 HM) | ((with_reducible refine g_al ?_); refine a_al HM ?_; clear HM; intro bk w1 HM) | ((with_reducible refine g_bx ?_); refine a_bx HM ?_; clear HM; intro bk w1 HM) | ((with_reducible refine g_bld ?_); refine a_bld ?_)))
      obtain ⟨b19, rfl⟩ := HM.nm0
      have hoz := Lib.hid (Rt.outV_rZ o hfo.out)
      go_cut [103] (fun v wc => v = .bool false ∧ Mem W [] ((tb, c1) :: (bb, cb) :: B) wc)
      case first =>
        by_cases he : e = 0
        · by_cases hg : g = 0
          · by_cases hh : h = 0
            · by_cases hi : i = 0
              · have hEq := hparts.out he hg hh hi
                subst he hg hh hi
                rw [hEq] at HM
                clear hEq hparts
                (go_wp2_with (first | ((with_reducible refine g_bin ?_); refine a_same .neq (Rt.outV o) false (.inr rfl) rfl hoz.out ?_) | (first | ((with_reducible refine g_ld ?_); refine a_ld HM ?_) | ((with_reducible refine g_st ?_); refine a_st HM ?_; clear HM; intro w1 HM) | ((with_reducible refine g_al ?_); refine a_al HM ?_; clear HM; intro bk w1 HM) | ((with_reducible refine g_bx ?_); refine a_bx HM ?_; clear HM; intro bk w1 HM) | ((with_reducible refine g_bld ?_); refine a_bld ?_))); go_meet; (case rel => exact ⟨rfl, HM.pick⟩))
              · have hn : ((i : Int) == 0) = false := by simpa using hi
                subst he hg hh
                clear hparts
                (go_wp2_with (first | ((with_reducible refine g_bin ?_); refine a_same .neq (Rt.outV o) false (.inr rfl) rfl hoz.out ?_) | (first | ((with_reducible refine g_ld ?_); refine a_ld HM ?_) | ((with_reducible refine g_st ?_); refine a_st HM ?_; clear HM; intro w1 HM) | ((with_reducible refine g_al ?_); refine a_al HM ?_; clear HM; intro bk w1 HM) | ((with_reducible refine g_bx ?_); refine a_bx HM ?_; clear HM; intro bk w1 HM) | ((with_reducible refine g_bld ?_); refine a_bld ?_))); go_meet; (case rel => exact ⟨rfl, HM.pick⟩))
            · have hn : ((h : Int) == 0) = false := by simpa using hh
              subst he hg
              clear hparts
              (go_wp2_with (first | ((with_reducible refine g_bin ?_); refine a_same .neq (Rt.outV o) false (.inr rfl) rfl hoz.out ?_) | (first | ((with_reducible refine g_ld ?_); refine a_ld HM ?_) | ((with_reducible refine g_st ?_); refine a_st HM ?_; clear HM; intro w1 HM) | ((with_reducible refine g_al ?_); refine a_al HM ?_; clear HM; intro bk w1 HM) | ((with_reducible refine g_bx ?_); refine a_bx HM ?_; clear HM; intro bk w1 HM) | ((with_reducible refine g_bld ?_); refine a_bld ?_))); go_meet; (case rel => exact ⟨rfl, HM.pick⟩))
          · have hn : ((g : Int) == 0) = false := by simpa using hg
            subst he
            clear hparts
            (go_wp2_with (first | ((with_reducible refine g_bin ?_); refine a_same .neq (Rt.outV o) false (.inr rfl) rfl hoz.out ?_) | (first | ((with_reducible refine g_ld ?_); refine a_ld HM ?_) | ((with_reducible refine g_st ?_); refine a_st HM ?_; clear HM; intro w1 HM) | ((with_reducible refine g_al ?_); refine a_al HM ?_; clear HM; intro bk w1 HM) | ((with_reducible refine g_bx ?_); refine a_bx HM ?_; clear HM; intro bk w1 HM) | ((with_reducible refine g_bld ?_); refine a_bld ?_))); go_meet; (case rel => exact ⟨rfl, HM.pick⟩))
        · have hn : ((e : Int) == 0) = false := by simpa using he
          clear hparts
          (go_wp2_with (first | ((with_reducible refine g_bin ?_); refine a_same .neq (Rt.outV o) false (.inr rfl) rfl hoz.out ?_) | (first | ((with_reducible refine g_ld ?_); refine a_ld HM ?_) | ((with_reducible refine g_st ?_); refine a_st HM ?_; clear HM; intro w1 HM) | ((with_reducible refine g_al ?_); refine a_al HM ?_; clear HM; intro bk w1 HM) | ((with_reducible refine g_bx ?_); refine a_bx HM ?_; clear HM; intro bk w1 HM) | ((with_reducible refine g_bld ?_); refine a_bld ?_))); go_meet; (case rel => exact ⟨rfl, HM.pick⟩))
      case rest =>
        clear HM
        obtain ⟨rfl, HM⟩ := hcut
        go_step
        go_wp2_with fail
        refine (fold_any _ _ _ (by omega) (by omega)).mono ?_
        rintro e9 w2 ⟨av, rfl, h0a, h1a, rfl⟩
        obtain ⟨kk, rfl⟩ : ∃ kk : Nat, av = kk := ⟨av.toNat, by omega⟩
        have hkk : kk ≤ cs.length := by omega
        clear h0a h1a hr hp hq HU vp vr sp kp sr kr su ku hfo so ko hoz tl dl HR1 HR2 HD1 HD2
        obtain ⟨sv3, hrun3, hrd3⟩ := run_take (HSL.out.rd HM (by intro p hp; simp [hp])) hel hkk
        obtain ⟨sv4, hrun4, hrd4⟩ := run_drop (HSL.out.rd HM (by intro p hp; simp [hp])) hel hkk
        have HR3 := Lib.hid hrun3
        have HR4 := Lib.hid hrun4
        have HD3 := Lib.hid hrd3
        have HD4 := Lib.hid hrd4
        clear hrun3 hrun4 hrd3 hrd4
        have tl : (cs.take kk).length ≤ 6 := by rw [List.length_take]; omega
        have dl : (cs.drop kk).length ≤ 6 := by rw [List.length_drop]; omega
        have hcs := HOB.out.size
        have TO := Lib.hid (hVL.out.take kk).one
        have DO := Lib.hid (hVL.out.drop kk).one
        replace HM : Mem W [] ((bb, cb) :: B) _ := HM.pick
        go_upto_region 16 with fail
        go_cut [21] (fun v wd => ∃ ms B9, SlAt 66 v ms B9 ∧ ms = cs.take kk ++ [cb] ++ cs.drop kk ∧ Mem W [] B9 wd)
        case first =>
          refine start_M2 [] HM ((Sub.keep Sub.nil)) (by kernel_rfl) (fun w0x H9 => ?_)
          replace HM := H9; clear H9
          refine k_mv 1 (heldE HM) ?_
          refine k_mv 2 (heldE HM) ?_
          refine t_pure (i := 3) (v := sv3) rfl rfl (by kernel_rfl) (fun _ _ _ h => h) (heldE HM) (by rfl) ?_ ?_; (focus (exact h_sl (by rfl) (fun w => by simpa [Act.eval] using HR3.out w))); ((try simp only [List.setIfInBounds_toArray]); (try simp only [List.set_cons_succ]); (try simp only [List.set_cons_zero]))
          refine k_ld 5 [] (heldE HM) ?_
          refine k_mv 8 (heldE HM) ?_
          refine k_mv 9 (heldE HM) ?_
          refine t_pure (i := 10) (v := sv4) rfl rfl (by kernel_rfl) (fun _ _ _ h => h) (heldE HM) (by rfl) ?_ ?_; (focus (exact h_sl (by rfl) (fun w => by simpa [Act.eval] using HR4.out w))); ((try simp only [List.setIfInBounds_toArray]); (try simp only [List.set_cons_succ]); (try simp only [List.set_cons_zero]))
          refine j_two 0 6 ?_ ?_
          · refine j_bs0 HM ?_; clear HM; intro b0 w1 HM
            refine ⟨(heldE HM), ?_⟩; ((try simp only [List.setIfInBounds_toArray]); (try simp only [List.set_cons_succ]); (try simp only [List.set_cons_zero]))
            refine j_two 4 6 ?_ ?_
            · (first | refine j_app (F := fun L9 => (bx, rowsOf [cb]) :: (bb, cb) :: (L9 ++ B)) HM (SlAt.made0 b0) (HD3.out _ (HSL.out.rd HM (by intro p hp; simp [hp]))) ?_ TO.out | refine j_app (F := fun L9 => (bb, cb) :: (L9 ++ B)) HM (SlAt.made0 b0) (HD3.out _ (HSL.out.rd HM (by intro p hp; simp [hp]))) ?_ TO.out); clear HM; intro s4 B4 w1 HS4 HM
              refine ⟨(heldE HM), ?_⟩; ((try simp only [List.setIfInBounds_toArray]); (try simp only [List.set_cons_succ]); (try simp only [List.set_cons_zero]))
              refine j_one 6 fun K9 hK9 => ?_
              refine j_bs1 HM ?_; clear HM; intro bx w1 HM
              refine hK9 _ _ (heldE HM) ?_; clear hK9 K9; ((try simp only [List.setIfInBounds_toArray]); (try simp only [List.set_cons_succ]); (try simp only [List.set_cons_zero]))
              refine j_one 7 fun K9 hK9 => ?_
              refine j_app (F := fun L9 => (bb, cb) :: (L9 ++ B)) HM HS4 ((SlAt.made1 bx hcs).rd HM (by simp)) ?_ (by simpa using HOB.out.one); clear HM; intro s7 B7 w1 HS7 HM
              refine hK9 _ _ (heldE HM) ?_; clear hK9 K9; ((try simp only [List.setIfInBounds_toArray]); (try simp only [List.set_cons_succ]); (try simp only [List.set_cons_zero]))
              refine j_one 11 fun K9 hK9 => ?_
              refine j_app (F := fun L9 => (bb, cb) :: (L9 ++ B)) HM HS7 (HD4.out _ (HSL.out.rd HM (by intro p hp; simp [hp]))) ?_ DO.out; clear HM; intro s11 B11 w1 HS11 HM
              refine hK9 _ _ (heldE HM) ?_; clear hK9 K9; ((try simp only [List.setIfInBounds_toArray]); (try simp only [List.set_cons_succ]); (try simp only [List.set_cons_zero]))
              refine k_mv 12 (heldE HM) ?_
              refine wpAnyL_done (by kernel_rfl) ?_ _
              (go_wp2_with fail; go_meet; (case rel => exact ⟨_, _, HS11, rfl, HM.pick⟩))
            · refine j_bs1 HM ?_; clear HM; intro bx w1 HM
              refine ⟨(heldE HM), ?_⟩; ((try simp only [List.setIfInBounds_toArray]); (try simp only [List.set_cons_succ]); (try simp only [List.set_cons_zero]))
              refine j_one 4 fun K9 hK9 => ?_
              (first | refine j_app (F := fun L9 => (bx, rowsOf [cb]) :: (bb, cb) :: (L9 ++ B)) HM (SlAt.made0 b0) (HD3.out _ (HSL.out.rd HM (by intro p hp; simp [hp]))) ?_ TO.out | refine j_app (F := fun L9 => (bb, cb) :: (L9 ++ B)) HM (SlAt.made0 b0) (HD3.out _ (HSL.out.rd HM (by intro p hp; simp [hp]))) ?_ TO.out); clear HM; intro s4 B4 w1 HS4 HM
              refine hK9 _ _ (heldE HM) ?_; clear hK9 K9; ((try simp only [List.setIfInBounds_toArray]); (try simp only [List.set_cons_succ]); (try simp only [List.set_cons_zero]))
              refine j_one 7 fun K9 hK9 => ?_
              refine j_app (F := fun L9 => (bb, cb) :: (L9 ++ B)) HM HS4 ((SlAt.made1 bx hcs).rd HM (by simp)) ?_ (by simpa using HOB.out.one); clear HM; intro s7 B7 w1 HS7 HM
              refine hK9 _ _ (heldE HM) ?_; clear hK9 K9; ((try simp only [List.setIfInBounds_toArray]); (try simp only [List.set_cons_succ]); (try simp only [List.set_cons_zero]))
              refine j_one 11 fun K9 hK9 => ?_
              refine j_app (F := fun L9 => (bb, cb) :: (L9 ++ B)) HM HS7 (HD4.out _ (HSL.out.rd HM (by intro p hp; simp [hp]))) ?_ DO.out; clear HM; intro s11 B11 w1 HS11 HM
              refine hK9 _ _ (heldE HM) ?_; clear hK9 K9; ((try simp only [List.setIfInBounds_toArray]); (try simp only [List.set_cons_succ]); (try simp only [List.set_cons_zero]))
              refine k_mv 12 (heldE HM) ?_
              refine wpAnyL_done (by kernel_rfl) ?_ _
              (go_wp2_with fail; go_meet; (case rel => exact ⟨_, _, HS11, rfl, HM.pick⟩))
          · refine j_bs1 HM ?_; clear HM; intro bx w1 HM
            refine ⟨(heldE HM), ?_⟩; ((try simp only [List.setIfInBounds_toArray]); (try simp only [List.set_cons_succ]); (try simp only [List.set_cons_zero]))
            refine j_one 0 fun K9 hK9 => ?_
            refine j_bs0 HM ?_; clear HM; intro b0 w1 HM
            refine hK9 _ _ (heldE HM) ?_; clear hK9 K9; ((try simp only [List.setIfInBounds_toArray]); (try simp only [List.set_cons_succ]); (try simp only [List.set_cons_zero]))
            refine j_one 4 fun K9 hK9 => ?_
            (first | refine j_app (F := fun L9 => (bx, rowsOf [cb]) :: (bb, cb) :: (L9 ++ B)) HM (SlAt.made0 b0) (HD3.out _ (HSL.out.rd HM (by intro p hp; simp [hp]))) ?_ TO.out | refine j_app (F := fun L9 => (bb, cb) :: (L9 ++ B)) HM (SlAt.made0 b0) (HD3.out _ (HSL.out.rd HM (by intro p hp; simp [hp]))) ?_ TO.out); clear HM; intro s4 B4 w1 HS4 HM
            refine hK9 _ _ (heldE HM) ?_; clear hK9 K9; ((try simp only [List.setIfInBounds_toArray]); (try simp only [List.set_cons_succ]); (try simp only [List.set_cons_zero]))
            refine j_one 7 fun K9 hK9 => ?_
            refine j_app (F := fun L9 => (bb, cb) :: (L9 ++ B)) HM HS4 ((SlAt.made1 bx hcs).rd HM (by simp)) ?_ (by simpa using HOB.out.one); clear HM; intro s7 B7 w1 HS7 HM
            refine hK9 _ _ (heldE HM) ?_; clear hK9 K9; ((try simp only [List.setIfInBounds_toArray]); (try simp only [List.set_cons_succ]); (try simp only [List.set_cons_zero]))
            refine j_one 11 fun K9 hK9 => ?_
            refine j_app (F := fun L9 => (bb, cb) :: (L9 ++ B)) HM HS7 (HD4.out _ (HSL.out.rd HM (by intro p hp; simp [hp]))) ?_ DO.out; clear HM; intro s11 B11 w1 HS11 HM
            refine hK9 _ _ (heldE HM) ?_; clear hK9 K9; ((try simp only [List.setIfInBounds_toArray]); (try simp only [List.set_cons_succ]); (try simp only [List.set_cons_zero]))
            refine k_mv 12 (heldE HM) ?_
            refine wpAnyL_done (by kernel_rfl) ?_ _
            (go_wp2_with fail; go_meet; (case rel => exact ⟨_, _, HS11, rfl, HM.pick⟩))
        case rest =>
          clear HM
          obtain ⟨ms, B9, HS9, hms, HM⟩ := hcut
          go_step
          have hV9 : Rt.Vcs (os.take kk ++ [ob] ++ os.drop kk) ms := hms ▸ ((hVL.out.take kk).app (.cons HOB.out .nil)).app (hVL.out.drop kk)
          have hl9 : ms.length ≤ 4611686018427387904 := by rw [hms, List.length_append, List.length_append]; simp only [List.length_cons, List.length_nil]; omega
          obtain ⟨o, e, hr⟩ : ∃ o e, Hid ((o, e) = Rt.sumV 0 (os.take kk ++ [ob] ++ os.drop kk)) := ⟨_, _, rfl⟩
          have so := sa_c (Rt.outV_size o) (Rt.outV_one o) (rZ_size 0 0)
          have ko := la_c (Rt.outV_size o)
          have hoz := Lib.hid (Rt.outV_rZ o (fun x e => Rt.sumV_fit _ 0 Rt.fit_zero x (by rw [← hr.out]; exact e)))
          have HV9 := Lib.hid hV9
          have H9 := Lib.hid HS9
          clear hV9 HS9 hms
          go_wp2_with (first | first | (go_at_call 29; ((with_reducible refine (sum_v _ ms _ _ (H9.out.rd HM (by intro p hp; simp [hp])) HV9.out hl9 o e hr).mono ?_); rintro e9 w2 ⟨rfl, hL⟩; replace HM := HM.call hL; clear hL)) | (go_at_call 30; ((with_reducible refine (rsum_v _ ms _ _ (H9.out.rd HM (by intro p hp; simp [hp])) HV9.out hl9 o e hr).mono ?_); rintro e9 w2 ⟨rfl, hL⟩; replace HM := HM.call hL; clear hL)) | (go_at_call 16; ((with_reducible refine (rknown_any _).mono ?_); rintro e9 w2 ⟨rfl, hL⟩; replace HM := HM.call hL; clear hL)) | ((with_reducible refine g_bin ?_); refine a_same .eql (Rt.outV o) true (.inl rfl) rfl hoz.out ?_) | (first | ((with_reducible refine g_ld ?_); refine a_ld HM ?_) | ((with_reducible refine g_st ?_); refine a_st HM ?_; clear HM; intro w1 HM) | ((with_reducible refine g_al ?_); refine a_al HM ?_; clear HM; intro bk w1 HM) | ((with_reducible refine g_bx ?_); refine a_bx HM ?_; clear HM; intro bk w1 HM) | ((with_reducible refine g_bld ?_); refine a_bld ?_)))
          go_ret
          exact ⟨rfl, HM.low⟩
end Go.Proofs.Ytekfabhmopkapaa
