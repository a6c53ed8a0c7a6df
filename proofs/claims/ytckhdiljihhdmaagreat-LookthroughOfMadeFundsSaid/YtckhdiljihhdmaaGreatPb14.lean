/- Walks, and plain facts for them. -/
import Derived.Test.YtckhdiljihhdmaaGreatPb07
import Derived.Test.YtckhdiljihhdmaaGreatPb13
namespace Go.Proofs.YtckhdiljihhdmaaGreat
set_option maxRecDepth 8000
open Go.RowKit
namespace Ns
@[irreducible] def mk (M : Nat → Bool) : Array Value := ((List.range 8).map fun i => Value.bool (M i)).toArray
theorem mk_at (M : Nat → Bool) {i : Nat} (h : i < 8) : (mk M)[i]? = some (.bool (M i)) := by
 unfold mk
 simp [h]
theorem mk_size (M : Nat → Bool) : (mk M).size = 8 := by unfold mk; simp
def set (M : Nat → Bool) (i : Nat) : Nat → Bool := fun j => if j = i then true else M j
theorem set_same {M : Nat → Bool} {i : Nat} : set M i i = true := if_pos rfl
theorem set_mono {M : Nat → Bool} {i j : Nat} (h : M j = true) : set M i j = true := by unfold set; split <;> simp [h]
theorem set_of {M : Nat → Bool} {i j : Nat} (h : set M i j = true) : j = i ∨ M j = true := by
 unfold set at h
 by_cases e : j = i
 ·exact .inl e
 ·rw [if_neg e] at h; exact .inr h
theorem mk_set (M : Nat → Bool) (i : Nat) : (mk M).setIfInBounds i (.bool true) = mk (set M i) := by
 apply Array.ext_getElem?
 intro j
 rw [Array.getElem?_setIfInBounds]
 by_cases hj : j < 8
 ·rw [mk_at _ hj, mk_at _ hj]
  by_cases e : i = j
  ·subst e; rw [if_pos rfl, mk_size, if_pos hj, set_same]
  ·rw [if_neg e]; unfold set; rw [if_neg (fun h => e h.symm)]
 ·rw [Array.getElem?_eq_none (by rw [mk_size]; omega), Array.getElem?_eq_none (by rw [mk_size]; omega)]
  by_cases e : i = j
  ·subst e; rw [if_pos rfl, mk_size, if_neg hj]
  ·rw [if_neg e]
theorem mk_zero : mk (fun _ => false) = #[.bool false, .bool false, .bool false, .bool false, .bool false, .bool false, .bool false, .bool false] := by unfold mk; rfl
structure Vis (n : Nat) (h : Nat → Nat → Int) (M : Nat → Bool) (i : Nat) (M' : Nat → Bool) : Prop where
 old : ∀ j, M j = true → M' j = true
 me : M' i = true
 new : ∀ j, M' j = true → M j = true ∨ Rc n h i j
 cl : ∀ j, M' j = true → M j = true ∨ ∀ k, k < n → 0 < h j k → M' k = true
structure Vin (n : Nat) (h : Nat → Nat → Int) (M : Nat → Bool) (i : Nat) (m : Nat) (M' : Nat → Bool) : Prop where
 old : ∀ j, M j = true → M' j = true
 me : M' i = true
 new : ∀ j, M' j = true → M j = true ∨ Rc n h i j
 cl : ∀ j, M' j = true → j = i ∨ M j = true ∨ ∀ k, k < n → 0 < h j k → M' k = true
 seen : ∀ k, k < m → 0 < h i k → M' k = true
theorem Vin.start {n : Nat} {h : Nat → Nat → Int} {M : Nat → Bool} {i : Nat} : Vin n h M i 0 (set M i) :=
 ⟨fun _ hj => set_mono hj, set_same, fun j hj => (set_of hj).elim (fun e => .inr (e ▸ .refl)) .inl, fun j hj => (set_of hj).imp id .inl, fun k hk => absurd hk (by omega)⟩
theorem Vin.skip {n : Nat} {h : Nat → Nat → Int} {M M' : Nat → Bool} {i m : Nat} (V : Vin n h M i m M') (h0 : ¬ 0 < h i m) : Vin n h M i (m + 1) M' :=
 ⟨V.old, V.me, V.new, V.cl, fun k hk hh => by
  by_cases e : k = m
  ·subst e; exact absurd hh h0
  ·exact V.seen k (by omega) hh⟩
theorem Vin.step {n : Nat} {h : Nat → Nat → Int} {M M' M2 : Nat → Bool} {i m : Nat} (V : Vin n h M i m M') (hi : i < n) (hm : m < n) (h0 : 0 < h i m) (K : Vis n h M' m M2) : Vin n h M i (m + 1) M2 :=
 ⟨fun j hj => K.old j (V.old j hj), K.old i V.me, fun j hj => (K.new j hj).elim (V.new j) fun hr => .inr (.step hi hm h0 hr), fun j hj => by
  rcases K.cl j hj with h1 | h1
  ·rcases V.cl j h1 with h2 | h2 | h2
   ·exact .inl h2
   ·exact .inr (.inl h2)
   ·exact .inr (.inr fun k hk hh => K.old k (h2 k hk hh))
  ·exact .inr (.inr h1), fun k hk hh => by
  by_cases e : k = m
  ·subst e; exact K.me
  ·exact K.old k (V.seen k (by omega) hh)⟩
theorem Vin.done {n : Nat} {h : Nat → Nat → Int} {M M' : Nat → Bool} {i : Nat} (V : Vin n h M i n M') : Vis n h M i M' :=
 ⟨V.old, V.me, V.new, fun j hj => by
  rcases V.cl j hj with rfl | h1 | h1
  ·exact .inr fun k hk hh => V.seen k hk hh
  ·exact .inl h1
  ·exact .inr h1⟩
theorem Vis.same {n : Nat} {h : Nat → Nat → Int} {M : Nat → Bool} {i : Nat} (hi : M i = true) : Vis n h M i M := ⟨fun _ h => h, hi, fun _ h => .inl h, fun _ h => .inl h⟩
open Classical in
noncomputable def rch (n : Nat) (h : Nat → Nat → Int) (i j : Nat) : Bool := decide (Rc n h i j)
theorem rch_iff {n : Nat} {h : Nat → Nat → Int} {i j : Nat} : rch n h i j = true ↔ Rc n h i j := by unfold rch; simp
theorem Vis.all {n : Nat} {h : Nat → Nat → Int} {M : Nat → Bool} {i : Nat} (V : Vis n h (fun _ => false) i M) : ∀ j, M j = rch n h i j := by
 intro j
 have h1 : M j = true ↔ Rc n h i j := by
  refine ⟨fun hj => (V.new j hj).resolve_left (by simp), fun hr => ?_⟩
  have key : ∀ a b, Rc n h a b → M a = true → M b = true := by
   intro a b hr
   induction hr with
   | refl => exact fun h => h
   | step _ h2 hh _ ih => exact fun ha => ih (((V.cl _ ha).resolve_left (by simp)) _ h2 hh)
  exact key i j hr V.me
 cases hb : M j with
 | true => exact (rch_iff.2 (h1.1 hb)).symm
 | false =>
  cases hc : rch n h i j with
  | true => rw [h1.2 (rch_iff.1 hc)] at hb; cases hb
  | false => rfl
open Classical in
noncomputable def free (M : Nat → Bool) : Nat := cnt (fun j => M j = false) 8
theorem free_lt {M M' : Nat → Bool} {i : Nat} (hi : i < 8) (h0 : M i = false) (h1 : M' i = true) (ho : ∀ j, M j = true → M' j = true) : free M' < free M :=
 cnt_lt (k := i) (fun j _ hj => by
  cases hm : M j with
  | true => rw [ho j hm] at hj; cases hj
  | false => rfl) hi h0 (by rw [h1]; simp)
end Ns
theorem la_mk (M : Nat → Bool) {i : Nat} (h : i < 8) : LA 4 (Ns.mk M) i (.bool (M i)) := LA.one (by kernel_rfl) (Ns.mk_at M h)
theorem sa_mk (M : Nat → Bool) {i : Nat} (h : i < 8) : SA 4 (Ns.mk M) i (.bool true) (Ns.mk (Ns.set M i)) := by
 rw [← Ns.mk_set]
 exact SA.one (by kernel_rfl) rfl (by rw [Ns.mk_size]; exact h)
set_option maxHeartbeats 4000000 in
theorem visit_any (us hs : Value) (U : List Int) (H : List (List Int)) (W : World) (hR : RdN W us hs U H) (hG : Ns.Good U H) (bm bg bv : Nat) (R : List (Nat × Array Value)) :
    ∀ (f : Nat) (M : Nat → Bool) (i : Nat) (w : World), Ns.free M < f → i < U.length → Mem W [] ((bm, Ns.mk M) :: (bg, #[us, hs]) :: (bv, #[(.func (.func 162) #[] #[.pointer (some ⟨bm, 0, none⟩), .pointer (some ⟨bg, 0, none⟩), .pointer (some ⟨bv, 0, none⟩)])]) :: R) w →
    Calls Tryz.prog 162 #[.int .i64 i, .pointer (some ⟨bm, 0, none⟩), .pointer (some ⟨bg, 0, none⟩), .pointer (some ⟨bv, 0, none⟩)] w fun e w' => ∃ M', e = .returned (.tuple #[]) ∧ Hid (Ns.Vis U.length (Ns.gh H) M i M') ∧ Mem W [] ((bm, Ns.mk M') :: (bg, #[us, hs]) :: (bv, #[(.func (.func 162) #[] #[.pointer (some ⟨bm, 0, none⟩), .pointer (some ⟨bg, 0, none⟩), .pointer (some ⟨bv, 0, none⟩)])]) :: R) w' := by
 have HR := Lib.hid hR
 have HG := Lib.hid hG
 obtain ⟨Au, cu, rfl⟩ := hR.u.form
 obtain ⟨Ah, ch, rfl⟩ := hR.h.form
 have hn8 := hG.sh.1
 clear hR hG
 intro f
 induction f with
 | zero => intro M i w h; omega
 | succ f IH =>
  intro M i w hf hi HM
  have hi1 : (i : Int) < U.length := by omega
  have kM := la_mk M (i := i) (by omega)
  obtain ⟨m0, hm0⟩ : ∃ b, b = M i := ⟨_, rfl⟩
  rw [← hm0] at kM
  cases m0 with
  | true =>
   have HV := Lib.hid (Ns.Vis.same (n := U.length) (h := Ns.gh H) hm0.symm)
   clear hm0 IH
   go_enter Tryz.func162, Tryz.ntmps162
   go_wp2_with (first | ((with_reducible refine g_ld ?_); refine a_ld HM ?_) | ((with_reducible refine g_st ?_); refine a_st HM ?_; clear HM; intro w1 HM))
   ((try simp only [Exit.inBlock, Exit.then]); refine bodyPost_ret (results_none rfl _ _ _) rfl ?_)
   exact ⟨M, rfl, HV, HM⟩
  | false =>
   have sM := sa_mk M (i := i) (by omega)
   obtain ⟨l, hl, hll⟩ := HG.out.at_ hi
   obtain ⟨b, off, cs, A2, c2, rfl, HB, k1, HL⟩ := HR.out.h.at_ hl
   have HLL := Lib.hid hl
   have HM0 := Lib.hid hm0
   rw [hll] at k1 HL
   have HLN := Lib.hid hll
   have hih : (i : Int) < H.length := by have := HG.out.sh.2; omega
   have n1 := la_n1 (.slice Au U.length cu) (.slice (some ⟨b, off, none⟩) H.length ch)
   clear hl hm0 hll
   go_enter Tryz.func162, Tryz.ntmps162
   go_wp2_with (first | ((with_reducible refine g_ld ?_); refine a_ld HM ?_) | ((with_reducible refine g_st ?_); refine a_st HM ?_; clear HM; intro w1 HM))
   go_loopw [18] (fun jv wr => ∃ (j : Nat) (M' : Nat → Bool), jv = .int .i64 (j : Nat) ∧ j ≤ U.length ∧ Hid (Ns.Vin U.length (Ns.gh H) M i j M') ∧ Mem W [] ((bm, Ns.mk M') :: (bg, #[.slice Au U.length cu, .slice (some ⟨b, off, none⟩) H.length ch]) :: (bv, #[(.func (.func 162) #[] #[.pointer (some ⟨bm, 0, none⟩), .pointer (some ⟨bg, 0, none⟩), .pointer (some ⟨bv, 0, none⟩)])]) :: R) wr) (fun jv _ => U.length - (intOf jv).toNat)
   case atStart => exact ⟨0, _, rfl, by omega, Lib.hid .start, HM⟩
   case round =>
    clear HM
    obtain ⟨j, M', rfl, hj, HV, HM⟩ := hrel
    by_cases hjt : j < U.length
    ·have hjt1 : (j : Int) < U.length := by omega
     obtain ⟨y, hy⟩ : ∃ y, l[j]? = some y := ⟨_, List.getElem?_eq_getElem (by have := HLN.out; omega)⟩
     have ey := Ns.gh_at HLL.out hy
     obtain ⟨b3, off3, cs3, rfl, HB3, k3⟩ := HL.out.at_ hy
     clear hy
     by_cases hy0 : 0 < y
     ·have hfr := Ns.free_lt (M := M) (M' := M') (i := i) (by omega) HM0.out.symm HV.out.me HV.out.old
      have IV := fun M2 (K : Ns.Vis U.length (Ns.gh H) M' j M2) => HV.out.step hi hjt (by rw [ey]; exact hy0) K
      have HIV := Lib.hid IV
      have I := IH M' j
      clear ey IV
      go_wp2_with (first | (go_at_call 162; refine (I _ (by omega) hjt HM).mono ?_; rintro e9 w2 ⟨M2, rfl, HK, HM2⟩; replace HM := HM2; clear HM2) | (first | ((with_reducible refine g_ld ?_); refine a_ld HM ?_) | ((with_reducible refine g_st ?_); refine a_st HM ?_; clear HM; intro w1 HM)))
      go_roundw
      case rel => exact ⟨j + 1, M2, by go_num, by omega, Lib.hid (HIV.out M2 HK.out), HM⟩
      case measure => simp [intOf]; omega
     ·have HV2 := Lib.hid (HV.out.skip (by rw [ey]; exact hy0))
      clear ey
      go_wp2_with (first | ((with_reducible refine g_ld ?_); refine a_ld HM ?_) | ((with_reducible refine g_st ?_); refine a_st HM ?_; clear HM; intro w1 HM))
      go_roundw
      case rel => exact ⟨j + 1, M', by go_num, by omega, HV2, HM⟩
      case measure => simp [intOf]; omega
    ·obtain rfl : j = U.length := by omega
     go_wp2_with (first | ((with_reducible refine g_ld ?_); refine a_ld HM ?_) | ((with_reducible refine g_st ?_); refine a_st HM ?_; clear HM; intro w1 HM))
     go_end0
     exact ⟨M', rfl, Lib.hid HV.out.done, HM⟩
theorem za_mk : ZA 191 (Ns.mk fun _ => false) := ⟨.agg (Ns.mk fun _ => false), rfl, fun w => by rw [Ns.mk_zero]; kernel_rfl⟩
theorem za_fn : ZA 207 #[.nilFunc] := ⟨.nilFunc, rfl, fun w => by kernel_rfl⟩
theorem la_marks (M : Nat → Bool) : LA 191 (Ns.mk M) 0 (.agg (Ns.mk M)) := LA.whole (by kernel_rfl) (by rw [Ns.mk_size]; kernel_rfl)
theorem Ns.mk_one (M : Nat → Bool) : (Ns.mk M).all (·.oneCell') = true := by unfold Ns.mk; simp [Value.oneCell']
theorem sa_marks (M M' : Nat → Bool) : SA 191 (Ns.mk M) 0 (.agg (Ns.mk M')) (Ns.mk M') := SA.whole (by rw [Ns.mk_size]; kernel_rfl) (Ns.mk_one M') (by rw [Ns.mk_size, Ns.mk_size])
set_option maxHeartbeats 4000000 in
theorem reach_any (us hs : Value) (U : List Int) (H : List (List Int)) (i : Nat) (w : World) (hR : RdN w us hs U H) (hG : Ns.Good U H) (hi : i < U.length) :
    Calls Tryz.prog 143 #[.agg #[us, hs], .int .i64 (i : Nat)] w fun e w' => e = .returned (.agg (Ns.mk (Ns.rch U.length (Ns.gh H) i))) ∧ Below w.heap.size w w' := by
 have HM := Mem.start w
 have V := fun bm bg bv R M w' => visit_any us hs U H w hR hG bm bg bv R (Ns.free M + 1) M i w' (by omega) hi
 have za := za_mk
 have zf := za_fn
 clear hR hG
 go_enter Tryz.func143, Tryz.ntmps143
 go_upto_region 3 with (first | ((with_reducible refine g_ld ?_); refine a_ld HM ?_) | ((with_reducible refine g_st ?_); refine a_st HM ?_; clear HM; intro w1 HM) | ((with_reducible refine g_al ?_); refine a_al HM ?_; clear HM; intro bk w1 HM) | ((with_reducible refine g_bx ?_); refine a_bx HM ?_; clear HM; intro bk w1 HM))
 obtain ⟨bv, rfl⟩ := HM.nm0
 obtain ⟨bm, rfl⟩ := HM.nm1
 obtain ⟨br, rfl⟩ := HM.nm2
 obtain ⟨bg, rfl⟩ := HM.nm3
 have sf : SA 207 #[.nilFunc] 0 (.func (.func 162) #[] #[.pointer (some ⟨bm, 0, none⟩), .pointer (some ⟨bg, 0, none⟩), .pointer (some ⟨bv, 0, none⟩)]) #[(.func (.func 162) #[] #[.pointer (some ⟨bm, 0, none⟩), .pointer (some ⟨bg, 0, none⟩), .pointer (some ⟨bv, 0, none⟩)])] := SA.one (by kernel_rfl) rfl (by simp)
 go_upto_region 4 with (first | ((with_reducible refine g_ld ?_); refine a_ld HM ?_) | ((with_reducible refine g_st ?_); refine a_st HM ?_; clear HM; intro w1 HM) | ((with_reducible refine g_al ?_); refine a_al HM ?_; clear HM; intro bk w1 HM) | ((with_reducible refine g_bx ?_); refine a_bx HM ?_; clear HM; intro bk w1 HM))
 replace HM : Mem w [] ((bm, Ns.mk fun _ => false) :: (bg, #[us, hs]) :: (bv, #[(.func (.func 162) #[] #[.pointer (some ⟨bm, 0, none⟩), .pointer (some ⟨bg, 0, none⟩), .pointer (some ⟨bv, 0, none⟩)])]) :: [(br, Ns.mk fun _ => false)]) _ := HM.pick
 go_upto_region 5 with (first | (go_at_call 162; refine (V _ _ _ _ _ _ HM).mono ?_; rintro e9 w2 ⟨M2, rfl, HK, HM2⟩; replace HM := HM2; clear HM2) | (first | ((with_reducible refine g_ld ?_); refine a_ld HM ?_) | ((with_reducible refine g_st ?_); refine a_st HM ?_; clear HM; intro w1 HM) | ((with_reducible refine g_al ?_); refine a_al HM ?_; clear HM; intro bk w1 HM) | ((with_reducible refine g_bx ?_); refine a_bx HM ?_; clear HM; intro bk w1 HM)))
 have HE : Hid (M2 = Ns.rch U.length (Ns.gh H) i) := Lib.hid (funext HK.out.all)
 clear HK
 have k1 := la_marks M2
 have s1 := sa_marks (fun _ => false) M2
 go_wp2_with (first | ((with_reducible refine g_ld ?_); refine a_ld HM ?_) | ((with_reducible refine g_st ?_); refine a_st HM ?_; clear HM; intro w1 HM) | ((with_reducible refine g_al ?_); refine a_al HM ?_; clear HM; intro bk w1 HM) | ((with_reducible refine g_bx ?_); refine a_bx HM ?_; clear HM; intro bk w1 HM))
 refine bodyPost_ret (r_c (b := br) (k := 0) rfl rfl (HM.get (by ((repeat (first | exact Look.here | refine Look.there ?_)); done))) (la_marks _)) rfl ⟨by rw [HE.out], HM.low⟩
end Go.Proofs.YtckhdiljihhdmaaGreat
