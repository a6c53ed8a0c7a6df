/- Walks, and plain facts for them. -/
import Derived.Test.YtckhdiljihhdmaaGreatPb25
import Derived.Test.YtckhdiljihhdmaaGreatPb27
import Derived.Test.YtckhdiljihhdmaaGreatPb08
import Derived.Test.YtckhdiljihhdmaaGreatPb07
namespace Go.Proofs.YtckhdiljihhdmaaGreat
set_option maxRecDepth 8000
open Go.RowKit
theorem qrows_at (f : Nat → Rat) {n i : Nat} (h : i < n) : (qrows n f)[i]? = some (Rt.qA (f i)) := So.ol_at _ h
theorem qrows_len (f : Nat → Rat) (n : Nat) : (qrows n f).length = n := by simp [qrows, So.ol]
theorem RdS.form66 {w : World} {s : Value} {n : Nat} {f : Nat → Rat} (h : RdS 66 w s (qrows n f)) : ∃ A cap, s = .slice A n cap := by
 obtain ⟨A, cap, e⟩ := h.form1
 rw [qrows_len] at e
 exact ⟨A, cap, e⟩
theorem RdS.at66 {w : World} {A : Option Addr} {k cap n : Nat} {f : Nat → Rat} (h : RdS 66 w (.slice A k cap) (qrows n f)) {i : Nat} (hi : i < n) : ∃ b off cs, A = Option.some ⟨b, off, none⟩ ∧ Hid (Rbk w b cs) ∧ LA 50 cs (off + i * 66) (.agg (Rt.qA (f i))) := by
 obtain ⟨b, off, cs, cap', e, hb, hc⟩ := h.get (qrows_at f hi)
 injection e with e1 e2 e3
 exact ⟨b, off, cs, e1, Lib.hid hb, la_in (n := 66) (by kernel_rfl) (by kernel_rfl) (qA_size _) hc (by decide)⟩
theorem made_i {w0 w : World} {X : List Nat} {L : List (Nat × Array Value)} {b : Nat} (HM : Mem w0 X L w) (l : List Int) (h : Look L b (rowsOf (l.map ic))) : RdI w (.slice (some ⟨b, 0, none⟩) l.length l.length) l := by
 have h1 := (SlAt.row (n := 1) b (l.map ic) [] (fun c hc => by
  rw [List.append_nil] at hc
  obtain ⟨x, _, rfl⟩ := List.mem_map.1 hc
  rfl)).rd HM (by simpa using h.mem)
 rw [List.length_nil, Nat.add_zero, List.length_map] at h1
 exact h1
theorem made_h2 {w0 w : World} {X : List Nat} {L : List (Nat × Array Value)} {b : Nat} {v1 v2 : Value} {l1 l2 : List Int} (HM : Mem w0 X L w) (h : Look L b (rowsOf [vc v1, vc v2])) (h1 : RdI w v1 l1) (h2 : RdI w v2 l2) : RdH w (.slice (some ⟨b, 0, none⟩) 2 2) [l1, l2] := by
 have h3 := (SlAt.row (n := 1) b [vc v1, vc v2] [] (by simp [vc])).rd HM (by simpa using h.mem)
 refine ⟨[v1, v2], h3, rfl, fun i l hl => ?_⟩
 match i with
 | 0 => exact ⟨v1, rfl, by simp at hl; subst hl; exact h1⟩
 | 1 => exact ⟨v2, rfl, by simp at hl; subst hl; exact h2⟩
 | i + 2 => simp at hl
theorem za_nest : ZA 25 #[.slice none 0 0, .slice none 0 0] := ⟨.agg #[.slice none 0 0, .slice none 0 0], rfl, fun w => by kernel_rfl⟩
theorem sa_nest (us hs : Value) (h1 : us.oneCell' = true) (h2 : hs.oneCell' = true) : SA 25 #[.slice none 0 0, .slice none 0 0] 0 (.agg #[us, hs]) #[us, hs] := SA.whole (by kernel_rfl) (by simp [h1, h2]) rfl
theorem made_nest {w0 w : World} {X : List Nat} {L : List (Nat × Array Value)} {b4 b3 b2 b1 : Nat} (HM : Mem w0 X L w) (u1 u2 h11 h12 h21 h22 : Int) (k4 : Look L b4 (rowsOf [#[.int .i64 u1], #[.int .i64 u2]])) (k1 : Look L b1 (rowsOf [#[.slice (some ⟨b3, 0, none⟩) 2 2], #[.slice (some ⟨b2, 0, none⟩) 2 2]])) (k3 : Look L b3 (rowsOf [#[.int .i64 h11], #[.int .i64 h12]])) (k2 : Look L b2 (rowsOf [#[.int .i64 h21], #[.int .i64 h22]])) :
    RdN w (.slice (some ⟨b4, 0, none⟩) 2 2) (.slice (some ⟨b1, 0, none⟩) 2 2) [u1, u2] [[h11, h12], [h21, h22]] :=
 ⟨made_i HM [u1, u2] k4, made_h2 HM k1 (made_i HM [h11, h12] k3) (made_i HM [h21, h22] k2)⟩
end Go.Proofs.YtckhdiljihhdmaaGreat
namespace Go.Proofs.YtckhdiljihhdmaaGreat
set_option maxRecDepth 8000
open Go.RowKit
theorem za_i : ZA 3 (ic 0) := ⟨.int .i64 0, rfl, fun w => by kernel_rfl⟩
theorem ic_sizes (A : List Int) : ∀ c ∈ A.map ic, c.size = 1 := by
 intro c hc
 obtain ⟨x, _, rfl⟩ := List.mem_map.1 hc
 rfl
theorem la_ints {A : List Int} {i : Nat} {x : Int} (h : A[i]? = some x) : LA 3 (rowsOf (A.map ic)) i (.int .i64 x) := la_i1 (ic_sizes A) (by rw [List.getElem?_map, h]; rfl)
theorem sa_ints (A : List Int) {i : Nat} (x : Int) (h : i < A.length) : SA 3 (rowsOf (A.map ic)) i (.int .i64 x) (rowsOf ((A.set i x).map ic)) := by
 have h1 : (A.map ic)[i]? = some (ic A[i]) := by rw [List.getElem?_map, List.getElem?_eq_getElem h]; rfl
 have := sa_rowone (T := 3) (n := 1) (a := 0) (l := A.map ic) (k := i) (v := .int .i64 x) (by kernel_rfl) (ic_sizes A) h1 (by decide) rfl
 rw [Nat.mul_one, Nat.add_zero] at this
 have e : (A.map ic).set i ((ic A[i]).setIfInBounds 0 (.int .i64 x)) = (A.set i x).map ic := by
  rw [List.map_set]; rfl
 rw [e] at this
 exact this
theorem rep_ints (n : Nat) : List.replicate n (ic 0) = (List.replicate n (0 : Int)).map ic := by rw [List.map_replicate]
theorem own_ints {b : Nat} {A : List Int} : SlAt 1 (.slice (some ⟨b, 0, none⟩) A.length A.length) (A.map ic) [(b, rowsOf (A.map ic))] := by
 have h := SlAt.row (n := 1) b (A.map ic) [] (by rw [List.append_nil]; exact ic_sizes A)
 rw [List.length_nil, Nat.add_zero, List.length_map, List.append_nil] at h
 exact h
end Go.Proofs.YtckhdiljihhdmaaGreat
namespace Go.Proofs.YtckhdiljihhdmaaGreat
set_option maxRecDepth 8000
open Go.RowKit
def RdL (w : World) (sv : Value) (L : List (List Lk.H)) : Prop := ∃ hv : List Value, RdS 1 w sv (hv.map vc) ∧ hv.length = L.length ∧ ∀ (i : Nat) (l : List Lk.H), L[i]? = some l → ∃ v, hv[i]? = some v ∧ RdO w v l
theorem RdL.below {w w' : World} {sv : Value} {L : List (List Lk.H)} (h : RdL w sv L) (hb : Below w.heap.size w w') : RdL w' sv L := by
 obtain ⟨hv, h1, h2, h3⟩ := h
 refine ⟨hv, h1.below hb, h2, fun i l hl => ?_⟩
 obtain ⟨v, h4, h5⟩ := h3 i l hl
 exact ⟨v, h4, h5.below hb⟩
theorem RdL.form {w : World} {sv : Value} {L : List (List Lk.H)} (h : RdL w sv L) : ∃ A cap, sv = .slice A L.length cap := by
 obtain ⟨hv, h1, h2, _⟩ := h
 obtain ⟨A, cap, e⟩ := RdS.form1 h1
 rw [List.length_map, h2] at e
 exact ⟨A, cap, e⟩
theorem RdL.at_ {w : World} {A : Option Addr} {k cap : Nat} {L : List (List Lk.H)} (h : RdL w (.slice A k cap) L) {i : Nat} {l : List Lk.H} (hi : L[i]? = Option.some l) : ∃ b off cs A2 cap2, A = Option.some ⟨b, off, none⟩ ∧ Hid (Rbk w b cs) ∧ LA 27 cs (off + i) (.slice A2 l.length cap2) ∧ Hid (RdO w (.slice A2 l.length cap2) l) := by
 obtain ⟨hv, h1, h2, h3⟩ := h
 obtain ⟨v, h4, h5⟩ := h3 i l hi
 obtain ⟨A2, cap2, rfl⟩ := h5.form
 obtain ⟨b, off, cs, e, hb, hc⟩ := RdS.one_at h1 (i := i) (v := .slice A2 l.length cap2) (by rw [List.getElem?_map, h4]; rfl)
 exact ⟨b, off, cs, A2, cap2, e, hb, LA.one (by kernel_rfl) hc, Lib.hid h5⟩
namespace Lk
def all (L : List (List H)) : Bool := L.all val
noncomputable def chk (U : List Int) (Hs : List (List Int)) (L : List (List H)) : Int := if Ns.chk U Hs = 0 then (if L.length = U.length ∧ all L = true then 0 else 360) else Ns.chk U Hs
theorem chk_nest {U : List Int} {Hs : List (List Int)} {L : List (List H)} (h : Ns.chk U Hs ≠ 0) : chk U Hs L = Ns.chk U Hs := if_neg h
theorem chk_len {U : List Int} {Hs : List (List Int)} {L : List (List H)} (h : Ns.chk U Hs = 0) (h2 : L.length ≠ U.length) : chk U Hs L = 360 := by unfold chk; rw [if_pos h, if_neg (fun g => h2 g.1)]
theorem chk_bad {U : List Int} {Hs : List (List Int)} {L : List (List H)} (h : Ns.chk U Hs = 0) (h2 : all L = false) : chk U Hs L = 360 := by unfold chk; rw [if_pos h, if_neg (fun g => by rw [h2] at g; cases g.2)]
theorem chk_ok {U : List Int} {Hs : List (List Int)} {L : List (List H)} (h : Ns.chk U Hs = 0) (h2 : L.length = U.length) (h3 : all L = true) : chk U Hs L = 0 := by unfold chk; rw [if_pos h, if_pos ⟨h2, h3⟩]
theorem chk_spec {U : List Int} {Hs : List (List Int)} {L : List (List H)} (h : chk U Hs L = 0) : Ns.Good U Hs ∧ L.length = U.length ∧ all L = true := by
 unfold chk at h
 by_cases h1 : Ns.chk U Hs = 0
 ·rw [if_pos h1] at h
  by_cases h2 : L.length = U.length ∧ all L = true
  ·exact ⟨Ns.chk_good h1, h2⟩
  ·rw [if_neg h2] at h; cases h
 ·rw [if_neg h1] at h; exact absurd h h1
theorem all_bad {L : List (List H)} {i : Nat} {l : List H} (h : L[i]? = some l) (hv : val l = false) : all L = false := by
 unfold all
 rw [List.all_eq_false]
 exact ⟨l, List.mem_of_getElem? h, by rw [hv]; simp⟩
theorem all_good {L : List (List H)} (h : ∀ (i : Nat) (l : List H), i < L.length → L[i]? = some l → val l = true) : all L = true := by
 unfold all
 rw [List.all_eq_true]
 intro l hl
 obtain ⟨i, hi⟩ := List.getElem?_of_mem hl
 exact h i l (List.getElem?_eq_some_iff.1 hi).1 hi
def ql (s : List UInt8) (l : List H) : Int := l.foldl (fun a h => if (h.nm.toList == s) = true then h.q else a) 0
def qty (L : List (List H)) (s : List UInt8) : List Int := L.map (ql s)
def qs (L : List (List H)) (s : List UInt8) (i : Nat) : List Int := (L.take i).map (ql s) ++ List.replicate (L.length - i) 0
theorem ql_step {s : List UInt8} {l : List H} {j : Nat} {h : H} (hj : l[j]? = some h) : ql s (l.take (j + 1)) = if (h.nm.toList == s) = true then h.q else ql s (l.take j) := by
 unfold ql
 rw [List.take_add_one, hj, List.foldl_append]
 rfl
theorem qs_len {L : List (List H)} {s : List UInt8} {i : Nat} (h : i ≤ L.length) : (qs L s i).length = L.length := by simp [qs]; omega
theorem qs_zero (L : List (List H)) (s : List UInt8) : qs L s 0 = List.replicate L.length 0 := by simp [qs]
theorem qs_all (L : List (List H)) (s : List UInt8) : qs L s L.length = qty L s := by simp [qs, qty]
theorem qs_set {L : List (List H)} {s : List UInt8} {i : Nat} {l : List H} (h : L[i]? = some l) (x : Int) : (qs L s i).set i x = (L.take i).map (ql s) ++ x :: List.replicate (L.length - (i + 1)) 0 := by
 have hi := (List.getElem?_eq_some_iff.1 h).1
 unfold qs
 rw [List.set_append_right _ _ (by simp; omega)]
 have e : L.length - i = (L.length - (i + 1)) + 1 := by omega
 simp only [List.length_map, List.length_take, Nat.min_eq_left (Nat.le_of_lt hi), Nat.sub_self, e, List.replicate_succ, List.set_cons_zero]
theorem qs_set0 {L : List (List H)} {s : List UInt8} {i : Nat} {l : List H} (h : L[i]? = some l) : (qs L s i).set i (ql s (l.take 0)) = qs L s i := by
 have hi := (List.getElem?_eq_some_iff.1 h).1
 rw [qs_set h]
 have e : L.length - i = (L.length - (i + 1)) + 1 := by omega
 unfold qs
 rw [e, List.replicate_succ]; rfl
theorem qs_next {L : List (List H)} {s : List UInt8} {i : Nat} {l : List H} (h : L[i]? = some l) : (qs L s i).set i (ql s (l.take l.length)) = qs L s (i + 1) := by
 rw [qs_set h, List.take_length]
 unfold qs
 rw [List.take_add_one, h]
 simp
end Lk
set_option maxHeartbeats 1000000 in
theorem indexL_any (lv : Value) (L : List (List Lk.H)) (w : World) (hR : RdL w lv L) (hl : L.length ≤ 1000000) (v : Bool) (hv : Hid (v = Lk.all L)) :
    Calls Tryz.prog 65 #[lv, .func (.func 40) #[] #[]] w fun e w' => (∃ k : Int, e = .returned (.int .i64 k) ∧ Hid (decide (0 ≤ k) = !v)) ∧ Below w.heap.size w w' := by
 have HM := Mem.start w
 have HR := Lib.hid hR
 obtain ⟨A, cap, rfl⟩ := hR.form
 clear hR
 go_enter Tryz.func65, Tryz.ntmps65
 go_wp2_with ((with_reducible refine g_ld ?_); refine a_ld HM ?_)
 go_loopw [4, 8] (fun rv iv wr => ∃ i : Nat, rv = .int .i64 0 ∧ iv = .int .i64 (i : Nat) ∧ i ≤ L.length ∧ Hid (∀ (k : Nat) (l : List Lk.H), k < i → L[k]? = some l → Lk.val l = true) ∧ Mem w [] [] wr) (fun _ iv _ => L.length - (intOf iv).toNat)
 case atStart => exact ⟨0, rfl, rfl, by omega, Lib.hid (fun k _ hk _ => absurd hk (by omega)), HM⟩
 case round =>
  clear HM
  obtain ⟨i, rfl, rfl, hi, HK, HM⟩ := hrel
  by_cases hlt : i < L.length
  ·have hlt1 : (i : Int) < L.length := by omega
   obtain ⟨l, hll⟩ : ∃ l, L[i]? = some l := ⟨_, List.getElem?_eq_getElem hlt⟩
   obtain ⟨b, off, cs, A2, c2, rfl, HB, k1, HL⟩ := HR.out.at_ hll
   by_cases hvl : Lk.val l = true
   ·have C := fun w' hB => notright_any _ l w' (HL.out.below hB) true (Lib.hid hvl.symm)
    have HK2 : Hid (∀ (k : Nat) (l : List Lk.H), k < i + 1 → L[k]? = some l → Lk.val l = true) := Lib.hid (fun k m hk hm => by
     by_cases e : k = i
     ·subst e; rw [hll] at hm; injection hm with hm; subst hm; exact hvl
     ·exact HK.out k m (by omega) hm)
    clear hvl hll
    go_wp2_with (first | (go_at_call 40; ((with_reducible refine (C _ HM.low).mono ?_); rintro e9 w2 ⟨rfl, hL⟩; replace HM := HM.call hL; clear hL)) | ((with_reducible refine g_ld ?_); refine a_ld HM ?_))
    go_roundw
    case rel => exact ⟨i + 1, rfl, by go_num, by omega, HK2, HM⟩
    case measure => simp [intOf]; omega
   ·have hvl1 : Lk.val l = false := by simpa using hvl
    have C := fun w' hB => notright_any _ l w' (HL.out.below hB) false (Lib.hid hvl1.symm)
    obtain rfl : v = false := by rw [hv.out]; exact Lk.all_bad hll hvl1
    clear hvl hvl1 hll
    go_wp2_with (first | (go_at_call 40; ((with_reducible refine (C _ HM.low).mono ?_); rintro e9 w2 ⟨rfl, hL⟩; replace HM := HM.call hL; clear hL)) | ((with_reducible refine g_ld ?_); refine a_ld HM ?_))
    go_ret
    exact ⟨⟨(i : Nat), rfl, Lib.hid (decide_eq_true (by omega))⟩, HM.low⟩
  ·obtain rfl : i = L.length := by omega
   obtain rfl : v = true := by rw [hv.out]; exact Lk.all_good HK.out
   go_wp2_with ((with_reducible refine g_ld ?_); refine a_ld HM ?_)
   go_ret
   exact ⟨⟨-1, rfl, Lib.hid (decide_eq_false (by decide))⟩, HM.low⟩
theorem containsL_any (lv : Value) (L : List (List Lk.H)) (w : World) (hR : RdL w lv L) (hl : L.length ≤ 1000000) (v : Bool) (hv : Hid (v = Lk.all L)) :
    Calls Tryz.prog 39 #[lv, .func (.func 40) #[] #[]] w fun e w' => e = .returned (.bool (!v)) ∧ Below w.heap.size w w' := by
 have HM := Mem.start w
 go_enter Tryz.func39, Tryz.ntmps39
 go_upto_region 1 with fail
 go_wp2_with (first | (go_at_call 65; refine (indexL_any lv L _ hR hl v hv).mono ?_; rintro e9 w2 ⟨⟨k, rfl, HK⟩, hL⟩; replace HM := HM.call hL; clear hL) | fail)
 go_ret
 refine ⟨?_, HM.low⟩
 rw [← HK.out]
 rfl
set_option maxHeartbeats 1000000 in
theorem lcheck_any (us hs lv : Value) (U : List Int) (H : List (List Int)) (L : List (List Lk.H)) (w : World) (hR : RdN w us hs U H) (hLR : RdL w lv L) (r : Int) (hr : Hid (r = Lk.chk U H L)) :
    Calls Tryz.prog 12 #[.agg #[us, hs], lv] w fun e w' => e = .returned (.int .i64 r) ∧ Below w.heap.size w w' := by
 have HM := Mem.start w
 obtain ⟨c, hc⟩ : ∃ c, Hid (c = Ns.chk U H) := ⟨_, Lib.hid rfl⟩
 have C := fun w' hB => ncheck_any us hs U H w' (hR.below hB) c hc
 have n2 := la_nest us hs
 obtain ⟨Au, cu, rfl⟩ := hR.u.form
 obtain ⟨Al, cl, rfl⟩ := hLR.form
 have n0 := la_n0 (.slice Au U.length cu) hs
 go_enter Tryz.func12, Tryz.ntmps12
 by_cases h0 : c = 0
 case neg =>
  obtain rfl : r = c := by rw [hr.out, hc.out]; exact Lk.chk_nest (by rw [← hc.out]; exact h0)
  have g0 : (r == 0) = false := beq_eq_false_iff_ne.2 h0
  clear hc hr
  go_wp2_with (first | (go_at_call 36; ((with_reducible refine (C _ HM.low).mono ?_); rintro e9 w2 ⟨rfl, hL⟩; replace HM := HM.call hL; clear hL)) | (first | ((with_reducible refine g_ld ?_); refine a_ld HM ?_) | ((with_reducible refine g_bx ?_); refine a_bx HM ?_; clear HM; intro bk w1 HM)))
  go_ret
  exact ⟨rfl, HM.low⟩
 subst h0
 have hG := Ns.chk_good hc.out.symm
 have hn8 := hG.sh.1
 clear hG
 by_cases hl : L.length = U.length
 case neg =>
  have g2 : ¬ (L.length : Int) = U.length := by omega
  obtain rfl : r = 360 := by rw [hr.out]; exact Lk.chk_len hc.out.symm hl
  clear hr hl hc
  go_wp2_with (first | (go_at_call 36; ((with_reducible refine (C _ HM.low).mono ?_); rintro e9 w2 ⟨rfl, hL⟩; replace HM := HM.call hL; clear hL)) | (first | ((with_reducible refine g_ld ?_); refine a_ld HM ?_) | ((with_reducible refine g_bx ?_); refine a_bx HM ?_; clear HM; intro bk w1 HM)))
  go_ret
  exact ⟨rfl, HM.low⟩
 have g2 : (L.length : Int) = U.length := by omega
 have hl6 : L.length ≤ 1000000 := by omega
 cases hv : Lk.all L with
 | false =>
  have D := fun w' hB => containsL_any _ L w' (hLR.below hB) hl6 false (Lib.hid hv.symm)
  obtain rfl : r = 360 := by rw [hr.out]; exact Lk.chk_bad hc.out.symm hv
  clear hr hl hc hv
  go_wp2_with (first | (go_at_call 36; ((with_reducible refine (C _ HM.low).mono ?_); rintro e9 w2 ⟨rfl, hL⟩; replace HM := HM.call hL; clear hL)) | (go_at_call 39; ((with_reducible refine (D _ HM.low).mono ?_); rintro e9 w2 ⟨rfl, hL⟩; replace HM := HM.call hL; clear hL)) | (first | ((with_reducible refine g_ld ?_); refine a_ld HM ?_) | ((with_reducible refine g_bx ?_); refine a_bx HM ?_; clear HM; intro bk w1 HM)))
  go_ret
  exact ⟨rfl, HM.low⟩
 | true =>
  have D := fun w' hB => containsL_any _ L w' (hLR.below hB) hl6 true (Lib.hid hv.symm)
  obtain rfl : r = 0 := by rw [hr.out]; exact Lk.chk_ok hc.out.symm hl hv
  clear hr hl hc hv
  go_wp2_with (first | (go_at_call 36; ((with_reducible refine (C _ HM.low).mono ?_); rintro e9 w2 ⟨rfl, hL⟩; replace HM := HM.call hL; clear hL)) | (go_at_call 39; ((with_reducible refine (D _ HM.low).mono ?_); rintro e9 w2 ⟨rfl, hL⟩; replace HM := HM.call hL; clear hL)) | (first | ((with_reducible refine g_ld ?_); refine a_ld HM ?_) | ((with_reducible refine g_bx ?_); refine a_bx HM ?_; clear HM; intro bk w1 HM)))
  go_ret
  exact ⟨rfl, HM.low⟩
set_option maxHeartbeats 1000000 in
theorem rlcheck_any (us hs lv : Value) (U : List Int) (H : List (List Int)) (L : List (List Lk.H)) (w : World) (hR : RdN w us hs U H) (hLR : RdL w lv L) (r : Int) (hr : Hid (r = Lk.chk U H L)) :
    Calls Tryz.prog 13 #[.agg #[us, hs], lv] w fun e w' => e = .returned (.int .i64 r) ∧ Below w.heap.size w w' := by
 have HM := Mem.start w
 obtain ⟨c, hc⟩ : ∃ c, Hid (c = Ns.chk U H) := ⟨_, Lib.hid rfl⟩
 have C := fun w' hB => rncheck_any us hs U H w' (hR.below hB) c hc
 have n2 := la_nest us hs
 obtain ⟨Au, cu, rfl⟩ := hR.u.form
 have HLR := Lib.hid hLR
 obtain ⟨Al, cl, rfl⟩ := hLR.form
 clear hLR
 have n0 := la_n0 (.slice Au U.length cu) hs
 go_enter Tryz.func13, Tryz.ntmps13
 by_cases h0 : c = 0
 case neg =>
  obtain rfl : r = c := by rw [hr.out, hc.out]; exact Lk.chk_nest (by rw [← hc.out]; exact h0)
  have g0 : (r == 0) = false := beq_eq_false_iff_ne.2 h0
  clear hc hr
  go_wp2_with (first | (go_at_call 38; ((with_reducible refine (C _ HM.low).mono ?_); rintro e9 w2 ⟨rfl, hL⟩; replace HM := HM.call hL; clear hL)) | (first | ((with_reducible refine g_ld ?_); refine a_ld HM ?_) | ((with_reducible refine g_bx ?_); refine a_bx HM ?_; clear HM; intro bk w1 HM)))
  go_ret
  exact ⟨rfl, HM.low⟩
 subst h0
 have hG := Ns.chk_good hc.out.symm
 have hn8 := hG.sh.1
 clear hG
 by_cases hl : L.length = U.length
 case neg =>
  have g2 : ¬ (L.length : Int) = U.length := by omega
  obtain rfl : r = 360 := by rw [hr.out]; exact Lk.chk_len hc.out.symm hl
  clear hr hl hc
  go_wp2_with (first | (go_at_call 38; ((with_reducible refine (C _ HM.low).mono ?_); rintro e9 w2 ⟨rfl, hL⟩; replace HM := HM.call hL; clear hL)) | (first | ((with_reducible refine g_ld ?_); refine a_ld HM ?_) | ((with_reducible refine g_bx ?_); refine a_bx HM ?_; clear HM; intro bk w1 HM)))
  go_ret
  exact ⟨rfl, HM.low⟩
 have g2 : (L.length : Int) = U.length := by omega
 have HL := Lib.hid hl
 have hl6 : L.length ≤ 1000000 := by omega
 clear hl
 go_wp2_with (first | (go_at_call 38; ((with_reducible refine (C _ HM.low).mono ?_); rintro e9 w2 ⟨rfl, hL⟩; replace HM := HM.call hL; clear hL)) | (first | ((with_reducible refine g_ld ?_); refine a_ld HM ?_) | ((with_reducible refine g_bx ?_); refine a_bx HM ?_; clear HM; intro bk w1 HM)))
 go_loopw [4, 6] (fun rv iv wr => ∃ i : Nat, rv = .int .i64 0 ∧ iv = .int .i64 (i : Nat) ∧ i ≤ L.length ∧ Hid (∀ (k : Nat) (l : List Lk.H), k < i → L[k]? = some l → Lk.val l = true) ∧ Mem w [] [] wr) (fun _ iv _ => L.length - (intOf iv).toNat)
 case atStart => exact ⟨0, rfl, rfl, by omega, Lib.hid (fun k _ hk _ => absurd hk (by omega)), HM.pick⟩
 case round =>
  clear HM
  obtain ⟨i, rfl, rfl, hi, HK, HM⟩ := hrel
  by_cases hlt : i < L.length
  ·have hlt1 : (i : Int) < L.length := by omega
   obtain ⟨l, hll⟩ : ∃ l, L[i]? = some l := ⟨_, List.getElem?_eq_getElem hlt⟩
   obtain ⟨b, off, cs, A2, c2, rfl, HB, k1, HLO⟩ := HLR.out.at_ hll
   by_cases hvl : Lk.val l = true
   ·have D := fun w' hB => rholdings_any _ l w' (HLO.out.below hB) true (Lib.hid hvl.symm)
    have HK2 : Hid (∀ (k : Nat) (l : List Lk.H), k < i + 1 → L[k]? = some l → Lk.val l = true) := Lib.hid (fun k m hk hm => by
     by_cases e : k = i
     ·subst e; rw [hll] at hm; injection hm with hm; subst hm; exact hvl
     ·exact HK.out k m (by omega) hm)
    clear hvl hll
    go_wp2_with (first | (go_at_call 42; ((with_reducible refine (D _ HM.low).mono ?_); rintro e9 w2 ⟨rfl, hL⟩; replace HM := HM.call hL; clear hL)) | (first | ((with_reducible refine g_ld ?_); refine a_ld HM ?_) | ((with_reducible refine g_bx ?_); refine a_bx HM ?_; clear HM; intro bk w1 HM)))
    go_roundw
    case rel => exact ⟨i + 1, rfl, by go_num, by omega, HK2, HM⟩
    case measure => simp [intOf]; omega
   ·have hvl1 : Lk.val l = false := by simpa using hvl
    have D := fun w' hB => rholdings_any _ l w' (HLO.out.below hB) false (Lib.hid hvl1.symm)
    obtain rfl : r = 360 := by rw [hr.out]; exact Lk.chk_bad hc.out.symm (Lk.all_bad hll hvl1)
    clear hvl hvl1 hll hr hc
    go_wp2_with (first | (go_at_call 42; ((with_reducible refine (D _ HM.low).mono ?_); rintro e9 w2 ⟨rfl, hL⟩; replace HM := HM.call hL; clear hL)) | (first | ((with_reducible refine g_ld ?_); refine a_ld HM ?_) | ((with_reducible refine g_bx ?_); refine a_bx HM ?_; clear HM; intro bk w1 HM)))
    go_ret
    exact ⟨rfl, HM.low⟩
  ·obtain rfl : i = L.length := by omega
   obtain rfl : r = 0 := by rw [hr.out]; exact Lk.chk_ok hc.out.symm HL.out (Lk.all_good HK.out)
   clear hr hc
   go_wp2_with (first | ((with_reducible refine g_ld ?_); refine a_ld HM ?_) | ((with_reducible refine g_bx ?_); refine a_bx HM ?_; clear HM; intro bk w1 HM))
   go_ret
   exact ⟨rfl, HM.low⟩
end Go.Proofs.YtckhdiljihhdmaaGreat
namespace Go.Proofs.YtckhdiljihhdmaaGreat
set_option maxRecDepth 8000
open Go.RowKit
theorem Lk.val_len {l : List Lk.H} (h : Lk.val l = true) : l.length ≤ 64 := by
 unfold Lk.val at h
 rw [Bool.and_eq_true, decide_eq_true_eq] at h
 exact h.1
theorem Lk.all_at {L : List (List Lk.H)} (h : Lk.all L = true) {i : Nat} {l : List Lk.H} (hl : L[i]? = some l) : Lk.val l = true := by
 unfold Lk.all at h
 rw [List.all_eq_true] at h
 exact h l (List.mem_of_getElem? hl)
set_option maxHeartbeats 4000000 in
theorem quantities_any (lv : Value) (L : List (List Lk.H)) (s : ByteArray) (w : World) (hR : RdL w lv L) (hl : L.length ≤ 8) (hv : Lk.all L = true) :
    Calls Tryz.prog 29 #[lv, .string s] w fun e w' => ∃ sv, e = .returned sv ∧ Hid (RdI w' sv (Lk.qty L s.toList)) ∧ Below w.heap.size w w' := by
 have HM := Mem.start w
 have HR := Lib.hid hR
 have HV := Lib.hid hv
 obtain ⟨A, cap, rfl⟩ := hR.form
 clear hR hv
 have eli : elemB 22 3 1 8 = true := by kernel_rfl
 have zi := za_i
 have z0 := Lk.za
 go_enter Tryz.func29, Tryz.ntmps29
 go_upto_region 2 with (first | ((with_reducible refine g_mks ?_); refine a_mks L.length HM ?_ (by omega); clear HM; intro bk w1 HM) | (first | ((with_reducible refine g_ld ?_); refine a_ld HM ?_) | ((with_reducible refine g_st ?_); refine a_st HM ?_; clear HM; intro w1 HM) | ((with_reducible refine g_al ?_); refine a_al HM ?_; clear HM; intro bk w1 HM)))
 obtain ⟨bo, rfl⟩ := HM.nm0
 rw [rep_ints, ← Lk.qs_zero L s.toList] at HM
 go_wp2_with (first | ((with_reducible refine g_ld ?_); refine a_ld HM ?_) | ((with_reducible refine g_st ?_); refine a_st HM ?_; clear HM; intro w1 HM) | ((with_reducible refine g_al ?_); refine a_al HM ?_; clear HM; intro bk w1 HM))
 go_loopw [15] (fun iv wr => ∃ i : Nat, iv = .int .i64 (i : Nat) ∧ i ≤ L.length ∧ Mem w [] [(bo, rowsOf ((Lk.qs L s.toList i).map ic))] wr) (fun iv _ => L.length - (intOf iv).toNat)
 case atStart => exact ⟨0, rfl, by omega, HM.pick⟩
 case round =>
  clear HM
  obtain ⟨i, rfl, hi, HM⟩ := hrel
  by_cases hlt : i < L.length
  ·have hlt1 : (i : Int) < L.length := by omega
   obtain ⟨l, hll⟩ : ∃ l, L[i]? = some l := ⟨_, List.getElem?_eq_getElem hlt⟩
   obtain ⟨b, off, cs, A2, c2, rfl, HB, k1, HL⟩ := HR.out.at_ hll
   have hl64 := Lk.val_len (Lk.all_at HV.out hll)
   have HLL := Lib.hid hll
   have HQ := Lib.hid (Lk.qs_len (s := s.toList) hi)
   rw [← Lk.qs_set0 (s := s.toList) hll] at HM
   clear hll
   go_wp2_with (first | ((with_reducible refine g_ld ?_); refine a_ld HM ?_) | ((with_reducible refine g_st ?_); refine a_st HM ?_; clear HM; intro w1 HM) | ((with_reducible refine g_al ?_); refine a_al HM ?_; clear HM; intro bk w1 HM))
   go_loopw [22] (fun jv wr => ∃ (j : Nat) (a : Int), jv = .int .i64 (j : Nat) ∧ j ≤ l.length ∧ Hid (a = Lk.ql s.toList (l.take j)) ∧ Mem w [] [(bo, rowsOf (((Lk.qs L s.toList i).set i a).map ic))] wr) (fun jv _ => l.length - (intOf jv).toNat)
   case atStart => exact ⟨0, _, rfl, by omega, Lib.hid rfl, HM.pick⟩
   case round =>
    clear HM
    obtain ⟨j, a, rfl, hj, HA, HM⟩ := hrel
    by_cases hjt : j < l.length
    ·have hjt1 : (j : Int) < l.length := by omega
     obtain ⟨h, hh⟩ : ∃ h, l[j]? = some h := ⟨_, List.getElem?_eq_getElem hjt⟩
     obtain ⟨b2, off2, cs2, rfl, HB2, k2, -, -⟩ := HL.out.at_ hh
     have s0 := Lk.sa Lk.z0 h
     have l0 := Lk.la0 h
     have l1 := Lk.la1 h
     have est := Lk.ql_step (s := s.toList) hh
     clear hh
     cases hm : (h.nm.toList == s.toList) with
     | true =>
      have HA2 : Hid (h.q = Lk.ql s.toList (l.take (j + 1))) := Lib.hid (by rw [est, if_pos hm])
      have sa := sa_ints ((Lk.qs L s.toList i).set i a) (i := i) h.q (by rw [List.length_set, HQ.out]; exact hlt)
      rw [List.set_set] at sa
      clear est
      go_wp2_with (first | ((with_reducible refine g_ld ?_); refine a_ld HM ?_) | ((with_reducible refine g_st ?_); refine a_st HM ?_; clear HM; intro w1 HM) | ((with_reducible refine g_al ?_); refine a_al HM ?_; clear HM; intro bk w1 HM))
      go_roundw
      case rel => exact ⟨j + 1, h.q, by go_num, by omega, HA2, HM.pick⟩
      case measure => simp [intOf]; omega
     | false =>
      have HA2 : Hid (a = Lk.ql s.toList (l.take (j + 1))) := Lib.hid (by rw [est, hm]; exact HA.out)
      clear est
      go_wp2_with (first | ((with_reducible refine g_ld ?_); refine a_ld HM ?_) | ((with_reducible refine g_st ?_); refine a_st HM ?_; clear HM; intro w1 HM) | ((with_reducible refine g_al ?_); refine a_al HM ?_; clear HM; intro bk w1 HM))
      go_roundw
      case rel => exact ⟨j + 1, a, by go_num, by omega, HA2, HM.pick⟩
      case measure => simp [intOf]; omega
    ·obtain rfl : j = l.length := by omega
     rw [HA.out, Lk.qs_next HLL.out] at HM
     go_wp2_with (first | ((with_reducible refine g_ld ?_); refine a_ld HM ?_) | ((with_reducible refine g_st ?_); refine a_st HM ?_; clear HM; intro w1 HM) | ((with_reducible refine g_al ?_); refine a_al HM ?_; clear HM; intro bk w1 HM))
     go_roundw
     case rel => exact ⟨i + 1, by go_num, by omega, HM.pick⟩
     case measure => simp [intOf]; omega
  ·obtain rfl : i = L.length := by omega
   rw [Lk.qs_all] at HM
   have HI := Lib.hid (made_i HM (Lk.qty L s.toList) (by ((repeat (first | exact Look.here | refine Look.there ?_)); done)))
   have hlen : (Lk.qty L s.toList).length = L.length := by simp [Lk.qty]
   rw [hlen] at HI
   clear hlen
   go_wp2_with (first | ((with_reducible refine g_ld ?_); refine a_ld HM ?_) | ((with_reducible refine g_st ?_); refine a_st HM ?_; clear HM; intro w1 HM) | ((with_reducible refine g_al ?_); refine a_al HM ?_; clear HM; intro bk w1 HM))
   go_ret
   exact ⟨_, rfl, HI, HM.low⟩
set_option maxHeartbeats 4000000 in
theorem rquantities_any (lv : Value) (L : List (List Lk.H)) (s : ByteArray) (w : World) (hR : RdL w lv L) (hl : L.length ≤ 8) (hv : Lk.all L = true) :
    Calls Tryz.prog 24 #[lv, .string s] w fun e w' => ∃ sv, e = .returned sv ∧ Hid (RdI w' sv (Lk.qty L s.toList)) ∧ Below w.heap.size w w' := by
 have HM := Mem.start w
 have HR := Lib.hid hR
 have HV := Lib.hid hv
 obtain ⟨A, cap, rfl⟩ := hR.form
 clear hR hv
 have eli : elemB 22 3 1 8 = true := by kernel_rfl
 have zi := za_i
 go_enter Tryz.func24, Tryz.ntmps24
 go_upto_region 2 with (first | ((with_reducible refine g_mks ?_); refine a_mks L.length HM ?_ (by omega); clear HM; intro bk w1 HM) | (first | ((with_reducible refine g_ld ?_); refine a_ld HM ?_) | ((with_reducible refine g_st ?_); refine a_st HM ?_; clear HM; intro w1 HM)))
 obtain ⟨bo, rfl⟩ := HM.nm0
 rw [rep_ints, ← Lk.qs_zero L s.toList] at HM
 go_wp2_with (first | ((with_reducible refine g_ld ?_); refine a_ld HM ?_) | ((with_reducible refine g_st ?_); refine a_st HM ?_; clear HM; intro w1 HM))
 go_loopw [6] (fun iv wr => ∃ i : Nat, iv = .int .i64 (i : Nat) ∧ i ≤ L.length ∧ Mem w [] [(bo, rowsOf ((Lk.qs L s.toList i).map ic))] wr) (fun iv _ => L.length - (intOf iv).toNat)
 case atStart => exact ⟨0, rfl, by omega, HM.pick⟩
 case round =>
  clear HM
  obtain ⟨i, rfl, hi, HM⟩ := hrel
  by_cases hlt : i < L.length
  ·have hlt1 : (i : Int) < L.length := by omega
   obtain ⟨l, hll⟩ : ∃ l, L[i]? = some l := ⟨_, List.getElem?_eq_getElem hlt⟩
   obtain ⟨b, off, cs, A2, c2, rfl, HB, k1, HL⟩ := HR.out.at_ hll
   have hl64 := Lk.val_len (Lk.all_at HV.out hll)
   have HLL := Lib.hid hll
   have HQ := Lib.hid (Lk.qs_len (s := s.toList) hi)
   rw [← Lk.qs_set0 (s := s.toList) hll] at HM
   clear hll
   go_wp2_with (first | ((with_reducible refine g_ld ?_); refine a_ld HM ?_) | ((with_reducible refine g_st ?_); refine a_st HM ?_; clear HM; intro w1 HM))
   go_loopw [7] (fun jv wr => ∃ (j : Nat) (a : Int), jv = .int .i64 (j : Nat) ∧ j ≤ l.length ∧ Hid (a = Lk.ql s.toList (l.take j)) ∧ Mem w [] [(bo, rowsOf (((Lk.qs L s.toList i).set i a).map ic))] wr) (fun jv _ => l.length - (intOf jv).toNat)
   case atStart => exact ⟨0, _, rfl, by omega, Lib.hid rfl, HM.pick⟩
   case round =>
    clear HM
    obtain ⟨j, a, rfl, hj, HA, HM⟩ := hrel
    by_cases hjt : j < l.length
    ·have hjt1 : (j : Int) < l.length := by omega
     obtain ⟨h, hh⟩ : ∃ h, l[j]? = some h := ⟨_, List.getElem?_eq_getElem hjt⟩
     obtain ⟨b2, off2, cs2, rfl, HB2, -, k2, k3⟩ := HL.out.at_ hh
     have est := Lk.ql_step (s := s.toList) hh
     clear hh
     cases hm : (h.nm.toList == s.toList) with
     | true =>
      have HA2 : Hid (h.q = Lk.ql s.toList (l.take (j + 1))) := Lib.hid (by rw [est, if_pos hm])
      have sa := sa_ints ((Lk.qs L s.toList i).set i a) (i := i) h.q (by rw [List.length_set, HQ.out]; exact hlt)
      rw [List.set_set] at sa
      clear est
      go_wp2_with (first | ((with_reducible refine g_ld ?_); refine a_ld HM ?_) | ((with_reducible refine g_st ?_); refine a_st HM ?_; clear HM; intro w1 HM))
      go_roundw
      case rel => exact ⟨j + 1, h.q, by go_num, by omega, HA2, HM.pick⟩
      case measure => simp [intOf]; omega
     | false =>
      have HA2 : Hid (a = Lk.ql s.toList (l.take (j + 1))) := Lib.hid (by rw [est, hm]; exact HA.out)
      clear est
      go_wp2_with (first | ((with_reducible refine g_ld ?_); refine a_ld HM ?_) | ((with_reducible refine g_st ?_); refine a_st HM ?_; clear HM; intro w1 HM))
      go_roundw
      case rel => exact ⟨j + 1, a, by go_num, by omega, HA2, HM.pick⟩
      case measure => simp [intOf]; omega
    ·obtain rfl : j = l.length := by omega
     rw [HA.out, Lk.qs_next HLL.out] at HM
     go_wp2_with (first | ((with_reducible refine g_ld ?_); refine a_ld HM ?_) | ((with_reducible refine g_st ?_); refine a_st HM ?_; clear HM; intro w1 HM))
     go_roundw
     case rel => exact ⟨i + 1, by go_num, by omega, HM.pick⟩
     case measure => simp [intOf]; omega
  ·obtain rfl : i = L.length := by omega
   rw [Lk.qs_all] at HM
   have HI := Lib.hid (made_i HM (Lk.qty L s.toList) (by ((repeat (first | exact Look.here | refine Look.there ?_)); done)))
   have hlen : (Lk.qty L s.toList).length = L.length := by simp [Lk.qty]
   rw [hlen] at HI
   clear hlen
   go_wp2_with (first | ((with_reducible refine g_ld ?_); refine a_ld HM ?_) | ((with_reducible refine g_st ?_); refine a_st HM ?_; clear HM; intro w1 HM))
   go_ret
   exact ⟨_, rfl, HI, HM.low⟩
end Go.Proofs.YtckhdiljihhdmaaGreat
namespace Go.Proofs.YtckhdiljihhdmaaGreat
set_option maxRecDepth 8000
open Go.RowKit
section
variable {Q : Exit → Act → World → Prop} {w w0 : World} {X : List Nat} {L : List (Nat × Array Value)} {oi : Oper} {d : Tmp} {a : Act} {R : Act → World → Prop}
theorem j_mks {t e : TypeId} {n by_ : Nat} {x y : Operand} {c : Array Value} {a2 : Nat → Act} (k : Nat) (HM : Mem w0 X L w) (h : ∀ b w', Mem w0 X ((b, rowsOf (List.replicate k c)) :: L) w' → R (a2 b) w') (hk : k ≤ 1000000) (hd : oi.dst = some d := by rfl) (ho : oi.op = .makeSlice t x y := by rfl) (hT : elemB t e n by_ = true := by with_reducible assumption) (hZ : ZA e c := by with_reducible assumption) (hb : by_ ≤ 100000 := by decide) (hx : a.eval x = .int .i64 (k : Nat) := by (conv => lhs; whnf) <;> rfl) (hy : a.eval y = .int .i64 (k : Nat) := by (conv => lhs; whnf) <;> rfl) (ha : ∀ b, ({ a with tmps := a.tmps.setIfInBounds d (.slice (some ⟨b, 0, none⟩) k k) } : Act) = a2 b := by intro b; ((try simp only [List.setIfInBounds_toArray, List.set_cons_succ, List.set_cons_zero]) <;> rfl)) : Oper.wp Tryz.prog oi a w R Q := by
 have hr := run_mks hT hZ k hk hb w
 unfold Oper.wp execOp
 simp only [ho, hx, hy]
 rw [Sem.run_bind, hr]
 simp only [Result.andThen_ok, Sem.run_pure, Oper.upon_value]
 rw [hd]
 have h9 := h _ _ (HM.new (rowsOf (List.replicate k c)) e)
 rw [← ha] at h9
 exact h9
theorem j_bs5 {t e : TypeId} {by_ : Nat} {x0 x1 x2 x3 x4 : Operand} {v0 v1 v2 v3 v4 : Int} {a2 : Nat → Act} (HM : Mem w0 X L w) (h : ∀ b w', Mem w0 X ((b, rowsOf ([v0, v1, v2, v3, v4].map ic)) :: L) w' → R (a2 b) w') (hd : oi.dst = some d := by rfl) (ho : oi.op = .buildSlice t 5 #[(0, x0), (1, x1), (2, x2), (3, x3), (4, x4)] := by rfl) (hT : elemB t e 1 by_ = true := by with_reducible assumption) (h0 : a.eval x0 = .int .i64 v0 := by (conv => lhs; whnf) <;> rfl) (h1 : a.eval x1 = .int .i64 v1 := by (conv => lhs; whnf) <;> rfl) (h2 : a.eval x2 = .int .i64 v2 := by (conv => lhs; whnf) <;> rfl) (h3 : a.eval x3 = .int .i64 v3 := by (conv => lhs; whnf) <;> rfl) (h4 : a.eval x4 = .int .i64 v4 := by (conv => lhs; whnf) <;> rfl) (ha : ∀ b, ({ a with tmps := a.tmps.setIfInBounds d (.slice (some ⟨b, 0, none⟩) 5 5) } : Act) = a2 b := by intro b; ((try simp only [List.setIfInBounds_toArray, List.set_cons_succ, List.set_cons_zero]) <;> rfl)) : Oper.wp Tryz.prog oi a w R Q := by
 obtain ⟨i, z, hE⟩ := elemT hT
 have hr := run_bs hE [.int .i64 v0, .int .i64 v1, .int .i64 v2, .int .i64 v3, .int .i64 v4] (by simp [Value.cells]) (by simp) (parts := #[(0, .int .i64 v0), (1, .int .i64 v1), (2, .int .i64 v2), (3, .int .i64 v3), (4, .int .i64 v4)]) rfl w
 unfold Oper.wp execOp
 simp [ho, h0, h1, h2, h3, h4] at hr ⊢
 simp only [hr, Result.andThen]
 rw [Oper.upon_value, hd]
 have h9 := h _ _ (HM.new (rowsOf ([v0, v1, v2, v3, v4].map ic)) e)
 rw [← ha] at h9
 exact h9
end
theorem ints_own {w : World} {b : Nat} {ds : List Int} (hb : Blk w b (rowsOf (ds.map ic))) : IntsAt w (some ⟨b, 0, none⟩) ds := by
 refine .inr ⟨b, 0, rfl, hb.lt, fun j hj => ?_⟩
 rw [Nat.zero_add, hb.cell j]
 have := rows_at (ic_sizes ds) (k := j) (j := 0) (c := ic ds[j]) (by rw [List.getElem?_map, List.getElem?_eq_getElem hj]; rfl) (by decide)
 rw [Nat.one_mul, Nat.add_zero] at this
 rw [this, List.getD_eq_getElem?_getD, List.getElem?_eq_getElem hj]; rfl
theorem perm_at {α : Type} : ∀ {l : List α} {i : Nat} {p : α}, l[i]? = some p → (p :: l.eraseIdx i).Perm l
 | [], i, p, h => by simp at h
 | x :: l, 0, p, h => by
  obtain rfl : x = p := by simpa using h
  exact .refl _
 | x :: l, i + 1, p, h => by
  have := perm_at (l := l) (i := i) (p := p) (by simpa using h)
  exact (List.Perm.swap x p _).trans (this.cons x)
theorem Mem.openRow {w0 w : World} {X : List Nat} (K : List (Nat × Array Value)) {rows R : List (Nat × Array Value)} {i : Nat} {p : Nat × Array Value} (HM : Mem w0 X (K ++ (rows ++ R)) w) (hi : rows[i]? = some p) : Mem w0 X (p :: (K ++ (rows.eraseIdx i ++ R))) w := by
 refine HM.perm ?_
 refine List.perm_middle.symm.trans (List.Perm.append_left K ?_)
 exact (perm_at hi).append_right R
theorem Mem.closeRow {w0 w : World} {X : List Nat} (K : List (Nat × Array Value)) {rows R : List (Nat × Array Value)} {i : Nat} {p : Nat × Array Value} (HM : Mem w0 X (p :: (K ++ (rows.eraseIdx i ++ R))) w) (hi : i < rows.length) : Mem w0 X (K ++ (rows.set i p ++ R)) w := by
 have := perm_at (l := rows.set i p) (i := i) (p := p) (by rw [List.getElem?_set]; simp [hi])
 rw [List.eraseIdx_set_eq] at this
 refine HM.perm ?_
 refine List.Perm.trans (List.Perm.append_left K (this.symm.append_right R)) ?_
 exact List.perm_middle
def NR (rb : List Nat) (H : List (List Int)) : List (Nat × Array Value) := List.zipWith (fun b l => (b, rowsOf (l.map ic))) rb H
theorem NR_at {rb : List Nat} {H : List (List Int)} {i b : Nat} {l : List Int} (h1 : rb[i]? = some b) (h2 : H[i]? = some l) : (NR rb H)[i]? = some (b, rowsOf (l.map ic)) := by
 unfold NR; rw [List.getElem?_zipWith, h1, h2]
theorem NR_len {rb : List Nat} {H : List (List Int)} (h : rb.length = H.length) : (NR rb H).length = rb.length := by unfold NR; simp [h]
theorem NR_add {rb : List Nat} {H : List (List Int)} (b : Nat) (l : List Int) (h : rb.length = H.length) : NR (rb ++ [b]) (H ++ [l]) = NR rb H ++ [(b, rowsOf (l.map ic))] := by
 unfold NR; rw [List.zipWith_append h]; rfl
theorem NR_set {rb : List Nat} {H : List (List Int)} {i b : Nat} (l : List Int) (h : rb.length = H.length) (h1 : rb[i]? = some b) : (NR rb H).set i (b, rowsOf (l.map ic)) = NR rb (H.set i l) := by
 have hi := (List.getElem?_eq_some_iff.1 h1).1
 apply List.ext_getElem?
 intro j
 rw [List.getElem?_set]
 by_cases e : i = j
 ·subst e
  rw [if_pos rfl, if_pos (by rw [NR_len h]; exact hi), NR_at h1 (l := l) (by rw [List.getElem?_set]; simp; omega)]
 ·rw [if_neg e]
  unfold NR
  rw [List.getElem?_zipWith, List.getElem?_zipWith, List.getElem?_set, if_neg e]
def rv (n : Nat) (rb : List Nat) : List Value := rb.map fun b => .slice (some ⟨b, 0, none⟩) n n
theorem rdN_own {w0 w : World} {X : List Nat} {L : List (Nat × Array Value)} {n bu bh : Nat} {U : List Int} {H : List (List Int)} {rb : List Nat} (HM : Mem w0 X L w) (hu : U.length = n) (hh : H.length = n) (hr : rb.length = n) (hl : ∀ l ∈ H, l.length = n)
    (h1 : (bu, rowsOf (U.map ic)) ∈ L) (h2 : (bh, rowsOf ((rv n rb).map vc)) ∈ L) (h3 : ∀ q ∈ NR rb H, q ∈ L) : RdN w (.slice (some ⟨bu, 0, none⟩) n n) (.slice (some ⟨bh, 0, none⟩) n n) U H := by
 refine ⟨?_, rv n rb, ?_, by simp [rv, hr, hh], fun i l hil => ?_⟩
 ·have := (own_ints (b := bu) (A := U)).rd HM (by simpa using h1)
  rw [hu] at this
  exact this
 ·have h := (SlAt.row (n := 1) bh ((rv n rb).map vc) [] (by intro c hc; rw [List.append_nil] at hc; obtain ⟨x, _, rfl⟩ := List.mem_map.1 hc; rfl)).rd HM (by simpa using h2)
  rw [List.length_nil, Nat.add_zero, List.length_map] at h
  have e : (rv n rb).length = n := by simp [rv, hr]
  rw [e] at h
  exact h
 ·have hi := (List.getElem?_eq_some_iff.1 hil).1
  have hb : rb[i]? = some rb[i] := List.getElem?_eq_getElem (by omega)
  refine ⟨_, by unfold rv; rw [List.getElem?_map, hb]; rfl, ?_⟩
  have h := (own_ints (b := rb[i]) (A := l)).rd HM (by simpa using h3 _ (List.mem_of_getElem? (NR_at hb hil)))
  rw [hl l (List.mem_of_getElem? hil)] at h
  exact h
namespace Ns
theorem gh_set {H : List (List Int)} {i j : Nat} {l : List Int} {k : Int} (hi : H[i]? = some l) (hj : j < l.length) (r c : Nat) : gh (H.set i (l.set j k)) r c = if r = i ∧ c = j then k else gh H r c := by
 have hil := (List.getElem?_eq_some_iff.1 hi).1
 unfold gh
 rw [List.getD_eq_getElem?_getD (l := H.set i (l.set j k)), List.getElem?_set]
 by_cases e : r = i
 ·subst e
  rw [if_pos rfl, if_pos hil]
  have e2 : H.getD r [] = l := by rw [List.getD_eq_getElem?_getD, hi]; rfl
  rw [e2]
  show (l.set j k).getD c 0 = _
  rw [List.getD_eq_getElem?_getD, List.getElem?_set]
  by_cases e3 : c = j
  ·subst e3; rw [if_pos rfl, if_pos hj, if_pos ⟨rfl, rfl⟩]; rfl
  ·rw [if_neg (fun h => e3 h.symm), if_neg (fun h => e3 h.2), ← List.getD_eq_getElem?_getD]
 ·rw [if_neg (fun h => e h.symm), if_neg (fun h => e h.1), ← List.getD_eq_getElem?_getD]
theorem zs_upd {n i : Nat} {f g : Nat → Int} (hi : i < n) (h : ∀ r, r < n → r ≠ i → g r = f r) : zs n g = zs n f - f i + g i := by
 induction n with
 | zero => omega
 | succ n ih =>
  rw [zs, zs]
  by_cases e : i = n
  ·subst e
   rw [zs_congr (fun r hr => h r (by omega) (by omega))]; omega
  ·rw [ih (by omega) (fun r hr hne => h r (by omega) hne), h n (by omega) (fun h => e h.symm)]; omega
theorem zs_zero {n : Nat} : zs n (fun _ => 0) = 0 := by
 induction n with
 | zero => rfl
 | succ n ih => rw [zs, ih]; rfl
theorem gh_zero {n r c : Nat} {H : List (List Int)} (h : ∀ l ∈ H, l = List.replicate n 0) : gh H r c = 0 := by
 unfold gh
 rw [List.getD_eq_getElem?_getD (l := H)]
 cases hr : H[r]? with
 | none => rfl
 | some l =>
  rw [h l (List.mem_of_getElem? hr)]
  show (List.replicate n (0 : Int)).getD c 0 = 0
  rw [List.getD_eq_getElem?_getD, List.getElem?_replicate]
  split <;> rfl
structure Made (free : Bool) (U : List Int) (H : List (List Int)) : Prop where
 good : Good U H
 lens : ∀ l ∈ H, l.length = U.length
 small : ∀ j, j < U.length → gu U j ≤ 1000000
 out : free = false → ∀ j, j < U.length → 0 < gu U j → zs U.length (fun i => gh H i j) < gu U j
end Ns
end Go.Proofs.YtckhdiljihhdmaaGreat
namespace Go.Proofs.YtckhdiljihhdmaaGreat
set_option maxRecDepth 8000
open Go.RowKit
namespace Ns
structure Part (n : Nat) (free : Bool) (U : List Int) (H : List (List Int)) (j i : Nat) (S : Int) : Prop where
 len : H.length = n
 lens : ∀ l ∈ H, l.length = n
 ent : ∀ r c, r < n → c < n → 0 ≤ gh H r c ∧ gh H r c ≤ 1000000
 old : ∀ c, c < j → zs n (fun r => gh H r c) ≤ gu U c ∧ (free = false → 0 < gu U c → zs n (fun r => gh H r c) < gu U c)
 new : ∀ c, j < c → c < n → ∀ r, r < n → gh H r c = 0
 cur : j < n → ∀ r, r < n → i ≤ r → gh H r j = 0
 sum : j < n → zs n (fun r => gh H r j) = S
theorem Part.start {n : Nat} {free : Bool} {U : List Int} : Part n free U (List.replicate n (List.replicate n 0)) 0 0 0 := by
 have h : ∀ r c, gh (List.replicate n (List.replicate n 0)) r c = 0 := fun r c => gh_zero (n := n) fun l hl => List.eq_of_mem_replicate hl
 refine ⟨by simp, fun l hl => by rw [List.eq_of_mem_replicate hl]; simp, fun r c _ _ => by rw [h]; exact ⟨by decide, by decide⟩, fun c hc => absurd hc (by omega), fun c _ _ r _ => h r c, fun _ r _ _ => h r 0, fun _ => ?_⟩
 rw [zs_congr (fun r _ => h r 0), zs_zero]
theorem Part.skip {n : Nat} {free : Bool} {U : List Int} {H : List (List Int)} {j i : Nat} {S : Int} (P : Part n free U H j i S) : Part n free U H j (i + 1) S :=
 ⟨P.len, P.lens, P.ent, P.old, P.new, fun hj r hr hi => P.cur hj r hr (by omega), P.sum⟩
theorem Part.put {n : Nat} {free : Bool} {U : List Int} {H : List (List Int)} {j i : Nat} {S k : Int} {l : List Int} (P : Part n free U H j i S) (hi : i < n) (hj : j < n) (hl : H[i]? = some l) (h0 : 0 ≤ k) (h1 : k ≤ 1000000) : Part n free U (H.set i (l.set j k)) j (i + 1) (S + k) := by
 have hll := P.lens l (List.mem_of_getElem? hl)
 have g := gh_set (k := k) hl (show j < l.length by omega)
 refine ⟨by rw [List.length_set]; exact P.len, fun x hx => ?_, fun r c hr hc => ?_, fun c hc => ?_, fun c h2 h3 r hr => ?_, fun _ r hr h2 => ?_, fun _ => ?_⟩
 ·rcases List.mem_or_eq_of_mem_set hx with h | rfl
  ·exact P.lens x h
  ·rw [List.length_set]; exact hll
 ·rw [g]
  split
  ·exact ⟨h0, h1⟩
  ·exact P.ent r c hr hc
 ·have e : ∀ r, r < n → gh (H.set i (l.set j k)) r c = gh H r c := fun r _ => by rw [g, if_neg (by omega)]
  rw [zs_congr e]
  exact P.old c hc
 ·rw [g, if_neg (by omega)]; exact P.new c h2 h3 r hr
 ·rw [g, if_neg (by omega)]; exact P.cur hj r hr (by omega)
 ·rw [zs_upd (f := fun r => gh H r j) (i := i) hi (fun r _ hne => by rw [g, if_neg (by omega)]), P.sum hj, P.cur hj i hi (Nat.le_refl _), g, if_pos ⟨rfl, rfl⟩]
  omega
theorem Part.next {n : Nat} {free : Bool} {U : List Int} {H : List (List Int)} {j i : Nat} {S : Int} (P : Part n free U H j i S) (hj : j < n) (h : S ≤ gu U j ∧ (free = false → 0 < gu U j → S < gu U j)) : Part n free U H (j + 1) 0 0 := by
 refine ⟨P.len, P.lens, P.ent, fun c hc => ?_, fun c h1 h2 => P.new c (by omega) h2, fun h1 r hr _ => P.new (j + 1) (by omega) h1 r hr, fun h1 => ?_⟩
 ·by_cases e : c = j
  ·subst e; rw [P.sum hj]; exact h
  ·exact P.old c (by omega)
 ·rw [zs_congr (g := fun _ => 0) (fun r hr => P.new (j + 1) (by omega) h1 r hr), zs_zero]
theorem Part.done {n : Nat} {free : Bool} {U : List Int} {H : List (List Int)} (P : Part n free U H n 0 0) (hn : n ≤ 8) (hU : U.length = n) (h0 : ∀ u ∈ U, 0 ≤ u ∧ u ≤ 1000000) : Made free U H := by
 subst hU
 have hu : ∀ i, i < U.length → 0 ≤ gu U i ∧ gu U i ≤ 1000000 := fun i hi => by
  rw [gu_at (List.getElem?_eq_getElem hi)]; exact h0 _ (List.getElem_mem hi)
 refine ⟨⟨⟨hn, P.len⟩, fun i hi => ?_, hn, fun i hi => (hu i hi).1, fun i hi => by have := (hu i hi).2; omega, fun i j hi hj => (P.ent i j hi hj).1, fun i j hi hj => by have := (P.ent i j hi hj).2; omega, fun j hj => (P.old j hj).1⟩, P.lens, fun j hj => (hu j hj).2, fun hf j hj h1 => (P.old j hj).2 hf h1⟩
 have hi2 : i < H.length := by have := P.len; omega
 rw [List.getD_eq_getElem?_getD, List.getElem?_eq_getElem hi2]
 exact P.lens _ (List.getElem_mem hi2)
end Ns
theorem sa_vals (l : List Value) {i : Nat} (v : Value) (h : i < l.length) (hv : v.oneCell' = true) : SA 22 (rowsOf (l.map vc)) i v (rowsOf ((l.set i v).map vc)) := by
 have hs : ∀ c ∈ l.map vc, c.size = 1 := by intro c hc; obtain ⟨x, _, rfl⟩ := List.mem_map.1 hc; rfl
 have h1 : (l.map vc)[i]? = some (vc l[i]) := by rw [List.getElem?_map, List.getElem?_eq_getElem h]; rfl
 have := sa_rowone (T := 22) (n := 1) (a := 0) (l := l.map vc) (k := i) (v := v) (by kernel_rfl) hs h1 (by decide) hv
 rw [Nat.mul_one, Nat.add_zero] at this
 have e : (l.map vc).set i ((vc l[i]).setIfInBounds 0 v) = (l.set i v).map vc := by rw [List.map_set]; rfl
 rw [e] at this
 exact this
theorem la_vals {l : List Value} {i : Nat} {v : Value} (h : l[i]? = some v) : LA 22 (rowsOf (l.map vc)) i v := by
 refine LA.one (by kernel_rfl) ?_
 have hs : ∀ c ∈ l.map vc, c.size = 1 := by intro c hc; obtain ⟨x, _, rfl⟩ := List.mem_map.1 hc; rfl
 have := rows_at hs (k := i) (j := 0) (c := vc v) (by rw [List.getElem?_map, h]; rfl) (by decide)
 rw [Nat.one_mul, Nat.add_zero] at this
 rw [this]; rfl
theorem rv_step {n j br : Nat} {rb : List Nat} (hr : rb.length = j) (hj : j < n) : (rv n rb ++ List.replicate (n - j) (Value.slice none 0 0)).set j (.slice (some ⟨br, 0, none⟩) n n) = rv n (rb ++ [br]) ++ List.replicate (n - (j + 1)) (Value.slice none 0 0) := by
 have hl : (rv n rb).length = j := by simp [rv, hr]
 rw [List.set_append_right _ _ (by omega), hl, Nat.sub_self, show n - j = (n - (j + 1)) + 1 by omega, List.replicate_succ, List.set_cons_zero]
 unfold rv
 rw [List.map_append, List.append_assoc]
 rfl
theorem Mem.ne {w0 w : World} {X : List Nat} {b b' : Nat} {c c' : Array Value} {L : List (Nat × Array Value)} (h : Mem w0 X ((b, c) :: L) w) (hl : Look L b' c') : b ≠ b' := fun e => by
 subst e
 exact (List.nodup_cons.1 h.nod).1 (List.mem_map.2 ⟨_, hl.mem, rfl⟩)
theorem Mem.pushRow {w0 w : World} {X : List Nat} (K : List (Nat × Array Value)) {rows R : List (Nat × Array Value)} {p : Nat × Array Value} (HM : Mem w0 X (p :: (K ++ (rows ++ R))) w) : Mem w0 X (K ++ ((rows ++ [p]) ++ R)) w := by
 refine HM.perm ?_
 rw [List.append_assoc]
 refine List.Perm.trans (List.Perm.append_left K (List.perm_middle (l₁ := rows) (l₂ := R))) ?_
 exact List.perm_middle
theorem za_sl : ZA 22 (vc (.slice none 0 0)) := ⟨.slice none 0 0, rfl, fun w => by kernel_rfl⟩
theorem rep_vals (n : Nat) : List.replicate n (vc (.slice none 0 0)) = (rv n [] ++ List.replicate (n - 0) (Value.slice none 0 0)).map vc := by simp [rv, List.map_replicate]
end Go.Proofs.YtckhdiljihhdmaaGreat
namespace Go.Proofs.YtckhdiljihhdmaaGreat
set_option maxRecDepth 8000
open Go.RowKit
theorem rows_two {α : Type} {l : List α} {i k : Nat} {q : α} (hi : i < l.length) (hk : l[k]? = some q) (hne : k ≠ i) : ∃ rest, ∀ p', (p' :: q :: rest).Perm (l.set i p') := by
 have hm : q ∈ l.eraseIdx i := List.mem_eraseIdx_iff_getElem?.2 ⟨k, hne, hk⟩
 obtain ⟨m, hm2⟩ := List.mem_iff_getElem?.1 hm
 refine ⟨(l.eraseIdx i).eraseIdx m, fun p' => ?_⟩
 have h1 := perm_at (l := l.set i p') (i := i) (p := p') (by rw [List.getElem?_set]; simp [hi])
 rw [List.eraseIdx_set_eq] at h1
 exact (List.Perm.cons _ (perm_at hm2)).trans h1
theorem Mem.openTwo {w0 w : World} {X : List Nat} (K : List (Nat × Array Value)) {rows R : List (Nat × Array Value)} {i k : Nat} {p q : Nat × Array Value} (HM : Mem w0 X (K ++ (rows ++ R)) w) (hi : rows[i]? = some p) (hk : rows[k]? = some q) (hne : k ≠ i) :
    ∃ rest, Mem w0 X (p :: q :: (K ++ (rest ++ R))) w ∧ ∀ p' w', Mem w0 X (p' :: q :: (K ++ (rest ++ R))) w' → Mem w0 X (K ++ (rows.set i p' ++ R)) w' := by
 have hil := (List.getElem?_eq_some_iff.1 hi).1
 obtain ⟨rest, hr⟩ := rows_two hil hk hne
 have key : ∀ p', (p' :: q :: (K ++ (rest ++ R))).Perm (K ++ (rows.set i p' ++ R)) := fun p' => by
  have h1 : (p' :: q :: (K ++ (rest ++ R))).Perm (K ++ ((p' :: q :: rest) ++ R)) := by
   refine List.Perm.trans (List.Perm.cons _ List.perm_middle.symm) ?_
   exact List.perm_middle.symm
  exact h1.trans (List.Perm.append_left K ((hr p').append_right R))
 refine ⟨rest, HM.perm ?_, fun p' w' h => h.perm (key p').symm⟩
 have e : rows.set i p = rows := by
  apply List.ext_getElem?
  intro j
  rw [List.getElem?_set]
  by_cases e : i = j
  ·subst e; rw [if_pos rfl, if_pos hil, hi]
  ·rw [if_neg e]
 have := key p
 rwa [e] at this
def NF (rb : List Nat) (F : Nat → Array Value) : List (Nat × Array Value) := rb.mapIdx fun i b => (b, F i)
theorem NF_at {rb : List Nat} {F : Nat → Array Value} {i b : Nat} (h : rb[i]? = some b) : (NF rb F)[i]? = some (b, F i) := by
 unfold NF; rw [List.getElem?_mapIdx, h]; rfl
theorem NF_len {rb : List Nat} {F : Nat → Array Value} : (NF rb F).length = rb.length := by unfold NF; simp
theorem NF_congr {rb : List Nat} {F G : Nat → Array Value} (h : ∀ i, i < rb.length → F i = G i) : NF rb F = NF rb G := by
 apply List.ext_getElem?
 intro i
 by_cases hi : i < rb.length
 ·have hb : rb[i]? = some rb[i] := List.getElem?_eq_getElem hi
  rw [NF_at hb, NF_at hb, h i hi]
 ·rw [List.getElem?_eq_none (by rw [NF_len]; omega), List.getElem?_eq_none (by rw [NF_len]; omega)]
theorem NF_add {rb : List Nat} {F : Nat → Array Value} (b : Nat) : NF (rb ++ [b]) F = NF rb F ++ [(b, F rb.length)] := by
 unfold NF; rw [List.mapIdx_append]; simp
theorem NF_set {rb : List Nat} {F G : Nat → Array Value} {i b : Nat} (h1 : rb[i]? = some b) (hg : ∀ k, k < rb.length → k ≠ i → G k = F k) : (NF rb F).set i (b, G i) = NF rb G := by
 have hi := (List.getElem?_eq_some_iff.1 h1).1
 apply List.ext_getElem?
 intro j
 rw [List.getElem?_set]
 by_cases e : i = j
 ·subst e; rw [if_pos rfl, if_pos (by rw [NF_len]; exact hi), NF_at h1]
 ·rw [if_neg e]
  by_cases hj : j < rb.length
  ·have hb : rb[j]? = some rb[j] := List.getElem?_eq_getElem hj
   rw [NF_at hb, NF_at hb, hg j hj (fun h => e h.symm)]
  ·rw [List.getElem?_eq_none (by rw [NF_len]; omega), List.getElem?_eq_none (by rw [NF_len]; omega)]
def RdG (s : Nat) (w : World) (sv : Value) (n : Nat) (F : Nat → Nat → Array Value) : Prop := ∃ hv : List Value, RdS 1 w sv (hv.map vc) ∧ hv.length = n ∧ ∀ i, i < n → ∃ v, hv[i]? = some v ∧ RdS s w v (So.ol (F i) n)
theorem ol_len (F : Nat → Array Value) (n : Nat) : (So.ol F n).length = n := by unfold So.ol; simp
theorem ol_congr {F G : Nat → Array Value} {n : Nat} (h : ∀ i, i < n → F i = G i) : So.ol F n = So.ol G n := So.ol_congr h
theorem RdG.form {s : Nat} {w : World} {sv : Value} {n : Nat} {F : Nat → Nat → Array Value} (h : RdG s w sv n F) : ∃ A cap, sv = .slice A n cap := by
 obtain ⟨hv, h1, h2, _⟩ := h
 obtain ⟨A, cap, e⟩ := h1.form1
 rw [List.length_map, h2] at e
 exact ⟨A, cap, e⟩
theorem rdG_own {s : Nat} {w0 w : World} {X : List Nat} {L : List (Nat × Array Value)} {n bh : Nat} {F : Nat → Nat → Array Value} {rb : List Nat} (HM : Mem w0 X L w) (hr : rb.length = n) (hs : ∀ i j, (F i j).size = s)
    (h2 : (bh, rowsOf ((rv n rb).map vc)) ∈ L) (h3 : ∀ q ∈ NF rb (fun i => rowsOf (So.ol (F i) n)), q ∈ L) : RdG s w (.slice (some ⟨bh, 0, none⟩) n n) n F := by
 refine ⟨rv n rb, ?_, by simp [rv, hr], fun i hi => ?_⟩
 ·have h := (SlAt.row (n := 1) bh ((rv n rb).map vc) [] (by intro c hc; rw [List.append_nil] at hc; obtain ⟨x, _, rfl⟩ := List.mem_map.1 hc; rfl)).rd HM (by simpa using h2)
  rw [List.length_nil, Nat.add_zero, List.length_map] at h
  have e : (rv n rb).length = n := by simp [rv, hr]
  rw [e] at h
  exact h
 ·have hb : rb[i]? = some rb[i] := List.getElem?_eq_getElem (by omega)
  refine ⟨_, by unfold rv; rw [List.getElem?_map, hb]; rfl, ?_⟩
  have h := (SlAt.row (n := s) rb[i] (So.ol (F i) n) [] (by
   intro c hc; rw [List.append_nil] at hc
   unfold So.ol at hc
   obtain ⟨x, _, rfl⟩ := List.mem_map.1 hc
   exact hs i x)).rd HM (by simpa using h3 _ (List.mem_of_getElem? (NF_at hb)))
  rw [List.length_nil, Nat.add_zero, ol_len] at h
  exact h
theorem bc_ol (f : Nat → Bool) (n : Nat) : ∀ c ∈ So.ol (fun j => bc (f j)) n, c.size = 1 := by
 intro c hc; unfold So.ol at hc; obtain ⟨x, _, rfl⟩ := List.mem_map.1 hc; rfl
theorem la_bo1 (f : Nat → Bool) {n j : Nat} (hj : j < n) : LA 4 (rowsOf (So.ol (fun j => bc (f j)) n)) j (.bool (f j)) := by
 refine LA.one (by kernel_rfl) ?_
 have := rows_at (bc_ol f n) (k := j) (j := 0) (c := bc (f j)) (So.ol_at _ hj) (by decide)
 rw [Nat.one_mul, Nat.add_zero] at this
 rw [this]; rfl
theorem sa_bo1 (f g : Nat → Bool) {n j : Nat} {v : Bool} (hj : j < n) (hv : g j = v) (hg : ∀ k, k ≠ j → g k = f k) : SA 4 (rowsOf (So.ol (fun j => bc (f j)) n)) j (.bool v) (rowsOf (So.ol (fun j => bc (g j)) n)) := by
 have := sa_rowone (T := 4) (n := 1) (a := 0) (l := So.ol (fun j => bc (f j)) n) (k := j) (v := .bool v) (by kernel_rfl) (bc_ol f n) (So.ol_at _ hj) (by decide) rfl
 rw [Nat.mul_one, Nat.add_zero] at this
 have e : (So.ol (fun j => bc (f j)) n).set j ((bc (f j)).setIfInBounds 0 (.bool v)) = So.ol (fun j => bc (g j)) n := by
  have e2 : (bc (f j)).setIfInBounds 0 (.bool v) = bc (g j) := by rw [hv]; rfl
  rw [e2]
  exact So.ol_set (F := fun j => bc (f j)) (G := fun j => bc (g j)) fun k _ => by
   by_cases e : k = j
   ·subst e; rw [if_pos rfl]
   ·rw [if_neg e, hg k e]
 rw [e] at this
 exact this
theorem za_b : ZA 4 (bc false) := ⟨.bool false, rfl, fun w => by kernel_rfl⟩
theorem za_sb : ZA 116 (vc (.slice none 0 0)) := ⟨.slice none 0 0, rfl, fun w => by kernel_rfl⟩
theorem rep_bools (n : Nat) : List.replicate n (bc false) = So.ol (fun _ => bc false) n := by
 unfold So.ol
 apply List.ext_getElem?
 intro i
 by_cases h : i < n
 ·rw [List.getElem?_replicate, if_pos h, List.getElem?_map, List.getElem?_range h]; rfl
 ·rw [List.getElem?_eq_none (by simp; omega), List.getElem?_eq_none (by simp; omega)]
theorem sa_valsB (l : List Value) {i : Nat} (v : Value) (h : i < l.length) (hv : v.oneCell' = true) : SA 116 (rowsOf (l.map vc)) i v (rowsOf ((l.set i v).map vc)) := by
 have hs : ∀ c ∈ l.map vc, c.size = 1 := by intro c hc; obtain ⟨x, _, rfl⟩ := List.mem_map.1 hc; rfl
 have h1 : (l.map vc)[i]? = some (vc l[i]) := by rw [List.getElem?_map, List.getElem?_eq_getElem h]; rfl
 have := sa_rowone (T := 116) (n := 1) (a := 0) (l := l.map vc) (k := i) (v := v) (by kernel_rfl) hs h1 (by decide) hv
 rw [Nat.mul_one, Nat.add_zero] at this
 have e : (l.map vc).set i ((vc l[i]).setIfInBounds 0 v) = (l.set i v).map vc := by rw [List.map_set]; rfl
 rw [e] at this
 exact this
theorem la_valsB {l : List Value} {i : Nat} {v : Value} (h : l[i]? = some v) : LA 116 (rowsOf (l.map vc)) i v := by
 refine LA.one (by kernel_rfl) ?_
 have hs : ∀ c ∈ l.map vc, c.size = 1 := by intro c hc; obtain ⟨x, _, rfl⟩ := List.mem_map.1 hc; rfl
 have := rows_at hs (k := i) (j := 0) (c := vc v) (by rw [List.getElem?_map, h]; rfl) (by decide)
 rw [Nat.one_mul, Nat.add_zero] at this
 rw [this]; rfl
namespace Ns
open Classical in
noncomputable def pk (h : Nat → Nat → Int) (k i j : Nat) : Bool := decide (Pk h k i j)
theorem pk_iff {h : Nat → Nat → Int} {k i j : Nat} : pk h k i j = true ↔ Pk h k i j := by unfold pk; simp
theorem pk_step {h : Nat → Nat → Int} {k i j : Nat} : pk h (k + 1) i j = (pk h k i j || (pk h k i k && pk h k k j)) := by
 rw [Bool.eq_iff_iff]
 simp only [Bool.or_eq_true, Bool.and_eq_true, pk_iff]
 rfl
theorem pk_col {h : Nat → Nat → Int} {k i : Nat} : pk h (k + 1) i k = pk h k i k := by
 rw [Bool.eq_iff_iff, pk_iff, pk_iff]; exact Pk.col
theorem pk_row {h : Nat → Nat → Int} {k j : Nat} : pk h (k + 1) k j = pk h k k j := by
 rw [Bool.eq_iff_iff, pk_iff, pk_iff]; exact Pk.row
noncomputable def wst (h : Nat → Nat → Int) (k i j : Nat) (a b : Nat) : Bool := if a < i ∨ (a = i ∧ b < j) then pk h (k + 1) a b else pk h k a b
theorem wst_row {h : Nat → Nat → Int} {n k i a b : Nat} (hb : b < n) : wst h k i n a b = wst h k (i + 1) 0 a b := by
 unfold wst
 by_cases e : a < i ∨ (a = i ∧ b < n)
 ·rw [if_pos e, if_pos (by omega)]
 ·rw [if_neg e, if_neg (by omega)]
theorem wst_mat {h : Nat → Nat → Int} {n k a b : Nat} (ha : a < n) : wst h k n 0 a b = wst h (k + 1) 0 0 a b := by
 unfold wst
 rw [if_pos (by omega), if_neg (by omega)]
theorem wst_start {h : Nat → Nat → Int} {a b : Nat} : wst h 0 0 0 a b = (decide (a = b) || decide (0 < h a b)) := by
 unfold wst
 rw [if_neg (by omega), Bool.eq_iff_iff, pk_iff]
 simp only [Bool.or_eq_true, decide_eq_true_eq]
 rfl
theorem wst_new {h : Nat → Nat → Int} {k i j : Nat} : wst h k i (j + 1) i j = (wst h k i j i j || (wst h k i j i k && wst h k i j k j)) := by
 have e1 : wst h k i j i j = pk h k i j := by unfold wst; rw [if_neg (by omega)]
 have e2 : wst h k i j i k = pk h k i k := by
  unfold wst
  by_cases e : k < j
  ·rw [if_pos (by omega), pk_col]
  ·rw [if_neg (by omega)]
 have e3 : wst h k i j k j = pk h k k j := by
  unfold wst
  by_cases e : k < i
  ·rw [if_pos (by omega), pk_row]
  ·rw [if_neg (by omega)]
 have e4 : wst h k i (j + 1) i j = pk h (k + 1) i j := by unfold wst; rw [if_pos (by omega)]
 rw [e1, e2, e3, e4, pk_step]
theorem wst_old {h : Nat → Nat → Int} {k i j a b : Nat} (hne : ¬ (a = i ∧ b = j)) : wst h k i (j + 1) a b = wst h k i j a b := by
 unfold wst
 by_cases e : a < i ∨ (a = i ∧ b < j)
 ·rw [if_pos e, if_pos (by omega)]
 ·rw [if_neg e, if_neg (by omega)]
theorem wst_done {n : Nat} {h : Nat → Nat → Int} {a b : Nat} (ha : a < n) (hb : b < n) : wst h n 0 0 a b = rch n h a b := by
 unfold wst
 rw [if_neg (by omega), Bool.eq_iff_iff, pk_iff, rch_iff]
 exact Pk.iff ha hb
end Ns
end Go.Proofs.YtckhdiljihhdmaaGreat
