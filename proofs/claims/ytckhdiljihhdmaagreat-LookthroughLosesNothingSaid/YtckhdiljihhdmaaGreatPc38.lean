/- Walks, and plain facts for them. -/
import Derived.Test.YtckhdiljihhdmaaGreatPc35
import Derived.Test.YtckhdiljihhdmaaGreatPc36
namespace Go.Proofs.YtckhdiljihhdmaaGreat
set_option maxRecDepth 8000
open Go.RowKit
namespace Lk
theorem lt_eq (a b : List UInt8) : lt a b = decide (a < b) := bytesLess_eq a b
theorem vfrom_sorted : ∀ {l : List H} {last : List UInt8}, vfrom last l = true → (l.map (·.nm.toList)).Pairwise (· < ·) ∧ ∀ h ∈ l, last < h.nm.toList
 | [], _, _ => ⟨.nil, by simp⟩
 | h :: t, last, hv => by
  rw [vfrom] at hv
  simp only [Bool.and_eq_true] at hv
  obtain ⟨h1, h2⟩ := vfrom_sorted hv.2
  have h3 : last < h.nm.toList := by
   have := hv.1.1.2
   rw [lt_eq] at this
   exact of_decide_eq_true this
  refine ⟨List.pairwise_cons.2 ⟨fun s hs => ?_, h1⟩, fun g hg => ?_⟩
  ·obtain ⟨g, hg, rfl⟩ := List.mem_map.1 hs
   exact h2 g hg
  ·rcases List.mem_cons.1 hg with rfl | hg
   ·exact h3
   ·exact lt_tr' h3 (h2 g hg)
theorem val_sorted {l : List H} (h : val l = true) : (l.map (·.nm.toList)).Pairwise (· < ·) := by
 unfold val at h
 rw [Bool.and_eq_true] at h
 exact (vfrom_sorted h.2).1
theorem fold_none (s : List UInt8) : ∀ (l : List H) (a : Int), (∀ h ∈ l, h.nm.toList ≠ s) → l.foldl (fun a h => if (h.nm.toList == s) = true then h.q else a) a = a
 | [], _, _ => rfl
 | g :: l, a, hm => by
  have h1 : (g.nm.toList == s) = false := beq_eq_false_iff_ne.2 (hm g List.mem_cons_self)
  rw [List.foldl_cons, h1]
  exact fold_none s l a (fun h hh => hm h (List.mem_cons_of_mem _ hh))
theorem fold_one (s : List UInt8) : ∀ (l : List H) (a : Int) (h : H), (l.map (·.nm.toList)).Nodup → h ∈ l → h.nm.toList = s → l.foldl (fun a h => if (h.nm.toList == s) = true then h.q else a) a = h.q
 | [], _, _, _, hm, _ => by cases hm
 | g :: l, a, h, hn, hm, e => by
  rw [List.map_cons, List.nodup_cons] at hn
  rw [List.foldl_cons]
  rcases List.mem_cons.1 hm with rfl | hm
  ·rw [e, beq_self_eq_true, if_pos rfl]
   exact fold_none s l _ (fun k hk ek => hn.1 (List.mem_map.2 ⟨k, hk, ek.trans e.symm⟩))
  ·exact fold_one s l _ h hn.2 hm e
theorem nodup_of {l : List (List UInt8)} (h : l.Pairwise (· < ·)) : l.Nodup := h.imp fun {a b} h e => by subst e; exact lt_irr _ h
theorem ql_of {l : List H} (hv : val l = true) {h : H} (hm : h ∈ l) : ql h.nm.toList l = h.q := fold_one _ l 0 h (nodup_of (val_sorted hv)) hm rfl
theorem ql_none {l : List H} {s : List UInt8} (h : ∀ g ∈ l, g.nm.toList ≠ s) : ql s l = 0 := fold_none s l 0 h
theorem sorted_eq {l v : List (List UInt8)} (hl : l.Pairwise (· < ·)) (hv : v.Pairwise (· < ·)) (hm : ∀ x, x ∈ l ↔ x ∈ v) : l = v :=
 (sort_texts (nodup_of hl) hl (fun _ => Iff.rfl)).symm.trans (sort_texts (nodup_of hl) hv hm)
theorem ex_own {U : List Int} {Hs : List (List Int)} {L : List (List H)} (hG : Ns.Good U Hs) (hc : ¬ Ns.Circ U.length (Ns.gu U) (Ns.gh Hs)) (hl : L.length = U.length) (hv : all L = true) {i : Nat} {l : List H} (hi : L[i]? = some l) (hu : 0 < Ns.gu U i) (ha : ∀ j, j < U.length → Ns.gh Hs i j = 0) (s : List UInt8) : ex U Hs L i (Ns.gu U i) s = (ql s l : Rat) := by
 have hit : i < U.length := by rw [← hl]; exact (List.getElem?_eq_some_iff.1 hi).1
 obtain ⟨f, hf, _⟩ := px hG hc hl hv s
 unfold ex
 rw [← pr_eq hG hc hf hit]
 have h1 := Ns.pr_rs hf.1 hit hu
 unfold Sv.rs at h1
 rw [Mx.sm_zero (fun j hj => by rw [ha j hj]; have e : ((0 : Int) : Rat) = 0 := rfl; rw [e, Rat.zero_mul]), qty_at hi s] at h1
 grind
def ol (l : List H) : List Xp := l.map fun h => ⟨h.nm, (h.q : Rat)⟩
theorem own_eq {U : List Int} {Hs : List (List Int)} {L : List (List H)} (hG : Ns.Good U Hs) (hc : ¬ Ns.Circ U.length (Ns.gu U) (Ns.gh Hs)) (hl : L.length = U.length) (hv : all L = true) {i : Nat} {l : List H} (hi : L[i]? = some l) (hu : 0 < Ns.gu U i) (ha : ∀ j, j < U.length → Ns.gh Hs i j = 0) : exps U Hs L i (Ns.gu U i) (names L) = ol l := by
 have hex := ex_own hG hc hl hv hi hu ha
 have hvl := all_at hv hi
 have hsub := exps_sub U Hs L i (Ns.gu U i) (names L)
 have h1 : nmsOf (exps U Hs L i (Ns.gu U i) (names L)) = l.map (·.nm.toList) := by
  refine sorted_eq ((names_sorted L).sublist hsub) (val_sorted hvl) fun x => ⟨fun hx => ?_, fun hx => ?_⟩
  ·obtain ⟨y, hy, rfl⟩ := List.mem_map.1 hx
   obtain ⟨s, _, hs, rfl⟩ := exps_mem hy
   rw [bs_list]
   by_cases hin : ∃ g ∈ l, g.nm.toList = s
   ·obtain ⟨g, hg, e⟩ := hin
    exact List.mem_map.2 ⟨g, hg, e⟩
   ·exfalso
    apply hs
    rw [hex s, ql_none (fun g hg e => hin ⟨g, hg, e⟩)]; rfl
  ·obtain ⟨g, hg, rfl⟩ := List.mem_map.1 hx
   have hne : ex U Hs L i (Ns.gu U i) g.nm.toList ≠ 0 := by
    rw [hex, ql_of hvl hg]
    intro e
    have := (val_in hvl g hg).1
    have : g.q = 0 := by exact_mod_cast Rat.intCast_inj.1 (e.trans (rfl : (0 : Rat) = ((0 : Int) : Rat)))
    omega
   exact List.mem_map.2 ⟨_, mem_exps (mem_names.2 ⟨l, List.mem_of_getElem? hi, g, hg, rfl⟩) hne, bs_list _⟩
 have h2 : exps U Hs L i (Ns.gu U i) (names L) = (nmsOf (exps U Hs L i (Ns.gu U i) (names L))).map (fun s => (⟨bs s, (ql s l : Rat)⟩ : Xp)) := by
  unfold nmsOf
  rw [List.map_map]
  conv => lhs; rw [← List.map_id (exps U Hs L i (Ns.gu U i) (names L))]
  refine List.map_congr_left fun x hx => ?_
  obtain ⟨s, _, _, rfl⟩ := exps_mem hx
  show _ = (⟨bs (bs s).toList, (ql (bs s).toList l : Rat)⟩ : Xp)
  rw [bs_list, hex s]; rfl
 rw [h2, h1, List.map_map]
 unfold ol
 refine List.map_congr_left fun h hh => ?_
 show (⟨bs h.nm.toList, (ql h.nm.toList l : Rat)⟩ : Xp) = _
 rw [bs_of, ql_of hvl hh]
noncomputable def al (U : List Int) (Hs : List (List Int)) (L : List (List H)) (O : List Int) : Nat → List Xp
 | 0 => []
 | i + 1 => al U Hs L O i ++ exps U Hs L i (Ns.gu O i) (names L)
theorem al_len {U : List Int} {Hs : List (List Int)} {L : List (List H)} {O : List Int} {k : Nat} (h : (names L).length ≤ k) : ∀ n, (al U Hs L O n).length ≤ n * k
 | 0 => by simp [al]
 | n + 1 => by
  have ih := al_len (U := U) (Hs := Hs) (O := O) h n
  have h2 := exps_len U Hs L n (Ns.gu O n) (names L)
  rw [al, List.length_append, Nat.succ_mul]; omega
theorem es_al {U : List Int} {Hs : List (List Int)} {L : List (List H)} {O : List Int} {s : List UInt8} (hs : s ∈ names L) : ∀ n, es s 0 (al U Hs L O n) = Mx.sm n fun k => ex U Hs L k (Ns.gu O k) s
 | 0 => rfl
 | n + 1 => by rw [al, es_app, es_al hs n, es_exps (names_nodup L) hs, Mx.sm]
theorem es_al_take {U : List Int} {Hs : List (List Int)} {L : List (List H)} {O : List Int} {s : List UInt8} (hs : s ∈ names L) : ∀ n j, ∃ i, i ≤ n ∧ es s 0 ((al U Hs L O n).take j) = Mx.sm i fun k => ex U Hs L k (Ns.gu O k) s
 | 0, j => ⟨0, Nat.le_refl _, by rw [al, List.take_nil]; rfl⟩
 | n + 1, j => by
  rw [al, List.take_append, es_app]
  by_cases hj : j ≤ (al U Hs L O n).length
  ·obtain ⟨i, hi, e⟩ := es_al_take (U := U) (Hs := Hs) (O := O) hs n j
   rw [Nat.sub_eq_zero_of_le hj, List.take_zero]
   exact ⟨i, Nat.le_succ_of_le hi, e⟩
  ·rw [List.take_of_length_le (by omega), es_al hs n]
   rcases es_exps_take (U := U) (Hs := Hs) (L := L) (i := n) (n := Ns.gu O n) (names_nodup L) s (Mx.sm n fun k => ex U Hs L k (Ns.gu O k) s) (j - (al U Hs L O n).length) with h | h
   ·exact ⟨n, Nat.le_succ n, h⟩
   ·exact ⟨n + 1, Nat.le_refl _, h⟩
theorem outs_at (U : List Int) (Hs : List (List Int)) {i : Nat} (hi : i < U.length) : (outs U Hs)[i]? = some (Ns.gu U i - Ns.zs U.length (fun r => Ns.gh Hs r i)) := by
 unfold outs; rw [List.getElem?_map, List.getElem?_range hi]; rfl
theorem outs_gu (U : List Int) (Hs : List (List Int)) {i : Nat} (hi : i < U.length) : Ns.gu (outs U Hs) i = Ns.gu U i - Ns.zs U.length (fun r => Ns.gh Hs r i) := Ns.gu_at (outs_at U Hs hi)
theorem outs_in {U : List Int} {Hs : List (List Int)} (hG : Ns.Good U Hs) {i : Nat} (hi : i < U.length) : 0 ≤ Ns.gu (outs U Hs) i ∧ Ns.gu (outs U Hs) i ≤ Ns.gu U i := by
 have h := part_bd hG.ok (Nat.le_refl _) hi
 rw [outs_gu U Hs hi]; omega
theorem outs_len' (U : List Int) (Hs : List (List Int)) : (outs U Hs).length = U.length := by simp [outs]
theorem al_mem {U : List Int} {Hs : List (List Int)} {L : List (List H)} {O : List Int} {x : Xp} : ∀ {n : Nat}, x ∈ al U Hs L O n → ∃ i, i < n ∧ x ∈ exps U Hs L i (Ns.gu O i) (names L)
 | 0, h => by cases h
 | n + 1, h => by
  rw [al] at h
  rcases List.mem_append.1 h with h | h
  ·obtain ⟨i, hi, hx⟩ := al_mem h
   exact ⟨i, Nat.lt_succ_of_lt hi, hx⟩
  ·exact ⟨n, Nat.lt_succ_self n, h⟩
theorem al_fit {U : List Int} {Hs : List (List Int)} {L : List (List H)} (hG : Ns.Good U Hs) (hc : ¬ Ns.Circ U.length (Ns.gu U) (Ns.gh Hs)) (hl : L.length = U.length) (hv : all L = true) {x : Xp} (h : x ∈ al U Hs L (outs U Hs) U.length) : Rt.Fit x.q := by
 obtain ⟨i, hi, hx⟩ := al_mem h
 obtain ⟨h0, h1⟩ := outs_in hG hi
 exact exps_fit hG hc hl hv hi h0 h1 _ x hx
theorem sums_fit {U : List Int} {Hs : List (List Int)} {L : List (List H)} (hG : Ns.Good U Hs) (hc : ¬ Ns.Circ U.length (Ns.gu U) (Ns.gh Hs)) (hl : L.length = U.length) (hv : all L = true) (s : List UInt8) {k : Nat} (hk : k ≤ U.length) : Rt.Fit (Mx.sm k fun k => ex U Hs L k (Ns.gu (outs U Hs) k) s) := by
 obtain ⟨f, hf, _⟩ := px hG hc hl hv s
 have hcd := Ns.cd hG.ok hc (qty_abs hv s hl) hf.1
 have h := Ns.cd_sum hcd hG.sh.1 (c := fun i => if i < U.length then Ns.gu (outs U Hs) i else 0) (fun i hi => by
  have h1 := outs_in hG hi
  have h2 := hG.ok.u1 i hi
  show (if i < U.length then Ns.gu (outs U Hs) i else 0).natAbs ≤ _
  rw [if_pos hi]; omega) hk
 have e : Mx.sm k (fun j => ((if j < U.length then Ns.gu (outs U Hs) j else 0 : Int) : Rat) * f j) = Mx.sm k fun k => ex U Hs L k (Ns.gu (outs U Hs) k) s := Mx.sm_congr fun j hj => by
  rw [if_pos (by omega), pr_eq hG hc hf (show j < U.length by omega)]; rfl
 rw [e] at h
 exact h
def held (U : List Int) (L : List (List H)) (s : List UInt8) (n : Nat) : Int := Ns.zs n (Ns.allA (Ns.gu U) (Ns.gu (qty L s)))
theorem total {U : List Int} {Hs : List (List Int)} {L : List (List H)} (hG : Ns.Good U Hs) (hc : ¬ Ns.Circ U.length (Ns.gu U) (Ns.gh Hs)) (hl : L.length = U.length) (hv : all L = true) (s : List UInt8) (h0 : ∀ i, i < U.length → Ns.gu U i = 0 → ∀ j, j < U.length → Ns.gh Hs i j = 0) : (Mx.sm U.length fun k => ex U Hs L k (Ns.gu (outs U Hs) k) s) = (held U L s U.length : Rat) := by
 obtain ⟨f, hf, _⟩ := px hG hc hl hv s
 unfold held
 rw [← Ns.kept hG.ok hf.1]
 refine Mx.sm_congr fun j hj => ?_
 unfold ex
 rw [← pr_eq hG hc hf hj, outs_gu U Hs hj]
 have e : Ns.inn U.length (Ns.gu U) (Ns.gh Hs) j = Ns.zs U.length (fun r => Ns.gh Hs r j) := by
  unfold Ns.inn
  refine Ns.zs_congr fun i hi => ?_
  by_cases hu : 0 < Ns.gu U i
  ·rw [if_pos hu]
  ·rw [if_neg hu]
   have := hG.ok.u0 i hi
   exact (h0 i hi (by omega) j hj).symm
 unfold Ns.lft
 rw [e]
theorem held_in {U : List Int} {L : List (List H)} (hl : L.length = U.length) (hv : all L = true) (s : List UInt8) : ∀ n, n ≤ U.length → 0 ≤ held U L s n ∧ held U L s n ≤ n * 1000000000000000
 | 0, _ => ⟨Int.le_refl _, Int.le_refl _⟩
 | n + 1, hn => by
  have ih := held_in hl hv s n (by omega)
  have hq := qty_in hv s (i := n) (by omega)
  have e : held U L s (n + 1) = held U L s n + Ns.allA (Ns.gu U) (Ns.gu (qty L s)) n := rfl
  unfold Ns.allA at e
  rw [e]
  split <;> omega
theorem held_step (U : List Int) (L : List (List H)) (s : List UInt8) (n : Nat) : held U L s (n + 1) = held U L s n + (if 0 < Ns.gu U n then Ns.gu (qty L s) n else 0) := rfl
end Lk
end Go.Proofs.YtckhdiljihhdmaaGreat
namespace Go.Proofs.YtckhdiljihhdmaaGreat
set_option maxRecDepth 8000
open Go.RowKit
theorem RdN.rowAt {w : World} {us : Value} {U : List Int} {H : List (List Int)} {bh n : Nat} (hR : RdN w us (.slice (some ⟨bh, 0, none⟩) n n) U H) (hG : Ns.Good U H) {i j : Nat} (hi : i < U.length) (hj : j < U.length) : ∃ b off cs A2 cap2 l, Hid (Rbk w b cs) ∧ (some ⟨bh, 0, none⟩ : Option Addr) = some ⟨b, off, none⟩ ∧ LA 22 cs (off + i) (.slice A2 U.length cap2) ∧ l.length = U.length ∧ Hid (RdI w (.slice A2 U.length cap2) l) ∧ l[j]? = some (Ns.gh H i j) := by
 obtain ⟨l, hl, hll⟩ := hG.at_ hi
 obtain ⟨b, off, cs, A2, c2, e, hb, k, h⟩ := hR.h.at_ hl
 rw [hll] at k h
 refine ⟨b, off, cs, A2, c2, l, hb, e, k, hll, h, ?_⟩
 obtain ⟨y, hy⟩ : ∃ y, l[j]? = some y := ⟨_, List.getElem?_eq_getElem (by omega)⟩
 rw [Ns.gh_at hl hy]; exact hy
set_option maxRecDepth 100000 in
set_option maxHeartbeats 16000000 in
theorem lloses_any (A : Option Addr) (xs : List Int) (c0 : Nat) (W : World) (hI : IntsAt W A xs) (hxl : xs.length ≤ 9223372036854775807) :
    Calls Tryz.prog 5 #[.slice A xs.length c0] W fun e w' => e = .returned (.bool true) ∧ Below W.heap.size W w' := by
 have HM := Mem.start W
 have HI := Lib.hid hI
 have zn := za_nest
 clear hI
 go_enter Tryz.func5, Tryz.ntmps5
 go_upto_region 2 with (first | (go_at_call 16; (with_reducible refine (snew_any _ _ _ _).mono ?_); rintro e9 w2 ⟨tb, rfl, HM1⟩; replace HM := HM.join HM1; clear HM1) | (first | ((with_reducible refine g_ld ?_); refine a_ld HM ?_) | ((with_reducible refine g_st ?_); refine a_st HM ?_; clear HM; intro w1 HM) | ((with_reducible refine g_al ?_); refine a_al HM ?_; clear HM; intro bk w1 HM) | ((with_reducible refine g_bld ?_); refine a_bld ?_)))
 replace HM : Mem W [] [(tb, #[Value.slice A xs.length c0, Value.int IntKind.i64 0])] w2 := HM
 have HC : Hid (TapeC W 0 #[.slice A xs.length c0, .int .i64 0]) := ⟨A, xs, c0, 0, rfl, by omega, by omega, HI.out, hxl⟩
 clear HI
 go_upto_region 3 with (first | (go_at_call 17; refine (snest_any 4 false tb 0 _ [] W _ HM HC (by omega) (by omega)).mono ?_; rintro e9 w2 ⟨n, bu, bh, U, H, rb, c1, rfl, hn, hUL, hRL, HMD, HC1, HM1⟩; replace HM := HM1; replace HC := HC1; clear HM1 HC1) | ((with_reducible refine g_st ?_); refine a_st (v := .agg #[_, _]) HM ?_ (hv := sa_nest _ _ rfl rfl); clear HM; intro w1 HM) | (first | ((with_reducible refine g_ld ?_); refine a_ld HM ?_) | ((with_reducible refine g_st ?_); refine a_st HM ?_; clear HM; intro w1 HM) | ((with_reducible refine g_al ?_); refine a_al HM ?_; clear HM; intro bk w1 HM) | ((with_reducible refine g_bld ?_); refine a_bld ?_)))
 obtain ⟨b4, rfl⟩ := HM.nm0
 have n0 := la_n0 (.slice (some ⟨bu, 0, none⟩) n n) (.slice (some ⟨bh, 0, none⟩) n n)
 have n1 := la_n1 (.slice (some ⟨bu, 0, none⟩) n n) (.slice (some ⟨bh, 0, none⟩) n n)
 have n2 := la_nest (.slice (some ⟨bu, 0, none⟩) n n) (.slice (some ⟨bh, 0, none⟩) n n)
 go_upto_region 4 with (first | (go_at_call 18; refine (holdings_any n tb _ c1 ((b4, #[.slice (some ⟨bu, 0, none⟩) n n, .slice (some ⟨bh, 0, none⟩) n n]) :: (bu, rowsOf (U.map ic)) :: (bh, rowsOf ((rv n rb).map vc)) :: (NR rb H ++ [])) W _ HM.pick HC (by omega) (by omega)).mono ?_; rintro e9 w2 ⟨sl, L, rfl, HL, hLL, HLA, HL3, HM1⟩; replace HM := HM1; clear HM1) | (first | ((with_reducible refine g_ld ?_); refine a_ld HM ?_) | ((with_reducible refine g_st ?_); refine a_st HM ?_; clear HM; intro w1 HM) | ((with_reducible refine g_al ?_); refine a_al HM ?_; clear HM; intro bk w1 HM) | ((with_reducible refine g_bld ?_); refine a_bld ?_)))
 subst hUL
 have hN : RdN w2 (.slice (some ⟨bu, 0, none⟩) U.length U.length) (.slice (some ⟨bh, 0, none⟩) U.length U.length) U H := rdN_own HM rfl HMD.out.good.sh.2 hRL HMD.out.lens (by simp) (by simp) (fun q hq => by simp [hq])
 have HN := Lib.hid hN
 have HBX : Hid (Rbk w2 b4 #[.slice (some ⟨bu, 0, none⟩) U.length U.length, .slice (some ⟨bh, 0, none⟩) U.length U.length]) := Lib.hid (HM.get (by ((repeat (first | exact Look.here | refine Look.there ?_)); done))).rbk
 have HB2 := Lib.hid HM.low
 clear hN HM hRL HC HL3
 have HM := Mem.start w2
 have HG := Lib.hid HMD.out.good
 have HNC := Lib.hid (Ns.not_circ HMD.out.good.ok.h0 (HMD.out.out rfl))
 have HCK := Lib.hid (Lk.chk_ok HMD.out.good.good hLL HLA.out)
 have HLL := Lib.hid hLL
 have HOS := Lib.hid (show Lk.osl U H = Lk.outs U H from if_pos HMD.out.good.good)
 have HOC := Lib.hid (HMD.out.good.good.symm : (0 : Int) = Ns.chk U H)
 have hnl := Lk.names_len HLA.out (show L.length ≤ 8 by omega)
 clear HMD hLL
 go_upto_region 5 with (first | (go_at_call 10; refine (outside_any _ _ U H _ (HN.out.below HM.low) 0 HOC).mono ?_; rintro e9 w3 ⟨so, rfl, HO, hL⟩; replace HM := HM.call hL; clear hL) | (first | ((with_reducible refine g_ld ?_); refine a_ld HM ?_) | ((with_reducible refine g_st ?_); refine a_st HM ?_; clear HM; intro w1 HM) | ((with_reducible refine g_al ?_); refine a_al HM ?_; clear HM; intro bk w1 HM) | ((with_reducible refine g_bld ?_); refine a_bld ?_)))
 rw [HOS.out] at HO
 obtain ⟨O, hO⟩ : ∃ O, Hid (O = Lk.outs U H) := ⟨_, Lib.hid rfl⟩
 rw [← hO.out] at HO
 have hOL : O.length = U.length := by rw [hO.out]; exact Lk.outs_len' U H
 have HB3 := Lib.hid (below_seq HB2.out HM.low)
 have HN3 := Lib.hid (HN.out.below HM.low)
 have HL3 := Lib.hid (HL.out.below HM.low)
 have HBX3 := Lib.hid (HBX.out.below HM.low HBX.out.lt)
 obtain ⟨Ao, co, rfl⟩ := HO.out.form
 rw [hOL] at HO
 rw [hOL]
 clear HM HN HL HBX HB2 HOS HOC hOL
 have HM := Mem.start w3
 obtain ⟨Al, cl, rfl⟩ := HL3.out.form
 rw [HLL.out] at HL3
 rw [HLL.out]
 have elx : elemB 29 52 67 280 = true := by kernel_rfl
 have hone : ∀ X : List Xp, ∀ c ∈ X.map Xp.c, c.all (·.oneCell') = true := Xp.ones
 have HONE := Lib.hid hone
 clear hone
 go_wp2_with (first | ((with_reducible refine g_ld ?_); refine a_ld HM ?_) | ((with_reducible refine g_st ?_); refine a_st HM ?_; clear HM; intro w1 HM) | ((with_reducible refine g_al ?_); refine a_al HM ?_; clear HM; intro bk w1 HM) | ((with_reducible refine g_bld ?_); refine a_bld ?_))
 go_loopw [8, 9] (fun ov iv wr => ∃ (i : Nat) (sx : Value) (B : List (Nat × Array Value)), sx = ov ∧ iv = .int .i64 (i : Nat) ∧ i ≤ U.length ∧ Hid (SlAt 67 sx ((Lk.al U H L O i).map Xp.c) B) ∧ Hid (∀ i', i' < i → Ns.gu U i' = 0 → ∀ j, j < U.length → Ns.gh H i' j = 0) ∧ Mem w3 [] B wr) (fun _ iv _ => U.length - (intOf iv).toNat)
 case atStart => exact ⟨0, _, [], rfl, rfl, by omega, Lib.hid SlAt.nil, Lib.hid (fun i' h => absurd h (by omega)), HM⟩
 case round =>
  clear HM
  obtain ⟨i, sx, B, rfl, rfl, hi, HSX, HZR, HM⟩ := hrel
  by_cases hlt : i < U.length
  ·have hlt1 : (i : Int) < U.length := by omega
   obtain ⟨u, hu⟩ : ∃ u, U[i]? = some u := ⟨_, List.getElem?_eq_getElem hlt⟩
   have HU := Lib.hid (Ns.gu_at hu)
   have hu0 := HG.out.ok.u0 i hlt
   have hu1 := HG.out.ok.u1 i hlt
   rw [HU.out] at hu0 hu1
   obtain ⟨bU, offU, csU, e, HBU, ku⟩ := HN3.out.u.at_ hu
   injection e with e
   injection e with e1 e2
   subst e1 e2
   rw [Nat.zero_add] at ku
   obtain ⟨o, ho⟩ : ∃ o, Hid (o = Ns.gu O i) := ⟨_, Lib.hid rfl⟩
   have hoi := Lk.outs_in HG.out hlt
   rw [← hO.out, ← ho.out, HU.out] at hoi
   obtain ⟨ho0, ho1⟩ := hoi
   have hoat : O[i]? = some o := by rw [ho.out, hO.out, Lk.outs_gu U H hlt]; exact Lk.outs_at U H hlt
   obtain ⟨bO, offO, csO, eO, HBO, ko⟩ := HO.out.at_ hoat
   subst eO
   have hr1 : Hid (0 = Lk.lerr U H L i o) := Lib.hid (Lk.lerr_ok HCK.out hlt ho0 (by rw [HU.out]; exact ho1) HNC.out).symm
   have hr2 : Hid (0 = Lk.lerr U H L i u) := Lib.hid (Lk.lerr_ok HCK.out hlt hu0 (by rw [HU.out]; omega) HNC.out).symm
   have S1 := Lib.hid fun w' hB => look_any _ _ _ U H L i o w' (HN3.out.below hB) (HL3.out.below hB) 0 hr1
   have S2 := Lib.hid fun w' hB => look_b _ _ _ U H L i u w' (HN3.out.below hB) (HL3.out.below hB) 0 hr2
   rw [Lk.xps_ok HCK.out hlt ho0 (by rw [HU.out]; exact ho1) HNC.out] at S1
   rw [Lk.xps_ok HCK.out hlt hu0 (by rw [HU.out]; omega) HNC.out] at S2
   obtain ⟨X1, hX1⟩ : ∃ X, Hid (X = Lk.exps U H L i o (Lk.names L)) := ⟨_, Lib.hid rfl⟩
   obtain ⟨X2, hX2⟩ : ∃ X, Hid (X = Lk.exps U H L i u (Lk.names L)) := ⟨_, Lib.hid rfl⟩
   rw [← hX1.out] at S1
   rw [← hX2.out] at S2
   have hAL := Lk.al_len (U := U) (Hs := H) (O := O) hnl i
   have hXL : X1.length ≤ 512 := by rw [hX1.out]; exact Nat.le_trans (Lk.exps_len U H L i o _) hnl
   have hcap : (((Lk.al U H L O i).map Xp.c).length + (X1.map Xp.c).length) * (280 + 1) ≤ 140737488355328 := by
    rw [List.length_map, List.length_map]
    have := HG.out.sh.1
    omega
   have HNX : Hid ((Lk.al U H L O (i + 1)).map Xp.c = (Lk.al U H L O i).map Xp.c ++ X1.map Xp.c) := Lib.hid (by
    rw [Lk.al, List.map_append, hX1.out, ← ho.out])
   clear hr1 hr2 hoat hX1 hAL hXL hu
   go_upto_region 11 with (first | ((with_reducible refine g_ld ?_); refine a_ld HM ?_) | ((with_reducible refine g_st ?_); refine a_st HM ?_; clear HM; intro w1 HM) | ((with_reducible refine g_al ?_); refine a_al HM ?_; clear HM; intro bk w1 HM) | ((with_reducible refine g_bld ?_); refine a_bld ?_))
   refine start_M [] HM (by kernel_rfl) (fun w0x H9 => ?_)
   replace HM := H9; clear H9
   refine k_ld 0 [] (heldF HM) ?_
   refine k_mv 1 (heldF HM) ?_
   refine k_mv 2 (heldF HM) ?_
   refine k_mv 3 (heldF HM) ?_
   refine k_mv 4 (heldF HM) ?_
   refine k_ia 5 (heldF HM) ?_
   refine k_ld 6 [] (heldF HM) ?_
   refine j_one 7 fun K9 hK9 => ?_
   refine o_callg (S1.out _ HM.low) rfl ?_ ?_; (focus (refine h_call4 (ts := ?_) (x1 := ?_) (x2 := ?_) (x3 := ?_) (x4 := ?_) ?_ (by kernel_rfl) ?_ ?_ ?_ ?_; rotate_left 5; (focus rfl); (focus rfl); (focus rfl); (focus rfl); rfl)); rintro e9 w5 ⟨s1, rfl, HX1, hL⟩; replace HM := HM.call hL; clear hL; refine ⟨_, rfl, ?_⟩
   refine hK9 _ _ (heldF HM) ?_; clear hK9 K9; ((try simp only [List.setIfInBounds_toArray]); (try simp only [List.set_cons_succ]); (try simp only [List.set_cons_zero]))
   refine k_mv 8 (heldF HM) ?_
   refine k_ext 9 (heldF HM) ?_
   refine k_ext 10 (heldF HM) ?_
   refine k_mv 11 (heldF HM) ?_
   refine k_mv 12 (heldF HM) ?_
   refine wpAnyL_done (by kernel_rfl) ?_ _
   go_upto_region 12 with fail
   have HP1 := Lib.hid fun w' (hB : Below w5.heap.size w5 w') => (HX1.out.below hB : RdX w' s1 X1)
   have HK5 := Lib.hid HM
   have HN5 := Lib.hid (HN3.out.below HM.low)
   have HL5 := Lib.hid (HL3.out.below HM.low)
   have HBX5 := Lib.hid (HBX3.out.below HM.low HBX3.out.lt)
   have HBU5 := Lib.hid (HBU.out.below HM.low HBU.out.lt)
   have S25 := Lib.hid fun w' (hB : Below w5.heap.size w5 w') => S2.out w' (below_seq HM.low hB)
   clear HM HX1
   have HM := Mem.start w5
   refine start_M [] HM (by kernel_rfl) (fun w0x H9 => ?_)
   replace HM := H9; clear H9
   refine k_ld 0 [] (heldF HM) ?_
   refine k_mv 1 (heldF HM) ?_
   refine k_mv 2 (heldF HM) ?_
   refine k_fa 3 (heldF HM) ?_
   refine k_ld 4 [] (heldF HM) ?_
   refine k_mv 5 (heldF HM) ?_
   refine k_ia 6 (heldF HM) ?_
   refine k_ld 7 [] (heldF HM) ?_
   refine j_one 8 fun K9 hK9 => ?_
   refine o_callg (S25.out _ HM.low) rfl ?_ ?_; (focus (refine h_call4 (ts := ?_) (x1 := ?_) (x2 := ?_) (x3 := ?_) (x4 := ?_) ?_ (by kernel_rfl) ?_ ?_ ?_ ?_; rotate_left 5; (focus rfl); (focus rfl); (focus rfl); (focus rfl); rfl)); rintro e9 w6 ⟨s2, Bo, rfl, HX2, hJ⟩; replace HM := HM.join hJ; clear hJ; refine ⟨_, rfl, ?_⟩
   refine hK9 _ _ (heldF HM) ?_; clear hK9 K9; ((try simp only [List.setIfInBounds_toArray]); (try simp only [List.set_cons_succ]); (try simp only [List.set_cons_zero]))
   refine k_mv 9 (heldF HM) ?_
   refine k_ext 10 (heldF HM) ?_
   refine k_ext 11 (heldF HM) ?_
   refine k_mv 12 (heldF HM) ?_
   refine k_mv 13 (heldF HM) ?_
   refine wpAnyL_done (by kernel_rfl) ?_ _
   have HJ : Mem w5 [] Bo _ := HM.pk (by exact Pk.pre _ _)
   have HX1 := Lib.hid (HP1.out _ HJ.low)
   replace HM := (HK5.out.join HJ).perm (List.perm_append_comm (l₁ := B) (l₂ := Bo))
   clear HP1 HK5 HJ HN5 HL5 HBX5 HBU5 S25 S1 S2
   go_upto_region 16 with (first | ((with_reducible refine g_app ?_); refine a_app (m := X1.map Xp.c) (F := fun X => X ++ Bo) HM HSX.out HX1.out ?_ (HONE.out X1) (hlen := hcap); clear HM; intro s9 B9 w9 HS9 HM) | (first | ((with_reducible refine g_ld ?_); refine a_ld HM ?_) | ((with_reducible refine g_st ?_); refine a_st HM ?_; clear HM; intro w1 HM) | ((with_reducible refine g_al ?_); refine a_al HM ?_; clear HM; intro bk w1 HM) | ((with_reducible refine g_bld ?_); refine a_bld ?_)))
   rw [← HNX.out] at HS9
   have HSX9 := Lib.hid HS9
   have HK9 := Lib.hid HM
   have HXO := Lib.hid (HX2.out.rd HM (fun p hp => by simp [hp]))
   have HN9 := Lib.hid (HN3.out.below HM.low)
   have HL9 := Lib.hid (HL3.out.below HM.low)
   have HBX9 := Lib.hid (HBX3.out.below HM.low HBX3.out.lt)
   have HBU9 := Lib.hid (HBU.out.below HM.low HBU.out.lt)
   have HB9 := Lib.hid (below_seq HB3.out HM.low)
   clear HS9 HM HX1 HX2 HSX hcap HNX
   have HM := Mem.start w9
   obtain ⟨l, hl⟩ : ∃ l, L[i]? = some l := ⟨_, List.getElem?_eq_getElem (by rw [HLL.out]; exact hlt)⟩
   have HLI := Lib.hid hl
   go_wp2_with (first | ((with_reducible refine g_ld ?_); refine a_ld HM ?_) | ((with_reducible refine g_st ?_); refine a_st HM ?_; clear HM; intro w1 HM) | ((with_reducible refine g_al ?_); refine a_al HM ?_; clear HM; intro bk w1 HM) | ((with_reducible refine g_bld ?_); refine a_bld ?_))
   go_loopw [14, 15] (fun av jv wr => ∃ (j : Nat) (al : Bool), av = .bool al ∧ jv = .int .i64 (j : Nat) ∧ j ≤ U.length ∧ Hid (al = true → ∀ j', j' < j → Ns.gh H i j' = 0) ∧ Hid (u = 0 → ∀ j', j' < j → Ns.gh H i j' = 0) ∧ Mem w9 [] [] wr) (fun _ jv _ => U.length - (intOf jv).toNat)
   case atStart => exact ⟨0, true, rfl, rfl, by omega, Lib.hid (fun _ j' h => absurd h (by omega)), Lib.hid (fun _ j' h => absurd h (by omega)), HM⟩
   case round =>
    clear HM
    obtain ⟨j, al, rfl, rfl, hj, HA1, HA2, HM⟩ := hrel
    by_cases hjt : j < U.length
    ·have hjt1 : (j : Int) < U.length := by omega
     obtain ⟨b7, off7, cs7, A7, c7, row, HB7, e7, k7, hrl, HRW, hy⟩ := HN9.out.rowAt HG.out hlt hjt
     injection e7 with e7
     injection e7 with e1 e2
     subst e1 e2
     rw [Nat.zero_add] at k7
     obtain ⟨y, hy2⟩ : ∃ y, Hid (y = Ns.gh H i j) := ⟨_, Lib.hid rfl⟩
     rw [← hy2.out] at hy
     rw [← hrl] at HRW k7
     obtain ⟨b8, off8, cs8, rfl, HB8, k8⟩ := HRW.out.at_ hy
     rw [hrl] at k7
     have hy0 := HG.out.ok.h0 i j hlt hjt
     rw [← hy2.out] at hy0
     clear hy
     by_cases hyp : 0 < y
     ·by_cases hu00 : u = 0
      ·have g1 : (u == 0) = true := by rw [hu00]; rfl
       clear hu00
       go_wp2_with (first | (go_at_call 7; ((with_reducible refine (awake36_any _).mono ?_); rintro e9 w2 ⟨rfl, hL⟩; replace HM := HM.call hL; clear hL)) | (first | ((with_reducible refine g_ld ?_); refine a_ld HM ?_) | ((with_reducible refine g_st ?_); refine a_st HM ?_; clear HM; intro w1 HM) | ((with_reducible refine g_al ?_); refine a_al HM ?_; clear HM; intro bk w1 HM) | ((with_reducible refine g_bld ?_); refine a_bld ?_)))
       go_ret
       exact ⟨rfl, below_seq HB9.out HM.low⟩
      ·have g1 : (u == 0) = false := beq_eq_false_iff_ne.2 hu00
       have HA3 : Hid (u = 0 → ∀ j', j' < j + 1 → Ns.gh H i j' = 0) := Lib.hid (fun h => absurd h hu00)
       clear hu00
       go_wp2_with (first | ((with_reducible refine g_ld ?_); refine a_ld HM ?_) | ((with_reducible refine g_st ?_); refine a_st HM ?_; clear HM; intro w1 HM) | ((with_reducible refine g_al ?_); refine a_al HM ?_; clear HM; intro bk w1 HM) | ((with_reducible refine g_bld ?_); refine a_bld ?_))
       go_roundw
       case rel => exact ⟨j + 1, false, rfl, by go_num, by omega, Lib.hid (fun h => by cases h), HA3, HM⟩
       case measure => simp [intOf]; omega
     ·have hyz : Ns.gh H i j = 0 := by rw [← hy2.out]; omega
      have HA3 : Hid (al = true → ∀ j', j' < j + 1 → Ns.gh H i j' = 0) := Lib.hid (fun h j' h2 => by
       by_cases e : j' = j
       ·subst e; exact hyz
       ·exact HA1.out h j' (by omega))
      have HA4 : Hid (u = 0 → ∀ j', j' < j + 1 → Ns.gh H i j' = 0) := Lib.hid (fun h j' h2 => by
       by_cases e : j' = j
       ·subst e; exact hyz
       ·exact HA2.out h j' (by omega))
      clear hyz
      go_wp2_with (first | ((with_reducible refine g_ld ?_); refine a_ld HM ?_) | ((with_reducible refine g_st ?_); refine a_st HM ?_; clear HM; intro w1 HM) | ((with_reducible refine g_al ?_); refine a_al HM ?_; clear HM; intro bk w1 HM) | ((with_reducible refine g_bld ?_); refine a_bld ?_))
      go_roundw
      case rel => exact ⟨j + 1, al, rfl, by go_num, by omega, HA3, HA4, HM⟩
      case measure => simp [intOf]; omega
    ·obtain rfl : j = U.length := by omega
     have HZ2 : Hid (∀ i', i' < i + 1 → Ns.gu U i' = 0 → ∀ j, j < U.length → Ns.gh H i' j = 0) := Lib.hid (fun i' h1 h2 j h3 => by
      by_cases e : i' = i
      ·subst e; exact HA2.out (by rw [← HU.out]; exact h2) j h3
      ·exact HZR.out i' (by omega) h2 j h3)
     have fin : ∀ wr', Mem w9 [] [] wr' → Mem w3 [] B9 wr' := fun wr' h => (HK9.out.join h).pk (by exact Pk.pre _ _)
     have FIN := Lib.hid fin
     clear fin
     cases al with
     | false =>
      go_wp2_with (first | ((with_reducible refine g_ld ?_); refine a_ld HM ?_) | ((with_reducible refine g_st ?_); refine a_st HM ?_; clear HM; intro w1 HM) | ((with_reducible refine g_al ?_); refine a_al HM ?_; clear HM; intro bk w1 HM) | ((with_reducible refine g_bld ?_); refine a_bld ?_))
      go_roundw
      case rel => exact ⟨i + 1, _, B9, rfl, by go_num, by omega, HSX9, HZ2, FIN.out _ HM⟩
      case measure => simp [intOf]; omega
     | true =>
      by_cases hup : 0 < u
      case neg =>
       have g2 : decide (0 < u) = false := decide_eq_false hup
       go_wp2_with (first | ((with_reducible refine g_ld ?_); refine a_ld HM ?_) | ((with_reducible refine g_st ?_); refine a_st HM ?_; clear HM; intro w1 HM) | ((with_reducible refine g_al ?_); refine a_al HM ?_; clear HM; intro bk w1 HM) | ((with_reducible refine g_bld ?_); refine a_bld ?_))
       go_roundw
       case rel => exact ⟨i + 1, _, B9, rfl, by go_num, by omega, HSX9, HZ2, FIN.out _ HM⟩
       case measure => simp [intOf]; omega
      case pos =>
       have e2 : X2 = Lk.ol l := by
        rw [hX2.out, ← HU.out]
        exact Lk.own_eq HG.out HNC.out HLL.out HLA.out HLI.out (by rw [HU.out]; exact hup) (HA1.out rfl)
       have hol : (Lk.ol l).length = l.length := by unfold Lk.ol; rw [List.length_map]
       have HXL : Hid (RdX w9 s2 (Lk.ol l)) := Lib.hid (by rw [← e2]; exact HXO.out)
       obtain ⟨A5, c5, rfl⟩ := HXL.out.form
       rw [hol] at HXL
       rw [hol]
       obtain ⟨b6, off6, cs6, A6, c6, e6, HB6, k6, HLO⟩ := HL9.out.at_ HLI.out
       subst e6
       have hl64 := Lk.val_len (Lk.all_at HLA.out HLI.out)
       have HQB := Lib.hid (Lk.val_in (Lk.all_at HLA.out HLI.out))
       clear hl e2 hol
       go_wp2_with (first | ((with_reducible refine g_ld ?_); refine a_ld HM ?_) | ((with_reducible refine g_st ?_); refine a_st HM ?_; clear HM; intro w1 HM) | ((with_reducible refine g_al ?_); refine a_al HM ?_; clear HM; intro bk w1 HM) | ((with_reducible refine g_bld ?_); refine a_bld ?_))
       go_loopw [16] (fun kv wr => ∃ k : Nat, kv = .int .i64 (k : Nat) ∧ k ≤ l.length ∧ Mem w9 [] [] wr) (fun kv _ => l.length - (intOf kv).toNat)
       case atStart => exact ⟨0, rfl, by omega, HM⟩
       case round =>
        clear HM
        obtain ⟨k, rfl, hk, HM⟩ := hrel
        by_cases hkt : k < l.length
        ·have hkt1 : (k : Int) < l.length := by omega
         obtain ⟨h, hh⟩ : ∃ h, l[k]? = some h := ⟨_, List.getElem?_eq_getElem hkt⟩
         obtain ⟨b8, off8, cs8, rfl, HB8, -, q1, q2⟩ := HLO.out.at_ hh
         obtain ⟨x, hx⟩ : ∃ x : Rat, Hid (x = (h.q : Rat)) := ⟨_, Lib.hid rfl⟩
         have hxa : (Lk.ol l)[k]? = some ⟨h.nm, x⟩ := by unfold Lk.ol; rw [List.getElem?_map, hh, hx.out]; rfl
         obtain ⟨b9, off9, cs9, rfl, HB9x, q3, -, -⟩ := HXL.out.at_ hxa
         obtain ⟨hq0, hq1⟩ := HQB.out h (List.mem_of_getElem? hh)
         have fx : Rt.Fit x := by rw [hx.out]; exact Lk.int_fit (by omega)
         have IT := fun w => int_ex h.q x (by omega) (by omega) hx w
         have fA := Ex.fA x
         have HBD := fun w => Xp.build ⟨h.nm, x⟩ w
         have E := Xp.eq_self ⟨h.nm, x⟩ fx
         clear hh hxa
         go_upto_region 30 with (first | ((with_reducible refine g_ld ?_); refine a_ld HM ?_) | ((with_reducible refine g_st ?_); refine a_st HM ?_; clear HM; intro w1 HM) | ((with_reducible refine g_al ?_); refine a_al HM ?_; clear HM; intro bk w1 HM) | ((with_reducible refine g_bld ?_); refine a_bld ?_))
         refine start_M [] HM (by kernel_rfl) (fun w0x H9 => ?_)
         replace HM := H9; clear H9
         refine k_mv 0 (heldE HM) ?_
         refine k_mv 1 (heldE HM) ?_
         refine k_ia 2 (heldE HM) ?_
         refine k_ld 3 [] (heldE HM) ?_
         refine k_mv 4 (heldE HM) ?_
         refine k_mv 5 (heldE HM) ?_
         refine k_ia 6 (heldE HM) ?_
         refine k_ld 7 [] (heldE HM) ?_
         refine k_mv 8 (heldE HM) ?_
         refine k_ia 9 (heldE HM) ?_
         refine k_fa 10 (heldE HM) ?_
         refine k_ld 11 [] (heldE HM) ?_
         refine k_mv 12 (heldE HM) ?_
         refine k_mv 13 (heldE HM) ?_
         refine k_ia 14 (heldE HM) ?_
         refine k_ld 15 [] (heldE HM) ?_
         refine k_mv 16 (heldE HM) ?_
         refine k_ia 17 (heldE HM) ?_
         refine k_fa 18 (heldE HM) ?_
         refine k_ld 19 [] (heldE HM) ?_
         refine j_one 20 fun K9 hK9 => ?_
         refine j_call1 (v := ?_) HM ?_ ?_; rotate_left 1; (focus (with_reducible (exact IT _))); clear HM; intro w1 HM
         refine hK9 _ _ (heldE HM) ?_; clear hK9 K9
         refine t_pure (i := 21) (v := .agg (Rt.qA x)) rfl rfl (by kernel_rfl) (fun _ _ _ h => h) (heldE HM) (by rfl) ?_ ?_; (focus (refine h_fld rfl ?_ Ex.und (by kernel_rfl) fA; ((conv => lhs; whnf) <;> rfl))); ((try simp only [List.setIfInBounds_toArray]); (try simp only [List.set_cons_succ]); (try simp only [List.set_cons_zero]))
         refine t_pure (i := 22) (v := .agg (Xp.c ⟨h.nm, x⟩)) rfl rfl (by kernel_rfl) (fun _ _ _ h => h) (heldE HM) (by rfl) ?_ ?_; (focus (exact h_bl2 rfl (by (conv => lhs; whnf) <;> rfl) (by (conv => lhs; whnf) <;> rfl) HBD)); ((try simp only [List.setIfInBounds_toArray]); (try simp only [List.set_cons_succ]); (try simp only [List.set_cons_zero]))
         refine t_eq (i := 23) (v := ?_) [] rfl rfl rfl (by kernel_rfl) (fun _ _ _ h => h) (heldE HM) ?_ ?_; rotate_left 1; (focus ((refine y_cmps .neq false (.inr rfl) (E) rfl (by kernel_rfl) (x := ?_) (y := ?_) (t := ?_) ?_ ?_ ?_ ?_; rotate_left 3; (focus rfl); (focus rfl); (focus ((conv => lhs; whnf) <;> rfl)); ((conv => lhs; whnf) <;> rfl)))); ((try simp only [List.setIfInBounds_toArray]); (try simp only [List.set_cons_succ]); (try simp only [List.set_cons_zero]))
         refine wpAnyL_done (by kernel_rfl) ?_ _
         go_wp2_with (first | ((with_reducible refine g_ld ?_); refine a_ld HM ?_) | ((with_reducible refine g_st ?_); refine a_st HM ?_; clear HM; intro w1 HM) | ((with_reducible refine g_al ?_); refine a_al HM ?_; clear HM; intro bk w1 HM) | ((with_reducible refine g_bld ?_); refine a_bld ?_))
         go_roundw
         case rel => exact ⟨k + 1, by go_num, by omega, HM⟩
         case measure => simp [intOf]; omega
        ·obtain rfl : k = l.length := by omega
         go_wp2_with (first | ((with_reducible refine g_ld ?_); refine a_ld HM ?_) | ((with_reducible refine g_st ?_); refine a_st HM ?_; clear HM; intro w1 HM) | ((with_reducible refine g_al ?_); refine a_al HM ?_; clear HM; intro bk w1 HM) | ((with_reducible refine g_bld ?_); refine a_bld ?_))
         go_roundw
         case rel => exact ⟨i + 1, _, B9, rfl, by go_num, by omega, HSX9, HZ2, FIN.out _ HM⟩
         case measure => simp [intOf]; omega
  ·obtain rfl : i = U.length := by omega
   have HXA := Lib.hid (HSX.out.rd HM (fun p hp => hp))
   obtain ⟨XA, hXA⟩ : ∃ X, Hid (X = Lk.al U H L O U.length) := ⟨_, Lib.hid rfl⟩
   have HXAR : Hid (RdX wr sx XA) := Lib.hid (by rw [hXA.out]; exact HXA.out)
   have hXL : XA.length ≤ 100000 := by
    rw [hXA.out]
    have h1 := Lk.al_len (U := U) (Hs := H) (O := O) hnl U.length
    have := HG.out.sh.1
    have : U.length * 512 ≤ 8 * 512 := Nat.mul_le_mul_right _ this
    omega
   have HN4 := Lib.hid (HN3.out.below HM.low)
   have HL4 := Lib.hid (HL3.out.below HM.low)
   have HBX4 := Lib.hid (HBX3.out.below HM.low HBX3.out.lt)
   have HB4 := Lib.hid (below_seq HB3.out HM.low)
   obtain ⟨Ax, cx, rfl⟩ := HXAR.out.form
   clear HM HXA HSX HN3 HL3 HBX3 HB3 HO
   have HM := Mem.start wr
   obtain ⟨N, hN⟩ : ∃ N, Hid (N = Lk.names L) := ⟨_, Lib.hid rfl⟩
   rw [← hN.out] at hnl
   have hl8 : L.length ≤ 8 := by rw [HLL.out]; exact HG.out.sh.1
   have hla := HLA.out
   go_upto_region 33 with (first | (go_at_call 21; refine (instruments_n _ L N hN _ (HL4.out.below HM.low) hl8 hla).mono ?_; rintro e9 w7 ⟨sn, rfl, HRN, hB7⟩; obtain ⟨An, cn, rfl⟩ := HRN.out.formW; replace HM := HM.call hB7; clear hB7) | (first | ((with_reducible refine g_ld ?_); refine a_ld HM ?_) | ((with_reducible refine g_st ?_); refine a_st HM ?_; clear HM; intro w1 HM) | ((with_reducible refine g_al ?_); refine a_al HM ?_; clear HM; intro bk w1 HM) | ((with_reducible refine g_bld ?_); refine a_bld ?_)))
   have HX7 := Lib.hid (HXAR.out.below HM.low)
   have HN7 := Lib.hid (HN4.out.below HM.low)
   have HL7 := Lib.hid (HL4.out.below HM.low)
   have HBX7 := Lib.hid (HBX4.out.below HM.low HBX4.out.lt)
   have HB7 := Lib.hid (below_seq HB4.out HM.low)
   clear HM HXAR HN4 HL4 HBX4 HB4
   have HM := Mem.start w7
   have zr := Ex.za
   have s0 := Ex.sa0 0
   have I0 := fun w => int_ex 0 0 (by decide) (by decide) (Lib.hid rfl) w
   go_wp2_with (first | ((with_reducible refine g_ld ?_); refine a_ld HM ?_) | ((with_reducible refine g_st ?_); refine a_st HM ?_; clear HM; intro w1 HM) | ((with_reducible refine g_al ?_); refine a_al HM ?_; clear HM; intro bk w1 HM) | ((with_reducible refine g_bld ?_); refine a_bld ?_))
   go_loopw [18] (fun kv wr => ∃ k : Nat, kv = .int .i64 (k : Nat) ∧ k ≤ N.length ∧ Mem w7 [] [] wr) (fun kv _ => N.length - (intOf kv).toNat)
   case atStart => exact ⟨0, rfl, by omega, HM⟩
   case round =>
    clear HM
    obtain ⟨k, rfl, hk, HM⟩ := hrel
    by_cases hkt : k < N.length
    ·have hkt1 : (k : Int) < N.length := by omega
     obtain ⟨s, hs⟩ : ∃ s, N[k]? = some s := ⟨_, List.getElem?_eq_getElem hkt⟩
     obtain ⟨b3, off3, cs3, rfl, HB3, k3⟩ := HRN.out.atW hs
     have hsm : s ∈ Lk.names L := by rw [← hN.out]; exact List.mem_of_getElem? hs
     have HFS : Hid (∀ j, Rt.Fit (Lk.es s 0 (XA.take j))) := Lib.hid (fun j => by
      rw [hXA.out]
      obtain ⟨i, hi, e⟩ := Lk.es_al_take (U := U) (Hs := H) (O := O) hsm U.length j
      rw [e, hO.out]
      exact Lk.sums_fit HG.out HNC.out HLL.out HLA.out s hi)
     have HTOT : Hid (Lk.es s 0 XA = (Lk.held U L s U.length : Rat)) := Lib.hid (by
      rw [hXA.out, Lk.es_al hsm, hO.out]
      exact Lk.total HG.out HNC.out HLL.out HLA.out s HZR.out)
     have HFX : Hid (∀ x ∈ XA, x.nm.toList = s → Rt.Fit x.q) := Lib.hid (fun x hx e => Lk.al_fit HG.out HNC.out HLL.out HLA.out (hO.out ▸ hXA.out ▸ hx))
     have hbl := Lk.bs_list s
     obtain ⟨sb, HSB⟩ : ∃ sb, Hid (sb = Lk.bs s) := ⟨_, Lib.hid rfl⟩
     rw [← HSB.out] at hbl k3
     have HBL := Lib.hid hbl
     clear hbl
     clear hs hsm
     go_upto_region 37 with (first | (go_at_call 20; ((with_reducible refine (I0 _).mono ?_); rintro e9 w2 ⟨rfl, hL⟩; replace HM := HM.call hL; clear hL)) | (first | ((with_reducible refine g_ld ?_); refine a_ld HM ?_) | ((with_reducible refine g_st ?_); refine a_st HM ?_; clear HM; intro w1 HM) | ((with_reducible refine g_al ?_); refine a_al HM ?_; clear HM; intro bk w1 HM) | ((with_reducible refine g_bld ?_); refine a_bld ?_)))
     obtain ⟨b19, rfl⟩ := HM.nm0
     go_wp2_with (first | ((with_reducible refine g_ld ?_); refine a_ld HM ?_) | ((with_reducible refine g_st ?_); refine a_st HM ?_; clear HM; intro w1 HM) | ((with_reducible refine g_al ?_); refine a_al HM ?_; clear HM; intro bk w1 HM) | ((with_reducible refine g_bld ?_); refine a_bld ?_))
     go_loopw [21] (fun jv wr => ∃ (j : Nat) (S : Rat), jv = .int .i64 (j : Nat) ∧ j ≤ XA.length ∧ Hid (S = Lk.es s 0 (XA.take j)) ∧ Mem w7 [] [(b19, Ex.A (.ok S))] wr) (fun jv _ => XA.length - (intOf jv).toNat)
     case atStart => exact ⟨0, 0, rfl, by omega, Lib.hid rfl, HM⟩
     case round =>
      clear HM
      obtain ⟨j, S, rfl, hj, HS, HM⟩ := hrel
      by_cases hjt : j < XA.length
      ·have hjt1 : (j : Int) < XA.length := by omega
       obtain ⟨x, hx⟩ : ∃ x, XA[j]? = some x := ⟨_, List.getElem?_eq_getElem hjt⟩
       obtain ⟨b5, off5, cs5, rfl, HB5, -, kx0, kx1⟩ := HX7.out.at_ hx
       have est := Lk.es_step (s := s) (a := 0) hx
       have fS : Rt.Fit S := by rw [HS.out]; exact HFS.out j
       go_upto_region 40 with (first | ((with_reducible refine g_ld ?_); refine a_ld HM ?_) | ((with_reducible refine g_st ?_); refine a_st HM ?_; clear HM; intro w1 HM) | ((with_reducible refine g_al ?_); refine a_al HM ?_; clear HM; intro bk w1 HM) | ((with_reducible refine g_bld ?_); refine a_bld ?_))
       cases hg : (x.nm.toList == sb.toList) with
       | true =>
        obtain ⟨S2, hS2⟩ : ∃ S2, Hid (S2 = S + x.q) := ⟨_, Lib.hid rfl⟩
        have hS2e : S2 = Lk.es s 0 (XA.take (j + 1)) := by rw [hS2.out, est, ← HBL.out, hg, if_pos rfl, HBL.out, HS.out]
        have fS2 : Rt.Fit S2 := by rw [hS2e]; exact HFS.out _
        have HS2E := Lib.hid hS2e
        have fxx : Rt.Fit x.q := HFX.out x (List.mem_of_getElem? hx) (by rw [← HBL.out]; exact eq_of_beq hg)
        have AD := fun w => add_ex (.ok S) (.ok x.q) fS fxx (.ok S2) (Lib.hid (Ex.add_eq hS2.out fS2)) w
        have k8 := Ex.laA S
        have s8 := Ex.saA S S2
        clear est hx hS2e
        refine start_M [] HM (by kernel_rfl) (fun w0x H9 => ?_)
        replace HM := H9; clear H9
        refine k_mv 0 (heldE HM) ?_
        refine k_mv 1 (heldE HM) ?_
        refine k_ia 2 (heldE HM) ?_
        refine k_fa 3 (heldE HM) ?_
        refine k_ld 4 [] (heldE HM) ?_
        refine k_mv 5 (heldE HM) ?_
        refine k_mv 6 (heldE HM) ?_
        refine k_ia 7 (heldE HM) ?_
        refine k_ld 8 [] (heldE HM) ?_
        refine t_pure (i := 9) (v := .bool true) rfl rfl (by kernel_rfl) (fun _ _ _ h => h) (heldE HM) (by rfl) ?_ ?_; (focus ((intro w9; first | (go_simp; done) | (go_simp; rfl)))); ((try simp only [List.setIfInBounds_toArray]); (try simp only [List.set_cons_succ]); (try simp only [List.set_cons_zero]))
        refine wpAnyL_done (by kernel_rfl) ?_ _
        go_upto_region 41 with (first | ((with_reducible refine g_ld ?_); refine a_ld HM ?_) | ((with_reducible refine g_st ?_); refine a_st HM ?_; clear HM; intro w1 HM) | ((with_reducible refine g_al ?_); refine a_al HM ?_; clear HM; intro bk w1 HM) | ((with_reducible refine g_bld ?_); refine a_bld ?_))
        refine start_M [8] HM (by kernel_rfl) (fun w0x H9 => ?_)
        replace HM := H9; clear H9
        refine k_ld 0 [7, 8] (heldE HM) ?_
        refine k_mv 1 (heldE HM) ?_
        refine k_mv 2 (heldE HM) ?_
        refine k_ia 3 (heldE HM) ?_
        refine k_fa 4 (heldE HM) ?_
        refine k_ld 5 [6, 7, 8] (heldE HM) ?_
        refine j_one 6 fun K9 hK9 => ?_
        refine j_call1 (v := ?_) HM ?_ ?_; rotate_left 1; (focus (with_reducible (first | exact of_ex _ _ | exact AD _))); clear HM; intro w1 HM
        refine hK9 _ _ (heldE HM) ?_; clear hK9 K9
        refine j_one 7 fun K9 hK9 => ?_
        refine j_call2 (v := ?_) HM ?_ ?_; rotate_left 1; (focus (with_reducible (first | exact of_ex _ _ | exact AD _))); clear HM; intro w1 HM
        refine hK9 _ _ (heldE HM) ?_; clear hK9 K9
        refine j_one 8 fun K9 hK9 => ?_
        refine j_st HM ?_; clear HM; intro w1 HM
        refine hK9 _ _ heldN ?_; clear hK9 K9
        refine wpAnyL_done (by kernel_rfl) ?_ _
        go_wp2_with fail
        go_roundw
        case rel => exact ⟨j + 1, S2, by go_num, by omega, HS2E, HM.pick⟩
        case measure => simp [intOf]; omega
       | false =>
        have HS2E : Hid (S = Lk.es s 0 (XA.take (j + 1))) := Lib.hid (by rw [est, ← HBL.out, hg, if_neg (by decide), HBL.out]; exact HS.out)
        clear est hx
        refine start_M [] HM (by kernel_rfl) (fun w0x H9 => ?_)
        replace HM := H9; clear H9
        refine k_mv 0 (heldE HM) ?_
        refine k_mv 1 (heldE HM) ?_
        refine k_ia 2 (heldE HM) ?_
        refine k_fa 3 (heldE HM) ?_
        refine k_ld 4 [] (heldE HM) ?_
        refine k_mv 5 (heldE HM) ?_
        refine k_mv 6 (heldE HM) ?_
        refine k_ia 7 (heldE HM) ?_
        refine k_ld 8 [] (heldE HM) ?_
        refine t_pure (i := 9) (v := .bool false) rfl rfl (by kernel_rfl) (fun _ _ _ h => h) (heldE HM) (by rfl) ?_ ?_; (focus ((intro w9; first | (go_simp; done) | (go_simp; rfl)))); ((try simp only [List.setIfInBounds_toArray]); (try simp only [List.set_cons_succ]); (try simp only [List.set_cons_zero]))
        refine wpAnyL_done (by kernel_rfl) ?_ _
        go_wp2_with (first | ((with_reducible refine g_ld ?_); refine a_ld HM ?_) | ((with_reducible refine g_st ?_); refine a_st HM ?_; clear HM; intro w1 HM) | ((with_reducible refine g_al ?_); refine a_al HM ?_; clear HM; intro bk w1 HM) | ((with_reducible refine g_bld ?_); refine a_bld ?_))
        go_roundw
        case rel => exact ⟨j + 1, S, by go_num, by omega, HS2E, HM.pick⟩
        case measure => simp [intOf]; omega
      ·obtain rfl : j = XA.length := by omega
       rw [List.take_length] at HS
       have HSV : Hid (S = (Lk.held U L s U.length : Rat)) := Lib.hid (HS.out.trans HTOT.out)
       have fS : Rt.Fit S := by have := HFS.out XA.length; rw [List.take_length, ← HS.out] at this; exact this
       obtain rfl := HSB.out
       go_upto_region 43 with (first | (go_at_call 24; refine (rquantities_s _ L s _ (HL7.out.below HM.low) hl8 hla).mono ?_; rintro e9 w8 ⟨sq, rfl, HQ, hL⟩; replace HM := HM.call hL; clear hL) | (first | ((with_reducible refine g_ld ?_); refine a_ld HM ?_) | ((with_reducible refine g_st ?_); refine a_st HM ?_; clear HM; intro w1 HM) | ((with_reducible refine g_al ?_); refine a_al HM ?_; clear HM; intro bk w1 HM) | ((with_reducible refine g_bld ?_); refine a_bld ?_)))
       have hql : (Lk.qty L s).length = U.length := by rw [Lk.qty_len, HLL.out]
       obtain ⟨Aq, cq, rfl⟩ := HQ.out.form
       rw [hql] at HQ
       rw [hql]
       have HK8 := Lib.hid HM
       have HN8 := Lib.hid (HN7.out.below HM.low)
       have HBX8 := Lib.hid (HBX7.out.below HM.low HBX7.out.lt)
       clear HM hql
       have HM := Mem.start w8
       go_wp2_with (first | ((with_reducible refine g_ld ?_); refine a_ld HM ?_) | ((with_reducible refine g_st ?_); refine a_st HM ?_; clear HM; intro w1 HM) | ((with_reducible refine g_al ?_); refine a_al HM ?_; clear HM; intro bk w1 HM) | ((with_reducible refine g_bld ?_); refine a_bld ?_))
       go_loopw [20, 23] (fun hv qv wr => ∃ q : Nat, hv = .int .i64 (Lk.held U L s q) ∧ qv = .int .i64 (q : Nat) ∧ q ≤ U.length ∧ Mem w8 [] [] wr) (fun _ qv _ => U.length - (intOf qv).toNat)
       case atStart => exact ⟨0, rfl, rfl, by omega, HM⟩
       case round =>
        clear HM
        obtain ⟨q, rfl, rfl, hq, HM⟩ := hrel
        obtain ⟨hh0, hh1⟩ := Lk.held_in HLL.out HLA.out s q hq
        have hu8 := HG.out.sh.1
        by_cases hqt : q < U.length
        ·have hqt1 : (q : Int) < U.length := by omega
         obtain ⟨u, hu⟩ : ∃ u, U[q]? = some u := ⟨_, List.getElem?_eq_getElem hqt⟩
         have HU := Lib.hid (Ns.gu_at hu)
         obtain ⟨bU, offU, csU, e, HBU, ku⟩ := HN8.out.u.at_ hu
         injection e with e
         injection e with e1 e2
         subst e1 e2
         rw [Nat.zero_add] at ku
         obtain ⟨y, hy⟩ : ∃ y, (Lk.qty L s)[q]? = some y := ⟨_, List.getElem?_eq_getElem (by rw [Lk.qty_len, HLL.out]; exact hqt)⟩
         have HY := Lib.hid (Ns.gu_at hy)
         obtain ⟨bQ, offQ, csQ, eQ, HBQ, kq⟩ := HQ.out.at_ hy
         subst eQ
         have hst := Lk.held_step U L s q
         rw [HU.out, HY.out] at hst
         have hyb := Lk.qty_in HLA.out s (i := q) (by rw [HLL.out]; exact hqt)
         rw [HY.out] at hyb
         obtain ⟨hy0, hy1⟩ := hyb
         obtain ⟨hd, hhd⟩ : ∃ hd, Hid (hd = Lk.held U L s q) := ⟨_, Lib.hid rfl⟩
         rw [← hhd.out] at hh0 hh1 hst ⊢
         have hq8 : (q : Int) ≤ 8 := by omega
         have hh2 : hd ≤ 8000000000000000 := by omega
         clear hu hy hh1
         by_cases hup : 0 < u
         ·rw [if_pos hup] at hst
          have HST := Lib.hid hst
          clear hst
          go_wp2_with (first | ((with_reducible refine g_ld ?_); refine a_ld HM ?_) | ((with_reducible refine g_st ?_); refine a_st HM ?_; clear HM; intro w1 HM) | ((with_reducible refine g_al ?_); refine a_al HM ?_; clear HM; intro bk w1 HM) | ((with_reducible refine g_bld ?_); refine a_bld ?_))
          go_roundw
          case rel => exact ⟨q + 1, by rw [HST.out], by go_num, by omega, HM⟩
          case measure => simp [intOf]; omega
         ·rw [if_neg hup, Int.add_zero] at hst
          have HST := Lib.hid hst
          clear hst
          go_wp2_with (first | ((with_reducible refine g_ld ?_); refine a_ld HM ?_) | ((with_reducible refine g_st ?_); refine a_st HM ?_; clear HM; intro w1 HM) | ((with_reducible refine g_al ?_); refine a_al HM ?_; clear HM; intro bk w1 HM) | ((with_reducible refine g_bld ?_); refine a_bld ?_))
          go_roundw
          case rel => exact ⟨q + 1, by rw [HST.out], by go_num, by omega, HM⟩
          case measure => simp [intOf]; omega
        ·obtain rfl : q = U.length := by omega
         obtain ⟨hd, hhd⟩ : ∃ hd, Hid (hd = Lk.held U L s U.length) := ⟨_, Lib.hid rfl⟩
         rw [← hhd.out] at hh0 hh1 HSV ⊢
         have hq8 : (U.length : Int) ≤ 8 := by omega
         have hh2 : hd ≤ 8000000000000000 := by omega
         have IT := fun w => int_ex hd S (by omega) (by omega) HSV w
         have kE := Ex.lae S
         have kV := Ex.lav S
         have fA := Ex.fA S
         have HM9 := HK8.out.join HM
         clear HM hh1
         have HM : Mem w7 [] [(b19, Ex.A (.ok S))] wr := HM9
         clear HM9
         go_upto_region 48 with (first | ((with_reducible refine g_ld ?_); refine a_ld HM ?_) | ((with_reducible refine g_st ?_); refine a_st HM ?_; clear HM; intro w1 HM) | ((with_reducible refine g_al ?_); refine a_al HM ?_; clear HM; intro bk w1 HM) | ((with_reducible refine g_bld ?_); refine a_bld ?_))
         refine start_M [] HM (by kernel_rfl) (fun w0x H9 => ?_)
         replace HM := H9; clear H9
         refine k_fa 0 (heldE HM) ?_
         refine k_ld 1 [] (heldE HM) ?_
         refine k_bin 2 (heldE HM) ?_
         refine k_mv 3 (heldE HM) ?_
         refine k_fa 4 (heldE HM) ?_
         refine k_ld 5 [] (heldE HM) ?_
         refine k_mv 6 (heldE HM) ?_
         refine j_one 7 fun K9 hK9 => ?_
         refine j_call1 (v := ?_) HM ?_ ?_; rotate_left 1; (focus (with_reducible (exact IT _))); clear HM; intro w1 HM
         refine hK9 _ _ (heldE HM) ?_; clear hK9 K9
         refine t_pure (i := 8) (v := .agg (Rt.qA S)) rfl rfl (by kernel_rfl) (fun _ _ _ h => h) (heldE HM) (by rfl) ?_ ?_; (focus (refine h_fld rfl ?_ Ex.und (by kernel_rfl) fA; ((conv => lhs; whnf) <;> rfl))); ((try simp only [List.setIfInBounds_toArray]); (try simp only [List.set_cons_succ]); (try simp only [List.set_cons_zero]))
         refine t_eq (i := 9) (v := ?_) [] rfl rfl rfl (by kernel_rfl) (fun _ _ _ h => h) (heldE HM) ?_ ?_; rotate_left 1; (focus ((refine y_cmpq .neq (S) (S) false (.inr rfl) (by simp) (fS) (fS) (x := ?_) (y := ?_) (t := ?_) ?_ ?_ ?_ ?_; rotate_left 3; (focus rfl); (focus rfl); (focus ((conv => lhs; whnf) <;> rfl)); ((conv => lhs; whnf) <;> rfl)))); ((try simp only [List.setIfInBounds_toArray]); (try simp only [List.set_cons_succ]); (try simp only [List.set_cons_zero]))
         refine k_pick 10 (heldE HM) ?_
         refine wpAnyL_done (by kernel_rfl) ?_ _
         go_wp2_with (first | ((with_reducible refine g_ld ?_); refine a_ld HM ?_) | ((with_reducible refine g_st ?_); refine a_st HM ?_; clear HM; intro w1 HM) | ((with_reducible refine g_al ?_); refine a_al HM ?_; clear HM; intro bk w1 HM) | ((with_reducible refine g_bld ?_); refine a_bld ?_))
         go_roundw
         case rel => exact ⟨k + 1, by go_num, by omega, HM.pick⟩
         case measure => simp [intOf]; omega
    ·obtain rfl : k = N.length := by omega
     go_wp2_with (first | (go_at_call 7; ((with_reducible refine (awake36_any _).mono ?_); rintro e9 w2 ⟨rfl, hL⟩; replace HM := HM.call hL; clear hL)) | (first | ((with_reducible refine g_ld ?_); refine a_ld HM ?_) | ((with_reducible refine g_st ?_); refine a_st HM ?_; clear HM; intro w1 HM) | ((with_reducible refine g_al ?_); refine a_al HM ?_; clear HM; intro bk w1 HM) | ((with_reducible refine g_bld ?_); refine a_bld ?_)))
     go_ret
     exact ⟨rfl, below_seq HB7.out HM.low⟩
end Go.Proofs.YtckhdiljihhdmaaGreat
