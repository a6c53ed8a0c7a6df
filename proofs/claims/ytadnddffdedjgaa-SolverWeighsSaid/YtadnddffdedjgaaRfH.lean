/- The document's mul and sub of numbers that fit. Rows of whole numbers in blocks of their own: plain. -/
import Derived.Test.YtadnddffdedjgaaRfE
namespace Go.Proofs.Ytadnddffdedjgaa
set_option maxRecDepth 8000
open Go.RowKit
theorem rmul_ff (p d z : Int) (hp : p.natAbs < Bg.lim) (hd : d.natAbs < Bg.lim) (hz : Hid (z = p * d)) (hl : z.natAbs < Bg.lim) (w : World) :
    Calls Try.prog 90 #[.agg (Bg.zA p), .agg (Bg.zA d)] w fun r w' => r = .returned (.tuple #[.agg (Bg.zA z), .int .i64 0]) ∧ Below w.heap.size w w' := by
  rw [zA_int p, zA_int d]
  exact rmul_any _ _ _ _ z z 0 hp hd (Lib.hid (by rw [Bg.toZ_iv, Bg.toZ_iv]; exact hz.out)) (Lib.hid (by unfold Bg.resZ; rw [if_pos hl])) (Lib.hid (by unfold Bg.resE; rw [if_pos hl])) w
theorem rsub_ff (p d z : Int) (hp : p.natAbs < Bg.lim) (hd : d.natAbs < Bg.lim) (hz : Hid (z = p - d)) (hl : z.natAbs < Bg.lim) (w : World) :
    Calls Try.prog 104 #[.agg (Bg.zA p), .agg (Bg.zA d)] w fun r w' => r = .returned (.tuple #[.agg (Bg.zA z), .int .i64 0]) ∧ Below w.heap.size w w' := by
  rw [zA_int p, zA_int d]
  exact rsub_any _ _ _ _ z z 0 hp hd (Lib.hid (by rw [Bg.toZ_iv, Bg.toZ_iv]; exact hz.out)) (Lib.hid (by unfold Bg.resZ; rw [if_pos hl])) (Lib.hid (by unfold Bg.resE; rw [if_pos hl])) w
set_option maxHeartbeats 4000000 in
theorem rmul35 (p d z : Int) (hp : p.natAbs < Bg.lim) (hd : d.natAbs < Bg.lim) (hz : Hid (z = p * d)) (hl : z.natAbs < Bg.lim) (w : World) :
    Calls Try.prog 81 #[.agg (Bg.zA p), .agg (Bg.zA d)] w fun r w' => r = .returned (.agg (Bg.zA z)) ∧ Below w.heap.size w w' := by
  have HM := Mem.start w
  have hzi := za_int
  have M1 := fun w => rmul_ff p d z hp hd hz hl w
  go_enter Try.func81, Try.ntmps81
  go_wp2_with (first | (go_at_call 90; ((with_reducible refine (M1 _).mono ?_); rintro e9 w2 ⟨rfl, hL⟩; replace HM := HM.call hL; clear hL)) | (first | ((with_reducible refine g_ld ?_); refine a_ld HM ?_) | ((with_reducible refine g_st ?_); refine a_st HM ?_; clear HM; intro w1 HM) | ((with_reducible refine g_al ?_); refine a_al HM ?_; clear HM; intro bk w1 HM) | ((with_reducible refine g_bx ?_); refine a_bx HM ?_; clear HM; intro bk w1 HM) | ((with_reducible refine g_bld ?_); refine a_bld ?_)))
  refine bodyPost_ret (r_c rfl rfl (HM.get (by ((repeat (first | exact Look.here | refine Look.there ?_)); done))) (la_z _)) rfl ⟨rfl, HM.low⟩
set_option maxHeartbeats 4000000 in
theorem rsub35 (p d z : Int) (hp : p.natAbs < Bg.lim) (hd : d.natAbs < Bg.lim) (hz : Hid (z = p - d)) (hl : z.natAbs < Bg.lim) (w : World) :
    Calls Try.prog 80 #[.agg (Bg.zA p), .agg (Bg.zA d)] w fun r w' => r = .returned (.agg (Bg.zA z)) ∧ Below w.heap.size w w' := by
  have HM := Mem.start w
  have hzi := za_int
  have M1 := fun w => rsub_ff p d z hp hd hz hl w
  go_enter Try.func80, Try.ntmps80
  go_wp2_with (first | (go_at_call 104; ((with_reducible refine (M1 _).mono ?_); rintro e9 w2 ⟨rfl, hL⟩; replace HM := HM.call hL; clear hL)) | (first | ((with_reducible refine g_ld ?_); refine a_ld HM ?_) | ((with_reducible refine g_st ?_); refine a_st HM ?_; clear HM; intro w1 HM) | ((with_reducible refine g_al ?_); refine a_al HM ?_; clear HM; intro bk w1 HM) | ((with_reducible refine g_bx ?_); refine a_bx HM ?_; clear HM; intro bk w1 HM) | ((with_reducible refine g_bld ?_); refine a_bld ?_)))
  refine bodyPost_ret (r_c rfl rfl (HM.get (by ((repeat (first | exact Look.here | refine Look.there ?_)); done))) (la_z _)) rfl ⟨rfl, HM.low⟩
end Go.Proofs.Ytadnddffdedjgaa
namespace Go.Proofs.Ytadnddffdedjgaa
set_option maxRecDepth 8000
open Go.RowKit
theorem sw_range {n i k : Nat} (hi : i < n) (hk : k < n) : ((List.range n).map (Mx.sw i k)).Perm (List.range n) := by
  have hnd : ((List.range n).map (Mx.sw i k)).Nodup := by
    unfold List.Nodup
    rw [List.pairwise_map]
    have key : ∀ {a b : Nat}, a ≠ b → Mx.sw i k a ≠ Mx.sw i k b := fun {a b} h e => by
      have := congrArg (Mx.sw i k) e
      rw [Mx.sw_sw, Mx.sw_sw] at this
      exact h this
    exact List.Pairwise.imp key List.nodup_range
  refine (List.perm_ext_iff_of_nodup hnd List.nodup_range).2 fun a => ?_
  simp only [List.mem_map, List.mem_range]
  constructor
  · rintro ⟨b, hb, rfl⟩; exact Mx.sw_lt hi hk hb
  · intro ha
    exact ⟨Mx.sw i k a, Mx.sw_lt hi hk ha, Mx.sw_sw i k a⟩
/-- Blocks with two of them swapped. -/
def swl (rb : List Nat) (i k : Nat) : List Nat := (List.range rb.length).map fun r => rb.getD (Mx.sw i k r) 0
theorem NF_range (rb : List Nat) (F : Nat → Array Value) : NF rb F = (List.range rb.length).map fun r => (rb.getD r 0, F r) := by
  apply List.ext_getElem?
  intro j
  by_cases hj : j < rb.length
  · have hb : rb[j]? = some rb[j] := List.getElem?_eq_getElem hj
    rw [NF_at hb, List.getElem?_map, List.getElem?_range hj]
    show _ = some (rb.getD j 0, F j)
    rw [List.getD_eq_getElem?_getD, hb]; rfl
  · rw [List.getElem?_eq_none (by rw [NF_len]; omega), List.getElem?_eq_none (by simp; omega)]
theorem swl_len {rb : List Nat} {i k : Nat} : (swl rb i k).length = rb.length := by simp [swl]
theorem swl_at {rb : List Nat} {i k r : Nat} (hr : r < rb.length) : (swl rb i k).getD r 0 = rb.getD (Mx.sw i k r) 0 := by
  unfold swl
  rw [List.getD_eq_getElem?_getD, List.getElem?_map, List.getElem?_range hr]; rfl
theorem NF_swap {rb : List Nat} {F : Nat → Array Value} {i k : Nat} (hi : i < rb.length) (hk : k < rb.length) : (NF (swl rb i k) fun r => F (Mx.sw i k r)).Perm (NF rb F) := by
  rw [NF_range, NF_range, swl_len]
  have e : (List.range rb.length).map (fun r => ((swl rb i k).getD r 0, F (Mx.sw i k r))) = ((List.range rb.length).map (Mx.sw i k)).map fun r => (rb.getD r 0, F r) := by
    rw [List.map_map]
    refine List.map_congr_left fun r hr => ?_
    rw [swl_at (by simpa using hr)]; rfl
  rw [e]
  exact (sw_range hi hk).map _
theorem rv_swap {n : Nat} {rb : List Nat} {i k bi bk : Nat} (hi : rb[i]? = some bi) (hk : rb[k]? = some bk) : ((rv n rb).set i (.slice (some ⟨bk, 0, none⟩) n n)).set k (.slice (some ⟨bi, 0, none⟩) n n) = rv n (swl rb i k) := by
  have hil := (List.getElem?_eq_some_iff.1 hi).1
  have hkl := (List.getElem?_eq_some_iff.1 hk).1
  apply List.ext_getElem?
  intro j
  unfold rv
  rw [List.getElem?_set, List.getElem?_set, List.length_set, List.length_map, List.getElem?_map, List.getElem?_map]
  by_cases hj : j < rb.length
  · have h1 : (swl rb i k)[j]? = some (rb.getD (Mx.sw i k j) 0) := by unfold swl; rw [List.getElem?_map, List.getElem?_range hj]; rfl
    rw [h1]
    unfold Mx.sw
    by_cases e1 : k = j
    · subst e1
      rw [if_pos rfl, if_pos hj]
      by_cases e2 : k = i
      · subst e2
        rw [if_pos rfl, List.getD_eq_getElem?_getD, hi]; rfl
      · rw [if_neg e2, if_pos rfl, List.getD_eq_getElem?_getD, hi]; rfl
    · rw [if_neg e1]
      by_cases e2 : i = j
      · subst e2
        rw [if_pos rfl, if_pos hj, if_pos rfl, List.getD_eq_getElem?_getD, hk]; rfl
      · rw [if_neg e2, if_neg (fun h => e2 h.symm), if_neg (fun h => e1 h.symm), List.getD_eq_getElem?_getD, List.getElem?_eq_getElem hj]; rfl
  · rw [List.getElem?_eq_none (l := rb) (by omega), if_neg (show ¬ k = j by omega), if_neg (show ¬ i = j by omega), List.getElem?_eq_none (by rw [swl_len]; omega)]
/-- Row i of whole numbers. -/
def zR (n : Nat) (Z : Nat → Nat → Int) (i : Nat) : Array Value := rowsOf (So.ol (fun j => Bg.zA (Z i j)) n)
theorem zR_sizes (f : Nat → Int) (n : Nat) : ∀ c ∈ So.ol (fun j => Bg.zA (f j)) n, c.size = 33 := by
  intro c hc; unfold So.ol at hc; obtain ⟨x, _, rfl⟩ := List.mem_map.1 hc; exact zA_size _
theorem la_zR (Z : Nat → Nat → Int) {n i j : Nat} (hj : j < n) : LA 40 (zR n Z i) (j * 33) (.agg (Bg.zA (Z i j))) :=
  la_row (by kernel_rfl) (by kernel_rfl) (zR_sizes _ n) (So.ol_at _ hj)
theorem sa_zR (Z Y : Nat → Nat → Int) {n i j : Nat} {z : Int} (hj : j < n) (hz : Y i j = z) (hY : ∀ k, k < n → k ≠ j → Y i k = Z i k) : SA 40 (zR n Z i) (j * 33) (.agg (Bg.zA z)) (zR n Y i) := by
  have := sa_row (T := 40) (n := 33) (l := So.ol (fun j => Bg.zA (Z i j)) n) (k := j) (d := Bg.zA z) (by kernel_rfl) (zR_sizes _ n) (So.ol_at _ hj) (zA_size z) (zA_one z)
  have e : (So.ol (fun j => Bg.zA (Z i j)) n).set j (Bg.zA z) = So.ol (fun j => Bg.zA (Y i j)) n := by
    rw [← hz]
    exact So.ol_set (F := fun j => Bg.zA (Z i j)) (G := fun j => Bg.zA (Y i j)) fun k hk => by
      by_cases e : k = j
      · subst e; rw [if_pos rfl]
      · rw [if_neg e, hY k hk e]
  rw [e] at this
  exact this
theorem zR_congr {n : Nat} {Z Y : Nat → Nat → Int} {i : Nat} (h : ∀ j, j < n → Z i j = Y i j) : zR n Z i = zR n Y i := by
  unfold zR; rw [ol_congr fun j hj => by rw [h j hj]]
theorem la_valsZ {l : List Value} {i : Nat} {v : Value} (h : l[i]? = some v) : LA 112 (rowsOf (l.map vc)) i v := by
  refine LA.one (by kernel_rfl) ?_
  have hs : ∀ c ∈ l.map vc, c.size = 1 := by intro c hc; obtain ⟨x, _, rfl⟩ := List.mem_map.1 hc; rfl
  have := rows_at hs (k := i) (j := 0) (c := vc v) (by rw [List.getElem?_map, h]; rfl) (by decide)
  rw [Nat.one_mul, Nat.add_zero] at this
  rw [this]; rfl
theorem sa_valsZ (l : List Value) {i : Nat} (v : Value) (h : i < l.length) (hv : v.oneCell' = true) : SA 112 (rowsOf (l.map vc)) i v (rowsOf ((l.set i v).map vc)) := by
  have hs : ∀ c ∈ l.map vc, c.size = 1 := by intro c hc; obtain ⟨x, _, rfl⟩ := List.mem_map.1 hc; rfl
  have h1 : (l.map vc)[i]? = some (vc l[i]) := by rw [List.getElem?_map, List.getElem?_eq_getElem h]; rfl
  have := sa_rowone (T := 112) (n := 1) (a := 0) (l := l.map vc) (k := i) (v := v) (by kernel_rfl) hs h1 (by decide) hv
  rw [Nat.mul_one, Nat.add_zero] at this
  have e : (l.map vc).set i ((vc l[i]).setIfInBounds 0 v) = (l.set i v).map vc := by rw [List.map_set]; rfl
  rw [e] at this
  exact this
theorem za_sz : ZA 112 (vc (.slice none 0 0)) := ⟨.slice none 0 0, rfl, fun w => by kernel_rfl⟩
/-- The matrix within step k, ahead of place (i, j). -/
def dst (Z : Nat → Nat → Int) (k : Nat) (last : Int) (i j : Nat) (a b : Nat) : Int := if k < a ∧ k < b ∧ (a < i ∨ (a = i ∧ b < j)) then Mx.nx Z k last a b else Z a b
theorem dst_start {Z : Nat → Nat → Int} {k : Nat} {last : Int} {a b : Nat} : dst Z k last (k + 1) (k + 1) a b = Z a b := by
  unfold dst; rw [if_neg (by omega)]
theorem dst_row {Z : Nat → Nat → Int} {k n i : Nat} {last : Int} {a b : Nat} (hb : b < n) : dst Z k last i n a b = dst Z k last (i + 1) (k + 1) a b := by
  unfold dst
  by_cases e : k < a ∧ k < b ∧ (a < i ∨ (a = i ∧ b < n))
  · rw [if_pos e, if_pos (by omega)]
  · rw [if_neg e, if_neg (by omega)]
theorem dst_here {Z : Nat → Nat → Int} {k i j : Nat} {last : Int} : dst Z k last i j i j = Z i j := by unfold dst; rw [if_neg (by omega)]
theorem dst_col {Z : Nat → Nat → Int} {k i j a : Nat} {last : Int} : dst Z k last i j a k = Z a k := by unfold dst; rw [if_neg (by omega)]
theorem dst_top {Z : Nat → Nat → Int} {k i j b : Nat} {last : Int} : dst Z k last i j k b = Z k b := by unfold dst; rw [if_neg (by omega)]
theorem dst_new {Z : Nat → Nat → Int} {k i j : Nat} {last : Int} (hi : k < i) (hj : k < j) : dst Z k last i (j + 1) i j = Mx.nx Z k last i j := by unfold dst; rw [if_pos (by omega)]
theorem dst_old {Z : Nat → Nat → Int} {k i j a b : Nat} {last : Int} (h : ¬ (a = i ∧ b = j)) : dst Z k last i (j + 1) a b = dst Z k last i j a b := by
  unfold dst
  by_cases e : k < a ∧ k < b ∧ (a < i ∨ (a = i ∧ b < j))
  · rw [if_pos e, if_pos (by omega)]
  · rw [if_neg e, if_neg (by omega)]
theorem dst_done {Z : Nat → Nat → Int} {k n j a b : Nat} {last : Int} (ha : k < a) (hb : k < b) (hn : a < n) : dst Z k last n j a b = Mx.nx Z k last a b := by unfold dst; rw [if_pos (by omega)]
end Go.Proofs.Ytadnddffdedjgaa
