/- The solver's equations in memory; minus of the program. The cells of a system of equations: one number, eight rows of nine. -/
import Derived.Test.YtadnddffdedjgaaNsE
import Derived.Test.YtadnddffdedjgaaMks
import Derived.Test.YtadnddffdedjgaaEngJ
namespace Go.Proofs.Ytadnddffdedjgaa
set_option maxRecDepth 8000
open Go.RowKit
namespace Sy
theorem big_416 : Mx.big < Bg.p2 416 := by
  rw [show 416 = 200 + 216 from rfl, Bg.p2_add]
  unfold Bg.p2 Mx.big
  decide
theorem big_lim : Mx.big * Mx.big * 4 < Bg.p2 1024 := by
  have h1 := Nat.mul_lt_mul'' big_416 big_416
  rw [← Bg.p2_add] at h1
  have h2 : Bg.p2 (416 + 416) * 4 = Bg.p2 834 := by
    rw [show 834 = (416 + 416) + 2 from rfl, Bg.p2_add (416 + 416) 2]
    have : Bg.p2 2 = 4 := by unfold Bg.p2; rfl
    rw [this]
  have h3 := Bg.p2_mono (i := 834) (j := 1024) (by omega)
  omega
theorem lim {z : Int} (h : z.natAbs ≤ Mx.big) : z.natAbs < Bg.lim := by
  have := big_lim
  rw [Bg.p2_lim] at this
  have h1 : Mx.big ≤ Mx.big * Mx.big := Nat.le_mul_self _
  omega
theorem mul_lim {x y : Int} (hx : x.natAbs ≤ Mx.big) (hy : y.natAbs ≤ Mx.big) : (x * y).natAbs ≤ Mx.big * Mx.big := by
  rw [Int.natAbs_mul]; exact Nat.mul_le_mul hx hy
end Sy
theorem mul_ff (p d z : Int) (hp : p.natAbs < Bg.lim) (hd : d.natAbs < Bg.lim) (hz : Hid (z = p * d)) (hl : z.natAbs < Bg.lim) (w : World) :
    Calls Try.prog 95 #[.agg (Bg.zA p), .agg (Bg.zA d)] w fun r w' => r = .returned (.tuple #[.agg (Bg.zA z), .int .i64 0]) ∧ Below w.heap.size w w' :=
  mul_z p d z 0 z hp hd hz (Lib.hid (by unfold Bg.resZ; rw [if_pos hl])) (Lib.hid (by unfold Bg.resE; rw [if_pos hl])) w
theorem sub_ff (p d z : Int) (hp : p.natAbs < Bg.lim) (hd : d.natAbs < Bg.lim) (hz : Hid (z = p - d)) (hl : z.natAbs < Bg.lim) (w : World) :
    Calls Try.prog 100 #[.agg (Bg.zA p), .agg (Bg.zA d)] w fun r w' => r = .returned (.tuple #[.agg (Bg.zA z), .int .i64 0]) ∧ Below w.heap.size w w' := by
  rw [zA_int p, zA_int d, zA_int z, ← zA_int z, ← Bg.resV_yes hl]
  exact sub_any0 _ _ _ _ hp hd z (Lib.hid (by rw [Bg.toZ_iv, Bg.toZ_iv]; exact hz.out)) w
set_option maxHeartbeats 4000000 in
theorem sminus_any (a d b c y q : Int) (ha : a.natAbs ≤ Mx.big) (hd : d.natAbs ≤ Mx.big) (hb : b.natAbs ≤ Mx.big) (hc : c.natAbs ≤ Mx.big) (hy : y.natAbs ≤ Mx.big) (h0 : y ≠ 0) (hq : Hid (q = (a * d - b * c) / y)) (w : World) :
    Calls Try.prog 77 #[.agg (Bg.zA a), .agg (Bg.zA d), .agg (Bg.zA b), .agg (Bg.zA c), .agg (Bg.zA y)] w fun e w' => e = .returned (.agg (Bg.zA q)) ∧ Below w.heap.size w w' := by
  have HM := Mem.start w
  have hz := za_int
  have hbl := Sy.big_lim
  rw [Bg.p2_lim] at hbl
  obtain ⟨u, hu⟩ : ∃ u, Hid (u = a * d) := ⟨_, Lib.hid rfl⟩
  obtain ⟨v, hv⟩ : ∃ v, Hid (v = b * c) := ⟨_, Lib.hid rfl⟩
  obtain ⟨z, hzz⟩ : ∃ z, Hid (z = u - v) := ⟨_, Lib.hid rfl⟩
  obtain ⟨r, hr⟩ : ∃ r, Hid (r = z % y) := ⟨_, Lib.hid rfl⟩
  have lu : u.natAbs ≤ Mx.big * Mx.big := by rw [hu.out]; exact Sy.mul_lim ha hd
  have lv : v.natAbs ≤ Mx.big * Mx.big := by rw [hv.out]; exact Sy.mul_lim hb hc
  have lz : z.natAbs ≤ Mx.big * Mx.big + Mx.big * Mx.big := by rw [hzz.out]; omega
  have hq2 : Hid (q = z / y) := Lib.hid (by rw [hq.out, hzz.out, hu.out, hv.out])
  have M1 := fun w => mul_ff a d u (Sy.lim ha) (Sy.lim hd) hu (by omega) w
  have M2 := fun w => mul_ff b c v (Sy.lim hb) (Sy.lim hc) hv (by omega) w
  have S1 := fun w => sub_ff u v z (by omega) (by omega) hzz (by omega) w
  have D1 := fun w => divMod_f z y q r (by omega) (Sy.lim hy) h0 hq2 hr w
  clear hbl lu lv lz ha hd hb hc hy h0
  go_enter Try.func77, Try.ntmps77
  go_wp2_with (first | first
    | (go_at_call 95; ((with_reducible refine (M1 _).mono ?_); rintro e9 w2 ⟨rfl, hL⟩; replace HM := HM.call hL; clear hL)) | (go_at_call 95; ((with_reducible refine (M2 _).mono ?_); rintro e9 w2 ⟨rfl, hL⟩; replace HM := HM.call hL; clear hL)) | (go_at_call 100; ((with_reducible refine (S1 _).mono ?_); rintro e9 w2 ⟨rfl, hL⟩; replace HM := HM.call hL; clear hL)) | (go_at_call 101; ((with_reducible refine (D1 _).mono ?_); rintro e9 w2 ⟨rfl, hL⟩; replace HM := HM.call hL; clear hL)) | (first | ((with_reducible refine g_ld ?_); refine a_ld HM ?_) | ((with_reducible refine g_st ?_); refine a_st HM ?_; clear HM; intro w1 HM) | ((with_reducible refine g_al ?_); refine a_al HM ?_; clear HM; intro bk w1 HM) | ((with_reducible refine g_bx ?_); refine a_bx HM ?_; clear HM; intro bk w1 HM) | ((with_reducible refine g_bld ?_); refine a_bld ?_)))
  refine bodyPost_ret (r_c rfl rfl (HM.get (by ((repeat (first | exact Look.here | refine Look.there ?_)); done))) (la_z _)) rfl ⟨rfl, HM.low⟩
end Go.Proofs.Ytadnddffdedjgaa
namespace Go.Proofs.Ytadnddffdedjgaa
set_option maxRecDepth 8000
open Go.RowKit
theorem shift_get (x : Value) (m : Array Value) (p : Nat) : (#[x] ++ m)[1 + p]? = m[p]? := by
  rw [Array.getElem?_append]
  simp
theorem shift_extract (x : Value) (m : Array Value) (p s : Nat) : (#[x] ++ m).extract (1 + p) (1 + p + s) = m.extract p (p + s) := by
  apply Array.ext_getElem?
  intro j
  rw [Array.getElem?_extract, Array.getElem?_extract]
  have hs : (#[x] ++ m).size = m.size + 1 := by rw [Array.size_append]; simp [Nat.add_comm]
  by_cases hj : j < min (p + s) m.size - p
  · rw [if_pos (by omega), if_pos hj, Nat.add_assoc, shift_get]
  · rw [if_neg (by omega), if_neg hj]
theorem shift_set (x v : Value) (m : Array Value) (p : Nat) : (#[x] ++ m).setIfInBounds (1 + p) v = #[x] ++ m.setIfInBounds p v := by
  apply Array.ext_getElem?
  intro j
  rw [Array.getElem?_setIfInBounds]
  cases j with
  | zero =>
    rw [if_neg (by omega), Array.getElem?_append, Array.getElem?_append]
    simp
  | succ j =>
    rw [Nat.add_comm j 1, shift_get, shift_get, Array.getElem?_setIfInBounds, Array.size_append]
    by_cases e : p = j
    · subst e
      rw [if_pos rfl, if_pos rfl]
      by_cases hp : p < m.size
      · rw [if_pos hp, if_pos (by simp; omega)]
      · rw [if_neg hp, if_neg (by simp; omega)]
    · rw [if_neg e, if_neg (by omega)]
theorem shift_setAll (x : Value) : ∀ (l : List Value) (m : Array Value) (p : Nat), setAll (#[x] ++ m) (1 + p) l = #[x] ++ setAll m p l
  | [], _, _ => rfl
  | v :: l, m, p => by rw [setAll, shift_set, setAll, Nat.add_assoc, shift_setAll x l]
theorem rows_join (ll : List (List (Array Value))) : rowsOf (ll.map rowsOf) = rowsOf ll.flatten := by
  induction ll with
  | nil => rfl
  | cons l ll ih => rw [List.map_cons, rowsOf, ih, List.flatten_cons, rows_append]
namespace Sy
def flat (Z : Nat → Nat → Int) : List (Array Value) := (List.range 72).map fun k => Bg.zA (Z (k / 9) (k % 9))
def rowl (Z : Nat → Nat → Int) (i : Nat) : List (Array Value) := (List.range 9).map fun j => Bg.zA (Z i j)
@[irreducible] def row (Z : Nat → Nat → Int) (i : Nat) : Array Value := rowsOf (rowl Z i)
theorem flat_nest (Z : Nat → Nat → Int) : flat Z = ((List.range 8).map fun i => rowl Z i).flatten := by unfold flat rowl; kernel_rfl
theorem flat_sizes (Z : Nat → Nat → Int) : ∀ c ∈ flat Z, c.size = 33 := by
  intro c hc
  obtain ⟨k, _, rfl⟩ := List.mem_map.1 hc
  exact zA_size _
theorem rowl_sizes (Z : Nat → Nat → Int) (i : Nat) : ∀ c ∈ rowl Z i, c.size = 33 := by
  intro c hc
  obtain ⟨k, _, rfl⟩ := List.mem_map.1 hc
  exact zA_size _
theorem row_size (Z : Nat → Nat → Int) (i : Nat) : (row Z i).size = 297 := by unfold row; rw [rows_size (rowl_sizes Z i)]; simp [rowl]
theorem row_one (Z : Nat → Nat → Int) (i : Nat) : (row Z i).all (·.oneCell') = true := by
  unfold row
  refine rows_cells_one fun c hc => ?_
  obtain ⟨k, _, rfl⟩ := List.mem_map.1 hc
  exact zA_one _
theorem row_congr {Z Y : Nat → Nat → Int} {i k : Nat} (h : Z i = Y k) : row Z i = row Y k := by unfold row rowl; rw [h]
def nest (Z : Nat → Nat → Int) : List (Array Value) := (List.range 8).map fun i => row Z i
theorem nest_sizes (Z : Nat → Nat → Int) : ∀ c ∈ nest Z, c.size = 297 := by
  intro c hc
  obtain ⟨k, _, rfl⟩ := List.mem_map.1 hc
  exact row_size _ _
@[irreducible] def cells (n : Int) (Z : Nat → Nat → Int) : Array Value := #[.int .i64 n] ++ rowsOf (flat Z)
theorem cells_flat (n : Int) (Z : Nat → Nat → Int) : cells n Z = #[.int .i64 n] ++ rowsOf (flat Z) := by unfold cells; rfl
theorem cells_nest (n : Int) (Z : Nat → Nat → Int) : cells n Z = #[.int .i64 n] ++ rowsOf (nest Z) := by
  have e : ((List.range 8).map fun i => rowl Z i).map rowsOf = nest Z := by
    rw [List.map_map]
    unfold nest
    refine List.map_congr_left fun i _ => ?_
    show rowsOf (rowl Z i) = row Z i
    unfold row; rfl
  rw [cells_flat, flat_nest, ← rows_join, e]
theorem cells_size (n : Int) (Z : Nat → Nat → Int) : (cells n Z).size = 2377 := by
  rw [cells_flat, Array.size_append, rows_size (flat_sizes Z)]; simp [flat]
theorem flat_at (Z : Nat → Nat → Int) {i j : Nat} (hi : i < 8) (hj : j < 9) : (flat Z)[9 * i + j]? = some (Bg.zA (Z i j)) := by
  unfold flat
  rw [List.getElem?_map, List.getElem?_range (by omega)]
  rw [Option.map_some, show (9 * i + j) / 9 = i by omega, show (9 * i + j) % 9 = j by omega]
theorem nest_at (Z : Nat → Nat → Int) {i : Nat} (hi : i < 8) : (nest Z)[i]? = some (row Z i) := by unfold nest; simp [hi]
/-- Element i j set to q. -/
def upd (Z : Nat → Nat → Int) (i j : Nat) (q : Int) : Nat → Nat → Int := fun r c => if r = i ∧ c = j then q else Z r c
theorem flat_set (Z : Nat → Nat → Int) {i j : Nat} (q : Int) (_ : i < 8) (hj : j < 9) : (flat Z).set (9 * i + j) (Bg.zA q) = flat (upd Z i j q) := by
  apply List.ext_getElem?
  intro k
  rw [List.getElem?_set]
  have hl : ∀ Z, (flat Z).length = 72 := fun Z => by simp [flat]
  by_cases e : 9 * i + j = k
  · subst e
    rw [if_pos rfl, hl, if_pos (by omega), flat_at _ (by omega) hj]
    unfold upd; rw [if_pos ⟨rfl, rfl⟩]
  · rw [if_neg e]
    by_cases hk : k < 72
    · unfold flat
      rw [List.getElem?_map, List.getElem?_map, List.getElem?_range hk, Option.map_some, Option.map_some]
      unfold upd
      rw [if_neg (by omega)]
    · rw [List.getElem?_eq_none (by rw [hl]; omega), List.getElem?_eq_none (by rw [hl]; omega)]
/-- Row i set to f. -/
def setr (Z : Nat → Nat → Int) (i : Nat) (f : Nat → Int) : Nat → Nat → Int := fun r => if r = i then f else Z r
theorem nest_set (Z Y : Nat → Nat → Int) (i k : Nat) : (nest Z).set i (row Y k) = nest (setr Z i (Y k)) := by
  apply List.ext_getElem?
  intro j
  rw [List.getElem?_set]
  have hl : ∀ Z, (nest Z).length = 8 := fun Z => by simp [nest]
  by_cases e : i = j
  · subst e
    rw [if_pos rfl, hl]
    by_cases hi : i < 8
    · rw [if_pos hi, nest_at _ hi, row_congr (Z := Y) (i := k) (Y := setr Z i (Y k)) (k := i) (by unfold setr; rw [if_pos rfl])]
    · rw [if_neg hi, List.getElem?_eq_none (by rw [hl]; omega)]
  · rw [if_neg e]
    by_cases hj : j < 8
    · rw [nest_at _ hj, nest_at _ hj, row_congr (Z := Z) (i := j) (Y := setr Z i (Y k)) (k := j) (by unfold setr; rw [if_neg (fun h => e h.symm)])]
    · rw [List.getElem?_eq_none (by rw [hl]; omega), List.getElem?_eq_none (by rw [hl]; omega)]
end Sy
theorem la_syn (n : Int) (Z : Nat → Nat → Int) : LA 3 (Sy.cells n Z) 0 (.int .i64 n) := LA.one (by kernel_rfl) (by rw [Sy.cells_flat, Array.getElem?_append]; simp)
theorem la_sy (n : Int) (Z : Nat → Nat → Int) {i j : Nat} (hi : i < 8) (hj : j < 9) : LA 40 (Sy.cells n Z) (1 + i * 297 + j * 33) (.agg (Bg.zA (Z i j))) := by
  rw [show 1 + i * 297 + j * 33 = 1 + (33 * (9 * i + j) + 0) by omega]
  refine LA.mid (by kernel_rfl) sT_int (by rw [Sy.cells_size]; omega) ?_
  rw [Sy.cells_flat, shift_extract, rows_extract (Sy.flat_sizes Z) (Sy.flat_at Z hi hj) (by omega)]
  have := zA_size (Z i j)
  rw [Nat.zero_add, ← this]; simp
theorem la_syr (n : Int) (Z : Nat → Nat → Int) {i : Nat} (hi : i < 8) : LA 83 (Sy.cells n Z) (1 + i * 297) (.agg (Sy.row Z i)) := by
  rw [show 1 + i * 297 = 1 + (297 * i + 0) by omega]
  refine LA.mid (n := 297) (by kernel_rfl) (by kernel_rfl) (by rw [Sy.cells_size]; omega) ?_
  rw [Sy.cells_nest, shift_extract, rows_extract (Sy.nest_sizes Z) (Sy.nest_at Z hi) (by omega)]
  have := Sy.row_size Z i
  rw [Nat.zero_add, ← this]; simp
theorem sa_sy (n : Int) (Z : Nat → Nat → Int) {i j : Nat} (q : Int) (hi : i < 8) (hj : j < 9) : SA 40 (Sy.cells n Z) (1 + i * 297 + j * 33) (.agg (Bg.zA q)) (Sy.cells n (Sy.upd Z i j q)) := by
  rw [show 1 + i * 297 + j * 33 = 1 + 33 * (9 * i + j) by omega]
  refine SA.mid (by rw [zA_size]; exact sT_int) (zA_one q) (by rw [Sy.cells_size, zA_size]; omega) ?_
  rw [Sy.cells_flat, shift_setAll, rows_set (Sy.flat_sizes Z) (Sy.flat_at Z hi hj) (zA_size q), Sy.flat_set Z q hi hj, ← Sy.cells_flat]
theorem sa_syr (n : Int) (Z Y : Nat → Nat → Int) {i : Nat} (k : Nat) (hi : i < 8) : SA 83 (Sy.cells n Z) (1 + i * 297) (.agg (Sy.row Y k)) (Sy.cells n (Sy.setr Z i (Y k))) := by
  rw [show 1 + i * 297 = 1 + 297 * i by omega]
  refine SA.mid (by rw [Sy.row_size]; kernel_rfl) (Sy.row_one Y k) (by rw [Sy.cells_size, Sy.row_size]; omega) ?_
  rw [Sy.cells_nest, shift_setAll, rows_set (Sy.nest_sizes Z) (Sy.nest_at Z hi) (Sy.row_size Y k), Sy.nest_set, ← Sy.cells_nest]
theorem Sy.swap_eq (Z : Nat → Nat → Int) (i k : Nat) : Sy.setr (Sy.setr Z i (Z k)) k (Z i) = fun r => Z (Mx.sw i k r) := by
  funext r
  unfold Sy.setr Mx.sw
  by_cases h1 : r = k
  · subst h1
    rw [if_pos rfl]
    by_cases h2 : r = i
    · subst h2; rw [if_pos rfl]
    · rw [if_neg h2, if_pos rfl]
  · rw [if_neg h1]
    by_cases h2 : r = i
    · rw [if_pos h2, if_pos h2]
    · rw [if_neg h2, if_neg h2, if_neg h1]
set_option maxHeartbeats 4000000 in
theorem pivot_any (n k : Nat) (Z : Nat → Nat → Int) (bs : Nat) (W w : World) (R : List (Nat × Array Value)) (HM : Mem W [] ((bs, Sy.cells n Z) :: R) w) (hn : n ≤ 8) (hk : k < n) (hb : Hid (∀ i, k ≤ i → i < n → (Z i k).natAbs ≤ Mx.big)) :
    Calls Try.prog 76 #[.pointer (some ⟨bs, 0, none⟩), .int .i64 (k : Nat)] w fun e w' => ∃ b Z', e = .returned (.bool b) ∧ Mem W [] ((bs, Sy.cells n Z') :: R) w' ∧ Hid ((b = true ∧ ∃ i, k ≤ i ∧ i < n ∧ Z i k ≠ 0 ∧ Z' = fun r => Z (Mx.sw i k r)) ∨ (b = false ∧ Z' = Z ∧ ∀ i, k ≤ i → i < n → Z i k = 0)) := by
  have n0 := la_syn n Z
  go_enter Try.func76, Try.ntmps76
  go_wp2_with (first | fail | (first | ((with_reducible refine g_ld ?_); refine a_ld HM ?_) | ((with_reducible refine g_st ?_); refine a_st HM ?_; clear HM; intro w1 HM) | ((with_reducible refine g_al ?_); refine a_al HM ?_; clear HM; intro bk w1 HM) | ((with_reducible refine g_bx ?_); refine a_bx HM ?_; clear HM; intro bk w1 HM) | ((with_reducible refine g_bld ?_); refine a_bld ?_)))
  go_loopw [4, 5] (fun rv iv wr => ∃ i : Nat, rv = .bool false ∧ iv = .int .i64 (i : Nat) ∧ k ≤ i ∧ i ≤ n ∧ Hid (∀ r, k ≤ r → r < i → Z r k = 0) ∧ Mem W [] ((bs, Sy.cells n Z) :: R) wr) (fun _ iv _ => n - (intOf iv).toNat)
  case atStart => exact ⟨k, rfl, rfl, by omega, by omega, Lib.hid (fun r h1 h2 => absurd h1 (by omega)), HM⟩
  case round =>
    clear HM
    obtain ⟨i, rfl, rfl, hki, hi, HZ, HM⟩ := hrel
    by_cases hlt : i < n
    · have hlt1 : (i : Int) < n := by omega
      have k1 := la_sy n Z (i := i) (j := k) (by omega) (by omega)
      have hbb := hb.out i hki hlt
      obtain ⟨g, hg⟩ : ∃ g, Hid (g = (Z i k).sign) := ⟨_, Lib.hid rfl⟩
      have S := fun w => sign_z (Z i k) g (Sy.lim hbb) hg w
      by_cases h0 : Z i k = 0
      · obtain rfl : g = 0 := by rw [hg.out, h0]; rfl
        have HZ2 : Hid (∀ r, k ≤ r → r < i + 1 → Z r k = 0) := Lib.hid (fun r h1 h2 => by
          by_cases e : r = i
          · subst e; exact h0
          · exact HZ.out r h1 (by omega))
        clear hg h0 hbb
        go_wp2_with (first | (go_at_call 68; ((with_reducible refine (S _).mono ?_); rintro e9 w2 ⟨rfl, hL⟩; replace HM := HM.call hL; clear hL)) | (first | ((with_reducible refine g_ld ?_); refine a_ld HM ?_) | ((with_reducible refine g_st ?_); refine a_st HM ?_; clear HM; intro w1 HM) | ((with_reducible refine g_al ?_); refine a_al HM ?_; clear HM; intro bk w1 HM) | ((with_reducible refine g_bx ?_); refine a_bx HM ?_; clear HM; intro bk w1 HM) | ((with_reducible refine g_bld ?_); refine a_bld ?_)))
        go_roundw
        case rel => exact ⟨i + 1, rfl, by go_num, by omega, by omega, HZ2, HM⟩
        case measure => simp [intOf]; omega
      · have hg0 : ¬ g = 0 := fun e => h0 (Int.sign_eq_zero_iff_zero.1 (by rw [← hg.out, e]))
        have HN := Lib.hid h0
        have l1 := la_syr n Z (i := k) (by omega)
        have l2 := la_syr n Z (i := i) (by omega)
        have s1 := sa_syr n Z Z (i := i) k (by omega)
        have s2 := sa_syr n (Sy.setr Z i (Z k)) Z (i := k) i (by omega)
        rw [Sy.swap_eq] at s2
        have hk8 : (k : Int) < 8 := by omega
        have hi8 : (i : Int) < 8 := by omega
        clear hg h0 hbb
        go_upto_region 5 with (first | (go_at_call 68; ((with_reducible refine (S _).mono ?_); rintro e9 w2 ⟨rfl, hL⟩; replace HM := HM.call hL; clear hL)) | (first | ((with_reducible refine g_ld ?_); refine a_ld HM ?_) | ((with_reducible refine g_st ?_); refine a_st HM ?_; clear HM; intro w1 HM) | ((with_reducible refine g_al ?_); refine a_al HM ?_; clear HM; intro bk w1 HM) | ((with_reducible refine g_bx ?_); refine a_bx HM ?_; clear HM; intro bk w1 HM) | ((with_reducible refine g_bld ?_); refine a_bld ?_)))
        refine start_M [19, 23] HM (by kernel_rfl) (fun w0x H9 => ?_)
        replace HM := H9; clear H9
        refine k_mv 0 (heldE HM) ?_
        refine k_mv 1 (heldE HM) ?_
        refine k_mv 2 (heldE HM) ?_
        refine k_mv 3 (heldE HM) ?_
        refine k_mv 4 (heldE HM) ?_
        refine k_mv 5 (heldE HM) ?_
        refine k_pv 6 (heldE HM) ?_
        refine k_fa 7 (heldE HM) ?_
        refine k_ia 8 (heldE HM) ?_
        refine k_ld 9 [18, 19, 22, 23] (heldE HM) ?_
        refine k_mv 10 (heldE HM) ?_
        refine k_mv 11 (heldE HM) ?_
        refine k_pv 12 (heldE HM) ?_
        refine k_fa 13 (heldE HM) ?_
        refine k_ia 14 (heldE HM) ?_
        refine k_ld 15 [18, 19, 22, 23] (heldE HM) ?_
        refine k_pv 16 (heldE HM) ?_
        refine k_fa 17 (heldE HM) ?_
        refine k_ia 18 (heldE HM) ?_
        refine k_pv 20 (heldE HM) ?_
        refine k_fa 21 (heldE HM) ?_
        refine j_one 19 fun K9 hK9 => ?_
        refine j_st HM ?_; clear HM; intro w1 HM
        refine hK9 _ _ heldN ?_; clear hK9 K9
        refine k_ia 22 heldN ?_
        refine j_one 23 fun K9 hK9 => ?_
        refine j_st HM ?_; clear HM; intro w1 HM
        refine hK9 _ _ heldN ?_; clear hK9 K9
        refine wpAnyL_done (by kernel_rfl) ?_ _
        go_wp2_with fail
        go_ret
        exact ⟨true, _, rfl, HM, Lib.hid (.inl ⟨rfl, i, hki, hlt, HN.out, rfl⟩)⟩
    · obtain rfl : i = n := by omega
      go_wp2_with (first | fail | (first | ((with_reducible refine g_ld ?_); refine a_ld HM ?_) | ((with_reducible refine g_st ?_); refine a_st HM ?_; clear HM; intro w1 HM) | ((with_reducible refine g_al ?_); refine a_al HM ?_; clear HM; intro bk w1 HM) | ((with_reducible refine g_bx ?_); refine a_bx HM ?_; clear HM; intro bk w1 HM) | ((with_reducible refine g_bld ?_); refine a_bld ?_)))
      go_ret
      exact ⟨false, Z, rfl, HM, Lib.hid (.inr ⟨rfl, rfl, HZ.out⟩)⟩
end Go.Proofs.Ytadnddffdedjgaa
