/- Walks, and plain facts for them. -/
import Derived.Test.YtckhdiljihhdmaaGreatPb18
import Derived.Test.YtckhdiljihhdmaaGreatPb19
import Derived.Test.YtckhdiljihhdmaaGreatPb23
namespace Go.Proofs.YtckhdiljihhdmaaGreat
set_option maxRecDepth 8000
open Go.RowKit
namespace Sy
theorem big_416 : Mx.big < Bg.p2 416 := by
 rw [show 416 = 200 + 216 from rfl, Bg.p2_add]
 unfold Bg.p2 Mx.big
 decide
theorem big_lim : Mx.big * Mx.big * 4 < Bg.p2 1024 := by
 have h1 := Nat.mul_lt_mul'' big_416 big_416
 rw [← Bg.p2_add] at h1
 have h2 : Bg.p2 (416 + 416) * 4 = Bg.p2 834 := by
  rw [show 834 = (416 + 416) + 2 from rfl, Bg.p2_add (416 + 416) 2]
  have : Bg.p2 2 = 4 := by unfold Bg.p2; rfl
  rw [this]
 have h3 := Bg.p2_mono (i := 834) (j := 1024) (by omega)
 omega
theorem lim {z : Int} (h : z.natAbs ≤ Mx.big) : z.natAbs < Bg.lim := by
 have := big_lim
 rw [Bg.p2_lim] at this
 have h1 : Mx.big ≤ Mx.big * Mx.big := Nat.le_mul_self _
 omega
theorem mul_lim {x y : Int} (hx : x.natAbs ≤ Mx.big) (hy : y.natAbs ≤ Mx.big) : (x * y).natAbs ≤ Mx.big * Mx.big := by
 rw [Int.natAbs_mul]; exact Nat.mul_le_mul hx hy
end Sy
theorem mul_ff (p d z : Int) (hp : p.natAbs < Bg.lim) (hd : d.natAbs < Bg.lim) (hz : Hid (z = p * d)) (hl : z.natAbs < Bg.lim) (w : World) :
    Calls Tryz.prog 83 #[.agg (Bg.zA p), .agg (Bg.zA d)] w fun r w' => r = .returned (.tuple #[.agg (Bg.zA z), .int .i64 0]) ∧ Below w.heap.size w w' :=
 mul_z p d z 0 z hp hd hz (Lib.hid (by unfold Bg.resZ; rw [if_pos hl])) (Lib.hid (by unfold Bg.resE; rw [if_pos hl])) w
theorem sub_ff (p d z : Int) (hp : p.natAbs < Bg.lim) (hd : d.natAbs < Bg.lim) (hz : Hid (z = p - d)) (hl : z.natAbs < Bg.lim) (w : World) :
    Calls Tryz.prog 144 #[.agg (Bg.zA p), .agg (Bg.zA d)] w fun r w' => r = .returned (.tuple #[.agg (Bg.zA z), .int .i64 0]) ∧ Below w.heap.size w w' := by
 rw [zA_int p, zA_int d, zA_int z, ← zA_int z, ← Bg.resV_yes hl]
 exact sub_any0 _ _ _ _ hp hd z (Lib.hid (by rw [Bg.toZ_iv, Bg.toZ_iv]; exact hz.out)) w
set_option maxHeartbeats 4000000 in
theorem sminus_any (a d b c y q : Int) (ha : a.natAbs ≤ Mx.big) (hd : d.natAbs ≤ Mx.big) (hb : b.natAbs ≤ Mx.big) (hc : c.natAbs ≤ Mx.big) (hy : y.natAbs ≤ Mx.big) (h0 : y ≠ 0) (hq : Hid (q = (a * d - b * c) / y)) (w : World) :
    Calls Tryz.prog 108 #[.agg (Bg.zA a), .agg (Bg.zA d), .agg (Bg.zA b), .agg (Bg.zA c), .agg (Bg.zA y)] w fun e w' => e = .returned (.agg (Bg.zA q)) ∧ Below w.heap.size w w' := by
 have HM := Mem.start w
 have hz := za_int
 have hbl := Sy.big_lim
 rw [Bg.p2_lim] at hbl
 obtain ⟨u, hu⟩ : ∃ u, Hid (u = a * d) := ⟨_, Lib.hid rfl⟩
 obtain ⟨v, hv⟩ : ∃ v, Hid (v = b * c) := ⟨_, Lib.hid rfl⟩
 obtain ⟨z, hzz⟩ : ∃ z, Hid (z = u - v) := ⟨_, Lib.hid rfl⟩
 obtain ⟨r, hr⟩ : ∃ r, Hid (r = z % y) := ⟨_, Lib.hid rfl⟩
 have lu : u.natAbs ≤ Mx.big * Mx.big := by rw [hu.out]; exact Sy.mul_lim ha hd
 have lv : v.natAbs ≤ Mx.big * Mx.big := by rw [hv.out]; exact Sy.mul_lim hb hc
 have lz : z.natAbs ≤ Mx.big * Mx.big + Mx.big * Mx.big := by rw [hzz.out]; omega
 have hq2 : Hid (q = z / y) := Lib.hid (by rw [hq.out, hzz.out, hu.out, hv.out])
 have M1 := fun w => mul_ff a d u (Sy.lim ha) (Sy.lim hd) hu (by omega) w
 have M2 := fun w => mul_ff b c v (Sy.lim hb) (Sy.lim hc) hv (by omega) w
 have S1 := fun w => sub_ff u v z (by omega) (by omega) hzz (by omega) w
 have D1 := fun w => divMod_f z y q r (by omega) (Sy.lim hy) h0 hq2 hr w
 clear hbl lu lv lz ha hd hb hc hy h0
 go_enter Tryz.func108, Tryz.ntmps108
 go_wp2_with (first | first
  | (go_at_call 83; ((with_reducible refine (M1 _).mono ?_); rintro e9 w2 ⟨rfl, hL⟩; replace HM := HM.call hL; clear hL)) | (go_at_call 83; ((with_reducible refine (M2 _).mono ?_); rintro e9 w2 ⟨rfl, hL⟩; replace HM := HM.call hL; clear hL)) | (go_at_call 144; ((with_reducible refine (S1 _).mono ?_); rintro e9 w2 ⟨rfl, hL⟩; replace HM := HM.call hL; clear hL)) | (go_at_call 145; ((with_reducible refine (D1 _).mono ?_); rintro e9 w2 ⟨rfl, hL⟩; replace HM := HM.call hL; clear hL)) | (first | ((with_reducible refine g_ld ?_); refine a_ld HM ?_) | ((with_reducible refine g_st ?_); refine a_st HM ?_; clear HM; intro w1 HM) | ((with_reducible refine g_al ?_); refine a_al HM ?_; clear HM; intro bk w1 HM) | ((with_reducible refine g_bx ?_); refine a_bx HM ?_; clear HM; intro bk w1 HM)))
 refine bodyPost_ret (r_c rfl rfl (HM.get (by ((repeat (first | exact Look.here | refine Look.there ?_)); done))) (la_z _)) rfl ⟨rfl, HM.low⟩
end Go.Proofs.YtckhdiljihhdmaaGreat
namespace Go.Proofs.YtckhdiljihhdmaaGreat
set_option maxRecDepth 8000
open Go.RowKit
theorem shift_get (x : Value) (m : Array Value) (p : Nat) : (#[x] ++ m)[1 + p]? = m[p]? := by
 rw [Array.getElem?_append]
 simp
theorem shift_extract (x : Value) (m : Array Value) (p s : Nat) : (#[x] ++ m).extract (1 + p) (1 + p + s) = m.extract p (p + s) := by
 apply Array.ext_getElem?
 intro j
 rw [Array.getElem?_extract, Array.getElem?_extract]
 have hs : (#[x] ++ m).size = m.size + 1 := by rw [Array.size_append]; simp [Nat.add_comm]
 by_cases hj : j < min (p + s) m.size - p
 ·rw [if_pos (by omega), if_pos hj, Nat.add_assoc, shift_get]
 ·rw [if_neg (by omega), if_neg hj]
theorem shift_set (x v : Value) (m : Array Value) (p : Nat) : (#[x] ++ m).setIfInBounds (1 + p) v = #[x] ++ m.setIfInBounds p v := by
 apply Array.ext_getElem?
 intro j
 rw [Array.getElem?_setIfInBounds]
 cases j with
 | zero =>
  rw [if_neg (by omega), Array.getElem?_append, Array.getElem?_append]
  simp
 | succ j =>
  rw [Nat.add_comm j 1, shift_get, shift_get, Array.getElem?_setIfInBounds, Array.size_append]
  by_cases e : p = j
  ·subst e
   rw [if_pos rfl, if_pos rfl]
   by_cases hp : p < m.size
   ·rw [if_pos hp, if_pos (by simp; omega)]
   ·rw [if_neg hp, if_neg (by simp; omega)]
  ·rw [if_neg e, if_neg (by omega)]
theorem shift_setAll (x : Value) : ∀ (l : List Value) (m : Array Value) (p : Nat), setAll (#[x] ++ m) (1 + p) l = #[x] ++ setAll m p l
 | [], _, _ => rfl
 | v :: l, m, p => by rw [setAll, shift_set, setAll, Nat.add_assoc, shift_setAll x l]
theorem rows_join (ll : List (List (Array Value))) : rowsOf (ll.map rowsOf) = rowsOf ll.flatten := by
 induction ll with
 | nil => rfl
 | cons l ll ih => rw [List.map_cons, rowsOf, ih, List.flatten_cons, rows_append]
namespace Sy
def flat (Z : Nat → Nat → Int) : List (Array Value) := (List.range 72).map fun k => Bg.zA (Z (k / 9) (k % 9))
def rowl (Z : Nat → Nat → Int) (i : Nat) : List (Array Value) := (List.range 9).map fun j => Bg.zA (Z i j)
@[irreducible] def row (Z : Nat → Nat → Int) (i : Nat) : Array Value := rowsOf (rowl Z i)
theorem flat_nest (Z : Nat → Nat → Int) : flat Z = ((List.range 8).map fun i => rowl Z i).flatten := by unfold flat rowl; kernel_rfl
theorem flat_sizes (Z : Nat → Nat → Int) : ∀ c ∈ flat Z, c.size = 33 := by
 intro c hc
 obtain ⟨k, _, rfl⟩ := List.mem_map.1 hc
 exact zA_size _
theorem rowl_sizes (Z : Nat → Nat → Int) (i : Nat) : ∀ c ∈ rowl Z i, c.size = 33 := by
 intro c hc
 obtain ⟨k, _, rfl⟩ := List.mem_map.1 hc
 exact zA_size _
theorem row_size (Z : Nat → Nat → Int) (i : Nat) : (row Z i).size = 297 := by unfold row; rw [rows_size (rowl_sizes Z i)]; simp [rowl]
theorem row_one (Z : Nat → Nat → Int) (i : Nat) : (row Z i).all (·.oneCell') = true := by
 unfold row
 refine rows_cells_one fun c hc => ?_
 obtain ⟨k, _, rfl⟩ := List.mem_map.1 hc
 exact zA_one _
theorem row_congr {Z Y : Nat → Nat → Int} {i k : Nat} (h : Z i = Y k) : row Z i = row Y k := by unfold row rowl; rw [h]
def nest (Z : Nat → Nat → Int) : List (Array Value) := (List.range 8).map fun i => row Z i
theorem nest_sizes (Z : Nat → Nat → Int) : ∀ c ∈ nest Z, c.size = 297 := by
 intro c hc
 obtain ⟨k, _, rfl⟩ := List.mem_map.1 hc
 exact row_size _ _
@[irreducible] def cells (n : Int) (Z : Nat → Nat → Int) : Array Value := #[.int .i64 n] ++ rowsOf (flat Z)
theorem cells_flat (n : Int) (Z : Nat → Nat → Int) : cells n Z = #[.int .i64 n] ++ rowsOf (flat Z) := by unfold cells; rfl
theorem cells_nest (n : Int) (Z : Nat → Nat → Int) : cells n Z = #[.int .i64 n] ++ rowsOf (nest Z) := by
 have e : ((List.range 8).map fun i => rowl Z i).map rowsOf = nest Z := by
  rw [List.map_map]
  unfold nest
  refine List.map_congr_left fun i _ => ?_
  show rowsOf (rowl Z i) = row Z i
  unfold row; rfl
 rw [cells_flat, flat_nest, ← rows_join, e]
theorem cells_size (n : Int) (Z : Nat → Nat → Int) : (cells n Z).size = 2377 := by
 rw [cells_flat, Array.size_append, rows_size (flat_sizes Z)]; simp [flat]
theorem flat_at (Z : Nat → Nat → Int) {i j : Nat} (hi : i < 8) (hj : j < 9) : (flat Z)[9 * i + j]? = some (Bg.zA (Z i j)) := by
 unfold flat
 rw [List.getElem?_map, List.getElem?_range (by omega)]
 rw [Option.map_some, show (9 * i + j) / 9 = i by omega, show (9 * i + j) % 9 = j by omega]
theorem nest_at (Z : Nat → Nat → Int) {i : Nat} (hi : i < 8) : (nest Z)[i]? = some (row Z i) := by unfold nest; simp [hi]
def upd (Z : Nat → Nat → Int) (i j : Nat) (q : Int) : Nat → Nat → Int := fun r c => if r = i ∧ c = j then q else Z r c
theorem flat_set (Z : Nat → Nat → Int) {i j : Nat} (q : Int) (_ : i < 8) (hj : j < 9) : (flat Z).set (9 * i + j) (Bg.zA q) = flat (upd Z i j q) := by
 apply List.ext_getElem?
 intro k
 rw [List.getElem?_set]
 have hl : ∀ Z, (flat Z).length = 72 := fun Z => by simp [flat]
 by_cases e : 9 * i + j = k
 ·subst e
  rw [if_pos rfl, hl, if_pos (by omega), flat_at _ (by omega) hj]
  unfold upd; rw [if_pos ⟨rfl, rfl⟩]
 ·rw [if_neg e]
  by_cases hk : k < 72
  ·unfold flat
   rw [List.getElem?_map, List.getElem?_map, List.getElem?_range hk, Option.map_some, Option.map_some]
   unfold upd
   rw [if_neg (by omega)]
  ·rw [List.getElem?_eq_none (by rw [hl]; omega), List.getElem?_eq_none (by rw [hl]; omega)]
def setr (Z : Nat → Nat → Int) (i : Nat) (f : Nat → Int) : Nat → Nat → Int := fun r => if r = i then f else Z r
theorem nest_set (Z Y : Nat → Nat → Int) (i k : Nat) : (nest Z).set i (row Y k) = nest (setr Z i (Y k)) := by
 apply List.ext_getElem?
 intro j
 rw [List.getElem?_set]
 have hl : ∀ Z, (nest Z).length = 8 := fun Z => by simp [nest]
 by_cases e : i = j
 ·subst e
  rw [if_pos rfl, hl]
  by_cases hi : i < 8
  ·rw [if_pos hi, nest_at _ hi, row_congr (Z := Y) (i := k) (Y := setr Z i (Y k)) (k := i) (by unfold setr; rw [if_pos rfl])]
  ·rw [if_neg hi, List.getElem?_eq_none (by rw [hl]; omega)]
 ·rw [if_neg e]
  by_cases hj : j < 8
  ·rw [nest_at _ hj, nest_at _ hj, row_congr (Z := Z) (i := j) (Y := setr Z i (Y k)) (k := j) (by unfold setr; rw [if_neg (fun h => e h.symm)])]
  ·rw [List.getElem?_eq_none (by rw [hl]; omega), List.getElem?_eq_none (by rw [hl]; omega)]
end Sy
theorem la_syn (n : Int) (Z : Nat → Nat → Int) : LA 3 (Sy.cells n Z) 0 (.int .i64 n) := LA.one (by kernel_rfl) (by rw [Sy.cells_flat, Array.getElem?_append]; simp)
theorem la_sy (n : Int) (Z : Nat → Nat → Int) {i j : Nat} (hi : i < 8) (hj : j < 9) : LA 48 (Sy.cells n Z) (1 + i * 297 + j * 33) (.agg (Bg.zA (Z i j))) := by
 rw [show 1 + i * 297 + j * 33 = 1 + (33 * (9 * i + j) + 0) by omega]
 refine LA.mid (by kernel_rfl) sT_int (by rw [Sy.cells_size]; omega) ?_
 rw [Sy.cells_flat, shift_extract, rows_extract (Sy.flat_sizes Z) (Sy.flat_at Z hi hj) (by omega)]
 have := zA_size (Z i j)
 rw [Nat.zero_add, ← this]; simp
theorem la_syr (n : Int) (Z : Nat → Nat → Int) {i : Nat} (hi : i < 8) : LA 120 (Sy.cells n Z) (1 + i * 297) (.agg (Sy.row Z i)) := by
 rw [show 1 + i * 297 = 1 + (297 * i + 0) by omega]
 refine LA.mid (n := 297) (by kernel_rfl) (by kernel_rfl) (by rw [Sy.cells_size]; omega) ?_
 rw [Sy.cells_nest, shift_extract, rows_extract (Sy.nest_sizes Z) (Sy.nest_at Z hi) (by omega)]
 have := Sy.row_size Z i
 rw [Nat.zero_add, ← this]; simp
theorem sa_sy (n : Int) (Z : Nat → Nat → Int) {i j : Nat} (q : Int) (hi : i < 8) (hj : j < 9) : SA 48 (Sy.cells n Z) (1 + i * 297 + j * 33) (.agg (Bg.zA q)) (Sy.cells n (Sy.upd Z i j q)) := by
 rw [show 1 + i * 297 + j * 33 = 1 + 33 * (9 * i + j) by omega]
 refine SA.mid (by rw [zA_size]; exact sT_int) (zA_one q) (by rw [Sy.cells_size, zA_size]; omega) ?_
 rw [Sy.cells_flat, shift_setAll, rows_set (Sy.flat_sizes Z) (Sy.flat_at Z hi hj) (zA_size q), Sy.flat_set Z q hi hj, ← Sy.cells_flat]
theorem sa_syr (n : Int) (Z Y : Nat → Nat → Int) {i : Nat} (k : Nat) (hi : i < 8) : SA 120 (Sy.cells n Z) (1 + i * 297) (.agg (Sy.row Y k)) (Sy.cells n (Sy.setr Z i (Y k))) := by
 rw [show 1 + i * 297 = 1 + 297 * i by omega]
 refine SA.mid (by rw [Sy.row_size]; kernel_rfl) (Sy.row_one Y k) (by rw [Sy.cells_size, Sy.row_size]; omega) ?_
 rw [Sy.cells_nest, shift_setAll, rows_set (Sy.nest_sizes Z) (Sy.nest_at Z hi) (Sy.row_size Y k), Sy.nest_set, ← Sy.cells_nest]
theorem Sy.swap_eq (Z : Nat → Nat → Int) (i k : Nat) : Sy.setr (Sy.setr Z i (Z k)) k (Z i) = fun r => Z (Mx.sw i k r) := by
 funext r
 unfold Sy.setr Mx.sw
 by_cases h1 : r = k
 ·subst h1
  rw [if_pos rfl]
  by_cases h2 : r = i
  ·subst h2; rw [if_pos rfl]
  ·rw [if_neg h2, if_pos rfl]
 ·rw [if_neg h1]
  by_cases h2 : r = i
  ·rw [if_pos h2, if_pos h2]
  ·rw [if_neg h2, if_neg h2, if_neg h1]
set_option maxHeartbeats 4000000 in
theorem pivot_any (n k : Nat) (Z : Nat → Nat → Int) (bs : Nat) (W w : World) (R : List (Nat × Array Value)) (HM : Mem W [] ((bs, Sy.cells n Z) :: R) w) (hn : n ≤ 8) (hk : k < n) (hb : Hid (∀ i, k ≤ i → i < n → (Z i k).natAbs ≤ Mx.big)) :
    Calls Tryz.prog 107 #[.pointer (some ⟨bs, 0, none⟩), .int .i64 (k : Nat)] w fun e w' => ∃ b Z', e = .returned (.bool b) ∧ Mem W [] ((bs, Sy.cells n Z') :: R) w' ∧ Hid ((b = true ∧ ∃ i, k ≤ i ∧ i < n ∧ Z i k ≠ 0 ∧ Z' = fun r => Z (Mx.sw i k r)) ∨ (b = false ∧ Z' = Z ∧ ∀ i, k ≤ i → i < n → Z i k = 0)) := by
 have n0 := la_syn n Z
 go_enter Tryz.func107, Tryz.ntmps107
 go_wp2_with (first | ((with_reducible refine g_ld ?_); refine a_ld HM ?_) | ((with_reducible refine g_st ?_); refine a_st HM ?_; clear HM; intro w1 HM))
 go_loopw [4, 5] (fun rv iv wr => ∃ i : Nat, rv = .bool false ∧ iv = .int .i64 (i : Nat) ∧ k ≤ i ∧ i ≤ n ∧ Hid (∀ r, k ≤ r → r < i → Z r k = 0) ∧ Mem W [] ((bs, Sy.cells n Z) :: R) wr) (fun _ iv _ => n - (intOf iv).toNat)
 case atStart => exact ⟨k, rfl, rfl, by omega, by omega, Lib.hid (fun r h1 h2 => absurd h1 (by omega)), HM⟩
 case round =>
  clear HM
  obtain ⟨i, rfl, rfl, hki, hi, HZ, HM⟩ := hrel
  by_cases hlt : i < n
  ·have hlt1 : (i : Int) < n := by omega
   have k1 := la_sy n Z (i := i) (j := k) (by omega) (by omega)
   have hbb := hb.out i hki hlt
   obtain ⟨g, hg⟩ : ∃ g, Hid (g = (Z i k).sign) := ⟨_, Lib.hid rfl⟩
   have S := fun w => sign_z (Z i k) g (Sy.lim hbb) hg w
   by_cases h0 : Z i k = 0
   ·obtain rfl : g = 0 := by rw [hg.out, h0]; rfl
    have HZ2 : Hid (∀ r, k ≤ r → r < i + 1 → Z r k = 0) := Lib.hid (fun r h1 h2 => by
     by_cases e : r = i
     ·subst e; exact h0
     ·exact HZ.out r h1 (by omega))
    clear hg h0 hbb
    go_wp2_with (first | (go_at_call 122; ((with_reducible refine (S _).mono ?_); rintro e9 w2 ⟨rfl, hL⟩; replace HM := HM.call hL; clear hL)) | (first | ((with_reducible refine g_ld ?_); refine a_ld HM ?_) | ((with_reducible refine g_st ?_); refine a_st HM ?_; clear HM; intro w1 HM)))
    go_roundw
    case rel => exact ⟨i + 1, rfl, by go_num, by omega, by omega, HZ2, HM⟩
    case measure => simp [intOf]; omega
   ·have hg0 : ¬ g = 0 := fun e => h0 (Int.sign_eq_zero_iff_zero.1 (by rw [← hg.out, e]))
    have HN := Lib.hid h0
    have l1 := la_syr n Z (i := k) (by omega)
    have l2 := la_syr n Z (i := i) (by omega)
    have s1 := sa_syr n Z Z (i := i) k (by omega)
    have s2 := sa_syr n (Sy.setr Z i (Z k)) Z (i := k) i (by omega)
    rw [Sy.swap_eq] at s2
    have hk8 : (k : Int) < 8 := by omega
    have hi8 : (i : Int) < 8 := by omega
    clear hg h0 hbb
    go_upto_region 5 with (first | (go_at_call 122; ((with_reducible refine (S _).mono ?_); rintro e9 w2 ⟨rfl, hL⟩; replace HM := HM.call hL; clear hL)) | (first | ((with_reducible refine g_ld ?_); refine a_ld HM ?_) | ((with_reducible refine g_st ?_); refine a_st HM ?_; clear HM; intro w1 HM)))
    refine start_M [19, 23] HM (by kernel_rfl) (fun w0x H9 => ?_)
    replace HM := H9; clear H9
    refine k_mv 0 (heldE HM) ?_
    refine k_mv 1 (heldE HM) ?_
    refine k_mv 2 (heldE HM) ?_
    refine k_mv 3 (heldE HM) ?_
    refine k_mv 4 (heldE HM) ?_
    refine k_mv 5 (heldE HM) ?_
    refine k_pv 6 (heldE HM) ?_
    refine k_fa 7 (heldE HM) ?_
    refine k_ia 8 (heldE HM) ?_
    refine k_ld 9 [18, 19, 22, 23] (heldE HM) ?_
    refine k_mv 10 (heldE HM) ?_
    refine k_mv 11 (heldE HM) ?_
    refine k_pv 12 (heldE HM) ?_
    refine k_fa 13 (heldE HM) ?_
    refine k_ia 14 (heldE HM) ?_
    refine k_ld 15 [18, 19, 22, 23] (heldE HM) ?_
    refine k_pv 16 (heldE HM) ?_
    refine k_fa 17 (heldE HM) ?_
    refine k_ia 18 (heldE HM) ?_
    refine k_pv 20 (heldE HM) ?_
    refine k_fa 21 (heldE HM) ?_
    refine j_one 19 fun K9 hK9 => ?_
    refine j_st HM ?_; clear HM; intro w1 HM
    refine hK9 _ _ heldN ?_; clear hK9 K9
    refine k_ia 22 heldN ?_
    refine j_one 23 fun K9 hK9 => ?_
    refine j_st HM ?_; clear HM; intro w1 HM
    refine hK9 _ _ heldN ?_; clear hK9 K9
    refine wpAnyL_done (by kernel_rfl) ?_ _
    go_wp2_with fail
    go_ret
    exact ⟨true, _, rfl, HM, Lib.hid (.inl ⟨rfl, i, hki, hlt, HN.out, rfl⟩)⟩
  ·obtain rfl : i = n := by omega
   go_wp2_with (first | ((with_reducible refine g_ld ?_); refine a_ld HM ?_) | ((with_reducible refine g_st ?_); refine a_st HM ?_; clear HM; intro w1 HM))
   go_ret
   exact ⟨false, Z, rfl, HM, Lib.hid (.inr ⟨rfl, rfl, HZ.out⟩)⟩
end Go.Proofs.YtckhdiljihhdmaaGreat
namespace Go.Proofs.YtckhdiljihhdmaaGreat
set_option maxRecDepth 8000
open Go.RowKit
namespace Sy
def pt (n : Nat) (Z : Nat → Nat → Int) (k : Nat) (last : Int) (i j : Nat) : Nat → Nat → Int := fun r c => if r < i ∧ c ≤ n ∨ r = i ∧ c < j then Mx.nx Z k last r c else Z r c
theorem pt_start {n : Nat} {Z : Nat → Nat → Int} {k : Nat} {last : Int} : pt n Z k last 0 0 = Z := by
 funext r c; unfold pt; rw [if_neg (by omega)]
theorem pt_next {n : Nat} {Z : Nat → Nat → Int} {k : Nat} {last : Int} {i : Nat} : pt n Z k last i (n + 1) = pt n Z k last (i + 1) 0 := by
 funext r c; unfold pt
 by_cases h : r < i ∧ c ≤ n ∨ r = i ∧ c < n + 1
 ·rw [if_pos h, if_pos (by omega)]
 ·rw [if_neg h, if_neg (by omega)]
theorem pt_skip {n : Nat} {Z : Nat → Nat → Int} {k : Nat} {last : Int} : pt n Z k last k 0 = pt n Z k last (k + 1) 0 := by
 funext r c; unfold pt
 by_cases h : r < k ∧ c ≤ n ∨ r = k ∧ c < 0
 ·rw [if_pos h, if_pos (by omega)]
 ·rw [if_neg h]
  by_cases h2 : r < k + 1 ∧ c ≤ n ∨ r = k + 1 ∧ c < 0
  ·rw [if_pos h2]
   obtain rfl : r = k := by omega
   unfold Mx.nx; rw [if_pos rfl]
  ·rw [if_neg h2]
theorem pt_set {n : Nat} {Z : Nat → Nat → Int} {k : Nat} {last : Int} {i j : Nat} : upd (pt n Z k last i j) i j (Mx.nx Z k last i j) = pt n Z k last i (j + 1) := by
 funext r c; unfold upd pt
 by_cases h : r = i ∧ c = j
 ·obtain ⟨rfl, rfl⟩ := h
  rw [if_pos ⟨rfl, rfl⟩, if_pos (by omega)]
 ·rw [if_neg h]
  by_cases h2 : r < i ∧ c ≤ n ∨ r = i ∧ c < j
  ·rw [if_pos h2, if_pos (by omega)]
  ·rw [if_neg h2, if_neg (by omega)]
theorem pt_at {n : Nat} {Z : Nat → Nat → Int} {k : Nat} {last : Int} {i j c : Nat} (h : j ≤ c) : pt n Z k last i j i c = Z i c := by
 unfold pt; rw [if_neg (by omega)]
theorem pt_row {n : Nat} {Z : Nat → Nat → Int} {k : Nat} {last : Int} {i j c : Nat} : pt n Z k last i j k c = Z k c := by
 unfold pt
 by_cases h : k < i ∧ c ≤ n ∨ k = i ∧ c < j
 ·rw [if_pos h]; unfold Mx.nx; rw [if_pos rfl]
 ·rw [if_neg h]
theorem piv {n k : Nat} {A : Mx.Mat} {m : Bool} {Z Z' : Nat → Nat → Int} {last : Int} (h : Mx.Gz n (n + 1) A k 0 m Z last) (_ : k < n) (hp : ∃ i, k ≤ i ∧ i < n ∧ Z i k ≠ 0 ∧ Z' = fun r => Z (Mx.sw i k r)) : (∃ m', Mx.Gz n (n + 1) A k 0 m' Z' last) ∧ Z' k k ≠ 0 := by
 obtain ⟨i, h1, h2, h3, rfl⟩ := hp
 have e : Mx.sw i k k = i := by
  unfold Mx.sw
  by_cases e : k = i
  ·rw [if_pos e]; exact e
  ·rw [if_neg e, if_pos rfl]
 refine ⟨?_, by show Z (Mx.sw i k k) k ≠ 0; rw [e]; exact h3⟩
 by_cases hi : k < i
 ·exact ⟨_, h.swap (by omega) hi h2⟩
 ·obtain rfl : i = k := by omega
  refine ⟨m, h.congr fun r j _ _ _ _ => ?_⟩
  have : Mx.sw i i r = r := by
   unfold Mx.sw
   by_cases e : r = i
   ·rw [if_pos e]; exact e.symm
   ·rw [if_neg e, if_neg e]
  show Z (Mx.sw i i r) j = Z r j
  rw [this]
end Sy
theorem rows_flat (l : List (Array Value)) : rowsOf l = ((l.map Array.toList).flatten).toArray := by
 induction l with
 | nil => rfl
 | cons c l ih => rw [rowsOf, ih, List.map_cons, List.flatten_cons]; simp
namespace Sy
def Z1l : List Value := .bool false :: List.replicate 32 (.int .u32 0)
theorem zA0 : (Bg.zA 0).toList = Z1l := by rw [← zA_zero, ← Bg.zeroInt]; rfl
theorem rZ0 : (Bg.rZ 0 0).toList = Z1l ++ Z1l := by
 rw [← rZ_zero]; unfold Bg.ratA; rw [← Bg.zeroInt]; rfl
end Sy
namespace So
@[irreducible] def arr (f : Nat → Rat) (m : Nat) : Array Value := rowsOf ((List.range 8).map fun i => if i < m then Rt.qA (f i) else Bg.rZ 0 0)
def arl (f : Nat → Rat) (m : Nat) : List (Array Value) := (List.range 8).map fun i => if i < m then Rt.qA (f i) else Bg.rZ 0 0
theorem arr_eq (f : Nat → Rat) (m : Nat) : arr f m = rowsOf (arl f m) := by unfold arr arl; rfl
theorem arl_sizes (f : Nat → Rat) (m : Nat) : ∀ c ∈ arl f m, c.size = 66 := by
 intro c hc
 obtain ⟨i, _, rfl⟩ := List.mem_map.1 hc
 split
 ·exact qA_size _
 ·exact rZ_size _ _
theorem arr_size (f : Nat → Rat) (m : Nat) : (arr f m).size = 528 := by rw [arr_eq, rows_size (arl_sizes f m)]; simp [arl]
theorem arr_one (f : Nat → Rat) (m : Nat) : (arr f m).all (·.oneCell') = true := by
 rw [arr_eq]
 refine rows_cells_one fun c hc => ?_
 obtain ⟨i, _, rfl⟩ := List.mem_map.1 hc
 split
 ·exact qA_one _
 ·exact rZ_one 0 0
theorem arl_at (f : Nat → Rat) {m i : Nat} (h8 : i < 8) : (arl f m)[i]? = some (if i < m then Rt.qA (f i) else Bg.rZ 0 0) := by unfold arl; simp [h8]
theorem arl_set (f : Nat → Rat) {i : Nat} (h8 : i < 8) : (arl f i).set i (Rt.qA (f i)) = arl f (i + 1) := by
 apply List.ext_getElem?
 intro j
 rw [List.getElem?_set]
 have hl : ∀ m, (arl f m).length = 8 := fun m => by simp [arl]
 by_cases e : i = j
 ·subst e; rw [if_pos rfl, hl, if_pos h8, arl_at f h8, if_pos (by omega)]
 ·rw [if_neg e]
  by_cases hj : j < 8
  ·rw [arl_at f hj, arl_at f hj]
   by_cases h1 : j < i
   ·rw [if_pos h1, if_pos (by omega)]
   ·rw [if_neg h1, if_neg (by omega)]
  ·rw [List.getElem?_eq_none (by rw [hl]; omega), List.getElem?_eq_none (by rw [hl]; omega)]
end So
theorem la_arr8 (f : Nat → Rat) (m : Nat) : LA 124 (So.arr f m) 0 (.agg (So.arr f m)) := LA.whole (by kernel_rfl) (by rw [So.arr_size]; kernel_rfl)
theorem sa_arr8 (f g : Nat → Rat) (m k : Nat) : SA 124 (So.arr f m) 0 (.agg (So.arr g k)) (So.arr g k) := SA.whole (by rw [So.arr_size]; kernel_rfl) (So.arr_one g k) (by rw [So.arr_size, So.arr_size])
theorem la_arr8i (f : Nat → Rat) {m i : Nat} (hi : i < m) (h8 : i < 8) : LA 50 (So.arr f m) (i * 66) (.agg (Rt.qA (f i))) := by
 rw [So.arr_eq]
 have := So.arl_at f (m := m) h8
 rw [if_pos hi] at this
 exact la_row (by kernel_rfl) (by kernel_rfl) (So.arl_sizes f m) this
theorem sa_arr8i (f : Nat → Rat) {i : Nat} (h8 : i < 8) : SA 50 (So.arr f i) (i * 66) (.agg (Rt.qA (f i))) (So.arr f (i + 1)) := by
 rw [So.arr_eq, So.arr_eq, ← So.arl_set f h8]
 exact sa_row (by kernel_rfl) (So.arl_sizes f i) (So.arl_at f h8) (qA_size _) (qA_one _)
theorem So.arr_zero (f : Nat → Rat) : So.arr f 0 = ((List.replicate 8 (Sy.Z1l ++ Sy.Z1l)).flatten).toArray := by
 rw [So.arr_eq, rows_flat]
 unfold So.arl
 rw [show List.range 8 = [0, 1, 2, 3, 4, 5, 6, 7] from rfl]
 simp only [List.map, Nat.not_lt_zero, if_false, Sy.rZ0]
 rfl
theorem So.arr_same (f g : Nat → Rat) : So.arr f 0 = So.arr g 0 := by rw [So.arr_zero, So.arr_zero]
theorem za_arr8 (f : Nat → Rat) : ZA 124 (So.arr f 0) := ⟨.agg (So.arr f 0), rfl, fun w => by
 rw [So.arr_zero]; kernel_rfl⟩
theorem Sy.cells_zero (n : Int) : Sy.cells n (fun _ _ => 0) = (.int .i64 n :: (List.replicate 72 Sy.Z1l).flatten).toArray := by
 rw [Sy.cells_flat, rows_flat]
 unfold Sy.flat
 have e : ((List.range 72).map fun _ => Bg.zA 0).map Array.toList = List.replicate 72 Sy.Z1l := by
  rw [List.map_map]
  show (List.range 72).map (fun _ => (Bg.zA 0).toList) = _
  rw [Sy.zA0, List.map_const', List.length_range]
 rw [e]; simp
end Go.Proofs.YtckhdiljihhdmaaGreat
namespace Go.Proofs.YtckhdiljihhdmaaGreat
set_option maxRecDepth 8000
open Go.RowKit
section
variable {md : Region.Mode} {ops : Array Oper} {Q : Exit → Act → World → Prop} {K : List Nat} {w0 w : World} {X : List Nat} {L L' : List (Nat × Array Value)} {i : Nat} {oi : Oper} {d : Tmp} {fuel : Nat} {listed : Array Bool} {a : Act}
theorem heldF (HM : Mem w0 X L' w) (hs : Sub L L' := by first | exact Sub.refl _ | (repeat (first | exact Sub.nil | exact Sub.refl _ | refine Sub.keep ?_ | refine Sub.skip ?_))) : Held (fun _ => True) (fun w' => Mem w0 X L w') K listed w := ⟨trivial, fun _ => HM.less hs⟩
end
section
variable {md : Region.Mode} {ops : Array Oper} {Q : Exit → Act → World → Prop} {S2 : World → Prop} {K : List Nat} {w0 w : World} {X : List Nat} {L L' : List (Nat × Array Value)} {oi : Oper} {d : Tmp} {fuel : Nat} {listed : Array Bool} {a a2 : Act} {b k : Nat} {c c' : Array Value} {T T2 : TypeId} {x y : Operand} {v vx vy : Value}
variable {R : Act → World → Prop}
theorem j_call5 {f : FuncId} {ts : Array TypeId} {x1 x2 x3 x4 x5 : Operand} {v1 v2 v3 v4 v5 : Value} (HM : Mem w0 X L w) (hc : Calls Tryz.prog f #[v1, v2, v3, v4, v5] w fun e w' => e = .returned v ∧ Below w.heap.size w w') (h : ∀ w', Mem w0 X L w' → R a2 w') (hd : oi.dst = some d := by rfl) (ho : oi.op = .call { callee := .value (.func f), args := #[x1, x2, x3, x4, x5], argTypes := ts } := by rfl) (hf : goF f = true := by kernel_rfl) (h1 : a.eval x1 = v1 := by (conv => lhs; whnf) <;> rfl) (h2 : a.eval x2 = v2 := by (conv => lhs; whnf) <;> rfl) (h3 : a.eval x3 = v3 := by (conv => lhs; whnf) <;> rfl) (h4 : a.eval x4 = v4 := by (conv => lhs; whnf) <;> rfl) (h5 : a.eval x5 = v5 := by (conv => lhs; whnf) <;> rfl) (ha : ({ a with tmps := a.tmps.setIfInBounds d v } : Act) = a2 := by ((try simp only [List.setIfInBounds_toArray, List.set_cons_succ, List.set_cons_zero]) <;> rfl)) : Oper.wp Tryz.prog oi a w R Q := o_call hc HM hd (h_call ho hf (by simp [h1, h2, h3, h4, h5])) fun w9 h9 => ha ▸ h w9 h9
end
set_option maxHeartbeats 4000000 in
theorem solve_any (n : Nat) (Z0 : Nat → Nat → Int) (bs : Nat) (W w : World) (R : List (Nat × Array Value)) (HM : Mem W [] ((bs, Sy.cells n Z0) :: R) w) (hn : n ≤ 8) (hE : Mx.Ent (Ns.ext n Z0) n (1000000000000000 : Nat)) (hN : Mx.Ns n (Ns.ext n Z0)) :
    Calls Tryz.prog 77 #[.pointer (some ⟨bs, 0, none⟩)] w fun e w' => ∃ f Z', e = .returned (.tuple #[.agg (So.arr f n), .bool true]) ∧ Mem W [] ((bs, Sy.cells n Z') :: R) w' ∧ Hid (Mx.Solves n (Ns.ext n Z0) f ∧ ∀ i, i < n → Rt.Fit (f i)) := by
 have HEN := Lib.hid hE
 have HNS := Lib.hid hN
 have za := za_arr8 fun _ => 0
 have zi := za_int
 have zq := za_rat
 have n0 := la_syn n Z0
 have F1 := fun w => fromInt_z 1 (by decide) (by decide) w
 have hst : Mx.Gz n (n + 1) (Ns.ext n Z0) 0 0 false Z0 1 := Mx.Gz.start Ns.ext_unit (fun i j hi hj => by unfold Ns.ext; rw [if_pos (by omega)])
 have HG := Lib.hid hst
 clear hE hN hst
 go_enter Tryz.func77, Tryz.ntmps77
 go_upto_region 3 with (first | (go_at_call 59; ((with_reducible refine (F1 _).mono ?_); rintro e9 w2 ⟨rfl, hL⟩; replace HM := HM.call hL; clear hL)) | (first | ((with_reducible refine g_ld ?_); refine a_ld HM ?_) | ((with_reducible refine g_st ?_); refine a_st HM ?_; clear HM; intro w1 HM) | ((with_reducible refine g_al ?_); refine a_al HM ?_; clear HM; intro bk w1 HM)))
 obtain ⟨b5, rfl⟩ := HM.nm0
 obtain ⟨b4, rfl⟩ := HM.nm1
 obtain ⟨b2, rfl⟩ := HM.nm2
 clear F1
 go_wp2_with (first | ((with_reducible refine g_ld ?_); refine a_ld HM ?_) | ((with_reducible refine g_st ?_); refine a_st HM ?_; clear HM; intro w1 HM) | ((with_reducible refine g_al ?_); refine a_al HM ?_; clear HM; intro bk w1 HM))
 go_loopw [19] (fun kv wr => ∃ (k : Nat) (m : Bool) (Z : Nat → Nat → Int) (last : Int), kv = .int .i64 (k : Nat) ∧ k ≤ n ∧ Hid (Mx.Gz n (n + 1) (Ns.ext n Z0) k 0 m Z last) ∧ Mem W [] ((b5, Bg.zA last) :: (b4, So.arr (fun _ => 0) 0) :: (b2, So.arr (fun _ => 0) 0) :: (bs, Sy.cells n Z) :: R) wr) (fun kv _ => n - (intOf kv).toNat)
 case atStart => exact ⟨0, false, Z0, 1, rfl, by omega, HG, HM⟩
 case round =>
  clear HM HG n0
  obtain ⟨k, m, Z, last, rfl, hk, HG, HM⟩ := hrel
  by_cases hlt : k < n
  ·have hlt1 : (k : Int) < n := by omega
   have hk8 : (k : Int) < 8 := by omega
   have P := fun w HM => pivot_any n k Z bs W w ((b5, Bg.zA last) :: (b4, So.arr (fun _ => 0) 0) :: (b2, So.arr (fun _ => 0) 0) :: R) HM hn hlt (Lib.hid fun i h1 h2 => HG.out.bound HEN.out hn hk (by omega) h2 (by omega) (by omega))
   go_wp2_with (first | ((with_reducible refine g_ld ?_); refine a_ld HM ?_) | ((with_reducible refine g_st ?_); refine a_st HM ?_; clear HM; intro w1 HM) | ((with_reducible refine g_al ?_); refine a_al HM ?_; clear HM; intro bk w1 HM))
   refine (P _ HM.pick).mono ?_
   rintro e9 w2 ⟨b, Z1, rfl, HM2, HP⟩
   replace HM := HM2.pick (K := (b5, Bg.zA last) :: (b4, So.arr (fun _ => 0) 0) :: (b2, So.arr (fun _ => 0) 0) :: (bs, Sy.cells n Z1) :: R)
   clear HM2 P
   rcases HP.out with ⟨rfl, hp⟩ | ⟨rfl, _, hz⟩
   case inr => exact (HG.out.pivot HNS.out (by omega) hlt (by omega) hz).elim
   obtain ⟨⟨m', hg⟩, h0⟩ := Sy.piv HG.out hlt hp
   have HG1 := Lib.hid hg
   have HP0 := Lib.hid h0
   clear HP HG hp hg h0
   have k1 := la_sy n Z1 (i := k) (j := k) (by omega) (by omega)
   have n1 := la_syn n Z1
   obtain ⟨p, hp⟩ : ∃ p, Hid (p = Z1 k k) := ⟨_, Lib.hid rfl⟩
   rw [← hp.out] at k1
   have sp := sa_z p (zA_size 0)
   have hw9 : n + 1 ≤ 9 := by omega
   go_upto_region 9 with (first | ((with_reducible refine g_ld ?_); refine a_ld HM ?_) | ((with_reducible refine g_st ?_); refine a_st HM ?_; clear HM; intro w1 HM) | ((with_reducible refine g_al ?_); refine a_al HM ?_; clear HM; intro bk w1 HM))
   obtain ⟨b7, rfl⟩ := HM.nm0
   go_wp2_with (first | ((with_reducible refine g_ld ?_); refine a_ld HM ?_) | ((with_reducible refine g_st ?_); refine a_st HM ?_; clear HM; intro w1 HM) | ((with_reducible refine g_al ?_); refine a_al HM ?_; clear HM; intro bk w1 HM))
   go_loopw [39] (fun iv wr => ∃ i : Nat, iv = .int .i64 (i : Nat) ∧ i ≤ n ∧ Mem W [] ((b7, Bg.zA p) :: (b5, Bg.zA last) :: (b4, So.arr (fun _ => 0) 0) :: (b2, So.arr (fun _ => 0) 0) :: (bs, Sy.cells n (Sy.pt n Z1 k last i 0)) :: R) wr) (fun iv _ => n - (intOf iv).toNat)
   case atStart => exact ⟨0, rfl, by omega, by rw [Sy.pt_start]; exact HM⟩
   case round =>
    clear HM n1 k1
    obtain ⟨i, rfl, hi, HM⟩ := hrel
    by_cases hit : i < n
    ·have hit1 : (i : Int) < n := by omega
     have hi8 : (i : Int) < 8 := by omega
     by_cases hik : i = k
     ·subst hik
      go_wp2_with (first | ((with_reducible refine g_ld ?_); refine a_ld HM ?_) | ((with_reducible refine g_st ?_); refine a_st HM ?_; clear HM; intro w1 HM) | ((with_reducible refine g_al ?_); refine a_al HM ?_; clear HM; intro bk w1 HM))
      go_roundw
      case rel => exact ⟨i + 1, by go_num, by omega, by rw [← Sy.pt_skip]; exact HM⟩
      case measure => simp [intOf]; omega
     ·have hik1 : ¬ (i : Int) = k := by omega
      have k1 := la_sy n (Sy.pt n Z1 k last i 0) (i := i) (j := k) (by omega) (by omega)
      rw [Sy.pt_at (by omega)] at k1
      have n1 := la_syn n (Sy.pt n Z1 k last i 0)
      obtain ⟨fv, hfv⟩ : ∃ f, Hid (f = Z1 i k) := ⟨_, Lib.hid rfl⟩
      rw [← hfv.out] at k1
      have sp := sa_z fv (zA_size 0)
      go_upto_region 14 with (first | ((with_reducible refine g_ld ?_); refine a_ld HM ?_) | ((with_reducible refine g_st ?_); refine a_st HM ?_; clear HM; intro w1 HM) | ((with_reducible refine g_al ?_); refine a_al HM ?_; clear HM; intro bk w1 HM))
      obtain ⟨b9, rfl⟩ := HM.nm0
      go_wp2_with (first | ((with_reducible refine g_ld ?_); refine a_ld HM ?_) | ((with_reducible refine g_st ?_); refine a_st HM ?_; clear HM; intro w1 HM) | ((with_reducible refine g_al ?_); refine a_al HM ?_; clear HM; intro bk w1 HM))
      go_loopw [58] (fun jv wr => ∃ j : Nat, jv = .int .i64 (j : Nat) ∧ j ≤ n + 1 ∧ Mem W [] ((b9, Bg.zA fv) :: (b7, Bg.zA p) :: (b5, Bg.zA last) :: (b4, So.arr (fun _ => 0) 0) :: (b2, So.arr (fun _ => 0) 0) :: (bs, Sy.cells n (Sy.pt n Z1 k last i j)) :: R) wr) (fun jv _ => n + 1 - (intOf jv).toNat)
      case atStart => exact ⟨0, rfl, by omega, HM⟩
      case round =>
       clear HM k1 n1
       obtain ⟨j, rfl, hj, HM⟩ := hrel
       by_cases hjt : j < n + 1
       ·have hjt1 : (j : Int) < n + 1 := by omega
        have hj9 : (j : Int) < 9 := by omega
        obtain ⟨x, hx⟩ : ∃ x, Hid (x = Z1 i j) := ⟨_, Lib.hid rfl⟩
        obtain ⟨y, hy⟩ : ∃ y, Hid (y = Z1 k j) := ⟨_, Lib.hid rfl⟩
        obtain ⟨q, hq⟩ : ∃ q, Hid (q = Mx.nx Z1 k last i j) := ⟨_, Lib.hid rfl⟩
        have l1 := la_sy n (Sy.pt n Z1 k last i j) (i := i) (j := j) (by omega) (by omega)
        have l2 := la_sy n (Sy.pt n Z1 k last i j) (i := k) (j := j) (by omega) (by omega)
        rw [Sy.pt_at (Nat.le_refl _), ← hx.out] at l1
        rw [Sy.pt_row, ← hy.out] at l2
        have s1 := sa_sy n (Sy.pt n Z1 k last i j) (i := i) (j := j) q (by omega) (by omega)
        rw [hq.out, Sy.pt_set, ← hq.out] at s1
        have B := fun r c (hr : r < n) (hc : c < n + 1) => HG1.out.bound HEN.out hn hk (Nat.zero_le r) hr (Nat.zero_le c) hc
        have M := fun w => sminus_any p x fv y last q (by rw [hp.out]; exact B _ _ hlt (by omega)) (by rw [hx.out]; exact B _ _ hit hjt) (by rw [hfv.out]; exact B _ _ hit (by omega)) (by rw [hy.out]; exact B _ _ hlt hjt) (HG1.out.bound_last HEN.out hn hk) HG1.out.last_ne (Lib.hid (by rw [hq.out, hp.out, hx.out, hfv.out, hy.out]; unfold Mx.nx; rw [if_neg hik])) w
        clear B
        go_upto_region 17 with (first | ((with_reducible refine g_ld ?_); refine a_ld HM ?_) | ((with_reducible refine g_st ?_); refine a_st HM ?_; clear HM; intro w1 HM) | ((with_reducible refine g_al ?_); refine a_al HM ?_; clear HM; intro bk w1 HM))
        refine start_M [27] HM (by kernel_rfl) (fun w0x H9 => ?_)
        replace HM := H9; clear H9
        refine k_mv 0 (heldE HM) ?_
        refine k_mv 1 (heldE HM) ?_
        refine k_mv 2 (heldE HM) ?_
        refine k_ld 3 [22, 26, 27] (heldE HM) ?_
        refine k_mv 4 (heldE HM) ?_
        refine k_mv 5 (heldE HM) ?_
        refine k_mv 6 (heldE HM) ?_
        refine k_pv 7 (heldE HM) ?_
        refine k_fa 8 (heldE HM) ?_
        refine k_ia 9 (heldE HM) ?_
        refine k_ia 10 (heldE HM) ?_
        refine k_ld 11 [22, 26, 27] (heldE HM) ?_
        refine k_ld 12 [22, 26, 27] (heldE HM) ?_
        refine k_mv 13 (heldE HM) ?_
        refine k_mv 14 (heldE HM) ?_
        refine k_mv 15 (heldE HM) ?_
        refine k_pv 16 (heldE HM) ?_
        refine k_fa 17 (heldE HM) ?_
        refine k_ia 18 (heldE HM) ?_
        refine k_ia 19 (heldE HM) ?_
        refine k_ld 20 [22, 26, 27] (heldE HM) ?_
        refine k_ld 21 [22, 26, 27] (heldE HM) ?_
        refine k_pv 23 (heldE HM) ?_
        refine k_fa 24 (heldE HM) ?_
        refine k_ia 25 (heldE HM) ?_
        refine j_one 22 fun K9 hK9 => ?_
        refine j_call5 (v := ?_) HM ?_ ?_; rotate_left 1; (focus (with_reducible (exact M _))); clear HM; intro w1 HM
        refine hK9 _ _ (heldE HM) ?_; clear hK9 K9
        refine k_ia 26 (heldE HM) ?_
        refine j_one 27 fun K9 hK9 => ?_
        refine j_st HM ?_; clear HM; intro w1 HM
        refine hK9 _ _ heldN ?_; clear hK9 K9
        refine wpAnyL_done (by kernel_rfl) ?_ _
        go_wp2_with fail
        go_roundw
        case rel => exact ⟨j + 1, by go_num, by omega, HM⟩
        case measure => simp [intOf]; omega
       ·obtain rfl : j = n + 1 := by omega
        go_wp2_with (first | ((with_reducible refine g_ld ?_); refine a_ld HM ?_) | ((with_reducible refine g_st ?_); refine a_st HM ?_; clear HM; intro w1 HM) | ((with_reducible refine g_al ?_); refine a_al HM ?_; clear HM; intro bk w1 HM))
        go_roundw
        case rel => exact ⟨i + 1, by go_num, by omega, by rw [← Sy.pt_next]; exact HM.pick⟩
        case measure => simp [intOf]; omega
    ·obtain rfl : i = n := by omega
     have HGN : Hid (Mx.Gz i (i + 1) (Ns.ext i Z0) (k + 1) 0 m' (Sy.pt i Z1 k last i 0) p) := Lib.hid (by
      rw [hp.out]
      exact HG1.out.step HEN.out (by omega) hlt (by omega) HP0.out (by omega) (fun r c _ hr _ hc => by unfold Sy.pt; rw [if_pos (by omega)]))
     have sl := sa_z p (zA_size last)
     go_wp2_with (first | ((with_reducible refine g_ld ?_); refine a_ld HM ?_) | ((with_reducible refine g_st ?_); refine a_st HM ?_; clear HM; intro w1 HM) | ((with_reducible refine g_al ?_); refine a_al HM ?_; clear HM; intro bk w1 HM))
     go_roundw
     case rel => exact ⟨k + 1, m', _, p, by go_num, by omega, HGN, HM.pick⟩
     case measure => simp [intOf]; omega
  ·obtain rfl : k = n := by omega
   have n1 := la_syn k Z
   have HL0 := Lib.hid HG.out.last_ne
   obtain ⟨f, hf⟩ : ∃ f : Nat → Rat, Hid (f = fun i => Rat.divInt (Z i k) last) := ⟨_, Lib.hid rfl⟩
   have hfit : ∀ i, i < k → Rt.Fit (f i) := fun i hi => by
    rw [hf.out]
    have h1 := HG.out.bound HEN.out hn hk (Nat.zero_le i) hi (Nat.zero_le k) (by omega)
    have h2 := HG.out.bound_last HEN.out hn hk
    have := Sy.big_416
    exact (Rt.Bd.divInt (i := 416) (j := 416) HL0.out (by omega) (by omega)).fit
   have HFT := Lib.hid hfit
   have HSV : Hid (Mx.Solves k (Ns.ext k Z0) f) := Lib.hid (by
    have := HG.out.solves
    rw [hf.out]
    intro r hr
    rw [← this r hr]
    exact Mx.sm_congr fun c _ => by
     show _ * Rat.divInt (Z c k) last = _ * ((Z c k : Rat) / last)
     rw [Rat.divInt_eq_div])
   rw [So.arr_same (fun _ => 0) f] at HM
   replace HM : Mem W [] ((b4, So.arr f 0) :: (b2, So.arr f 0) :: (bs, Sy.cells k Z) :: R) _ := HM.pick
   clear hfit HNS
   go_wp2_with (first | ((with_reducible refine g_ld ?_); refine a_ld HM ?_) | ((with_reducible refine g_st ?_); refine a_st HM ?_; clear HM; intro w1 HM) | ((with_reducible refine g_al ?_); refine a_al HM ?_; clear HM; intro bk w1 HM))
   go_loopw [96] (fun iv wr => ∃ i : Nat, iv = .int .i64 (i : Nat) ∧ i ≤ k ∧ Mem W [] ((b4, So.arr f i) :: (b2, So.arr f 0) :: (bs, Sy.cells k Z) :: R) wr) (fun iv _ => k - (intOf iv).toNat)
   case atStart => exact ⟨0, rfl, by omega, HM⟩
   case round =>
    clear HM
    obtain ⟨i, rfl, hi, HM⟩ := hrel
    by_cases hit : i < k
    ·have hit1 : (i : Int) < k := by omega
     have hi8 : (i : Int) < 8 := by omega
     have hk9 : (k : Int) < 9 := by omega
     have hi9 : (i : Int) < 9 := by omega
     obtain ⟨x, hx⟩ : ∃ x, Hid (x = Z i k) := ⟨_, Lib.hid rfl⟩
     obtain ⟨u, hu⟩ : ∃ u, Hid (u = f i) := ⟨_, Lib.hid rfl⟩
     have l1 := la_sy k Z (i := i) (j := k) (by omega) (by omega)
     have l2 := la_sy k Z (i := i) (j := i) (by omega) (by omega)
     rw [HG.out.diag (by omega) hit] at l2
     rw [← hx.out] at l1
     have b1 := HG.out.bound HEN.out hn hk (Nat.zero_le i) hit (Nat.zero_le k) (by omega)
     have b2' := HG.out.bound_last HEN.out hn hk
     have b416 := Sy.big_416
     have b480 := Bg.p2_mono (i := 416) (j := 480) (by omega)
     have MK := fun w => make_q x last u HL0.out (by rw [hx.out]; omega) (by omega) (Lib.hid (by rw [hu.out, hf.out, hx.out])) w
     have s1 := sa_arr8i f (i := i) (by omega)
     rw [← hu.out] at s1
     have s2 := sa_q u (rZ_size 0 0)
     have k2 := la_q u
     clear b1 b2' b416 b480
     go_upto_region 25 with (first | ((with_reducible refine g_ld ?_); refine a_ld HM ?_) | ((with_reducible refine g_st ?_); refine a_st HM ?_; clear HM; intro w1 HM) | ((with_reducible refine g_al ?_); refine a_al HM ?_; clear HM; intro bk w1 HM))
     go_cut [12, 13] (fun p e wc => ∃ b12, p = .pointer (some ⟨b12, 0, none⟩) ∧ e = .int .i64 0 ∧ Mem W [] ((b12, Rt.qA u) :: (b4, So.arr f i) :: (b2, So.arr f 0) :: (bs, Sy.cells k Z) :: R) wc)
     case first =>
      refine start_M [24] HM (by kernel_rfl) (fun w0x H9 => ?_)
      replace HM := H9; clear H9
      refine k_mv 0 (heldF HM) ?_
      refine k_mv 1 (heldF HM) ?_
      refine k_mv 2 (heldF HM) ?_
      refine k_pv 3 (heldF HM) ?_
      refine k_fa 4 (heldF HM) ?_
      refine k_ld 5 [9, 10, 19, 20, 21, 22, 24, 25] (heldF HM) ?_
      refine k_pv 6 (heldF HM) ?_
      refine k_fa 7 (heldF HM) ?_
      refine k_ia 8 (heldF HM) ?_
      refine k_ia 9 (heldF HM) ?_
      refine k_ld 10 [19, 20, 21, 22, 24, 25] (heldF HM) ?_
      refine k_mv 11 (heldF HM) ?_
      refine k_mv 12 (heldF HM) ?_
      refine k_mv 13 (heldF HM) ?_
      refine k_pv 14 (heldF HM) ?_
      refine k_fa 15 (heldF HM) ?_
      refine k_ia 16 (heldF HM) ?_
      refine k_ia 17 (heldF HM) ?_
      refine k_ld 18 [19, 20, 21, 22, 24, 25] (heldF HM) ?_
      refine j_two 19 23 ?_ ?_
      ·refine j_call2 (v := ?_) HM ?_ ?_; rotate_left 1; (focus (with_reducible (exact MK _))); clear HM; intro w1 HM
       refine ⟨(heldF HM), ?_⟩
       refine k_mv 20 (heldF HM) ?_
       refine k_ext 21 (heldF HM) ?_
       refine k_ext 22 (heldF HM) ?_
       refine j_one 23 fun K9 hK9 => ?_
       refine j_al HM ?_; clear HM; intro bk w1 HM
       refine hK9 _ _ (heldF HM) ?_; clear hK9 K9
       refine j_one 24 fun K9 hK9 => ?_
       refine j_st HM ?_; clear HM; intro w1 HM
       refine hK9 _ _ heldN ?_; clear hK9 K9
       refine k_mv 25 heldN ?_
       refine wpAnyL_done (by kernel_rfl) ?_ _
       (go_wp2_with fail; go_meet; (case rel => exact ⟨_, rfl, rfl, HM⟩))
      ·refine j_al HM ?_; clear HM; intro bk w1 HM
       refine ⟨(heldF HM), ?_⟩
       refine j_one 19 fun K9 hK9 => ?_
       refine j_call2 (v := ?_) HM ?_ ?_; rotate_left 1; (focus (with_reducible (exact MK _))); clear HM; intro w1 HM
       refine hK9 _ _ (heldF HM) ?_; clear hK9 K9
       refine k_mv 20 (heldF HM) ?_
       refine k_ext 21 (heldF HM) ?_
       refine k_ext 22 (heldF HM) ?_
       refine j_one 24 fun K9 hK9 => ?_
       refine j_st HM ?_; clear HM; intro w1 HM
       refine hK9 _ _ heldN ?_; clear hK9 K9
       refine k_mv 25 heldN ?_
       refine wpAnyL_done (by kernel_rfl) ?_ _
       (go_wp2_with fail; go_meet; (case rel => exact ⟨_, rfl, rfl, HM⟩))
     case rest =>
      clear HM
      obtain ⟨b12, rfl, rfl, HM⟩ := hcut
      go_step
      go_wp2_with (first | ((with_reducible refine g_ld ?_); refine a_ld HM ?_) | ((with_reducible refine g_st ?_); refine a_st HM ?_; clear HM; intro w1 HM) | ((with_reducible refine g_al ?_); refine a_al HM ?_; clear HM; intro bk w1 HM))
      go_roundw
      case rel => exact ⟨i + 1, by go_num, by omega, HM.pick⟩
      case measure => simp [intOf]; omega
    ·obtain rfl : i = k := by omega
     have l4 := la_arr8 f i
     have s4 := sa_arr8 f f 0 i
     go_wp2_with (first | ((with_reducible refine g_ld ?_); refine a_ld HM ?_) | ((with_reducible refine g_st ?_); refine a_st HM ?_; clear HM; intro w1 HM) | ((with_reducible refine g_al ?_); refine a_al HM ?_; clear HM; intro bk w1 HM))
     refine bodyPost_ret (r_ct (b := b2) (k := 0) rfl rfl (HM.get (by ((repeat (first | exact Look.here | refine Look.there ?_)); done))) (la_arr8 f i)) rfl ⟨f, Z, rfl, HM.pick, Lib.hid ⟨HSV.out, HFT.out⟩⟩
end Go.Proofs.YtckhdiljihhdmaaGreat
namespace Go.Proofs.YtckhdiljihhdmaaGreat
set_option maxRecDepth 8000
open Go.RowKit
namespace Ns
open Mx
def wl (p : Nat → Bool) (n : Nat) : List Nat := (List.range n).filter p
theorem wl_succ (p : Nat → Bool) (n : Nat) : wl p (n + 1) = if p n = true then wl p n ++ [n] else wl p n := by
 unfold wl
 rw [List.range_succ, List.filter_append]
 by_cases h : p n = true
 ·rw [if_pos h]; simp [h]
 ·rw [if_neg h]; simp [h]
theorem wl_mem {p : Nat → Bool} {n i : Nat} : i ∈ wl p n ↔ i < n ∧ p i = true := by unfold wl; simp
theorem wl_len {p : Nat → Bool} (n : Nat) : (wl p n).length ≤ n := Nat.le_trans (List.length_filter_le _ _) (by simp)
theorem wl_pos {p : Nat → Bool} {n j : Nat} (hj : j < n) (hp : p j = true) : (wl p n)[(wl p j).length]? = some j := by
 induction n with
 | zero => omega
 | succ n ih =>
  rw [wl_succ]
  by_cases e : j = n
  ·subst e
   rw [if_pos hp, List.getElem?_append_right (Nat.le_refl _), Nat.sub_self]; rfl
  ·have h1 := ih (by omega)
   have h2 := (List.getElem?_eq_some_iff.1 h1).1
   by_cases h : p n = true
   ·rw [if_pos h, List.getElem?_append_left h2]; exact h1
   ·rw [if_neg h]; exact h1
theorem wl_nodup (p : Nat → Bool) (n : Nat) : (wl p n).Nodup := List.Nodup.sublist List.filter_sublist List.nodup_range
theorem wl_idx {p : Nat → Bool} {n c j : Nat} (h : (wl p n)[c]? = some j) : (wl p j).length = c ∧ j < n ∧ p j = true := by
 obtain ⟨h1, h2⟩ := wl_mem.1 (List.mem_of_getElem? h)
 have h3 := wl_pos h1 h2
 exact ⟨(List.getElem?_inj (List.getElem?_eq_some_iff.1 h3).1 (wl_nodup p n)).1 (by rw [h3, h]), h1, h2⟩
def wh (p : Nat → Bool) (n c : Nat) : Nat := (wl p n).getD c 0
theorem wh_at {p : Nat → Bool} {n c : Nat} (h : c < (wl p n).length) : (wl p n)[c]? = some (wh p n c) := by
 unfold wh; rw [List.getD_eq_getElem?_getD, List.getElem?_eq_getElem h]; rfl
theorem wh_spec {p : Nat → Bool} {n c : Nat} (h : c < (wl p n).length) : (wl p (wh p n c)).length = c ∧ wh p n c < n ∧ p (wh p n c) = true := wl_idx (wh_at h)
theorem sm_wl {p : Nat → Bool} {n : Nat} {G : Nat → Rat} : sm (wl p n).length (fun c => G (wh p n c)) = sm n (fun j => if p j = true then G j else 0) := by
 induction n with
 | zero => rfl
 | succ n ih =>
  rw [sm, ← ih]
  by_cases h : p n = true
  ·have e : wl p (n + 1) = wl p n ++ [n] := by rw [wl_succ, if_pos h]
   have hl : (wl p (n + 1)).length = (wl p n).length + 1 := by rw [e]; simp
   rw [hl, sm, if_pos h]
   have e2 : wh p (n + 1) (wl p n).length = n := by
    unfold wh; rw [e, List.getD_eq_getElem?_getD, List.getElem?_append_right (Nat.le_refl _), Nat.sub_self]; rfl
   rw [e2]
   congr 1
   refine sm_congr fun c hc => ?_
   have : wh p (n + 1) c = wh p n c := by
    unfold wh; rw [e, List.getD_eq_getElem?_getD, List.getD_eq_getElem?_getD, List.getElem?_append_left hc]
   rw [this]
  ·have e : wl p (n + 1) = wl p n := by rw [wl_succ, if_neg h]
   have e2 : ∀ c, wh p (n + 1) c = wh p n c := fun c => by unfold wh; rw [e]
   rw [e, if_neg h]
   simp only [e2]
   grind
def hu (u : Nat → Int) (i : Nat) : Bool := decide (0 < u i)
theorem hu_iff {u : Nat → Int} {i : Nat} : hu u i = true ↔ 0 < u i := by unfold hu; simp
def zw (n : Nat) (u : Nat → Int) (h : Nat → Nat → Int) (a : Nat → Int) (r c : Nat) : Int :=
 if c < (wl (hu u) n).length then mat u h (wh (hu u) n r) (wh (hu u) n c) else if c = (wl (hu u) n).length then a (wh (hu u) n r) else 0
theorem mat_bound {n : Nat} {u : Nat → Int} {h : Nat → Nat → Int} (H : Ok n u h) {i j : Nat} (hi : i < n) (hj : j < n) : (mat u h i j).natAbs ≤ 1000000000000000 := by
 have h1 := H.h0 i j hi hj
 have h2 := H.h1 i j hi hj
 have h3 := H.u0 i hi
 have h4 := H.u1 i hi
 have h5 := H.h0 i i hi hi
 have h6 := H.le hi hi
 unfold mat
 split
 ·split <;> decide
 ·split <;> omega
theorem zw_bound {n : Nat} {u : Nat → Int} {h : Nat → Nat → Int} {a : Nat → Int} (H : Ok n u h) (ha : ∀ i, i < n → (a i).natAbs ≤ 1000000000000000) : ∀ r c, r < (wl (hu u) n).length → c ≤ (wl (hu u) n).length → (zw n u h a r c).natAbs ≤ 1000000000000000 := by
 intro r c hr hc
 unfold zw
 have h1 := (wh_spec hr).2.1
 by_cases h2 : c < (wl (hu u) n).length
 ·rw [if_pos h2]
  exact mat_bound H h1 (wh_spec h2).2.1
 ·rw [if_neg h2, if_pos (by omega)]
  exact ha _ h1
def lift (u : Nat → Int) (y : Nat → Rat) (i : Nat) : Rat := if hu u i = true then y (wl (hu u) i).length else 0
theorem lift_row {n : Nat} {u : Nat → Int} {h : Nat → Nat → Int} {a : Nat → Int} {y : Nat → Rat} {i : Nat} (hi : i < n) (hp : hu u i = true) :
    sm n (fun j => (mat u h i j : Rat) * lift u y j) = sm (wl (hu u) n).length (fun c => ext (wl (hu u) n).length (zw n u h a) (wl (hu u) i).length c * y c) := by
 have hr : (wl (hu u) i).length < (wl (hu u) n).length := (List.getElem?_eq_some_iff.1 (wl_pos hi hp)).1
 have hw : wh (hu u) n (wl (hu u) i).length = i := by
  have := wl_pos hi hp
  unfold wh; rw [List.getD_eq_getElem?_getD, this]; rfl
 have e1 : sm (wl (hu u) n).length (fun c => ext (wl (hu u) n).length (zw n u h a) (wl (hu u) i).length c * y c) = sm (wl (hu u) n).length (fun c => (fun j => (mat u h i j : Rat) * lift u y j) (wh (hu u) n c)) := by
  refine sm_congr fun c hc => ?_
  obtain ⟨h1, h2, h3⟩ := wh_spec hc
  unfold ext zw
  rw [if_pos (by omega), if_pos hc, hw]
  show _ = (mat u h i (wh (hu u) n c) : Rat) * lift u y (wh (hu u) n c)
  unfold lift
  rw [if_pos h3, h1]
 rw [e1, sm_wl (p := hu u) (n := n) (G := fun j => (mat u h i j : Rat) * lift u y j)]
 refine sm_congr fun j hj => ?_
 by_cases h2 : hu u j = true
 ·rw [if_pos h2]
 ·rw [if_neg h2]; unfold lift; rw [if_neg h2]; grind
theorem row_none {n : Nat} {u : Nat → Int} {h : Nat → Nat → Int} {x : Nat → Rat} {i : Nat} (hi : i < n) (h0 : u i = 0) : sm n (fun j => (mat u h i j : Rat) * x j) = x i := by
 rw [sm_one hi (fun j hj hne => by unfold mat; rw [if_pos h0, if_neg (fun h => hne h.symm)]; have : ((0 : Int) : Rat) = 0 := rfl; rw [this]; grind)]
 unfold mat; rw [if_pos h0, if_pos rfl]
 have : ((1 : Int) : Rat) = 1 := rfl
 rw [this]; grind
theorem hu_no {u : Nat → Int} {i : Nat} (h0 : 0 ≤ u i) (h : ¬ hu u i = true) : u i = 0 := by unfold hu at h; simp at h; omega
theorem zw_ns {n : Nat} {u : Nat → Int} {h : Nat → Nat → Int} {a : Nat → Int} (H : Ok n u h) (hc : ¬ Circ n u h) : Mx.Ns (wl (hu u) n).length (ext (wl (hu u) n).length (zw n u h a)) := by
 intro y hy c hc2
 have key := sing H hc (x := lift u y) (fun i hi => by
  by_cases hp : hu u i = true
  ·rw [lift_row (a := a) hi hp]
   exact hy _ (List.getElem?_eq_some_iff.1 (wl_pos hi hp)).1
  ·rw [row_none hi (hu_no (H.u0 i hi) hp)]
   unfold lift; rw [if_neg hp])
 obtain ⟨h1, h2, h3⟩ := wh_spec hc2
 have := key _ h2
 unfold lift at this
 rwa [if_pos h3, h1] at this
theorem zw_pr {n : Nat} {u : Nat → Int} {h : Nat → Nat → Int} {a : Nat → Int} {y : Nat → Rat} (H : Ok n u h) (hs : Solves (wl (hu u) n).length (ext (wl (hu u) n).length (zw n u h a)) y) : Pr n u h a (lift u y) := by
 intro i hi
 by_cases hp : hu u i = true
 ·have hr := (List.getElem?_eq_some_iff.1 (wl_pos hi hp)).1
  have hw : wh (hu u) n (wl (hu u) i).length = i := by
   have := wl_pos hi hp
   unfold wh; rw [List.getD_eq_getElem?_getD, this]; rfl
  rw [lift_row (a := a) hi hp, hs _ hr]
  unfold ext zw rhs
  rw [if_pos (Nat.le_refl _), if_neg (Nat.lt_irrefl _), if_pos rfl, hw, if_neg (by unfold hu at hp; simp at hp; omega)]
 ·have h0 := hu_no (H.u0 i hi) hp
  rw [row_none hi h0]
  unfold lift rhs
  rw [if_neg hp, if_pos h0]; rfl
end Ns
end Go.Proofs.YtckhdiljihhdmaaGreat
namespace Go.Proofs.YtckhdiljihhdmaaGreat
set_option maxRecDepth 8000
open Go.RowKit
namespace Ns
open Mx
theorem bd_ent {n : Nat} {A : Mat} (hA : Ent A n (1000000000000000 : Nat)) (hn : n ≤ 8) (f : Nat → Nat) : ∃ D : Int, det n (fun r c => A r (f c)) = D ∧ D.natAbs ≤ big := by
 obtain ⟨D, hD⟩ := Wh.det (n := n) (A := fun r c => A r (f c)) fun r c hr _ => (hA r _ hr).1
 have h2 := Le.det (n := n) (A := fun r c => A r (f c)) (b := (1000000000000000 : Nat)) fun r c hr _ => (hA r _ hr).2
 rw [hD, bd_nat] at h2
 exact ⟨D, hD, Nat.le_trans h2.nat (bd_big hn)⟩
def zf (n : Nat) (u : Nat → Int) (h : Nat → Nat → Int) (a : Nat → Int) (r c : Nat) : Int := if c < n then mat u h r c else rhs u a r
theorem zf_bound {n : Nat} {u : Nat → Int} {h : Nat → Nat → Int} {a : Nat → Int} (H : Ok n u h) (ha : ∀ i, i < n → (a i).natAbs ≤ 1000000000000000) : ∀ r c, r < n → c ≤ n → (zf n u h a r c).natAbs ≤ 1000000000000000 := by
 intro r c hr _
 unfold zf
 split
 ·exact mat_bound H hr (by assumption)
 ·unfold rhs; split
  ·decide
  ·exact ha r hr
theorem zf_ns {n : Nat} {u : Nat → Int} {h : Nat → Nat → Int} {a : Nat → Int} (H : Ok n u h) (hc : ¬ Circ n u h) : Mx.Ns n (ext n (zf n u h a)) := by
 intro x hx i hi
 refine sing H hc (fun i hi => ?_) i hi
 rw [← hx i hi]
 refine sm_congr fun j hj => ?_
 unfold ext zf
 rw [if_pos (by omega), if_pos hj]
theorem zf_solves {n : Nat} {u : Nat → Int} {h : Nat → Nat → Int} {a : Nat → Int} {f : Nat → Rat} (hf : Pr n u h a f) : Solves n (ext n (zf n u h a)) f := by
 intro r hr
 have e : sm n (fun c => ext n (zf n u h a) r c * f c) = sm n (fun j => (mat u h r j : Rat) * f j) := sm_congr fun j hj => by unfold ext zf; rw [if_pos (by omega), if_pos hj]
 rw [e, hf r hr]
 unfold ext zf
 rw [if_pos (Nat.le_refl _), if_neg (Nat.lt_irrefl _)]
def Cd (n : Nat) (f : Nat → Rat) : Prop := ∃ D : Int, D ≠ 0 ∧ D.natAbs ≤ big ∧ ∀ i, i < n → ∃ N : Int, N.natAbs ≤ big ∧ f i = Rat.divInt N D
theorem cd {n : Nat} {u : Nat → Int} {h : Nat → Nat → Int} {a : Nat → Int} {f : Nat → Rat} (H : Ok n u h) (hc : ¬ Circ n u h) (ha : ∀ i, i < n → (a i).natAbs ≤ 1000000000000000) (hf : Pr n u h a f) : Cd n f := by
 have hE : Ent (ext n (zf n u h a)) n (1000000000000000 : Nat) := ext_ent (by decide) (zf_bound H ha)
 obtain ⟨h0, h1⟩ := cramer (zf_ns (a := a) H hc) ext_unit (zf_solves hf)
 obtain ⟨D, hD, hDb⟩ := bd_ent hE H.n8 id
 have e : (fun r c => ext n (zf n u h a) r (id c)) = ext n (zf n u h a) := rfl
 rw [e] at hD
 have hD0 : D ≠ 0 := fun e => h0 (by rw [hD, e]; rfl)
 refine ⟨D, hD0, hDb, fun i hi => ?_⟩
 obtain ⟨N, hN, hNb⟩ := bd_ent hE H.n8 (fun c => if c = i then n else c)
 refine ⟨N, hNb, ?_⟩
 have h2 := h1 i hi
 have e2 : det n (colA (ext n (zf n u h a)) n i) = N := hN
 rw [e2, hD] at h2
 have hDr : (D : Rat) ≠ 0 := fun e => hD0 (int_eq (by rw [e]; rfl))
 rw [Rat.divInt_eq_div, h2, Rat.div_def, Rat.mul_assoc, Rat.mul_inv_cancel _ hDr, Rat.mul_one]
theorem cd_fit {D N : Int} (h0 : D ≠ 0) (hD : D.natAbs ≤ big) (hN : N.natAbs ≤ big * 36028797018963968) : Rt.Fit (Rat.divInt N D) := by
 have h1 := Sy.big_416
 have h2 : big * 36028797018963968 < Bg.p2 471 := by
  rw [show 471 = 416 + 55 from rfl, Bg.p2_add]
  have : Bg.p2 55 = 36028797018963968 := by unfold Bg.p2; rfl
  rw [this]
  exact Nat.mul_lt_mul_of_pos_right h1 (by decide)
 exact (Rt.Bd.divInt (i := 471) (j := 416) h0 (by omega) (by omega)).fit
theorem divInt_mul {c N D : Int} : (c : Rat) * Rat.divInt N D = Rat.divInt (c * N) D := by
 rw [Rat.divInt_eq_div, Rat.divInt_eq_div, Rat.intCast_mul, Rat.div_def, Rat.div_def, Rat.mul_assoc]
theorem cd_one {n : Nat} {f : Nat → Rat} (h : Cd n f) {i : Nat} (hi : i < n) {c : Int} (hc : c.natAbs ≤ 1125899906842624) : Rt.Fit ((c : Rat) * f i) := by
 obtain ⟨D, h0, hD, hN⟩ := h
 obtain ⟨N, hNb, eN⟩ := hN i hi
 rw [eN, divInt_mul]
 refine cd_fit h0 hD ?_
 rw [Int.natAbs_mul, Nat.mul_comm]
 exact Nat.mul_le_mul hNb (by omega)
theorem cd_self {n : Nat} {f : Nat → Rat} (h : Cd n f) {i : Nat} (hi : i < n) : Rt.Fit (f i) := by
 have := cd_one h hi (c := 1) (by decide)
 have e : ((1 : Int) : Rat) = 1 := rfl
 rw [e, Rat.one_mul] at this
 exact this
end Ns
end Go.Proofs.YtckhdiljihhdmaaGreat
