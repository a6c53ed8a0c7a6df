/- What the functions of the calendar return of a valid one. -/
import Derived.Test.YtakckjccdknjaaaExact
import Derived.Test.YtakckjccdknjaaaMakeC
namespace Go.Proofs.Ytakckjccdknjaaa
open Go.RowKit Go.Maps
theorem day_of {x : Int} (h0 : 0 ≤ x) (h1 : x ≤ 73048) : Dt.isDay x = true := by unfold Dt.isDay; simp; omega
theorem count_ok (s : ByteArray) (k : Nat → Bool) (A : Option Addr) (hs : List Int) (c : Nat) (x y : Int) (w : World) (hA : IntsAt w A hs) (hv : Cl.validC s k hs = true) (h0 : 0 ≤ x) (hxy : x ≤ y) (h1 : y ≤ 73048) :
    Calls Try.prog 13 #[.agg #[.string s, .bool (k 0), .bool (k 1), .bool (k 2), .bool (k 3), .bool (k 4), .bool (k 5), .bool (k 6), .slice A hs.length c], .int .i64 x, .int .i64 y] w fun e w' => e = .returned (.tuple #[.int .i64 (Cl.cnt (Cl.opn k hs) (y - x).toNat x), .int .i64 0]) ∧ Below w.heap.size w w' := by
  have g := count_any s k A hs c x y w hA (by have := (valid_of hv).1; omega)
  have hE : Cl.cntE s k hs x y = 0 := by
    have e1 := day_of h0 (by omega : x ≤ 73048)
    have e2 := day_of (by omega : 0 ≤ y) h1
    simp [Cl.cntE, hv, e1, e2, show ¬ y < x by omega]
  have hV : Cl.cntV s k hs x y = Cl.cnt (Cl.opn k hs) (y - x).toNat x := by simp [Cl.cntV, hE]
  rw [hE, hV] at g
  exact g
theorem biz_ok (s : ByteArray) (k : Nat → Bool) (A : Option Addr) (hs : List Int) (c : Nat) (d : Int) (w : World) (hA : IntsAt w A hs) (hv : Cl.validC s k hs = true) (h0 : 0 ≤ d) (h1 : d ≤ 73048) :
    Calls Try.prog 9 #[.agg #[.string s, .bool (k 0), .bool (k 1), .bool (k 2), .bool (k 3), .bool (k 4), .bool (k 5), .bool (k 6), .slice A hs.length c], .int .i64 d] w fun e w' => e = .returned (.tuple #[.bool (Cl.opn k hs d), .int .i64 0]) ∧ Below w.heap.size w w' := by
  have g := biz_any s k A hs c d w hA (by have := (valid_of hv).1; omega)
  have e1 := day_of h0 h1
  have hE : Cl.preE s k hs d = 0 := by simp [Cl.preE, hv, e1]
  have hV : Cl.bizB s k hs d = Cl.opn k hs d := by simp [Cl.bizB, hv, e1]
  rw [hE, hV] at g
  exact g
theorem add_ok (s : ByteArray) (k : Nat → Bool) (A : Option Addr) (hs : List Int) (c : Nat) (d n x : Int) (w : World) (hA : IntsAt w A hs) (hv : Cl.validC s k hs = true) (h0 : 0 ≤ d) (h1 : d ≤ 73048) (hn0 : -9223372036854775808 ≤ n) (hn1 : n ≤ 9223372036854775807) (hx : Cl.addO k hs d n = some x) :
    Calls Try.prog 11 #[.agg #[.string s, .bool (k 0), .bool (k 1), .bool (k 2), .bool (k 3), .bool (k 4), .bool (k 5), .bool (k 6), .slice A hs.length c], .int .i64 d, .int .i64 n] w fun e w' => e = .returned (.tuple #[.int .i64 x, .int .i64 0]) ∧ Below w.heap.size w w' := by
  have g := add_any s k A hs c d n w hA (by have := (valid_of hv).1; omega) hn0 hn1
  have e1 := day_of h0 h1
  have hP : Cl.preE s k hs d = 0 := by simp [Cl.preE, hv, e1]
  have hE : Cl.addE s k hs d n = 0 := by simp [Cl.addE, hP, hx]
  have hV : Cl.addV s k hs d n = x := by simp [Cl.addV, hP, hx]
  rw [hE, hV] at g
  exact g
theorem adj_fine (s : ByteArray) (k : Nat → Bool) (A : Option Addr) (hs : List Int) (c : Nat) (d v x : Int) (w : World) (hA : IntsAt w A hs) (hv : Cl.validC s k hs = true) (h0 : 0 ≤ d) (h1 : d ≤ 73048) (v1 : 1 ≤ v) (v4 : v ≤ 4) (hx : Cl.adjO k hs d v = some x) :
    Calls Try.prog 15 #[.agg #[.string s, .bool (k 0), .bool (k 1), .bool (k 2), .bool (k 3), .bool (k 4), .bool (k 5), .bool (k 6), .slice A hs.length c], .int .i64 d, .int .i64 v] w fun e w' => e = .returned (.tuple #[.int .i64 x, .int .i64 0]) ∧ Below w.heap.size w w' := by
  have g := adj_ok s k A hs c d v w hA hv (day_of h0 h1) v1 v4
  rw [hx] at g
  exact g
theorem cnt_add (O : Int → Bool) : ∀ (m n : Nat) (d : Int), Cl.cnt O (m + n) d = Cl.cnt O m d + Cl.cnt O n (d + m)
  | 0, n, d => by simp [Cl.cnt]
  | m + 1, n, d => by
    have h := cnt_add O m n (d + 1)
    rw [show m + 1 + n = (m + n) + 1 from by omega, Cl.cnt, h, Cl.cnt, show d + 1 + (m : Int) = d + ((m + 1 : Nat) : Int) from by omega]
    omega
end Go.Proofs.Ytakckjccdknjaaa
