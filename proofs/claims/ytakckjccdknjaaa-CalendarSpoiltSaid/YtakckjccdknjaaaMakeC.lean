/- The contract of fundadminmake.Calendar: a valid calendar, whatever the tape. -/
import Derived.Test.YtakckjccdknjaaaMakeB
import Derived.Deep.CutBlock
import Derived.OwnWalk
import Derived.Deep.AppendLies
import Derived.Laws.Rows
import Derived.Test.YtakckjccdknjaaaCalMath
namespace Go.Proofs.Ytakckjccdknjaaa
open Go.RowKit
/-- Block b is just the cells of a calendar. -/
def CalBlk (w : World) (b : Nat) (s : ByteArray) (k : Nat → Bool) (v : Value) : Prop := w.heap[b]? = some (.cells #[.string s, .bool (k 0), .bool (k 1), .bool (k 2), .bool (k 3), .bool (k 4), .bool (k 5), .bool (k 6), v] 25 (0, 0))
theorem CalBlk.lt {w : World} {b : Nat} {s : ByteArray} {k : Nat → Bool} {v : Value} (h : CalBlk w b s k v) : b < w.heap.size := (Array.getElem?_eq_some_iff.1 h).1
theorem CalBlk.kept {w w' : World} {b : Nat} {s : ByteArray} {k : Nat → Bool} {v : Value} (h : CalBlk w b s k v) (e : w'.heap[b]? = w.heap[b]?) : CalBlk w' b s k v := e.trans h
theorem CalBlk.turn {w w' : World} {b tb : Nat} {s : ByteArray} {k : Nat → Bool} {v : Value} (h : CalBlk w b s k v) (hg : w.grownBy w' (some tb)) (hne : b ≠ tb) : CalBlk w' b s k v := h.kept (hg.block b h.lt (by simpa using hne))
theorem CalBlk.alloc {w : World} {b : Nat} {s : ByteArray} {k : Nat → Bool} {v : Value} (h : CalBlk w b s k v) (o : Obj) : CalBlk (w.alloc o) b s k v := h.kept (Below.heap_alloc w o b h.lt)
theorem CalBlk.week {w : World} {b : Nat} {s : ByteArray} {k : Nat → Bool} {v : Value} (h : CalBlk w b s k v) {i : Nat} (hi : i < 7) : w.cell? ⟨b, 1 + i, none⟩ = some (.bool (k i)) := by
  unfold CalBlk at h
  have : i = 0 ∨ i = 1 ∨ i = 2 ∨ i = 3 ∨ i = 4 ∨ i = 5 ∨ i = 6 := by omega
  rcases this with e | e | e | e | e | e | e <;> subst e <;> simp [World.cell?, h]
theorem CalBlk.free {w : World} {b : Nat} {s : ByteArray} {k : Nat → Bool} {v : Value} (h : CalBlk w b s k v) (o : Nat) : w.frozen? ⟨b, o, none⟩ = false := by
  unfold CalBlk at h; simp [World.frozen?, h]
theorem CalBlk.hol {w : World} {b : Nat} {s : ByteArray} {k : Nat → Bool} {v : Value} (h : CalBlk w b s k v) : w.cell? ⟨b, 8, none⟩ = some v := by
  unfold CalBlk at h; simp [World.cell?, h]
theorem CalBlk.mark {w : World} {b : Nat} {s : ByteArray} {k : Nat → Bool} {v : Value} (h : CalBlk w b s k v) {i : Nat} (hi : i < 7) : CalBlk (w.setCell ⟨b, 1 + i, none⟩ (.bool true)) b s (fun j => decide (j = i) || k j) v := by
  unfold CalBlk at h ⊢
  have : i = 0 ∨ i = 1 ∨ i = 2 ∨ i = 3 ∨ i = 4 ∨ i = 5 ∨ i = 6 := by omega
  rcases this with e | e | e | e | e | e | e <;> subst e <;> simp [World.setCell, Array.getElem?_modify, h]
theorem CalBlk.give {w : World} {b : Nat} {s : ByteArray} {k : Nat → Bool} {v : Value} (h : CalBlk w b s k v) (u : Value) : CalBlk (w.setCell ⟨b, 8, none⟩ u) b s k u := by
  unfold CalBlk at h ⊢
  simp [World.setCell, Array.getElem?_modify, h]
theorem CalBlk.far {w : World} {b : Nat} {s : ByteArray} {k : Nat → Bool} {v : Value} (h : CalBlk w b s k v) {p : Addr} (hp : b ≠ p.block) (u : Value) : CalBlk (w.setCell p u) b s k v := h.kept (Below.heap_setCell w p u b hp)
theorem CalBlk.drewN {w : World} {b : Nat} {s : ByteArray} {k : Nat → Bool} {v : Value} (h : CalBlk w b s k v) (n : Nat) : CalBlk (w.drewN n) b s k v := h.kept (by simp)
theorem all_sun {k : Nat → Bool} (h : k 6 = false) : Cl.allK k = false := by simp [Cl.allK, h]
/-- A slice of the call's own that holds some ints. -/
def OwnI (w : World) (base : Nat) (v : Value) (hs : List Int) : Prop := w.ownsRow base 3 1 v hs.length (hs.map (Value.int .i64))
theorem OwnI.nil (w : World) (base : Nat) : OwnI w base (.slice none 0 0) [] := ⟨rfl, .inl ⟨rfl, rfl⟩⟩
theorem OwnI.form {w : World} {base : Nat} {v : Value} {hs : List Int} (h : OwnI w base v hs) : ∃ A c, v = .slice A hs.length c ∧ IntsAt w A hs ∧ (∀ b o, A = some ⟨b, o, none⟩ → base ≤ b) := by
  by_cases h0 : hs.length = 0
  · obtain rfl : hs = [] := List.eq_nil_of_length_eq_zero h0
    rcases h.2 with ⟨hv, _⟩ | ⟨g, cap, cur, hv, hb, _⟩
    · exact ⟨none, 0, hv, .inl rfl, fun b o e => by cases e⟩
    · exact ⟨_, _, hv, .inl rfl, fun b o e => by injection e with e; injection e with e1 _ _; omega⟩
  · have h' : w.ownsRow base 3 1 v hs.length (hs.map (Value.int .i64)) := h
    obtain ⟨g, cap, hv, hb, hlt⟩ := h'.form (by omega)
    subst hv
    refine ⟨_, _, rfl, .inr ⟨g, 0, rfl, hlt, fun j hj => ?_⟩, fun b o e => by injection e with e; injection e with e1 _ _; omega⟩
    have := h'.cellAt j (by omega)
    rw [Nat.zero_add, this]
    simp [List.getD, List.getElem?_eq_getElem hj]
theorem OwnI.ne {w : World} {base b : Nat} {v : Value} {hs : List Int} {cs : Array Value} {t : TypeId} {fr : Nat × Nat} (h : OwnI w base v hs) (hb : w.heap[b]? = some (.cells cs t fr)) (ht : t ≠ 3) : v.ownBlock ≠ some b := by
  rcases h.2 with ⟨rfl, _⟩ | ⟨g', cap, cur, rfl, _, hh, _⟩
  · simp [Value.ownBlock]
  · intro he
    have e : g' = b := by simpa [Value.ownBlock] using he
    subst e
    rw [hh] at hb
    injection hb with hb
    injection hb with _ h2 _
    exact ht h2.symm
theorem OwnI.turn {w w' : World} {base tb : Nat} {v : Value} {hs : List Int} (h : OwnI w base v hs) (hg : w.grownBy w' (some tb)) (hne : v.ownBlock ≠ some tb) : OwnI w' base v hs := by
  have h' : w.ownsRow base 3 1 v hs.length (hs.map (Value.int .i64)) := h
  exact h'.kept hg (.inr hne)
theorem OwnI.alloc {w : World} {base : Nat} {v : Value} {hs : List Int} (h : OwnI w base v hs) (o : Obj) : OwnI (w.alloc o) base v hs := World.ownsRow.alloc h o
theorem OwnI.set {w : World} {base : Nat} {v : Value} {hs : List Int} (h : OwnI w base v hs) {p : Addr} (hne : v.ownBlock ≠ some p.block) (u : Value) : OwnI (w.setCell p u) base v hs := by
  rcases h with ⟨h1, h2⟩
  refine ⟨h1, ?_⟩
  rcases h2 with h2 | ⟨g, cap, cur, hv, hb, hh, r⟩
  · exact .inl h2
  · refine .inr ⟨g, cap, cur, hv, hb, ?_, r⟩
    rw [Below.heap_setCell _ _ _ _ (by rintro rfl; exact hne (by rw [hv]; rfl))]
    exact hh
def CalPost (W : World) (tb m : Nat) (d : Int) (w : World) (e : Ending) (w' : World) : Prop :=
  ∃ (s : ByteArray) (k : Nat → Bool) (A : Option Addr) (hs : List Int) (c : Nat), e = .returned (.agg #[.string s, .bool (k 0), .bool (k 1), .bool (k 2), .bool (k 3), .bool (k 4), .bool (k 5), .bool (k 6), .slice A hs.length c]) ∧ Cl.validC s k hs = true ∧ hs.length ≤ 20 ∧ (∀ h ∈ hs, h ≤ d + 620) ∧
    IntsAt w' A hs ∧ (∀ b o, A = some ⟨b, o, none⟩ → w.heap.size ≤ b) ∧ Tape W tb (m + 100) w' ∧ w.grownBy w' (some tb) ∧ OwnI w' w.heap.size (.slice A hs.length c) hs
def noK (_ : Nat) : Bool := false
/-- What the first part of the function leaves. -/
def CalMid (W : World) (tb m b : Nat) (s : ByteArray) (w w' : World) : Prop :=
  ∃ k : Nat → Bool, Cl.allK k = false ∧ CalBlk w' b s k (.slice none 0 0) ∧ Tape W tb (m + 10) w' ∧ w.grownBy w' (some tb) ∧ CalBlk w' w.heap.size ⟨#[]⟩ noK (.slice none 0 0)
theorem noK_all : Cl.allK noK = false := rfl
theorem mark_one (i : Nat) (hi : i < 7) : Cl.allK (fun j => decide (j = i) || noK j) = false := by
  have : i = 0 ∨ i = 1 ∨ i = 2 ∨ i = 3 ∨ i = 4 ∨ i = 5 ∨ i = 6 := by omega
  rcases this with e | e | e | e | e | e | e <;> subst e <;> rfl
def names4 : List ByteArray := [⟨#[99]⟩, ⟨#[110, 121, 115, 101]⟩, ⟨#[116, 97, 114, 103, 101, 116]⟩, ⟨#[120, 49]⟩]
theorem use_small (l : Array UInt8) (h0 : 0 < l.size) (h : l.size ≤ 16) (h1 : 97 ≤ ((l[0]'h0).toNat : Int) ∧ ((l[0]'h0).toNat : Int) ≤ 122) (h2 : l.toList.all Nm.okB = true) : Nm.usableB ⟨l⟩ = true := by
  refine Nm.usable_yes h0 h h1 (fun k hk => ?_)
  exact List.all_eq_true.1 h2 _ (by
    show l[k]'hk ∈ l.toList
    exact Array.getElem_mem_toList hk)
theorem names_ok {s : ByteArray} (h : s ∈ names4) : Nm.usableB s = true := by
  simp only [names4, List.mem_cons, List.not_mem_nil, or_false] at h
  rcases h with rfl | rfl | rfl | rfl
  · exact use_small _ (by decide) (by decide) (by decide) (by decide)
  · exact use_small _ (by decide) (by decide) (by decide) (by decide)
  · exact use_small _ (by decide) (by decide) (by decide) (by decide)
  · exact use_small _ (by decide) (by decide) (by decide) (by decide)
theorem asc_add : ∀ (hs : List Int) (last x : Int), Cl.asc last hs = true → (∀ h ∈ hs, h < x) → last < x → Dt.isDay x = true → Cl.asc last (hs ++ [x]) = true
  | [], last, x, _, _, h1, h2 => by simp [Cl.asc, h1, h2]
  | y :: t, last, x, h, hl, h1, h2 => by
    unfold Cl.asc at h
    simp only [Bool.and_eq_true, decide_eq_true_eq] at h
    have := asc_add t y x h.2 (fun z hz => hl z (by simp [hz])) (hl y (by simp)) h2
    simp only [List.cons_append, Cl.asc, this, h.1.1, h.1.2, decide_true, Bool.and_self]
theorem int_row : (Try.prog.info? 3).map (fun i => (i.zero, i.size, i.bytes)) = some (some (.int .i64 0), 1, 8) := by kernel_rfl
/-- What the second loop keeps. -/
def CalLoop (W : World) (tb M bc : Nat) (s : ByteArray) (d : Int) (w : World) (a : Int) (j : Nat) (wr : World) : Prop :=
  ∃ (k : Nat → Bool) (hs : List Int) (sv : Value), Cl.allK k = false ∧ CalBlk wr bc s k sv ∧ OwnI wr w.heap.size sv hs ∧ hs.length = j ∧ Cl.asc (-1) hs = true ∧ (∀ h ∈ hs, h < a) ∧ (∀ h ∈ hs, h ≤ d + 31 * j) ∧
    Tape W tb M wr ∧ w.grownBy wr (some tb) ∧ CalBlk wr w.heap.size ⟨#[]⟩ noK (.slice none 0 0)
theorem CalLoop.tape {W : World} {tb M bc : Nat} {s : ByteArray} {d : Int} {w : World} {a : Int} {j : Nat} {wr : World} (h : CalLoop W tb M bc s d w a j wr) : Tape W tb M wr := by
  obtain ⟨_, _, _, _, _, _, _, _, _, _, h, _, _⟩ := h; exact h
theorem CalLoop.turn {W : World} {tb M M' bc : Nat} {s : ByteArray} {d : Int} {w : World} {a : Int} {j : Nat} {wr w' : World} (h : CalLoop W tb M bc s d w a j wr) (hg : wr.grownBy w' (some tb)) (hT : Tape W tb M' w') (hb : bc ≠ tb) (hw : tb < w.heap.size) : CalLoop W tb M' bc s d w a j w' := by
  obtain ⟨k, hs, sv, hk, hC, hO, hlen, hasc, hlt1, hle1, hT0, hG, hR⟩ := h
  have hne : sv.ownBlock ≠ some tb := by
    obtain ⟨_, _, _, _, _, _, hbl, _⟩ := hT0
    exact hO.ne hbl (by decide)
  exact ⟨k, hs, sv, hk, hC.turn hg hb, hO.turn hg hne, hlen, hasc, hlt1, hle1, hT, turn_trans hG hg, hR.turn hg (by omega)⟩
theorem IntsAt.set {w : World} {A : Option Addr} {hs : List Int} (h : IntsAt w A hs) {p : Addr} (hne : ∀ b o, A = some ⟨b, o, none⟩ → b ≠ p.block) (u : Value) : IntsAt (w.setCell p u) A hs := by
  rcases h with h | ⟨b, off, hA, hlt, hc⟩
  · exact .inl h
  · refine .inr ⟨b, off, hA, by simpa [World.setCell] using hlt, fun j hj => ?_⟩
    rw [World.cell?_of_block (w := w) (Below.heap_setCell w p u b (hne b off hA))]
    exact hc j hj
theorem CalBlk.cells {w : World} {b : Nat} {s : ByteArray} {k : Nat → Bool} {v : Value} (h : CalBlk w b s k v) (o : Nat) : w.cell? ⟨b, o, none⟩ = #[.string s, .bool (k 0), .bool (k 1), .bool (k 2), .bool (k 3), .bool (k 4), .bool (k 5), .bool (k 6), v][o]? := cell_of_row w b o _ _ _ h
theorem CalLoop.up {W : World} {tb M bc : Nat} {s : ByteArray} {d : Int} {w : World} {a a' : Int} {j : Nat} {wr : World} (h : CalLoop W tb M bc s d w a j wr) (ha : a ≤ a') : CalLoop W tb M bc s d w a' j wr := by
  obtain ⟨k, hs, sv, hk, hC, hO, hlen, hasc, hlt1, r⟩ := h
  exact ⟨k, hs, sv, hk, hC, hO, hlen, hasc, fun x hx => by have := hlt1 x hx; omega, r⟩
theorem loop_app {W : World} {tb M bc : Nat} {s : ByteArray} {d : Int} {w : World} {a : Int} {w3 w4 : World} {k : Nat → Bool} {hs : List Int} {sv v' : Value} (hk : Cl.allK k = false) (hC : CalBlk w3 bc s k sv) (hO : OwnI w3 w.heap.size sv hs)
    (hasc : Cl.asc (-1) hs = true) (hlt1 : ∀ h ∈ hs, h < a) (hle1 : ∀ h ∈ hs, h ≤ d + 31 * (hs.length : Int)) (hT : Tape W tb M w3) (hG : w.grownBy w3 (some tb)) (hR : CalBlk w3 w.heap.size ⟨#[]⟩ noK (.slice none 0 0))
    (ha0 : 0 ≤ a) (ha1 : a ≤ 73048) (had : a ≤ d + 31 * (hs.length : Int)) (hbt : bc ≠ tb) (hbw : w.heap.size + 2 ≤ bc) (htw : tb < w.heap.size)
    (hown : w4.ownsRow w.heap.size 3 1 v' (hs.length + 1) (hs.map (Value.int .i64) ++ [.int .i64 a])) (hg : (w3.alloc (.cells #[.int .i64 a] 3)).grownBy w4 sv.ownBlock) :
    CalLoop W tb M bc s d w (a + 1) (hs.length + 1) (w4.setCell ⟨bc, 8, none⟩ v') ∧ ∃ g cap, v' = .slice (some ⟨g, 0, none⟩) (hs.length + 1) cap := by
  have hCa := hC.alloc (.cells #[.int .i64 a] 3)
  have hRa := hR.alloc (.cells #[.int .i64 a] 3)
  have hTa := hT.alloc (.cells #[.int .i64 a] 3)
  have hOa := hO.alloc (.cells #[.int .i64 a] 3)
  have hGa := turn_alloc hG (.cells #[.int .i64 a] 3)
  have n1 : sv.ownBlock ≠ some bc := hOa.ne hCa (by decide)
  have n2 : sv.ownBlock ≠ some w.heap.size := hOa.ne hRa (by decide)
  have n3 : sv.ownBlock ≠ some tb := by
    obtain ⟨_, _, _, _, _, _, hbl, _⟩ := hTa
    exact hOa.ne hbl (by decide)
  have n4 : ∀ q, sv.ownBlock = some q → w.heap.size ≤ q := by
    intro q hq
    obtain ⟨A, c, rfl, _, hAb⟩ := hO.form
    cases A with
    | none => simp [Value.ownBlock] at hq
    | some ad =>
      obtain ⟨b, o, sp⟩ := ad
      rcases hO.2 with ⟨h, _⟩ | ⟨g, cap, cur, h, hb, _⟩
      · simp at h
      · injection h with h _ _
        injection h with h
        injection h with h1 _ _
        simp [Value.ownBlock] at hq
        omega
  have hC4 : CalBlk w4 bc s k sv := hCa.kept (hg.block bc hCa.lt (Ne.symm n1))
  have hR4 : CalBlk w4 w.heap.size ⟨#[]⟩ noK (.slice none 0 0) := hRa.kept (hg.block _ hRa.lt (Ne.symm n2))
  have hB4 : Below w.heap.size (w3.alloc (.cells #[.int .i64 a] 3)) w4 := ⟨hg.os, hg.tape, hg.output, hg.size, fun i hi => hg.block i (by have := hGa.size; omega) (fun e => by have := n4 i e.symm; omega)⟩
  have hT4 : Tape W tb M w4 := hTa.kept (hB4.mono (by have := hT.le; omega)) (hg.block tb hTa.lt (Ne.symm n3))
  have hG4 : w.grownBy w4 (some tb) := ⟨hB4.os.trans hGa.os, hB4.tape.trans hGa.tape, hB4.output.trans hGa.output, Nat.le_trans hGa.size hB4.size, fun i hi hne => (hB4.block i hi).trans (hGa.block i hi hne)⟩
  have hO4 : OwnI w4 w.heap.size v' (hs ++ [a]) := by
    unfold OwnI
    rw [List.length_append, List.map_append]
    exact hown
  refine ⟨⟨k, hs ++ [a], v', hk, hC4.give v', hO4.set (p := ⟨bc, 8, none⟩) (hO4.ne (b := bc) (show w4.heap[bc]? = some (.cells _ 25 (0, 0)) from hC4) (by decide)) v', by simp, asc_add hs (-1) a hasc hlt1 (by omega) (by unfold Dt.isDay; simp; omega), ?_, ?_, hT4.set (p := ⟨bc, 8, none⟩) hbt (by have := hT.le; simp; omega) v', turn_set hG4 (.inr (by simp; omega)) v', hR4.far (by simp; omega) v'⟩, ?_⟩
  · intro h hh
    rcases List.mem_append.1 hh with h1 | h1
    · have := hlt1 h h1; omega
    · simp at h1; omega
  · intro h hh
    rcases List.mem_append.1 hh with h1 | h1
    · have := hle1 h h1; omega
    · simp at h1; omega
  · obtain ⟨g, cap, hv, _, _⟩ := hown.form (by omega)
    exact ⟨g, cap, hv⟩
set_option maxHeartbeats 2000000 in
theorem calendar_any (W : World) (tb m : Nat) (d : Int) (w : World) (hT : Tape W tb m w) (hm : m ≤ 1000000000) (h0 : 0 ≤ d) (h1 : d ≤ 73048) :
    Calls Try.prog 21 #[.pointer (some ⟨tb, 0, none⟩), .int .i64 d] w (CalPost W tb m d w) := by
  have hlt := hT.lt
  have HT := Lib.hid ((hT.alloc (Obj.cells #[.string { data := #[] }, .bool false, .bool false, .bool false, .bool false, .bool false, .bool false, .bool false, .slice none 0 0] 25)).alloc (.cells #[.string { data := #[99] }, .string { data := #[110, 121, 115, 101] }, .string { data := #[116, 97, 114, 103, 101, 116] }, .string { data := #[120, 49] }] 9))
  have HS := Lib.hid (strs_lit (w.alloc (Obj.cells #[.string { data := #[] }, .bool false, .bool false, .bool false, .bool false, .bool false, .bool false, .bool false, .slice none 0 0] 25)) #[.string { data := #[99] }, .string { data := #[110, 121, 115, 101] }, .string { data := #[116, 97, 114, 103, 101, 116] }, .string { data := #[120, 49] }] names4 9 (w.heap.size + 1) (by simp) rfl)
  have HG0 : Hid (w.grownBy ((w.alloc (Obj.cells #[.string { data := #[] }, .bool false, .bool false, .bool false, .bool false, .bool false, .bool false, .bool false, .slice none 0 0] 25)).alloc (.cells #[.string { data := #[99] }, .string { data := #[110, 121, 115, 101] }, .string { data := #[116, 97, 114, 103, 101, 116] }, .string { data := #[120, 49] }] 9)) (some tb)) := Lib.hid (turn_alloc (turn_alloc (turn_refl w tb) _) _)
  clear hT
  go_enter Try.func21, Try.ntmps21
  go_wp2_with fail
  refine (one_any W tb m _ names4 4 _ HT.out (by omega) HS.out (fun b o e => by injection e with e; injection e with e1 _ _; omega) (by decide) (by decide)).mono ?_
  rintro e w1 ⟨s, rfl, hs, hT, hg⟩
  have HN := Lib.hid (names_ok hs)
  have hsz : w.heap.size + 2 ≤ w1.heap.size := by have := hg.size; simpa using this
  have hz0 : (w1.alloc (Obj.cells #[.string s, .bool (noK 0), .bool (noK 1), .bool (noK 2), .bool (noK 3), .bool (noK 4), .bool (noK 5), .bool (noK 6), .slice none 0 0] 25)).heap.size = w1.heap.size + 1 := by simp
  have HC1 : Hid (CalBlk (w1.alloc (Obj.cells #[.string s, .bool (noK 0), .bool (noK 1), .bool (noK 2), .bool (noK 3), .bool (noK 4), .bool (noK 5), .bool (noK 6), .slice none 0 0] 25)) w1.heap.size s noK (.slice none 0 0)) := Lib.hid (heap_alloc_new w1 _)
  have HT1 := Lib.hid (hT.alloc (Obj.cells #[.string s, .bool (noK 0), .bool (noK 1), .bool (noK 2), .bool (noK 3), .bool (noK 4), .bool (noK 5), .bool (noK 6), .slice none 0 0] 25))
  have HG1 := Lib.hid (turn_alloc (turn_trans HG0.out hg) (Obj.cells #[.string s, .bool (noK 0), .bool (noK 1), .bool (noK 2), .bool (noK 3), .bool (noK 4), .bool (noK 5), .bool (noK 6), .slice none 0 0] 25))
  have HR0 : Hid (CalBlk w1 w.heap.size ⟨#[]⟩ noK (.slice none 0 0)) := Lib.hid (((show CalBlk (w.alloc (Obj.cells #[.string { data := #[] }, .bool false, .bool false, .bool false, .bool false, .bool false, .bool false, .bool false, .slice none 0 0] 25)) w.heap.size ⟨#[]⟩ noK (.slice none 0 0) from heap_alloc_new w _).alloc _).turn hg (by omega))
  clear hs hT hg HT HS HG0
  have HR1 : Hid (CalBlk (w1.alloc (Obj.cells #[.string s, .bool (noK 0), .bool (noK 1), .bool (noK 2), .bool (noK 3), .bool (noK 4), .bool (noK 5), .bool (noK 6), .slice none 0 0] 25)) w.heap.size ⟨#[]⟩ noK (.slice none 0 0)) := Lib.hid (HR0.out.alloc _)
  go_wp2_with fail
  refine (next_any W tb (m + 1) 4 _ HT1.out (by omega) (by omega) (by omega)).mono ?_
  rintro e w2 ⟨v, rfl, v0, v1, hT, hg⟩
  have HC2 := Lib.hid (HC1.out.turn hg (by omega))
  have HR2 := Lib.hid (HR1.out.turn hg (by omega))
  have HT2 := Lib.hid hT
  have HG2 := Lib.hid (turn_trans HG1.out hg)
  have hz2 : w1.heap.size + 1 ≤ w2.heap.size := by have := hg.size; simpa using this
  clear hT hg HC1 HR1 HT1 HG1 hz0
  obtain ⟨bc, hbc⟩ : ∃ bc, bc = w1.heap.size := ⟨_, rfl⟩
  rw [← hbc] at HC2 hsz hz2
  rw [← hbc]
  clear hbc
  go_upto_block 0 with (fail)
  go_cut [6] (fun _ wc => CalMid W tb m bc s w wc)
  case first =>
    have hv : v = 0 ∨ v = 1 ∨ v = 2 ∨ v = 3 := by omega
    clear v0 v1
    rcases hv with h | h | h | h
    · subst h
      go_wp2_with fail
      go_meet
      case rel => exact ⟨noK, noK_all, HC2.out, HT2.out.mono (by omega), HG2.out, HR2.out⟩
    · subst h
      go_wp2_with fail
      refine (next_any W tb (m + 2) 7 _ HT2.out (by omega) (by omega) (by omega)).mono ?_
      rintro e w3 ⟨q, rfl, q0, q1, hT, hg⟩
      have HC3 := HC2.out.turn hg (by omega)
      have hcell := HC3.week (i := q.toNat) (by omega)
      have hfree := HC3.free (1 + q.toNat)
      have HM := Lib.hid (HC3.mark (i := q.toNat) (by omega))
      have HTT := Lib.hid hT
      have HGG := Lib.hid (turn_trans HG2.out hg)
      have HRR := Lib.hid (HR2.out.turn hg (by omega))
      clear hT hg HC3
      go_wp2_with fail
      go_meet
      case rel => exact ⟨_, mark_one q.toNat (by omega), HM.out, (HTT.out.set (by simp; omega) (by simp; have := HTT.out.le; omega) _).mono (by omega), turn_set HGG.out (.inr (by simp; omega)) _, HRR.out.far (by simp; omega) _⟩
    · subst h
      go_wp2_with fail
      go_loopw [6] (fun i wr => ∃ (j : Nat) (k : Nat → Bool), j ≤ 6 ∧ i = .int .i64 j ∧ Hid (k 6 = false) ∧ Hid (CalBlk wr bc s k (.slice none 0 0)) ∧ Hid (Tape W tb (m + 2 + j) wr) ∧ Hid (w.grownBy wr (some tb)) ∧ Hid (CalBlk wr w.heap.size ⟨#[]⟩ noK (.slice none 0 0)))
        (fun i _ => 6 - (intOf i).toNat)
      case atStart => exact ⟨0, noK, by omega, rfl, rfl, HC2, HT2, HG2, HR2⟩
      case round =>
        obtain ⟨j, k, hj, rfl, HK, HC, HT, HG, HR⟩ := hrel
        by_cases hlt6 : j < 6
        · go_wp2_with fail
          refine (next_any W tb (m + 2 + j) 6 _ HT.out (by omega) (by omega) (by omega)).mono ?_
          rintro e w3 ⟨q, rfl, q0, q1, hT, hg⟩
          have HC3 := HC.out.turn hg (by omega)
          have hcell := HC3.week (i := q.toNat) (by omega)
          have hfree := HC3.free (1 + q.toNat)
          have HM := Lib.hid (HC3.mark (i := q.toNat) (by omega))
          have HTT := Lib.hid hT
          have HGG := Lib.hid (turn_trans HG.out hg)
          have HRR := Lib.hid (HR.out.turn hg (by omega))
          clear hT hg HC3
          go_wp2_with fail
          go_roundw
          case rel => exact ⟨j + 1, _, by omega, by go_num, Lib.hid (by have := HK.out; simp [this]; omega), HM, Lib.hid ((HTT.out.set (by simp; omega) (by simp; have := HTT.out.le; omega) _).mono (by omega)), Lib.hid (turn_set HGG.out (.inr (by simp; omega)) _), Lib.hid (HRR.out.far (by simp; omega) _)⟩
          case measure => simp [intOf]; omega
        · go_wp2_with fail
          go_meet
          case rel => exact ⟨k, all_sun HK.out, HC.out, HT.out.mono (by omega), HG.out, HR.out⟩
    · subst h
      have hc6 := HC2.out.week (i := 5) (by omega)
      have hc7 := HC2.out.week (i := 6) (by omega)
      have hf6 := HC2.out.free 6
      have hf7 := HC2.out.free 7
      go_wp2_with fail
      go_meet
      case rel => exact ⟨_, rfl, (HC2.out.mark (i := 5) (by omega)).mark (i := 6) (by omega), ((HT2.out.set (p := ⟨bc, 6, none⟩) (by simp; omega) (by simp; have := HT2.out.le; omega) _).set (p := ⟨bc, 7, none⟩) (by simp; omega) (by simp; have := HT2.out.le; omega) _).mono (by omega), turn_set (turn_set HG2.out (.inr (by simp; omega)) _) (.inr (by simp; omega)) _, (HR2.out.far (p := ⟨bc, 6, none⟩) (by simp; omega) _).far (p := ⟨bc, 7, none⟩) (by simp; omega) _⟩
  case rest =>
    obtain ⟨k0, hk0, hc0, ht0, hg0, hr0⟩ := hcut
    have HT3 := Lib.hid ht0
    have HK3 := Lib.hid hk0
    have HC3 := Lib.hid hc0
    have HG3 := Lib.hid hg0
    have HR3 := Lib.hid hr0
    clear hk0 hc0 ht0 hg0 hr0 HC2 HT2 HG2 HR2 HR0 v0 v1 hz2
    go_upto_region 12 with (fail)
    go_cut [7] (fun x w3 => ∃ a : Int, x = .int .i64 a ∧ 0 ≤ a ∧ a ≤ d ∧ Hid (CalLoop W tb (m + 11) bc s d w a 0 w3))
    case first =>
      go_wp2_with fail
      refine (next_any W tb (m + 10) 30 _ HT3.out (by omega) (by omega) (by omega)).mono ?_
      rintro e w3 ⟨q, rfl, q0, q1, hT, hg⟩
      have HL : Hid (∀ a : Int, CalLoop W tb (m + 11) bc s d w a 0 w3) := Lib.hid (fun a => ⟨k0, [], .slice none 0 0, HK3.out, HC3.out.turn hg (by omega), OwnI.nil _ _, rfl, rfl, by simp, by simp, hT.mono (by omega), turn_trans HG3.out hg, HR3.out.turn hg (by omega)⟩)
      clear hT hg HT3 HK3 HC3 HG3 HR3
      by_cases hp : 0 < d - q
      all_goals
        go_wp2_with fail
        go_meet
        case rel => exact ⟨_, rfl, by omega, by omega, HL.out _⟩
    case rest =>
      obtain ⟨a0, rfl, ha00, ha01, HL⟩ := hcut
      clear HT3 HK3 HC3 HG3 HR3
      go_wp2_with fail
      go_loopw [7, 8] (fun x i wr => ∃ (j : Nat) (a : Int), j ≤ 20 ∧ i = .int .i64 j ∧ x = .int .i64 a ∧ 0 ≤ a ∧ a ≤ d + 31 * j ∧ Hid (CalLoop W tb (m + 11 + 4 * j) bc s d w a j wr)) (fun _ i _ => 20 - (intOf i).toNat)
      case atStart => exact ⟨0, _, by omega, rfl, rfl, by omega, by omega, HL⟩
      case round =>
        obtain ⟨j, a, hj, rfl, rfl, ha0, ha1, HLoop⟩ := hrel
        have hle : W.heap.size ≤ tb := by obtain ⟨_, _, _, _, _, _, _, _, _, _, h, _, _⟩ := HLoop.out; exact h.le
        go_wp2_with fail
        refine (pick_lit W tb (m + 11 + 4 * j) _ [0, 1, 3, 8, 20] 3 5 5 wr.heap.size wr (by obtain ⟨_, _, _, _, _, _, _, _, _, _, h, _, _⟩ := HLoop.out; exact h) (by omega) rfl rfl rfl (by decide) (by decide)).mono ?_
        rintro e w3 ⟨q, rfl, hq, hT, hg⟩
        have HLX := Lib.hid (HLoop.out.turn (turn_trans (turn_alloc (turn_refl _ tb) _) hg) hT (by omega) hlt)
        have hq2 : q ≤ 20 := by simp at hq; omega
        clear hT hg hq
        by_cases hjq : (j : Int) < q
        · by_cases hbig : 73048 < a
          · obtain ⟨k, hs, sv, hk, hC, hO, hlen, hasc, hlt1, hle1, hT, hG, hR⟩ := HLX.out
            subst hlen
            obtain ⟨A, c, rfl, hI, hAb⟩ := hO.form
            have hcb := hC.cells
            have hcr := hR.cells
            have hfr := hR.free
            have HF : Hid (Cl.validC s k hs = true) := by
              have h1 := HN.out
              have h2 : hs.length ≤ 2000 := by omega
              exact Lib.hid (by simp [Cl.validC, h1, hk, h2, hasc])
            have HI := Lib.hid hI
            have HOW := Lib.hid hO
            have HOR := Lib.hid (hO.ne hR (by decide))
            have HTT := Lib.hid hT
            have HGG := Lib.hid hG
            have HLE := Lib.hid hle1
            have HAB := Lib.hid (show ∀ b o, A = some ⟨b, o, none⟩ → b ≠ w.heap.size from fun b o e he => by
              subst e
              exact hO.ne hR (by decide) (by simp [Value.ownBlock, he]))
            have HAB2 := Lib.hid hAb
            clear hC hO hasc hlt1 hle1 hT hG hR hI hAb
            go_wp2_with fail
            refine bodyPost_ret (v := .agg #[.string s, .bool (k 0), .bool (k 1), .bool (k 2), .bool (k 3), .bool (k 4), .bool (k 5), .bool (k 6), .slice A hs.length c]) (by simp [results, Try.results21, go_sem, hcr]) rfl ⟨s, k, A, hs, c, rfl, HF.out, by omega, fun x hx => by have := HLE.out x hx; omega, ?_, HAB2.out, ?_, ?_, ?_⟩
            · repeat (refine IntsAt.set ?_ HAB.out _)
              exact HI.out
            · repeat (refine Tape.set ?_ (by simp; omega) (by simp; omega) _)
              exact HTT.out.mono (by omega)
            · repeat (refine turn_set ?_ (.inr (Nat.le_refl _)) _)
              exact HGG.out
            · repeat (refine OwnI.set ?_ HOR.out _)
              exact HOW.out
          · obtain ⟨k, hs, sv, hk, hC, hO, hlen, hasc, hlt1, hle1, hT, hG, hR⟩ := HLX.out
            subst hlen
            have ha73 : a ≤ 73048 := by omega
            have hj19 : hs.length ≤ 19 := by omega
            obtain ⟨i0, hi, hz0, hz1, hz2⟩ := info_parts int_row
            have hc8 := hC.hol
            have hf8 := hC.free 8
            have HAPP := Lib.hid (fun (v' : Value) (w4 : World) => loop_app (v' := v') (w4 := w4) hk hC hO hasc hlt1 hle1 hT hG hR ha0 ha73 ha1 (by omega) hsz hlt)
            have HC := Lib.hid hC
            have HO := Lib.hid hO
            clear hC hO hasc hlt1 hle1 hT hG hR hk
            go_wp2_with (at_builtin; refine wpList_append_own _ rfl _ _ 23 rfl w.heap.size 3 i0 (.int .i64 0) 1 8 Try.underlying23 hi hz0 hz1 hz2 rfl (by decide) sv hs.length (hs.map (Value.int .i64)) rfl (HO.out.alloc _) ⟨w3.heap.size, 0, none⟩ 1 1 [.int .i64 a] rfl rfl ?c1 ?c2 ?c3 ?c4 ?c5 ?_)
            case c1 =>
              intro x u hx
              match x, hx with
              | 0, hx => simp at hx; subst hx; simp [Addr.add]
            case c2 => intro u hu; simp at hu; subst hu; rfl
            case c3 => unfold maxLen; omega
            case c4 => omega
            case c5 => have := HO.out; have h1 := hsz; have h2 := HC.out.lt; simp; omega
            · intro v' w4 hown' hgrow _
              obtain ⟨hL4, g, cap, hv'⟩ := HAPP.out v' w4 hown' hgrow
              subst hv'
              have hCx : w4.cell? ⟨bc, 8, none⟩ = some sv ∧ w4.frozen? ⟨bc, 8, none⟩ = false := by
                have hb := (HO.out.alloc (.cells #[.int .i64 a] 3)).ne (HC.out.alloc (.cells #[.int .i64 a] 3)) (by decide)
                have h4 : CalBlk w4 bc s k sv := (HC.out.alloc (.cells #[.int .i64 a] 3)).kept (hgrow.block bc (HC.out.alloc _).lt (Ne.symm hb))
                exact ⟨h4.hol, h4.free 8⟩
              obtain ⟨hc84, hf84⟩ := hCx
              have HL4 := Lib.hid hL4
              clear hown' hgrow hL4 hc8 hf8 HAPP
              obtain ⟨w5, hw5⟩ : ∃ w5, w5 = w4.setCell ⟨bc, 8, none⟩ (.slice (some ⟨g, 0, none⟩) (hs.length + 1) cap) := ⟨_, rfl⟩
              go_wp2_with fail
              rw [← hw5] at HL4
              rw [← hw5]
              clear hw5 hc84 hf84
              refine (next_any W tb (m + 11 + 4 * hs.length + 1) 6 w5 HL4.out.tape (by omega) (by omega) (by omega)).mono ?_
              rintro e w6 ⟨x, rfl, x0, x1, hT, hg⟩
              have HL6 := Lib.hid (HL4.out.turn hg hT (by omega) hlt)
              clear hT hg
              go_wp2_with fail
              refine (next_any W tb (m + 11 + 4 * hs.length + 2) 30 w6 HL6.out.tape (by omega) (by omega) (by omega)).mono ?_
              rintro e w7 ⟨y, rfl, y0, y1, hT, hg⟩
              have HL7 := Lib.hid (HL6.out.turn hg hT (by omega) hlt)
              clear hT hg
              go_wp2_with fail
              refine (pick_lit W tb (m + 11 + 4 * hs.length + 3) _ [0, 0, 1, x, y] 3 5 5 w7.heap.size w7 HL7.out.tape (by omega) rfl rfl rfl (by simp) (by simp)).mono ?_
              rintro e w8 ⟨z, rfl, hz, hT, hg⟩
              have HL8 := Lib.hid (HL7.out.turn (turn_trans (turn_alloc (turn_refl _ tb) _) hg) hT (by omega) hlt)
              have hz30 : 0 ≤ z ∧ z ≤ 29 := by simp at hz; omega
              obtain ⟨z0, z1⟩ := hz30
              clear hT hg hz
              go_wp2_with fail
              go_roundw
              case rel => exact ⟨hs.length + 1, a + (1 + z), by omega, by go_num, rfl, by omega, by omega, Lib.hid (by have h := HL8.out.up (show a + 1 ≤ a + (1 + z) by omega); rw [show m + 11 + 4 * (hs.length + 1) = m + 11 + 4 * hs.length + 3 + 1 from by omega]; exact h)⟩
              case measure => simp [intOf]; omega
        · obtain ⟨k, hs, sv, hk, hC, hO, hlen, hasc, hlt1, hle1, hT, hG, hR⟩ := HLX.out
          subst hlen
          obtain ⟨A, c, rfl, hI, hAb⟩ := hO.form
          have hcb := hC.cells
          have hcr := hR.cells
          have hfr := hR.free
          have HF : Hid (Cl.validC s k hs = true) := by
            have h1 := HN.out
            have h2 : hs.length ≤ 2000 := by omega
            exact Lib.hid (by simp [Cl.validC, h1, hk, h2, hasc])
          have HI := Lib.hid hI
          have HOW := Lib.hid hO
          have HOR := Lib.hid (hO.ne hR (by decide))
          have HTT := Lib.hid hT
          have HGG := Lib.hid hG
          have HLE := Lib.hid hle1
          have HAB := Lib.hid (show ∀ b o, A = some ⟨b, o, none⟩ → b ≠ w.heap.size from fun b o e he => by
            subst e
            exact hO.ne hR (by decide) (by simp [Value.ownBlock, he]))
          have HAB2 := Lib.hid hAb
          clear hC hO hasc hlt1 hle1 hT hG hR hI hAb
          go_wp2_with fail
          refine bodyPost_ret (v := .agg #[.string s, .bool (k 0), .bool (k 1), .bool (k 2), .bool (k 3), .bool (k 4), .bool (k 5), .bool (k 6), .slice A hs.length c]) (by simp [results, Try.results21, go_sem, hcr]) rfl ⟨s, k, A, hs, c, rfl, HF.out, by omega, fun x hx => by have := HLE.out x hx; omega, ?_, HAB2.out, ?_, ?_, ?_⟩
          · repeat (refine IntsAt.set ?_ HAB.out _)
            exact HI.out
          · repeat (refine Tape.set ?_ (by simp; omega) (by simp; omega) _)
            exact HTT.out.mono (by omega)
          · repeat (refine turn_set ?_ (.inr (Nat.le_refl _)) _)
            exact HGG.out
          · repeat (refine OwnI.set ?_ HOR.out _)
            exact HOW.out
end Go.Proofs.Ytakckjccdknjaaa
