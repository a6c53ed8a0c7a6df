/- Walks, and plain facts for them. -/
import Derived.Maps.Views
import Derived.Test.YtckhdiljihhdmaaGreatPb35
import Derived.Test.YtckhdiljihhdmaaGreatLay
namespace Go.Proofs.YtckhdiljihhdmaaGreat
set_option maxRecDepth 8000
open Go.RowKit Go.Maps Go.Sort
def Lk.R : Value → Option (DataW Unit × List MemPlace) := fun _ => some (.lit (.bool true), [])
theorem Lk.und_set : Tryz.prog.underlying 70 = some (.map 9 71) := Tryz.underlying70
theorem Lk.str_law : Keyed Tryz.prog 9 := string_keyed Tryz.underlying9
def SView (D : DataW Unit) (S : List (List UInt8)) : Prop := ∀ (x : List UInt8) (z : DataW Unit), D.atKey (.string x) z = if x ∈ S then .lit (.bool true) else z
def SMap (w : World) (b n : Nat) (S : List (List UInt8)) : Prop :=
 ∃ D : DataW Unit, w.ownsMap Tryz.prog 9 Lk.R b n D ∧ SView D S
theorem SMap.made (w : World) : SMap (w.alloc (.map #[] 0)) w.heap.size 0 [] := ⟨.map [], World.ownsMap_made _ _ _ _, fun _ _ => by simp [DataW.atKey]⟩
theorem SMap.lt {w : World} {b n : Nat} {S : List (List UInt8)} (h : SMap w b n S) : b < w.heap.size := by obtain ⟨D, h1, _⟩ := h; exact h1.lt
theorem SMap.kept {w w' : World} {b n : Nat} {S : List (List UInt8)} (h : SMap w b n S) (e : w'.heap[b]? = w.heap[b]?) : SMap w' b n S := by
 obtain ⟨D, ⟨es, clock, hb, r⟩, h2⟩ := h
 exact ⟨D, ⟨es, clock, e.trans hb, r⟩, h2⟩
theorem SMap.below {w w' : World} {b n : Nat} {S : List (List UInt8)} (h : SMap w b n S) (hB : Below w.heap.size w w') : SMap w' b n S := h.kept (hB.block b h.lt)
section
variable {ops : Array Oper} {rest : List Oper} {a a2 : Act} {w : World} {Q : Exit → Act → World → Prop} {d : Option Tmp} {ty : TypeId} {ps : String} {af : Array Edge} {x y z : Operand} {b n : Nat} {S : List (List UInt8)} {s : ByteArray} {vz : Value}
theorem g_upds (h : OpG ops Q rest a w { dst := d, op := .mapUpdate 70 x y z, type := ty, pos := ps, after := af, guard := none }) : wpList Tryz.prog ops Q ({ dst := d, op := .mapUpdate 70 x y z, type := ty, pos := ps, after := af, guard := none } :: rest) a w := h
theorem lk_key {s : ByteArray} (h : s.size ≤ maxLen) : keyOf Tryz.prog 9 (.string s) = some (.string s.data.toList) := by
 simp [keyOf, Tryz.underlying9, mapKey, h]
theorem a_upds (HI : SMap w b n S) (hn : n ≤ 4611686018427387903) (hs : s.size ≤ maxLen) (h : ∀ w', SMap w' b (n + 1) (s.toList :: S) → w.grownBy w' (some b) → wpList Tryz.prog ops Q rest a2 w')
    (hx : a.eval x = .map (some b) := by (conv => lhs; whnf) <;> rfl) (hy : a.eval y = .string s := by (conv => lhs; whnf) <;> rfl) (hz : a.eval z = vz := by (conv => lhs; whnf) <;> rfl) (ha : a.put d undef = a2 := by ((try simp only [Act.put, List.setIfInBounds_toArray, List.set_cons_succ, List.set_cons_zero]) <;> rfl)) :
    OpG ops Q rest a w { dst := d, op := .mapUpdate 70 x y z, type := ty, pos := ps, after := af, guard := none } := by
 obtain ⟨D, h1, h2⟩ := HI
 have hD := h1.isMap
 refine wpList_mapUpdate_own w rfl x y z _ rfl 9 71 Lk.str_law Lk.und_set Lk.R b n D hx h1 (by unfold maxLen; omega) _ _ _ hy hz (lk_key hs) (.lit (.bool true)) [] rfl fun w' k1 k2 => ha ▸ h w' ⟨_, k1, fun t u => ?_⟩ k2
 have es : s.data.toList = s.toList := (ByteArray.toList_eq s).symm
 rw [es]
 by_cases e : t = s.toList
 ·subst e
  rw [atKey_put_same hD (by simp [WideAt.IsKeyLit])]
  simp
 ·rw [atKey_put_other (fun h => e (by injection h)), h2 t u]
  simp [e]
end
theorem SMap.perm {w : World} {b n : Nat} {S N : List (List UInt8)} {D : DataW Unit} (h1 : w.ownsMap Tryz.prog 9 Lk.R b n D) (h2 : SView D S) (hN : N.Pairwise (· < ·)) (hm : ∀ x, x ∈ N ↔ x ∈ S) : N.Perm (strKeys D) := by
 obtain ⟨es, hD, hpw, _⟩ := h1.entries Lk.str_law
 obtain ⟨es', hD', hko⟩ := h1.keysOf
 obtain rfl : es = es' := by rw [hD] at hD'; simpa using hD'
 subst hD
 refine perm_strKeys hpw (fun p hp => by obtain ⟨v, hv⟩ := hko p hp; obtain ⟨x, _, hx, _⟩ := Maps.keyOf_str Tryz.underlying9 hv; exact ⟨x, hx⟩) (hN.imp fun {a b} h e => by subst e; exact List.lt_irrefl _ h) fun x => ?_
 rw [hm x]
 constructor
 ·intro hx
  exact has_true_of_atKey (y := .lit (.bool true)) fun z => by rw [h2 x z, if_pos hx]
 ·intro hh
  by_cases hx : x ∈ S
  ·exact hx
  ·rw [has_false_of_atKey (fun z => by rw [h2 x z, if_neg hx])] at hh
   cases hh
theorem Lk.sorts (m : Nat) : AnyZ.SortsIn Tryz.prog Tryz.laySorted_ren Fence.wide m :=
 ⟨fun blk off cap ss W hH hblk hsz => callsIn_wide.2 (AnyM.slices_Sort_string Tryz.laySortS blk off cap ss W hH hblk hsz),
  fun p cap W => callsIn_wide.2 (AnyM.slices_Sort_string_none Tryz.laySortS p cap W)⟩
theorem keys_any (b : Nat) (w : World) :
    Calls Tryz.prog 28 #[.map (some b)] w fun e w' => e = .returned (.func (.func 55) #[] #[.pointer (some ⟨w.heap.size, 0, none⟩)]) ∧ w' = w.alloc (.cells #[.map (some b)] 70) :=
 callsIn_wide.1 (AnyZ.keys_in Tryz.layKeys Fence.wide 6 trivial rfl (some b) w)
theorem mergeSort_asc {ss N : List (List UInt8)} (hp : ss.Perm N) (hN : N.Pairwise (· < ·)) : ss.mergeSort (fun x y => decide (x ≤ y)) = N := by
 refine Lk.sort_texts ?_ hN (fun x => hp.mem_iff)
 exact hp.nodup_iff.2 (hN.imp fun {a b} h e => by subst e; exact List.lt_irrefl _ h)
theorem rd_row {w : World} {base : Nat} {v : Value} {N : List (List UInt8)} (h : w.ownsRow base 9 1 v N.length (N.map encStr)) : RdS 1 w v (Ws N) := by
 refine ⟨fun c hc => ?_, ?_⟩
 ·obtain ⟨x, _, rfl⟩ := List.mem_map.1 hc
  rfl
 ·obtain ⟨_, ⟨rfl, h0⟩ | ⟨g, cap, cur, rfl, _, hg, hc, _, hsz, ht⟩⟩ := h
  ·obtain rfl : N = [] := List.eq_nil_of_length_eq_zero h0
   exact ⟨none, 0, rfl, Nat.le_refl _, .inl rfl⟩
  ·refine ⟨_, cap, by rw [Ws_len], by rw [Ws_len]; exact hc, .inr ⟨g, 0, cur, rfl, ⟨_, _, hg⟩, fun j hj => ?_⟩⟩
   rw [Ws_len, Nat.mul_one] at hj
   have e1 : (rowsOf (Ws N))[j]? = some (.string (Lk.bs N[j])) := by
    have := rows_at (n := 1) (l := Ws N) (fun c hc => by obtain ⟨x, _, rfl⟩ := List.mem_map.1 hc; rfl) (k := j) (c := #[.string (Lk.bs N[j])]) (by unfold Ws; rw [List.getElem?_map, List.getElem?_eq_getElem hj]; rfl) (j := 0) (by decide)
    rw [Nat.one_mul, Nat.add_zero] at this
    rw [this]; rfl
   have e2 : cur[0 + j]? = (cur.toList.take (N.length * 1))[j]? := by
    rw [Nat.zero_add, List.getElem?_take_of_lt (by omega)]; simp
   rw [e1, e2, ht, List.getElem?_map, List.getElem?_eq_getElem hj]
   rfl
theorem sorted_any (b n : Nat) (S N : List (List UInt8)) (w : World) (hM : SMap w b n S) (hn : n ≤ 1000000) (hN : N.Pairwise (· < ·)) (hm : ∀ x, x ∈ N ↔ x ∈ S) :
    Calls Tryz.prog 27 #[.func (.func 55) #[] #[.pointer (some ⟨w.heap.size, 0, none⟩)]] (w.alloc (.cells #[.map (some b)] 70)) fun e w' => ∃ v, e = .returned v ∧ Hid (RdS 1 w' v (Ws N)) ∧ Below w.heap.size w w' := by
 obtain ⟨D, h1, h2⟩ := hM
 have hbl := h1.lt
 have hsz : Maps.size D ≤ n := h1.size_le
 have hseq : SeqGives Fence.wide 2 Tryz.prog 55 #[.pointer (some ⟨w.heap.size, 0, none⟩)] encStr (fun ss => ss.Perm (strKeys D)) (Maps.size D) (w.alloc (.cells #[.map (some b)] 70)) :=
  AnyZ.keys_gives (ρ := Tryz.layKeys_ren) { Tryz.layKeys with } Fence.wide _ trivial rfl (by omega) w.heap.size b n D _ (by simp) (by simp) (by
   obtain ⟨es, clock, hb, Ft, hs, hD⟩ := h1
   exact ⟨es, clock, (Below.heap_alloc _ _ b hbl).trans hb, Ft, hs, hD⟩)
 have cS := AnyZ.sorted_in Tryz.laySorted Fence.wide 5 trivial trivial trivial trivial rfl (by omega) (Lk.sorts _) (enters_of Tryz.func54 (by kernel_rfl) rfl) 55 #[.pointer (some ⟨w.heap.size, 0, none⟩)] trivial (enters_of Tryz.func55 (by kernel_rfl) rfl) _ _ (by unfold maxLen; omega) (by omega) _ hseq
 refine (callsIn_wide.1 cS).mono ?_
 rintro e w' ⟨v, ss, rfl, hp, hrow, _, hb⟩
 have hpN : ss.Perm N := hp.trans (SMap.perm h1 h2 hN hm).symm
 rw [mergeSort_asc hpN hN, hpN.length_eq] at hrow
 exact ⟨v, rfl, Lib.hid (rd_row hrow), ((Below.refl _ w).alloc (Nat.le_refl _) _).trans (hb.mono (by simp))⟩
end Go.Proofs.YtckhdiljihhdmaaGreat
