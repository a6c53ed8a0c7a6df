/- Walks. -/
import Derived.Laws.RangeAny
import Derived.Test.YtiekmabiecalbaaGreatDoorPr19
import Derived.Test.YtiekmabiecalbaaGreatDoorPr21
namespace Go.Proofs.YtiekmabiecalbaaGreatDoor
set_option maxHeartbeats 16000000
open Go.RowKit
set_option maxRecDepth 8000
set_option linter.unusedSimpArgs false
set_option linter.unusedVariables false
section
namespace Jb
def cap (c : Nat) : Bool := decide (65 ≤ c) && decide (c ≤ 90)
def dig (c : Nat) : Bool := decide (48 ≤ c) && decide (c ≤ 57)
def low (c : Nat) : Bool := decide (97 ≤ c) && decide (c ≤ 122)
def byt (s : ByteArray) (i : Nat) : Nat := if h : i < s.size then s[i].toNat else 0
theorem byt_at {s : ByteArray} {i : Nat} (h : i < s.size) : byt s i = s[i].toNat := dif_pos h
def okc (d : Bool) (i c : Nat) : Bool := cap c || (d && (decide (i ≠ 0) && dig c))
def okn (i c : Nat) : Bool := low c || (decide (i ≠ 0) && dig c)
def all (f : Nat → Nat → Bool) (s : ByteArray) : Bool := (List.range s.size).all fun i => f i (byt s i)
theorem all_iff {f : Nat → Nat → Bool} {s : ByteArray} : all f s = true ↔ ∀ i, i < s.size → f i (byt s i) = true := by
 unfold all; rw [List.all_eq_true]
 exact ⟨fun h i hi => h i (List.mem_range.2 hi), fun h i hi => h i (List.mem_range.1 hi)⟩
theorem all_no {f : Nat → Nat → Bool} {s : ByteArray} {i : Nat} (hi : i < s.size) (h : f i (byt s i) = false) : all f s = false := by
 cases e : all f s with
 | false => rfl
 | true => rw [all_iff.1 e i hi] at h; cases h
def paper (s : ByteArray) : Bool := decide (1 ≤ s.size) && (decide (s.size ≤ 12) && all (okc true) s)
def code (s : ByteArray) : Bool := decide (s.size = 3) && all (okc false) s
def name (s : ByteArray) : Bool := decide (1 ≤ s.size) && (decide (s.size ≤ 16) && all okn s)
def known (n : Int) : Bool := decide (1 ≤ n) && decide (n ≤ 2147483647)
def Price (r : Rr) (x : Rat) : Prop := Rt.Vc (some x) r.c ∧ Ac.Txt x ∧ 0 ≤ x ∧ x ≤ ((1000000000 : Int) : Rat)
open Classical in
noncomputable def price (r : Rr) : Bool := decide (∃ x, Price r x)
def rat0 : Rr := ⟨false, 0, false, 1, Bg.ppos 32, by rw [Bg.lim]; decide +kernel⟩
end Jb
open Jb
noncomputable def JQ.right (q : JQ) : Bool := Nm.usableB q.src && (paper q.ins && (code q.cur && (Dt.isDay q.day && (known q.kn && (if q.vd then Rr.b q.prc Rr.zero else (price q.prc && !Rr.b q.prc rat0))))))
def Jb.factor (n : Int) : Bool := decide (1 ≤ n) && decide (n ≤ 1000000)
noncomputable def JA.right (a : JA) : Bool := (decide (1 ≤ a.key.size) && (decide (a.key.size ≤ 64) && known a.kn)) && (if a.vd then JA.b a { JA.zero with key := a.key, kn := a.kn, vd := true }
 else (paper a.ins && (Dt.isDay a.day && (price a.csh && code a.cur))) && (if a.kd = 1 then decide (a.into.size = 0) && (factor a.nm && factor a.dn) else if a.kd = 2 then decide (a.into.size = 0) && (decide (a.nm = 0) && (decide (a.dn = 0) && !Rr.b a.csh rat0)) else if a.kd = 3 then paper a.into && (!(a.into == a.ins) && (factor a.nm && factor a.dn)) else false))
def JE.right (e : JE) : Bool := (decide (1 ≤ e.key.size) && (decide (e.key.size ≤ 64) && known e.kn)) && (if e.vd then JE.b e { JE.zero with key := e.key, kn := e.kn, vd := true }
 else (decide (0 ≤ e.day) && (decide (e.day ≤ e.stl) && (decide (e.stl ≤ 73048) && (decide (-1000000000000000 ≤ e.amt) && (decide (e.amt ≤ 1000000000000000) && code e.cur))))) && (if e.kd = 1 then paper e.ins && (decide (e.qty ≠ 0) && (decide (-1000000000000000 ≤ e.qty) && decide (e.qty ≤ 1000000000000000))) else if e.kd = 2 then decide (e.ins.size = 0) && decide (e.qty = 0) else false))
def JK.right (k : JK) : Bool := name k.hol && (decide (k.nom.size = 0) || name k.nom)
def Jb.amount (n : Int) : Bool := decide (1 ≤ n) && decide (n ≤ 1000000000000000)
def JO.asked (o : JO) : Bool := if o.kd = 1 ∨ o.kd = 4 then amount o.amt && decide (o.un = 0) else if o.kd = 2 ∨ o.kd = 3 then amount o.un && decide (o.amt = 0) else if o.kd = 5 then decide (o.amt = 0) && decide (o.un = 0) else false
def JO.right (o : JO) : Bool := (name o.key && (decide (0 ≤ o.at_) && (decide (o.at_ ≤ 105190559) && known o.kn))) && (if o.vd then JO.b o { JO.zero with key := o.key, at_ := o.at_, kn := o.kn, vd := true } else JK.right o.acc && (name o.fnd && (name o.cls && o.asked)))
def JT.right (t : JT) : Bool := (name t.key && known t.kn) && (if t.vd then JT.b t { JT.zero with key := t.key, kn := t.kn, vd := true } else name t.fnd && (name t.cls && (JK.right t.fr && (JK.right t.tw && (amount t.un && Dt.isDay t.day)))))
def JS.right (s : JS) : Bool := (name s.key && known s.kn) && (if s.vd then JS.b s { JS.zero with key := s.key, kn := s.kn, vd := true } else name s.fnd && (decide (0 ≤ s.fr) && (decide (s.fr ≤ 73048) && (decide (s.tl = 0) || (decide (s.fr ≤ s.tl) && decide (s.tl ≤ 73048))))))
def JR.only (r : JR) : JR :=
 let b : JR := { JR.zero with kd := r.kd, fnd := r.fnd }
 if r.kd = 1 then { b with q := r.q } else if r.kd = 2 then { b with a := r.a } else if r.kd = 3 then { b with e := r.e } else if r.kd = 4 then { b with o := r.o } else if r.kd = 5 then { b with t := r.t } else if r.kd = 6 then { b with s := r.s } else if r.kd = 7 ∨ r.kd = 8 then { b with day := r.day } else b
noncomputable def JR.kind (r : JR) : Bool := if r.kd = 1 then r.q.right else if r.kd = 2 then r.a.right else if r.kd = 3 then r.e.right else if r.kd = 4 then r.o.right else if r.kd = 5 then r.t.right else if r.kd = 6 then r.s.right else if r.kd = 7 ∨ r.kd = 8 then Dt.isDay r.day else false
noncomputable def JR.right (r : JR) : Bool := (if r.kd = 3 then name r.fnd else decide (r.fnd.size = 0)) && (JR.b r.only r && r.kind)
def JR.known (r : JR) (n : Int) : Int := if r.kd = 1 then r.q.kn else if r.kd = 2 then r.a.kn else if r.kd = 3 then r.e.kn else if r.kd = 4 then r.o.kn else if r.kd = 5 then r.t.kn else if r.kd = 6 then r.s.kn else n
noncomputable def Jb.chk : List JR → Nat → Int → Nat → Int
 | [], _, _, _ => 0
 | r :: l, i, last, c => if r.right then (if r.known ((i + 1 : Nat) : Int) = ((i + 1 : Nat) : Int) then (if r.kd = 8 ∧ last < r.day then 371 else if r.kd = 7 then (if r.day ≤ last ∨ 64 < c + 1 then 371 else Jb.chk l (i + 1) r.day (c + 1)) else Jb.chk l (i + 1) last c) else 371) else 370
noncomputable def Jb.check (L : List JR) : Int := if 4096 < L.length then 371 else chk L 0 (-1) 0
noncomputable def Jb.err (L : List JR) (k : Int) : Int := if Jb.check L = 0 then (if Jb.known k then 0 else 240) else Jb.check L
def Jb.upto (L : List JR) (k kd : Int) : List JR := (L.take k.toNat).filter fun r => decide (r.kd = kd)
def Jb.clo : List JR → Nat → List JC → List JC
 | [], _, out => out
 | r :: l, i, out => if r.kd = 7 then clo l (i + 1) (out ++ [⟨r.day, ((i + 1 : Nat) : Int), ((i + 1 : Nat) : Int)⟩]) else if r.kd = 8 then clo l (i + 1) (out.map fun c => if r.day ≤ c.day then { c with as_ := ((i + 1 : Nat) : Int) } else c) else clo l (i + 1) out
end
section
namespace As
theorem last_app (M : List Mk) (m : Mk) (k : Int) (s : ByteArray) : ∀ n, n ≤ M.length → last (M ++ [m]) k s n = last M k s n
 | 0, _ => rfl
 | n + 1, h => by
  rw [last, last, List.getElem?_append_left Zo, last_app M m k s n Zo]
theorem last_end (M : List Mk) (m : Mk) (k : Int) (s : ByteArray) : last (M ++ [m]) k s (M.length + 1) = if m.kn ≤ k ∧ m.key = s then some M.length else last M k s M.length := by
 have e : (M ++ [m])[M.length]? = some m := by rw [List.getElem?_append_right (Nat.le_refl _), Nat.sub_self]; rfl
 rw [last, e, last_app M m k s _ (Nat.le_refl _)]
theorem visB_app {M : List Mk} {m : Mk} {k : Int} (hk : m.kn ≤ k) {i : Nat} {x : Mk} (hx : M[i]? = some x) : visB (M ++ [m]) k i = (visB M k i && !decide (x.key = m.key)) := by
 have hi := (List.getElem?_eq_some_iff.1 hx).1
 unfold visB
 rw [List.getElem?_append_left hi, hx, List.length_append, List.length_singleton]
 show (!x.vd && (decide (x.kn ≤ k) && decide (enc (last (M ++ [m]) k x.key (M.length + 1)) = (i : Int)))) = ((!x.vd && (decide (x.kn ≤ k) && decide (enc (last M k x.key M.length) = (i : Int)))) && !decide (x.key = m.key))
 rw [last_end]
 by_cases h : x.key = m.key
 ·rw [if_pos ⟨hk, h.symm⟩, Zt h, Zf (show ¬ enc (some M.length) = (i : Int) by show ¬ ((M.length : Int) = i); omega)]
  simp
 ·rw [if_neg (fun e => h e.2.symm), Zf h]
  simp
theorem visB_end {M : List Mk} {m : Mk} {k : Int} (hk : m.kn ≤ k) : visB (M ++ [m]) k M.length = !m.vd := by
 have e : (M ++ [m])[M.length]? = some m := by rw [List.getElem?_append_right (Nat.le_refl _), Nat.sub_self]; rfl
 unfold visB
 rw [e, List.length_append, List.length_singleton]
 show (!m.vd && (decide (m.kn ≤ k) && decide (enc (last (M ++ [m]) k m.key (M.length + 1)) = (M.length : Int)))) = _
 rw [last_end, if_pos ⟨hk, rfl⟩, Zt hk, Zt (show enc (some M.length) = (M.length : Int) from rfl)]
 simp
theorem visB_late {M : List Mk} {m : Mk} {k : Int} (hk : k < m.kn) (i : Nat) (hi : i < M.length) : visB (M ++ [m]) k i = visB M k i := by
 unfold visB
 rw [List.getElem?_append_left hi, List.length_append, List.length_singleton]
 cases M[i]? with
 | none => rfl
 | some x =>
  show (!x.vd && (decide (x.kn ≤ k) && decide (enc (last (M ++ [m]) k x.key (M.length + 1)) = (i : Int)))) = _
  rw [last_end, if_neg (fun e => by omega)]
theorem visB_none {M : List Mk} {m : Mk} {k : Int} (hk : k < m.kn) : visB (M ++ [m]) k M.length = false := by
 have e : (M ++ [m])[M.length]? = some m := by rw [List.getElem?_append_right (Nat.le_refl _), Nat.sub_self]; rfl
 unfold visB
 rw [e]
 show (!m.vd && (decide (m.kn ≤ k) && _)) = false
 rw [Zf Zo]; simp
theorem vis_lt {M : List Mk} {k : Int} {i : Nat} (h : i ∈ vis M k) : i < M.length := List.mem_range.1 (List.mem_filter.1 h).1
end As
namespace Tq
open Jb
def key (T : Int → ByteArray) (q : JQ) : ByteArray := q.src ++ { data := #[44] } ++ q.ins ++ { data := #[44] } ++ T q.day
def mk (T : Int → ByteArray) (q : JQ) : As.Mk := ⟨key T q, q.kn, q.vd⟩
def vis (T : Int → ByteArray) (L : List JQ) (k : Int) : List JQ := (As.vis (L.map (mk T)) k).filterMap (L[·]?)
variable {T : Int → ByteArray}
theorem fm_filter (L : List JQ) (q : JQ) (kq : ByteArray) : ∀ Z : List Nat, (∀ i ∈ Z, i < L.length) → (Z.filter fun i => !decide ((L.map (mk T))[i]?.map As.Mk.key = some kq)).filterMap ((L ++ [q])[·]?) = (Z.filterMap (L[·]?)).filter (fun x => !decide (key T x = kq))
 | [], _ => rfl
 | i :: Z, h => by
  have ih := fm_filter L q kq Z (fun j hj => h j (List.mem_cons_of_mem _ hj))
  have hi := h i List.mem_cons_self
  have ex : L[i]? = some L[i] := List.getElem?_eq_getElem hi
  rw [List.filterMap_cons, ex]
  have em : (L.map (mk T))[i]?.map As.Mk.key = some (key T L[i]) := by rw [List.getElem?_map, ex]; rfl
  rw [List.filter_cons, em]
  by_cases hk : key T L[i] = kq
  ·rw [if_neg (by simp [hk]), List.filter_cons_of_neg (by simp [hk])]
   exact ih
  ·rw [if_pos (by simp [hk]), List.filter_cons_of_pos (by simp [hk]), List.filterMap_cons, List.getElem?_append_left hi, ex]
   exact congrArg _ ih
theorem fm_same (L : List JQ) (q : JQ) : ∀ Z : List Nat, (∀ i ∈ Z, i < L.length) → Z.filterMap ((L ++ [q])[·]?) = Z.filterMap (L[·]?)
 | [], _ => rfl
 | i :: Z, h => by
  have hi := h i List.mem_cons_self
  rw [List.filterMap_cons, List.filterMap_cons, List.getElem?_append_left hi, fm_same L q Z (fun j hj => h j (List.mem_cons_of_mem _ hj))]
theorem vis_lt {L : List JQ} {k : Int} : ∀ i ∈ As.vis (L.map (mk T)) k, i < L.length := fun i h => by
 have := As.vis_lt h
 rwa [List.length_map] at this
theorem vis_app {L : List JQ} {q : JQ} {k : Int} (hk : q.kn ≤ k) : vis T (L ++ [q]) k = (vis T L k).filter (fun x => !decide (key T x = key T q)) ++ (if q.vd then [] else [q]) := by
 unfold vis
 rw [List.map_append, List.map_singleton]
 have hv : As.vis (L.map (mk T) ++ [mk T q]) k = ((As.vis (L.map (mk T)) k).filter fun i => !decide ((L.map (mk T))[i]?.map As.Mk.key = some (key T q))) ++ (if q.vd then [] else [L.length]) := by
  unfold As.vis
  rw [List.length_append, List.length_singleton, List.range_succ, List.filter_append, List.filter_filter]
  congr 1
  ·refine List.filter_congr fun i hi => ?_
   have hi := List.mem_range.1 hi
   have ex : (L.map (mk T))[i]? = some (L.map (mk T))[i] := List.getElem?_eq_getElem hi
   rw [As.visB_app hk ex, ex, Bool.and_comm]
   congr 2
   simp only [Option.map_some, Option.some.injEq]
   rfl
  ·have e := As.visB_end (M := L.map (mk T)) (m := mk T q) hk
   rw [List.filter_cons, e, List.filter_nil, List.length_map]
   show (if (!q.vd) = true then [L.length] else []) = _
   cases q.vd <;> rfl
 rw [hv, List.filterMap_append, fm_filter L q _ _ vis_lt]
 congr 1
 cases q.vd with
 | true => rfl
 | false =>
  show [L.length].filterMap _ = [q]
  rw [List.filterMap_cons, List.getElem?_append_right (Nat.le_refl _), Nat.sub_self]; rfl
theorem vis_late {L : List JQ} {q : JQ} {k : Int} (hk : k < q.kn) : vis T (L ++ [q]) k = vis T L k := by
 unfold vis
 rw [List.map_append, List.map_singleton]
 have hv : As.vis (L.map (mk T) ++ [mk T q]) k = As.vis (L.map (mk T)) k := by
  unfold As.vis
  rw [List.length_append, List.length_singleton, List.range_succ, List.filter_append]
  have e := As.visB_none (M := L.map (mk T)) (m := mk T q) hk
  rw [List.filter_cons, e, List.filter_nil, if_neg Zd, List.append_nil]
  exact List.filter_congr fun i hi => As.visB_late (m := mk T q) hk i (List.mem_range.1 hi)
 rw [hv, fm_same L q _ vis_lt]
theorem vis_nil (k : Int) : vis T [] k = [] := rfl
theorem snoc_ind {P : List JQ → Prop} (h0 : P []) (h : ∀ L q, P L → P (L ++ [q])) (L : List JQ) : P L := by
 have : ∀ n, ∀ L : List JQ, L.length = n → P L := by
  intro n
  induction n with
  | zero => intro L hL; rw [List.length_eq_zero_iff.1 hL]; exact h0
  | succ n ih =>
   intro L hL
   have hne : L ≠ [] := by intro e; subst e; simp at hL
   rw [← List.dropLast_concat_getLast hne]
   exact h _ _ (ih _ (by rw [List.length_dropLast, hL]; rfl))
 exact this _ L rfl
theorem vis_facts (L : List JQ) (k : Int) : ((vis T L k).map (key T)).Nodup ∧ ∀ x ∈ vis T L k, x ∈ L ∧ x.vd = false ∧ x.kn ≤ k := by
 refine snoc_ind (P := fun L => ((vis T L k).map (key T)).Nodup ∧ ∀ x ∈ vis T L k, x ∈ L ∧ x.vd = false ∧ x.kn ≤ k) ⟨List.nodup_nil, fun x hx => by simp [vis_nil] at hx⟩ ?_ L
 rintro L q ⟨h1, h2⟩
 by_cases hk : q.kn ≤ k
 ·rw [vis_app hk]
  have hf : ∀ x ∈ (vis T L k).filter (fun x => !decide (key T x = key T q)), key T x ≠ key T q := fun x hx => by
   have := (List.mem_filter.1 hx).2
   simpa using this
  have hn : (((vis T L k).filter (fun x => !decide (key T x = key T q))).map (key T)).Nodup := List.Nodup.sublist (List.Sublist.map _ List.filter_sublist) h1
  cases hv : q.vd with
  | true =>
   rw [if_pos rfl, List.append_nil]
   exact ⟨hn, fun x hx => by
    obtain ⟨a, b, c⟩ := h2 x (List.mem_filter.1 hx).1
    exact ⟨List.mem_append_left _ a, b, c⟩⟩
  | false =>
   rw [if_neg Zd]
   refine ⟨?_, fun x hx => ?_⟩
   ·rw [List.map_append, List.nodup_append]
    refine ⟨hn, by simp, fun a ha b hb => ?_⟩
    obtain ⟨x, hx, rfl⟩ := List.mem_map.1 ha
    simp only [List.map_singleton, List.mem_singleton] at hb
    subst hb
    exact hf x hx
   ·rcases List.mem_append.1 hx with hx | hx
    ·obtain ⟨a, b, c⟩ := h2 x (List.mem_filter.1 hx).1
     exact ⟨List.mem_append_left _ a, b, c⟩
    ·obtain rfl := List.mem_singleton.1 hx
     exact ⟨List.mem_append_right _ hx, hv, hk⟩
 ·rw [vis_late Zo]
  exact ⟨h1, fun x hx => by
   obtain ⟨a, b, c⟩ := h2 x hx
   exact ⟨List.mem_append_left _ a, b, c⟩⟩
end Tq
end
section
open Jb
theorem Jb.okc_cases (d : Bool) (i c : Nat) :
    (okc d i c = true ∧ ((¬ ((c : Int) < 65) ∧ ¬ (90 < (c : Int))) ∨ ((c : Int) < 65 ∧ d = true ∧ ((i : Int) == 0) = false ∧ ¬ ((c : Int) < 48) ∧ ¬ (57 < (c : Int))))) ∨
    (okc d i c = false ∧ (((c : Int) < 65 ∧ (d = false ∨ (d = true ∧ (i = 0 ∨ (((i : Int) == 0) = false ∧ ((c : Int) < 48 ∨ (¬ ((c : Int) < 48) ∧ 57 < (c : Int)))))))) ∨ (¬ ((c : Int) < 65) ∧ 90 < (c : Int) ∧ (d = false ∨ (d = true ∧ (i = 0 ∨ (((i : Int) == 0) = false ∧ ¬ ((c : Int) < 48) ∧ 57 < (c : Int)))))))) := by
 unfold okc cap dig
 have hb : ((i : Int) == 0) = decide (i = 0) := by
  by_cases h : i = 0
  ·subst h; rfl
  ·rw [Zf h]; exact Zb Zo
 rw [hb]
 cases d <;> by_cases h0 : i = 0 <;> by_cases h1 : c < 65 <;> by_cases h2 : 90 < c <;> by_cases h3 : c < 48 <;> by_cases h4 : 57 < c <;> simp_all <;> omega
theorem qcap_any (s : ByteArray) (hs : s.size ≤ 9223372036854775807) (v : Bool) (hv : Hid (v = (decide (1 ≤ s.size) && Jb.all (okc true) s))) (w : World) :
    Calls Tryz.prog 109 #[.string s] w fun e w' => e = .returned (.bool v) ∧ w = w' := by
 go_enter Tryz.func109, Tryz.ntmps109
 go_wp2
 go_loop [3, 6] (fun _ t => ∃ k : Nat, k ≤ s.size ∧ t = .int .i64 k ∧ Hid (∀ j, j < k → okc true j (byt s j) = true)) (fun _ t => s.size - (intOf t).toNat)
 case atStart => exact ⟨0, by omega, rfl, Zi fun j h => by omega⟩
 case round =>
  obtain ⟨k, hk, rfl, HO⟩ := hrel
  by_cases hlt : k < s.size
  ·have hbk := byt_at hlt
   rcases okc_cases true k s[k].toNat with ⟨ho, hc⟩ | ⟨ho, hc⟩
   ·have HA : Hid (okc true k (byt s k) = true) := Zi (by rw [hbk]; exact ho)
    clear ho hbk
    rcases hc with ⟨c1, c2⟩ | ⟨c1, -, c3, c4, c5⟩
    all_goals
     go_wp2
     go_round
     case rel => exact ⟨k + 1, by omega, by go_num, Zi fun j hj => by
      by_cases e : j = k
      ·subst e; exact HA.out
      ·exact HO.out j Zo⟩
     case measure => simp [intOf]; omega
   ·have HV : Hid (v = false) := Zi (by rw [hv.out, all_no hlt (by rw [hbk]; exact ho), Bool.and_false])
    clear ho hbk
    rcases hc with ⟨c1, c2 | ⟨-, c2 | ⟨c2, c3 | ⟨c3, c4⟩⟩⟩⟩ | ⟨c0, c1, c2 | ⟨-, c2 | ⟨c2, c3, c4⟩⟩⟩
    ·cases c2
    ·subst c2
     go_wp2
     go_ret
     rw [HV.out]; exact ⟨rfl, rfl⟩
    ·go_wp2
     go_ret
     rw [HV.out]; exact ⟨rfl, rfl⟩
    ·go_wp2
     go_ret
     rw [HV.out]; exact ⟨rfl, rfl⟩
    ·cases c2
    ·subst c2
     go_wp2
     go_ret
     rw [HV.out]; exact ⟨rfl, rfl⟩
    ·go_wp2
     go_ret
     rw [HV.out]; exact ⟨rfl, rfl⟩
  ·have HV : Hid (v = decide (1 ≤ s.size)) := Zi (by rw [hv.out, all_iff.2 (fun i hi => HO.out i Zo), Bool.and_true])
   by_cases h0 : s.size = 0
   ·have hl : s.toList.isEmpty = true := by
      rw [Lib.toList_data]
      have : s.data.toList.length = 0 := by rw [Array.length_toList]; exact h0
      cases e : s.data.toList with
      | nil => rfl
      | cons a l => rw [e] at this; simp at this
    have HF : Hid (v = false) := Zi (by rw [HV.out]; exact Zf Zo)
    clear h0
    go_wp2
    go_ret
    rw [HF.out]; exact ⟨rfl, rfl⟩
   ·have hl : s.toList.isEmpty = false := by
      rw [Lib.toList_data]
      cases e : s.data.toList with
      | nil =>
       have : s.data.toList.length = 0 := by rw [e]; rfl
       rw [Array.length_toList] at this
       exact absurd this h0
      | cons a l => rfl
    have HF : Hid (v = true) := Zi (by rw [HV.out]; exact Zt Zo)
    clear h0
    go_wp2
    go_ret
    rw [HF.out]; exact ⟨rfl, rfl⟩
end
section
open Jb
theorem FA.cell {T : TypeId} {c : Array Value} {k : Nat} {v : Value} (h : FA T c k v) (hT : aggT T = some false) : c[k]? = some v := by
 rcases h with ⟨_, h2⟩ | ⟨h1, _⟩
 ·exact h2
 ·rw [hT] at h1; cases h1
theorem known_w (n : Int) : known n = (decide (1 ≤ n) && decide (n ≤ 2147483647)) := rfl
end
section
open Jb
theorem isDay_w (n : Int) : Dt.isDay n = (decide (0 ≤ n) && decide (n ≤ 73048)) := by unfold Dt.isDay; exact Bool.decide_and _ _
end
section
open Jb
theorem Jb.code_3 (s : ByteArray) (h3 : s.size = 3) : code s = (cap (byt s 0) && (cap (byt s 1) && cap (byt s 2))) := by
 unfold code Jb.all
 rw [Zt h3, h3, Bool.true_and]
 simp [List.range, List.range.loop, okc]
end
section
theorem z9_74 {P : Prop} (h : P := by
 subst hv
 clear h1
 refine start_M [] HM Zk (fun w0x H9 => ?_)
 replace HM := H9; clear H9
 refine k_ld 0 [] (heldE HM) ?_
 refine j_one 1 fun K9 hK9 => ?_
 refine j_call1 (v := ?_) HM ?_ ?_; rotate_left 1; (focus (with_reducible (first | exact WH _ | exact CQ _))); clear HM; intro w1 HM
 refine hK9 _ _ (heldE HM) ?_; clear hK9 K9
 refine j_one 2 fun K9 hK9 => ?_
 refine j_call2 (v := ?_) HM ?_ ?_; rotate_left 1; (focus (with_reducible (first | exact WH _ | exact CQ _))); clear HM; intro w1 HM
 refine hK9 _ _ (heldE HM) ?_; clear hK9 K9
 refine k_mv 3 (heldE HM) ?_
 refine k_ext 4 (heldE HM) ?_
 refine k_ext 5 (heldE HM) ?_
 refine k_mv 6 (heldE HM) ?_
 refine k_mv 7 (heldE HM) ?_
 refine wpAnyL_done Zk ?_ _
 (go_wp2_with fail; go_ret; exact ⟨rfl, HM.low⟩)) : P := h
end
section
open Jb
def Jb.btw : Option Rat → Int → Bool
 | none, _ => false
 | some x, m => decide (0 ≤ x.num) && decide (Rt.cmp x ((m : Int) : Rat) ≤ 0)
theorem Jb.fit_int {m : Int} (h1 : -9223372036854775808 ≤ m) (h2 : m < 9223372036854775808) : Rt.Fit ((m : Int) : Rat) := by
 constructor
 ·rw [Rat.num_intCast]
  have := Bg.p2_mono (show 64 ≤ 480 by decide)
  have e : Bg.p2 64 = 18446744073709551616 := by unfold Bg.p2; rfl
  omega
 ·rw [Rat.den_intCast]
  have := Bg.p2_mono (show 1 ≤ 480 by decide)
  have e : Bg.p2 1 = 2 := by unfold Bg.p2; rfl
  omega
theorem Rr.c_inj {x y : Rr} (h : x.c = y.c) (w : World) : x = y := by
 have e1 := Rr.eqT 1 x y w
 have e2 := Rr.eqT 1 x x w
 rw [← h] at e1
 rw [e1] at e2
 injection e2 with e3
 exact Rr.b_iff.1 (e3.trans (Rr.b_iff.2 rfl))
def Rr.q (x : Rat) (hx : Rt.Fit x) : Rr := ⟨decide (x.num < 0), x.num.natAbs, false, x.den, Ac.nl hx, by have := Ac.dl hx; rwa [Int.natAbs_natCast] at this⟩
theorem Rr.q_c (x : Rat) (hx : Rt.Fit x) : (Rr.q x hx).c = Rt.qA x := by
 rw [Rr.c_eq, qA_rZ, rZ_ratA, Int.natAbs_natCast, Zf (show ¬ ((x.den : Nat) : Int) < 0 by omega)]; rfl
theorem Rt.qA_inj {x y : Rat} (hx : Rt.Fit x) (hy : Rt.Fit y) (h : Rt.qA x = Rt.qA y) (w : World) : x = y := by
 have e := Rr.c_inj (x := Rr.q x hx) (y := Rr.q y hy) (by rw [Rr.q_c, Rr.q_c, h]) w
 have hM : x.num.natAbs = y.num.natAbs := congrArg Rr.M e
 have hs : decide (x.num < 0) = decide (y.num < 0) := congrArg Rr.s e
 have hN : x.den = y.den := congrArg Rr.N e
 refine Rat.ext ?_ hN
 by_cases h1 : x.num < 0
 ·rw [Zt h1] at hs
  have h2 := of_decide_eq_true hs.symm
  omega
 ·rw [Zf h1] at hs
  have h2 := of_decide_eq_false hs.symm
  omega
theorem Rt.vc_fun {o o' : Option Rat} {c : Array Value} (h : Rt.Vc o c) (h' : Rt.Vc o' c) (w : World) : o = o' := by
 have key : ∀ {x : Rat} {c : Array Value}, Rt.Vc (some x) c → Rt.Vc none c → False := by
  intro x c h1 h2
  obtain ⟨hx, rfl⟩ := h1
  obtain ⟨s, M, t, N, hM, hN, hk, e⟩ := h2
  have e2 := Rr.c_inj (x := Rr.q x hx) (y := ⟨s, M, t, N, hM, hN⟩) (by rw [Rr.q_c, Rr.c_eq, e]) w
  have h3 := hx.okz
  unfold Rt.okz at h3
  have es : decide (x.num < 0) = s := congrArg Rr.s e2
  have eM : x.num.natAbs = M := congrArg Rr.M e2
  have et : false = t := congrArg Rr.t e2
  have eN : x.den = N := congrArg Rr.N e2
  rw [Int.natAbs_natCast, Zf (show ¬ ((x.den : Nat) : Int) < 0 by omega), es, eM, eN, et] at h3
  rw [h3] at hk; cases hk
 cases o with
 | none => cases o' with
  | none => rfl
  | some y => exact (key h' h).elim
 | some x => cases o' with
  | none => exact (key h h').elim
  | some y => rw [Rt.qA_inj h.1 h'.1 (h.2.symm.trans h'.2) w]
def Jb.prcP : Option Rat → Prop
 | none => False
 | some x => Ac.Txt x ∧ 0 ≤ x ∧ x ≤ ((1000000000 : Int) : Rat)
theorem Jb.price_iff {r : Rr} {o : Option Rat} (h : Rt.Vc o r.c) (w : World) : price r = true ↔ prcP o := by
 unfold price
 rw [@decide_eq_true_eq _ (Classical.propDecidable _)]
 constructor
 ·rintro ⟨x, hv, h1, h2, h3⟩
  rw [Rt.vc_fun h hv w]
  exact ⟨h1, h2, h3⟩
 ·intro h2
  cases o with
  | none => exact h2.elim
  | some x => exact ⟨x, h, h2⟩
theorem Jb.rat0_c : rat0.c = Rt.qA 0 := by
 rw [← Rr.q_c 0 Rt.fit_zero, Rr.c_eq, Rr.c_eq]; rfl
theorem Jb.rat0_iff {r : Rr} {o : Option Rat} (h : Rt.Vc o r.c) (w : World) : Rr.b r rat0 = true ↔ o = some 0 := by
 rw [Rr.b_iff]
 constructor
 ·rintro rfl
  exact Rt.vc_fun h (o' := some 0) ⟨Rt.fit_zero, rat0_c⟩ w
 ·rintro rfl
  exact Rr.c_inj (h.2.trans rat0_c.symm) w
theorem Jb.pay_v {r : Rr} {x : Rat} (h : Rt.Vc (some x) r.c) {e : Int} (he : Jb.tx (some x) e) (w : World) :
    price r = (decide (e = 0) && (decide (0 ≤ x.num.sign) && decide (Rt.cmp x ((1000000000 : Int) : Rat) ≤ 0))) ∧
    (price r && !Rr.b r rat0) = (decide (e = 0) && (decide (0 < x.num.sign) && decide (Rt.cmp x ((1000000000 : Int) : Rat) ≤ 0))) := by
 have hp := price_iff h w
 have hz := rat0_iff h w
 have hc : Rt.cmp x ((1000000000 : Int) : Rat) ≤ 0 ↔ x ≤ ((1000000000 : Int) : Rat) := by
  rcases Rt.cmp_cases x ((1000000000 : Int) : Rat) with ⟨h, h2⟩ | ⟨h, h2⟩ | ⟨h, h2⟩
  ·rw [h]; exact ⟨fun _ => Rat.le_of_lt h2, fun _ => by decide⟩
  ·rw [h, h2]; exact ⟨fun _ => Rat.le_refl, fun _ => by decide⟩
  ·rw [h]; exact ⟨fun h3 => absurd h3 Zd, fun h3 => absurd h2 (Rat.not_lt.2 h3)⟩
 by_cases h0 : 0 ≤ x.num
 ·have hy := he h0
  have hs : 0 ≤ x.num.sign := Int.sign_nonneg_iff.2 h0
  have hx0 : 0 ≤ x := Rat.num_nonneg.1 h0
  have e1 : price r = (decide (e = 0) && (decide (0 ≤ x.num.sign) && decide (Rt.cmp x ((1000000000 : Int) : Rat) ≤ 0))) := by
   rw [Bool.eq_iff_iff, hp, Zt hs, Bool.true_and, Bool.and_eq_true, decide_eq_true_eq, decide_eq_true_eq, hc]
   exact ⟨fun h => ⟨hy.2 h.1, h.2.2⟩, fun h => ⟨hy.1 h.1, hx0, h.2⟩⟩
  refine ⟨e1, ?_⟩
  rw [e1]
  by_cases hx : x = 0
  ·have hb : Rr.b r rat0 = true := hz.2 (by rw [hx])
   rw [hb, hx]; simp
  ·have hb : Rr.b r rat0 = false := by
     cases hb : Rr.b r rat0 with
     | false => rfl
     | true => exact absurd (Option.some.inj (hz.1 hb)) hx
   have hn : x.num ≠ 0 := fun h => hx (Rat.num_eq_zero.1 h)
   have hs1 : 0 < x.num.sign := Int.sign_pos_iff.2 Zo
   rw [hb, Zt hs, Zt hs1]; simp
 ·have hs : ¬ 0 ≤ x.num.sign := fun h => h0 (Int.sign_nonneg_iff.1 h)
  have hs1 : ¬ 0 < x.num.sign := fun h => hs (Int.le_of_lt h)
  have e1 : price r = false := by
   cases h9 : price r with
   | false => rfl
   | true => exact absurd (Rat.num_nonneg.2 (hp.1 h9).2.1) h0
  rw [e1, Zf hs, Zf hs1]; simp
theorem Jb.price_no {r : Rr} (h : Rt.Vc none r.c) (w : World) : price r = false := by
 cases h9 : price r with
 | false => rfl
 | true => exact ((price_iff h w).1 h9).elim
theorem Jb.fit_9 : Rt.Fit ((1000000000 : Int) : Rat) := fit_int Zd Zd
theorem qprice_any (r : Rr) (w : World) :
    Calls Tryz.prog 67 #[.agg r.c] w fun e w' => e = .returned (.bool (price r && !Rr.b r rat0)) ∧ Below w.heap.size w w' := by
 obtain ⟨o, ho⟩ := r.vc
 have HM := Mem.start w
 have k0 := r.la
 have HO := Zi ho
 have TX := fun w => text_o o r.c HO.out w
 obtain ⟨y, hy⟩ : ∃ y : Rat, Hid (y = ((1000000000 : Int) : Rat)) := ⟨_, Zi rfl⟩
 have fy : Rt.Fit y := by rw [hy.out]; exact fit_9
 have WH := fun w => whole_q 1000000000 y Zd Zd hy w
 cases o with
 | none =>
  have hv : (price r && !Rr.b r rat0) = false := by rw [price_no ho w]; rfl
  rw [hv]
  have SB : ∀ w, Calls Tryz.prog 110 #[.agg r.c] w fun r w' => r = .returned (.tuple #[.int .i64 0, .int .i64 20]) ∧ Below w.heap.size w w' := fun w => by
   obtain ⟨s, M, t, N, hM, hN, hb, e⟩ := HO.out
   rw [e]
   exact Sign_bad s M t N hM hN (Zi hb.symm) w
  have CB : ∀ w, Calls Tryz.prog 71 #[.agg r.c, .agg (Rt.qA y)] w fun r w' => r = .returned (.tuple #[.int .i64 0, .int .i64 20]) ∧ Below w.heap.size w w' := fun w => by
   obtain ⟨s, M, t, N, hM, hN, hb, e⟩ := HO.out
   rw [e, qA_rZ, rZ_ratA]
   exact Cmp_bad s M t N _ _ _ _ hM hN (Ac.nl fy) (Ac.dl fy) (by rw [hb]; rfl) w
  clear hv ho
  go_enter Tryz.func67, Tryz.ntmps67
  go_upto_region 3 with (first | (go_at_call 41; refine (TX _).mono ?_; rintro e9 w2 ⟨⟨s, e, rfl, HE⟩, hL⟩; replace HM := HM.call hL; clear hL) | (go_at_call 110; (with_reducible refine Zc HM (SB _) ?_; clear HM; intro w2 HM)) | (first | ((with_reducible refine g_ld ?_); refine a_ld HM ?_) | ((with_reducible refine g_bx ?_); refine a_bx HM ?_; clear HM; intro bk w1 HM)))
  have he : (e == 0) = false := Zb HE.out
  refine start_M [] HM Zk (fun w0x H9 => ?_)
  replace HM := H9; clear H9
  refine k_ld 0 [] (heldE HM) ?_
  refine j_one 1 fun K9 hK9 => ?_
  refine j_call1 (v := ?_) HM ?_ ?_; rotate_left 1; (focus (with_reducible (first | exact WH _ | exact CB _))); clear HM; intro w1 HM
  refine hK9 _ _ (heldE HM) ?_; clear hK9 K9
  refine j_one 2 fun K9 hK9 => ?_
  refine j_call2 (v := ?_) HM ?_ ?_; rotate_left 1; (focus (with_reducible (first | exact WH _ | exact CB _))); clear HM; intro w1 HM
  refine hK9 _ _ (heldE HM) ?_; clear hK9 K9
  refine k_mv 3 (heldE HM) ?_
  refine k_ext 4 (heldE HM) ?_
  refine k_ext 5 (heldE HM) ?_
  refine k_mv 6 (heldE HM) ?_
  refine k_mv 7 (heldE HM) ?_
  refine wpAnyL_done Zk ?_ _
  (go_wp2_with fail; go_ret; exact ⟨rfl, HM.low⟩)
 | some x =>
  obtain ⟨hx, hc⟩ := ho
  obtain ⟨g, hg⟩ := Zh (x.num.sign)
  obtain ⟨g2, hg2⟩ := Zh (Rt.cmp x y)
  have SQ : ∀ w, Calls Tryz.prog 110 #[.agg r.c] w fun r w' => r = .returned (.tuple #[.int .i64 g, .int .i64 0]) ∧ Below w.heap.size w w' := fun w => by rw [hc]; exact sign_q x g hx hg w
  have CQ : ∀ w, Calls Tryz.prog 71 #[.agg r.c, .agg (Rt.qA y)] w fun r w' => r = .returned (.tuple #[.int .i64 g2, .int .i64 0]) ∧ Below w.heap.size w w' := fun w => by rw [hc]; exact cmp_q x y g2 hx fy hg2 w
  have HPV : ∀ e, Hid (Jb.tx (some x) e) → Hid ((price r && !Rr.b r rat0) = (decide (e = 0) && (decide (0 < g) && decide (g2 ≤ 0)))) := fun e he => Zi (by
   have := (pay_v HO.out he.out w).2
   rw [hg.out, hg2.out, hy.out]; exact this)
  generalize (price r && !Rr.b r rat0) = v at HPV ⊢
  clear hc hg hg2 hy
  go_enter Tryz.func67, Tryz.ntmps67
  go_upto_region 3 with (first | (go_at_call 41; refine (TX _).mono ?_; rintro e9 w2 ⟨⟨s, e, rfl, HE⟩, hL⟩; replace HM := HM.call hL; clear hL) | (go_at_call 110; (with_reducible refine Zc HM (SQ _) ?_; clear HM; intro w2 HM)) | (first | ((with_reducible refine g_ld ?_); refine a_ld HM ?_) | ((with_reducible refine g_bx ?_); refine a_bx HM ?_; clear HM; intro bk w1 HM)))
  have hv := (HPV e HE).out
  clear HPV HE TX
  by_cases h1 : e = 0
  ·have he : (e == 0) = true := beq_iff_eq.2 h1
   by_cases h2 : 0 < g
   ·rw [Zt h1, Zt h2, Bool.true_and, Bool.true_and] at hv
    exact z9_74
   ·rw [Zt h1, Zf h2, Bool.true_and, Bool.false_and] at hv
    exact z9_74
  ·have he : (e == 0) = false := Zb h1
   rw [Zf h1, Bool.false_and] at hv
   exact z9_74
end
section
theorem z9_75 {P : Prop} (h : P := by
 clear h
 go_enter Tryz.func65, Tryz.ntmps65
 go_wp2_with (go_at_call 109; refine (C _).mono ?_; rintro e w' ⟨rfl, rfl⟩)
 go_ret
 exact ⟨rfl, rfl⟩) : P := h
theorem z9_76 {P : Prop} (h : P := by
 subst hv
 go_enter Tryz.func66, Tryz.ntmps66
 go_wp2_with (go_at_call 109; refine (C _).mono ?_; rintro e w' ⟨rfl, rfl⟩)
 go_ret
 exact ⟨rfl, rfl⟩) : P := h
end
section
open Jb
theorem qins_any (s : ByteArray) (hs : s.size ≤ 9223372036854775807) (w : World) :
    Calls Tryz.prog 65 #[.string s] w fun e w' => e = .returned (.bool (paper s)) ∧ w = w' := by
 obtain ⟨b, hb⟩ := Zh ((decide (1 ≤ s.size) && Jb.all (okc true) s))
 have C := fun w => qcap_any s hs b hb w
 have hv : Hid (paper s = (b && decide (s.size ≤ 12))) := Zi (by
  rw [hb.out]; unfold paper
  rw [Bool.and_assoc, Bool.and_comm (Jb.all _ _)])
 generalize paper s = v at hv ⊢
 clear hb
 cases b with
 | false =>
  obtain rfl : v = false := hv.out
  go_enter Tryz.func65, Tryz.ntmps65
  go_wp2_with (go_at_call 109; refine (C _).mono ?_; rintro e w' ⟨rfl, rfl⟩)
  go_ret
  exact ⟨rfl, rfl⟩
 | true =>
  by_cases h : s.size ≤ 12
  ·obtain rfl : v = true := by rw [hv.out, Zt h]; rfl
   have h2 : (s.size : Int) ≤ 12 := by omega
   exact z9_75
  ·obtain rfl : v = false := by rw [hv.out, Zf h]; rfl
   have h2 : decide ((s.size : Int) ≤ 12) = false := Zf Zo
   exact z9_75
theorem Jb.okc_cap {i c : Nat} (hi : i ≠ 0) (h : okc true i c = true) : cap c = decide ((65 : Int) ≤ (c : Int)) := by
 unfold okc cap dig at h
 unfold cap
 by_cases h1 : 65 ≤ c <;> by_cases h2 : c ≤ 90 <;> by_cases h3 : 48 ≤ c <;> by_cases h4 : c ≤ 57 <;> simp_all <;> omega
theorem Jb.okc_cap0 {c : Nat} (h : okc true 0 c = true) : cap c = true := by
 unfold okc at h
 simpa using h
theorem qcur_any (s : ByteArray) (hs : s.size ≤ 9223372036854775807) (w : World) :
    Calls Tryz.prog 66 #[.string s] w fun e w' => e = .returned (.bool (code s)) ∧ w = w' := by
 obtain ⟨b, hb⟩ := Zh ((decide (1 ≤ s.size) && Jb.all (okc true) s))
 have C := fun w => qcap_any s hs b hb w
 by_cases h3 : s.size = 3
 ·have hn : ((s.size : Int) == 3) = true := by rw [h3]; rfl
  have i1 : 1 < s.size := by omega
  have i2 : 2 < s.size := by omega
  cases hbb : b with
  | false =>
   have hv : code s = false := by
    cases hc : code s with
    | false => rfl
    | true =>
     unfold code at hc
     rw [Zt h3, Bool.true_and] at hc
     have ha : Jb.all (okc true) s = true := all_iff.2 fun i hi => by
      have := all_iff.1 hc i hi
      unfold okc at this ⊢
      simp at this
      simp [this]
     have := hb.out
     rw [hbb, ha, Zt Zo] at this
     cases this
   rw [hv]
   subst hbb
   clear hb h3 hv
   go_enter Tryz.func66, Tryz.ntmps66
   go_wp2_with (go_at_call 109; refine (C _).mono ?_; rintro e w' ⟨rfl, rfl⟩)
   go_ret
   exact ⟨rfl, rfl⟩
  | true =>
   have ha : Jb.all (okc true) s = true := by
    have := hb.out
    rw [hbb] at this
    exact (Bool.and_eq_true _ _ ▸ this.symm).2
   have e0 := okc_cap0 (by have := all_iff.1 ha 0 Zo; rwa [byt_at Zo] at this)
   have e1 := okc_cap (i := 1) Zd (by have := all_iff.1 ha 1 Zo; rwa [byt_at i1] at this)
   have e2 := okc_cap (i := 2) Zd (by have := all_iff.1 ha 2 Zo; rwa [byt_at i2] at this)
   have hv := code_3 s h3
   rw [byt_at (by omega : 0 < s.size), byt_at i1, byt_at i2, e0, e1, e2, Bool.true_and] at hv
   generalize code s = v at hv ⊢
   subst hbb
   clear hb h3 ha e0 e1 e2
   by_cases g1 : (65 : Int) ≤ (s[1].toNat : Nat)
   ·by_cases g2 : (65 : Int) ≤ (s[2].toNat : Nat)
    ·rw [Zt g1, Zt g2] at hv
     exact z9_76
    ·rw [Zt g1, Zf g2] at hv
     have g3 := Zf g2
     exact z9_76
   ·rw [Zf g1, Bool.false_and] at hv
    have g3 := Zf g1
    exact z9_76
 ·have hv : code s = false := by unfold code; rw [Zf h3]; rfl
  have hn : ((s.size : Int) == 3) = false := Zb Zo
  rw [hv]
  clear h3 hv hb
  cases b
  all_goals
   go_enter Tryz.func66, Tryz.ntmps66
   go_wp2_with (go_at_call 109; refine (C _).mono ?_; rintro e w' ⟨rfl, rfl⟩)
   go_ret
   exact ⟨rfl, rfl⟩
theorem qkn_any (n : Int) (v : Bool) (hv : Hid (v = (decide (1 ≤ n) && decide (n ≤ 2147483647)))) (w : World) :
    Calls Tryz.prog 32 #[.int .i64 n] w fun e w' => e = .returned (.bool v) ∧ w = w' := by
 go_enter Tryz.func32, Tryz.ntmps32
 by_cases h1 : 1 ≤ n <;> by_cases h2 : n ≤ 2147483647
 all_goals
  have HV : Hid (v = _) := hv
  have hv2 := HV.out
  simp only [h1, h2, decide_true, decide_false, Bool.and_true, Bool.and_false, Bool.false_and, Bool.true_and] at hv2
  subst hv2
  clear HV hv
  go_wp2
  go_ret
  exact ⟨rfl, rfl⟩
noncomputable def JQ.line (q : JQ) : Bool := Nm.usableB q.src && (paper q.ins && (code q.cur && ((decide (0 ≤ q.day) && decide (q.day ≤ 73048)) && (if q.vd then Rr.b q.prc Rr.zero else (price q.prc && !Rr.b q.prc rat0)))))
theorem JQ.right_w (q : JQ) : q.right = (q.line && Jb.known q.kn) := by
 unfold JQ.right JQ.line
 rw [isDay_w]
 generalize Nm.usableB q.src = a
 generalize paper q.ins = b
 generalize code q.cur = c
 generalize (decide (0 ≤ q.day) && decide (q.day ≤ 73048)) = d
 generalize Jb.known q.kn = e
 generalize (if q.vd = true then Rr.b q.prc Rr.zero else (price q.prc && !Rr.b q.prc rat0)) = f
 cases a <;> cases b <;> cases c <;> cases d <;> cases e <;> cases f <;> rfl
theorem qline_any (x : JQ) (hw : x.wf) (w : World) :
    Calls Tryz.prog 31 #[.agg x.c] w fun e w' => e = .returned (.bool x.line) ∧ Below w.heap.size w w' := by
 have HM := Mem.start w
 have flsrc := (JQ.f_src x).la
 have flins := (JQ.f_ins x).la
 have flcur := (JQ.f_cur x).la
 have flday := (JQ.f_day x).la
 have flprc := (JQ.f_prc x).la
 have flkn := (JQ.f_kn x).la
 have flvd := (JQ.f_vd x).la
 have ez : (Value.agg Tryz.zeroCells35) = .agg (Bg.rZ 0 0) := by kernel_rfl
 have E1 := Rr.eqT 9996 x.prc Rr.zero
 rw [Rr.zero_c, rZ_zero, ← ez] at E1
 clear ez
 have HV : Hid (x.line = (Nm.usableB x.src && (paper x.ins && (code x.cur && ((decide (0 ≤ x.day) && decide (x.day ≤ 73048)) && (if x.vd then Rr.b x.prc Rr.zero else (price x.prc && !Rr.b x.prc rat0))))))) := Zi (rfl)
 generalize x.line = v at HV ⊢
 have C1 := fun w => tname_any x.src (by have := hw; simp only [JQ.wf] at this; omega) w
 have C2 := fun w => belt (qins_any x.ins (by have := hw; simp only [JQ.wf] at this; omega) w)
 have C3 := fun w => belt (qcur_any x.cur (by have := hw; simp only [JQ.wf] at this; omega) w)
 have C5 := fun w => qprice_any x.prc w
 generalize Nm.usableB x.src = b1 at *
 generalize paper x.ins = b2 at *
 generalize code x.cur = b3 at *
 generalize Rr.b x.prc Rr.zero = b4 at *
 generalize (price x.prc && !Rr.b x.prc rat0) = b5 at *
 generalize x.vd = vd at HV flvd
 have hc : (b1 = true ∧ b2 = true ∧ b3 = true ∧ decide (x.day < 0) = false ∧ decide (73048 < x.day) = false ∧ vd = true ∧ b4 = v) ∨
     (b1 = true ∧ b2 = true ∧ b3 = true ∧ decide (x.day < 0) = false ∧ decide (73048 < x.day) = false ∧ vd = false ∧ b5 = v) ∨
     (b1 = true ∧ b2 = true ∧ b3 = true ∧ decide (x.day < 0) = false ∧ decide (73048 < x.day) = true ∧ false = v) ∨
     (b1 = true ∧ b2 = true ∧ b3 = true ∧ decide (x.day < 0) = true ∧ false = v) ∨
     (b1 = true ∧ b2 = true ∧ b3 = false ∧ false = v) ∨
     (b1 = true ∧ b2 = false ∧ false = v) ∨
     (b1 = false ∧ false = v) := by
  clear HM C1 C2 C3 C5
  cases b1 with
  | true =>
   cases b2 with
   | true =>
    cases b3 with
    | true =>
     by_cases h1 : 0 ≤ x.day
     ·skip
      by_cases h2 : x.day ≤ 73048
      ·skip
       cases vd with
       | true =>
        exact .inl (⟨rfl, rfl, rfl, Zn h1, Zn h2, rfl, by rw [HV.out]; simp [h1, h2]⟩)
       | false =>
        exact .inr (.inl (⟨rfl, rfl, rfl, Zn h1, Zn h2, rfl, by rw [HV.out]; simp [h1, h2]⟩))
      ·skip
       exact .inr (.inr (.inl (⟨rfl, rfl, rfl, Zn h1, Zt (Int.not_le.1 h2), by rw [HV.out]; simp [h1, h2]⟩)))
     ·skip
      exact .inr (.inr (.inr (.inl (⟨rfl, rfl, rfl, Zt (Int.not_le.1 h1), by rw [HV.out]; simp [h1]⟩))))
    | false =>
     exact Zr (.inl (⟨rfl, rfl, rfl, by rw [HV.out]; simp⟩))
   | false =>
    exact Zr (.inr (.inl (⟨rfl, rfl, by rw [HV.out]; simp⟩)))
  | false =>
   exact Zr (.inr (.inr (⟨rfl, by rw [HV.out]; simp⟩)))
 clear HV
 rcases hc with ⟨rfl, rfl, rfl, g3, g4, rfl, rfl⟩ | ⟨rfl, rfl, rfl, g3, g4, rfl, rfl⟩ | ⟨rfl, rfl, rfl, g3, g4, rfl⟩ | ⟨rfl, rfl, rfl, g3, rfl⟩ | ⟨rfl, rfl, rfl, rfl⟩ | ⟨rfl, rfl, rfl⟩ | ⟨rfl, rfl⟩
 all_goals
  go_enter Tryz.func31, Tryz.ntmps31
  go_wp2_with (first | ((with_reducible refine g_offw ?_); refine a_offw ?_) | (go_at_call 64; (with_reducible refine Zc HM (C1 _) ?_; clear HM; intro w2 HM)) | (go_at_call 65; (with_reducible refine Zc HM (C2 _) ?_; clear HM; intro w2 HM)) | (go_at_call 66; (with_reducible refine Zc HM (C3 _) ?_; clear HM; intro w2 HM)) | (go_at_call 67; (with_reducible refine Zc HM (C5 _) ?_; clear HM; intro w2 HM)) | ((with_reducible refine g_bin ?_); refine a_seqb (E1) Zk ?_) | (first | ((with_reducible refine g_ld ?_); refine a_ld HM ?_) | ((with_reducible refine g_bx ?_); refine a_bx HM ?_; clear HM; intro bk w1 HM) | ((with_reducible refine g_bld ?_); refine a_bld ?_)))
  go_ret
  exact ⟨rfl, HM.low⟩
end
section
open Jb
theorem Jb.str_l (a b : ByteArray) : (a.toList == b.toList) = (a == b) := by
 rw [Bool.eq_iff_iff, beq_iff_eq, jb_str, Lib.toList_data, Lib.toList_data]
 exact ⟨fun h => by cases a; cases b; simp_all [Array.toList_inj], fun h => by rw [h]⟩
end
section
theorem z9_83 {P : Prop} (h : P := by
 rcases h1 with h1 | h1
 ·injection h1 with h1; subst h1; exact ⟨List.mem_cons_self, hf⟩
 ·exact ⟨List.mem_cons_of_mem _ h1.1, h1.2⟩) : P := h
theorem z9_84 {P : Prop} (h : P := by
 rcases h1 with h1 | h1
 ·exact .inl h1
 ·exact .inr ⟨List.mem_cons_of_mem _ h1.1, h1.2⟩) : P := h
end
section
namespace As
theorem okFrom_app : ∀ (M : List Mk) (last : Int) (m : Mk), okFrom last M = true → (∀ x ∈ M, x.kn < m.kn) → last < m.kn → 1 ≤ m.key.size → m.key.size ≤ 64 → m.kn ≤ 2147483647 → okFrom last (M ++ [m]) = true
 | [], last, m, _, _, h1, h2, h3, h4 => by
  show okFrom last [m] = true
  rw [okFrom, okFrom]
  rw [Zf Zo, Zf Zo, Zf Zo, Zf Zo]; rfl
 | a :: r, last, m, h0, hk, h1, h2, h3, h4 => by
  rw [List.cons_append, okFrom]
  rw [okFrom, Bool.and_eq_true] at h0
  rw [h0.1, okFrom_app r a.kn m h0.2 (fun x hx => hk x (List.mem_cons_of_mem _ hx)) (hk a List.mem_cons_self) h2 h3 h4]; rfl
theorem ok_app {M : List Mk} {m : Mk} (h : ok M = true) (hl : M.length < 4096) (hk : ∀ x ∈ M, x.kn < m.kn) (h1 : 1 ≤ m.kn) (h2 : m.kn ≤ 2147483647) (h3 : 1 ≤ m.key.size) (h4 : m.key.size ≤ 64) : ok (M ++ [m]) = true := by
 unfold ok at h ⊢
 rw [Bool.and_eq_true] at h
 rw [okFrom_app M 0 m h.2 hk Zo h3 h4 h2, Zt (by rw [List.length_append, List.length_singleton]; omega)]; rfl
end As
namespace Tq
open Jb
variable {T : Int → ByteArray}
def er (q : JQ) : JQ := { q with kn := 0 }
def Sim (V W : List JQ) : Prop := (V.map er).Perm (W.map er)
theorem Sim.refl (V : List JQ) : Sim V V := List.Perm.refl _
theorem Sim.trans {U V W : List JQ} (h : Sim U V) (k : Sim V W) : Sim U W := List.Perm.trans h k
theorem Sim.symm {V W : List JQ} (h : Sim V W) : Sim W V := List.Perm.symm h
theorem Sim.get {V W : List JQ} (h : Sim V W) {x : JQ} (hx : x ∈ V) : ∃ y ∈ W, er y = er x := by
 have := h.mem_iff.1 (List.mem_map_of_mem hx)
 obtain ⟨y, hy, e⟩ := List.mem_map.1 this
 exact ⟨y, hy, e⟩
theorem nodup_key {V : List JQ} (h : (V.map (key T)).Nodup) {x y : JQ} (hx : x ∈ V) (hy : y ∈ V) (e : key T x = key T y) : x = y := by
 obtain ⟨i, hi, ei⟩ := List.getElem_of_mem hx
 obtain ⟨j, hj, ej⟩ := List.getElem_of_mem hy
 have := (List.getElem_inj (i := i) (j := j) (xs := V.map (key T)) (h₀ := by rw [List.length_map]; exact hi) (h₁ := by rw [List.length_map]; exact hj) h).1 (by rw [List.getElem_map, List.getElem_map, ei, ej, e])
 subst this
 rw [← ei, ej]
def later : Option JQ → JQ → Bool
 | none, _ => true
 | some b, q => decide (b.day < q.day)
def nw (f : JQ → Bool) : Option JQ → List JQ → Option JQ
 | a, [] => a
 | a, q :: V => nw f (if f q && later a q then some q else a) V
theorem nw_some (f : JQ → Bool) : ∀ (V : List JQ) (a : Option JQ) (q : JQ), nw f a V = some q → (a = some q ∨ q ∈ V ∧ f q = true) ∧ (∀ x ∈ V, f x = true → x.day ≤ q.day) ∧ ∀ b, a = some b → b.day ≤ q.day
 | [], a, q, h => by
  have h : a = some q := h
  subst h
  exact ⟨.inl rfl, fun x hx => by simp at hx, fun b hb => by injection hb with hb; subst hb; exact Int.le_refl _⟩
 | x :: V, a, q, h => by
  rw [nw] at h
  obtain ⟨h1, h2, h3⟩ := nw_some f V _ q h
  by_cases hf : f x = true
  ·cases a with
   | none =>
    simp only [hf, later, Bool.true_and, if_true] at h1 h3
    have hx := h3 x rfl
    refine ⟨.inr ?_, fun y hy hfy => ?_, fun b hb => by cases hb⟩
    ·exact z9_83
    ·rcases List.mem_cons.1 hy with rfl | hy
     ·exact hx
     ·exact h2 y hy hfy
   | some b =>
    by_cases hd : b.day < x.day
    ·simp only [hf, later, Zt hd, Bool.true_and, if_true] at h1 h3
     have hx := h3 x rfl
     refine ⟨.inr ?_, fun y hy hfy => ?_, fun c hc => ?_⟩
     ·exact z9_83
     ·rcases List.mem_cons.1 hy with rfl | hy
      ·exact hx
      ·exact h2 y hy hfy
     ·injection hc with hc; subst hc; omega
    ·simp only [hf, later, Zf hd, Bool.and_false, if_neg Bool.false_ne_true] at h1 h3
     have hb := h3 b rfl
     refine ⟨?_, fun y hy hfy => ?_, h3⟩
     ·exact z9_84
     ·rcases List.mem_cons.1 hy with rfl | hy
      ·omega
      ·exact h2 y hy hfy
  ·have hf0 : f x = false := by simpa using hf
   simp only [hf0, Bool.false_and, if_neg Bool.false_ne_true] at h1 h3
   refine ⟨?_, fun y hy hfy => ?_, h3⟩
   ·exact z9_84
   ·rcases List.mem_cons.1 hy with rfl | hy
    ·exact absurd hfy hf
    ·exact h2 y hy hfy
theorem nw_none (f : JQ → Bool) : ∀ (V : List JQ) (a : Option JQ), nw f a V = none → a = none ∧ ∀ x ∈ V, f x = false
 | [], a, h => ⟨h, fun x hx => by simp at hx⟩
 | x :: V, a, h => by
  rw [nw] at h
  obtain ⟨h1, h2⟩ := nw_none f V _ h
  by_cases hc : (f x && later a x) = true
  ·rw [if_pos hc] at h1; cases h1
  ·rw [if_neg hc] at h1
   subst h1
   refine ⟨rfl, fun y hy => ?_⟩
   rcases List.mem_cons.1 hy with rfl | hy
   ·simpa [later] using hc
   ·exact h2 y hy
theorem nw_sim {f : JQ → Bool} (hf : ∀ q, f (er q) = f q) {V W : List JQ} (h : Sim V W) (hu : ∀ x ∈ V, ∀ y ∈ V, f x = true → f y = true → x.day = y.day → x = y) : (nw f none V).map er = (nw f none W).map er := by
 have ef : ∀ {x y : JQ}, er x = er y → f x = f y := fun {x y} e => by rw [← hf x, ← hf y, e]
 have ed : ∀ {x y : JQ}, er x = er y → x.day = y.day := fun {x y} e => (congrArg JQ.day e : (er x).day = (er y).day)
 cases hv : nw f none V with
 | none =>
  have h1 := (nw_none f V none hv).2
  cases hw : nw f none W with
  | none => rfl
  | some q =>
   obtain ⟨h2, -, -⟩ := nw_some f W none q hw
   rcases h2 with h2 | ⟨h2, h3⟩
   ·cases h2
   ·obtain ⟨y, hy, e⟩ := h.symm.get h2
    have := h1 y hy
    rw [ef e, h3] at this
    cases this
 | some q =>
  obtain ⟨h1, h2, -⟩ := nw_some f V none q hv
  rcases h1 with h1 | ⟨h1, hfq⟩
  ·cases h1
  obtain ⟨y, hy, ey⟩ := h.get h1
  cases hw : nw f none W with
  | none =>
   have := (nw_none f W none hw).2 y hy
   rw [ef ey, hfq] at this
   cases this
  | some p =>
   obtain ⟨k1, k2, -⟩ := nw_some f W none p hw
   rcases k1 with k1 | ⟨k1, hfp⟩
   ·cases k1
   obtain ⟨z, hz, ez⟩ := h.symm.get k1
   have d1 := k2 y hy (by rw [ef ey]; exact hfq)
   have d2 := h2 z hz (by rw [ef ez]; exact hfp)
   have e1 := ed ey
   have e2 := ed ez
   have : z = q := hu z hz q h1 (by rw [ef ez]; exact hfp) hfq Zo
   subst this
   show some (er z) = some (er p)
   rw [ez]
theorem filter_all {A : List JQ} {K : ByteArray} (h : ∀ x ∈ A, key T x ≠ K) : A.filter (fun x => !decide (key T x = K)) = A :=
 List.filter_eq_self.2 fun x hx => by simp [h x hx]
theorem vis_back {L : List JQ} {q b : JQ} {k : Int} (hq : q.kn ≤ k) (hb : b.kn ≤ k) (hk : key T b = key T q) : vis T (L ++ [q, b]) k = (vis T L k).filter (fun x => !decide (key T x = key T q)) ++ (if b.vd then [] else [b]) := by
 rw [show L ++ [q, b] = (L ++ [q]) ++ [b] by simp, vis_app hb, vis_app hq, hk, List.filter_append, List.filter_filter]
 congr 1
 have h1 : (if q.vd = true then [] else [q]).filter (fun x => !decide (key T x = key T q)) = [] := by
  cases q.vd <;> simp
 rw [h1, List.append_nil]
 refine List.filter_congr fun x _ => ?_
 simp
theorem back_found {L : List JQ} {q b x : JQ} {k : Int} (hq : q.kn ≤ k) (hb : b.kn ≤ k) (hx : x ∈ vis T L k) (hkx : key T x = key T q) (hbx : b = { x with kn := b.kn }) : Sim (vis T (L ++ [q, b]) k) (vis T L k) := by
 have hkb : key T b = key T q := by rw [hbx]; exact hkx
 obtain ⟨hn, hf⟩ := vis_facts (T := T) L k
 rw [vis_back hq hb hkb]
 have hvb : b.vd = false := by rw [hbx]; exact (hf x hx).2.1
 rw [hvb, if_neg Zd]
 obtain ⟨A, B, e⟩ := List.append_of_mem hx
 rw [e] at hn ⊢
 rw [List.map_append, List.map_cons] at hn
 have hA : ∀ y ∈ A, key T y ≠ key T q := fun y hy h => by
  rw [List.nodup_append] at hn
  exact hn.2.2 _ (List.mem_map_of_mem hy) _ List.mem_cons_self (by rw [h, hkx])
 have hB : ∀ y ∈ B, key T y ≠ key T q := fun y hy h => by
  rw [List.nodup_append] at hn
  have := List.nodup_cons.1 hn.2.1
  exact this.1 (by rw [hkx, ← h]; exact List.mem_map_of_mem hy)
 rw [List.filter_append, List.filter_cons_of_neg (by simp [hkx]), filter_all hA, filter_all hB]
 unfold Sim
 have eb : er b = er x := by rw [hbx]; rfl
 rw [List.map_append, List.map_append, List.map_append, List.map_cons, List.map_cons, List.map_nil, eb]
 rw [List.append_assoc]
 exact List.Perm.append_left _ List.perm_append_comm
theorem back_none {L : List JQ} {q b : JQ} {k : Int} (hq : q.kn ≤ k) (hb : b.kn ≤ k) (hx : ∀ x ∈ vis T L k, key T x ≠ key T q) (hkb : key T b = key T q) (hv : b.vd = true) : Sim (vis T (L ++ [q, b]) k) (vis T L k) := by
 rw [vis_back hq hb hkb, hv, if_pos rfl, List.append_nil, filter_all hx]
 exact Sim.refl _
theorem ba_app_inj {a b c d : ByteArray} (h : a ++ b = c ++ d) (hs : a.size = c.size) : a = c ∧ b = d := by
 have h1 := congrArg (fun x => x.data.toList) h
 simp only [ByteArray.data_append, Array.toList_append] at h1
 obtain ⟨e1, e2⟩ := List.append_inj h1 (by simpa using hs)
 exact ⟨ByteArray.ext (Array.ext' e1), ByteArray.ext (Array.ext' e2)⟩
theorem key_inj {x q : JQ} (hs : x.src.size = q.src.size) (ht : (T x.day).size = (T q.day).size) (hT : T x.day = T q.day → x.day = q.day) (h : key T x = key T q) : x.src = q.src ∧ x.ins = q.ins ∧ x.day = q.day := by
 unfold key at h
 have hz := congrArg ByteArray.size h
 simp only [ByteArray.size_append] at hz
 have hi : x.ins.size = q.ins.size := by omega
 obtain ⟨h1, e4⟩ := ba_app_inj h (by simp only [ByteArray.size_append]; omega)
 obtain ⟨h2, -⟩ := ba_app_inj h1 (by simp only [ByteArray.size_append]; omega)
 obtain ⟨h3, e2⟩ := ba_app_inj h2 (by simp only [ByteArray.size_append]; omega)
 obtain ⟨e1, -⟩ := ba_app_inj h3 hs
 exact ⟨e1, e2, hT e4⟩
theorem vis_more {L : List JQ} {q b : JQ} {k : Int} (hq : k < q.kn) (hb : k < b.kn) : vis T (L ++ [q, b]) k = vis T L k := by
 rw [show L ++ [q, b] = (L ++ [q]) ++ [b] by simp, vis_late hb, vis_late hq]
theorem vis_at (L : List JQ) {k m : Int} (hk : ∀ x ∈ L, x.kn ≤ k ∧ x.kn ≤ m) : vis T L k = vis T L m := by
 revert hk
 refine snoc_ind (P := fun L => (∀ x ∈ L, x.kn ≤ k ∧ x.kn ≤ m) → vis T L k = vis T L m) (fun _ => rfl) ?_ L
 intro L q ih h
 have hq := h q Zs
 rw [vis_app hq.1, vis_app hq.2, ih (fun x hx => h x (List.mem_append_left _ hx))]
end Tq
end
end Go.Proofs.YtiekmabiecalbaaGreatDoor
