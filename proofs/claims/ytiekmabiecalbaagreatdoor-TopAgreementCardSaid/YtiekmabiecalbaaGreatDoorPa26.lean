/- Walks. -/
import Derived.Laws.RangeAny
import Derived.Test.YtiekmabiecalbaaGreatDoorPa20
import Derived.Test.YtiekmabiecalbaaGreatDoorPa25
namespace Go.Proofs.YtiekmabiecalbaaGreatDoor
set_option maxHeartbeats 16000000
open Go.RowKit
set_option maxRecDepth 8000
set_option linter.unusedSimpArgs false
set_option linter.unusedVariables false
section
namespace Jb
def cap (c : Nat) : Bool := decide (65 ≤ c) && decide (c ≤ 90)
def dig (c : Nat) : Bool := decide (48 ≤ c) && decide (c ≤ 57)
def low (c : Nat) : Bool := decide (97 ≤ c) && decide (c ≤ 122)
def byt (s : ByteArray) (i : Nat) : Nat := if h : i < s.size then s[i].toNat else 0
theorem byt_at {s : ByteArray} {i : Nat} (h : i < s.size) : byt s i = s[i].toNat := dif_pos h
def okc (d : Bool) (i c : Nat) : Bool := cap c || (d && (decide (i ≠ 0) && dig c))
def okn (i c : Nat) : Bool := low c || (decide (i ≠ 0) && dig c)
def all (f : Nat → Nat → Bool) (s : ByteArray) : Bool := (List.range s.size).all fun i => f i (byt s i)
theorem all_iff {f : Nat → Nat → Bool} {s : ByteArray} : all f s = true ↔ ∀ i, i < s.size → f i (byt s i) = true := by
 unfold all; rw [List.all_eq_true]
 exact ⟨fun h i hi => h i (List.mem_range.2 hi), fun h i hi => h i (List.mem_range.1 hi)⟩
theorem all_no {f : Nat → Nat → Bool} {s : ByteArray} {i : Nat} (hi : i < s.size) (h : f i (byt s i) = false) : all f s = false := by
 cases e : all f s with
 | false => rfl
 | true => rw [all_iff.1 e i hi] at h; cases h
def paper (s : ByteArray) : Bool := decide (1 ≤ s.size) && (decide (s.size ≤ 12) && all (okc true) s)
def code (s : ByteArray) : Bool := decide (s.size = 3) && all (okc false) s
def name (s : ByteArray) : Bool := decide (1 ≤ s.size) && (decide (s.size ≤ 16) && all okn s)
def known (n : Int) : Bool := decide (1 ≤ n) && decide (n ≤ 2147483647)
def Price (r : Rr) (x : Rat) : Prop := Rt.Vc (some x) r.c ∧ Ac.Txt x ∧ 0 ≤ x ∧ x ≤ ((1000000000 : Int) : Rat)
open Classical in
noncomputable def price (r : Rr) : Bool := decide (∃ x, Price r x)
def rat0 : Rr := ⟨false, 0, false, 1, Bg.ppos 32, by rw [Bg.lim]; decide +kernel⟩
end Jb
open Jb
noncomputable def JQ.right (q : JQ) : Bool := Nm.usableB q.src && (paper q.ins && (code q.cur && (Dt.isDay q.day && (known q.kn && (if q.vd then Rr.b q.prc Rr.zero else (price q.prc && !Rr.b q.prc rat0))))))
def Jb.factor (n : Int) : Bool := decide (1 ≤ n) && decide (n ≤ 1000000)
noncomputable def JA.right (a : JA) : Bool := (decide (1 ≤ a.key.size) && (decide (a.key.size ≤ 64) && known a.kn)) && (if a.vd then JA.b a { JA.zero with key := a.key, kn := a.kn, vd := true }
 else (paper a.ins && (Dt.isDay a.day && (price a.csh && code a.cur))) && (if a.kd = 1 then decide (a.into.size = 0) && (factor a.nm && factor a.dn) else if a.kd = 2 then decide (a.into.size = 0) && (decide (a.nm = 0) && (decide (a.dn = 0) && !Rr.b a.csh rat0)) else if a.kd = 3 then paper a.into && (!(a.into == a.ins) && (factor a.nm && factor a.dn)) else false))
def JE.right (e : JE) : Bool := (decide (1 ≤ e.key.size) && (decide (e.key.size ≤ 64) && known e.kn)) && (if e.vd then JE.b e { JE.zero with key := e.key, kn := e.kn, vd := true }
 else (decide (0 ≤ e.day) && (decide (e.day ≤ e.stl) && (decide (e.stl ≤ 73048) && (decide (-1000000000000000 ≤ e.amt) && (decide (e.amt ≤ 1000000000000000) && code e.cur))))) && (if e.kd = 1 then paper e.ins && (decide (e.qty ≠ 0) && (decide (-1000000000000000 ≤ e.qty) && decide (e.qty ≤ 1000000000000000))) else if e.kd = 2 then decide (e.ins.size = 0) && decide (e.qty = 0) else false))
def JK.right (k : JK) : Bool := name k.hol && (decide (k.nom.size = 0) || name k.nom)
def Jb.amount (n : Int) : Bool := decide (1 ≤ n) && decide (n ≤ 1000000000000000)
def JO.asked (o : JO) : Bool := if o.kd = 1 ∨ o.kd = 4 then amount o.amt && decide (o.un = 0) else if o.kd = 2 ∨ o.kd = 3 then amount o.un && decide (o.amt = 0) else if o.kd = 5 then decide (o.amt = 0) && decide (o.un = 0) else false
def JO.right (o : JO) : Bool := (name o.key && (decide (0 ≤ o.at_) && (decide (o.at_ ≤ 105190559) && known o.kn))) && (if o.vd then JO.b o { JO.zero with key := o.key, at_ := o.at_, kn := o.kn, vd := true } else JK.right o.acc && (name o.fnd && (name o.cls && o.asked)))
def JT.right (t : JT) : Bool := (name t.key && known t.kn) && (if t.vd then JT.b t { JT.zero with key := t.key, kn := t.kn, vd := true } else name t.fnd && (name t.cls && (JK.right t.fr && (JK.right t.tw && (amount t.un && Dt.isDay t.day)))))
def JS.right (s : JS) : Bool := (name s.key && known s.kn) && (if s.vd then JS.b s { JS.zero with key := s.key, kn := s.kn, vd := true } else name s.fnd && (decide (0 ≤ s.fr) && (decide (s.fr ≤ 73048) && (decide (s.tl = 0) || (decide (s.fr ≤ s.tl) && decide (s.tl ≤ 73048))))))
def JR.only (r : JR) : JR :=
 let b : JR := { JR.zero with kd := r.kd, fnd := r.fnd }
 if r.kd = 1 then { b with q := r.q } else if r.kd = 2 then { b with a := r.a } else if r.kd = 3 then { b with e := r.e } else if r.kd = 4 then { b with o := r.o } else if r.kd = 5 then { b with t := r.t } else if r.kd = 6 then { b with s := r.s } else if r.kd = 7 ∨ r.kd = 8 then { b with day := r.day } else b
noncomputable def JR.kind (r : JR) : Bool := if r.kd = 1 then r.q.right else if r.kd = 2 then r.a.right else if r.kd = 3 then r.e.right else if r.kd = 4 then r.o.right else if r.kd = 5 then r.t.right else if r.kd = 6 then r.s.right else if r.kd = 7 ∨ r.kd = 8 then Dt.isDay r.day else false
noncomputable def JR.right (r : JR) : Bool := (if r.kd = 3 then name r.fnd else decide (r.fnd.size = 0)) && (JR.b r.only r && r.kind)
def JR.known (r : JR) (n : Int) : Int := if r.kd = 1 then r.q.kn else if r.kd = 2 then r.a.kn else if r.kd = 3 then r.e.kn else if r.kd = 4 then r.o.kn else if r.kd = 5 then r.t.kn else if r.kd = 6 then r.s.kn else n
noncomputable def Jb.chk : List JR → Nat → Int → Nat → Int
 | [], _, _, _ => 0
 | r :: l, i, last, c => if r.right then (if r.known ((i + 1 : Nat) : Int) = ((i + 1 : Nat) : Int) then (if r.kd = 8 ∧ last < r.day then 371 else if r.kd = 7 then (if r.day ≤ last ∨ 64 < c + 1 then 371 else Jb.chk l (i + 1) r.day (c + 1)) else Jb.chk l (i + 1) last c) else 371) else 370
noncomputable def Jb.check (L : List JR) : Int := if 4096 < L.length then 371 else chk L 0 (-1) 0
noncomputable def Jb.err (L : List JR) (k : Int) : Int := if Jb.check L = 0 then (if Jb.known k then 0 else 240) else Jb.check L
def Jb.upto (L : List JR) (k kd : Int) : List JR := (L.take k.toNat).filter fun r => decide (r.kd = kd)
def Jb.clo : List JR → Nat → List JC → List JC
 | [], _, out => out
 | r :: l, i, out => if r.kd = 7 then clo l (i + 1) (out ++ [⟨r.day, ((i + 1 : Nat) : Int), ((i + 1 : Nat) : Int)⟩]) else if r.kd = 8 then clo l (i + 1) (out.map fun c => if r.day ≤ c.day then { c with as_ := ((i + 1 : Nat) : Int) } else c) else clo l (i + 1) out
end
section
namespace As
theorem last_app (M : List Mk) (m : Mk) (k : Int) (s : ByteArray) : ∀ n, n ≤ M.length → last (M ++ [m]) k s n = last M k s n
 | 0, _ => rfl
 | n + 1, h => by
  rw [last, last, List.getElem?_append_left Zo, last_app M m k s n Zo]
theorem last_end (M : List Mk) (m : Mk) (k : Int) (s : ByteArray) : last (M ++ [m]) k s (M.length + 1) = if m.kn ≤ k ∧ m.key = s then some M.length else last M k s M.length := by
 have e : (M ++ [m])[M.length]? = some m := by rw [List.getElem?_append_right (Nat.le_refl _), Nat.sub_self]; rfl
 rw [last, e, last_app M m k s _ (Nat.le_refl _)]
theorem visB_app {M : List Mk} {m : Mk} {k : Int} (hk : m.kn ≤ k) {i : Nat} {x : Mk} (hx : M[i]? = some x) : visB (M ++ [m]) k i = (visB M k i && !decide (x.key = m.key)) := by
 have hi := (List.getElem?_eq_some_iff.1 hx).1
 unfold visB
 rw [List.getElem?_append_left hi, hx, List.length_append, List.length_singleton]
 show (!x.vd && (decide (x.kn ≤ k) && decide (enc (last (M ++ [m]) k x.key (M.length + 1)) = (i : Int)))) = ((!x.vd && (decide (x.kn ≤ k) && decide (enc (last M k x.key M.length) = (i : Int)))) && !decide (x.key = m.key))
 rw [last_end]
 by_cases h : x.key = m.key
 ·rw [if_pos ⟨hk, h.symm⟩, Zt h, Zf (show ¬ enc (some M.length) = (i : Int) by show ¬ ((M.length : Int) = i); omega)]
  simp
 ·rw [if_neg (fun e => h e.2.symm), Zf h]
  simp
theorem visB_end {M : List Mk} {m : Mk} {k : Int} (hk : m.kn ≤ k) : visB (M ++ [m]) k M.length = !m.vd := by
 have e : (M ++ [m])[M.length]? = some m := by rw [List.getElem?_append_right (Nat.le_refl _), Nat.sub_self]; rfl
 unfold visB
 rw [e, List.length_append, List.length_singleton]
 show (!m.vd && (decide (m.kn ≤ k) && decide (enc (last (M ++ [m]) k m.key (M.length + 1)) = (M.length : Int)))) = _
 rw [last_end, if_pos ⟨hk, rfl⟩, Zt hk, Zt (show enc (some M.length) = (M.length : Int) from rfl)]
 simp
theorem visB_late {M : List Mk} {m : Mk} {k : Int} (hk : k < m.kn) (i : Nat) (hi : i < M.length) : visB (M ++ [m]) k i = visB M k i := by
 unfold visB
 rw [List.getElem?_append_left hi, List.length_append, List.length_singleton]
 cases M[i]? with
 | none => rfl
 | some x =>
  show (!x.vd && (decide (x.kn ≤ k) && decide (enc (last (M ++ [m]) k x.key (M.length + 1)) = (i : Int)))) = _
  rw [last_end, if_neg (fun e => by omega)]
theorem visB_none {M : List Mk} {m : Mk} {k : Int} (hk : k < m.kn) : visB (M ++ [m]) k M.length = false := by
 have e : (M ++ [m])[M.length]? = some m := by rw [List.getElem?_append_right (Nat.le_refl _), Nat.sub_self]; rfl
 unfold visB
 rw [e]
 show (!m.vd && (decide (m.kn ≤ k) && _)) = false
 rw [Zf Zo]; simp
theorem vis_lt {M : List Mk} {k : Int} {i : Nat} (h : i ∈ vis M k) : i < M.length := List.mem_range.1 (List.mem_filter.1 h).1
end As
namespace Tq
open Jb
def key (T : Int → ByteArray) (q : JQ) : ByteArray := q.src ++ { data := #[44] } ++ q.ins ++ { data := #[44] } ++ T q.day
def mk (T : Int → ByteArray) (q : JQ) : As.Mk := ⟨key T q, q.kn, q.vd⟩
def vis (T : Int → ByteArray) (L : List JQ) (k : Int) : List JQ := (As.vis (L.map (mk T)) k).filterMap (L[·]?)
variable {T : Int → ByteArray}
theorem fm_filter (L : List JQ) (q : JQ) (kq : ByteArray) : ∀ Z : List Nat, (∀ i ∈ Z, i < L.length) → (Z.filter fun i => !decide ((L.map (mk T))[i]?.map As.Mk.key = some kq)).filterMap ((L ++ [q])[·]?) = (Z.filterMap (L[·]?)).filter (fun x => !decide (key T x = kq))
 | [], _ => rfl
 | i :: Z, h => by
  have ih := fm_filter L q kq Z (fun j hj => h j (List.mem_cons_of_mem _ hj))
  have hi := h i List.mem_cons_self
  have ex : L[i]? = some L[i] := List.getElem?_eq_getElem hi
  rw [List.filterMap_cons, ex]
  have em : (L.map (mk T))[i]?.map As.Mk.key = some (key T L[i]) := by rw [List.getElem?_map, ex]; rfl
  rw [List.filter_cons, em]
  by_cases hk : key T L[i] = kq
  ·rw [if_neg (by simp [hk]), List.filter_cons_of_neg (by simp [hk])]
   exact ih
  ·rw [if_pos (by simp [hk]), List.filter_cons_of_pos (by simp [hk]), List.filterMap_cons, List.getElem?_append_left hi, ex]
   exact congrArg _ ih
theorem fm_same (L : List JQ) (q : JQ) : ∀ Z : List Nat, (∀ i ∈ Z, i < L.length) → Z.filterMap ((L ++ [q])[·]?) = Z.filterMap (L[·]?)
 | [], _ => rfl
 | i :: Z, h => by
  have hi := h i List.mem_cons_self
  rw [List.filterMap_cons, List.filterMap_cons, List.getElem?_append_left hi, fm_same L q Z (fun j hj => h j (List.mem_cons_of_mem _ hj))]
theorem vis_lt {L : List JQ} {k : Int} : ∀ i ∈ As.vis (L.map (mk T)) k, i < L.length := fun i h => by
 have := As.vis_lt h
 rwa [List.length_map] at this
theorem vis_app {L : List JQ} {q : JQ} {k : Int} (hk : q.kn ≤ k) : vis T (L ++ [q]) k = (vis T L k).filter (fun x => !decide (key T x = key T q)) ++ (if q.vd then [] else [q]) := by
 unfold vis
 rw [List.map_append, List.map_singleton]
 have hv : As.vis (L.map (mk T) ++ [mk T q]) k = ((As.vis (L.map (mk T)) k).filter fun i => !decide ((L.map (mk T))[i]?.map As.Mk.key = some (key T q))) ++ (if q.vd then [] else [L.length]) := by
  unfold As.vis
  rw [List.length_append, List.length_singleton, List.range_succ, List.filter_append, List.filter_filter]
  congr 1
  ·refine List.filter_congr fun i hi => ?_
   have hi := List.mem_range.1 hi
   have ex : (L.map (mk T))[i]? = some (L.map (mk T))[i] := List.getElem?_eq_getElem hi
   rw [As.visB_app hk ex, ex, Bool.and_comm]
   congr 2
   simp only [Option.map_some, Option.some.injEq]
   rfl
  ·have e := As.visB_end (M := L.map (mk T)) (m := mk T q) hk
   rw [List.filter_cons, e, List.filter_nil, List.length_map]
   show (if (!q.vd) = true then [L.length] else []) = _
   cases q.vd <;> rfl
 rw [hv, List.filterMap_append, fm_filter L q _ _ vis_lt]
 congr 1
 cases q.vd with
 | true => rfl
 | false =>
  show [L.length].filterMap _ = [q]
  rw [List.filterMap_cons, List.getElem?_append_right (Nat.le_refl _), Nat.sub_self]; rfl
theorem vis_late {L : List JQ} {q : JQ} {k : Int} (hk : k < q.kn) : vis T (L ++ [q]) k = vis T L k := by
 unfold vis
 rw [List.map_append, List.map_singleton]
 have hv : As.vis (L.map (mk T) ++ [mk T q]) k = As.vis (L.map (mk T)) k := by
  unfold As.vis
  rw [List.length_append, List.length_singleton, List.range_succ, List.filter_append]
  have e := As.visB_none (M := L.map (mk T)) (m := mk T q) hk
  rw [List.filter_cons, e, List.filter_nil, if_neg Zd, List.append_nil]
  exact List.filter_congr fun i hi => As.visB_late (m := mk T q) hk i (List.mem_range.1 hi)
 rw [hv, fm_same L q _ vis_lt]
theorem vis_nil (k : Int) : vis T [] k = [] := rfl
theorem snoc_ind {P : List JQ → Prop} (h0 : P []) (h : ∀ L q, P L → P (L ++ [q])) (L : List JQ) : P L := by
 have : ∀ n, ∀ L : List JQ, L.length = n → P L := by
  intro n
  induction n with
  | zero => intro L hL; rw [List.length_eq_zero_iff.1 hL]; exact h0
  | succ n ih =>
   intro L hL
   have hne : L ≠ [] := by intro e; subst e; simp at hL
   rw [← List.dropLast_concat_getLast hne]
   exact h _ _ (ih _ (by rw [List.length_dropLast, hL]; rfl))
 exact this _ L rfl
theorem vis_facts (L : List JQ) (k : Int) : ((vis T L k).map (key T)).Nodup ∧ ∀ x ∈ vis T L k, x ∈ L ∧ x.vd = false ∧ x.kn ≤ k := by
 refine snoc_ind (P := fun L => ((vis T L k).map (key T)).Nodup ∧ ∀ x ∈ vis T L k, x ∈ L ∧ x.vd = false ∧ x.kn ≤ k) ⟨List.nodup_nil, fun x hx => by simp [vis_nil] at hx⟩ ?_ L
 rintro L q ⟨h1, h2⟩
 by_cases hk : q.kn ≤ k
 ·rw [vis_app hk]
  have hf : ∀ x ∈ (vis T L k).filter (fun x => !decide (key T x = key T q)), key T x ≠ key T q := fun x hx => by
   have := (List.mem_filter.1 hx).2
   simpa using this
  have hn : (((vis T L k).filter (fun x => !decide (key T x = key T q))).map (key T)).Nodup := List.Nodup.sublist (List.Sublist.map _ List.filter_sublist) h1
  cases hv : q.vd with
  | true =>
   rw [if_pos rfl, List.append_nil]
   exact ⟨hn, fun x hx => by
    obtain ⟨a, b, c⟩ := h2 x (List.mem_filter.1 hx).1
    exact ⟨List.mem_append_left _ a, b, c⟩⟩
  | false =>
   rw [if_neg Zd]
   refine ⟨?_, fun x hx => ?_⟩
   ·rw [List.map_append, List.nodup_append]
    refine ⟨hn, by simp, fun a ha b hb => ?_⟩
    obtain ⟨x, hx, rfl⟩ := List.mem_map.1 ha
    simp only [List.map_singleton, List.mem_singleton] at hb
    subst hb
    exact hf x hx
   ·rcases List.mem_append.1 hx with hx | hx
    ·obtain ⟨a, b, c⟩ := h2 x (List.mem_filter.1 hx).1
     exact ⟨List.mem_append_left _ a, b, c⟩
    ·obtain rfl := List.mem_singleton.1 hx
     exact ⟨List.mem_append_right _ hx, hv, hk⟩
 ·rw [vis_late Zo]
  exact ⟨h1, fun x hx => by
   obtain ⟨a, b, c⟩ := h2 x hx
   exact ⟨List.mem_append_left _ a, b, c⟩⟩
end Tq
end
section
open Jb
theorem Jb.okc_cases (d : Bool) (i c : Nat) :
    (okc d i c = true ∧ ((¬ ((c : Int) < 65) ∧ ¬ (90 < (c : Int))) ∨ ((c : Int) < 65 ∧ d = true ∧ ((i : Int) == 0) = false ∧ ¬ ((c : Int) < 48) ∧ ¬ (57 < (c : Int))))) ∨
    (okc d i c = false ∧ (((c : Int) < 65 ∧ (d = false ∨ (d = true ∧ (i = 0 ∨ (((i : Int) == 0) = false ∧ ((c : Int) < 48 ∨ (¬ ((c : Int) < 48) ∧ 57 < (c : Int)))))))) ∨ (¬ ((c : Int) < 65) ∧ 90 < (c : Int) ∧ (d = false ∨ (d = true ∧ (i = 0 ∨ (((i : Int) == 0) = false ∧ ¬ ((c : Int) < 48) ∧ 57 < (c : Int)))))))) := by
 unfold okc cap dig
 have hb : ((i : Int) == 0) = decide (i = 0) := by
  by_cases h : i = 0
  ·subst h; rfl
  ·rw [Zf h]; exact Zb Zo
 rw [hb]
 cases d <;> by_cases h0 : i = 0 <;> by_cases h1 : c < 65 <;> by_cases h2 : 90 < c <;> by_cases h3 : c < 48 <;> by_cases h4 : 57 < c <;> simp_all <;> omega
theorem qcap_any (s : ByteArray) (hs : s.size ≤ 9223372036854775807) (v : Bool) (hv : Hid (v = (decide (1 ≤ s.size) && Jb.all (okc true) s))) (w : World) :
    Calls Tryz.prog 109 #[.string s] w fun e w' => e = .returned (.bool v) ∧ w = w' := by
 go_enter Tryz.func109, Tryz.ntmps109
 go_wp2
 go_loop [3, 6] (fun _ t => ∃ k : Nat, k ≤ s.size ∧ t = .int .i64 k ∧ Hid (∀ j, j < k → okc true j (byt s j) = true)) (fun _ t => s.size - (intOf t).toNat)
 case atStart => exact ⟨0, by omega, rfl, Zi fun j h => by omega⟩
 case round =>
  obtain ⟨k, hk, rfl, HO⟩ := hrel
  by_cases hlt : k < s.size
  ·have hbk := byt_at hlt
   rcases okc_cases true k s[k].toNat with ⟨ho, hc⟩ | ⟨ho, hc⟩
   ·have HA : Hid (okc true k (byt s k) = true) := Zi (by rw [hbk]; exact ho)
    clear ho hbk
    rcases hc with ⟨c1, c2⟩ | ⟨c1, -, c3, c4, c5⟩
    all_goals
     go_wp2
     go_round
     case rel => exact ⟨k + 1, by omega, by go_num, Zi fun j hj => by
      by_cases e : j = k
      ·subst e; exact HA.out
      ·exact HO.out j Zo⟩
     case measure => simp [intOf]; omega
   ·have HV : Hid (v = false) := Zi (by rw [hv.out, all_no hlt (by rw [hbk]; exact ho), Bool.and_false])
    clear ho hbk
    rcases hc with ⟨c1, c2 | ⟨-, c2 | ⟨c2, c3 | ⟨c3, c4⟩⟩⟩⟩ | ⟨c0, c1, c2 | ⟨-, c2 | ⟨c2, c3, c4⟩⟩⟩
    ·cases c2
    ·subst c2
     go_wp2
     go_ret
     rw [HV.out]; exact ⟨rfl, rfl⟩
    ·go_wp2
     go_ret
     rw [HV.out]; exact ⟨rfl, rfl⟩
    ·go_wp2
     go_ret
     rw [HV.out]; exact ⟨rfl, rfl⟩
    ·cases c2
    ·subst c2
     go_wp2
     go_ret
     rw [HV.out]; exact ⟨rfl, rfl⟩
    ·go_wp2
     go_ret
     rw [HV.out]; exact ⟨rfl, rfl⟩
  ·have HV : Hid (v = decide (1 ≤ s.size)) := Zi (by rw [hv.out, all_iff.2 (fun i hi => HO.out i Zo), Bool.and_true])
   by_cases h0 : s.size = 0
   ·have hl : s.toList.isEmpty = true := by
      rw [Lib.toList_data]
      have : s.data.toList.length = 0 := by rw [Array.length_toList]; exact h0
      cases e : s.data.toList with
      | nil => rfl
      | cons a l => rw [e] at this; simp at this
    have HF : Hid (v = false) := Zi (by rw [HV.out]; exact Zf Zo)
    clear h0
    go_wp2
    go_ret
    rw [HF.out]; exact ⟨rfl, rfl⟩
   ·have hl : s.toList.isEmpty = false := by
      rw [Lib.toList_data]
      cases e : s.data.toList with
      | nil =>
       have : s.data.toList.length = 0 := by rw [e]; rfl
       rw [Array.length_toList] at this
       exact absurd this h0
      | cons a l => rfl
    have HF : Hid (v = true) := Zi (by rw [HV.out]; exact Zt Zo)
    clear h0
    go_wp2
    go_ret
    rw [HF.out]; exact ⟨rfl, rfl⟩
end
section
open Jb
theorem FA.cell {T : TypeId} {c : Array Value} {k : Nat} {v : Value} (h : FA T c k v) (hT : aggT T = some false) : c[k]? = some v := by
 rcases h with ⟨_, h2⟩ | ⟨h1, _⟩
 ·exact h2
 ·rw [hT] at h1; cases h1
theorem known_w (n : Int) : known n = (decide (1 ≤ n) && decide (n ≤ 2147483647)) := rfl
end
section
open Jb
theorem isDay_w (n : Int) : Dt.isDay n = (decide (0 ≤ n) && decide (n ≤ 73048)) := by unfold Dt.isDay; exact Bool.decide_and _ _
end
section
open Jb
theorem Jb.code_3 (s : ByteArray) (h3 : s.size = 3) : code s = (cap (byt s 0) && (cap (byt s 1) && cap (byt s 2))) := by
 unfold code Jb.all
 rw [Zt h3, h3, Bool.true_and]
 simp [List.range, List.range.loop, okc]
end
section
theorem z9_87 {P : Prop} (h : P := by
 rcases h1 with h1 | h1
 ·injection h1 with h1; subst h1; exact ⟨List.mem_cons_self, hf⟩
 ·exact ⟨List.mem_cons_of_mem _ h1.1, h1.2⟩) : P := h
theorem z9_88 {P : Prop} (h : P := by
 rcases h1 with h1 | h1
 ·exact .inl h1
 ·exact .inr ⟨List.mem_cons_of_mem _ h1.1, h1.2⟩) : P := h
end
section
namespace As
theorem okFrom_app : ∀ (M : List Mk) (last : Int) (m : Mk), okFrom last M = true → (∀ x ∈ M, x.kn < m.kn) → last < m.kn → 1 ≤ m.key.size → m.key.size ≤ 64 → m.kn ≤ 2147483647 → okFrom last (M ++ [m]) = true
 | [], last, m, _, _, h1, h2, h3, h4 => by
  show okFrom last [m] = true
  rw [okFrom, okFrom]
  rw [Zf Zo, Zf Zo, Zf Zo, Zf Zo]; rfl
 | a :: r, last, m, h0, hk, h1, h2, h3, h4 => by
  rw [List.cons_append, okFrom]
  rw [okFrom, Bool.and_eq_true] at h0
  rw [h0.1, okFrom_app r a.kn m h0.2 (fun x hx => hk x (List.mem_cons_of_mem _ hx)) (hk a List.mem_cons_self) h2 h3 h4]; rfl
theorem ok_app {M : List Mk} {m : Mk} (h : ok M = true) (hl : M.length < 4096) (hk : ∀ x ∈ M, x.kn < m.kn) (h1 : 1 ≤ m.kn) (h2 : m.kn ≤ 2147483647) (h3 : 1 ≤ m.key.size) (h4 : m.key.size ≤ 64) : ok (M ++ [m]) = true := by
 unfold ok at h ⊢
 rw [Bool.and_eq_true] at h
 rw [okFrom_app M 0 m h.2 hk Zo h3 h4 h2, Zt (by rw [List.length_append, List.length_singleton]; omega)]; rfl
end As
namespace Tq
open Jb
variable {T : Int → ByteArray}
def er (q : JQ) : JQ := { q with kn := 0 }
def Sim (V W : List JQ) : Prop := (V.map er).Perm (W.map er)
theorem nodup_key {V : List JQ} (h : (V.map (key T)).Nodup) {x y : JQ} (hx : x ∈ V) (hy : y ∈ V) (e : key T x = key T y) : x = y := by
 obtain ⟨i, hi, ei⟩ := List.getElem_of_mem hx
 obtain ⟨j, hj, ej⟩ := List.getElem_of_mem hy
 have := (List.getElem_inj (i := i) (j := j) (xs := V.map (key T)) (h₀ := by rw [List.length_map]; exact hi) (h₁ := by rw [List.length_map]; exact hj) h).1 (by rw [List.getElem_map, List.getElem_map, ei, ej, e])
 subst this
 rw [← ei, ej]
def later : Option JQ → JQ → Bool
 | none, _ => true
 | some b, q => decide (b.day < q.day)
def nw (f : JQ → Bool) : Option JQ → List JQ → Option JQ
 | a, [] => a
 | a, q :: V => nw f (if f q && later a q then some q else a) V
theorem nw_some (f : JQ → Bool) : ∀ (V : List JQ) (a : Option JQ) (q : JQ), nw f a V = some q → (a = some q ∨ q ∈ V ∧ f q = true) ∧ (∀ x ∈ V, f x = true → x.day ≤ q.day) ∧ ∀ b, a = some b → b.day ≤ q.day
 | [], a, q, h => by
  have h : a = some q := h
  subst h
  exact ⟨.inl rfl, fun x hx => by simp at hx, fun b hb => by injection hb with hb; subst hb; exact Int.le_refl _⟩
 | x :: V, a, q, h => by
  rw [nw] at h
  obtain ⟨h1, h2, h3⟩ := nw_some f V _ q h
  by_cases hf : f x = true
  ·cases a with
   | none =>
    simp only [hf, later, Bool.true_and, if_true] at h1 h3
    have hx := h3 x rfl
    refine ⟨.inr ?_, fun y hy hfy => ?_, fun b hb => by cases hb⟩
    ·exact z9_87
    ·rcases List.mem_cons.1 hy with rfl | hy
     ·exact hx
     ·exact h2 y hy hfy
   | some b =>
    by_cases hd : b.day < x.day
    ·simp only [hf, later, Zt hd, Bool.true_and, if_true] at h1 h3
     have hx := h3 x rfl
     refine ⟨.inr ?_, fun y hy hfy => ?_, fun c hc => ?_⟩
     ·exact z9_87
     ·rcases List.mem_cons.1 hy with rfl | hy
      ·exact hx
      ·exact h2 y hy hfy
     ·injection hc with hc; subst hc; omega
    ·simp only [hf, later, Zf hd, Bool.and_false, if_neg Bool.false_ne_true] at h1 h3
     have hb := h3 b rfl
     refine ⟨?_, fun y hy hfy => ?_, h3⟩
     ·exact z9_88
     ·rcases List.mem_cons.1 hy with rfl | hy
      ·omega
      ·exact h2 y hy hfy
  ·have hf0 : f x = false := by simpa using hf
   simp only [hf0, Bool.false_and, if_neg Bool.false_ne_true] at h1 h3
   refine ⟨?_, fun y hy hfy => ?_, h3⟩
   ·exact z9_88
   ·rcases List.mem_cons.1 hy with rfl | hy
    ·exact absurd hfy hf
    ·exact h2 y hy hfy
theorem nw_none (f : JQ → Bool) : ∀ (V : List JQ) (a : Option JQ), nw f a V = none → a = none ∧ ∀ x ∈ V, f x = false
 | [], a, h => ⟨h, fun x hx => by simp at hx⟩
 | x :: V, a, h => by
  rw [nw] at h
  obtain ⟨h1, h2⟩ := nw_none f V _ h
  by_cases hc : (f x && later a x) = true
  ·rw [if_pos hc] at h1; cases h1
  ·rw [if_neg hc] at h1
   subst h1
   refine ⟨rfl, fun y hy => ?_⟩
   rcases List.mem_cons.1 hy with rfl | hy
   ·simpa [later] using hc
   ·exact h2 y hy
theorem filter_all {A : List JQ} {K : ByteArray} (h : ∀ x ∈ A, key T x ≠ K) : A.filter (fun x => !decide (key T x = K)) = A :=
 List.filter_eq_self.2 fun x hx => by simp [h x hx]
theorem ba_app_inj {a b c d : ByteArray} (h : a ++ b = c ++ d) (hs : a.size = c.size) : a = c ∧ b = d := by
 have h1 := congrArg (fun x => x.data.toList) h
 simp only [ByteArray.data_append, Array.toList_append] at h1
 obtain ⟨e1, e2⟩ := List.append_inj h1 (by simpa using hs)
 exact ⟨ByteArray.ext (Array.ext' e1), ByteArray.ext (Array.ext' e2)⟩
theorem key_inj {x q : JQ} (hs : x.src.size = q.src.size) (ht : (T x.day).size = (T q.day).size) (hT : T x.day = T q.day → x.day = q.day) (h : key T x = key T q) : x.src = q.src ∧ x.ins = q.ins ∧ x.day = q.day := by
 unfold key at h
 have hz := congrArg ByteArray.size h
 simp only [ByteArray.size_append] at hz
 have hi : x.ins.size = q.ins.size := by omega
 obtain ⟨h1, e4⟩ := ba_app_inj h (by simp only [ByteArray.size_append]; omega)
 obtain ⟨h2, -⟩ := ba_app_inj h1 (by simp only [ByteArray.size_append]; omega)
 obtain ⟨h3, e2⟩ := ba_app_inj h2 (by simp only [ByteArray.size_append]; omega)
 obtain ⟨e1, -⟩ := ba_app_inj h3 hs
 exact ⟨e1, e2, hT e4⟩
end Tq
end
end Go.Proofs.YtiekmabiecalbaaGreatDoor
