/- Walks. -/
import Derived.Laws.RangeAny
import Derived.Test.YtkiempioeffhbaaGreatDoorPg18
import Derived.Test.YtkiempioeffhbaaGreatDoorPg17
import Derived.Test.YtkiempioeffhbaaGreatDoorPg19
import Derived.Test.YtkiempioeffhbaaGreatDoorPg21
namespace Go.Proofs.YtkiempioeffhbaaGreatDoor
set_option maxHeartbeats 16000000
open Go.RowKit
set_option maxRecDepth 8000
set_option linter.unusedSimpArgs false
set_option linter.unusedVariables false
section
namespace Jb
def cap (c : Nat) : Bool := decide (65 ≤ c) && decide (c ≤ 90)
def dig (c : Nat) : Bool := decide (48 ≤ c) && decide (c ≤ 57)
def low (c : Nat) : Bool := decide (97 ≤ c) && decide (c ≤ 122)
def byt (s : ByteArray) (i : Nat) : Nat := if h : i < s.size then s[i].toNat else 0
theorem byt_at {s : ByteArray} {i : Nat} (h : i < s.size) : byt s i = s[i].toNat := dif_pos h
def okc (d : Bool) (i c : Nat) : Bool := cap c || (d && (decide (i ≠ 0) && dig c))
def okn (i c : Nat) : Bool := low c || (decide (i ≠ 0) && dig c)
def all (f : Nat → Nat → Bool) (s : ByteArray) : Bool := (List.range s.size).all fun i => f i (byt s i)
theorem all_iff {f : Nat → Nat → Bool} {s : ByteArray} : all f s = true ↔ ∀ i, i < s.size → f i (byt s i) = true := by
 unfold all; rw [List.all_eq_true]
 exact ⟨fun h i hi => h i (List.mem_range.2 hi), fun h i hi => h i (List.mem_range.1 hi)⟩
theorem all_no {f : Nat → Nat → Bool} {s : ByteArray} {i : Nat} (hi : i < s.size) (h : f i (byt s i) = false) : all f s = false := by
 cases e : all f s with
 | false => rfl
 | true => rw [all_iff.1 e i hi] at h; cases h
def paper (s : ByteArray) : Bool := decide (1 ≤ s.size) && (decide (s.size ≤ 12) && all (okc true) s)
def code (s : ByteArray) : Bool := decide (s.size = 3) && all (okc false) s
def name (s : ByteArray) : Bool := decide (1 ≤ s.size) && (decide (s.size ≤ 16) && all okn s)
def known (n : Int) : Bool := decide (1 ≤ n) && decide (n ≤ 2147483647)
def Price (r : Rr) (x : Rat) : Prop := Rt.Vc (some x) r.c ∧ Ac.Txt x ∧ 0 ≤ x ∧ x ≤ ((1000000000 : Int) : Rat)
open Classical in
noncomputable def price (r : Rr) : Bool := decide (∃ x, Price r x)
def rat0 : Rr := ⟨false, 0, false, 1, Bg.ppos 32, by rw [Bg.lim]; decide +kernel⟩
end Jb
open Jb
noncomputable def JQ.right (q : JQ) : Bool := Nm.usableB q.src && (paper q.ins && (code q.cur && (Dt.isDay q.day && (known q.kn && (if q.vd then Rr.b q.prc Rr.zero else (price q.prc && !Rr.b q.prc rat0))))))
def Jb.factor (n : Int) : Bool := decide (1 ≤ n) && decide (n ≤ 1000000)
noncomputable def JA.right (a : JA) : Bool := (decide (1 ≤ a.key.size) && (decide (a.key.size ≤ 64) && known a.kn)) && (if a.vd then JA.b a { JA.zero with key := a.key, kn := a.kn, vd := true }
 else (paper a.ins && (Dt.isDay a.day && (price a.csh && code a.cur))) && (if a.kd = 1 then decide (a.into.size = 0) && (factor a.nm && factor a.dn) else if a.kd = 2 then decide (a.into.size = 0) && (decide (a.nm = 0) && (decide (a.dn = 0) && !Rr.b a.csh rat0)) else if a.kd = 3 then paper a.into && (!(a.into == a.ins) && (factor a.nm && factor a.dn)) else false))
def JE.right (e : JE) : Bool := (decide (1 ≤ e.key.size) && (decide (e.key.size ≤ 64) && known e.kn)) && (if e.vd then JE.b e { JE.zero with key := e.key, kn := e.kn, vd := true }
 else (decide (0 ≤ e.day) && (decide (e.day ≤ e.stl) && (decide (e.stl ≤ 73048) && (decide (-1000000000000000 ≤ e.amt) && (decide (e.amt ≤ 1000000000000000) && code e.cur))))) && (if e.kd = 1 then paper e.ins && (decide (e.qty ≠ 0) && (decide (-1000000000000000 ≤ e.qty) && decide (e.qty ≤ 1000000000000000))) else if e.kd = 2 then decide (e.ins.size = 0) && decide (e.qty = 0) else false))
def JK.right (k : JK) : Bool := name k.hol && (decide (k.nom.size = 0) || name k.nom)
def Jb.amount (n : Int) : Bool := decide (1 ≤ n) && decide (n ≤ 1000000000000000)
def JO.asked (o : JO) : Bool := if o.kd = 1 ∨ o.kd = 4 then amount o.amt && decide (o.un = 0) else if o.kd = 2 ∨ o.kd = 3 then amount o.un && decide (o.amt = 0) else if o.kd = 5 then decide (o.amt = 0) && decide (o.un = 0) else false
def JO.right (o : JO) : Bool := (name o.key && (decide (0 ≤ o.at_) && (decide (o.at_ ≤ 105190559) && known o.kn))) && (if o.vd then JO.b o { JO.zero with key := o.key, at_ := o.at_, kn := o.kn, vd := true } else JK.right o.acc && (name o.fnd && (name o.cls && o.asked)))
def JT.right (t : JT) : Bool := (name t.key && known t.kn) && (if t.vd then JT.b t { JT.zero with key := t.key, kn := t.kn, vd := true } else name t.fnd && (name t.cls && (JK.right t.fr && (JK.right t.tw && (amount t.un && Dt.isDay t.day)))))
def JS.right (s : JS) : Bool := (name s.key && known s.kn) && (if s.vd then JS.b s { JS.zero with key := s.key, kn := s.kn, vd := true } else name s.fnd && (decide (0 ≤ s.fr) && (decide (s.fr ≤ 73048) && (decide (s.tl = 0) || (decide (s.fr ≤ s.tl) && decide (s.tl ≤ 73048))))))
def JR.only (r : JR) : JR :=
 let b : JR := { JR.zero with kd := r.kd, fnd := r.fnd }
 if r.kd = 1 then { b with q := r.q } else if r.kd = 2 then { b with a := r.a } else if r.kd = 3 then { b with e := r.e } else if r.kd = 4 then { b with o := r.o } else if r.kd = 5 then { b with t := r.t } else if r.kd = 6 then { b with s := r.s } else if r.kd = 7 ∨ r.kd = 8 then { b with day := r.day } else b
noncomputable def JR.kind (r : JR) : Bool := if r.kd = 1 then r.q.right else if r.kd = 2 then r.a.right else if r.kd = 3 then r.e.right else if r.kd = 4 then r.o.right else if r.kd = 5 then r.t.right else if r.kd = 6 then r.s.right else if r.kd = 7 ∨ r.kd = 8 then Dt.isDay r.day else false
noncomputable def JR.right (r : JR) : Bool := (if r.kd = 3 then name r.fnd else decide (r.fnd.size = 0)) && (JR.b r.only r && r.kind)
def JR.known (r : JR) (n : Int) : Int := if r.kd = 1 then r.q.kn else if r.kd = 2 then r.a.kn else if r.kd = 3 then r.e.kn else if r.kd = 4 then r.o.kn else if r.kd = 5 then r.t.kn else if r.kd = 6 then r.s.kn else n
noncomputable def Jb.chk : List JR → Nat → Int → Nat → Int
 | [], _, _, _ => 0
 | r :: l, i, last, c => if r.right then (if r.known ((i + 1 : Nat) : Int) = ((i + 1 : Nat) : Int) then (if r.kd = 8 ∧ last < r.day then 371 else if r.kd = 7 then (if r.day ≤ last ∨ 64 < c + 1 then 371 else Jb.chk l (i + 1) r.day (c + 1)) else Jb.chk l (i + 1) last c) else 371) else 370
noncomputable def Jb.check (L : List JR) : Int := if 4096 < L.length then 371 else chk L 0 (-1) 0
noncomputable def Jb.err (L : List JR) (k : Int) : Int := if Jb.check L = 0 then (if Jb.known k then 0 else 240) else Jb.check L
def Jb.upto (L : List JR) (k kd : Int) : List JR := (L.take k.toNat).filter fun r => decide (r.kd = kd)
def Jb.clo : List JR → Nat → List JC → List JC
 | [], _, out => out
 | r :: l, i, out => if r.kd = 7 then clo l (i + 1) (out ++ [⟨r.day, ((i + 1 : Nat) : Int), ((i + 1 : Nat) : Int)⟩]) else if r.kd = 8 then clo l (i + 1) (out.map fun c => if r.day ≤ c.day then { c with as_ := ((i + 1 : Nat) : Int) } else c) else clo l (i + 1) out
end
section
theorem z9_58 {P : Prop} (h : P := by
 by_cases h : i = 0
 ·subst h; rfl
 ·rw [Zf h]; exact Zb Zo) : P := h
theorem z9_59 {P : Prop} (h : P := by
 subst c2
 go_wp2
 go_ret
 rw [HV.out]; exact ⟨rfl, rfl⟩) : P := h
theorem YPgav0 {P : Prop} (h : P := by
 go_wp2
 go_ret
 rw [HV.out]; exact ⟨rfl, rfl⟩) : P := h
theorem YPgav1 {P : Prop} (h : P := by
 go_wp2
 go_ret
 rw [HF.out]; exact ⟨rfl, rfl⟩) : P := h
theorem z9_60 {P : Prop} (h : P := by
 go_wp2
 go_loop [9, 12] (fun _ t => ∃ k : Nat, k ≤ s.size ∧ t = .int .i64 k ∧ Hid (∀ j, j < k → okc d j (byt s j) = true)) (fun _ t => s.size - (intOf t).toNat)
 case atStart => exact ⟨0, by omega, rfl, Zi fun j h => by omega⟩
 case round =>
  obtain ⟨k, hk, rfl, HO⟩ := hrel
  by_cases hlt : k < s.size
  ·have hbk := byt_at hlt
   rcases okc_cases d k s[k].toNat with ⟨ho, hc⟩ | ⟨ho, hc⟩
   ·have HA : Hid (okc d k (byt s k) = true) := Zi (by rw [hbk]; exact ho)
    clear ho hbk
    rcases hc with ⟨c1, c2⟩ | ⟨c1, c2, c3, c4, c5⟩
    case' inr => subst c2
    all_goals
     go_wp2
     go_round
     case rel => exact ⟨k + 1, by omega, by go_num, Zi fun j hj => by
      by_cases e : j = k
      ·subst e; exact HA.out
      ·exact HO.out j Zo⟩
     case measure => simp [intOf]; omega
   ·have HV : Hid (v = false) := Zi (by rw [hv.out, all_no hlt (by rw [hbk]; exact ho), Bool.and_false, Bool.and_false])
    clear ho hbk
    rcases hc with ⟨c1, c2 | ⟨c0, c2 | ⟨c2, c3 | ⟨c3, c4⟩⟩⟩⟩ | ⟨c0, c1, c2 | ⟨c9, c2 | ⟨c2, c3, c4⟩⟩⟩
    ·subst c2
     exact YPgav0
    ·subst c2 c0
     exact YPgav0
    ·subst c0
     exact YPgav0
    ·subst c0
     exact YPgav0
    ·subst c2
     exact YPgav0
    ·subst c2 c9
     exact YPgav0
    ·subst c9
     exact YPgav0
  ·have HV : Hid (v = (decide (least ≤ (s.size : Int)) && decide ((s.size : Int) ≤ most))) := Zi (by rw [hv.out, all_iff.2 (fun i hi => HO.out i Zo), Bool.and_true])
   by_cases g1 : least ≤ (s.size : Int)
   ·by_cases g2 : (s.size : Int) ≤ most
    ·have HF : Hid (v = true) := Zi (by rw [HV.out, Zt g1, Zt g2]; rfl)
     exact YPgav1
    ·have HF : Hid (v = false) := Zi (by rw [HV.out, Zt g1, Zf g2]; rfl)
     exact YPgav1
   ·have HF : Hid (v = false) := Zi (by rw [HV.out, Zf g1]; rfl)
    go_wp2
    go_ret
    rw [HF.out]; exact ⟨rfl, rfl⟩) : P := h
end
section
open Jb
theorem Jb.okc_cases (d : Bool) (i c : Nat) :
    (okc d i c = true ∧ ((¬ ((c : Int) < 65) ∧ ¬ (90 < (c : Int))) ∨ ((c : Int) < 65 ∧ d = true ∧ ((i : Int) == 0) = false ∧ ¬ ((c : Int) < 48) ∧ ¬ (57 < (c : Int))))) ∨
    (okc d i c = false ∧ (((c : Int) < 65 ∧ (d = false ∨ (d = true ∧ (i = 0 ∨ (((i : Int) == 0) = false ∧ ((c : Int) < 48 ∨ (¬ ((c : Int) < 48) ∧ 57 < (c : Int)))))))) ∨ (¬ ((c : Int) < 65) ∧ 90 < (c : Int) ∧ (d = false ∨ (d = true ∧ (i = 0 ∨ (((i : Int) == 0) = false ∧ ¬ ((c : Int) < 48) ∧ 57 < (c : Int)))))))) := by
 unfold okc cap dig
 have hb : ((i : Int) == 0) = decide (i = 0) := by
  exact z9_58
 rw [hb]
 cases d <;> by_cases h0 : i = 0 <;> by_cases h1 : c < 65 <;> by_cases h2 : 90 < c <;> by_cases h3 : c < 48 <;> by_cases h4 : 57 < c <;> simp_all <;> omega
theorem qcap_any (s : ByteArray) (hs : s.size ≤ 9223372036854775807) (v : Bool) (hv : Hid (v = (decide (1 ≤ s.size) && Jb.all (okc true) s))) (w : World) :
    Calls Tryz.prog 140 #[.string s] w fun e w' => e = .returned (.bool v) ∧ w = w' := by
 go_enter Tryz.func140, Tryz.ntmps140
 go_wp2
 go_loop [3, 6] (fun _ t => ∃ k : Nat, k ≤ s.size ∧ t = .int .i64 k ∧ Hid (∀ j, j < k → okc true j (byt s j) = true)) (fun _ t => s.size - (intOf t).toNat)
 case atStart => exact ⟨0, by omega, rfl, Zi fun j h => by omega⟩
 case round =>
  obtain ⟨k, hk, rfl, HO⟩ := hrel
  by_cases hlt : k < s.size
  ·have hbk := byt_at hlt
   rcases okc_cases true k s[k].toNat with ⟨ho, hc⟩ | ⟨ho, hc⟩
   ·have HA : Hid (okc true k (byt s k) = true) := Zi (by rw [hbk]; exact ho)
    clear ho hbk
    rcases hc with ⟨c1, c2⟩ | ⟨c1, -, c3, c4, c5⟩
    all_goals
     go_wp2
     go_round
     case rel => exact ⟨k + 1, by omega, by go_num, Zi fun j hj => by
      by_cases e : j = k
      ·subst e; exact HA.out
      ·exact HO.out j Zo⟩
     case measure => simp [intOf]; omega
   ·have HV : Hid (v = false) := Zi (by rw [hv.out, all_no hlt (by rw [hbk]; exact ho), Bool.and_false])
    clear ho hbk
    rcases hc with ⟨c1, c2 | ⟨-, c2 | ⟨c2, c3 | ⟨c3, c4⟩⟩⟩⟩ | ⟨c0, c1, c2 | ⟨-, c2 | ⟨c2, c3, c4⟩⟩⟩
    ·cases c2
    ·exact z9_59
    ·exact YPgav0
    ·exact YPgav0
    ·cases c2
    ·exact z9_59
    ·exact YPgav0
  ·have HV : Hid (v = decide (1 ≤ s.size)) := Zi (by rw [hv.out, all_iff.2 (fun i hi => HO.out i Zo), Bool.and_true])
   by_cases h0 : s.size = 0
   ·have hl : s.toList.isEmpty = true := by
      rw [Lib.toList_data]
      have : s.data.toList.length = 0 := by rw [Array.length_toList]; exact h0
      cases e : s.data.toList with
      | nil => rfl
      | cons a l => rw [e] at this; simp at this
    have HF : Hid (v = false) := Zi (by rw [HV.out]; exact Zf Zo)
    clear h0
    exact YPgav1
   ·have hl : s.toList.isEmpty = false := by
      rw [Lib.toList_data]
      cases e : s.data.toList with
      | nil =>
       have : s.data.toList.length = 0 := by rw [e]; rfl
       rw [Array.length_toList] at this
       exact absurd this h0
      | cons a l => rfl
    have HF : Hid (v = true) := Zi (by rw [HV.out]; exact Zt Zo)
    clear h0
    exact YPgav1
theorem acap_any (s : ByteArray) (least most : Int) (d : Bool) (hs : s.size ≤ 9223372036854775807) (v : Bool) (hv : Hid (v = (decide (least ≤ (s.size : Int)) && (decide ((s.size : Int) ≤ most) && Jb.all (okc d) s)))) (w : World) :
    Calls Tryz.prog 114 #[.string s, .int .i64 least, .int .i64 most, .bool d] w fun e w' => e = .returned (.bool v) ∧ w = w' := by
 go_enter Tryz.func114, Tryz.ntmps114
 exact z9_60
theorem pcap_any (s : ByteArray) (least most : Int) (d : Bool) (hs : s.size ≤ 9223372036854775807) (v : Bool) (hv : Hid (v = (decide (least ≤ (s.size : Int)) && (decide ((s.size : Int) ≤ most) && Jb.all (okc d) s)))) (w : World) :
    Calls Tryz.prog 147 #[.string s, .int .i64 least, .int .i64 most, .bool d] w fun e w' => e = .returned (.bool v) ∧ w = w' := by
 go_enter Tryz.func147, Tryz.ntmps147
 exact z9_60
end
section
theorem z9_61 {P : Prop} (h : P := by
 obtain rfl : v = true := by rw [hv.out, Zf Zo, Zf Zo]; rfl
 go_wp2
 go_ret
 exact ⟨rfl, rfl⟩) : P := h
theorem z9_62 {P : Prop} (h : P := by
 go_enter Tryz.func63, Tryz.ntmps63
 go_wp2
 go_ret
 exact ⟨rfl, HM.low⟩) : P := h
theorem z9_63 {P : Prop} (h : P := by
 clear h0 h16
 go_enter Tryz.func63, Tryz.ntmps63
 go_wp2
 go_ret
 exact ⟨rfl, HM.low⟩) : P := h
end
section
open Jb
def Jb.okr (c : Nat) : Bool := low c || dig c
theorem Jb.okr_d (x : Nat) : (!(decide (97 ≤ (x : Int) ∧ (x : Int) ≤ 122) || decide (48 ≤ (x : Int) ∧ (x : Int) ≤ 57))) = !okr x := by
 unfold okr low dig
 by_cases h1 : 97 ≤ x <;> by_cases h2 : x ≤ 122 <;> by_cases h3 : 48 ≤ x <;> by_cases h4 : x ≤ 57 <;> simp [h1, h2, h3, h4] <;> omega
theorem nfn_any (x : Int) (v : Bool) (hv : Hid (v = !(decide (97 ≤ x ∧ x ≤ 122) || decide (48 ≤ x ∧ x ≤ 57)))) (w : World) :
    Calls Tryz.prog 77 #[.int .i32 x] w fun e w' => e = .returned (.bool v) ∧ w = w' := by
 go_enter Tryz.func77, Tryz.ntmps77
 have hc : (97 ≤ x ∧ x ≤ 122) ∨ (x < 48 ∧ x < 97) ∨ (¬ x < 48 ∧ ¬ 57 < x ∧ x < 97) ∨ (57 < x ∧ x < 97 ∧ ¬ x < 48) ∨ (122 < x ∧ ¬ x < 97 ∧ 57 < x ∧ ¬ x < 48) := by omega
 rcases hc with ⟨h1, h2⟩ | ⟨h1, h2⟩ | ⟨h1, h2, h3⟩ | ⟨h1, h2, h3⟩ | ⟨h1, h2, h3, h4⟩
 ·obtain rfl : v = false := by rw [hv.out, Zt ⟨h1, h2⟩]; rfl
  go_wp2
  go_ret
  exact ⟨rfl, rfl⟩
 ·exact z9_61
 ·obtain rfl : v = false := by rw [hv.out, Zf Zo, Zt Zo]; rfl
  go_wp2
  go_ret
  exact ⟨rfl, rfl⟩
 ·exact z9_61
 ·exact z9_61
theorem idxfn_any (s : ByteArray) (hs : s.size ≤ 9223372036854775807) (w : World) :
    Calls Tryz.prog 128 #[.string s, .func (.func 77) #[] #[], .bool true] w fun e w' => (∃ n : Int, e = .returned (.int .i64 n) ∧ -1 ≤ n ∧ Hid (n = -1 ↔ ∀ i, i < s.size → okr (byt s i) = true)) ∧ Below w.heap.size w w' := by
 have hnx := fun (k : Nat) (h : k < s.size) (ty : TypeId) => run_next_any (P := Tryz.prog) w s k ty h
 have hne := fun (k : Nat) (h : ¬ k < s.size) (ty : TypeId) => run_next_end (P := Tryz.prog) w s k ty h
 have HNX := Zi hnx
 have HNE := Zi hne
 clear hnx hne
 go_enter Tryz.func128, Tryz.ntmps128
 go_wp2
 go_loopw [7, 8] (fun _ _ wr => ∃ k : Nat, k ≤ s.size ∧ wr = w.iter s k ∧ Hid (∀ j, j < k → okr (byt s j) = true)) (fun _ _ wr => s.size - wr.iterPos w.heap.size)
 case atStart => exact ⟨0, by omega, rfl, Zi fun j h => by omega⟩
 case round =>
  obtain ⟨k, hk, rfl, HO⟩ := hrel
  by_cases hlt : k < s.size
  ·have hn := HNX.out k hlt
   have hbk := byt_at hlt
   by_cases ha : (s[k].toNat) < 128
   ·rw [decode_ascii s k hlt ha] at hn
    cases hok : okr s[k].toNat with
    | true =>
     have NF := fun w => nfn_any (s[k].toNat : Int) false (Zi (by rw [okr_d, hok]; rfl)) w
     have HA : Hid (okr (byt s k) = true) := Zi (by rw [hbk]; exact hok)
     clear hok hbk ha
     go_wp2_with (go_at_call 77; refine (NF _).mono ?_; rintro e w' ⟨rfl, rfl⟩)
     go_roundw
     case rel => exact ⟨k + 1, by omega, rfl, Zi fun j hj => by
      by_cases e : j = k
      ·subst e; exact HA.out
      ·exact HO.out j Zo⟩
     case measure => simp; omega
    | false =>
     have NF := fun w => nfn_any (s[k].toNat : Int) true (Zi (by rw [okr_d, hok]; rfl)) w
     have HN : Hid (((k : Nat) : Int) = -1 ↔ ∀ i, i < s.size → okr (byt s i) = true) := Zi ⟨fun h => by omega, fun h => by have := h k hlt; rw [hbk, hok] at this; cases this⟩
     clear hok hbk ha
     go_wp2_with (go_at_call 77; refine (NF _).mono ?_; rintro e w' ⟨rfl, rfl⟩)
     go_ret
     exact ⟨⟨_, rfl, by omega, HN⟩, nm_low _ _ _⟩
   ·have hh := (decode_high s k hlt Zo).1
    obtain ⟨r, hr⟩ : ∃ r : Nat, r = (Utf8.decode s k).1 := ⟨_, rfl⟩
    rw [← hr] at hh hn
    have NF := fun w => nfn_any (r : Int) true (Zi (by rw [Zf Zo, Zf Zo]; rfl)) w
    have HN : Hid (((k : Nat) : Int) = -1 ↔ ∀ i, i < s.size → okr (byt s i) = true) := Zi ⟨fun h => by omega, fun h => by
     have h9 := h k hlt
     rw [hbk] at h9
     unfold okr low dig at h9
     simp at h9
     omega⟩
    clear hbk ha hh hr
    go_wp2_with (go_at_call 77; refine (NF _).mono ?_; rintro e w' ⟨rfl, rfl⟩)
    go_ret
    exact ⟨⟨_, rfl, by omega, HN⟩, nm_low _ _ _⟩
  ·obtain rfl : k = s.size := by omega
   have hn := HNE.out s.size hlt
   go_wp2
   go_ret
   exact ⟨⟨_, rfl, by omega, Zi ⟨fun _ i hi => HO.out i hi, fun _ => rfl⟩⟩, nm_low _ _ _⟩
theorem cfn_any (s : ByteArray) (hs : s.size ≤ 9223372036854775807) (v : Bool) (hv : Hid (v = !Jb.all (fun _ c => okr c) s)) (w : World) :
    Calls Tryz.prog 76 #[.string s, .func (.func 77) #[] #[]] w fun e w' => e = .returned (.bool v) ∧ Below w.heap.size w w' := by
 have HM := Mem.start w
 have IX : ∀ w, Calls Tryz.prog 98 #[.string s, .func (.func 77) #[] #[]] w fun e w' => (∃ n : Int, e = .returned (.int .i64 n) ∧ -1 ≤ n ∧ Hid (n = -1 ↔ ∀ i, i < s.size → okr (byt s i) = true)) ∧ Below w.heap.size w w' := fun w => by
  have HM := Mem.start w
  go_enter Tryz.func98, Tryz.ntmps98
  go_wp2_with (go_at_call 128; refine (idxfn_any s hs _).mono ?_; rintro e9 w2 ⟨⟨n, rfl, hn, HN⟩, hL⟩; replace HM := HM.call hL; clear hL)
  go_ret
  exact ⟨⟨n, rfl, hn, HN⟩, HM.low⟩
 go_enter Tryz.func76, Tryz.ntmps76
 go_wp2_with (go_at_call 98; refine (IX _).mono ?_; rintro e9 w2 ⟨⟨n, rfl, hn, HN⟩, hL⟩; replace HM := HM.call hL; clear hL)
 go_ret
 refine ⟨?_, HM.low⟩
 have e : v = decide (0 ≤ n) := by
  rw [hv.out]
  by_cases h : n = -1
  ·rw [all_iff.2 (HN.out.1 h), Zf Zo]; rfl
  ·rw [Zt Zo]
   cases e : Jb.all (fun _ c => okr c) s with
   | false => rfl
   | true => exact absurd (HN.out.2 (all_iff.1 e)) h
 rw [e]
 rfl
theorem Jb.okn_0 (c : Nat) : okn 0 c = low c := by unfold okn; simp
theorem Jb.okn_s {i : Nat} (h : i ≠ 0) (c : Nat) : okn i c = okr c := by unfold okn okr; simp [h]
theorem Jb.name_no {s : ByteArray} (hz : 0 < s.size) (h : low s[0].toNat = false) : name s = false := by
 unfold name
 rw [all_no hz (by rw [byt_at hz, okn_0]; exact h)]; simp
theorem Jb.name_yes {s : ByteArray} (hz : 0 < s.size) (h16 : s.size ≤ 16) (h : low s[0].toNat = true) : name s = Jb.all (fun _ c => okr c) s := by
 unfold name
 rw [Zt (show 1 ≤ s.size from hz), Zt h16, Bool.true_and, Bool.true_and]
 rw [Bool.eq_iff_iff, all_iff, all_iff]
 refine ⟨fun h9 i hi => ?_, fun h9 i hi => ?_⟩
 ·by_cases e : i = 0
  ·subst e
   rw [byt_at hz]
   unfold okr; rw [h]; rfl
  ·have := h9 i hi
   rwa [okn_s e] at this
 ·by_cases e : i = 0
  ·subst e
   rw [byt_at hz, okn_0]; exact h
  ·rw [okn_s e]; exact h9 i hi
theorem Jb.empty_l {s : ByteArray} (h : s.size = 0) : s.toList.isEmpty = true := by
 rw [Lib.toList_data]
 have : s.data.toList.length = 0 := by rw [Array.length_toList]; exact h
 cases e : s.data.toList with
 | nil => rfl
 | cons a l => rw [e] at this; simp at this
theorem Jb.some_l {s : ByteArray} (h : s.size ≠ 0) : s.toList.isEmpty = false := by
 rw [Lib.toList_data]
 cases e : s.data.toList with
 | nil =>
  have : s.data.toList.length = 0 := by rw [e]; rfl
  rw [Array.length_toList] at this
  exact absurd this h
 | cons a l => rfl
theorem oname_any (s : ByteArray) (hs : s.size ≤ 9223372036854775807) (w : World) :
    Calls Tryz.prog 63 #[.string s] w fun e w' => e = .returned (.bool (name s)) ∧ Below w.heap.size w w' := by
 have HM := Mem.start w
 by_cases h0 : s.size = 0
 ·have hl := empty_l h0
  have hv : name s = false := by unfold name; rw [Zf Zo]; rfl
  rw [hv]
  clear h0 hv
  exact z9_62
 have hz : 0 < s.size := by omega
 have hl := some_l h0
 by_cases h16 : 16 < s.size
 ·have hv : name s = false := by unfold name; rw [Zf (show ¬ s.size ≤ 16 by omega)]; simp
  rw [hv]
  have h2 : (16 : Int) < s.size := by omega
  clear h0 hv h16
  exact z9_62
 have h2 : ¬ (16 : Int) < s.size := by omega
 by_cases g1 : (s[0].toNat : Int) < 97
 ·rw [name_no hz (by unfold low; rw [Zf Zo]; rfl)]
  exact z9_63
 by_cases g2 : 122 < (s[0].toNat : Int)
 ·rw [name_no hz (by unfold low; rw [Zf (show ¬ s[0].toNat ≤ 122 by omega)]; simp)]
  exact z9_63
 ·rw [name_yes hz Zo (by unfold low; rw [Zt Zo, Zt Zo]; rfl)]
  have CF := fun w => cfn_any s hs _ (Zi rfl) w
  generalize Jb.all (fun _ c => okr c) s = v at *
  clear h0 h16
  go_enter Tryz.func63, Tryz.ntmps63
  go_wp2_with (go_at_call 76; (with_reducible refine Zc HM (CF _) ?_; clear HM; intro w2 HM))
  go_ret
  exact ⟨by simp, HM.low⟩
theorem Jb.okn_cases (i c : Nat) :
    (okn i c = true ∧ ((97 ≤ (c : Int) ∧ (c : Int) ≤ 122 ∧ 48 ≤ (c : Int) ∧ ¬ (c : Int) ≤ 57) ∨ (¬ 97 ≤ (c : Int) ∧ 48 ≤ (c : Int) ∧ (c : Int) ≤ 57 ∧ ((i : Int) == 0) = false))) ∨
    (okn i c = false ∧ ((¬ 97 ≤ (c : Int) ∧ ¬ 48 ≤ (c : Int)) ∨ (¬ 97 ≤ (c : Int) ∧ 48 ≤ (c : Int) ∧ ¬ (c : Int) ≤ 57) ∨ (¬ 97 ≤ (c : Int) ∧ 48 ≤ (c : Int) ∧ (c : Int) ≤ 57 ∧ i = 0) ∨ (97 ≤ (c : Int) ∧ ¬ (c : Int) ≤ 122 ∧ 48 ≤ (c : Int) ∧ ¬ (c : Int) ≤ 57))) := by
 unfold okn low dig
 have hb : ((i : Int) == 0) = decide (i = 0) := by
  exact z9_58
 rw [hb]
 by_cases h0 : i = 0 <;> by_cases h1 : 97 ≤ c <;> by_cases h2 : c ≤ 122 <;> by_cases h3 : 48 ≤ c <;> by_cases h4 : c ≤ 57 <;> simp_all <;> omega
theorem rname23_any (s : ByteArray) (w : World) :
    Calls Tryz.prog 53 #[.string s] w fun e w' => e = .returned (.bool (name s)) ∧ Below w.heap.size w w' := by
 have HM := Mem.start w
 have HP : Hid (name s = (decide (1 ≤ s.size) && (decide (s.size ≤ 16) && Jb.all okn s))) := Zi rfl
 generalize name s = v at *
 by_cases h0 : s.size = 0
 ·have hv : v = false := by rw [HP.out, Zf Zo]; rfl
  subst hv
  have h1 : (s.size : Int) < 1 := by omega
  go_enter Tryz.func53, Tryz.ntmps53
  go_wp2
  go_ret
  exact ⟨rfl, HM.low⟩
 have h1 : ¬ (s.size : Int) < 1 := by omega
 by_cases h16 : 16 < s.size
 ·have hv : v = false := by rw [HP.out, Zf (show ¬ s.size ≤ 16 by omega)]; simp
  subst hv
  have h2 : (16 : Int) < s.size := by omega
  go_enter Tryz.func53, Tryz.ntmps53
  go_wp2
  go_ret
  exact ⟨rfl, HM.low⟩
 have h2 : ¬ (16 : Int) < s.size := by omega
 have HQ : Hid (v = Jb.all okn s) := Zi (by rw [HP.out, Zt (show 1 ≤ s.size by omega), Zt (show s.size ≤ 16 by omega)]; rfl)
 clear HP
 go_enter Tryz.func53, Tryz.ntmps53
 go_wp2
 go_loopw [3] (fun t wr => ∃ k : Nat, k ≤ s.size ∧ t = .int .i64 k ∧ Hid (∀ j, j < k → okn j (byt s j) = true) ∧ Mem w [] [] wr) (fun t _ => s.size - (intOf t).toNat)
 case atStart => exact ⟨0, by omega, rfl, Zi fun j h => by omega, HM⟩
 case round =>
  clear HM
  obtain ⟨k, hk, rfl, HO, HM⟩ := hrel
  by_cases hlt : k < s.size
  ·have hbk := byt_at hlt
   rcases okn_cases k s[k].toNat with ⟨ho, hc⟩ | ⟨ho, hc⟩
   ·have HA : Hid (okn k (byt s k) = true) := Zi (by rw [hbk]; exact ho)
    clear ho hbk
    rcases hc with ⟨c1, c2, c3, c4⟩ | ⟨c1, c2, c3, c4⟩
    all_goals
     go_upto_region 6 with fail
     go_quiet (fail)
     go_wp2
     go_roundw
     case rel => exact ⟨k + 1, by omega, by go_num, Zi (fun j hj => by
      by_cases e : j = k
      ·subst e; exact HA.out
      ·exact HO.out j Zo), HM.drewN _⟩
     case measure => simp [intOf]; omega
   ·have hv : v = false := by rw [HQ.out]; exact all_no hlt (by rw [hbk]; exact ho)
    subst hv
    clear ho hbk
    rcases hc with ⟨c1, c2⟩ | ⟨c1, c2, c3⟩ | ⟨c1, c2, c3, rfl⟩ | ⟨c1, c2, c3, c4⟩
    all_goals
     go_upto_region 6 with fail
     go_quiet (fail)
     go_wp2
     go_ret
     exact ⟨rfl, (HM.drewN _).low⟩
  ·have hv : v = true := by rw [HQ.out]; exact all_iff.2 (fun i hi => HO.out i Zo)
   subst hv
   go_wp2
   go_ret
   exact ⟨rfl, HM.low⟩
end
section
theorem z9_64 {P : Prop} (h : P := by
 skip
 subst h1
 cases b1 with
 | true =>
  by_cases h2 : x.un = 0
  ·skip
   exact .inl (⟨rfl, rfl, beq_iff_eq.2 h2, by rw [HV.out]; simp [h2]⟩)
  ·skip
   exact .inr (.inl (⟨rfl, rfl, Zb h2, by rw [HV.out]; simp [h2]⟩))
 | false =>
  exact .inr (.inr (.inl (⟨rfl, rfl, by rw [HV.out]; simp⟩)))) : P := h
theorem z9_65 {P : Prop} (h : P := by
 skip
 by_cases h3 : kd = 4
 ·skip
  subst h3
  cases b1 with
  | true =>
   by_cases h4 : x.un = 0
   ·skip
    exact .inr (.inr (.inr (.inl (⟨Zb h1, rfl, rfl, beq_iff_eq.2 h4, by rw [HV.out]; simp [h1, h4]⟩))))
   ·skip
    exact Zr (.inl (⟨Zb h1, rfl, rfl, Zb h4, by rw [HV.out]; simp [h1, h4]⟩))
  | false =>
   exact Zr (.inr (.inl (⟨Zb h1, rfl, rfl, by rw [HV.out]; simp [h1]⟩)))
 ·skip
  by_cases h5 : kd = 2
  ·skip
   subst h5
   cases b2 with
   | true =>
    by_cases h6 : x.amt = 0
    ·skip
     exact Zr (.inr (.inr (.inl (⟨Zb h1, Zb h3, rfl, rfl, beq_iff_eq.2 h6, by rw [HV.out]; simp [h1, h3, h6]⟩))))
    ·skip
     exact Zr (.inr (.inr (.inr (.inl (⟨Zb h1, Zb h3, rfl, rfl, Zb h6, by rw [HV.out]; simp [h1, h3, h6]⟩)))))
   | false =>
    exact Zr (Zr (.inl (⟨Zb h1, Zb h3, rfl, rfl, by rw [HV.out]; simp [h1, h3]⟩)))
  ·skip
   by_cases h7 : kd = 3
   ·skip
    subst h7
    cases b2 with
    | true =>
     by_cases h8 : x.amt = 0
     ·skip
      exact Zr (Zr (.inr (.inl (⟨Zb h1, Zb h3, Zb h5, rfl, rfl, beq_iff_eq.2 h8, by rw [HV.out]; simp [h1, h3, h5, h8]⟩))))
     ·skip
      exact Zr (Zr (.inr (.inr (.inl (⟨Zb h1, Zb h3, Zb h5, rfl, rfl, Zb h8, by rw [HV.out]; simp [h1, h3, h5, h8]⟩)))))
    | false =>
     exact Zr (Zr (.inr (.inr (.inr (.inl (⟨Zb h1, Zb h3, Zb h5, rfl, rfl, by rw [HV.out]; simp [h1, h3, h5]⟩))))))
   ·skip
    by_cases h9 : kd = 5
    ·skip
     subst h9
     by_cases h10 : x.amt = 0
     ·skip
      by_cases h11 : x.un = 0
      ·skip
       exact Zr (Zr (Zr (.inl (⟨Zb h1, Zb h3, Zb h5, Zb h7, rfl, beq_iff_eq.2 h10, beq_iff_eq.2 h11, by rw [HV.out]; simp [h1, h3, h5, h7, h10, h11]⟩))))
      ·skip
       exact Zr (Zr (Zr (.inr (.inl (⟨Zb h1, Zb h3, Zb h5, Zb h7, rfl, beq_iff_eq.2 h10, Zb h11, by rw [HV.out]; simp [h1, h3, h5, h7, h10, h11]⟩)))))
     ·skip
      exact Zr (Zr (Zr (.inr (.inr (.inl (⟨Zb h1, Zb h3, Zb h5, Zb h7, rfl, Zb h10, by rw [HV.out]; simp [h1, h3, h5, h7, h10]⟩))))))
    ·skip
     exact Zr (Zr (Zr (.inr (.inr (.inr (⟨Zb h1, Zb h3, Zb h5, Zb h7, Zb h9, by rw [HV.out]; simp [h1, h3, h5, h7, h9]⟩))))))) : P := h
end
section
open Jb
theorem owithin_any (n m : Int) (v : Bool) (hv : Hid (v = (decide (1 ≤ n) && decide (n ≤ m)))) (w : World) :
    Calls Tryz.prog 121 #[.int .i64 n, .int .i64 m] w fun e w' => e = .returned (.bool v) ∧ Below w.heap.size w w' := by
 have Z := Below.refl w.heap.size w
 go_enter Tryz.func121, Tryz.ntmps121
 by_cases h1 : 1 ≤ n <;> by_cases h2 : n ≤ m
 all_goals
  have HV : Hid (v = _) := hv
  have hv2 := HV.out
  simp only [h1, h2, decide_true, decide_false, Bool.and_true, Bool.and_false, Bool.false_and, Bool.true_and] at hv2
  subst hv2
  clear HV hv
  go_wp2
  go_ret
  exact ⟨rfl, Z⟩
theorem FA.cell {T : TypeId} {c : Array Value} {k : Nat} {v : Value} (h : FA T c k v) (hT : aggT T = some false) : c[k]? = some v := by
 rcases h with ⟨_, h2⟩ | ⟨h1, _⟩
 ·exact h2
 ·rw [hT] at h1; cases h1
theorem jc_at {w : World} {b k : Nat} {c : Array Value} {T : TypeId} {v : Value} (hb : Blk w b c) (h : FA T c k v) (hT : aggT T = some false) : w.cell? ⟨b, k, none⟩ = some v := by
 rw [hb.cell k]; exact h.cell hT
theorem known_w (n : Int) : known n = (decide (1 ≤ n) && decide (n ≤ 2147483647)) := rfl
theorem amount_w (n : Int) : Jb.amount n = (decide (1 ≤ n) && decide (n ≤ 1000000000000000)) := rfl
theorem oacc_any (x : JK) (hw : x.wf) (w : World) :
    Calls Tryz.prog 94 #[.agg x.c] w fun e w' => e = .returned (.bool x.right) ∧ Below w.heap.size w w' := by
 have HM := Mem.start w
 have f0 := (JK.f_nom x).la
 have f1 := (JK.f_hol x).la
 have HV : Hid (x.right = (name x.hol && (decide (x.nom.size = 0) || name x.nom))) := Zi rfl
 generalize x.right = v at HV ⊢
 have C1 := fun w => oname_any x.hol (by have := hw; simp only [JK.wf] at this; omega) w
 have C2 := fun w => oname_any x.nom (by have := hw; simp only [JK.wf] at this; omega) w
 generalize name x.hol = b1 at *
 generalize name x.nom = b2 at *
 have hc : (b1 = true ∧ x.nom.toList.isEmpty = true ∧ true = v) ∨
     (b1 = true ∧ x.nom.toList.isEmpty = false ∧ b2 = v) ∨
     (b1 = false ∧ false = v) := by
  clear HM C1 C2
  cases b1 with
  | true =>
   by_cases h1 : x.nom.size = 0
   ·skip
    exact .inl (⟨rfl, empty_l h1, by rw [HV.out]; simp [h1]⟩)
   ·skip
    exact .inr (.inl (⟨rfl, some_l h1, by rw [HV.out]; simp [h1]⟩))
  | false =>
   exact .inr (.inr (⟨rfl, by rw [HV.out]; simp⟩))
 clear HV
 rcases hc with ⟨rfl, g1, rfl⟩ | ⟨rfl, g1, rfl⟩ | ⟨rfl, rfl⟩
 all_goals
  go_enter Tryz.func94, Tryz.ntmps94
  go_wp2_with (first | ((first | (go_at_call 63; with_reducible refine (C1 _).mono ?_) | (go_at_call 63; with_reducible refine (C2 _).mono ?_)); rintro e9 w2 ⟨rfl, hL⟩; replace HM := HM.call hL; clear hL) | ((with_reducible refine g_ld ?_); refine a_ld HM ?_) | ((with_reducible refine g_bx ?_); refine a_bx HM ?_; clear HM; intro bk w1 HM))
  go_ret
  exact ⟨rfl, HM.low⟩
theorem racc_any (x : JK) (hw : x.wf) (w : World) :
    Calls Tryz.prog 54 #[.agg x.c] w fun e w' => e = .returned (.bool x.right) ∧ Below w.heap.size w w' := by
 have HM := Mem.start w
 have f0 := (JK.f_nom x).la
 have f1 := (JK.f_hol x).la
 have HV : Hid (x.right = (name x.hol && (decide (x.nom.size = 0) || name x.nom))) := Zi rfl
 generalize x.right = v at HV ⊢
 have C1 := fun w => rname23_any x.hol w
 have C2 := fun w => rname23_any x.nom w
 generalize name x.hol = b1 at *
 generalize name x.nom = b2 at *
 have hc : (b1 = true ∧ x.nom.toList.isEmpty = true ∧ true = v) ∨
     (b1 = true ∧ x.nom.toList.isEmpty = false ∧ b2 = v) ∨
     (b1 = false ∧ false = v) := by
  clear HM C1 C2
  cases b1 with
  | true =>
   by_cases h1 : x.nom.size = 0
   ·skip
    exact .inl (⟨rfl, empty_l h1, by rw [HV.out]; simp [h1]⟩)
   ·skip
    exact .inr (.inl (⟨rfl, some_l h1, by rw [HV.out]; simp [h1]⟩))
  | false =>
   exact .inr (.inr (⟨rfl, by rw [HV.out]; simp⟩))
 clear HV
 rcases hc with ⟨rfl, g1, rfl⟩ | ⟨rfl, g1, rfl⟩ | ⟨rfl, rfl⟩
 all_goals
  go_enter Tryz.func54, Tryz.ntmps54
  go_wp2_with (first | ((first | (go_at_call 53; with_reducible refine (C1 _).mono ?_) | (go_at_call 53; with_reducible refine (C2 _).mono ?_)); rintro e9 w2 ⟨rfl, hL⟩; replace HM := HM.call hL; clear hL) | ((with_reducible refine g_ld ?_); refine a_ld HM ?_) | ((with_reducible refine g_bx ?_); refine a_bx HM ?_; clear HM; intro bk w1 HM))
  go_ret
  exact ⟨rfl, HM.low⟩
theorem oasked_any (x : JO) (w : World) :
    Calls Tryz.prog 122 #[.agg x.c] w fun e w' => e = .returned (.bool x.asked) ∧ Below w.heap.size w w' := by
 have HM := Mem.start w
 have f4 := (JO.f_kd x).la
 have f5 := (JO.f_amt x).la
 have f6 := (JO.f_un x).la
 have HV : Hid (x.asked = (if x.kd = 1 ∨ x.kd = 4 then Jb.amount x.amt && decide (x.un = 0) else if x.kd = 2 ∨ x.kd = 3 then Jb.amount x.un && decide (x.amt = 0) else if x.kd = 5 then decide (x.amt = 0) && decide (x.un = 0) else false)) := Zi rfl
 generalize x.asked = v at HV ⊢
 have C1 := fun w => owithin_any x.amt 1000000000000000 (Jb.amount x.amt) (Zi rfl) w
 have C2 := fun w => owithin_any x.un 1000000000000000 (Jb.amount x.un) (Zi rfl) w
 generalize Jb.amount x.amt = b1 at *
 generalize Jb.amount x.un = b2 at *
 generalize x.kd = kd at HV f4
 have hc : (kd = 1 ∧ b1 = true ∧ (x.un == 0) = true ∧ true = v) ∨
     (kd = 1 ∧ b1 = true ∧ (x.un == 0) = false ∧ false = v) ∨
     (kd = 1 ∧ b1 = false ∧ false = v) ∨
     ((kd == 1) = false ∧ kd = 4 ∧ b1 = true ∧ (x.un == 0) = true ∧ true = v) ∨
     ((kd == 1) = false ∧ kd = 4 ∧ b1 = true ∧ (x.un == 0) = false ∧ false = v) ∨
     ((kd == 1) = false ∧ kd = 4 ∧ b1 = false ∧ false = v) ∨
     ((kd == 1) = false ∧ (kd == 4) = false ∧ kd = 2 ∧ b2 = true ∧ (x.amt == 0) = true ∧ true = v) ∨
     ((kd == 1) = false ∧ (kd == 4) = false ∧ kd = 2 ∧ b2 = true ∧ (x.amt == 0) = false ∧ false = v) ∨
     ((kd == 1) = false ∧ (kd == 4) = false ∧ kd = 2 ∧ b2 = false ∧ false = v) ∨
     ((kd == 1) = false ∧ (kd == 4) = false ∧ (kd == 2) = false ∧ kd = 3 ∧ b2 = true ∧ (x.amt == 0) = true ∧ true = v) ∨
     ((kd == 1) = false ∧ (kd == 4) = false ∧ (kd == 2) = false ∧ kd = 3 ∧ b2 = true ∧ (x.amt == 0) = false ∧ false = v) ∨
     ((kd == 1) = false ∧ (kd == 4) = false ∧ (kd == 2) = false ∧ kd = 3 ∧ b2 = false ∧ false = v) ∨
     ((kd == 1) = false ∧ (kd == 4) = false ∧ (kd == 2) = false ∧ (kd == 3) = false ∧ kd = 5 ∧ (x.amt == 0) = true ∧ (x.un == 0) = true ∧ true = v) ∨
     ((kd == 1) = false ∧ (kd == 4) = false ∧ (kd == 2) = false ∧ (kd == 3) = false ∧ kd = 5 ∧ (x.amt == 0) = true ∧ (x.un == 0) = false ∧ false = v) ∨
     ((kd == 1) = false ∧ (kd == 4) = false ∧ (kd == 2) = false ∧ (kd == 3) = false ∧ kd = 5 ∧ (x.amt == 0) = false ∧ false = v) ∨
     ((kd == 1) = false ∧ (kd == 4) = false ∧ (kd == 2) = false ∧ (kd == 3) = false ∧ (kd == 5) = false ∧ false = v) := by
  clear HM C1 C2
  by_cases h1 : kd = 1
  ·exact z9_64
  ·exact z9_65
 clear HV
 rcases hc with ⟨rfl, rfl, g2, rfl⟩ | ⟨rfl, rfl, g2, rfl⟩ | ⟨rfl, rfl, rfl⟩ | ⟨g0, rfl, rfl, g3, rfl⟩ | ⟨g0, rfl, rfl, g3, rfl⟩ | ⟨g0, rfl, rfl, rfl⟩ | ⟨g0, g1, rfl, rfl, g4, rfl⟩ | ⟨g0, g1, rfl, rfl, g4, rfl⟩ | ⟨g0, g1, rfl, rfl, rfl⟩ | ⟨g0, g1, g2, rfl, rfl, g5, rfl⟩ | ⟨g0, g1, g2, rfl, rfl, g5, rfl⟩ | ⟨g0, g1, g2, rfl, rfl, rfl⟩ | ⟨g0, g1, g2, g3, rfl, g5, g6, rfl⟩ | ⟨g0, g1, g2, g3, rfl, g5, g6, rfl⟩ | ⟨g0, g1, g2, g3, rfl, g5, rfl⟩ | ⟨g0, g1, g2, g3, g4, rfl⟩
 all_goals
  go_enter Tryz.func122, Tryz.ntmps122
  go_wp2_with (first | ((first | (go_at_call 121; with_reducible refine (C1 _).mono ?_) | (go_at_call 121; with_reducible refine (C2 _).mono ?_)); rintro e9 w2 ⟨rfl, hL⟩; replace HM := HM.call hL; clear hL) | ((with_reducible refine g_ld ?_); refine a_ld HM ?_) | ((with_reducible refine g_bx ?_); refine a_bx HM ?_; clear HM; intro bk w1 HM))
  go_ret
  exact ⟨rfl, HM.low⟩
theorem rasked_any (x : JO) (w : World) :
    Calls Tryz.prog 55 #[.agg x.c] w fun e w' => e = .returned (.bool x.asked) ∧ Below w.heap.size w w' := by
 have HM := Mem.start w
 have f4 := (JO.f_kd x).la
 have f5 := (JO.f_amt x).la
 have f6 := (JO.f_un x).la
 have HV : Hid (x.asked = (if x.kd = 1 ∨ x.kd = 4 then Jb.amount x.amt && decide (x.un = 0) else if x.kd = 2 ∨ x.kd = 3 then Jb.amount x.un && decide (x.amt = 0) else if x.kd = 5 then decide (x.amt = 0) && decide (x.un = 0) else false)) := Zi rfl
 generalize x.asked = v at HV ⊢
 obtain ⟨b1, hb1⟩ := Zh (Jb.amount x.amt)
 obtain ⟨b2, hb2⟩ := Zh (Jb.amount x.un)
 rw [← hb1.out, ← hb2.out] at HV
 generalize x.kd = kd at HV f4
 go_enter Tryz.func55, Tryz.ntmps55
 go_upto_region 1 with ((with_reducible refine g_bx ?_); refine a_bx HM ?_; clear HM; intro bk w1 HM)
 obtain ⟨bk, rfl⟩ := HM.nm0
 have m5 := jc_at (HM.get .here) (JO.f_amt x) Zk
 have m6 := jc_at (HM.get .here) (JO.f_un x) Zk
 go_cut [3, 4] (fun p q wc => p = .bool b1 ∧ q = .bool b2 ∧ Mem w [] [(bk, x.c)] wc)
 case first =>
  have h1 : (false = b1 ∧ ¬ 1 ≤ x.amt) ∨ (false = b1 ∧ 1 ≤ x.amt ∧ ¬ x.amt ≤ 1000000000000000) ∨ (true = b1 ∧ 1 ≤ x.amt ∧ x.amt ≤ 1000000000000000) := by
   rw [hb1.out, amount_w]
   by_cases g1 : 1 ≤ x.amt
   ·by_cases g2 : x.amt ≤ 1000000000000000
    ·exact .inr (.inr ⟨by simp [g1, g2], g1, g2⟩)
    ·exact .inr (.inl ⟨by simp [g1, g2], g1, g2⟩)
   ·exact .inl ⟨by simp [g1], g1⟩
  have h2 : (false = b2 ∧ ¬ 1 ≤ x.un) ∨ (false = b2 ∧ 1 ≤ x.un ∧ ¬ x.un ≤ 1000000000000000) ∨ (true = b2 ∧ 1 ≤ x.un ∧ x.un ≤ 1000000000000000) := by
   rw [hb2.out, amount_w]
   by_cases g1 : 1 ≤ x.un
   ·by_cases g2 : x.un ≤ 1000000000000000
    ·exact .inr (.inr ⟨by simp [g1, g2], g1, g2⟩)
    ·exact .inr (.inl ⟨by simp [g1, g2], g1, g2⟩)
   ·exact .inl ⟨by simp [g1], g1⟩
  clear HV hb1 hb2 f4 f5 f6
  rcases h1 with ⟨rfl, g1⟩ | ⟨rfl, g1, g2⟩ | ⟨rfl, g1, g2⟩
  all_goals
   rcases h2 with ⟨rfl, k1⟩ | ⟨rfl, k1, k2⟩ | ⟨rfl, k1, k2⟩
  all_goals
   go_quiet (fail)
   go_wp2_with fail
   go_meet
   case rel => exact ⟨rfl, rfl, HM.drewN _⟩
 case rest =>
  clear HM m5 m6 hb1 hb2
  obtain ⟨rfl, rfl, HM⟩ := hcut
  go_step
  have hc : (kd = 1 ∧ b1 = true ∧ (x.un == 0) = true ∧ true = v) ∨
   (kd = 1 ∧ b1 = true ∧ (x.un == 0) = false ∧ false = v) ∨
   (kd = 1 ∧ b1 = false ∧ false = v) ∨
   ((kd == 1) = false ∧ kd = 4 ∧ b1 = true ∧ (x.un == 0) = true ∧ true = v) ∨
   ((kd == 1) = false ∧ kd = 4 ∧ b1 = true ∧ (x.un == 0) = false ∧ false = v) ∨
   ((kd == 1) = false ∧ kd = 4 ∧ b1 = false ∧ false = v) ∨
   ((kd == 1) = false ∧ (kd == 4) = false ∧ kd = 2 ∧ b2 = true ∧ (x.amt == 0) = true ∧ true = v) ∨
   ((kd == 1) = false ∧ (kd == 4) = false ∧ kd = 2 ∧ b2 = true ∧ (x.amt == 0) = false ∧ false = v) ∨
   ((kd == 1) = false ∧ (kd == 4) = false ∧ kd = 2 ∧ b2 = false ∧ false = v) ∨
   ((kd == 1) = false ∧ (kd == 4) = false ∧ (kd == 2) = false ∧ kd = 3 ∧ b2 = true ∧ (x.amt == 0) = true ∧ true = v) ∨
   ((kd == 1) = false ∧ (kd == 4) = false ∧ (kd == 2) = false ∧ kd = 3 ∧ b2 = true ∧ (x.amt == 0) = false ∧ false = v) ∨
   ((kd == 1) = false ∧ (kd == 4) = false ∧ (kd == 2) = false ∧ kd = 3 ∧ b2 = false ∧ false = v) ∨
   ((kd == 1) = false ∧ (kd == 4) = false ∧ (kd == 2) = false ∧ (kd == 3) = false ∧ kd = 5 ∧ (x.amt == 0) = true ∧ (x.un == 0) = true ∧ true = v) ∨
   ((kd == 1) = false ∧ (kd == 4) = false ∧ (kd == 2) = false ∧ (kd == 3) = false ∧ kd = 5 ∧ (x.amt == 0) = true ∧ (x.un == 0) = false ∧ false = v) ∨
   ((kd == 1) = false ∧ (kd == 4) = false ∧ (kd == 2) = false ∧ (kd == 3) = false ∧ kd = 5 ∧ (x.amt == 0) = false ∧ false = v) ∨
   ((kd == 1) = false ∧ (kd == 4) = false ∧ (kd == 2) = false ∧ (kd == 3) = false ∧ (kd == 5) = false ∧ false = v) := by
   clear HM
   by_cases h1 : kd = 1
   ·exact z9_64
   ·exact z9_65
  clear HV
  rcases hc with ⟨rfl, rfl, g2, rfl⟩ | ⟨rfl, rfl, g2, rfl⟩ | ⟨rfl, rfl, rfl⟩ | ⟨g0, rfl, rfl, g3, rfl⟩ | ⟨g0, rfl, rfl, g3, rfl⟩ | ⟨g0, rfl, rfl, rfl⟩ | ⟨g0, g1, rfl, rfl, g4, rfl⟩ | ⟨g0, g1, rfl, rfl, g4, rfl⟩ | ⟨g0, g1, rfl, rfl, rfl⟩ | ⟨g0, g1, g2, rfl, rfl, g5, rfl⟩ | ⟨g0, g1, g2, rfl, rfl, g5, rfl⟩ | ⟨g0, g1, g2, rfl, rfl, rfl⟩ | ⟨g0, g1, g2, g3, rfl, g5, g6, rfl⟩ | ⟨g0, g1, g2, g3, rfl, g5, g6, rfl⟩ | ⟨g0, g1, g2, g3, rfl, g5, rfl⟩ | ⟨g0, g1, g2, g3, g4, rfl⟩
  all_goals
   go_wp2_with ((with_reducible refine g_ld ?_); refine a_ld HM ?_)
   go_ret
   exact ⟨rfl, HM.low⟩
theorem ocheck_any (x : JO) (hw : x.wf) (w : World) :
    Calls Tryz.prog 93 #[.agg x.c] w fun e w' => e = .returned (.int .i64 (if (x.right) = true then 0 else 230)) ∧ Below w.heap.size w w' := by
 have HM := Mem.start w
 have lx := x.la
 have f0 := (JO.f_key x).la
 have f1 := (JO.f_acc x).la
 have f2 := (JO.f_fnd x).la
 have f3 := (JO.f_cls x).la
 have f7 := (JO.f_at_ x).la
 have f8 := (JO.f_kn x).la
 have f9 := (JO.f_vd x).la
 have E1 := JO.eq9 x { JO.zero with key := x.key, at_ := x.at_, kn := x.kn, vd := true }
 have HB := fun w => JO.bld (parts := #[(0, .string x.key), (7, .int .i64 x.at_), (8, .int .i64 x.kn), (9, .bool true)]) (r := { JO.zero with key := x.key, at_ := x.at_, kn := x.kn, vd := true }) (by simp [Value.cells]) (by rw [JO.rows]; rfl) w
 generalize JO.c { JO.zero with key := x.key, at_ := x.at_, kn := x.kn, vd := true } = Y9 at E1 HB
 have HV : Hid (x.right = ((name x.key && (decide (0 ≤ x.at_) && (decide (x.at_ ≤ 105190559) && known x.kn))) && (if x.vd then JO.b x { JO.zero with key := x.key, at_ := x.at_, kn := x.kn, vd := true } else JK.right x.acc && (name x.fnd && (name x.cls && x.asked))))) := Zi rfl
 generalize x.right = v at HV ⊢
 have C1 := fun w => oname_any x.key (by have := hw; simp only [JO.wf, JK.wf] at this; omega) w
 have C2 := fun w => oacc_any x.acc hw.2.1 w
 have C3 := fun w => oname_any x.fnd (by have := hw; simp only [JO.wf, JK.wf] at this; omega) w
 have C4 := fun w => oname_any x.cls (by have := hw; simp only [JO.wf, JK.wf] at this; omega) w
 have C5 := fun w => oasked_any x w
 have C7 := fun w => owithin_any x.kn 2147483647 (known x.kn) (Zi rfl) w
 generalize name x.key = b1 at *
 generalize JK.right x.acc = b2 at *
 generalize name x.fnd = b3 at *
 generalize name x.cls = b4 at *
 generalize x.asked = b5 at *
 generalize JO.b x { JO.zero with key := x.key, at_ := x.at_, kn := x.kn, vd := true } = b6 at *
 generalize known x.kn = b7 at *
 generalize x.vd = vd at HV f9
 have hc : (b1 = true ∧ 0 ≤ x.at_ ∧ x.at_ ≤ 105190559 ∧ b7 = true ∧ vd = true ∧ b6 = true ∧ true = v) ∨
     (b1 = true ∧ 0 ≤ x.at_ ∧ x.at_ ≤ 105190559 ∧ b7 = true ∧ vd = true ∧ b6 = false ∧ false = v) ∨
     (b1 = true ∧ 0 ≤ x.at_ ∧ x.at_ ≤ 105190559 ∧ b7 = true ∧ vd = false ∧ b2 = true ∧ b3 = true ∧ b4 = true ∧ b5 = true ∧ true = v) ∨
     (b1 = true ∧ 0 ≤ x.at_ ∧ x.at_ ≤ 105190559 ∧ b7 = true ∧ vd = false ∧ b2 = true ∧ b3 = true ∧ b4 = true ∧ b5 = false ∧ false = v) ∨
     (b1 = true ∧ 0 ≤ x.at_ ∧ x.at_ ≤ 105190559 ∧ b7 = true ∧ vd = false ∧ b2 = true ∧ b3 = true ∧ b4 = false ∧ false = v) ∨
     (b1 = true ∧ 0 ≤ x.at_ ∧ x.at_ ≤ 105190559 ∧ b7 = true ∧ vd = false ∧ b2 = true ∧ b3 = false ∧ false = v) ∨
     (b1 = true ∧ 0 ≤ x.at_ ∧ x.at_ ≤ 105190559 ∧ b7 = true ∧ vd = false ∧ b2 = false ∧ false = v) ∨
     (b1 = true ∧ 0 ≤ x.at_ ∧ x.at_ ≤ 105190559 ∧ b7 = false ∧ false = v) ∨
     (b1 = true ∧ 0 ≤ x.at_ ∧ ¬ (x.at_ ≤ 105190559) ∧ false = v) ∨
     (b1 = true ∧ ¬ (0 ≤ x.at_) ∧ false = v) ∨
     (b1 = false ∧ false = v) := by
  clear HM C1 C2 C3 C4 C5 C7
  cases b1 with
  | true =>
   by_cases h1 : 0 ≤ x.at_
   ·skip
    by_cases h2 : x.at_ ≤ 105190559
    ·skip
     cases b7 with
     | true =>
      cases vd with
      | true =>
       cases b6 with
       | true =>
        exact .inl (⟨rfl, h1, h2, rfl, rfl, rfl, by rw [HV.out]; simp [h1, h2]⟩)
       | false =>
        exact .inr (.inl (⟨rfl, h1, h2, rfl, rfl, rfl, by rw [HV.out]; simp [h1, h2]⟩))
      | false =>
       cases b2 with
       | true =>
        cases b3 with
        | true =>
         cases b4 with
         | true =>
          cases b5 with
          | true =>
           exact .inr (.inr (.inl (⟨rfl, h1, h2, rfl, rfl, rfl, rfl, rfl, rfl, by rw [HV.out]; simp [h1, h2]⟩)))
          | false =>
           exact .inr (.inr (.inr (.inl (⟨rfl, h1, h2, rfl, rfl, rfl, rfl, rfl, rfl, by rw [HV.out]; simp [h1, h2]⟩))))
         | false =>
          exact Zr (.inl (⟨rfl, h1, h2, rfl, rfl, rfl, rfl, rfl, by rw [HV.out]; simp [h1, h2]⟩))
        | false =>
         exact Zr (.inr (.inl (⟨rfl, h1, h2, rfl, rfl, rfl, rfl, by rw [HV.out]; simp [h1, h2]⟩)))
       | false =>
        exact Zr (.inr (.inr (.inl (⟨rfl, h1, h2, rfl, rfl, rfl, by rw [HV.out]; simp [h1, h2]⟩))))
     | false =>
      exact Zr (.inr (.inr (.inr (.inl (⟨rfl, h1, h2, rfl, by rw [HV.out]; simp [h1, h2]⟩)))))
    ·skip
     exact Zr (Zr (.inl (⟨rfl, h1, h2, by rw [HV.out]; simp [h1, h2]⟩)))
   ·skip
    exact Zr (Zr (.inr (.inl (⟨rfl, h1, by rw [HV.out]; simp [h1]⟩))))
  | false =>
   exact Zr (Zr (.inr (.inr (⟨rfl, by rw [HV.out]; simp⟩))))
 clear HV
 rcases hc with ⟨rfl, g1, g2, rfl, rfl, rfl, rfl⟩ | ⟨rfl, g1, g2, rfl, rfl, rfl, rfl⟩ | ⟨rfl, g1, g2, rfl, rfl, rfl, rfl, rfl, rfl, rfl⟩ | ⟨rfl, g1, g2, rfl, rfl, rfl, rfl, rfl, rfl, rfl⟩ | ⟨rfl, g1, g2, rfl, rfl, rfl, rfl, rfl, rfl⟩ | ⟨rfl, g1, g2, rfl, rfl, rfl, rfl, rfl⟩ | ⟨rfl, g1, g2, rfl, rfl, rfl, rfl⟩ | ⟨rfl, g1, g2, rfl, rfl⟩ | ⟨rfl, g1, g2, rfl⟩ | ⟨rfl, g1, rfl⟩ | ⟨rfl, rfl⟩
 all_goals
  go_enter Tryz.func93, Tryz.ntmps93
  go_wp2_with (first | ((with_reducible refine g_offw ?_); refine a_offw ?_) | ((first | (go_at_call 63; with_reducible refine (C1 _).mono ?_) | (go_at_call 94; with_reducible refine (C2 _).mono ?_) | (go_at_call 63; with_reducible refine (C3 _).mono ?_) | (go_at_call 63; with_reducible refine (C4 _).mono ?_) | (go_at_call 122; with_reducible refine (C5 _).mono ?_) | (go_at_call 121; with_reducible refine (C7 _).mono ?_)); rintro e9 w2 ⟨rfl, hL⟩; replace HM := HM.call hL; clear hL) | ((with_reducible refine g_bld ?_); refine a_rbl (v := .agg Y9) ?_ (hy := h_bg4 rfl Zw Zw Zw Zw (by with_reducible exact (HB)))) | ((with_reducible refine g_bin ?_); refine a_seqb (E1) Zk ?_) | ((with_reducible refine g_ld ?_); refine a_ld HM ?_) | ((with_reducible refine g_bx ?_); refine a_bx HM ?_; clear HM; intro bk w1 HM))
  go_ret
  exact ⟨rfl, HM.low⟩
end
section
open Jb
theorem isDay_w (n : Int) : Dt.isDay n = (decide (0 ≤ n) && decide (n ≤ 73048)) := by unfold Dt.isDay; exact Bool.decide_and _ _
end
section
open Jb
theorem rcheck23_any (x : JO) (hw : x.wf) (w : World) :
    Calls Tryz.prog 34 #[.agg x.c] w fun e w' => e = .returned (.int .i64 (if (x.right) = true then 0 else 230)) ∧ Below w.heap.size w w' := by
 have HM := Mem.start w
 have lx := x.la
 have f0 := (JO.f_key x).la
 have f1 := (JO.f_acc x).la
 have f2 := (JO.f_fnd x).la
 have f3 := (JO.f_cls x).la
 have f7 := (JO.f_at_ x).la
 have f8 := (JO.f_kn x).la
 have f9 := (JO.f_vd x).la
 have E1 := JO.eq9 x { JO.zero with key := x.key, at_ := x.at_, kn := x.kn, vd := true }
 have HB := fun w => JO.bld (parts := #[(0, .string x.key), (7, .int .i64 x.at_), (8, .int .i64 x.kn), (9, .bool true)]) (r := { JO.zero with key := x.key, at_ := x.at_, kn := x.kn, vd := true }) (by simp [Value.cells]) (by rw [JO.rows]; rfl) w
 generalize JO.c { JO.zero with key := x.key, at_ := x.at_, kn := x.kn, vd := true } = Y9 at E1 HB
 have HV : Hid (x.right = ((name x.key && (decide (0 ≤ x.at_) && (decide (x.at_ ≤ 105190559) && (decide (1 ≤ x.kn) && decide (x.kn ≤ 2147483647))))) && (if x.vd then JO.b x { JO.zero with key := x.key, at_ := x.at_, kn := x.kn, vd := true } else JK.right x.acc && (name x.fnd && (name x.cls && x.asked))))) := Zi rfl
 generalize x.right = v at HV ⊢
 have C1 := fun w => rname23_any x.key w
 have C2 := fun w => racc_any x.acc hw.2.1 w
 have C3 := fun w => rname23_any x.fnd w
 have C4 := fun w => rname23_any x.cls w
 have C5 := fun w => rasked_any x w
 generalize name x.key = b1 at *
 generalize JK.right x.acc = b2 at *
 generalize name x.fnd = b3 at *
 generalize name x.cls = b4 at *
 generalize x.asked = b5 at *
 generalize JO.b x { JO.zero with key := x.key, at_ := x.at_, kn := x.kn, vd := true } = b6 at *
 generalize x.vd = vd at HV f9
 have hc : (vd = true ∧ b1 = true ∧ 0 ≤ x.at_ ∧ x.at_ ≤ 105190559 ∧ 1 ≤ x.kn ∧ x.kn ≤ 2147483647 ∧ b6 = true ∧ true = v) ∨
     (vd = true ∧ b1 = true ∧ 0 ≤ x.at_ ∧ x.at_ ≤ 105190559 ∧ 1 ≤ x.kn ∧ x.kn ≤ 2147483647 ∧ b6 = false ∧ false = v) ∨
     (vd = true ∧ b1 = true ∧ 0 ≤ x.at_ ∧ x.at_ ≤ 105190559 ∧ 1 ≤ x.kn ∧ ¬ (x.kn ≤ 2147483647) ∧ false = v) ∨
     (vd = true ∧ b1 = true ∧ 0 ≤ x.at_ ∧ x.at_ ≤ 105190559 ∧ ¬ (1 ≤ x.kn) ∧ false = v) ∨
     (vd = true ∧ b1 = true ∧ 0 ≤ x.at_ ∧ ¬ (x.at_ ≤ 105190559) ∧ false = v) ∨
     (vd = true ∧ b1 = true ∧ ¬ (0 ≤ x.at_) ∧ false = v) ∨
     (vd = true ∧ b1 = false ∧ false = v) ∨
     (vd = false ∧ b1 = true ∧ 0 ≤ x.at_ ∧ x.at_ ≤ 105190559 ∧ 1 ≤ x.kn ∧ x.kn ≤ 2147483647 ∧ b2 = true ∧ b3 = true ∧ b4 = true ∧ b5 = true ∧ true = v) ∨
     (vd = false ∧ b1 = true ∧ 0 ≤ x.at_ ∧ x.at_ ≤ 105190559 ∧ 1 ≤ x.kn ∧ x.kn ≤ 2147483647 ∧ b2 = true ∧ b3 = true ∧ b4 = true ∧ b5 = false ∧ false = v) ∨
     (vd = false ∧ b1 = true ∧ 0 ≤ x.at_ ∧ x.at_ ≤ 105190559 ∧ 1 ≤ x.kn ∧ x.kn ≤ 2147483647 ∧ b2 = true ∧ b3 = true ∧ b4 = false ∧ false = v) ∨
     (vd = false ∧ b1 = true ∧ 0 ≤ x.at_ ∧ x.at_ ≤ 105190559 ∧ 1 ≤ x.kn ∧ x.kn ≤ 2147483647 ∧ b2 = true ∧ b3 = false ∧ false = v) ∨
     (vd = false ∧ b1 = true ∧ 0 ≤ x.at_ ∧ x.at_ ≤ 105190559 ∧ 1 ≤ x.kn ∧ x.kn ≤ 2147483647 ∧ b2 = false ∧ false = v) ∨
     (vd = false ∧ b1 = true ∧ 0 ≤ x.at_ ∧ x.at_ ≤ 105190559 ∧ 1 ≤ x.kn ∧ ¬ (x.kn ≤ 2147483647) ∧ false = v) ∨
     (vd = false ∧ b1 = true ∧ 0 ≤ x.at_ ∧ x.at_ ≤ 105190559 ∧ ¬ (1 ≤ x.kn) ∧ false = v) ∨
     (vd = false ∧ b1 = true ∧ 0 ≤ x.at_ ∧ ¬ (x.at_ ≤ 105190559) ∧ false = v) ∨
     (vd = false ∧ b1 = true ∧ ¬ (0 ≤ x.at_) ∧ false = v) ∨
     (vd = false ∧ b1 = false ∧ false = v) := by
  clear HM C1 C2 C3 C4 C5
  cases vd with
  | true =>
   cases b1 with
   | true =>
    by_cases h1 : 0 ≤ x.at_
    ·skip
     by_cases h2 : x.at_ ≤ 105190559
     ·skip
      by_cases h3 : 1 ≤ x.kn
      ·skip
       by_cases h4 : x.kn ≤ 2147483647
       ·skip
        cases b6 with
        | true =>
         exact .inl (⟨rfl, rfl, h1, h2, h3, h4, rfl, by rw [HV.out]; simp [h1, h2, h3, h4]⟩)
        | false =>
         exact .inr (.inl (⟨rfl, rfl, h1, h2, h3, h4, rfl, by rw [HV.out]; simp [h1, h2, h3, h4]⟩))
       ·skip
        exact .inr (.inr (.inl (⟨rfl, rfl, h1, h2, h3, h4, by rw [HV.out]; simp [h1, h2, h3, h4]⟩)))
      ·skip
       exact .inr (.inr (.inr (.inl (⟨rfl, rfl, h1, h2, h3, by rw [HV.out]; simp [h1, h2, h3]⟩))))
     ·skip
      exact Zr (.inl (⟨rfl, rfl, h1, h2, by rw [HV.out]; simp [h1, h2]⟩))
    ·skip
     exact Zr (.inr (.inl (⟨rfl, rfl, h1, by rw [HV.out]; simp [h1]⟩)))
   | false =>
    exact Zr (.inr (.inr (.inl (⟨rfl, rfl, by rw [HV.out]; simp⟩))))
  | false =>
   cases b1 with
   | true =>
    by_cases h5 : 0 ≤ x.at_
    ·skip
     by_cases h6 : x.at_ ≤ 105190559
     ·skip
      by_cases h7 : 1 ≤ x.kn
      ·skip
       by_cases h8 : x.kn ≤ 2147483647
       ·skip
        cases b2 with
        | true =>
         cases b3 with
         | true =>
          cases b4 with
          | true =>
           cases b5 with
           | true =>
            exact Zr (.inr (.inr (.inr (.inl (⟨rfl, rfl, h5, h6, h7, h8, rfl, rfl, rfl, rfl, by rw [HV.out]; simp [h5, h6, h7, h8]⟩)))))
           | false =>
            exact Zr (Zr (.inl (⟨rfl, rfl, h5, h6, h7, h8, rfl, rfl, rfl, rfl, by rw [HV.out]; simp [h5, h6, h7, h8]⟩)))
          | false =>
           exact Zr (Zr (.inr (.inl (⟨rfl, rfl, h5, h6, h7, h8, rfl, rfl, rfl, by rw [HV.out]; simp [h5, h6, h7, h8]⟩))))
         | false =>
          exact Zr (Zr (.inr (.inr (.inl (⟨rfl, rfl, h5, h6, h7, h8, rfl, rfl, by rw [HV.out]; simp [h5, h6, h7, h8]⟩)))))
        | false =>
         exact Zr (Zr (.inr (.inr (.inr (.inl (⟨rfl, rfl, h5, h6, h7, h8, rfl, by rw [HV.out]; simp [h5, h6, h7, h8]⟩))))))
       ·skip
        exact Zr (Zr (Zr (.inl (⟨rfl, rfl, h5, h6, h7, h8, by rw [HV.out]; simp [h5, h6, h7, h8]⟩))))
      ·skip
       exact Zr (Zr (Zr (.inr (.inl (⟨rfl, rfl, h5, h6, h7, by rw [HV.out]; simp [h5, h6, h7]⟩)))))
     ·skip
      exact Zr (Zr (Zr (.inr (.inr (.inl (⟨rfl, rfl, h5, h6, by rw [HV.out]; simp [h5, h6]⟩))))))
    ·skip
     exact Zr (Zr (Zr (.inr (.inr (.inr (.inl (⟨rfl, rfl, h5, by rw [HV.out]; simp [h5]⟩)))))))
   | false =>
    exact Zr (Zr (Zr (Zr (⟨rfl, rfl, by rw [HV.out]; simp⟩))))
 clear HV
 rcases hc with ⟨rfl, rfl, g2, g3, g4, g5, rfl, rfl⟩ | ⟨rfl, rfl, g2, g3, g4, g5, rfl, rfl⟩ | ⟨rfl, rfl, g2, g3, g4, g5, rfl⟩ | ⟨rfl, rfl, g2, g3, g4, rfl⟩ | ⟨rfl, rfl, g2, g3, rfl⟩ | ⟨rfl, rfl, g2, rfl⟩ | ⟨rfl, rfl, rfl⟩ | ⟨rfl, rfl, g2, g3, g4, g5, rfl, rfl, rfl, rfl, rfl⟩ | ⟨rfl, rfl, g2, g3, g4, g5, rfl, rfl, rfl, rfl, rfl⟩ | ⟨rfl, rfl, g2, g3, g4, g5, rfl, rfl, rfl, rfl⟩ | ⟨rfl, rfl, g2, g3, g4, g5, rfl, rfl, rfl⟩ | ⟨rfl, rfl, g2, g3, g4, g5, rfl, rfl⟩ | ⟨rfl, rfl, g2, g3, g4, g5, rfl⟩ | ⟨rfl, rfl, g2, g3, g4, rfl⟩ | ⟨rfl, rfl, g2, g3, rfl⟩ | ⟨rfl, rfl, g2, rfl⟩ | ⟨rfl, rfl, rfl⟩
 all_goals
  go_enter Tryz.func34, Tryz.ntmps34
  go_wp2_with (first | ((with_reducible refine g_offw ?_); refine a_offw ?_) | ((first | (go_at_call 53; with_reducible refine (C1 _).mono ?_) | (go_at_call 54; with_reducible refine (C2 _).mono ?_) | (go_at_call 53; with_reducible refine (C3 _).mono ?_) | (go_at_call 53; with_reducible refine (C4 _).mono ?_) | (go_at_call 55; with_reducible refine (C5 _).mono ?_)); rintro e9 w2 ⟨rfl, hL⟩; replace HM := HM.call hL; clear hL) | ((with_reducible refine g_bld ?_); refine a_rbl (v := .agg Y9) ?_ (hy := h_bg4 rfl Zw Zw Zw Zw (by with_reducible exact (HB)))) | ((with_reducible refine g_bin ?_); refine a_seqb (E1) Zk ?_) | ((with_reducible refine g_ld ?_); refine a_ld HM ?_) | ((with_reducible refine g_bx ?_); refine a_bx HM ?_; clear HM; intro bk w1 HM))
  go_ret
  exact ⟨rfl, HM.low⟩
end
end Go.Proofs.YtkiempioeffhbaaGreatDoor
