/- Walks. -/
import Derived.Laws.RangeAny
import Derived.Test.YtkiempioeffhbaaGreatDoorPt18
import Derived.Test.YtkiempioeffhbaaGreatDoorPt19
import Derived.Test.YtkiempioeffhbaaGreatDoorPt21
namespace Go.Proofs.YtkiempioeffhbaaGreatDoor
set_option maxHeartbeats 16000000
open Go.RowKit
set_option maxRecDepth 8000
section
namespace Jb
def cap (c : Nat) : Bool := decide (65 ≤ c) && decide (c ≤ 90)
def dig (c : Nat) : Bool := decide (48 ≤ c) && decide (c ≤ 57)
def low (c : Nat) : Bool := decide (97 ≤ c) && decide (c ≤ 122)
def byt (s : ByteArray) (i : Nat) : Nat := if h : i < s.size then s[i].toNat else 0
theorem byt_at {s : ByteArray} {i : Nat} (h : i < s.size) : byt s i = s[i].toNat := dif_pos h
def okc (d : Bool) (i c : Nat) : Bool := cap c || (d && (decide (i ≠ 0) && dig c))
def okn (i c : Nat) : Bool := low c || (decide (i ≠ 0) && dig c)
def all (f : Nat → Nat → Bool) (s : ByteArray) : Bool := (List.range s.size).all fun i => f i (byt s i)
theorem all_iff {f : Nat → Nat → Bool} {s : ByteArray} : all f s = true ↔ ∀ i, i < s.size → f i (byt s i) = true := by
 unfold all; rw [List.all_eq_true]
 exact ⟨fun h i hi => h i (List.mem_range.2 hi), fun h i hi => h i (List.mem_range.1 hi)⟩
theorem all_no {f : Nat → Nat → Bool} {s : ByteArray} {i : Nat} (hi : i < s.size) (h : f i (byt s i) = false) : all f s = false := by
 cases e : all f s with
 | false => rfl
 | true => rw [all_iff.1 e i hi] at h; cases h
def paper (s : ByteArray) : Bool := decide (1 ≤ s.size) && (decide (s.size ≤ 12) && all (okc true) s)
def code (s : ByteArray) : Bool := decide (s.size = 3) && all (okc false) s
def name (s : ByteArray) : Bool := decide (1 ≤ s.size) && (decide (s.size ≤ 16) && all okn s)
def known (n : Int) : Bool := decide (1 ≤ n) && decide (n ≤ 2147483647)
def Price (r : Rr) (x : Rat) : Prop := Rt.Vc (some x) r.c ∧ Ac.Txt x ∧ 0 ≤ x ∧ x ≤ ((1000000000 : Int) : Rat)
open Classical in
noncomputable def price (r : Rr) : Bool := decide (∃ x, Price r x)
def rat0 : Rr := ⟨false, 0, false, 1, Bg.ppos 32, by rw [Bg.lim]; decide +kernel⟩
end Jb
open Jb
noncomputable def JQ.right (q : JQ) : Bool := Nm.usableB q.src && (paper q.ins && (code q.cur && (Dt.isDay q.day && (known q.kn && (if q.vd then Rr.b q.prc Rr.zero else (price q.prc && !Rr.b q.prc rat0))))))
def Jb.factor (n : Int) : Bool := decide (1 ≤ n) && decide (n ≤ 1000000)
noncomputable def JA.right (a : JA) : Bool := (decide (1 ≤ a.key.size) && (decide (a.key.size ≤ 64) && known a.kn)) && (if a.vd then JA.b a { JA.zero with key := a.key, kn := a.kn, vd := true }
 else (paper a.ins && (Dt.isDay a.day && (price a.csh && code a.cur))) && (if a.kd = 1 then decide (a.into.size = 0) && (factor a.nm && factor a.dn) else if a.kd = 2 then decide (a.into.size = 0) && (decide (a.nm = 0) && (decide (a.dn = 0) && !Rr.b a.csh rat0)) else if a.kd = 3 then paper a.into && (!(a.into == a.ins) && (factor a.nm && factor a.dn)) else false))
def JE.right (e : JE) : Bool := (decide (1 ≤ e.key.size) && (decide (e.key.size ≤ 64) && known e.kn)) && (if e.vd then JE.b e { JE.zero with key := e.key, kn := e.kn, vd := true }
 else (decide (0 ≤ e.day) && (decide (e.day ≤ e.stl) && (decide (e.stl ≤ 73048) && (decide (-1000000000000000 ≤ e.amt) && (decide (e.amt ≤ 1000000000000000) && code e.cur))))) && (if e.kd = 1 then paper e.ins && (decide (e.qty ≠ 0) && (decide (-1000000000000000 ≤ e.qty) && decide (e.qty ≤ 1000000000000000))) else if e.kd = 2 then decide (e.ins.size = 0) && decide (e.qty = 0) else false))
def JK.right (k : JK) : Bool := name k.hol && (decide (k.nom.size = 0) || name k.nom)
def Jb.amount (n : Int) : Bool := decide (1 ≤ n) && decide (n ≤ 1000000000000000)
def JO.asked (o : JO) : Bool := if o.kd = 1 ∨ o.kd = 4 then amount o.amt && decide (o.un = 0) else if o.kd = 2 ∨ o.kd = 3 then amount o.un && decide (o.amt = 0) else if o.kd = 5 then decide (o.amt = 0) && decide (o.un = 0) else false
def JO.right (o : JO) : Bool := (name o.key && (decide (0 ≤ o.at_) && (decide (o.at_ ≤ 105190559) && known o.kn))) && (if o.vd then JO.b o { JO.zero with key := o.key, at_ := o.at_, kn := o.kn, vd := true } else JK.right o.acc && (name o.fnd && (name o.cls && o.asked)))
def JT.right (t : JT) : Bool := (name t.key && known t.kn) && (if t.vd then JT.b t { JT.zero with key := t.key, kn := t.kn, vd := true } else name t.fnd && (name t.cls && (JK.right t.fr && (JK.right t.tw && (amount t.un && Dt.isDay t.day)))))
def JS.right (s : JS) : Bool := (name s.key && known s.kn) && (if s.vd then JS.b s { JS.zero with key := s.key, kn := s.kn, vd := true } else name s.fnd && (decide (0 ≤ s.fr) && (decide (s.fr ≤ 73048) && (decide (s.tl = 0) || (decide (s.fr ≤ s.tl) && decide (s.tl ≤ 73048))))))
def JR.only (r : JR) : JR :=
 let b : JR := { JR.zero with kd := r.kd, fnd := r.fnd }
 if r.kd = 1 then { b with q := r.q } else if r.kd = 2 then { b with a := r.a } else if r.kd = 3 then { b with e := r.e } else if r.kd = 4 then { b with o := r.o } else if r.kd = 5 then { b with t := r.t } else if r.kd = 6 then { b with s := r.s } else if r.kd = 7 ∨ r.kd = 8 then { b with day := r.day } else b
noncomputable def JR.kind (r : JR) : Bool := if r.kd = 1 then r.q.right else if r.kd = 2 then r.a.right else if r.kd = 3 then r.e.right else if r.kd = 4 then r.o.right else if r.kd = 5 then r.t.right else if r.kd = 6 then r.s.right else if r.kd = 7 ∨ r.kd = 8 then Dt.isDay r.day else false
noncomputable def JR.right (r : JR) : Bool := (if r.kd = 3 then name r.fnd else decide (r.fnd.size = 0)) && (JR.b r.only r && r.kind)
def JR.known (r : JR) (n : Int) : Int := if r.kd = 1 then r.q.kn else if r.kd = 2 then r.a.kn else if r.kd = 3 then r.e.kn else if r.kd = 4 then r.o.kn else if r.kd = 5 then r.t.kn else if r.kd = 6 then r.s.kn else n
noncomputable def Jb.chk : List JR → Nat → Int → Nat → Int
 | [], _, _, _ => 0
 | r :: l, i, last, c => if r.right then (if r.known ((i + 1 : Nat) : Int) = ((i + 1 : Nat) : Int) then (if r.kd = 8 ∧ last < r.day then 371 else if r.kd = 7 then (if r.day ≤ last ∨ 64 < c + 1 then 371 else Jb.chk l (i + 1) r.day (c + 1)) else Jb.chk l (i + 1) last c) else 371) else 370
noncomputable def Jb.check (L : List JR) : Int := if 4096 < L.length then 371 else chk L 0 (-1) 0
noncomputable def Jb.err (L : List JR) (k : Int) : Int := if Jb.check L = 0 then (if Jb.known k then 0 else 240) else Jb.check L
def Jb.upto (L : List JR) (k kd : Int) : List JR := (L.take k.toNat).filter fun r => decide (r.kd = kd)
def Jb.clo : List JR → Nat → List JC → List JC
 | [], _, out => out
 | r :: l, i, out => if r.kd = 7 then clo l (i + 1) (out ++ [⟨r.day, ((i + 1 : Nat) : Int), ((i + 1 : Nat) : Int)⟩]) else if r.kd = 8 then clo l (i + 1) (out.map fun c => if r.day ≤ c.day then { c with as_ := ((i + 1 : Nat) : Int) } else c) else clo l (i + 1) out
end
section
theorem z9_89 {P : Prop} (h : P := by
 by_cases h : i = 0
 ·subst h; rfl
 ·rw [Zf h]; exact Zb Zo) : P := h
theorem z9_90 {P : Prop} (h : P := by
 subst c2
 go_wp2
 go_ret
 rw [HV.out]; exact ⟨rfl, rfl⟩) : P := h
theorem z9_91 {P : Prop} (h : P := by
 go_wp2
 go_loop [9, 12] (fun _ t => ∃ k : Nat, k ≤ s.size ∧ t = .int .i64 k ∧ Hid (∀ j, j < k → okc d j (byt s j) = true)) (fun _ t => s.size - (intOf t).toNat)
 case atStart => exact ⟨0, by omega, rfl, Zi fun j h => by omega⟩
 case round =>
  obtain ⟨k, hk, rfl, HO⟩ := hrel
  by_cases hlt : k < s.size
  ·have hbk := byt_at hlt
   rcases okc_cases d k s[k].toNat with ⟨ho, hc⟩ | ⟨ho, hc⟩
   ·have HA : Hid (okc d k (byt s k) = true) := Zi (by rw [hbk]; exact ho)
    clear ho hbk
    rcases hc with ⟨c1, c2⟩ | ⟨c1, c2, c3, c4, c5⟩
    case' inr => subst c2
    all_goals
     go_wp2
     go_round
     case rel => exact ⟨k + 1, by omega, by go_num, Zi fun j hj => by
      by_cases e : j = k
      ·subst e; exact HA.out
      ·exact HO.out j Zo⟩
     case measure => simp [intOf]; omega
   ·have HV : Hid (v = false) := Zi (by rw [hv.out, all_no hlt (by rw [hbk]; exact ho), Bool.and_false, Bool.and_false])
    clear ho hbk
    rcases hc with ⟨c1, c2 | ⟨c0, c2 | ⟨c2, c3 | ⟨c3, c4⟩⟩⟩⟩ | ⟨c0, c1, c2 | ⟨c9, c2 | ⟨c2, c3, c4⟩⟩⟩
    ·subst c2
     go_wp2
     go_ret
     rw [HV.out]; exact ⟨rfl, rfl⟩
    ·subst c2 c0
     go_wp2
     go_ret
     rw [HV.out]; exact ⟨rfl, rfl⟩
    ·subst c0
     go_wp2
     go_ret
     rw [HV.out]; exact ⟨rfl, rfl⟩
    ·subst c0
     go_wp2
     go_ret
     rw [HV.out]; exact ⟨rfl, rfl⟩
    ·subst c2
     go_wp2
     go_ret
     rw [HV.out]; exact ⟨rfl, rfl⟩
    ·subst c2 c9
     go_wp2
     go_ret
     rw [HV.out]; exact ⟨rfl, rfl⟩
    ·subst c9
     go_wp2
     go_ret
     rw [HV.out]; exact ⟨rfl, rfl⟩
  ·have HV : Hid (v = (decide (least ≤ (s.size : Int)) && decide ((s.size : Int) ≤ most))) := Zi (by rw [hv.out, all_iff.2 (fun i hi => HO.out i Zo), Bool.and_true])
   by_cases g1 : least ≤ (s.size : Int)
   ·by_cases g2 : (s.size : Int) ≤ most
    ·have HF : Hid (v = true) := Zi (by rw [HV.out, Zt g1, Zt g2]; rfl)
     go_wp2
     go_ret
     rw [HF.out]; exact ⟨rfl, rfl⟩
    ·have HF : Hid (v = false) := Zi (by rw [HV.out, Zt g1, Zf g2]; rfl)
     go_wp2
     go_ret
     rw [HF.out]; exact ⟨rfl, rfl⟩
   ·have HF : Hid (v = false) := Zi (by rw [HV.out, Zf g1]; rfl)
    go_wp2
    go_ret
    rw [HF.out]; exact ⟨rfl, rfl⟩) : P := h
theorem z9_92 {P : Prop} (h : P := by
 subst hv
 clear hck hbk C0 CP
 go_wp2_with (go_at_call 155; refine (CK _).mono ?_; rintro e w' ⟨rfl, rfl⟩)
 go_ret
 exact ⟨rfl, rfl⟩) : P := h
end
section
open Jb
theorem Jb.okc_cases (d : Bool) (i c : Nat) :
    (okc d i c = true ∧ ((¬ ((c : Int) < 65) ∧ ¬ (90 < (c : Int))) ∨ ((c : Int) < 65 ∧ d = true ∧ ((i : Int) == 0) = false ∧ ¬ ((c : Int) < 48) ∧ ¬ (57 < (c : Int))))) ∨
    (okc d i c = false ∧ (((c : Int) < 65 ∧ (d = false ∨ (d = true ∧ (i = 0 ∨ (((i : Int) == 0) = false ∧ ((c : Int) < 48 ∨ (¬ ((c : Int) < 48) ∧ 57 < (c : Int)))))))) ∨ (¬ ((c : Int) < 65) ∧ 90 < (c : Int) ∧ (d = false ∨ (d = true ∧ (i = 0 ∨ (((i : Int) == 0) = false ∧ ¬ ((c : Int) < 48) ∧ 57 < (c : Int)))))))) := by
 unfold okc cap dig
 have hb : ((i : Int) == 0) = decide (i = 0) := by
  exact z9_89
 rw [hb]
 cases d <;> by_cases h0 : i = 0 <;> by_cases h1 : c < 65 <;> by_cases h2 : 90 < c <;> by_cases h3 : c < 48 <;> by_cases h4 : 57 < c <;> simp_all <;> omega
theorem qcap_any (s : ByteArray) (hs : s.size ≤ 9223372036854775807) (v : Bool) (hv : Hid (v = (decide (1 ≤ s.size) && Jb.all (okc true) s))) (w : World) :
    Calls Tryz.prog 140 #[.string s] w fun e w' => e = .returned (.bool v) ∧ w = w' := by
 go_enter Tryz.func140, Tryz.ntmps140
 go_wp2
 go_loop [3, 6] (fun _ t => ∃ k : Nat, k ≤ s.size ∧ t = .int .i64 k ∧ Hid (∀ j, j < k → okc true j (byt s j) = true)) (fun _ t => s.size - (intOf t).toNat)
 case atStart => exact ⟨0, by omega, rfl, Zi fun j h => by omega⟩
 case round =>
  obtain ⟨k, hk, rfl, HO⟩ := hrel
  by_cases hlt : k < s.size
  ·have hbk := byt_at hlt
   rcases okc_cases true k s[k].toNat with ⟨ho, hc⟩ | ⟨ho, hc⟩
   ·have HA : Hid (okc true k (byt s k) = true) := Zi (by rw [hbk]; exact ho)
    clear ho hbk
    rcases hc with ⟨c1, c2⟩ | ⟨c1, -, c3, c4, c5⟩
    all_goals
     go_wp2
     go_round
     case rel => exact ⟨k + 1, by omega, by go_num, Zi fun j hj => by
      by_cases e : j = k
      ·subst e; exact HA.out
      ·exact HO.out j Zo⟩
     case measure => simp [intOf]; omega
   ·have HV : Hid (v = false) := Zi (by rw [hv.out, all_no hlt (by rw [hbk]; exact ho), Bool.and_false])
    clear ho hbk
    rcases hc with ⟨c1, c2 | ⟨-, c2 | ⟨c2, c3 | ⟨c3, c4⟩⟩⟩⟩ | ⟨c0, c1, c2 | ⟨-, c2 | ⟨c2, c3, c4⟩⟩⟩
    ·cases c2
    ·exact z9_90
    ·go_wp2
     go_ret
     rw [HV.out]; exact ⟨rfl, rfl⟩
    ·go_wp2
     go_ret
     rw [HV.out]; exact ⟨rfl, rfl⟩
    ·cases c2
    ·exact z9_90
    ·go_wp2
     go_ret
     rw [HV.out]; exact ⟨rfl, rfl⟩
  ·have HV : Hid (v = decide (1 ≤ s.size)) := Zi (by rw [hv.out, all_iff.2 (fun i hi => HO.out i Zo), Bool.and_true])
   by_cases h0 : s.size = 0
   ·have hl : s.toList.isEmpty = true := by
      rw [Lib.toList_data]
      have : s.data.toList.length = 0 := by rw [Array.length_toList]; exact h0
      cases e : s.data.toList with
      | nil => rfl
      | cons a l => rw [e] at this; simp at this
    have HF : Hid (v = false) := Zi (by rw [HV.out]; exact Zf Zo)
    clear h0
    go_wp2
    go_ret
    rw [HF.out]; exact ⟨rfl, rfl⟩
   ·have hl : s.toList.isEmpty = false := by
      rw [Lib.toList_data]
      cases e : s.data.toList with
      | nil =>
       have : s.data.toList.length = 0 := by rw [e]; rfl
       rw [Array.length_toList] at this
       exact absurd this h0
      | cons a l => rfl
    have HF : Hid (v = true) := Zi (by rw [HV.out]; exact Zt Zo)
    clear h0
    go_wp2
    go_ret
    rw [HF.out]; exact ⟨rfl, rfl⟩
theorem acap_any (s : ByteArray) (least most : Int) (d : Bool) (hs : s.size ≤ 9223372036854775807) (v : Bool) (hv : Hid (v = (decide (least ≤ (s.size : Int)) && (decide ((s.size : Int) ≤ most) && Jb.all (okc d) s)))) (w : World) :
    Calls Tryz.prog 114 #[.string s, .int .i64 least, .int .i64 most, .bool d] w fun e w' => e = .returned (.bool v) ∧ w = w' := by
 go_enter Tryz.func114, Tryz.ntmps114
 exact z9_91
theorem pcap_any (s : ByteArray) (least most : Int) (d : Bool) (hs : s.size ≤ 9223372036854775807) (v : Bool) (hv : Hid (v = (decide (least ≤ (s.size : Int)) && (decide ((s.size : Int) ≤ most) && Jb.all (okc d) s)))) (w : World) :
    Calls Tryz.prog 147 #[.string s, .int .i64 least, .int .i64 most, .bool d] w fun e w' => e = .returned (.bool v) ∧ w = w' := by
 go_enter Tryz.func147, Tryz.ntmps147
 exact z9_91
theorem capital_any (x : Int) (v : Bool) (hv : Hid (v = decide (65 ≤ x ∧ x ≤ 90))) (w : World) :
    Calls Tryz.prog 155 #[.int .u8 x] w fun e w' => e = .returned (.bool v) ∧ w = w' := by
 go_enter Tryz.func155, Tryz.ntmps155
 by_cases h1 : 65 ≤ x
 ·by_cases h2 : x ≤ 90
  ·exact z9_11
  ·exact z9_12
 ·exact z9_13
theorem Jb.cap_d (c : Nat) : decide (65 ≤ ((c : Nat) : Int) ∧ ((c : Nat) : Int) ≤ 90) = cap c := by
 unfold cap
 by_cases h1 : 65 ≤ c <;> by_cases h2 : c ≤ 90 <;> simp [h1, h2] <;> omega
theorem Jb.okc_t (i c : Nat) : okc true i c = (cap c || (decide (i ≠ 0) && dig c)) := by unfold okc; simp
theorem rpaper_any (s : ByteArray) (w : World) :
    Calls Tryz.prog 130 #[.string s] w fun e w' => e = .returned (.bool (paper s)) ∧ w = w' := by
 have HP : Hid (paper s = (decide (1 ≤ s.size) && (decide (s.size ≤ 12) && Jb.all (okc true) s))) := Zi rfl
 generalize paper s = v at *
 by_cases h0 : s.size = 0
 ·have hv : v = false := by rw [HP.out, Zf Zo]; rfl
  subst hv
  have h1 : (s.size : Int) < 1 := by omega
  go_enter Tryz.func130, Tryz.ntmps130
  go_wp2
  go_ret
  exact ⟨rfl, rfl⟩
 have hz : 0 < s.size := by omega
 have h1 : ¬ (s.size : Int) < 1 := by omega
 by_cases h12 : 12 < s.size
 ·have hv : v = false := by rw [HP.out, Zf (show ¬ s.size ≤ 12 by omega)]; simp
  subst hv
  have h2 : (12 : Int) < s.size := by omega
  go_enter Tryz.func130, Tryz.ntmps130
  go_wp2
  go_ret
  exact ⟨rfl, rfl⟩
 have h2 : ¬ (12 : Int) < s.size := by omega
 have HQ : Hid (v = Jb.all (okc true) s) := Zi (by rw [HP.out, Zt (show 1 ≤ s.size by omega), Zt (show s.size ≤ 12 by omega)]; rfl)
 have CP := fun (c : Nat) w => capital_any (c : Int) (cap c) (Zi (cap_d c).symm) w
 cases hc0 : cap s[0].toNat with
 | false =>
  have hv : v = false := by
   rw [HQ.out]
   refine all_no hz ?_
   rw [byt_at hz, okc_t, hc0]; rfl
  subst hv
  have C0 := fun w => CP s[0].toNat w
  rw [hc0] at C0
  clear CP HP HQ
  go_enter Tryz.func130, Tryz.ntmps130
  go_wp2_with (go_at_call 155; refine (C0 _).mono ?_; rintro e w' ⟨rfl, rfl⟩)
  go_ret
  exact ⟨rfl, rfl⟩
 | true =>
  have C0 := fun w => CP s[0].toNat w
  rw [hc0] at C0
  have HC0 := Zi hc0
  clear HP hc0
  go_enter Tryz.func130, Tryz.ntmps130
  go_wp2_with (go_at_call 155; refine (C0 _).mono ?_; rintro e w' ⟨rfl, rfl⟩)
  go_loop [3] (fun t => ∃ k : Nat, k ≤ s.size ∧ t = .int .i64 k ∧ Hid (∀ j, j < k → okc true j (byt s j) = true)) (fun t => s.size - (intOf t).toNat)
  case atStart => exact ⟨0, by omega, rfl, Zi fun j h => by omega⟩
  case round =>
   obtain ⟨k, hk, rfl, HO⟩ := hrel
   by_cases hlt : k < s.size
   ·have hbk := byt_at hlt
    cases hck : cap s[k].toNat with
    | true =>
     have CK := fun w => CP s[k].toNat w
     rw [hck] at CK
     have HA : Hid (okc true k (byt s k) = true) := Zi (by rw [hbk, okc_t, hck]; rfl)
     clear hck hbk C0 CP
     go_wp2_with (go_at_call 155; refine (CK _).mono ?_; rintro e w' ⟨rfl, rfl⟩)
     go_round
     case rel => exact ⟨k + 1, by omega, by go_num, Zi fun j hj => by
      by_cases e : j = k
      ·subst e; exact HA.out
      ·exact HO.out j Zo⟩
     case measure => simp [intOf]; omega
    | false =>
     have CK := fun w => CP s[k].toNat w
     rw [hck] at CK
     by_cases g1 : (s[k].toNat : Int) < 48
     ·have hv : v = false := by
        rw [HQ.out]
        refine all_no hlt ?_
        rw [hbk, okc_t, hck]
        unfold dig
        rw [Zf (show ¬ 48 ≤ s[k].toNat by omega)]; simp
      exact z9_92
     by_cases g2 : 57 < (s[k].toNat : Int)
     ·have hv : v = false := by
        rw [HQ.out]
        refine all_no hlt ?_
        rw [hbk, okc_t, hck]
        unfold dig
        rw [Zf (show ¬ s[k].toNat ≤ 57 by omega)]; simp
      exact z9_92
     ·have hk0 : k ≠ 0 := fun e => by
        subst e
        rw [HC0.out] at hck
        cases hck
      have HA : Hid (okc true k (byt s k) = true) := Zi (by
       rw [hbk, okc_t, hck]
       unfold dig
       rw [Zt (show 48 ≤ s[k].toNat by omega), Zt (show s[k].toNat ≤ 57 by omega), Zt hk0]; rfl)
      clear hck hbk C0 CP hk0
      go_wp2_with (go_at_call 155; refine (CK _).mono ?_; rintro e w' ⟨rfl, rfl⟩)
      go_round
      case rel => exact ⟨k + 1, by omega, by go_num, Zi fun j hj => by
       by_cases e : j = k
       ·subst e; exact HA.out
       ·exact HO.out j Zo⟩
      case measure => simp [intOf]; omega
   ·have hv : v = true := by rw [HQ.out]; exact all_iff.2 (fun i hi => HO.out i Zo)
    subst hv
    clear C0 CP
    go_wp2
    go_ret
    exact ⟨rfl, rfl⟩
end
section
theorem z9_93 {P : Prop} (h : P := by
 obtain rfl : v = true := by rw [hv.out, Zf Zo, Zf Zo]; rfl
 go_wp2
 go_ret
 exact ⟨rfl, rfl⟩) : P := h
theorem z9_94 {P : Prop} (h : P := by
 go_enter Tryz.func63, Tryz.ntmps63
 go_wp2
 go_ret
 exact ⟨rfl, HM.low⟩) : P := h
theorem z9_95 {P : Prop} (h : P := by
 clear h0 h16
 go_enter Tryz.func63, Tryz.ntmps63
 go_wp2
 go_ret
 exact ⟨rfl, HM.low⟩) : P := h
end
section
open Jb
def Jb.okr (c : Nat) : Bool := low c || dig c
theorem Jb.okr_d (x : Nat) : (!(decide (97 ≤ (x : Int) ∧ (x : Int) ≤ 122) || decide (48 ≤ (x : Int) ∧ (x : Int) ≤ 57))) = !okr x := by
 unfold okr low dig
 by_cases h1 : 97 ≤ x <;> by_cases h2 : x ≤ 122 <;> by_cases h3 : 48 ≤ x <;> by_cases h4 : x ≤ 57 <;> simp [h1, h2, h3, h4] <;> omega
theorem nfn_any (x : Int) (v : Bool) (hv : Hid (v = !(decide (97 ≤ x ∧ x ≤ 122) || decide (48 ≤ x ∧ x ≤ 57)))) (w : World) :
    Calls Tryz.prog 77 #[.int .i32 x] w fun e w' => e = .returned (.bool v) ∧ w = w' := by
 go_enter Tryz.func77, Tryz.ntmps77
 have hc : (97 ≤ x ∧ x ≤ 122) ∨ (x < 48 ∧ x < 97) ∨ (¬ x < 48 ∧ ¬ 57 < x ∧ x < 97) ∨ (57 < x ∧ x < 97 ∧ ¬ x < 48) ∨ (122 < x ∧ ¬ x < 97 ∧ 57 < x ∧ ¬ x < 48) := by omega
 rcases hc with ⟨h1, h2⟩ | ⟨h1, h2⟩ | ⟨h1, h2, h3⟩ | ⟨h1, h2, h3⟩ | ⟨h1, h2, h3, h4⟩
 ·obtain rfl : v = false := by rw [hv.out, Zt ⟨h1, h2⟩]; rfl
  go_wp2
  go_ret
  exact ⟨rfl, rfl⟩
 ·exact z9_93
 ·obtain rfl : v = false := by rw [hv.out, Zf Zo, Zt Zo]; rfl
  go_wp2
  go_ret
  exact ⟨rfl, rfl⟩
 ·exact z9_93
 ·exact z9_93
theorem idxfn_any (s : ByteArray) (hs : s.size ≤ 9223372036854775807) (w : World) :
    Calls Tryz.prog 128 #[.string s, .func (.func 77) #[] #[], .bool true] w fun e w' => (∃ n : Int, e = .returned (.int .i64 n) ∧ -1 ≤ n ∧ Hid (n = -1 ↔ ∀ i, i < s.size → okr (byt s i) = true)) ∧ Below w.heap.size w w' := by
 have hnx := fun (k : Nat) (h : k < s.size) (ty : TypeId) => run_next_any (P := Tryz.prog) w s k ty h
 have hne := fun (k : Nat) (h : ¬ k < s.size) (ty : TypeId) => run_next_end (P := Tryz.prog) w s k ty h
 have HNX := Zi hnx
 have HNE := Zi hne
 clear hnx hne
 go_enter Tryz.func128, Tryz.ntmps128
 go_wp2
 go_loopw [7, 8] (fun _ _ wr => ∃ k : Nat, k ≤ s.size ∧ wr = w.iter s k ∧ Hid (∀ j, j < k → okr (byt s j) = true)) (fun _ _ wr => s.size - wr.iterPos w.heap.size)
 case atStart => exact ⟨0, by omega, rfl, Zi fun j h => by omega⟩
 case round =>
  obtain ⟨k, hk, rfl, HO⟩ := hrel
  by_cases hlt : k < s.size
  ·have hn := HNX.out k hlt
   have hbk := byt_at hlt
   by_cases ha : (s[k].toNat) < 128
   ·rw [decode_ascii s k hlt ha] at hn
    cases hok : okr s[k].toNat with
    | true =>
     have NF := fun w => nfn_any (s[k].toNat : Int) false (Zi (by rw [okr_d, hok]; rfl)) w
     have HA : Hid (okr (byt s k) = true) := Zi (by rw [hbk]; exact hok)
     clear hok hbk ha
     go_wp2_with (go_at_call 77; refine (NF _).mono ?_; rintro e w' ⟨rfl, rfl⟩)
     go_roundw
     case rel => exact ⟨k + 1, by omega, rfl, Zi fun j hj => by
      by_cases e : j = k
      ·subst e; exact HA.out
      ·exact HO.out j Zo⟩
     case measure => simp; omega
    | false =>
     have NF := fun w => nfn_any (s[k].toNat : Int) true (Zi (by rw [okr_d, hok]; rfl)) w
     have HN : Hid (((k : Nat) : Int) = -1 ↔ ∀ i, i < s.size → okr (byt s i) = true) := Zi ⟨fun h => by omega, fun h => by have := h k hlt; rw [hbk, hok] at this; cases this⟩
     clear hok hbk ha
     go_wp2_with (go_at_call 77; refine (NF _).mono ?_; rintro e w' ⟨rfl, rfl⟩)
     go_ret
     exact ⟨⟨_, rfl, by omega, HN⟩, nm_low _ _ _⟩
   ·have hh := (decode_high s k hlt Zo).1
    obtain ⟨r, hr⟩ : ∃ r : Nat, r = (Utf8.decode s k).1 := ⟨_, rfl⟩
    rw [← hr] at hh hn
    have NF := fun w => nfn_any (r : Int) true (Zi (by rw [Zf Zo, Zf Zo]; rfl)) w
    have HN : Hid (((k : Nat) : Int) = -1 ↔ ∀ i, i < s.size → okr (byt s i) = true) := Zi ⟨fun h => by omega, fun h => by
     have h9 := h k hlt
     rw [hbk] at h9
     unfold okr low dig at h9
     simp at h9
     omega⟩
    clear hbk ha hh hr
    go_wp2_with (go_at_call 77; refine (NF _).mono ?_; rintro e w' ⟨rfl, rfl⟩)
    go_ret
    exact ⟨⟨_, rfl, by omega, HN⟩, nm_low _ _ _⟩
  ·obtain rfl : k = s.size := by omega
   have hn := HNE.out s.size hlt
   go_wp2
   go_ret
   exact ⟨⟨_, rfl, by omega, Zi ⟨fun _ i hi => HO.out i hi, fun _ => rfl⟩⟩, nm_low _ _ _⟩
theorem cfn_any (s : ByteArray) (hs : s.size ≤ 9223372036854775807) (v : Bool) (hv : Hid (v = !Jb.all (fun _ c => okr c) s)) (w : World) :
    Calls Tryz.prog 76 #[.string s, .func (.func 77) #[] #[]] w fun e w' => e = .returned (.bool v) ∧ Below w.heap.size w w' := by
 have HM := Mem.start w
 have IX : ∀ w, Calls Tryz.prog 98 #[.string s, .func (.func 77) #[] #[]] w fun e w' => (∃ n : Int, e = .returned (.int .i64 n) ∧ -1 ≤ n ∧ Hid (n = -1 ↔ ∀ i, i < s.size → okr (byt s i) = true)) ∧ Below w.heap.size w w' := fun w => by
  have HM := Mem.start w
  go_enter Tryz.func98, Tryz.ntmps98
  go_wp2_with (go_at_call 128; refine (idxfn_any s hs _).mono ?_; rintro e9 w2 ⟨⟨n, rfl, hn, HN⟩, hL⟩; replace HM := HM.call hL; clear hL)
  go_ret
  exact ⟨⟨n, rfl, hn, HN⟩, HM.low⟩
 go_enter Tryz.func76, Tryz.ntmps76
 go_wp2_with (go_at_call 98; refine (IX _).mono ?_; rintro e9 w2 ⟨⟨n, rfl, hn, HN⟩, hL⟩; replace HM := HM.call hL; clear hL)
 go_ret
 refine ⟨?_, HM.low⟩
 have e : v = decide (0 ≤ n) := by
  rw [hv.out]
  by_cases h : n = -1
  ·rw [all_iff.2 (HN.out.1 h), Zf Zo]; rfl
  ·rw [Zt Zo]
   cases e : Jb.all (fun _ c => okr c) s with
   | false => rfl
   | true => exact absurd (HN.out.2 (all_iff.1 e)) h
 rw [e]
 rfl
theorem Jb.okn_0 (c : Nat) : okn 0 c = low c := by unfold okn; simp
theorem Jb.okn_s {i : Nat} (h : i ≠ 0) (c : Nat) : okn i c = okr c := by unfold okn okr; simp [h]
theorem Jb.name_no {s : ByteArray} (hz : 0 < s.size) (h : low s[0].toNat = false) : name s = false := by
 unfold name
 rw [all_no hz (by rw [byt_at hz, okn_0]; exact h)]; simp
theorem Jb.name_yes {s : ByteArray} (hz : 0 < s.size) (h16 : s.size ≤ 16) (h : low s[0].toNat = true) : name s = Jb.all (fun _ c => okr c) s := by
 unfold name
 rw [Zt (show 1 ≤ s.size from hz), Zt h16, Bool.true_and, Bool.true_and]
 rw [Bool.eq_iff_iff, all_iff, all_iff]
 refine ⟨fun h9 i hi => ?_, fun h9 i hi => ?_⟩
 ·by_cases e : i = 0
  ·subst e
   rw [byt_at hz]
   unfold okr; rw [h]; rfl
  ·have := h9 i hi
   rwa [okn_s e] at this
 ·by_cases e : i = 0
  ·subst e
   rw [byt_at hz, okn_0]; exact h
  ·rw [okn_s e]; exact h9 i hi
theorem Jb.empty_l {s : ByteArray} (h : s.size = 0) : s.toList.isEmpty = true := by
 rw [Lib.toList_data]
 have : s.data.toList.length = 0 := by rw [Array.length_toList]; exact h
 cases e : s.data.toList with
 | nil => rfl
 | cons a l => rw [e] at this; simp at this
theorem Jb.some_l {s : ByteArray} (h : s.size ≠ 0) : s.toList.isEmpty = false := by
 rw [Lib.toList_data]
 cases e : s.data.toList with
 | nil =>
  have : s.data.toList.length = 0 := by rw [e]; rfl
  rw [Array.length_toList] at this
  exact absurd this h
 | cons a l => rfl
theorem oname_any (s : ByteArray) (hs : s.size ≤ 9223372036854775807) (w : World) :
    Calls Tryz.prog 63 #[.string s] w fun e w' => e = .returned (.bool (name s)) ∧ Below w.heap.size w w' := by
 have HM := Mem.start w
 by_cases h0 : s.size = 0
 ·have hl := empty_l h0
  have hv : name s = false := by unfold name; rw [Zf Zo]; rfl
  rw [hv]
  clear h0 hv
  exact z9_94
 have hz : 0 < s.size := by omega
 have hl := some_l h0
 by_cases h16 : 16 < s.size
 ·have hv : name s = false := by unfold name; rw [Zf (show ¬ s.size ≤ 16 by omega)]; simp
  rw [hv]
  have h2 : (16 : Int) < s.size := by omega
  clear h0 hv h16
  exact z9_94
 have h2 : ¬ (16 : Int) < s.size := by omega
 by_cases g1 : (s[0].toNat : Int) < 97
 ·rw [name_no hz (by unfold low; rw [Zf Zo]; rfl)]
  exact z9_95
 by_cases g2 : 122 < (s[0].toNat : Int)
 ·rw [name_no hz (by unfold low; rw [Zf (show ¬ s[0].toNat ≤ 122 by omega)]; simp)]
  exact z9_95
 ·rw [name_yes hz Zo (by unfold low; rw [Zt Zo, Zt Zo]; rfl)]
  have CF := fun w => cfn_any s hs _ (Zi rfl) w
  generalize Jb.all (fun _ c => okr c) s = v at *
  clear h0 h16
  go_enter Tryz.func63, Tryz.ntmps63
  go_wp2_with (go_at_call 76; (with_reducible refine Zc HM (CF _) ?_; clear HM; intro w2 HM))
  go_ret
  exact ⟨by simp, HM.low⟩
theorem Jb.okn_cases (i c : Nat) :
    (okn i c = true ∧ ((97 ≤ (c : Int) ∧ (c : Int) ≤ 122 ∧ 48 ≤ (c : Int) ∧ ¬ (c : Int) ≤ 57) ∨ (¬ 97 ≤ (c : Int) ∧ 48 ≤ (c : Int) ∧ (c : Int) ≤ 57 ∧ ((i : Int) == 0) = false))) ∨
    (okn i c = false ∧ ((¬ 97 ≤ (c : Int) ∧ ¬ 48 ≤ (c : Int)) ∨ (¬ 97 ≤ (c : Int) ∧ 48 ≤ (c : Int) ∧ ¬ (c : Int) ≤ 57) ∨ (¬ 97 ≤ (c : Int) ∧ 48 ≤ (c : Int) ∧ (c : Int) ≤ 57 ∧ i = 0) ∨ (97 ≤ (c : Int) ∧ ¬ (c : Int) ≤ 122 ∧ 48 ≤ (c : Int) ∧ ¬ (c : Int) ≤ 57))) := by
 unfold okn low dig
 have hb : ((i : Int) == 0) = decide (i = 0) := by
  exact z9_89
 rw [hb]
 by_cases h0 : i = 0 <;> by_cases h1 : 97 ≤ c <;> by_cases h2 : c ≤ 122 <;> by_cases h3 : 48 ≤ c <;> by_cases h4 : c ≤ 57 <;> simp_all <;> omega
theorem rname23_any (s : ByteArray) (w : World) :
    Calls Tryz.prog 53 #[.string s] w fun e w' => e = .returned (.bool (name s)) ∧ Below w.heap.size w w' := by
 have HM := Mem.start w
 have HP : Hid (name s = (decide (1 ≤ s.size) && (decide (s.size ≤ 16) && Jb.all okn s))) := Zi rfl
 generalize name s = v at *
 by_cases h0 : s.size = 0
 ·have hv : v = false := by rw [HP.out, Zf Zo]; rfl
  subst hv
  have h1 : (s.size : Int) < 1 := by omega
  go_enter Tryz.func53, Tryz.ntmps53
  go_wp2
  go_ret
  exact ⟨rfl, HM.low⟩
 have h1 : ¬ (s.size : Int) < 1 := by omega
 by_cases h16 : 16 < s.size
 ·have hv : v = false := by rw [HP.out, Zf (show ¬ s.size ≤ 16 by omega)]; simp
  subst hv
  have h2 : (16 : Int) < s.size := by omega
  go_enter Tryz.func53, Tryz.ntmps53
  go_wp2
  go_ret
  exact ⟨rfl, HM.low⟩
 have h2 : ¬ (16 : Int) < s.size := by omega
 have HQ : Hid (v = Jb.all okn s) := Zi (by rw [HP.out, Zt (show 1 ≤ s.size by omega), Zt (show s.size ≤ 16 by omega)]; rfl)
 clear HP
 go_enter Tryz.func53, Tryz.ntmps53
 go_wp2
 go_loopw [3] (fun t wr => ∃ k : Nat, k ≤ s.size ∧ t = .int .i64 k ∧ Hid (∀ j, j < k → okn j (byt s j) = true) ∧ Mem w [] [] wr) (fun t _ => s.size - (intOf t).toNat)
 case atStart => exact ⟨0, by omega, rfl, Zi fun j h => by omega, HM⟩
 case round =>
  clear HM
  obtain ⟨k, hk, rfl, HO, HM⟩ := hrel
  by_cases hlt : k < s.size
  ·have hbk := byt_at hlt
   rcases okn_cases k s[k].toNat with ⟨ho, hc⟩ | ⟨ho, hc⟩
   ·have HA : Hid (okn k (byt s k) = true) := Zi (by rw [hbk]; exact ho)
    clear ho hbk
    rcases hc with ⟨c1, c2, c3, c4⟩ | ⟨c1, c2, c3, c4⟩
    all_goals
     go_upto_region 6 with fail
     go_quiet (fail)
     go_wp2
     go_roundw
     case rel => exact ⟨k + 1, by omega, by go_num, Zi (fun j hj => by
      by_cases e : j = k
      ·subst e; exact HA.out
      ·exact HO.out j Zo), HM.drewN _⟩
     case measure => simp [intOf]; omega
   ·have hv : v = false := by rw [HQ.out]; exact all_no hlt (by rw [hbk]; exact ho)
    subst hv
    clear ho hbk
    rcases hc with ⟨c1, c2⟩ | ⟨c1, c2, c3⟩ | ⟨c1, c2, c3, rfl⟩ | ⟨c1, c2, c3, c4⟩
    all_goals
     go_upto_region 6 with fail
     go_quiet (fail)
     go_wp2
     go_ret
     exact ⟨rfl, (HM.drewN _).low⟩
  ·have hv : v = true := by rw [HQ.out]; exact all_iff.2 (fun i hi => HO.out i Zo)
   subst hv
   go_wp2
   go_ret
   exact ⟨rfl, HM.low⟩
end
end Go.Proofs.YtkiempioeffhbaaGreatDoor
