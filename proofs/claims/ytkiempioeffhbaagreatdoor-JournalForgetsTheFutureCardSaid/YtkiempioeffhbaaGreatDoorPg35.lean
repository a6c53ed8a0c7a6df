/- Walks. -/
import Derived.Test.YtkiempioeffhbaaGreatDoorPg14
import Derived.Test.YtkiempioeffhbaaGreatDoorPg34
namespace Go.Proofs.YtkiempioeffhbaaGreatDoor
set_option maxHeartbeats 16000000
open Go.RowKit
set_option maxRecDepth 8000
set_option linter.unusedSimpArgs false
set_option linter.unusedVariables false
section
theorem sratio_any (n d : Int) (x : Rat) (hn1 : -9223372036854775808 ≤ n) (hn2 : n < 9223372036854775808) (hd1 : 1 ≤ d) (hd2 : d < 9223372036854775808) (hx : Hid (x = Rat.divInt n d)) (w : World) :
    Calls Tryz.prog 19 #[.int .i64 n, .int .i64 d] w fun r w' => r = .returned (.agg (Rt.qA x)) ∧ Below w.heap.size w w' := by
 have HM := Mem.start w
 have hz := za_rat
 have s1 := sa_q x (rZ_size 0 0)
 have hm : max d 1 = d := by omega
 have O := fun w => over_ex n d x hn1 hn2 Zo hd2 Zo hx w
 have F := Ex.fv (qA_size x) 0
 go_enter Tryz.func19, Tryz.ntmps19
 go_wp2_with (first | (go_at_call 49; (with_reducible refine Zc HM (O _) ?_; clear HM; intro w2 HM)) | ((with_reducible refine g_fld ?_); refine a_fld ?_ F) | ((with_reducible refine g_st ?_); refine a_st HM ?_; clear HM; intro w1 HM) | ((with_reducible refine g_al ?_); refine a_al HM ?_; clear HM; intro bk w1 HM))
 refine bodyPost_ret (r_c rfl rfl (HM.get Zl) (la_q x)) rfl ⟨rfl, HM.low⟩
theorem snew_any (A : Option Addr) (k c0 : Nat) (w : World) :
    Calls Tryz.prog 7 #[.slice A k c0] w fun e w' => ∃ b, e = .returned (.pointer (some ⟨b, 0, none⟩)) ∧ Mem w [] [(b, #[.slice A k c0, .int .i64 0])] w' := by
 have HM := Mem.start w
 go_enter Tryz.func7, Tryz.ntmps7
 go_wp2_with ((with_reducible refine g_bx ?_); refine a_bx HM ?_; clear HM; intro bk w1 HM)
 go_ret
 exact ⟨_, rfl, HM⟩
def BoolPost (W : World) (tb m : Nat) (w : World) (e : Ending) (w' : World) : Prop :=
 ∃ b : Bool, e = .returned (.bool b) ∧ Tp W tb (m + 1) w' ∧ w.grownBy w' (some tb)
theorem sbool_inf (W : World) (tb m : Nat) (n : Int) (w : World) (hT : Tp W tb m w) (h0 : 1 ≤ n) (h1 : n ≤ 4611686018427387904) :
    Calls Tryz.prog 24 #[.pointer (some ⟨tb, 0, none⟩), .int .i64 n] w (BoolPost W tb m w) := by
 have HT := Zi hT
 clear hT
 go_enter Tryz.func24, Tryz.ntmps24
 go_wp2_with fail
 refine (snext_inf W tb m n _ HT.out h0 h1).mono ?_
 rintro e w' ⟨v, rfl, v0, v1, hT, hg⟩
 have HT2 := Zi hT
 have HG := Zi hg
 clear hT hg
 go_wp2_with fail
 go_ret
 exact ⟨_, rfl, HT2.out, HG.out⟩
end
section
def NextX (tb : Nat) (L : Option Addr) (n c : Nat) (a : Int) (w w' : World) : Prop := ∃ a' : Int, a ≤ a' ∧ (a < n → a < a') ∧ Blk w' tb #[.slice L n c, .int .i64 a'] ∧ w.grownBy w' (some tb)
theorem snext_x {W w : World} {tb : Nat} {L : Option Addr} {xs : List Int} {c : Nat} {at_ : Int} (n : Int) (hbl : Blk w tb #[.slice L xs.length c, .int .i64 at_]) (ha0 : 0 ≤ at_) (hI : IntsAt W L xs) (hxl : xs.length ≤ 9223372036854775807) (hb : Below W.heap.size W w) (hle : W.heap.size ≤ tb) (h0 : 1 ≤ n) (h1 : n ≤ 4611686018427387904) :
    Calls Tryz.prog 20 #[.pointer (some ⟨tb, 0, none⟩), .int .i64 n] w fun e w' => ∃ v : Int, e = .returned (.int .i64 v) ∧ 0 ≤ v ∧ v < n ∧ NextX tb L xs.length c at_ w w' := by
 have hc0 : w.cell? ⟨tb, 0, none⟩ = some (.slice L xs.length c) := hbl.cell 0
 have hc1 : w.cell? ⟨tb, 1, none⟩ = some (.int .i64 at_) := hbl.cell 1
 have hf1 : w.frozen? ⟨tb, 1, none⟩ = false := hbl.free 1
 have HI := Zi hI
 have HK := Zi hb
 have HS := Zi (next_step hb hle hbl ha0 (show at_ ≤ at_.toNat by omega) hI hxl)
 have HB : Hid (∀ N, Blk ((w.drewN N).setCell ⟨tb, 1, none⟩ (.int .i64 (at_ + 1))) tb #[.slice L xs.length c, .int .i64 (at_ + 1)]) := Zi (fun N => (hbl.drewN N).set 1 (.int .i64 (at_ + 1)))
 have HB0 := Zi hbl
 clear hb hbl hI
 by_cases hlt : at_ < xs.length
 ·have ham' : at_ + 1 ≤ 9223372036854775807 := by omega
  obtain ⟨b, off, rfl, hbW, hcell⟩ := HI.out.at_ (j := at_.toNat) Zo
  have hcx := (((HI.out.below HK.out).at_ (j := at_.toNat) Zo))
  obtain ⟨b2, off2, e2, hbb, hcell2⟩ := hcx
  injection e2 with e2
  injection e2 with e2 e3
  subst e2 e3
  have hcx := hcell2 at_.toNat Zo
  have hne : b ≠ tb := by omega
  clear hcell hcell2
  obtain ⟨x, hx⟩ : ∃ x, x = xs.getD at_.toNat 0 := ⟨_, rfl⟩
  rw [← hx] at hcx
  clear hx
  obtain ⟨z, hz⟩ := Zh (Sc.md x n)
  obtain ⟨z0, z1⟩ := Sc.md_in (v := x) h0
  rw [← hz.out] at z0 z1
  go_enter Tryz.func20, Tryz.ntmps20
  go_wp2
  go_quiet (fail)
  go_wp2
  obtain ⟨hT9, hg9⟩ := HS.out nq
  have hcx9 := ((turn_cell hg9).1 b (off + at_.toNat) hbb hne).trans hcx
  have hb9 := HB.out nq
  obtain ⟨w9, hw9⟩ : ∃ w9, w9 = (w.drewN nq).setCell ⟨tb, 1, none⟩ (.int .i64 (at_ + 1)) := ⟨_, rfl⟩
  rw [← hw9] at hg9 hcx9 hb9 ⊢
  have hc9 : w9.cell? ⟨tb, 0, none⟩ = some (.slice (some ⟨b, off, none⟩) xs.length c) := hb9.cell 0
  have hd9 : w9.cell? ⟨tb, 1, none⟩ = some (.int .i64 (at_ + 1)) := hb9.cell 1
  have HG9 := Zi hg9
  have HB9 := Zi hb9
  have e9 : at_ + 1 - 1 = at_ := by omega
  clear hw9 hc0 hc1 hcx hf1 hT9 hg9 hb9
  go_quiet (with_reducible exact smod_q h0 h1 hz)
  go_wp2
  go_ret
  exact ⟨z, rfl, z0, z1, at_ + 1, by omega, fun _ => by omega, HB9.out.drewN _, turn_trans HG9.out (turn_below (below_drewN (Below.refl _ _) _))⟩
 ·go_enter Tryz.func20, Tryz.ntmps20
  go_wp2
  go_quiet (fail)
  go_wp2
  go_ret
  exact ⟨0, rfl, by omega, by omega, at_, by omega, fun h => by omega, HB0.out.drewN _, turn_below (below_drewN (Below.refl _ _) _)⟩
theorem sbool_x {W w : World} {tb : Nat} {L : Option Addr} {xs : List Int} {c : Nat} {at_ : Int} (n : Int) (hbl : Blk w tb #[.slice L xs.length c, .int .i64 at_]) (ha0 : 0 ≤ at_) (hI : IntsAt W L xs) (hxl : xs.length ≤ 9223372036854775807) (hb : Below W.heap.size W w) (hle : W.heap.size ≤ tb) (h0 : 1 ≤ n) (h1 : n ≤ 4611686018427387904) :
    Calls Tryz.prog 24 #[.pointer (some ⟨tb, 0, none⟩), .int .i64 n] w fun e w' => ∃ b : Bool, e = .returned (.bool b) ∧ NextX tb L xs.length c at_ w w' := by
 have HC := Zi (snext_x n hbl ha0 hI hxl hb hle h0 h1)
 clear hbl hI hb
 go_enter Tryz.func24, Tryz.ntmps24
 go_wp2_with fail
 refine HC.out.mono ?_
 rintro e w' ⟨v, rfl, v0, v1, hX⟩
 have HX := Zi hX
 clear hX HC
 go_wp2_with fail
 go_ret
 exact ⟨_, rfl, HX.out⟩
end
end Go.Proofs.YtkiempioeffhbaaGreatDoor
