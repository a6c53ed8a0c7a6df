/- Walks, and plain facts for them. -/
import Derived.Test.YtckhdiljihhdmaaGreatPb23
import Derived.Test.YtckhdiljihhdmaaGreatPb26
import Derived.Test.YtckhdiljihhdmaaGreatPb05
namespace Go.Proofs.YtckhdiljihhdmaaGreat
set_option maxRecDepth 8000
open Go.RowKit
theorem sratio_any (n d : Int) (x : Rat) (hn1 : -9223372036854775808 ≤ n) (hn2 : n < 9223372036854775808) (hd1 : 1 ≤ d) (hd2 : d < 9223372036854775808) (hx : Hid (x = Rat.divInt n d)) (w : World) :
    Calls Tryz.prog 25 #[.int .i64 n, .int .i64 d] w fun r w' => r = .returned (.agg (Rt.qA x)) ∧ Below w.heap.size w w' := by
 have HM := Mem.start w
 have hz := za_rat
 have s1 := sa_q x (rZ_size 0 0)
 have hm : max d 1 = d := by omega
 have O := fun w => over_ex n d x hn1 hn2 (by omega) hd2 (by omega) hx w
 have F := Ex.fv (qA_size x) 0
 go_enter Tryz.func25, Tryz.ntmps25
 go_wp2_with (first | (go_at_call 50; ((with_reducible refine (O _).mono ?_); rintro e9 w2 ⟨rfl, hL⟩; replace HM := HM.call hL; clear hL)) | ((with_reducible refine g_fld ?_); refine a_fld ?_ F) | (first | ((with_reducible refine g_st ?_); refine a_st HM ?_; clear HM; intro w1 HM) | ((with_reducible refine g_al ?_); refine a_al HM ?_; clear HM; intro bk w1 HM)))
 refine bodyPost_ret (r_c rfl rfl (HM.get (by ((repeat (first | exact Look.here | refine Look.there ?_)); done))) (la_q x)) rfl ⟨rfl, HM.low⟩
theorem snew_any (A : Option Addr) (k c0 : Nat) (w : World) :
    Calls Tryz.prog 16 #[.slice A k c0] w fun e w' => ∃ b, e = .returned (.pointer (some ⟨b, 0, none⟩)) ∧ Mem w [] [(b, #[.slice A k c0, .int .i64 0])] w' := by
 have HM := Mem.start w
 go_enter Tryz.func16, Tryz.ntmps16
 go_wp2_with (first | ((with_reducible refine g_bx ?_); refine a_bx HM ?_; clear HM; intro bk w1 HM) | ((with_reducible refine g_bld ?_); refine a_bld ?_))
 go_ret
 exact ⟨_, rfl, HM⟩
def BoolPost (W : World) (tb m : Nat) (w : World) (e : Ending) (w' : World) : Prop :=
 ∃ b : Bool, e = .returned (.bool b) ∧ Tp W tb (m + 1) w' ∧ w.grownBy w' (some tb)
theorem sbool_any (W : World) (tb m : Nat) (n : Int) (w : World) (hT : Tp W tb m w) (hm : m ≤ 1000000000000) (h0 : 1 ≤ n) (h1 : n ≤ 4611686018427387904) :
    Calls Tryz.prog 45 #[.pointer (some ⟨tb, 0, none⟩), .int .i64 n] w (BoolPost W tb m w) := by
 have HT := Lib.hid hT
 clear hT
 go_enter Tryz.func45, Tryz.ntmps45
 go_wp2_with fail
 refine (snext_any W tb m n _ HT.out hm h0 h1).mono ?_
 rintro e w' ⟨v, rfl, v0, v1, hT, hg⟩
 have HT2 := Lib.hid hT
 have HG := Lib.hid hg
 clear hT hg
 go_wp2_with fail
 go_ret
 exact ⟨_, rfl, HT2.out, HG.out⟩
end Go.Proofs.YtckhdiljihhdmaaGreat
