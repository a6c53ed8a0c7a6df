/- Walks, and plain facts for them. -/
import Derived.Test.YtckhdiljihhdmaaGreatPa23
import Derived.Test.YtckhdiljihhdmaaGreatPa05
namespace Go.Proofs.YtckhdiljihhdmaaGreat
set_option maxRecDepth 8000
open Go.RowKit
theorem sratio_any (n d : Int) (x : Rat) (hn1 : -9223372036854775808 ≤ n) (hn2 : n < 9223372036854775808) (hd1 : 1 ≤ d) (hd2 : d < 9223372036854775808) (hx : Hid (x = Rat.divInt n d)) (w : World) :
    Calls Tryz.prog 25 #[.int .i64 n, .int .i64 d] w fun r w' => r = .returned (.agg (Rt.qA x)) ∧ Below w.heap.size w w' := by
 have HM := Mem.start w
 have hz := za_rat
 have s1 := sa_q x (rZ_size 0 0)
 have hm : max d 1 = d := by omega
 have O := fun w => over_ex n d x hn1 hn2 (by omega) hd2 (by omega) hx w
 have F := Ex.fv (qA_size x) 0
 go_enter Tryz.func25, Tryz.ntmps25
 go_wp2_with (first | (go_at_call 50; ((with_reducible refine (O _).mono ?_); rintro e9 w2 ⟨rfl, hL⟩; replace HM := HM.call hL; clear hL)) | ((with_reducible refine g_fld ?_); refine a_fld ?_ F) | (first | ((with_reducible refine g_st ?_); refine a_st HM ?_; clear HM; intro w1 HM) | ((with_reducible refine g_al ?_); refine a_al HM ?_; clear HM; intro bk w1 HM)))
 refine bodyPost_ret (r_c rfl rfl (HM.get (by ((repeat (first | exact Look.here | refine Look.there ?_)); done))) (la_q x)) rfl ⟨rfl, HM.low⟩
end Go.Proofs.YtckhdiljihhdmaaGreat
