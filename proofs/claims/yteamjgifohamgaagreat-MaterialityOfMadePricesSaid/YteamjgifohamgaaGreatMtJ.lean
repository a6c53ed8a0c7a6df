/- The example of the chapter, walked. -/
import Derived.Test.YteamjgifohamgaaGreatMtI
namespace Go.Proofs.YteamjgifohamgaaGreat
set_option maxRecDepth 8000
open Go.RowKit
theorem Mt.shape : shapeOf [#[Value.int .i64 0], #[Value.string { data := #[] }], #[Value.string { data := #[] }], Bg.rZ 0 0, Bg.rZ 0 0] = [(0, 1), (1, 1), (2, 1), (3, 66), (69, 66)] := by
  simp [shapeOf, offs, rZ_size, List.range, List.range.loop]
theorem Mt.und : Tryz.prog.underlying 42 = some (.struct (Tryz.prog.fieldsOf 42)) := by kernel_rfl
theorem Mt.places (w : World) : ((Tryz.prog.fieldsOf 42).mapM (fun f => do pure (f.offset, ← sizeOf f.type)) : Sem (Array (Nat × Nat))).run Tryz.prog w = .ok [(0, 1), (1, 1), (2, 1), (3, 66), (69, 66)].toArray w := by kernel_rfl
theorem Mt.build (d : Mt.D) (w : World) : (Instr.build 42 #[(0, .int .i64 d.day), (1, .string d.fund), (2, .string d.cls), (3, .agg d.cw), (4, .agg d.ci)]).run Tryz.prog w = .ok (.agg (Mt.c d)) w :=
  run_build_flds Mt.und (fun w => by rw [Mt.zeroF, Mt.c_rows]; rfl) Mt.places Mt.shape (by simp [Value.cells, d.hw.size, d.hi.size]) (by rw [Mt.c_rows]; rfl) w
theorem h_bl5 {o : Oper} {a : Act} {T : TypeId} {r : Array Value} {x0 x1 x2 x3 x4 : Operand} {v0 v1 v2 v3 v4 : Value} (ho : o.op = .build T #[(0, x0), (1, x1), (2, x2), (3, x3), (4, x4)]) (h0 : a.eval x0 = v0) (h1 : a.eval x1 = v1) (h2 : a.eval x2 = v2) (h3 : a.eval x3 = v3) (h4 : a.eval x4 = v4) (hb : ∀ w, (Instr.build T #[(0, v0), (1, v1), (2, v2), (3, v3), (4, v4)]).run Tryz.prog w = .ok (.agg r) w) : ∀ w, (execOp a.eval o).run Tryz.prog w = .ok (.value (.agg r)) w := fun w => by
  unfold execOp
  simp only [ho, Sem.run_bind, List.map_toArray, List.map_cons, List.map_nil, h0, h1, h2, h3, h4, hb, Result.andThen_ok, Sem.run_pure]
theorem Rt.fit_small {x : Rat} (h1 : x.num.natAbs < 18446744073709551616) (h2 : x.den < 18446744073709551616) : Rt.Fit x := by
  have h := Bg.p2_mono (show 200 ≤ 480 by decide)
  have h3 := p64_200
  exact ⟨by omega, by omega⟩
/-- A difference of two ratios. -/
def Mt.mk (day : Int) (fund cls : ByteArray) (x y : Rat) (hx : Rt.Fit x) (hy : Rt.Fit y) : Mt.D := ⟨day, fund, cls, Rt.qA x, Rt.qA y, some x, some y, ⟨hx, rfl⟩, ⟨hy, rfl⟩⟩
def Mt.alpha : ByteArray := { data := #[97, 108, 112, 104, 97] }
theorem diff_any (day was is : Int) (x y : Rat) (hx : Rt.Fit x) (hy : Rt.Fit y) (h1 : -9223372036854775808 ≤ was) (h2 : was < 9223372036854775808) (h3 : -9223372036854775808 ≤ is) (h4 : is < 9223372036854775808) (hx2 : Hid (x = Rat.divInt was 1)) (hy2 : Hid (y = Rat.divInt is 1)) (w : World) :
    Calls Tryz.prog 33 #[.int .i64 day, .int .i64 was, .int .i64 is] w fun r w' => r = .returned (.agg (Mt.c (Mt.mk day Mt.alpha { data := #[97] } x y hx hy))) ∧ Below w.heap.size w w' := by
  have HM := Mem.start w
  have hz := Mt.za
  have R1 := fun w => sratio_any was 1 x h1 h2 (by decide) (by decide) hx2 w
  have R2 := fun w => sratio_any is 1 y h3 h4 (by decide) (by decide) hy2 w
  obtain ⟨d, hd⟩ : ∃ d, d = Mt.mk day Mt.alpha { data := #[97] } x y hx hy := ⟨_, rfl⟩
  have B := Mt.build (Mt.mk day Mt.alpha { data := #[97] } x y hx hy)
  rw [← hd] at B ⊢
  have sd := Mt.sa d (Mt.c_size Mt.zd)
  have B2 : ∀ w, (Instr.build 42 #[(0, .int .i64 day), (1, .string { data := #[97, 108, 112, 104, 97] }), (2, .string { data := #[97] }), (3, .agg (Rt.qA x)), (4, .agg (Rt.qA y))]).run Tryz.prog w = .ok (.agg (Mt.c d)) w := by
    intro w
    have := B w
    rw [hd] at this ⊢
    exact this
  clear B hd
  go_enter Tryz.func33, Tryz.ntmps33
  go_wp2_with (first | first
    | (go_at_call 11; ((with_reducible refine (R1 _).mono ?_); rintro e9 w2 ⟨rfl, hL⟩; replace HM := HM.call hL; clear hL))
    | (go_at_call 11; ((with_reducible refine (R2 _).mono ?_); rintro e9 w2 ⟨rfl, hL⟩; replace HM := HM.call hL; clear hL))
    | ((with_reducible refine g_bld ?_); refine a_rbl ?_ (hy := h_bl5 rfl (by (conv => lhs; whnf) <;> rfl) (by (conv => lhs; whnf) <;> rfl) (by (conv => lhs; whnf) <;> rfl) (by (conv => lhs; whnf) <;> rfl) (by (conv => lhs; whnf) <;> rfl) B2)) | (first | ((with_reducible refine g_ld ?_); refine a_ld HM ?_) | ((with_reducible refine g_st ?_); refine a_st HM ?_; clear HM; intro w1 HM) | ((with_reducible refine g_al ?_); refine a_al HM ?_; clear HM; intro bk w1 HM) | ((with_reducible refine g_bx ?_); refine a_bx HM ?_; clear HM; intro bk w1 HM) | ((with_reducible refine g_bld ?_); refine a_bld ?_)))
  refine bodyPost_ret (r_c rfl rfl (HM.get (by ((repeat (first | exact Look.here | refine Look.there ?_)); done))) (Mt.la d)) rfl ⟨rfl, HM.low⟩
end Go.Proofs.YteamjgifohamgaaGreat
