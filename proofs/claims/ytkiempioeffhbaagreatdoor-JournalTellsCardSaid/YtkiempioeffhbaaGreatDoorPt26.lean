/- Walks. -/
import Derived.Test.YtkiempioeffhbaaGreatDoorPt18
import Derived.Test.YtkiempioeffhbaaGreatDoorPt19
namespace Go.Proofs.YtkiempioeffhbaaGreatDoor
set_option maxHeartbeats 16000000
open Go.RowKit
set_option maxRecDepth 8000
section
theorem Dt.civ_small {n y m d : Int} (h : Dt.isCiv n y m d) : 2000 ≤ y ∧ y ≤ 2199 ∧ 1 ≤ m ∧ m ≤ 12 ∧ 1 ≤ d ∧ d ≤ 31 := by
 obtain ⟨h1, h2, h3, h4, h5, h6, _⟩ := h
 have := Dt.dim_bd y m
 omega
theorem h_slc {o : Oper} {a : Act} {x y z : Operand} {s : ByteArray} {i j : Int} (ho : o.op = .slice 9 x (some y) (some z) none) (hx : a.eval x = .string s) (hy : a.eval y = .int .i64 i) (hz : a.eval z = .int .i64 j) (h0 : 0 ≤ i) (h1 : i ≤ j) (h2 : j ≤ s.size) : ∀ w, (execOp a.eval o).run Tryz.prog w = .ok (.value (.string (s.extract i.toNat j.toNat))) w := fun w => by
 have hr := run_slice_string (P := Tryz.prog) w 9 s .i64 .i64 i j Tryz.underlying9 h0 h1 h2
 unfold execOp
 simp [ho, hx, hy, hz, Instr.sliceAt, run_underlying Tryz.underlying9, hr, Result.andThen]
theorem two5_any (n : Int) (h0 : 0 ≤ n) (h1 : n ≤ 99) (w : World) :
    Calls Tryz.prog 160 #[.int .i64 n] w fun e w' => (∃ s : ByteArray, e = .returned (.string s) ∧ s.size = 2) ∧ Below w.heap.size w w' := by
 have HM := Mem.start w
 obtain ⟨q, hq⟩ : ∃ q : Nat, n.tdiv 10 = (q : Int) := ⟨(n / 10).toNat, by rw [Int.tdiv_eq_ediv_of_nonneg h0]; omega⟩
 obtain ⟨r, hr⟩ : ∃ r : Nat, n.tmod 10 = (r : Int) := ⟨(n % 10).toNat, by rw [Int.tmod_eq_emod_of_nonneg h0]; omega⟩
 have hq9 : q ≤ 9 := by rw [Int.tdiv_eq_ediv_of_nonneg h0] at hq; omega
 have hr9 : r ≤ 9 := by rw [Int.tmod_eq_emod_of_nonneg h0] at hr; omega
 clear h0 h1
 go_enter Tryz.func160, Tryz.ntmps160
 go_upto_region 1 with fail
 have hs : ∀ k : Nat, k ≤ 9 → (({ data := #[48, 49, 50, 51, 52, 53, 54, 55, 56, 57] } : ByteArray).extract k (k + 1)).size = 1 := by
  intro k hk
  rw [ByteArray.size_extract]
  show min _ 10 - _ = 1
  omega
 obtain ⟨s1, hs1⟩ := Zh (({ data := #[48, 49, 50, 51, 52, 53, 54, 55, 56, 57] } : ByteArray).extract ((q : Nat) : Int).toNat (((q : Nat) : Int) + 1).toNat)
 obtain ⟨s2, hs2⟩ := Zh (({ data := #[48, 49, 50, 51, 52, 53, 54, 55, 56, 57] } : ByteArray).extract ((r : Nat) : Int).toNat (((r : Nat) : Int) + 1).toNat)
 have z1 : s1.size = 1 := by rw [hs1.out, show (((q : Nat) : Int) + 1).toNat = q + 1 by omega, Int.toNat_natCast]; exact hs q hq9
 have z2 : s2.size = 1 := by rw [hs2.out, show (((r : Nat) : Int) + 1).toNat = r + 1 by omega, Int.toNat_natCast]; exact hs r hr9
 clear hs
 refine start_M [] HM Zk (fun w0x H9 => ?_)
 replace HM := H9; clear H9
 refine k_mv 0 (heldE HM) ?_
 refine t_pure (i := 1) (v := .int .i64 (q : Nat)) rfl rfl Zk (fun _ _ _ h => h) (heldE HM) (by rfl) ?_ ?_; (focus (exact h_bin (by rfl) (by rfl) (by rfl) (by intro w9; first | (go_simp; done) | (go_simp; rw [IntWalk.i64_in _ Zo])))); ((try simp only [Za]); (try simp only [Zx]); (try simp only [Zy]))
 refine k_mv 2 (heldE HM) ?_
 refine t_pure (i := 3) (v := .int .i64 (q : Nat)) rfl rfl Zk (fun _ _ _ h => h) (heldE HM) (by rfl) ?_ ?_; (focus (exact h_bin (by rfl) (by rfl) (by rfl) (by intro w9; first | (go_simp; done) | (go_simp; rw [IntWalk.i64_in _ Zo])))); ((try simp only [Za]); (try simp only [Zx]); (try simp only [Zy]))
 refine k_add 4 (heldE HM) ?_
 refine t_pure (i := 5) (v := .string s1) rfl rfl Zk (fun _ _ _ h => h) (heldE HM) (by rfl) ?_ ?_; (focus ((rw [hs1.out]; exact h_slc (i := (q : Nat)) (j := (q : Nat) + 1) rfl Zw Zw Zw Zo Zo (by show ((q : Int) + 1) ≤ ((10 : Nat) : Int); omega)))); ((try simp only [Za]); (try simp only [Zx]); (try simp only [Zy]))
 refine k_mv 6 (heldE HM) ?_
 refine t_pure (i := 7) (v := .int .i64 (r : Nat)) rfl rfl Zk (fun _ _ _ h => h) (heldE HM) (by rfl) ?_ ?_; (focus (exact h_bin (by rfl) (by rfl) (by rfl) (by intro w9; first | (go_simp; done) | (go_simp; rw [IntWalk.i64_in _ Zo])))); ((try simp only [Za]); (try simp only [Zx]); (try simp only [Zy]))
 refine k_mv 8 (heldE HM) ?_
 refine t_pure (i := 9) (v := .int .i64 (r : Nat)) rfl rfl Zk (fun _ _ _ h => h) (heldE HM) (by rfl) ?_ ?_; (focus (exact h_bin (by rfl) (by rfl) (by rfl) (by intro w9; first | (go_simp; done) | (go_simp; rw [IntWalk.i64_in _ Zo])))); ((try simp only [Za]); (try simp only [Zx]); (try simp only [Zy]))
 refine k_add 10 (heldE HM) ?_
 refine t_pure (i := 11) (v := .string s2) rfl rfl Zk (fun _ _ _ h => h) (heldE HM) (by rfl) ?_ ?_; (focus ((rw [hs2.out]; exact h_slc (i := (r : Nat)) (j := (r : Nat) + 1) rfl Zw Zw Zw Zo Zo (by show ((r : Int) + 1) ≤ ((10 : Nat) : Int); omega)))); ((try simp only [Za]); (try simp only [Zx]); (try simp only [Zy]))
 refine t_pure (i := 12) (v := .string (s1 ++ s2)) rfl rfl Zk (fun _ _ _ h => h) (heldE HM) (by rfl) ?_ ?_; (focus ((intro w9; first | (go_simp; done) | (go_simp; rfl) | (go_simp; rw [if_neg (by simp only [ByteArray.size_append, z1, z2]; omega)]) | (go_simp; omega)))); ((try simp only [Za]); (try simp only [Zx]); (try simp only [Zy]))
 refine k_mv 13 (heldE HM) ?_
 refine wpAnyL_done Zk ?_ _
 go_wp2_with fail
 go_ret
 refine ⟨⟨_, rfl, ?_⟩, HM.low⟩
 rw [ByteArray.size_append, z1, z2]
theorem rdfmt_any (n : Int) (h : Dt.isDay n = true) (w : World) :
    Calls Tryz.prog 136 #[.int .i64 n] w fun e w' => (∃ s : ByteArray, e = .returned (.tuple #[.string s, .int .i64 0]) ∧ s.size = 10) ∧ Below w.heap.size w w' := by
 have HM := Mem.start w
 have CV := fun w => rCivil_yes n w h
 clear h
 go_enter Tryz.func136, Tryz.ntmps136
 go_upto_region 4 with (go_at_call 159; refine (CV _).mono ?_; rintro e9 w2 ⟨y, m, d, hc, rfl, rfl⟩)
 obtain ⟨c1, c2, c3, c4, c5, c6⟩ := Dt.civ_small hc
 obtain ⟨q, hq⟩ : ∃ q : Int, y.tdiv 100 = q := ⟨_, rfl⟩
 obtain ⟨r, hr⟩ : ∃ r : Int, y.tmod 100 = r := ⟨_, rfl⟩
 have hq9 : 0 ≤ q ∧ q ≤ 99 := by rw [Int.tdiv_eq_ediv_of_nonneg Zo] at hq; omega
 have hr9 : 0 ≤ r ∧ r ≤ 99 := by rw [Int.tmod_eq_emod_of_nonneg Zo] at hr; omega
 have T1 := fun w => two5_any q hq9.1 hq9.2 w
 have T2 := fun w => two5_any r hr9.1 hr9.2 w
 have T3 := fun w => two5_any m Zo Zo w
 have T4 := fun w => two5_any d Zo Zo w
 have hqw : wrap64 q = q := IntWalk.wrap64_in q Zo
 have hrw : wrap64 r = r := IntWalk.wrap64_in r Zo
 clear hc c1 c2 c3 c4 c5 c6 hq9 hr9
 go_wp2_with (first | (go_at_call 160; ((with_reducible refine (T1 _).mono ?_)); rintro e9 w2 ⟨⟨s1, rfl, hs1⟩, hL⟩; replace HM := HM.call hL; clear hL) | (go_at_call 160; ((with_reducible refine (T2 _).mono ?_)); rintro e9 w2 ⟨⟨s2, rfl, hs2⟩, hL⟩; replace HM := HM.call hL; clear hL) | (go_at_call 160; ((with_reducible refine (T3 _).mono ?_)); rintro e9 w2 ⟨⟨s3, rfl, hs3⟩, hL⟩; replace HM := HM.call hL; clear hL) | (go_at_call 160; ((with_reducible refine (T4 _).mono ?_)); rintro e9 w2 ⟨⟨s4, rfl, hs4⟩, hL⟩; replace HM := HM.call hL; clear hL))
 go_ret2
 refine ⟨⟨_, rfl, ?_⟩, HM.low⟩
 simp only [ByteArray.size_append, hs1, hs2, hs3, hs4]
 rfl
end
end Go.Proofs.YtkiempioeffhbaaGreatDoor
