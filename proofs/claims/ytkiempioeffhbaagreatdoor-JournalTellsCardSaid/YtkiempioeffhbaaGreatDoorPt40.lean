/- Walks. -/
import Derived.Test.YtkiempioeffhbaaGreatDoorPt35
import Derived.Test.YtkiempioeffhbaaGreatDoorPt39
namespace Go.Proofs.YtkiempioeffhbaaGreatDoor
set_option maxHeartbeats 16000000
open Go.RowKit
set_option maxRecDepth 8000
set_option linter.unusedSimpArgs false
set_option linter.unusedVariables false
section
theorem z9_199 {P : Prop} (h : P := by
 exact ⟨x, by rw [List.getElem?_eq_getElem hlt, hx]⟩) : P := h
theorem z9_200 {P : Prop} (h : P := by
 refine start_M [] HM Zk (fun w0x H9 => ?_)
 replace HM := H9; clear H9
 refine k_mv 0 (heldE HM) ?_
 refine k_mv 1 (heldE HM) ?_
 refine k_ia 2 (heldE HM) ?_
 refine k_ld 3 [] (heldE HM) ?_
 refine k_mv 4 (heldE HM) ?_
 refine k_mv 5 (heldE HM) ?_
 refine k_ia 6 (heldE HM) ?_
 refine k_ld 7 [] (heldE HM) ?_
 refine t_eq (i := 8) (v := ?_) [] rfl rfl rfl Zk (fun _ _ _ h => h) (heldE HM) ?_ ?_; rotate_left 1; (focus ((refine y_cmps .neq false (.inr rfl) (E) rfl Zk (x := ?_) (y := ?_) (t := ?_) ?_ ?_ ?_ ?_; rotate_left 3; (focus rfl); (focus rfl); (focus ((conv => lhs; whnf) <;> rfl)); ((conv => lhs; whnf) <;> rfl)))); ((try simp only [Za]); (try simp only [Zx]); (try simp only [Zy]))
 refine wpAnyL_done Zk ?_ _
 go_wp2_with fail
 go_roundw
 case rel => exact ⟨i + 1, rfl, by omega, HM⟩
 case measure => simp [intOf]; omega) : P := h
end
section
open Jb
theorem Jb.clo_len : ∀ (M : List JR) (i : Nat) (O : List JC), (Jb.clo M i O).length ≤ O.length + M.length
 | [], i, O => by rw [Jb.clo]; simp
 | r :: M, i, O => by
  rw [Jb.clo]
  have h1 := Jb.clo_len M (i + 1) (O ++ [⟨r.day, ((i + 1 : Nat) : Int), ((i + 1 : Nat) : Int)⟩])
  have h2 := Jb.clo_len M (i + 1) (O.map fun c => if r.day ≤ c.day then { c with as_ := ((i + 1 : Nat) : Int) } else c)
  have h3 := Jb.clo_len M (i + 1) O
  simp only [List.length_append, List.length_cons, List.length_nil, List.length_map] at h1 h2 h3 ⊢
  split
  ·omega
  ·split
   ·omega
   ·omega
theorem Jb.rows_of {α : Type} {T : List JR} {f : JR → α} {c : α → Array Value} {p : Prop} [Decidable p] : ∀ x ∈ (if p then T.map (fun r => c (f r)) else []), ∃ y : α, x = c y := by
 intro x hx
 split at hx
 ·obtain ⟨r, _, rfl⟩ := List.mem_map.1 hx
  exact ⟨f r, rfl⟩
 ·cases hx
theorem Jb.rows_len {β : Type} {T : List JR} {f : JR → β} {p : Prop} [Decidable p] (h : p → T.length ≤ 4096) : (if p then T.map f else []).length ≤ 4096 := by
 split
 ·rename_i hp
  rw [List.length_map]; exact h hp
 ·simp
theorem Zu {n : Nat} {w w2 : World} {s : Value} {m : List (Array Value)} (h : Hid (RdS n w s m)) (k : Below w.heap.size w w2) : Hid (RdS n w2 s m) := Zi (h.out.below k)
set_option maxRecDepth 100000 in
theorem tells_any (sv : Value) (L : List JR) (k : Int) (fund : ByteArray) (hf : fund.size ≤ 9223372036854775807) (w : World) (hR : RdR w sv L) :
    Calls Tryz.prog 16 #[sv, .int .i64 k, .string fund] w fun e w' => e = .returned (.bool true) ∧ Below w.heap.size w w' := by
 obtain ⟨Xq, hXq⟩ := Zh ((if Jb.err L k = 0 then ((Jb.take L k (fun r => decide (r.kd = 1))).map fun r => r.q.c) else []))
 have Qq : Hid (∀ c ∈ Xq, ∃ y : JQ, c = y.c) := Zi (by rw [hXq.out]; exact Jb.rows_of (f := fun r => r.q) (c := JQ.c))
 have nq : Xq.length ≤ 4096 := by rw [hXq.out]; exact Jb.rows_len (fun h => Jb.take_len (Jb.err_ok h).1)
 have Aq : ∀ w', Below w.heap.size w w' → Calls Tryz.prog 35 #[sv, .int .i64 k] w' fun e w'' => (∃ s, e = .returned (.tuple #[s, .int .i64 (Jb.err L k)]) ∧ Hid (RdS 72 w'' s Xq)) ∧ Below w'.heap.size w' w'' := fun w' hB => by rw [hXq.out]; exact get_q sv L k w' (hR.below hB)
 have Bq : ∀ w', Below w.heap.size w w' → Calls Tryz.prog 36 #[sv, .int .i64 k] w' fun e w'' => (∃ s, e = .returned (.tuple #[s, .int .i64 (Jb.err L k)]) ∧ Hid (RdS 72 w'' s Xq)) ∧ Below w'.heap.size w' w'' := fun w' hB => by rw [hXq.out]; exact rget_q sv L k w' (hR.below hB)
 obtain ⟨Xa, hXa⟩ := Zh ((if Jb.err L k = 0 then ((Jb.take L k (fun r => decide (r.kd = 2))).map fun r => r.a.c) else []))
 have Qa : Hid (∀ c ∈ Xa, ∃ y : JA, c = y.c) := Zi (by rw [hXa.out]; exact Jb.rows_of (f := fun r => r.a) (c := JA.c))
 have na : Xa.length ≤ 4096 := by rw [hXa.out]; exact Jb.rows_len (fun h => Jb.take_len (Jb.err_ok h).1)
 have Aa : ∀ w', Below w.heap.size w w' → Calls Tryz.prog 37 #[sv, .int .i64 k] w' fun e w'' => (∃ s, e = .returned (.tuple #[s, .int .i64 (Jb.err L k)]) ∧ Hid (RdS 76 w'' s Xa)) ∧ Below w'.heap.size w' w'' := fun w' hB => by rw [hXa.out]; exact get_a sv L k w' (hR.below hB)
 have Ba : ∀ w', Below w.heap.size w w' → Calls Tryz.prog 38 #[sv, .int .i64 k] w' fun e w'' => (∃ s, e = .returned (.tuple #[s, .int .i64 (Jb.err L k)]) ∧ Hid (RdS 76 w'' s Xa)) ∧ Below w'.heap.size w' w'' := fun w' hB => by rw [hXa.out]; exact rget_a sv L k w' (hR.below hB)
 obtain ⟨Xe, hXe⟩ := Zh ((if Jb.errF L k fund = 0 then ((Jb.take L k (fun r => decide (r.kd = 3) && (r.fnd == fund))).map fun r => r.e.c) else []))
 have Qe : Hid (∀ c ∈ Xe, ∃ y : JE, c = y.c) := Zi (by rw [hXe.out]; exact Jb.rows_of (f := fun r => r.e) (c := JE.c))
 have ne : Xe.length ≤ 4096 := by rw [hXe.out]; exact Jb.rows_len (fun h => Jb.take_len (Jb.err_ok (Jb.errF_ok h).1).1)
 have Ae : ∀ w', Below w.heap.size w w' → Calls Tryz.prog 39 #[sv, .int .i64 k, .string fund] w' fun e w'' => (∃ s, e = .returned (.tuple #[s, .int .i64 (Jb.errF L k fund)]) ∧ Hid (RdS 10 w'' s Xe)) ∧ Below w'.heap.size w' w'' := fun w' hB => by rw [hXe.out]; exact get_e sv L k fund hf w' (hR.below hB)
 have Be : ∀ w', Below w.heap.size w w' → Calls Tryz.prog 40 #[sv, .int .i64 k, .string fund] w' fun e w'' => (∃ s, e = .returned (.tuple #[s, .int .i64 (Jb.errF L k fund)]) ∧ Hid (RdS 10 w'' s Xe)) ∧ Below w'.heap.size w' w'' := fun w' hB => by rw [hXe.out]; exact rget_e sv L k fund w' (hR.below hB)
 obtain ⟨Xo, hXo⟩ := Zh ((if Jb.err L k = 0 then ((Jb.take L k (fun r => decide (r.kd = 4))).map fun r => r.o.c) else []))
 have Qo : Hid (∀ c ∈ Xo, ∃ y : JO, c = y.c) := Zi (by rw [hXo.out]; exact Jb.rows_of (f := fun r => r.o) (c := JO.c))
 have no : Xo.length ≤ 4096 := by rw [hXo.out]; exact Jb.rows_len (fun h => Jb.take_len (Jb.err_ok h).1)
 have Ao : ∀ w', Below w.heap.size w w' → Calls Tryz.prog 13 #[sv, .int .i64 k] w' fun e w'' => (∃ s, e = .returned (.tuple #[s, .int .i64 (Jb.err L k)]) ∧ Hid (RdS 11 w'' s Xo)) ∧ Below w'.heap.size w' w'' := fun w' hB => by rw [hXo.out]; exact get_o sv L k w' (hR.below hB)
 have Bo : ∀ w', Below w.heap.size w w' → Calls Tryz.prog 41 #[sv, .int .i64 k] w' fun e w'' => (∃ s, e = .returned (.tuple #[s, .int .i64 (Jb.err L k)]) ∧ Hid (RdS 11 w'' s Xo)) ∧ Below w'.heap.size w' w'' := fun w' hB => by rw [hXo.out]; exact rget_o sv L k w' (hR.below hB)
 obtain ⟨Xt, hXt⟩ := Zh ((if Jb.errF L k fund = 0 then ((Jb.take L k (fun r => decide (r.kd = 5) && (r.t.vd || r.t.fnd == fund))).map fun r => r.t.c) else []))
 have Qt : Hid (∀ c ∈ Xt, ∃ y : JT, c = y.c) := Zi (by rw [hXt.out]; exact Jb.rows_of (f := fun r => r.t) (c := JT.c))
 have nt : Xt.length ≤ 4096 := by rw [hXt.out]; exact Jb.rows_len (fun h => Jb.take_len (Jb.err_ok (Jb.errF_ok h).1).1)
 have At : ∀ w', Below w.heap.size w w' → Calls Tryz.prog 42 #[sv, .int .i64 k, .string fund] w' fun e w'' => (∃ s, e = .returned (.tuple #[s, .int .i64 (Jb.errF L k fund)]) ∧ Hid (RdS 11 w'' s Xt)) ∧ Below w'.heap.size w' w'' := fun w' hB => by rw [hXt.out]; exact get_t sv L k fund hf w' (hR.below hB)
 have Bt : ∀ w', Below w.heap.size w w' → Calls Tryz.prog 43 #[sv, .int .i64 k, .string fund] w' fun e w'' => (∃ s, e = .returned (.tuple #[s, .int .i64 (Jb.errF L k fund)]) ∧ Hid (RdS 11 w'' s Xt)) ∧ Below w'.heap.size w' w'' := fun w' hB => by rw [hXt.out]; exact rget_t sv L k fund w' (hR.below hB)
 obtain ⟨Xs, hXs⟩ := Zh ((if Jb.err L k = 0 then ((Jb.take L k (fun r => decide (r.kd = 6))).map fun r => r.s.c) else []))
 have Qs : Hid (∀ c ∈ Xs, ∃ y : JS, c = y.c) := Zi (by rw [hXs.out]; exact Jb.rows_of (f := fun r => r.s) (c := JS.c))
 have ns : Xs.length ≤ 4096 := by rw [hXs.out]; exact Jb.rows_len (fun h => Jb.take_len (Jb.err_ok h).1)
 have As : ∀ w', Below w.heap.size w w' → Calls Tryz.prog 31 #[sv, .int .i64 k] w' fun e w'' => (∃ s, e = .returned (.tuple #[s, .int .i64 (Jb.err L k)]) ∧ Hid (RdS 6 w'' s Xs)) ∧ Below w'.heap.size w' w'' := fun w' hB => by rw [hXs.out]; exact get_s sv L k w' (hR.below hB)
 have Bs : ∀ w', Below w.heap.size w w' → Calls Tryz.prog 44 #[sv, .int .i64 k] w' fun e w'' => (∃ s, e = .returned (.tuple #[s, .int .i64 (Jb.err L k)]) ∧ Hid (RdS 6 w'' s Xs)) ∧ Below w'.heap.size w' w'' := fun w' hB => by rw [hXs.out]; exact rget_s sv L k w' (hR.below hB)
 obtain ⟨O, hO⟩ := Zh ((if Jb.err L k = 0 then Jb.clos L k else []))
 have nO : O.length ≤ 100000 := by
  rw [hO.out]
  split
  ·rename_i h
   have h1 := Jb.clo_len (L.take k.toNat) 0 []
   have h2 := (Jb.err_ok h).1
   rw [List.length_take] at h1
   unfold Jb.clos
   simp only [List.length_nil] at h1
   omega
  ·simp
 have hOm : (if Jb.err L k = 0 then (Jb.clos L k).map JC.c else []) = O.map JC.c := by
  rw [hO.out]; split <;> rfl
 have Ac : ∀ w', Below w.heap.size w w' → Calls Tryz.prog 11 #[sv, .int .i64 k] w' fun e w'' => (∃ s, e = .returned (.tuple #[s, .int .i64 (Jb.err L k)]) ∧ Hid (RdS 3 w'' s (O.map JC.c))) ∧ Below w'.heap.size w' w'' := fun w' hB => by rw [← hOm]; exact jclos_any sv L k w' (hR.below hB)
 have Bc : ∀ w', Below w.heap.size w w' → Calls Tryz.prog 45 #[sv, .int .i64 k] w' fun e w'' => (∃ s, e = .returned (.tuple #[s, .int .i64 (Jb.err L k)]) ∧ Hid (RdS 3 w'' s (O.map JC.c))) ∧ Below w'.heap.size w' w'' := fun w' hB => by rw [← hOm]; exact rclos_any sv L k w' (hR.below hB)
 have Ak := fun w' hB => jcheck_any sv L w' (hR.below hB)
 have Bk := fun w' hB => rjcheck_any sv L w' (hR.below hB)
 clear hO hOm hXq hXa hXe hXo hXt hXs
 generalize Jb.errF L k fund = ef at *
 generalize Jb.err L k = e0 at *
 generalize Jb.check L = e1 at *
 have HW := Zi (Below.refl w.heap.size w)
 have HM := Mem.start w
 clear hR hf
 go_enter Tryz.func16, Tryz.ntmps16
 go_upto_region 15 with (first | (go_at_call 35; refine (Aq _ HW.out).mono ?_; rintro e9 w2 ⟨⟨s1, rfl, H1⟩, hL⟩; replace HW := Zi (below_seq HW.out hL); clear hL; replace HM := Mem.start w2) | (go_at_call 36; refine (Bq _ HW.out).mono ?_; rintro e9 w2 ⟨⟨s2, rfl, H2⟩, hL⟩; replace H1 := Zu H1 hL; replace HW := Zi (below_seq HW.out hL); clear hL; replace HM := Mem.start w2) | (go_at_call 37; refine (Aa _ HW.out).mono ?_; rintro e9 w2 ⟨⟨s3, rfl, H3⟩, hL⟩; replace H1 := Zu H1 hL; replace H2 := Zu H2 hL; replace HW := Zi (below_seq HW.out hL); clear hL; replace HM := Mem.start w2) | (go_at_call 38; refine (Ba _ HW.out).mono ?_; rintro e9 w2 ⟨⟨s4, rfl, H4⟩, hL⟩; replace H1 := Zu H1 hL; replace H2 := Zu H2 hL; replace H3 := Zu H3 hL; replace HW := Zi (below_seq HW.out hL); clear hL; replace HM := Mem.start w2) | (go_at_call 39; refine (Ae _ HW.out).mono ?_; rintro e9 w2 ⟨⟨s5, rfl, H5⟩, hL⟩; replace H1 := Zu H1 hL; replace H2 := Zu H2 hL; replace H3 := Zu H3 hL; replace H4 := Zu H4 hL; replace HW := Zi (below_seq HW.out hL); clear hL; replace HM := Mem.start w2) | (go_at_call 40; refine (Be _ HW.out).mono ?_; rintro e9 w2 ⟨⟨s6, rfl, H6⟩, hL⟩; replace H1 := Zu H1 hL; replace H2 := Zu H2 hL; replace H3 := Zu H3 hL; replace H4 := Zu H4 hL; replace H5 := Zu H5 hL; replace HW := Zi (below_seq HW.out hL); clear hL; replace HM := Mem.start w2) | (go_at_call 13; refine (Ao _ HW.out).mono ?_; rintro e9 w2 ⟨⟨s7, rfl, H7⟩, hL⟩; replace H1 := Zu H1 hL; replace H2 := Zu H2 hL; replace H3 := Zu H3 hL; replace H4 := Zu H4 hL; replace H5 := Zu H5 hL; replace H6 := Zu H6 hL; replace HW := Zi (below_seq HW.out hL); clear hL; replace HM := Mem.start w2) | (go_at_call 41; refine (Bo _ HW.out).mono ?_; rintro e9 w2 ⟨⟨s8, rfl, H8⟩, hL⟩; replace H1 := Zu H1 hL; replace H2 := Zu H2 hL; replace H3 := Zu H3 hL; replace H4 := Zu H4 hL; replace H5 := Zu H5 hL; replace H6 := Zu H6 hL; replace H7 := Zu H7 hL; replace HW := Zi (below_seq HW.out hL); clear hL; replace HM := Mem.start w2) | (go_at_call 42; refine (At _ HW.out).mono ?_; rintro e9 w2 ⟨⟨s9, rfl, H9⟩, hL⟩; replace H1 := Zu H1 hL; replace H2 := Zu H2 hL; replace H3 := Zu H3 hL; replace H4 := Zu H4 hL; replace H5 := Zu H5 hL; replace H6 := Zu H6 hL; replace H7 := Zu H7 hL; replace H8 := Zu H8 hL; replace HW := Zi (below_seq HW.out hL); clear hL; replace HM := Mem.start w2) | (go_at_call 43; refine (Bt _ HW.out).mono ?_; rintro e9 w2 ⟨⟨s10, rfl, H10⟩, hL⟩; replace H1 := Zu H1 hL; replace H2 := Zu H2 hL; replace H3 := Zu H3 hL; replace H4 := Zu H4 hL; replace H5 := Zu H5 hL; replace H6 := Zu H6 hL; replace H7 := Zu H7 hL; replace H8 := Zu H8 hL; replace H9 := Zu H9 hL; replace HW := Zi (below_seq HW.out hL); clear hL; replace HM := Mem.start w2) | (go_at_call 31; refine (As _ HW.out).mono ?_; rintro e9 w2 ⟨⟨s11, rfl, H11⟩, hL⟩; replace H1 := Zu H1 hL; replace H2 := Zu H2 hL; replace H3 := Zu H3 hL; replace H4 := Zu H4 hL; replace H5 := Zu H5 hL; replace H6 := Zu H6 hL; replace H7 := Zu H7 hL; replace H8 := Zu H8 hL; replace H9 := Zu H9 hL; replace H10 := Zu H10 hL; replace HW := Zi (below_seq HW.out hL); clear hL; replace HM := Mem.start w2) | (go_at_call 44; refine (Bs _ HW.out).mono ?_; rintro e9 w2 ⟨⟨s12, rfl, H12⟩, hL⟩; replace H1 := Zu H1 hL; replace H2 := Zu H2 hL; replace H3 := Zu H3 hL; replace H4 := Zu H4 hL; replace H5 := Zu H5 hL; replace H6 := Zu H6 hL; replace H7 := Zu H7 hL; replace H8 := Zu H8 hL; replace H9 := Zu H9 hL; replace H10 := Zu H10 hL; replace H11 := Zu H11 hL; replace HW := Zi (below_seq HW.out hL); clear hL; replace HM := Mem.start w2) | (go_at_call 11; refine (Ac _ HW.out).mono ?_; rintro e9 w2 ⟨⟨s13, rfl, H13⟩, hL⟩; replace H1 := Zu H1 hL; replace H2 := Zu H2 hL; replace H3 := Zu H3 hL; replace H4 := Zu H4 hL; replace H5 := Zu H5 hL; replace H6 := Zu H6 hL; replace H7 := Zu H7 hL; replace H8 := Zu H8 hL; replace H9 := Zu H9 hL; replace H10 := Zu H10 hL; replace H11 := Zu H11 hL; replace H12 := Zu H12 hL; replace HW := Zi (below_seq HW.out hL); clear hL; replace HM := Mem.start w2) | (go_at_call 45; refine (Bc _ HW.out).mono ?_; rintro e9 w2 ⟨⟨s14, rfl, H14⟩, hL⟩; replace H1 := Zu H1 hL; replace H2 := Zu H2 hL; replace H3 := Zu H3 hL; replace H4 := Zu H4 hL; replace H5 := Zu H5 hL; replace H6 := Zu H6 hL; replace H7 := Zu H7 hL; replace H8 := Zu H8 hL; replace H9 := Zu H9 hL; replace H10 := Zu H10 hL; replace H11 := Zu H11 hL; replace H12 := Zu H12 hL; replace H13 := Zu H13 hL; replace HW := Zi (below_seq HW.out hL); clear hL; replace HM := Mem.start w2))
 clear Aq Bq Aa Ba Ae Be Ao Bo At Bt As Bs Ac Bc
 go_upto_region 17 with (first | (go_at_call 17; refine (Ak _ HW.out).mono ?_; rintro e9 w2 ⟨rfl, hL⟩; replace H1 := Zu H1 hL; replace H2 := Zu H2 hL; replace H3 := Zu H3 hL; replace H4 := Zu H4 hL; replace H5 := Zu H5 hL; replace H6 := Zu H6 hL; replace H7 := Zu H7 hL; replace H8 := Zu H8 hL; replace H9 := Zu H9 hL; replace H10 := Zu H10 hL; replace H11 := Zu H11 hL; replace H12 := Zu H12 hL; replace H13 := Zu H13 hL; replace H14 := Zu H14 hL; replace HW := Zi (below_seq HW.out hL); clear hL; replace HM := Mem.start w2) | (go_at_call 46; refine (Bk _ HW.out).mono ?_; rintro e9 w2 ⟨rfl, hL⟩; replace H1 := Zu H1 hL; replace H2 := Zu H2 hL; replace H3 := Zu H3 hL; replace H4 := Zu H4 hL; replace H5 := Zu H5 hL; replace H6 := Zu H6 hL; replace H7 := Zu H7 hL; replace H8 := Zu H8 hL; replace H9 := Zu H9 hL; replace H10 := Zu H10 hL; replace H11 := Zu H11 hL; replace H12 := Zu H12 hL; replace H13 := Zu H13 hL; replace H14 := Zu H14 hL; replace HW := Zi (below_seq HW.out hL); clear hL; replace HM := Mem.start w2) | (go_at_call 14; refine (same37_any _ _ O _ H13.out H14.out nO).mono ?_; rintro e9 w2 ⟨rfl, hL⟩; replace H1 := Zu H1 hL; replace H2 := Zu H2 hL; replace H3 := Zu H3 hL; replace H4 := Zu H4 hL; replace H5 := Zu H5 hL; replace H6 := Zu H6 hL; replace H7 := Zu H7 hL; replace H8 := Zu H8 hL; replace H9 := Zu H9 hL; replace H10 := Zu H10 hL; replace H11 := Zu H11 hL; replace H12 := Zu H12 hL; replace H13 := Zu H13 hL; replace H14 := Zu H14 hL; replace HW := Zi (below_seq HW.out hL); clear hL; replace HM := Mem.start w2))
 obtain ⟨Aa1, ca1, rfl⟩ := RdS.form1 H1.out
 obtain ⟨Aa2, ca2, rfl⟩ := RdS.form1 H2.out
 obtain ⟨Aa3, ca3, rfl⟩ := RdS.form1 H3.out
 obtain ⟨Aa4, ca4, rfl⟩ := RdS.form1 H4.out
 obtain ⟨Aa5, ca5, rfl⟩ := RdS.form1 H5.out
 obtain ⟨Aa6, ca6, rfl⟩ := RdS.form1 H6.out
 obtain ⟨Aa7, ca7, rfl⟩ := RdS.form1 H7.out
 obtain ⟨Aa8, ca8, rfl⟩ := RdS.form1 H8.out
 obtain ⟨Aa9, ca9, rfl⟩ := RdS.form1 H9.out
 obtain ⟨Aa10, ca10, rfl⟩ := RdS.form1 H10.out
 obtain ⟨Aa11, ca11, rfl⟩ := RdS.form1 H11.out
 obtain ⟨Aa12, ca12, rfl⟩ := RdS.form1 H12.out
 clear Ak Bk H13 H14
 go_wp2_with fail
 go_loopw [35] (fun iv wr => ∃ i : Nat, iv = .int .i64 (i : Nat) ∧ i ≤ Xq.length ∧ Mem w2 [] [] wr) (fun iv _ => Xq.length - (intOf iv).toNat)
 case atStart => exact ⟨0, rfl, by omega, HM⟩
 case round =>
  clear HM
  obtain ⟨i, rfl, hi, HM⟩ := hrel
  by_cases hlt : i < Xq.length
  ·have hlt1 : (i : Int) < Xq.length := by omega
   obtain ⟨x, hx⟩ : ∃ x : JQ, Xq[i]? = some x.c := by
    obtain ⟨x, hx⟩ := Qq.out _ (List.getElem_mem hlt)
    exact z9_199
   obtain ⟨b1, off1, cs1, c1, e1, hb1, hc1⟩ := RdS.get H1.out hx
   obtain ⟨b2, off2, cs2, c2, e2, hb2, hc2⟩ := RdS.get H2.out hx
   injection e1 with e11 e12 e13
   injection e2 with e21 e22 e23
   subst e11 e21
   have k1 : LA 45 cs1 (off1 + i * 72) (.agg x.c) := la_in (n := 72) Zk Zk x.size hc1 Zd
   have k2 : LA 45 cs2 (off2 + i * 72) (.agg x.c) := la_in (n := 72) Zk Zk x.size hc2 Zd
   have HB1 := Zi hb1
   have HB2 := Zi hb2
   have E := JQ.eq9 x x
   rw [JQ.b_self] at E
   clear hx hb1 hb2 hc1 hc2 e12 e13 e22 e23
   go_upto_region 22 with fail
   exact z9_200
  ·obtain rfl : i = Xq.length := by omega
   go_wp2_with fail
   go_loopw [36] (fun iv wr => ∃ i : Nat, iv = .int .i64 (i : Nat) ∧ i ≤ Xa.length ∧ Mem w2 [] [] wr) (fun iv _ => Xa.length - (intOf iv).toNat)
   case atStart => exact ⟨0, rfl, by omega, HM⟩
   case round =>
    clear HM
    obtain ⟨i, rfl, hi, HM⟩ := hrel
    by_cases hlt : i < Xa.length
    ·have hlt1 : (i : Int) < Xa.length := by omega
     obtain ⟨x, hx⟩ : ∃ x : JA, Xa[i]? = some x.c := by
      obtain ⟨x, hx⟩ := Qa.out _ (List.getElem_mem hlt)
      exact z9_199
     obtain ⟨b1, off1, cs1, c1, e1, hb1, hc1⟩ := RdS.get H3.out hx
     obtain ⟨b2, off2, cs2, c2, e2, hb2, hc2⟩ := RdS.get H4.out hx
     injection e1 with e11 e12 e13
     injection e2 with e21 e22 e23
     subst e11 e21
     have k1 : LA 47 cs1 (off1 + i * 76) (.agg x.c) := la_in (n := 76) Zk Zk x.size hc1 Zd
     have k2 : LA 47 cs2 (off2 + i * 76) (.agg x.c) := la_in (n := 76) Zk Zk x.size hc2 Zd
     have HB1 := Zi hb1
     have HB2 := Zi hb2
     have E := JA.eq9 x x
     rw [JA.b_self] at E
     clear hx hb1 hb2 hc1 hc2 e12 e13 e22 e23
     go_upto_region 27 with fail
     exact z9_200
    ·obtain rfl : i = Xa.length := by omega
     go_wp2_with fail
     go_loopw [37] (fun iv wr => ∃ i : Nat, iv = .int .i64 (i : Nat) ∧ i ≤ Xe.length ∧ Mem w2 [] [] wr) (fun iv _ => Xe.length - (intOf iv).toNat)
     case atStart => exact ⟨0, rfl, by omega, HM⟩
     case round =>
      clear HM
      obtain ⟨i, rfl, hi, HM⟩ := hrel
      by_cases hlt : i < Xe.length
      ·have hlt1 : (i : Int) < Xe.length := by omega
       obtain ⟨x, hx⟩ : ∃ x : JE, Xe[i]? = some x.c := by
        obtain ⟨x, hx⟩ := Qe.out _ (List.getElem_mem hlt)
        exact z9_199
       obtain ⟨b1, off1, cs1, c1, e1, hb1, hc1⟩ := RdS.get H5.out hx
       obtain ⟨b2, off2, cs2, c2, e2, hb2, hc2⟩ := RdS.get H6.out hx
       injection e1 with e11 e12 e13
       injection e2 with e21 e22 e23
       subst e11 e21
       have k1 : LA 49 cs1 (off1 + i * 10) (.agg x.c) := la_in (n := 10) Zk Zk x.size hc1 Zd
       have k2 : LA 49 cs2 (off2 + i * 10) (.agg x.c) := la_in (n := 10) Zk Zk x.size hc2 Zd
       have HB1 := Zi hb1
       have HB2 := Zi hb2
       have E := JE.eq9 x x
       rw [JE.b_self] at E
       clear hx hb1 hb2 hc1 hc2 e12 e13 e22 e23
       go_upto_region 32 with fail
       exact z9_200
      ·obtain rfl : i = Xe.length := by omega
       go_wp2_with fail
       go_loopw [38] (fun iv wr => ∃ i : Nat, iv = .int .i64 (i : Nat) ∧ i ≤ Xo.length ∧ Mem w2 [] [] wr) (fun iv _ => Xo.length - (intOf iv).toNat)
       case atStart => exact ⟨0, rfl, by omega, HM⟩
       case round =>
        clear HM
        obtain ⟨i, rfl, hi, HM⟩ := hrel
        by_cases hlt : i < Xo.length
        ·have hlt1 : (i : Int) < Xo.length := by omega
         obtain ⟨x, hx⟩ : ∃ x : JO, Xo[i]? = some x.c := by
          obtain ⟨x, hx⟩ := Qo.out _ (List.getElem_mem hlt)
          exact z9_199
         obtain ⟨b1, off1, cs1, c1, e1, hb1, hc1⟩ := RdS.get H7.out hx
         obtain ⟨b2, off2, cs2, c2, e2, hb2, hc2⟩ := RdS.get H8.out hx
         injection e1 with e11 e12 e13
         injection e2 with e21 e22 e23
         subst e11 e21
         have k1 : LA 53 cs1 (off1 + i * 11) (.agg x.c) := la_in (n := 11) Zk Zk x.size hc1 Zd
         have k2 : LA 53 cs2 (off2 + i * 11) (.agg x.c) := la_in (n := 11) Zk Zk x.size hc2 Zd
         have HB1 := Zi hb1
         have HB2 := Zi hb2
         have E := JO.eq9 x x
         rw [JO.b_self] at E
         clear hx hb1 hb2 hc1 hc2 e12 e13 e22 e23
         go_upto_region 37 with fail
         exact z9_200
        ·obtain rfl : i = Xo.length := by omega
         go_wp2_with fail
         go_loopw [39] (fun iv wr => ∃ i : Nat, iv = .int .i64 (i : Nat) ∧ i ≤ Xt.length ∧ Mem w2 [] [] wr) (fun iv _ => Xt.length - (intOf iv).toNat)
         case atStart => exact ⟨0, rfl, by omega, HM⟩
         case round =>
          clear HM
          obtain ⟨i, rfl, hi, HM⟩ := hrel
          by_cases hlt : i < Xt.length
          ·have hlt1 : (i : Int) < Xt.length := by omega
           obtain ⟨x, hx⟩ : ∃ x : JT, Xt[i]? = some x.c := by
            obtain ⟨x, hx⟩ := Qt.out _ (List.getElem_mem hlt)
            exact z9_199
           obtain ⟨b1, off1, cs1, c1, e1, hb1, hc1⟩ := RdS.get H9.out hx
           obtain ⟨b2, off2, cs2, c2, e2, hb2, hc2⟩ := RdS.get H10.out hx
           injection e1 with e11 e12 e13
           injection e2 with e21 e22 e23
           subst e11 e21
           have k1 : LA 55 cs1 (off1 + i * 11) (.agg x.c) := la_in (n := 11) Zk Zk x.size hc1 Zd
           have k2 : LA 55 cs2 (off2 + i * 11) (.agg x.c) := la_in (n := 11) Zk Zk x.size hc2 Zd
           have HB1 := Zi hb1
           have HB2 := Zi hb2
           have E := JT.eq9 x x
           rw [JT.b_self] at E
           clear hx hb1 hb2 hc1 hc2 e12 e13 e22 e23
           go_upto_region 42 with fail
           exact z9_200
          ·obtain rfl : i = Xt.length := by omega
           go_wp2_with fail
           go_loopw [40] (fun iv wr => ∃ i : Nat, iv = .int .i64 (i : Nat) ∧ i ≤ Xs.length ∧ Mem w2 [] [] wr) (fun iv _ => Xs.length - (intOf iv).toNat)
           case atStart => exact ⟨0, rfl, by omega, HM⟩
           case round =>
            clear HM
            obtain ⟨i, rfl, hi, HM⟩ := hrel
            by_cases hlt : i < Xs.length
            ·have hlt1 : (i : Int) < Xs.length := by omega
             obtain ⟨x, hx⟩ : ∃ x : JS, Xs[i]? = some x.c := by
              obtain ⟨x, hx⟩ := Qs.out _ (List.getElem_mem hlt)
              exact z9_199
             obtain ⟨b1, off1, cs1, c1, e1, hb1, hc1⟩ := RdS.get H11.out hx
             obtain ⟨b2, off2, cs2, c2, e2, hb2, hc2⟩ := RdS.get H12.out hx
             injection e1 with e11 e12 e13
             injection e2 with e21 e22 e23
             subst e11 e21
             have k1 : LA 57 cs1 (off1 + i * 6) (.agg x.c) := la_in (n := 6) Zk Zk x.size hc1 Zd
             have k2 : LA 57 cs2 (off2 + i * 6) (.agg x.c) := la_in (n := 6) Zk Zk x.size hc2 Zd
             have HB1 := Zi hb1
             have HB2 := Zi hb2
             have E := JS.eq9 x x
             rw [JS.b_self] at E
             clear hx hb1 hb2 hc1 hc2 e12 e13 e22 e23
             go_upto_region 47 with fail
             exact z9_200
            ·obtain rfl : i = Xs.length := by omega
             go_wp2_with fail
             go_ret
             exact ⟨rfl, below_seq HW.out HM.low⟩
end
section
theorem z9_201 {P : Prop} (h : P := by
 refine bodyPost_ret (r_c rfl rfl (HM.get Zl) lx) rfl ⟨rfl, HM.low⟩) : P := h
end
section
open Jb
section
variable {ops : Array Oper} {rest : List Oper} {a : Act} {w w0 : World} {X : List Nat} {L : List (Nat × Array Value)} {Q : Exit → Act → World → Prop} {d : Option Tmp} {ty t tx e : TypeId} {n by_ : Nat} {ps : String} {af : Array Edge} {g : Option (Nat × Bool)} {x y : Operand}
theorem g_bs7 {x0 x1 x2 x3 x4 x5 x6 : Operand} (h : OpG ops Q rest a w { dst := d, op := .buildSlice t 7 #[(0, x0), (1, x1), (2, x2), (3, x3), (4, x4), (5, x5), (6, x6)], type := ty, pos := ps, after := af, guard := g }) : wpList Tryz.prog ops Q ({ dst := d, op := .buildSlice t 7 #[(0, x0), (1, x1), (2, x2), (3, x3), (4, x4), (5, x5), (6, x6)], type := ty, pos := ps, after := af, guard := g } :: rest) a w := h
theorem a_bs7 {x0 x1 x2 x3 x4 x5 x6 : Operand} {v0 v1 v2 v3 v4 v5 v6 : Value} {c0 c1 c2 c3 c4 c5 c6 : Array Value} {a2 : Nat → Act} (HM : Mem w0 X L w) (h : ∀ b w', Mem w0 X ((b, rowsOf [c0, c1, c2, c3, c4, c5, c6]) :: L) w' → wpList Tryz.prog ops Q rest (a2 b) w') (hT : elemB t e n by_ = true := by with_reducible assumption) (hw : WantT ops { dst := d, op := .buildSlice t 7 #[(0, x0), (1, x1), (2, x2), (3, x3), (4, x4), (5, x5), (6, x6)], type := ty, pos := ps, after := af, guard := g } a := by first | exact Or.inl rfl | exact Or.inr ⟨_, _, _, rfl, rfl, rfl⟩) (h0 : a.eval x0 = v0 := by (conv => lhs; whnf) <;> rfl) (k0 : v0.cells = c0 := by (conv => lhs; whnf) <;> rfl) (z0 : c0.size = n := by (first | assumption | rfl)) (h1 : a.eval x1 = v1 := by (conv => lhs; whnf) <;> rfl) (k1 : v1.cells = c1 := by (conv => lhs; whnf) <;> rfl) (z1 : c1.size = n := by (first | assumption | rfl)) (h2 : a.eval x2 = v2 := by (conv => lhs; whnf) <;> rfl) (k2 : v2.cells = c2 := by (conv => lhs; whnf) <;> rfl) (z2 : c2.size = n := by (first | assumption | rfl)) (h3 : a.eval x3 = v3 := by (conv => lhs; whnf) <;> rfl) (k3 : v3.cells = c3 := by (conv => lhs; whnf) <;> rfl) (z3 : c3.size = n := by (first | assumption | rfl)) (h4 : a.eval x4 = v4 := by (conv => lhs; whnf) <;> rfl) (k4 : v4.cells = c4 := by (conv => lhs; whnf) <;> rfl) (z4 : c4.size = n := by (first | assumption | rfl)) (h5 : a.eval x5 = v5 := by (conv => lhs; whnf) <;> rfl) (k5 : v5.cells = c5 := by (conv => lhs; whnf) <;> rfl) (z5 : c5.size = n := by (first | assumption | rfl)) (h6 : a.eval x6 = v6 := by (conv => lhs; whnf) <;> rfl) (k6 : v6.cells = c6 := by (conv => lhs; whnf) <;> rfl) (z6 : c6.size = n := by (first | assumption | rfl)) (hn : 7 * n ≤ 16777216 := by decide) (ha : ∀ b, a.put d (.slice (some ⟨b, 0, none⟩) 7 7) = a2 b := by intro b; ((try simp only [Act.put, Za, Zx, Zy]) <;> rfl)) : OpG ops Q rest a w { dst := d, op := .buildSlice t 7 #[(0, x0), (1, x1), (2, x2), (3, x3), (4, x4), (5, x5), (6, x6)], type := ty, pos := ps, after := af, guard := g } := by
 obtain ⟨i, z, hE⟩ := elemT hT
 refine wpList_step fun K9 hK => ?_
 rw [if_pos hw.wanted]
 have hr := run_bs hE [v0, v1, v2, v3, v4, v5, v6] (by simp [k0, z0, k1, z1, k2, z2, k3, z3, k4, z4, k5, z5, k6, z6]) hn (parts := #[(0, v0), (1, v1), (2, v2), (3, v3), (4, v4), (5, v5), (6, v6)]) rfl w
 unfold Oper.wp
 simp [execOp, List.map_cons, List.map_nil, h0, h1, h2, h3, h4, h5, h6, k0, k1, k2, k3, k4, k5, k6] at hr ⊢
 exact z9_17
end
namespace Jb
def su (k : Int) : JR := { JR.zero with kd := 6, s := ⟨{ data := #[117] }, { data := #[97, 108, 112, 104, 97] }, 1, 2, k, false⟩ }
def sd (kd day : Int) : JR := { JR.zero with kd := kd, day := day }
def L0 : List JR := [su 1, su 2, sd 7 10, su 4, sd 7 20, su 6, sd 8 15]
theorem su_right (k : Int) (h : known k = true) : (su k).right = true := by
 have h1 : (su k).only = su k := rfl
 have h2 : (su k).kind = (su k).s.right := rfl
 have h3 : (if (su k).kd = 3 then name (su k).fnd else decide ((su k).fnd.size = 0)) = true := rfl
 unfold JR.right
 rw [h3, h1, JR.b_self, h2]
 unfold JS.right
 have h4 : name (su k).s.key = true := by show name { data := #[117] } = true; decide +kernel
 have h5 : name (su k).s.fnd = true := by show name { data := #[97, 108, 112, 104, 97] } = true; decide +kernel
 have h6 : known (su k).s.kn = true := h
 have h7 : (su k).s.vd = false := rfl
 have h8 : (su k).s.fr = 1 := rfl
 have h9 : (su k).s.tl = 2 := rfl
 rw [h4, h5, h6, h7, h8, h9]
 rfl
theorem sd_right (kd day : Int) (h : kd = 7 ∨ kd = 8) (hd : Dt.isDay day = true) : (sd kd day).right = true := by
 have h1 : (sd kd day).only = sd kd day := by rcases h with rfl | rfl <;> rfl
 have h2 : (sd kd day).kind = Dt.isDay day := by rcases h with rfl | rfl <;> rfl
 have h3 : (if (sd kd day).kd = 3 then name (sd kd day).fnd else decide ((sd kd day).fnd.size = 0)) = true := by rcases h with rfl | rfl <;> rfl
 unfold JR.right
 rw [h3, h1, JR.b_self, h2, hd]
 rfl
theorem chk_u {r : JR} {l : List JR} {i c : Nat} {last : Int} (h : r.right = true) (hk : r.known ((i + 1 : Nat) : Int) = ((i + 1 : Nat) : Int)) (h8 : r.kd ≠ 8) (h7 : r.kd ≠ 7) : Jb.chk (r :: l) i last c = Jb.chk l (i + 1) last c := by
 rw [Jb.chk, if_pos h, if_pos hk, if_neg (fun e => h8 e.1), if_neg h7]
theorem chk_7 {r : JR} {l : List JR} {i c : Nat} {last : Int} (h : r.right = true) (hk : r.known ((i + 1 : Nat) : Int) = ((i + 1 : Nat) : Int)) (h7 : r.kd = 7) (hd : last < r.day) (hc : c + 1 ≤ 64) : Jb.chk (r :: l) i last c = Jb.chk l (i + 1) r.day (c + 1) := by
 rw [Jb.chk, if_pos h, if_pos hk, if_neg (fun e => by rw [h7] at e; exact absurd e.1 Zd), if_pos h7, if_neg Zo]
theorem chk_8 {r : JR} {l : List JR} {i c : Nat} {last : Int} (h : r.right = true) (hk : r.known ((i + 1 : Nat) : Int) = ((i + 1 : Nat) : Int)) (h8 : r.kd = 8) (hd : r.day ≤ last) : Jb.chk (r :: l) i last c = Jb.chk l (i + 1) last c := by
 rw [Jb.chk, if_pos h, if_pos hk, if_neg (fun e => by omega), if_neg (by rw [h8]; decide)]
theorem L0_check : Jb.check L0 = 0 := by
 unfold Jb.check
 rw [if_neg Zd]
 unfold L0
 rw [chk_u (su_right 1 Zd) rfl Zd Zd, chk_u (su_right 2 Zd) rfl Zd Zd, chk_7 (sd_right 7 10 (.inl rfl) Zd) rfl rfl Zd Zd, chk_u (su_right 4 Zd) rfl Zd Zd, chk_7 (sd_right 7 20 (.inl rfl) Zd) rfl rfl Zd Zd, chk_u (su_right 6 Zd) rfl Zd Zd, chk_8 (sd_right 8 15 (.inr rfl) Zd) rfl rfl Zd, Jb.chk]
theorem L0_err (k : Int) (h : known k = true) : Jb.err L0 k = 0 := by
 unfold Jb.err
 rw [if_pos L0_check, if_pos h]
theorem L0_8 : Jb.clos L0 8 = [⟨10, 3, 3⟩, ⟨20, 5, 7⟩] := rfl
theorem L0_6 : Jb.clos L0 6 = [⟨10, 3, 3⟩, ⟨20, 5, 5⟩] := rfl
theorem L0_4 : ((Jb.take L0 4 (fun r => decide (r.kd = 6))).map fun r => r.s.c).length = 3 := rfl
theorem L0_wf : ∀ r ∈ L0, r.wf := by
 intro r hr
 have hs : ∀ k, (su k).wf := fun k => (by unfold JR.wf JQ.wf JA.wf JE.wf JO.wf JT.wf JS.wf JK.wf; decide +kernel : (su 0).wf)
 have hd : ∀ k d, (sd k d).wf := fun k d => (by unfold JR.wf JQ.wf JA.wf JE.wf JO.wf JT.wf JS.wf JK.wf; decide +kernel : (sd 0 0).wf)
 simp only [L0, List.mem_cons, List.not_mem_nil, or_false] at hr
 rcases hr with rfl | rfl | rfl | rfl | rfl | rfl | rfl <;> first | exact hs _ | exact hd _ _
end Jb
theorem awk1_any (k : Int) (w : World) : Calls Tryz.prog 30 #[.int .i64 k] w fun e w' => e = .returned (.agg (JR.c (Jb.su k))) ∧ Below w.heap.size w w' := by
 have HM := Mem.start w
 have HS := fun w => JS.bld (parts := #[(0, .string { data := #[117] }), (1, .string { data := #[97, 108, 112, 104, 97] }), (2, .int .i64 1), (3, .int .i64 2), (4, .int .i64 k)]) (r := (Jb.su k).s) (by simp [Value.cells]) (by rw [JS.rows]; rfl) w
 have HB := fun w => JR.bld (parts := #[(0, .int .i64 6), (8, .agg (Jb.su k).s.c)]) (r := Jb.su k) (by simp [Value.cells, JS.size]) (by rw [JR.rows]; rfl) w
 have za0 := JR.za
 have sx := (Jb.su k).sa JR.zero.size
 have lx := (Jb.su k).la
 go_enter Tryz.func30, Tryz.ntmps30
 go_wp2_with (first | ((with_reducible refine g_bld ?_); refine a_rbl (v := .agg (Jb.su k).s.c) ?_ (hy := h_bg5 rfl Zw Zw Zw Zw Zw (by with_reducible exact (HS)))) | ((with_reducible refine g_bld ?_); refine a_rbl (v := .agg (Jb.su k).c) ?_ (hy := h_bg2 rfl Zw Zw (by with_reducible exact (HB)))) | ((with_reducible refine g_st ?_); refine a_st HM ?_; clear HM; intro w1 HM) | ((with_reducible refine g_al ?_); refine a_al HM ?_; clear HM; intro bk w1 HM))
 exact z9_201
theorem days_any (kd day : Int) (w : World) : Calls Tryz.prog 18 #[.int .i64 kd, .int .i64 day] w fun e w' => e = .returned (.agg (JR.c (Jb.sd kd day))) ∧ Below w.heap.size w w' := by
 have HM := Mem.start w
 have HB := fun w => JR.bld (parts := #[(0, .int .i64 kd), (2, .int .i64 day)]) (r := Jb.sd kd day) (by simp [Value.cells]) (by rw [JR.rows]; rfl) w
 have za0 := JR.za
 have sx := (Jb.sd kd day).sa JR.zero.size
 have lx := (Jb.sd kd day).la
 go_enter Tryz.func18, Tryz.ntmps18
 go_wp2_with (first | ((with_reducible refine g_bld ?_); refine a_rbl (v := .agg (Jb.sd kd day).c) ?_ (hy := h_bg2 rfl Zw Zw (by with_reducible exact (HB)))) | ((with_reducible refine g_st ?_); refine a_st HM ?_; clear HM; intro w1 HM) | ((with_reducible refine g_al ?_); refine a_al HM ?_; clear HM; intro bk w1 HM))
 exact z9_201
theorem awake37_any (w : World) : Calls Tryz.prog 12 #[] w fun e w' => e = .returned (.bool true) ∧ Below w.heap.size w w' := by
 have HM := Mem.start w
 have er := jr_el
 have ec := jc_el
 have z1 := (Jb.su 1).size
 have z2 := (Jb.su 2).size
 have z3 := (Jb.sd 7 10).size
 have z4 := (Jb.su 4).size
 have z5 := (Jb.sd 7 20).size
 have z6 := (Jb.su 6).size
 have z7 := (Jb.sd 8 15).size
 go_enter Tryz.func12, Tryz.ntmps12
 go_upto_region 3 with (first | ((first | (go_at_call 30; with_reducible refine (awk1_any 1 _).mono ?_) | (go_at_call 30; with_reducible refine (awk1_any 2 _).mono ?_) | (go_at_call 30; with_reducible refine (awk1_any 4 _).mono ?_) | (go_at_call 30; with_reducible refine (awk1_any 6 _).mono ?_) | (go_at_call 18; with_reducible refine (days_any 7 10 _).mono ?_) | (go_at_call 18; with_reducible refine (days_any 7 20 _).mono ?_) | (go_at_call 18; with_reducible refine (days_any 8 15 _).mono ?_)); rintro e9 w2 ⟨rfl, hL⟩; replace HM := HM.call hL; clear hL) | ((with_reducible refine g_bs7 ?_); refine a_bs7 HM ?_; clear HM; intro b9 w9 HM))
 have HR : Hid (RdR w9 (.slice (some ⟨b9, 0, none⟩) 7 7) Jb.L0) := Zi ⟨(SlAt.made (n := 189) b9 (Jb.L0.map JR.c) (by intro c hc; obtain ⟨r, _, rfl⟩ := List.mem_map.1 hc; exact r.size)).rd HM (by intro p hp; exact hp), Jb.L0_wf, by decide⟩
 have HW := Zi HM.low
 clear HM
 have HM := Mem.start w9
 have E8 : Jb.err Jb.L0 8 = 0 := Jb.L0_err 8 Zd
 have E6 : Jb.err Jb.L0 6 = 0 := Jb.L0_err 6 Zd
 have E4 : Jb.err Jb.L0 4 = 0 := Jb.L0_err 4 Zd
 have C8 := fun w (h : RdR w (.slice (some ⟨b9, 0, none⟩) 7 7) Jb.L0) => jclos_any _ _ 8 w h
 rw [E8, if_pos rfl, Jb.L0_8] at C8
 have C6 := fun w (h : RdR w (.slice (some ⟨b9, 0, none⟩) 7 7) Jb.L0) => jclos_any _ _ 6 w h
 rw [E6, if_pos rfl, Jb.L0_6] at C6
 have C4 := fun w (h : RdR w (.slice (some ⟨b9, 0, none⟩) 7 7) Jb.L0) => get_s _ _ 4 w h
 rw [E4, if_pos rfl] at C4
 have l4 := Jb.L0_4
 generalize ((Jb.take Jb.L0 4 (fun r => decide (r.kd = 6))).map fun r => r.s.c) = X4 at C4 l4
 clear E8 E6 E4 z1 z2 z3 z4 z5 z6 z7 er
 go_upto_region 4 with (go_at_call 11; refine (C8 _ HR.out).mono ?_; rintro e9 w2 ⟨⟨s8, rfl, H8⟩, hL⟩; replace HR := Zi (HR.out.below hL); replace HW := Zi (below_seq HW.out hL); clear hL HM; have HM := Mem.start w2)
 go_upto_region 5 with (go_at_call 11; refine (C6 _ HR.out).mono ?_; rintro e9 w3 ⟨⟨s6, rfl, H6⟩, hL⟩; replace HR := Zi (HR.out.below hL); replace H8 := Zu H8 hL; replace HW := Zi (below_seq HW.out hL); clear hL HM; have HM := Mem.start w3)
 go_upto_region 6 with (go_at_call 31; refine (C4 _ HR.out).mono ?_; rintro e9 w4 ⟨⟨s4, rfl, H4⟩, hL⟩; replace H8 := Zu H8 hL; replace H6 := Zu H6 hL; replace HW := Zi (below_seq HW.out hL); clear hL HM; have HM := Mem.start w4)
 obtain ⟨A4, c4, rfl⟩ := RdS.form1 H4.out
 rw [l4]
 clear C8 C6 C4 HR H4 l4
 have B1 := fun w => JC.build 10 3 3 w
 have B2 := fun w => JC.build 20 5 7 w
 have B3 := fun w => JC.build 20 5 5 w
 have y1 := JC.size ⟨10, 3, 3⟩
 have y2 := JC.size ⟨20, 5, 7⟩
 have y3 := JC.size ⟨20, 5, 5⟩
 have S8 := fun b w' (HM : Mem w4 [] [(b, rowsOf [JC.c ⟨10, 3, 3⟩, JC.c ⟨20, 5, 7⟩])] w') => same37_any s8 (.slice (some ⟨b, 0, none⟩) 2 2) [⟨10, 3, 3⟩, ⟨20, 5, 7⟩] w' (H8.out.below HM.low) ((SlAt.made (n := 3) b [JC.c ⟨10, 3, 3⟩, JC.c ⟨20, 5, 7⟩] (by simp [JC.size])).rd HM (by intro p hp; exact hp)) Zd
 have S6 := fun b b' cs w' (HM : Mem w4 [] [(b, rowsOf [JC.c ⟨10, 3, 3⟩, JC.c ⟨20, 5, 5⟩]), (b', cs)] w') => same37_any s6 (.slice (some ⟨b, 0, none⟩) 2 2) [⟨10, 3, 3⟩, ⟨20, 5, 5⟩] w' (H6.out.below HM.low) ((SlAt.made (n := 3) b [JC.c ⟨10, 3, 3⟩, JC.c ⟨20, 5, 5⟩] (by simp [JC.size])).rd HM (by intro p hp; rw [List.mem_singleton.1 hp]; exact List.mem_cons_self ..)) Zd
 go_wp2_with (first | ((with_reducible refine g_bld ?_); refine a_rbl (v := .agg (JC.c ⟨10, 3, 3⟩)) ?_ (hy := h_bg3 rfl Zw Zw Zw (by with_reducible exact (B1)))) | ((with_reducible refine g_bld ?_); refine a_rbl (v := .agg (JC.c ⟨20, 5, 7⟩)) ?_ (hy := h_bg3 rfl Zw Zw Zw (by with_reducible exact (B2)))) | ((with_reducible refine g_bld ?_); refine a_rbl (v := .agg (JC.c ⟨20, 5, 5⟩)) ?_ (hy := h_bg3 rfl Zw Zw Zw (by with_reducible exact (B3)))) | ((with_reducible refine g_bs2 ?_); refine a_bs2 HM ?_; clear HM; intro b9 w9 HM) | ((first | (go_at_call 14; with_reducible refine (S8 _ _ HM).mono ?_) | (go_at_call 14; with_reducible refine (S6 _ _ _ _ HM).mono ?_)); rintro e9 w2 ⟨rfl, hL⟩; replace HM := HM.call hL; clear hL))
 go_ret
 exact ⟨rfl, below_seq HW.out HM.low⟩
end
section
theorem z9_202 {P : Prop} (h : P := by
 go_enter Tryz.func5, Tryz.ntmps5
 go_wp2_with ((first | (go_at_call 16; with_reducible refine (T _ HM.low).mono ?_) | (go_at_call 12; with_reducible refine (awake37_any _).mono ?_)); rintro e9 w2 ⟨rfl, hL⟩; replace HM := HM.call hL; clear hL)
 go_ret
 exact ⟨rfl, HM.low⟩) : P := h
end
section
theorem jtells_any (sv : Value) (L : List JR) (k : Int) (fund : ByteArray) (W : World) (hR : RdR W sv L) (_ : -9223372036854775808 ≤ k) (_ : k < 9223372036854775808) (hf : fund.size ≤ 9223372036854775807) :
    Calls Tryz.prog 5 #[sv, .int .i64 k, .string fund] W fun e w' => e = .returned (.bool true) ∧ Below W.heap.size W w' := by
 have HM := Mem.start W
 have T := fun w' hB => tells_any sv L k fund hf w' (hR.below hB)
 obtain ⟨A, cap, rfl⟩ := hR.form
 have hLm := hR.2.2
 clear hR
 by_cases h1 : 12 < L.length
 case neg =>
  have h2 : decide ((12 : Int) < L.length) = false := Zf Zo
  exact z9_202
 case pos =>
  have h2 : decide ((12 : Int) < L.length) = true := Zt Zo
  by_cases h3 : L.length ≤ 4096
  ·have h4 : decide ((L.length : Int) ≤ 4096) = true := Zt Zo
   go_enter Tryz.func5, Tryz.ntmps5
   go_wp2_with (go_at_call 12; (with_reducible refine Zc HM (awake37_any _) ?_; clear HM; intro w2 HM))
   go_ret
   exact ⟨rfl, HM.low⟩
  ·have h4 : decide ((L.length : Int) ≤ 4096) = false := Zf Zo
   exact z9_202
end
end Go.Proofs.YtkiempioeffhbaaGreatDoor
