/- Walks. -/
import Derived.Test.YtkiempioeffhbaaGreatDoorPg32
namespace Go.Proofs.YtkiempioeffhbaaGreatDoor
set_option maxHeartbeats 16000000
open Go.RowKit
set_option maxRecDepth 8000
set_option linter.unusedSimpArgs false
set_option linter.unusedVariables false
section
namespace Jb
theorem clos_pre {l : List JR} {m : Nat} (hm : m < l.length) (hl : l.length ≤ 999) : clos (l.take (m + 1)) 1000 = clos l (1 + (m : Int)) := by
 rw [clos_min l (1 + (m : Int)) (m := m + 1) Zo, clos_min (l.take (m + 1)) 1000 (m := m + 1) (by rw [List.length_take]; omega), List.take_take, Nat.min_self]
theorem take_pre {l : List JR} {m : Nat} (hm : m < l.length) (hl : l.length ≤ 999) (sel : JR → Bool) : Jb.take (l.take (m + 1)) 1000 sel = Jb.take l (1 + (m : Int)) sel := by
 rw [take_min l (1 + (m : Int)) sel (m := m + 1) Zo, take_min (l.take (m + 1)) 1000 sel (m := m + 1) (by rw [List.length_take]; omega), List.take_take, Nat.min_self]
theorem err_in {l : List JR} {k : Int} (h : check l = 0) (h1 : 1 ≤ k) (h2 : k ≤ 2147483647) : err l k = 0 := by
 unfold err known
 rw [h, if_pos rfl, Zt h1, Zt h2]; rfl
theorem check_pre {l : List JR} (h : check l = 0) (n : Nat) : check (l.take n) = 0 := by
 unfold check at h ⊢
 by_cases hl : 4096 < l.length
 ·rw [if_pos hl] at h; exact absurd h Zd
 rw [if_neg hl] at h
 rw [if_neg (by rw [List.length_take]; omega)]
 exact chk_take l n 0 (-1) 0 h
theorem ords_up : ∀ (M : List JR) (i : Nat), (∀ (j : Nat) (r : JR), M[j]? = some r → r.kd = 4 → r.o.kn = ((i + j + 1 : Nat) : Int)) → ((M.filter fun r => decide (r.kd = 4)).map (·.o)).Pairwise (fun a b : JO => a.kn < b.kn) ∧ ∀ x ∈ (M.filter fun r => decide (r.kd = 4)).map (·.o), (i : Int) < x.kn ∧ x.kn ≤ ((i + M.length : Nat) : Int)
 | [], i, _ => ⟨List.Pairwise.nil, fun x hx => by simp at hx⟩
 | r :: M, i, h => by
  have ih := ords_up M (i + 1) (fun j r hj h4 => by have := h (j + 1) r (by rw [List.getElem?_cons_succ]; exact hj) h4; omega)
  by_cases h4 : r.kd = 4
  ·rw [List.filter_cons_of_pos (by simpa using h4), List.map_cons]
   have h0 := h 0 r rfl h4
   refine ⟨List.pairwise_cons.2 ⟨fun x hx => by have := (ih.2 x hx).1; omega, ih.1⟩, ?_⟩
   intro x hx
   rcases List.mem_cons.1 hx with rfl | hx
   ·simp only [List.length_cons]; omega
   ·have := ih.2 x hx; simp only [List.length_cons]; omega
  ·rw [List.filter_cons_of_neg (by simpa using h4)]
   exact ⟨ih.1, fun x hx => by have := ih.2 x hx; simp only [List.length_cons]; omega⟩
structure Bk (O : List JO) (k : Int) : Prop where
 wf : ∀ x ∈ O, x.wf
 ok : ∀ x ∈ O, x.right = true
 up : O.Pairwise (fun a b : JO => a.kn < b.kn)
 le : ∀ x ∈ O, x.kn ≤ k
theorem Bk.at_ {O : List JO} {k : Int} (h : Bk O k) {i : Nat} {x : JO} (hx : O[i]? = some x) : x.wf ∧ x.right = true ∧ x.kn ≤ k :=
 ⟨h.wf x (List.mem_of_getElem? hx), h.ok x (List.mem_of_getElem? hx), h.le x (List.mem_of_getElem? hx)⟩
theorem Bk.lt {O : List JO} {k : Int} (h : Bk O k) {i : Nat} {x y : JO} (hx : O[i]? = some x) (hy : O[i + 1]? = some y) : x.kn < y.kn := by
 obtain ⟨h1, e1⟩ := List.getElem?_eq_some_iff.1 hx
 obtain ⟨h2, e2⟩ := List.getElem?_eq_some_iff.1 hy
 rw [← e1, ← e2]
 exact List.pairwise_iff_getElem.1 h.up i (i + 1) h1 h2 Zo
theorem bk_pre {l : List JR} {m : Nat} (hc : check l = 0) (hw : ∀ r ∈ l, r.wf) (hm : m < l.length) : Bk ((Jb.take l (1 + (m : Int)) (fun r => decide (r.kd = 4))).map (·.o)) (1 + (m : Int)) := by
 rw [take_min l (1 + (m : Int)) _ (m := m + 1) Zo]
 have hck : chk l 0 (-1) 0 = 0 := by
  unfold check at hc
  by_cases hl : 4096 < l.length
  ·rw [if_pos hl] at hc; exact absurd hc Zd
  ·rw [if_neg hl] at hc; exact hc
 have H := chk_at l 0 (-1) 0 hck
 have hin : ∀ (j : Nat) (r : JR), (l.take (m + 1))[j]? = some r → l[j]? = some r := by
  intro j r hj
  have hj1 : j < m + 1 := by
   have := (List.getElem?_eq_some_iff.1 hj).1
   rw [List.length_take] at this
   omega
  rwa [List.getElem?_take_of_lt hj1] at hj
 have U := ords_up (l.take (m + 1)) 0 (fun j r hj h4 => by
  have := (H j r (hin j r hj)).2
  unfold JR.known at this
  rw [if_neg Zo, if_neg Zo, if_neg Zo, if_pos h4] at this
  exact this)
 refine ⟨?_, ?_, U.1, ?_⟩
 ·intro x hx
  obtain ⟨r, hr, rfl⟩ := List.mem_map.1 hx
  have hr2 := List.mem_of_mem_take (List.mem_filter.1 hr).1
  exact (hw r hr2).2.2.2.2.1
 ·intro x hx
  obtain ⟨r, hr, rfl⟩ := List.mem_map.1 hx
  obtain ⟨hr2, h4⟩ := List.mem_filter.1 hr
  have h4 := of_decide_eq_true h4
  obtain ⟨j, hj⟩ := List.getElem?_of_mem (List.mem_of_mem_take hr2)
  have h := (H j r hj).1
  unfold JR.right at h
  rw [Bool.and_eq_true, Bool.and_eq_true] at h
  have h := h.2.2
  unfold JR.kind at h
  rwa [if_neg Zo, if_neg Zo, if_neg Zo, if_pos h4] at h
 ·intro x hx
  have := (U.2 x hx).2
  rw [List.length_take] at this
  omega
end Jb
end
section
theorem z9_157 {P : Prop} (h : P := by
 rw [g1] at g2
 injection g2 with g2
 injection g2 with g2
 exact g2.symm) : P := h
theorem z9_158 {P : Prop} (h : P := by
 go_wp2_with ((with_reducible refine g_ld ?_); refine a_ld HM ?_)
 go_ret
 exact ⟨rfl, HM.low⟩) : P := h
end
section
open Jb
theorem v_prev9 {T : TypeId} {x y : Operand} {j : Nat} (hj : j < 9223372036854775807) :
    ∀ w, (do eqGuard .sub T x y (.int .i64 ((j + 1 : Nat) : Int)) (.int .i64 1); binOp .sub T (.int .i64 ((j + 1 : Nat) : Int)) (.int .i64 1) : Sem Value).run Tryz.prog w = .ok (.int .i64 (j : Nat)) w :=
 v_arith (.inr (.inl ⟨rfl, by omega⟩)) (IntWalk.i64_in _ Zo)
theorem robook_any (O : List JO) (k : Int) (hb : Bk O k) (hn : O.length ≤ 4096) (sv : Value) (w : World) (hR : RdS 11 w sv (O.map JO.c)) :
    Calls Tryz.prog 15 #[sv] w fun e w' => e = .returned (.int .i64 0) ∧ Below w.heap.size w w' := by
 have HM := Mem.start w
 obtain ⟨A, cap, ef⟩ := RdS.form1 hR
 rw [List.length_map] at ef
 subst ef
 have HR := Zi hR
 have HK := Zi hb
 have za0 := JO.za
 clear hR hb
 go_enter Tryz.func15, Tryz.ntmps15
 have hnl : decide ((4096 : Int) < O.length) = false := Zf Zo
 go_wp2_with ((with_reducible refine g_ld ?_); refine a_ld HM ?_)
 clear hnl
 go_loopw [3] (fun iv wr => ∃ (i : Nat), iv = .int .i64 (i : Nat) ∧ i ≤ O.length ∧ Mem w [] [] wr) (fun iv _ => O.length - (intOf iv).toNat)
 case atStart => exact ⟨0, rfl, by omega, HM⟩
 case round =>
  clear HM
  obtain ⟨i, rfl, hi, HM⟩ := hrel
  by_cases hlt : i < O.length
  ·have hlt1 : (i : Int) < O.length := by omega
   obtain ⟨x, hx⟩ : ∃ x, O[i]? = some x := ⟨_, List.getElem?_eq_getElem hlt⟩
   obtain ⟨hw, hr, hk⟩ := HK.out.at_ hx
   obtain ⟨b, off, cs, c1, e1, hb1, hc1⟩ := RdS.get HR.out (k := i) (c := x.c) (by rw [List.getElem?_map, hx]; rfl)
   injection e1 with e11 e12 e13
   subst e11
   have k1 : LA 53 cs (off + i * 11) (.agg x.c) := la_in (n := 11) Zk Zk x.size hc1 Zd
   have k2 : LA 3 cs (off + i * 11 + 9) (.int .i64 x.kn) := LA.inRow x.f_kn Zk hc1 Zd
   have HB := Zi hb1
   have C1 := fun w => rcheck23_any x hw w
   rw [if_pos hr] at C1
   have sx := x.sa JO.zero.size
   have lx := x.la
   clear hb1 hc1 hw hr hk e12 e13
   rcases Nat.eq_zero_or_pos i with h0 | h0
   ·have hi0 : decide ((0 : Int) < i) = false := Zf Zo
    have hi0n : decide (0 < i) = false := Zf Zo
    clear h0 hx
    go_upto_region 9 with (first | (go_at_call 34; (with_reducible refine Zc HM (C1 _) ?_; clear HM; intro w2 HM)) | ((with_reducible refine g_ld ?_); refine a_ld HM ?_))
    refine start_M2 [] HM (Sub.nil) Zk (fun w0x H9 => ?_)
    replace HM := H9; clear H9
    refine k_mv 0 (heldE HM) ?_
    refine k_bin 1 (heldE HM) ?_
    refine k_mv 2 (heldE HM) ?_
    refine k_off 3 (heldE HM) ?_
    refine k_off 4 (heldE HM) ?_
    refine k_off 5 (heldE HM) ?_
    refine k_off 6 (heldE HM) ?_
    refine k_off 7 (heldE HM) ?_
    refine k_off 8 (heldE HM) ?_
    refine k_off 9 (heldE HM) ?_
    refine k_off 10 (heldE HM) ?_
    refine k_off 11 (heldE HM) ?_
    refine k_off 12 (heldE HM) ?_
    refine k_off 13 (heldE HM) ?_
    refine k_off 14 (heldE HM) ?_
    refine k_pick 15 (heldE HM) ?_
    refine wpAnyL_done Zk ?_ _
    (go_wp2_with ((with_reducible refine g_ld ?_); refine a_ld HM ?_); go_roundw; (case rel => exact ⟨i + 1, by go_num, by omega, HM.pick⟩); (case measure => simp [intOf]; omega))
   ·obtain ⟨j, rfl⟩ : ∃ j, i = j + 1 := ⟨i - 1, by omega⟩
    obtain ⟨y, hy⟩ : ∃ y, O[j]? = some y := ⟨_, List.getElem?_eq_getElem Zo⟩
    have hyx := HK.out.lt hy hx
    obtain ⟨b2, off2, cs2, c2, e2, hb2, hc2⟩ := RdS.get HR.out (k := j) (c := y.c) (by rw [List.getElem?_map, hy]; rfl)
    injection e2 with e21 e22 e23
    injection e21 with e21
    injection e21 with e21 e24
    subst e21 e24
    have ecs : cs2 = cs := by
     obtain ⟨t1, f1, g1⟩ := HB.out
     obtain ⟨t2, f2, g2⟩ := hb2
     exact z9_157
    subst ecs
    have k3 : LA 3 cs2 (off + j * 11 + 9) (.int .i64 y.kn) := LA.inRow y.f_kn Zk hc2 Zd
    have hle : decide (x.kn ≤ y.kn) = false := Zf Zo
    have hi0 : decide ((0 : Int) < ((j + 1 : Nat) : Int)) = true := Zt Zo
    have hj9 : j < 9223372036854775807 := by omega
    have hjl : (j : Int) < O.length := by omega
    clear h0 hx hy hyx hb2 hc2 e22 e23
    go_upto_region 9 with (first | (go_at_call 34; (with_reducible refine Zc HM (C1 _) ?_; clear HM; intro w2 HM)) | ((with_reducible refine g_ld ?_); refine a_ld HM ?_))
    refine start_M2 [] HM (Sub.nil) Zk (fun w0x H9 => ?_)
    replace HM := H9; clear H9
    refine k_mv 0 (heldE HM) ?_
    refine k_bin 1 (heldE HM) ?_
    refine k_mv 2 (heldE HM) ?_
    refine k_mv 3 (heldE HM) ?_
    refine k_mv 4 (heldE HM) ?_
    refine k_ia 5 (heldE HM) ?_
    refine k_fa 6 (heldE HM) ?_
    refine k_ld 7 [] (heldE HM) ?_
    refine k_mv 8 (heldE HM) ?_
    refine k_mv 9 (heldE HM) ?_
    refine t_pure (i := 10) (v := .int .i64 (j : Nat)) rfl rfl Zk (fun _ _ _ h => h) (heldE HM) Zv ?_ ?_; (focus (exact h_bin rfl Zw Zw (v_prev9 hj9))); ((try simp only [Za]); (try simp only [Zx]); (try simp only [Zy]))
    refine k_ia 11 (heldE HM) ?_
    refine k_fa 12 (heldE HM) ?_
    refine k_ld 13 [] (heldE HM) ?_
    refine k_bin 14 (heldE HM) ?_
    refine k_pick 15 (heldE HM) ?_
    refine wpAnyL_done Zk ?_ _
    (go_wp2_with ((with_reducible refine g_ld ?_); refine a_ld HM ?_); go_roundw; (case rel => exact ⟨j + 1 + 1, by go_num, by omega, HM.pick⟩); (case measure => simp [intOf]; omega))
  ·obtain rfl : i = O.length := by omega
   exact z9_158
end
end Go.Proofs.YtkiempioeffhbaaGreatDoor
