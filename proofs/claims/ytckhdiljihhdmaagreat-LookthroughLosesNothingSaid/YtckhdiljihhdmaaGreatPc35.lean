/- Walks, and plain facts for them. -/
import Derived.Test.YtckhdiljihhdmaaGreatPc34
namespace Go.Proofs.YtckhdiljihhdmaaGreat
set_option maxRecDepth 8000
open Go.RowKit
namespace Lk
theorem vfrom_snoc : ∀ {l : List H} {last : List UInt8} {h : H}, vfrom last l = true → paper h.nm = true → inr h.q = true → lt last h.nm.toList = true → (∀ g ∈ l, lt g.nm.toList h.nm.toList = true) → vfrom last (l ++ [h]) = true
 | [], last, h, _, hp, hq, hl, _ => by
  show (paper h.nm && lt last h.nm.toList && inr h.q && true) = true
  rw [hp, hq, hl]; rfl
 | g :: l, last, h, hv, hp, hq, hl, ha => by
  rw [vfrom] at hv
  simp only [Bool.and_eq_true] at hv
  show (paper g.nm && lt last g.nm.toList && inr g.q && vfrom g.nm.toList (l ++ [h])) = true
  rw [hv.1.1.1, hv.1.1.2, hv.1.2, vfrom_snoc hv.2 hp hq (ha g List.mem_cons_self) (fun g' hg => ha g' (List.mem_cons_of_mem _ hg))]; rfl
def nm5 : Nat → ByteArray
 | 0 => { data := #[65, 67, 77, 69] }
 | 1 => { data := #[66, 69, 84, 65] }
 | 2 => { data := #[67, 79, 82, 69] }
 | 3 => { data := #[68, 69, 76, 84, 65] }
 | _ => { data := #[69, 67, 72, 79] }
theorem nm5_paper : ∀ i, i < 5 → paper (nm5 i) = true := by
 intro i hi
 match i, hi with
 | 0, _ => exact aw_paper
 | 1, _ =>
  refine paper_yes (by decide) (by decide) (fun k hk => .inl ?_)
  have h4 : k < 4 := hk
  match k, h4 with
  | 0, _ => exact (by decide : capB 66 = true)
  | 1, _ => exact (by decide : capB 69 = true)
  | 2, _ => exact (by decide : capB 84 = true)
  | 3, _ => exact (by decide : capB 65 = true)
 | 2, _ =>
  refine paper_yes (by decide) (by decide) (fun k hk => .inl ?_)
  have h4 : k < 4 := hk
  match k, h4 with
  | 0, _ => exact (by decide : capB 67 = true)
  | 1, _ => exact (by decide : capB 79 = true)
  | 2, _ => exact (by decide : capB 82 = true)
  | 3, _ => exact (by decide : capB 69 = true)
 | 3, _ =>
  refine paper_yes (by decide) (by decide) (fun k hk => .inl ?_)
  have h4 : k < 5 := hk
  match k, h4 with
  | 0, _ => exact (by decide : capB 68 = true)
  | 1, _ => exact (by decide : capB 69 = true)
  | 2, _ => exact (by decide : capB 76 = true)
  | 3, _ => exact (by decide : capB 84 = true)
  | 4, _ => exact (by decide : capB 65 = true)
 | 4, _ =>
  refine paper_yes (by decide) (by decide) (fun k hk => .inl ?_)
  have h4 : k < 4 := hk
  match k, h4 with
  | 0, _ => exact (by decide : capB 69 = true)
  | 1, _ => exact (by decide : capB 67 = true)
  | 2, _ => exact (by decide : capB 72 = true)
  | 3, _ => exact (by decide : capB 79 = true)
theorem nm5_list (i : Nat) : (nm5 i).toList = (nm5 i).data.toList := ByteArray.toList_eq _
theorem nm5_lt : ∀ i j, j < i → i < 5 → lt (nm5 j).toList (nm5 i).toList = true := by
 intro i j hj hi
 rw [nm5_list, nm5_list]
 have : ∀ i, i < 5 → ∀ j, j < i → lt (nm5 j).data.toList (nm5 i).data.toList = true := by decide
 exact this i hi j hj
structure Hs (i : Nat) (l : List H) : Prop where
 len : l.length ≤ i
 v : vfrom [] l = true
 nm : ∀ h ∈ l, ∃ j, j < i ∧ h.nm = nm5 j
theorem Hs.nil : Hs 0 [] := ⟨by simp, rfl, by simp⟩
theorem Hs.skip {i : Nat} {l : List H} (h : Hs i l) : Hs (i + 1) l := ⟨Nat.le_succ_of_le h.len, h.v, fun g hg => by obtain ⟨j, hj, e⟩ := h.nm g hg; exact ⟨j, Nat.lt_succ_of_lt hj, e⟩⟩
theorem Hs.put {i : Nat} {l : List H} {q : Int} (h : Hs i l) (hi : i < 5) (h0 : 1 ≤ q) (h1 : q ≤ 1000000) : Hs (i + 1) (l ++ [⟨nm5 i, q⟩]) := by
 have hp := nm5_paper i hi
 refine ⟨by simp; exact h.len, vfrom_snoc h.v hp (decide_eq_true ⟨h0, by show q ≤ _; omega⟩) (lt_nil (paper_ne hp)) (fun g hg => ?_), fun g hg => ?_⟩
 ·obtain ⟨j, hj, e⟩ := h.nm g hg
  rw [e]
  exact nm5_lt i j hj hi
 ·rcases List.mem_append.1 hg with hg | hg
  ·obtain ⟨j, hj, e⟩ := h.nm g hg
   exact ⟨j, Nat.lt_succ_of_lt hj, e⟩
  ·rw [List.mem_singleton.1 hg]
   exact ⟨i, Nat.lt_succ_self i, rfl⟩
theorem Hs.val {i : Nat} {l : List H} (h : Hs i l) (hi : i ≤ 64) : val l = true := by
 unfold Lk.val
 rw [decide_eq_true (Nat.le_trans h.len hi), h.v]; rfl
theorem nm5_size : ∀ i, (nm5 i).size ≤ 9223372036854775807
 | 0 | 1 | 2 | 3 => by decide
 | _ + 4 => by show 4 ≤ _; decide
theorem Hs.sz {i : Nat} {l : List H} (h : Hs i l) : ∀ g ∈ l, g.nm.size ≤ 9223372036854775807 := fun g hg => by
 obtain ⟨j, _, e⟩ := h.nm g hg
 rw [e]; exact nm5_size j
theorem nm5_at : ∀ i, i < 5 → LA 9 (rowsOf [#[Value.string (nm5 0)], #[.string (nm5 1)], #[.string (nm5 2)], #[.string (nm5 3)], #[.string (nm5 4)]]) i (.string (nm5 i)) := by
 intro i hi
 refine LA.one (by kernel_rfl) ?_
 match i, hi with
 | 0, _ => rfl
 | 1, _ => rfl
 | 2, _ => rfl
 | 3, _ => rfl
 | 4, _ => rfl
theorem build (h : H) (w : World) : (Instr.build 54 #[(0, .string h.nm), (1, .int .i64 h.q)]).run Tryz.prog w = .ok (.agg (Lk.H.c h)) w := by kernel_rfl
end Lk
section
variable {Q : Exit → Act → World → Prop} {w w0 : World} {X : List Nat} {L : List (Nat × Array Value)} {oi : Oper} {d : Tmp} {a : Act} {R : Act → World → Prop}
theorem j_bss {t e : TypeId} {by_ : Nat} {x0 x1 x2 x3 x4 : Operand} {v0 v1 v2 v3 v4 : ByteArray} {a2 : Nat → Act} (HM : Mem w0 X L w) (h : ∀ b w', Mem w0 X ((b, rowsOf [#[.string v0], #[.string v1], #[.string v2], #[.string v3], #[.string v4]]) :: L) w' → R (a2 b) w') (hd : oi.dst = some d := by rfl) (ho : oi.op = .buildSlice t 5 #[(0, x0), (1, x1), (2, x2), (3, x3), (4, x4)] := by rfl) (hT : elemB t e 1 by_ = true := by with_reducible assumption) (h0 : a.eval x0 = .string v0 := by (conv => lhs; whnf) <;> rfl) (h1 : a.eval x1 = .string v1 := by (conv => lhs; whnf) <;> rfl) (h2 : a.eval x2 = .string v2 := by (conv => lhs; whnf) <;> rfl) (h3 : a.eval x3 = .string v3 := by (conv => lhs; whnf) <;> rfl) (h4 : a.eval x4 = .string v4 := by (conv => lhs; whnf) <;> rfl) (ha : ∀ b, ({ a with tmps := a.tmps.setIfInBounds d (.slice (some ⟨b, 0, none⟩) 5 5) } : Act) = a2 b := by intro b; ((try simp only [List.setIfInBounds_toArray, List.set_cons_succ, List.set_cons_zero]) <;> rfl)) : Oper.wp Tryz.prog oi a w R Q := by
 obtain ⟨i, z, hE⟩ := elemT hT
 have hr := run_bs hE [.string v0, .string v1, .string v2, .string v3, .string v4] (by simp [Value.cells]) (by simp) (parts := #[(0, .string v0), (1, .string v1), (2, .string v2), (3, .string v3), (4, .string v4)]) rfl w
 unfold Oper.wp execOp
 simp [ho, h0, h1, h2, h3, h4] at hr ⊢
 simp only [hr, Result.andThen]
 rw [Oper.upon_value, hd]
 have h9 := h _ _ (HM.new (rowsOf [#[.string v0], #[.string v1], #[.string v2], #[.string v3], #[.string v4]]) e)
 rw [← ha] at h9
 exact h9
end
set_option maxHeartbeats 1000000 in
theorem sunits_new {W w0 w : World} {X : List Nat} {L : List (Nat × Array Value)} {tb m : Nat} {cs : Array Value} (HMo : Mem w0 X L w) (hl : Look L tb cs) (hc : TapeC W m cs) (h0 : Below W.heap.size W w0) (hX : ∀ b ∈ X, W.heap.size ≤ b) (hm : m ≤ 900000000000) :
    Calls Tryz.prog 68 #[.pointer (some ⟨tb, 0, none⟩)] w fun e w' => ∃ (q : Int) (c' : Array Value), e = .returned (.int .i64 q) ∧ (1 ≤ q ∧ q ≤ 1000000) ∧ TapeC W (m + 4) c' ∧ Blk w' tb c' ∧ Only [tb] w w' := by
 have HM := Mem.start1 w (HMo.get hl)
 have HC := Lib.hid hc
 have HT := HMo.tp hl hc h0 hX
 have H0 : Hid (Below W.heap.size W w) := Lib.hid (by obtain ⟨_, _, _, h, _⟩ := HT; exact h)
 have hle : ∀ b ∈ [tb], W.heap.size ≤ b := by
  obtain ⟨_, _, _, _, h⟩ := HT
  intro b hb
  rw [List.mem_singleton.1 hb]; exact h
 clear HT hc h0 hX hl HMo
 go_enter Tryz.func68, Tryz.ntmps68
 go_wp2_with fail
 (refine (snext_any W tb _ _ _ (HM.tp (by ((repeat (first | exact Look.here | refine Look.there ?_)); done)) HC.out H0.out hle) (by omega) (by omega) (by omega)).mono ?_; rintro e9 w2 ⟨v, rfl, hv0, hv1, ⟨c1, hb1, hc1, -, -⟩, hg⟩; replace HM := HM.put (c' := c1) (by (repeat (first | exact At.here | apply At.there))) hb1 (Only.of_grown hg); clear hg hb1; replace HC := Lib.hid hc1; clear hc1)
 go_wp2_with fail
 (refine (snext_any W tb _ _ _ (HM.tp (by ((repeat (first | exact Look.here | refine Look.there ?_)); done)) HC.out H0.out hle) (by omega) (by omega) (by omega)).mono ?_; rintro e9 w2 ⟨u, rfl, hu0, hu1, ⟨c1, hb1, hc1, -, -⟩, hg⟩; replace HM := HM.put (c' := c1) (by (repeat (first | exact At.here | apply At.there))) hb1 (Only.of_grown hg); clear hg hb1; replace HC := Lib.hid hc1; clear hc1)
 go_wp2_with fail
 (refine (snext_any W tb _ _ _ (HM.tp (by ((repeat (first | exact Look.here | refine Look.there ?_)); done)) HC.out H0.out hle) (by omega) (by omega) (by omega)).mono ?_; rintro e9 w2 ⟨y, rfl, hy0, hy1, ⟨c1, hb1, hc1, -, -⟩, hg⟩; replace HM := HM.put (c' := c1) (by (repeat (first | exact At.here | apply At.there))) hb1 (Only.of_grown hg); clear hg hb1; replace HC := Lib.hid hc1; clear hc1)
 go_wp2_with fail
 (refine (spick_new (tb := tb) (W := W) HM (by ((repeat (first | exact Look.here | refine Look.there ?_)); done)) HC.out H0.out (by first | exact hle | simpa using hle) [1, 2, 3, 1 + v, 1 + u, 1 + y] _ (by omega) (by simp) (by simp)).mono ?_; rintro e9 w2 ⟨v1, c1, rfl, hv, hc1, hb1, hg⟩; replace HM := HM.put (c' := c1) (by (repeat (first | exact At.here | apply At.there))) hb1 hg; clear hg hb1; replace HC := Lib.hid hc1; clear hc1)
 have hx : 1 ≤ v1 ∧ v1 ≤ 1000000 := by
  simp at hv
  omega
 clear hv
 go_wp2_with fail
 go_ret
 exact ⟨v1, _, rfl, hx, HC.out.mono (by omega), HM.get .here, HM.only⟩
set_option maxRecDepth 100000 in
set_option maxHeartbeats 4000000 in
theorem sholdings_any (tb m : Nat) (c : Array Value) (R : List (Nat × Array Value)) (W w : World) (HM : Mem W [] ((tb, c) :: R) w) (HC : Hid (TapeC W m c)) (hm : m ≤ 900000000) :
    Calls Tryz.prog 46 #[.pointer (some ⟨tb, 0, none⟩), .int .i64 3] w fun e w' => ∃ (s : Value) (l : List Lk.H) (B : List (Nat × Array Value)) (c' : Array Value), e = .returned s ∧ Hid (Lk.Hs 3 l) ∧ Hid (SlAt 2 s (l.map Lk.H.c) B) ∧ Hid (TapeC W (m + 15) c') ∧ Mem W [] ((tb, c') :: (B ++ R)) w' := by
 have H0 : Hid (Below W.heap.size W W) := Below.refl _ _
 have hle : ∀ b ∈ ([] : List Nat), W.heap.size ≤ b := by simp
 have els : elemB 58 9 1 16 = true := by kernel_rfl
 have elo : elemB 27 54 2 24 = true := by kernel_rfl
 go_enter Tryz.func46, Tryz.ntmps46
 go_wp2_with (first | ((with_reducible refine g_ld ?_); refine a_ld HM ?_) | ((with_reducible refine g_bld ?_); refine a_bld ?_))
 go_loopw [5, 6] (fun ov iv wr => ∃ (i : Nat) (so : Value) (l : List Lk.H) (B : List (Nat × Array Value)) (c1 : Array Value), so = ov ∧ iv = .int .i64 (i : Nat) ∧ i ≤ 3 ∧ Hid (Lk.Hs i l) ∧ Hid (SlAt 2 so (l.map Lk.H.c) B) ∧ Hid (TapeC W (m + 5 * i) c1) ∧ Mem W [] ((tb, c1) :: (B ++ R)) wr) (fun _ iv _ => 3 - (intOf iv).toNat)
 case atStart => exact ⟨0, _, [], [], c, rfl, rfl, by omega, Lib.hid .nil, Lib.hid SlAt.nil, HC, HM⟩
 case round =>
  clear HM HC
  obtain ⟨i, so, l, B, c1, rfl, rfl, hi, HL, HS, HC, HM⟩ := hrel
  by_cases hlt : i < 3
  ·have hlt1 : (i : Int) < 3 := by omega
   have hlt5 : (i : Int) < 5 := by omega
   go_wp2_with (first | ((with_reducible refine g_ld ?_); refine a_ld HM ?_) | ((with_reducible refine g_bld ?_); refine a_bld ?_))
   (refine (sbool_any W tb _ 3 _ (HM.tp (by ((repeat (first | exact Look.here | refine Look.there ?_)); done)) HC.out H0.out hle) (by omega) (by omega) (by omega)).mono ?_; rintro e9 w2 ⟨g, rfl, ⟨c1, hb1, hc1, -, -⟩, hg⟩; replace HM := HM.put (c' := c1) (by (repeat (first | exact At.here | apply At.there))) hb1 (Only.of_grown hg); clear hg hb1; replace HC := Lib.hid hc1; clear hc1)
   cases g with
   | true =>
    go_wp2_with (first | ((with_reducible refine g_ld ?_); refine a_ld HM ?_) | ((with_reducible refine g_bld ?_); refine a_bld ?_))
    go_roundw
    case rel => exact ⟨i + 1, _, l, B, _, rfl, by go_num, by omega, Lib.hid HL.out.skip, HS, Lib.hid (HC.out.mono (by omega)), HM⟩
    case measure => simp [intOf]; omega
   | false =>
    have ks := Lk.nm5_at i (by omega)
    obtain ⟨nm, hnm⟩ : ∃ s, s = Lk.nm5 i := ⟨_, rfl⟩
    rw [← hnm] at ks
    have hll := HL.out.len
    go_upto_region 6 with (first | ((with_reducible refine g_ld ?_); refine a_ld HM ?_) | ((with_reducible refine g_bld ?_); refine a_bld ?_))
    refine start_M2 [] HM (Sub.nil) (by kernel_rfl) (fun w0x H9 => ?_)
    replace HM := H9; clear H9
    refine k_mv 0 (heldF HM) ?_
    refine k_mv 2 (heldF HM) ?_
    refine k_mv 5 (heldF HM) ?_
    refine j_two 1 6 ?_ ?_
    ·refine j_bss HM ?_ (hT := els); clear HM; intro bs w1 HM
     refine ⟨(heldF HM), ?_⟩; ((try simp only [List.setIfInBounds_toArray]); (try simp only [List.set_cons_succ]); (try simp only [List.set_cons_zero]))
     refine k_ia 3 (heldF HM) ?_
     refine j_two 4 6 ?_ ?_
     ·refine j_ld HM ?_
      refine ⟨(heldF HM), ?_⟩
      refine j_one 6 fun K9 hK9 => ?_
      refine o_callg (sunits_new (tb := tb) HM (by ((repeat (first | exact Look.here | refine Look.there ?_)); done)) HC.out H0.out hle (by omega)) rfl ?_ ?_; (focus (refine h_call1 (ts := ?_) (x1 := ?_) ?_ (by kernel_rfl) ?_; rotate_left 2; (focus rfl); rfl)); rintro e9 w1 ⟨q, c1, rfl, hq, hc1, hb1, hg9⟩; replace HM := HM.put (c' := c1) (by (repeat (first | exact At.here | apply At.there))) hb1 hg9; clear hg9 hb1; replace HC := Lib.hid hc1; clear hc1; refine ⟨_, rfl, ?_⟩
      refine hK9 _ _ (heldF HM) ?_; clear hK9 K9; ((try simp only [List.setIfInBounds_toArray]); (try simp only [List.set_cons_succ]); (try simp only [List.set_cons_zero]))
      refine t_pure (i := 7) (v := .agg (Lk.H.c ⟨nm, q⟩)) rfl rfl (by kernel_rfl) (fun _ _ _ h => h) (heldF HM) (by rfl) ?_ ?_; (focus (exact h_bl2 rfl (by (conv => lhs; whnf) <;> rfl) (by (conv => lhs; whnf) <;> rfl) (Lk.build ⟨nm, q⟩))); ((try simp only [List.setIfInBounds_toArray]); (try simp only [List.set_cons_succ]); (try simp only [List.set_cons_zero]))
      refine j_one 8 fun K9 hK9 => ?_
      refine j_bs1 (c0 := Lk.H.c ⟨nm, q⟩) HM ?_ (hT := elo) (z0 := rfl); clear HM; intro b9 w9 HM
      refine hK9 _ _ (heldF HM) ?_; clear hK9 K9; ((try simp only [List.setIfInBounds_toArray]); (try simp only [List.set_cons_succ]); (try simp only [List.set_cons_zero]))
      refine j_one 9 fun K9 hK9 => ?_
      refine j_app (hT := elo) (m := [Lk.H.c ⟨nm, q⟩]) (F := fun X => (tb, c1) :: (X ++ R)) HM HS.out ((SlAt.made1 b9 (c := Lk.H.c ⟨nm, q⟩) rfl).rd HM (by simp)) ?_ (Lk.c_one [⟨nm, q⟩]) (hlen := by rw [List.length_map]; simp; omega); clear HM; intro s9 B9 w9 HS9 HM
      refine hK9 _ _ (heldF HM) ?_; clear hK9 K9; ((try simp only [List.setIfInBounds_toArray]); (try simp only [List.set_cons_succ]); (try simp only [List.set_cons_zero]))
      refine k_mv 10 (heldF HM) ?_
      refine wpAnyL_done (by kernel_rfl) ?_ _
      ((have HL2 : Hid (Lk.Hs (i + 1) (l ++ [⟨nm, q⟩])) := Lib.hid (by rw [hnm]; exact HL.out.put (by omega) hq.1 hq.2)); (have HS2 : Hid (SlAt 2 s9 ((l ++ [(⟨nm, q⟩ : Lk.H)]).map Lk.H.c) B9) := Lib.hid (by rw [List.map_append]; exact HS9)); clear HS9 hnm hq; go_wp2_with fail; go_roundw; (case rel => exact ⟨i + 1, _, _, B9, _, rfl, by go_num, by omega, HL2, HS2, Lib.hid (HC.out.mono (by omega)), HM⟩); (case measure => simp [intOf]; omega))
     ·refine o_callg (sunits_new (tb := tb) HM (by ((repeat (first | exact Look.here | refine Look.there ?_)); done)) HC.out H0.out hle (by omega)) rfl ?_ ?_; (focus (refine h_call1 (ts := ?_) (x1 := ?_) ?_ (by kernel_rfl) ?_; rotate_left 2; (focus rfl); rfl)); rintro e9 w1 ⟨q, c1, rfl, hq, hc1, hb1, hg9⟩; replace HM := HM.put (c' := c1) (by (repeat (first | exact At.here | apply At.there))) hb1 hg9; clear hg9 hb1; replace HC := Lib.hid hc1; clear hc1; refine ⟨_, rfl, ?_⟩
      refine ⟨(heldF HM), ?_⟩; ((try simp only [List.setIfInBounds_toArray]); (try simp only [List.set_cons_succ]); (try simp only [List.set_cons_zero]))
      refine j_one 4 fun K9 hK9 => ?_
      refine j_ld HM ?_
      refine hK9 _ _ (heldF HM) ?_; clear hK9 K9
      refine t_pure (i := 7) (v := .agg (Lk.H.c ⟨nm, q⟩)) rfl rfl (by kernel_rfl) (fun _ _ _ h => h) (heldF HM) (by rfl) ?_ ?_; (focus (exact h_bl2 rfl (by (conv => lhs; whnf) <;> rfl) (by (conv => lhs; whnf) <;> rfl) (Lk.build ⟨nm, q⟩))); ((try simp only [List.setIfInBounds_toArray]); (try simp only [List.set_cons_succ]); (try simp only [List.set_cons_zero]))
      refine j_one 8 fun K9 hK9 => ?_
      refine j_bs1 (c0 := Lk.H.c ⟨nm, q⟩) HM ?_ (hT := elo) (z0 := rfl); clear HM; intro b9 w9 HM
      refine hK9 _ _ (heldF HM) ?_; clear hK9 K9; ((try simp only [List.setIfInBounds_toArray]); (try simp only [List.set_cons_succ]); (try simp only [List.set_cons_zero]))
      refine j_one 9 fun K9 hK9 => ?_
      refine j_app (hT := elo) (m := [Lk.H.c ⟨nm, q⟩]) (F := fun X => (tb, c1) :: (X ++ R)) HM HS.out ((SlAt.made1 b9 (c := Lk.H.c ⟨nm, q⟩) rfl).rd HM (by simp)) ?_ (Lk.c_one [⟨nm, q⟩]) (hlen := by rw [List.length_map]; simp; omega); clear HM; intro s9 B9 w9 HS9 HM
      refine hK9 _ _ (heldF HM) ?_; clear hK9 K9; ((try simp only [List.setIfInBounds_toArray]); (try simp only [List.set_cons_succ]); (try simp only [List.set_cons_zero]))
      refine k_mv 10 (heldF HM) ?_
      refine wpAnyL_done (by kernel_rfl) ?_ _
      ((have HL2 : Hid (Lk.Hs (i + 1) (l ++ [⟨nm, q⟩])) := Lib.hid (by rw [hnm]; exact HL.out.put (by omega) hq.1 hq.2)); (have HS2 : Hid (SlAt 2 s9 ((l ++ [(⟨nm, q⟩ : Lk.H)]).map Lk.H.c) B9) := Lib.hid (by rw [List.map_append]; exact HS9)); clear HS9 hnm hq; go_wp2_with fail; go_roundw; (case rel => exact ⟨i + 1, _, _, B9, _, rfl, by go_num, by omega, HL2, HS2, Lib.hid (HC.out.mono (by omega)), HM⟩); (case measure => simp [intOf]; omega))
    ·refine o_callg (sunits_new (tb := tb) HM (by ((repeat (first | exact Look.here | refine Look.there ?_)); done)) HC.out H0.out hle (by omega)) rfl ?_ ?_; (focus (refine h_call1 (ts := ?_) (x1 := ?_) ?_ (by kernel_rfl) ?_; rotate_left 2; (focus rfl); rfl)); rintro e9 w1 ⟨q, c1, rfl, hq, hc1, hb1, hg9⟩; replace HM := HM.put (c' := c1) (by (repeat (first | exact At.here | apply At.there))) hb1 hg9; clear hg9 hb1; replace HC := Lib.hid hc1; clear hc1; refine ⟨_, rfl, ?_⟩
     refine ⟨(heldF HM), ?_⟩; ((try simp only [List.setIfInBounds_toArray]); (try simp only [List.set_cons_succ]); (try simp only [List.set_cons_zero]))
     refine j_one 1 fun K9 hK9 => ?_
     refine j_bss HM ?_ (hT := els); clear HM; intro bs w1 HM
     refine hK9 _ _ (heldF HM) ?_; clear hK9 K9; ((try simp only [List.setIfInBounds_toArray]); (try simp only [List.set_cons_succ]); (try simp only [List.set_cons_zero]))
     refine k_ia 3 (heldF HM) ?_
     refine j_one 4 fun K9 hK9 => ?_
     refine j_ld HM ?_
     refine hK9 _ _ (heldF HM) ?_; clear hK9 K9
     refine t_pure (i := 7) (v := .agg (Lk.H.c ⟨nm, q⟩)) rfl rfl (by kernel_rfl) (fun _ _ _ h => h) (heldF HM) (by rfl) ?_ ?_; (focus (exact h_bl2 rfl (by (conv => lhs; whnf) <;> rfl) (by (conv => lhs; whnf) <;> rfl) (Lk.build ⟨nm, q⟩))); ((try simp only [List.setIfInBounds_toArray]); (try simp only [List.set_cons_succ]); (try simp only [List.set_cons_zero]))
     refine j_one 8 fun K9 hK9 => ?_
     refine j_bs1 (c0 := Lk.H.c ⟨nm, q⟩) HM ?_ (hT := elo) (z0 := rfl); clear HM; intro b9 w9 HM
     refine hK9 _ _ (heldF HM) ?_; clear hK9 K9; ((try simp only [List.setIfInBounds_toArray]); (try simp only [List.set_cons_succ]); (try simp only [List.set_cons_zero]))
     refine j_one 9 fun K9 hK9 => ?_
     refine j_app (hT := elo) (m := [Lk.H.c ⟨nm, q⟩]) (F := fun X => (tb, c1) :: (X ++ R)) HM HS.out ((SlAt.made1 b9 (c := Lk.H.c ⟨nm, q⟩) rfl).rd HM (by simp)) ?_ (Lk.c_one [⟨nm, q⟩]) (hlen := by rw [List.length_map]; simp; omega); clear HM; intro s9 B9 w9 HS9 HM
     refine hK9 _ _ (heldF HM) ?_; clear hK9 K9; ((try simp only [List.setIfInBounds_toArray]); (try simp only [List.set_cons_succ]); (try simp only [List.set_cons_zero]))
     refine k_mv 10 (heldF HM) ?_
     refine wpAnyL_done (by kernel_rfl) ?_ _
     ((have HL2 : Hid (Lk.Hs (i + 1) (l ++ [⟨nm, q⟩])) := Lib.hid (by rw [hnm]; exact HL.out.put (by omega) hq.1 hq.2)); (have HS2 : Hid (SlAt 2 s9 ((l ++ [(⟨nm, q⟩ : Lk.H)]).map Lk.H.c) B9) := Lib.hid (by rw [List.map_append]; exact HS9)); clear HS9 hnm hq; go_wp2_with fail; go_roundw; (case rel => exact ⟨i + 1, _, _, B9, _, rfl, by go_num, by omega, HL2, HS2, Lib.hid (HC.out.mono (by omega)), HM⟩); (case measure => simp [intOf]; omega))
  ·obtain rfl : i = 3 := by omega
   go_wp2_with (first | ((with_reducible refine g_ld ?_); refine a_ld HM ?_) | ((with_reducible refine g_bld ?_); refine a_bld ?_))
   go_ret
   exact ⟨_, l, B, c1, rfl, HL, HS, Lib.hid (HC.out.mono (by omega)), HM⟩
structure HsAt (n : Nat) (vs : List Value) (L : List (List Lk.H)) (BB : List (Nat × Array Value)) : Prop where
 l1 : vs.length = n
 l2 : L.length = n
 at_ : ∀ (i : Nat) (l : List Lk.H), L[i]? = some l → ∃ v B, vs[i]? = some v ∧ SlAt 2 v (l.map Lk.H.c) B ∧ (∀ p ∈ B, p ∈ BB) ∧ Lk.Hs 3 l
theorem HsAt.nil : HsAt 0 [] [] [] := ⟨rfl, rfl, by simp⟩
theorem HsAt.put {n : Nat} {vs : List Value} {L : List (List Lk.H)} {BB B : List (Nat × Array Value)} {v : Value} {l : List Lk.H} (h : HsAt n vs L BB) (hs : SlAt 2 v (l.map Lk.H.c) B) (hl : Lk.Hs 3 l) : HsAt (n + 1) (vs ++ [v]) (L ++ [l]) (B ++ BB) := by
 refine ⟨by simp [h.l1], by simp [h.l2], fun i m hi => ?_⟩
 by_cases hlt : i < n
 ·rw [List.getElem?_append_left (by rw [h.l2]; exact hlt)] at hi
  obtain ⟨v', B', h1, h2, h3, h4⟩ := h.at_ i m hi
  exact ⟨v', B', by rw [List.getElem?_append_left (by rw [h.l1]; exact hlt)]; exact h1, h2, fun p hp => List.mem_append_right _ (h3 p hp), h4⟩
 ·have hl1 := (List.getElem?_eq_some_iff.1 hi).1
  simp [h.l2] at hl1
  obtain rfl : i = n := by omega
  rw [List.getElem?_append_right (by rw [h.l2]; exact Nat.le_refl _), h.l2, Nat.sub_self] at hi
  injection hi with hi
  subst hi
  exact ⟨v, B, by rw [List.getElem?_append_right (by rw [h.l1]; exact Nat.le_refl _), h.l1, Nat.sub_self]; rfl, hs, fun p hp => List.mem_append_left _ hp, hl⟩
theorem HsAt.all {n : Nat} {vs : List Value} {L : List (List Lk.H)} {BB : List (Nat × Array Value)} (h : HsAt n vs L BB) : Lk.all L = true := by
 refine Lk.all_good fun i l _ hi => ?_
 obtain ⟨_, _, _, _, _, h4⟩ := h.at_ i l hi
 exact h4.val (by decide)
theorem HsAt.three {n : Nat} {vs : List Value} {L : List (List Lk.H)} {BB : List (Nat × Array Value)} (h : HsAt n vs L BB) : ∀ l ∈ L, l.length ≤ 3 := fun l hl => by
 obtain ⟨i, hi⟩ := List.getElem?_of_mem hl
 obtain ⟨_, _, _, _, _, h4⟩ := h.at_ i l hi
 exact h4.len
theorem HsAt.rd {n bo : Nat} {vs : List Value} {L : List (List Lk.H)} {BB K : List (Nat × Array Value)} {w0 w : World} {X : List Nat} (h : HsAt n vs L BB) (HM : Mem w0 X K w) (h1 : (bo, rowsOf (vs.map vc)) ∈ K) (h2 : ∀ p ∈ BB, p ∈ K) : RdL w (.slice (some ⟨bo, 0, none⟩) n n) L := by
 refine ⟨vs, ?_, by rw [h.l1, h.l2], fun i l hi => ?_⟩
 ·have h3 := (SlAt.row (n := 1) bo (vs.map vc) [] (by intro c hc; rw [List.append_nil] at hc; obtain ⟨x, _, rfl⟩ := List.mem_map.1 hc; rfl)).rd HM (by simpa using h1)
  rw [List.length_nil, Nat.add_zero, List.length_map, h.l1] at h3
  exact h3
 ·obtain ⟨v, B, h4, h5, h6, h7⟩ := h.at_ i l hi
  exact ⟨v, h4, h5.rd HM (fun p hp => h2 p (h6 p hp)), h7.sz⟩
theorem sa_valsO (l : List Value) {i : Nat} (v : Value) (h : i < l.length) (hv : v.oneCell' = true) : SA 27 (rowsOf (l.map vc)) i v (rowsOf ((l.set i v).map vc)) := by
 have h1 : (l.map vc)[i]? = some (vc l[i]) := by rw [List.getElem?_map, List.getElem?_eq_getElem h]; rfl
 have := sa_rowone (T := 27) (n := 1) (a := 0) (l := l.map vc) (k := i) (v := v) (by kernel_rfl) (by intro c hc; obtain ⟨x, _, rfl⟩ := List.mem_map.1 hc; rfl) h1 (by decide) hv
 rw [Nat.mul_one, Nat.add_zero] at this
 have e : (l.map vc).set i ((vc l[i]).setIfInBounds 0 v) = (l.set i v).map vc := by
  rw [List.map_set]; rfl
 rw [e] at this
 exact this
theorem za_slo : ZA 27 (vc (.slice none 0 0)) := ⟨.slice none 0 0, rfl, fun w => by kernel_rfl⟩
theorem Mem.hop {w0 w : World} {X : List Nat} {p q : Nat × Array Value} {N R : List (Nat × Array Value)} {BB : List (Nat × Array Value)} (h : Mem w0 X (p :: (N ++ (q :: (BB ++ R)))) w) : Mem w0 X (p :: q :: ((N ++ BB) ++ R)) w := by
 refine h.perm ?_
 rw [List.append_assoc]
 exact (List.Perm.cons p (List.perm_middle (l₁ := N) (l₂ := BB ++ R)).symm)
set_option maxHeartbeats 4000000 in
theorem holdings_any (n tb m : Nat) (c : Array Value) (R : List (Nat × Array Value)) (W w : World) (HM : Mem W [] ((tb, c) :: R) w) (HC : Hid (TapeC W m c)) (hm : m ≤ 90000000) (hn : n ≤ 8) :
    Calls Tryz.prog 18 #[.pointer (some ⟨tb, 0, none⟩), .int .i64 (n : Nat)] w fun e w' => ∃ (s : Value) (L : List (List Lk.H)), e = .returned s ∧ Hid (RdL w' s L) ∧ L.length = n ∧ Hid (Lk.all L = true) ∧ Hid (∀ l ∈ L, l.length ≤ 3) ∧ Mem W [] R w' := by
 have H0 : Hid (Below W.heap.size W W) := Below.refl _ _
 have hle : ∀ b ∈ ([] : List Nat), W.heap.size ≤ b := by simp
 have ell : elemB 26 27 1 24 = true := by kernel_rfl
 have zl := za_slo
 go_enter Tryz.func18, Tryz.ntmps18
 go_upto_region 2 with (first | ((with_reducible refine g_mks ?_); refine a_mks n HM ?_ (by omega); clear HM; intro bk w1 HM) | ((with_reducible refine g_st ?_); refine a_st HM ?_; clear HM; intro w1 HM))
 obtain ⟨bo, rfl⟩ := HM.nm0
 rw [rep_vals] at HM
 replace HM : Mem W [] ((tb, c) :: (bo, rowsOf (([] ++ List.replicate (n - 0) (Value.slice none 0 0)).map vc)) :: ([] ++ R)) _ := HM.pick
 go_wp2_with ((with_reducible refine g_st ?_); refine a_st HM ?_; clear HM; intro w1 HM)
 go_loopw [6] (fun iv wr => ∃ (i : Nat) (vs : List Value) (L : List (List Lk.H)) (BB : List (Nat × Array Value)) (c1 : Array Value), iv = .int .i64 (i : Nat) ∧ i ≤ n ∧ Hid (HsAt i vs L BB) ∧ Hid (TapeC W (m + 15 * i) c1) ∧ Mem W [] ((tb, c1) :: (bo, rowsOf ((vs ++ List.replicate (n - i) (Value.slice none 0 0)).map vc)) :: (BB ++ R)) wr) (fun iv _ => n - (intOf iv).toNat)
 case atStart => exact ⟨0, [], [], [], c, rfl, by omega, Lib.hid .nil, HC, HM⟩
 case round =>
  clear HM HC
  obtain ⟨i, vs, L, BB, c1, rfl, hi, HH, HC, HM⟩ := hrel
  by_cases hlt : i < n
  ·have hlt1 : (i : Int) < n := by omega
   go_wp2_with (first | (go_at_call 46; refine (sholdings_any tb _ _ _ W _ HM HC (by omega)).mono ?_; rintro e9 w2 ⟨s, l, B, c2, rfl, HL, HS, HC2, HM2⟩; replace HM := HM2.hop; clear HM2; replace HC := HC2; clear HC2; have hl1 := HH.out.l1; have hone : s.oneCell' = true := (by obtain ⟨A, cap, e, _⟩ := HS.out.val; rw [e]; rfl); have ss := sa_valsO (vs ++ List.replicate (n - i) (Value.slice none 0 0)) (i := i) s (by rw [List.length_append, List.length_replicate]; omega) hone; clear hl1 hone) | ((with_reducible refine g_st ?_); refine a_st HM ?_; clear HM; intro w1 HM))
   have hset : (vs ++ List.replicate (n - i) (Value.slice none 0 0)).set i s = (vs ++ [s]) ++ List.replicate (n - (i + 1)) (Value.slice none 0 0) := by
    have hl1 := HH.out.l1
    rw [List.set_append_right _ _ (by omega), hl1, Nat.sub_self, show n - i = (n - (i + 1)) + 1 by omega, List.replicate_succ, List.set_cons_zero, List.append_assoc]; rfl
   rw [hset] at HM
   clear hset ss
   go_roundw
   case rel => exact ⟨i + 1, _, _, _, _, by go_num, by omega, Lib.hid (HH.out.put HS.out HL.out), Lib.hid (HC.out.mono (by omega)), HM⟩
   case measure => simp [intOf]; omega
  ·obtain rfl : i = n := by omega
   rw [Nat.sub_self, List.replicate_zero, List.append_nil] at HM
   have HRD := Lib.hid (HH.out.rd (bo := bo) HM (by simp) (fun p hp => by simp [hp]))
   go_wp2_with ((with_reducible refine g_st ?_); refine a_st HM ?_; clear HM; intro w1 HM)
   go_ret
   exact ⟨_, L, rfl, HRD, HH.out.l2, Lib.hid HH.out.all, Lib.hid HH.out.three, HM.pk (by exact Pk.skip (Pk.skip (Pk.post _ _)))⟩
end Go.Proofs.YtckhdiljihhdmaaGreat
namespace Go.Proofs.YtckhdiljihhdmaaGreat
set_option maxRecDepth 8000
open Go.RowKit
theorem Sc.md_nat (v : Int) {n : Nat} (h : 1 ≤ n) : ∃ m : Nat, m < n ∧ Hid ((m : Int) = Sc.md v n) := by
 obtain ⟨h1, h2⟩ := Sc.md_in (v := v) (n := n) (by omega)
 exact ⟨(Sc.md v n).toNat, by omega, Lib.hid (by omega)⟩
section
variable {o : Oper} {a : Act}
theorem h_call4 {f : FuncId} {ts : Array TypeId} {x1 x2 x3 x4 : Operand} {v1 v2 v3 v4 : Value} (ho : o.op = .call { callee := .value (.func f), args := #[x1, x2, x3, x4], argTypes := ts }) (hf : goF f = true) (h1 : a.eval x1 = v1) (h2 : a.eval x2 = v2) (h3 : a.eval x3 = v3) (h4 : a.eval x4 = v4) : ∀ w, (execOp a.eval o).run Tryz.prog w = .ok (.enter f #[v1, v2, v3, v4]) w := h_call ho hf (by simp [h1, h2, h3, h4])
end
end Go.Proofs.YtckhdiljihhdmaaGreat
namespace Go.Proofs.YtckhdiljihhdmaaGreat
set_option maxRecDepth 8000
open Go.RowKit
namespace Lk
def es (s : List UInt8) : Rat → List Xp → Rat
 | a, [] => a
 | a, x :: X => es s (if (x.nm.toList == s) = true then a + x.q else a) X
theorem es_app (s : List UInt8) : ∀ (X Y : List Xp) (a : Rat), es s a (X ++ Y) = es s (es s a X) Y
 | [], _, _ => rfl
 | x :: X, Y, a => by
  show es s _ (X ++ Y) = es s (es s _ X) Y
  exact es_app s X Y _
theorem es_step {s : List UInt8} {a : Rat} {X : List Xp} {j : Nat} {x : Xp} (h : X[j]? = some x) : es s a (X.take (j + 1)) = if (x.nm.toList == s) = true then es s a (X.take j) + x.q else es s a (X.take j) := by
 rw [List.take_add_one, h, es_app]; rfl
theorem es_none {s : List UInt8} : ∀ {X : List Xp} {a : Rat}, (∀ x ∈ X, x.nm.toList ≠ s) → es s a X = a
 | [], _, _ => rfl
 | x :: X, a, h => by
  have h1 : (x.nm.toList == s) = false := beq_eq_false_iff_ne.2 (h x List.mem_cons_self)
  show es s (if (x.nm.toList == s) = true then a + x.q else a) X = a
  rw [h1]
  exact es_none (fun y hy => h y (List.mem_cons_of_mem _ hy))
abbrev nmsOf (X : List Xp) : List (List UInt8) := X.map (·.nm.toList)
theorem es_one {s : List UInt8} : ∀ {X : List Xp} {a : Rat} {x : Xp}, (nmsOf X).Nodup → x ∈ X → x.nm.toList = s → es s a X = a + x.q
 | [], _, _, _, h, _ => by cases h
 | y :: X, a, x, hn, hx, e => by
  rw [nmsOf, List.map_cons, List.nodup_cons] at hn
  show es s (if (y.nm.toList == s) = true then a + y.q else a) X = a + x.q
  rcases List.mem_cons.1 hx with rfl | hx
  ·rw [e, beq_self_eq_true, if_pos rfl]
   exact es_none (fun z hz ez => hn.1 (List.mem_map.2 ⟨z, hz, ez.trans e.symm⟩))
  ·have h1 : (y.nm.toList == s) = false := beq_eq_false_iff_ne.2 (fun h => hn.1 (List.mem_map.2 ⟨x, hx, e.trans h.symm⟩))
   rw [h1]
   exact es_one hn.2 hx e
theorem es_two {s : List UInt8} {X : List Xp} {a : Rat} (hn : (nmsOf X).Nodup) (j : Nat) : es s a (X.take j) = a ∨ ∃ x ∈ X, x.nm.toList = s ∧ es s a (X.take j) = a + x.q := by
 by_cases h : ∃ x ∈ X.take j, x.nm.toList = s
 ·obtain ⟨x, hx, e⟩ := h
  refine .inr ⟨x, List.mem_of_mem_take hx, e, es_one ?_ hx e⟩
  unfold nmsOf at hn ⊢
  rw [List.map_take]
  exact hn.sublist (List.take_sublist _ _)
 ·exact .inl (es_none fun x hx e => h ⟨x, hx, e⟩)
theorem exps_cons (U : List Int) (Hs : List (List Int)) (L : List (List H)) (i : Nat) (n : Int) (s : List UInt8) (N : List (List UInt8)) : exps U Hs L i n (s :: N) = one U Hs L i n s ++ exps U Hs L i n N := by unfold exps; rw [List.flatMap_cons]
theorem exps_mem {U : List Int} {Hs : List (List Int)} {L : List (List H)} {i : Nat} {n : Int} {N : List (List UInt8)} {x : Xp} (h : x ∈ exps U Hs L i n N) : ∃ s ∈ N, ex U Hs L i n s ≠ 0 ∧ x = ⟨bs s, ex U Hs L i n s⟩ := by
 unfold exps at h
 obtain ⟨s, hs, hx⟩ := List.mem_flatMap.1 h
 unfold one at hx
 split at hx
 ·cases hx
 ·exact ⟨s, hs, by assumption, List.mem_singleton.1 hx⟩
theorem mem_exps {U : List Int} {Hs : List (List Int)} {L : List (List H)} {i : Nat} {n : Int} {N : List (List UInt8)} {s : List UInt8} (hs : s ∈ N) (h : ex U Hs L i n s ≠ 0) : (⟨bs s, ex U Hs L i n s⟩ : Xp) ∈ exps U Hs L i n N := by
 unfold exps
 refine List.mem_flatMap.2 ⟨s, hs, ?_⟩
 unfold one
 rw [if_neg h]; simp
theorem exps_sub (U : List Int) (Hs : List (List Int)) (L : List (List H)) (i : Nat) (n : Int) : ∀ N : List (List UInt8), (nmsOf (exps U Hs L i n N)).Sublist N
 | [] => by simp [exps, nmsOf]
 | s :: N => by
  rw [exps_cons, nmsOf, List.map_append]
  unfold one
  split
  ·exact (exps_sub U Hs L i n N).cons _
  ·show (List.cons (bs s).toList (nmsOf (exps U Hs L i n N))).Sublist _
   rw [bs_list]
   exact (exps_sub U Hs L i n N).cons_cons _
theorem exps_nodup {U : List Int} {Hs : List (List Int)} {L : List (List H)} {i : Nat} {n : Int} {N : List (List UInt8)} (hN : N.Nodup) : (nmsOf (exps U Hs L i n N)).Nodup := hN.sublist (exps_sub U Hs L i n N)
theorem es_exps {U : List Int} {Hs : List (List Int)} {L : List (List H)} {i : Nat} {n : Int} {N : List (List UInt8)} (hN : N.Nodup) {s : List UInt8} (hs : s ∈ N) (a : Rat) : es s a (exps U Hs L i n N) = a + ex U Hs L i n s := by
 by_cases h : ex U Hs L i n s = 0
 ·rw [h, Rat.add_zero]
  refine es_none fun x hx e => ?_
  obtain ⟨t, _, ht, rfl⟩ := exps_mem hx
  rw [bs_list] at e
  subst e
  exact ht h
 ·exact es_one (exps_nodup hN) (mem_exps hs h) (bs_list s)
theorem es_exps_take {U : List Int} {Hs : List (List Int)} {L : List (List H)} {i : Nat} {n : Int} {N : List (List UInt8)} (hN : N.Nodup) (s : List UInt8) (a : Rat) (j : Nat) : es s a ((exps U Hs L i n N).take j) = a ∨ es s a ((exps U Hs L i n N).take j) = a + ex U Hs L i n s := by
 rcases es_two (s := s) (a := a) (exps_nodup (U := U) (Hs := Hs) (L := L) (i := i) (n := n) hN) j with h | ⟨x, hx, e, h⟩
 ·exact .inl h
 ·obtain ⟨t, _, ht, rfl⟩ := exps_mem hx
  rw [bs_list] at e
  subst e
  exact .inr h
theorem ex_add (U : List Int) (Hs : List (List Int)) (L : List (List H)) (i : Nat) (n m : Int) (s : List UInt8) : ex U Hs L i (n + m) s = ex U Hs L i n s + ex U Hs L i m s := by unfold ex; rw [Rat.intCast_add]; grind
theorem ex_zero (U : List Int) (Hs : List (List Int)) (L : List (List H)) (i : Nat) (s : List UInt8) : ex U Hs L i 0 s = 0 := by
 unfold ex
 have e : ((0 : Int) : Rat) = 0 := rfl
 rw [e]; grind
theorem ex_mono {U : List Int} {Hs : List (List Int)} {L : List (List H)} {i : Nat} {n m : Int} (h0 : 0 ≤ n) (h1 : n ≤ m) {s : List UInt8} (h : ex U Hs L i n s ≠ 0) : ex U Hs L i m s ≠ 0 := by
 unfold ex at h ⊢
 intro e
 have hn : n ≠ 0 := by
  rintro rfl
  apply h
  have e0 : ((0 : Int) : Rat) = 0 := rfl
  rw [e0]; grind
 rcases Rat.mul_eq_zero.1 e with h2 | h2
 ·have : m = 0 := by exact_mod_cast Rat.intCast_inj.1 (h2.trans (rfl : (0 : Rat) = ((0 : Int) : Rat)))
  omega
 ·exact h (by rw [h2]; grind)
theorem exps_le {U : List Int} {Hs : List (List Int)} {L : List (List H)} {i : Nat} {n m : Int} (h0 : 0 ≤ n) (h1 : n ≤ m) : ∀ N : List (List UInt8), (exps U Hs L i n N).length ≤ (exps U Hs L i m N).length
 | [] => by simp [exps]
 | s :: N => by
  have ih := exps_le (U := U) (Hs := Hs) (L := L) (i := i) h0 h1 N
  rw [exps_cons, exps_cons, List.length_append, List.length_append]
  have : (one U Hs L i n s).length ≤ (one U Hs L i m s).length := by
   unfold one
   by_cases h : ex U Hs L i n s = 0
   ·rw [if_pos h]; simp
   ·rw [if_neg h, if_neg (ex_mono h0 h1 h)]; exact Nat.le_refl _
  omega
theorem exps_nil (U : List Int) (Hs : List (List Int)) (L : List (List H)) (i : Nat) : ∀ N : List (List UInt8), exps U Hs L i 0 N = []
 | [] => rfl
 | s :: N => by
  rw [exps_cons, exps_nil U Hs L i N]
  unfold one
  rw [if_pos (ex_zero U Hs L i s)]; rfl
theorem names_nodup (L : List (List H)) : (names L).Nodup := (names_sorted L).imp fun {a b} h e => by subst e; exact lt_irr _ h
end Lk
end Go.Proofs.YtckhdiljihhdmaaGreat
