/- Walks, and plain facts for them. -/
import Derived.Test.YtmbjaaaeekacfaaGreatDoorPb41
import Derived.Test.YtmbjaaaeekacfaaGreatDoorPb44
namespace Go.Proofs.YtmbjaaaeekacfaaGreatDoor
set_option maxRecDepth 8000
open Go.RowKit
section
variable {nm : ByteArray} {rc : Array Value} {bs : Int} {ec : Array Value} {pd un : Int}
theorem Ag.snm (s : ByteArray) : SA 9 (Ag.raw nm rc bs ec pd un) 0 (.string s) (Ag.raw s rc bs ec pd un) := by
 rw [Ag.raw_rows, Ag.raw_rows]; exact sa_fld_one 0 (by kernel_rfl) rfl rfl rfl (by simp [offs])
theorem Ag.src (h : rc.size = 66) {d : Array Value} (hd : d.size = 66) (g : d.all (·.oneCell') = true) : SA 27 (Ag.raw nm rc bs ec pd un) 1 (.agg d) (Ag.raw nm d bs ec pd un) := by
 rw [Ag.raw_rows, Ag.raw_rows]; exact sa_fld_agg 1 (by rw [hd]; exact sT_rat) g rfl (by rw [hd, h]) (by simp [offs])
theorem Ag.sbs (h : rc.size = 66) (z : Int) : SA 3 (Ag.raw nm rc bs ec pd un) 67 (.int .i64 z) (Ag.raw nm rc z ec pd un) := by
 rw [Ag.raw_rows, Ag.raw_rows]; exact sa_fld_one 2 (by kernel_rfl) rfl rfl rfl (by simp [offs, h])
end
section
variable {Q : Exit → Act → World → Prop} {w w0 : World} {X : List Nat} {L : List (Nat × Array Value)} {oi : Oper} {d : Tmp} {a : Act} {R : Act → World → Prop}
theorem acj_br7 {t e : TypeId} {n by_ : Nat} {x0 x1 x2 x3 x4 x5 x6 : Operand} {c0 c1 c2 c3 c4 c5 c6 : Array Value} {a2 : Nat → Act} (HM : Mem w0 X L w) (h : ∀ b w', Mem w0 X ((b, rowsOf [c0, c1, c2, c3, c4, c5, c6]) :: L) w' → R (a2 b) w') (hd : oi.dst = some d := by rfl) (ho : oi.op = .buildSlice t 7 #[(0, x0), (1, x1), (2, x2), (3, x3), (4, x4), (5, x5), (6, x6)] := by rfl) (hT : elemB t e n by_ = true := by with_reducible assumption) (h0 : a.eval x0 = .agg c0 := by (conv => lhs; whnf) <;> rfl) (z0 : c0.size = n := by (first | exact qA_size _ | assumption | rfl)) (h1 : a.eval x1 = .agg c1 := by (conv => lhs; whnf) <;> rfl) (z1 : c1.size = n := by (first | exact qA_size _ | assumption | rfl)) (h2 : a.eval x2 = .agg c2 := by (conv => lhs; whnf) <;> rfl) (z2 : c2.size = n := by (first | exact qA_size _ | assumption | rfl)) (h3 : a.eval x3 = .agg c3 := by (conv => lhs; whnf) <;> rfl) (z3 : c3.size = n := by (first | exact qA_size _ | assumption | rfl)) (h4 : a.eval x4 = .agg c4 := by (conv => lhs; whnf) <;> rfl) (z4 : c4.size = n := by (first | exact qA_size _ | assumption | rfl)) (h5 : a.eval x5 = .agg c5 := by (conv => lhs; whnf) <;> rfl) (z5 : c5.size = n := by (first | exact qA_size _ | assumption | rfl)) (h6 : a.eval x6 = .agg c6 := by (conv => lhs; whnf) <;> rfl) (z6 : c6.size = n := by (first | exact qA_size _ | assumption | rfl)) (hn : 7 * n ≤ 16777216 := by decide) (ha : ∀ b, ({ a with tmps := a.tmps.setIfInBounds d (.slice (some ⟨b, 0, none⟩) 7 7) } : Act) = a2 b := by intro b; ((try simp only [List.setIfInBounds_toArray, List.set_cons_succ, List.set_cons_zero]) <;> rfl)) : Oper.wp Tryz.prog oi a w R Q := by
 obtain ⟨i, z, hE⟩ := elemT hT
 have hr := run_bs hE [.agg c0, .agg c1, .agg c2, .agg c3, .agg c4, .agg c5, .agg c6] (by simp [Value.cells, z0, z1, z2, z3, z4, z5, z6]) hn (parts := #[(0, .agg c0), (1, .agg c1), (2, .agg c2), (3, .agg c3), (4, .agg c4), (5, .agg c5), (6, .agg c6)]) rfl w
 unfold Oper.wp execOp
 simp [ho, List.map_cons, List.map_nil, h0, h1, h2, h3, h4, h5, h6, Value.cells] at hr ⊢
 simp [hr, Result.andThen]
 rw [Oper.upon_value, hd]
 have h9 := h _ _ (HM.new _ e)
 rw [← ha] at h9
 exact h9
end
def PickRPost (W : World) (tb m : Nat) (l : List (Array Value)) (w : World) (e : Ending) (w' : World) : Prop :=
 ∃ c : Array Value, e = .returned (.agg c) ∧ c ∈ l ∧ Tp W tb (m + 1) w' ∧ w.grownBy w' (some tb)
set_option maxHeartbeats 4000000 in
theorem pickr_any (W : World) (tb m b : Nat) (l : List (Array Value)) (n9 : Nat) (w : World) (hT : Tp W tb m w) (hm : m ≤ 900000000) (hB : Blk w b (rowsOf l)) (hne : b ≠ tb) (hn : l.length = n9) (hd : 0 < n9) (hd2 : n9 ≤ 1000) (hs : ∀ c ∈ l, c.size = 66) (h1 : ∀ c ∈ l, c.all (·.oneCell') = true) :
    Calls Tryz.prog 26 #[.pointer (some ⟨tb, 0, none⟩), .slice (some ⟨b, 0, none⟩) n9 n9] w (PickRPost W tb m l w) := by
 obtain ⟨cs, hb, hc, h0, hle0⟩ := hT
 have HM := Mem.start1 w hb
 have HC := Lib.hid hc
 have H0 := Lib.hid h0
 have hz0 := za_rat
 have hle : ∀ b ∈ [tb], W.heap.size ≤ b := by simpa using hle0
 have HB := Lib.hid hB
 have HS := Lib.hid hs
 have H1 := Lib.hid h1
 have HN := Lib.hid hn
 have hnb : b ∉ [tb] := by simpa using hne
 have hn0 : ((n9 : Int) == 0) = false := beq_eq_false_iff_ne.2 (by omega)
 clear hb hc h0 hB hs h1 hn
 go_enter Tryz.func26, Tryz.ntmps26
 go_wp2_with (first | ((with_reducible refine g_ld ?_); refine a_ld HM ?_) | ((with_reducible refine g_st ?_); refine a_st HM ?_; clear HM; intro w1 HM) | ((with_reducible refine g_al ?_); refine a_al HM ?_; clear HM; intro bk w1 HM))
 (refine (next_any W tb _ _ _ (HM.tp (by ((repeat (first | exact Look.here | refine Look.there ?_)); done)) HC.out H0.out hle) (by omega) (by omega) (by omega)).mono ?_; rintro e9 w2 ⟨v, rfl, v0, v1, ⟨c1, hb1, hc1, -, -⟩, hg⟩; replace HM := HM.put (c' := c1) (by (repeat (first | exact At.here | apply At.there))) hb1 (Only.of_grown hg); clear hg hb1; replace HC := Lib.hid hc1; clear hc1)
 obtain ⟨k, rfl⟩ : ∃ k : Nat, v = k := ⟨v.toNat, by omega⟩
 have hk : k < l.length := by have := HN.out; omega
 obtain ⟨c, hcx⟩ : ∃ c, l[k]? = some c := ⟨l[k], List.getElem?_eq_getElem hk⟩
 have hmem := List.mem_of_getElem? hcx
 have HMEM := Lib.hid hmem
 have hsz := HS.out c hmem
 have lc := la_row (T := 27) (by kernel_rfl) sT_rat HS.out hcx
 have sc := sa_c hsz (H1.out c hmem) (rZ_size 0 0)
 have kc := la_c hsz
 clear hcx hmem hk
 go_wp2_with (first | ((with_reducible refine g_ld ?_); refine a_ld HM ?_ (hb := RdB.ro HB hnb)) | (first | ((with_reducible refine g_ld ?_); refine a_ld HM ?_) | ((with_reducible refine g_st ?_); refine a_st HM ?_; clear HM; intro w1 HM) | ((with_reducible refine g_al ?_); refine a_al HM ?_; clear HM; intro bk w1 HM)))
 refine bodyPost_ret (r_c rfl rfl (HM.get (by ((repeat (first | exact Look.here | refine Look.there ?_)); done))) kc) rfl ?_
 obtain ⟨hT, hg⟩ := HM.done (by ((repeat (first | exact Look.here | refine Look.there ?_)); done)) HC.out H0.out hle0
 exact ⟨c, rfl, HMEM.out, hT.mono (by omega), hg⟩
end Go.Proofs.YtmbjaaaeekacfaaGreatDoor
