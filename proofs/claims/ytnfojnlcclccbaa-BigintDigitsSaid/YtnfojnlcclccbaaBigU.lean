/- The chapter's examples of Parse and Format: the text 007, the number 0. -/
import Derived.Test.YtnfojnlcclccbaaEngB
import Derived.OwnWalk
import Derived.Laws.MakeOwn
namespace Go.Proofs.Ytnfojnlcclccbaa
set_option maxRecDepth 8000
open Go.RowKit
set_option maxRecDepth 20000 in
set_option maxHeartbeats 1000000 in
theorem parse_007 (w : World) :
    Calls Try.prog 5 #[.string { data := #[48, 48, 55] }] w fun e w' => e = .returned (.tuple #[.agg (Bg.zA 0), .int .i64 12]) ∧ Below w.heap.size w w' := by
  have hz := Bg.zero32
  have hzi := Bg.zeroInt
  have hs2 := Bg.intA_size false 0
  obtain ⟨w1, hw1⟩ : ∃ w1, w1 = w.alloc (.cells (Bg.intA false 0) 25) := ⟨_, rfl⟩
  have HO0 := (Own.start w).alloc (Bg.intA false 0) 25
  rw [← hw1] at HO0
  have HO := Lib.hid HO0
  clear HO0
  have he : (({ data := #[48, 48, 55] } : ByteArray).extract 0 1).toList = [48] := by decide +kernel
  go_enter Try.func5, Try.ntmps5
  go_wp2_with (first
    | (rw [← hw1]; (with_reducible apply wl_at; refine st_int (false) (0) (Bg.intA false 0) rfl _ _ rfl _ rfl rfl (by exact HO.out.get (b := w.heap.size) (by simp)) (by exact hs2) ?_); have HR := Lib.hid (HO.out.fin (b := w.heap.size) (c := Bg.intA false 0) (by simp) (Nat.le_refl _) (Bg.intA false 0)); generalize World.setRow _ _ _ = w7 at HR ⊢)
    | go_in)
  have HR1 := HR.out.1
  rw [zA_zero] at HR1
  refine bodyPost_ret (res_cell_tmp rfl _ rfl (lv_z HR1)) rfl ⟨rfl, HR.out.2⟩
theorem u8_row : (Try.prog.info? 5).map (fun i => (i.zero, i.size, i.bytes)) = some (some (.int .u8 0), 1, 1) := by kernel_rfl
theorem info_of {t : TypeId} {z : Value} {s b : Nat} (h : (Try.prog.info? t).map (fun i => (i.zero, i.size, i.bytes)) = some (some z, s, b)) : ∃ i, Try.prog.info? t = some i ∧ i.zero = some z ∧ i.size = s ∧ i.bytes = b := by
  cases hq : Try.prog.info? t with
  | none => rw [hq] at h; cases h
  | some i =>
    rw [hq] at h
    injection h with h
    injection h with h1 h2
    injection h2 with h2 h3
    exact ⟨i, rfl, h1, h2, h3⟩
theorem below_none {w w' : World} (h : w.grownBy w' none) : Below w.heap.size w w' := ⟨h.os, h.tape, h.output, h.size, fun i hi => h.block i hi (by simp)⟩
set_option maxRecDepth 20000 in
set_option maxHeartbeats 1000000 in
theorem format_0 (s : Bool) (w : World) :
    Calls Try.prog 7 #[.agg (Bg.intA s 0)] w fun e w' => e = .returned (.string { data := #[48] }) ∧ Below w.heap.size w w' := by
  have hz := Bg.zero32
  have hL0 : 0 < Bg.lim := Bg.ppos 32
  obtain ⟨w1, hw1⟩ : ∃ w1, w1 = w.alloc (.cells (Bg.intA s 0) 25) := ⟨_, rfl⟩
  have HO0 := (Own.start w).alloc (Bg.intA s 0) 25
  rw [← hw1] at HO0
  have HO := Lib.hid HO0
  clear HO0
  obtain ⟨s1, hs1⟩ : ∃ s1, Hid (s1 = (s && decide ((0 : Nat) ≠ 0))) := ⟨s && decide ((0 : Nat) ≠ 0), rfl⟩
  go_enter Try.func7, Try.ntmps7
  go_upto_region 2 with (first
    | (rw [← hw1]; (with_reducible apply wl_at; refine ld_int (s) (0) rfl _ rfl _ rfl (by exact HO.out.get (by simp)) ?_); clear hw1)
    | (go_at_call 22; refine (split_as s s1 0 hL0 hs1 _).mono ?_; rintro e w2 ⟨rfl, hL⟩; have HO := Lib.hid ((HO.out.call hL).alloc (Bg.row 32 0) 44); clear hL)
    | ((with_reducible apply wl_at; refine sn_mag (0) rfl _ _ rfl rfl rfl ?_)))
  simp only [Act.put]
  generalize hw3 : w2.alloc (.cells (Bg.row 32 0) 44) = w3 at HO ⊢
  clear hw3
  obtain ⟨i0, hi, hi1, hi2, hi3⟩ := info_of u8_row
  have HI := Lib.hid hi3
  clear hi3
  go_wp2_with (first
    | (at_make; refine wpList_make_own w3 rfl _ _ 52 rfl w3.heap.size 5 i0 (.int .u8 0) 1 Try.underlying52 hi hi1 hi2 .i64 .i64 310 310 rfl rfl rfl ?b2 ?b3 (Nat.le_refl _) ?_; (case b2 => (rw [HI.out]; decide)); (case b3 => (unfold maxLen; decide)); intro w4 hown hgr; have HO := Lib.hid (HO.out.call (below_none hgr)); clear hgr hown))
  go_loopw [5] (fun b wr => b = .slice (some ⟨w3.heap.size, 0, none⟩) 0 310 ∧ Hid (Own w wr [(w2.heap.size, Bg.row 32 0), (w.heap.size, Bg.intA s 0)])) (fun _ _ => 0)
  case atStart => exact ⟨rfl, HO⟩
  case round =>
    clear HO
    obtain ⟨rfl, HO⟩ := hrel
    go_wp2_with (first
      | ((with_reducible apply wl_at; refine ld_mag (0) rfl _ rfl (w2.heap.size) ?hx (HO.out.get (by simp)) ?_; (case hx => (first | (simp; done) | (simp [Act.eval]; done) | (simp [Act.eval, Act.put])))))
      | ((with_reducible apply wl_at; refine ls_cmp .neq (0) (0) rfl _ _ _ rfl (.inr rfl) rfl rfl (hL0) (hL0) ?_); rw [if_neg (by simp)]))
    go_ret
    exact ⟨rfl, HO.out.1⟩
end Go.Proofs.Ytnfojnlcclccbaa
