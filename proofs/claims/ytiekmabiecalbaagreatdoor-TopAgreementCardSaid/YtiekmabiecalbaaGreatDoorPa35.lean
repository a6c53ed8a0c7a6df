/- Walks. -/
import Derived.Test.YtiekmabiecalbaaGreatDoorPa33
import Derived.Test.YtiekmabiecalbaaGreatDoorPa34
namespace Go.Proofs.YtiekmabiecalbaaGreatDoor
set_option maxHeartbeats 16000000
set_option maxRecDepth 8000
section
open Go.RowKit Go.Maps
theorem el_int : elemB 22 3 1 8 = true := by kernel_rfl
theorem el_str : elemB 29 9 1 16 = true := by kernel_rfl
def As.visR (M : List As.Mk) (k : Int) : List Int × Int := if As.ok M then ((As.vis M k).map fun i : Nat => (i : Int), 0) else ([], 130)
def As.visN (M : List As.Mk) (k : Int) (i : Nat) : List Int := ((List.range i).filter (As.visB M k)).map fun i : Nat => (i : Int)
theorem V1_int_one (l : List Int) : ∀ c ∈ V1 (l.map (Value.int .i64)), c.all (·.oneCell') = true := V1_one (by
 intro v hv
 obtain ⟨x, _, rfl⟩ := List.mem_map.1 hv
 rfl)
theorem As.seen_sort {M : List As.Mk} {k : Int} {S : List (ByteArray × Nat)} (hn : (S.map (·.1)).Nodup) (h : ∀ s i, (s, i) ∈ S ↔ As.cnt M k M.length s = some i) : (S.map fun p => ((p.2 : Nat) : Int)).mergeSort (fun x y => decide (x ≤ y)) = (As.vis M k).map fun i : Nat => (i : Int) := by
 refine As.sort_ints ?_ ?_ ?_
 ·have h2 : S.Pairwise (fun p q => p.1 ≠ q.1) := List.pairwise_map.1 hn
  refine List.pairwise_map.2 (h2.imp_of_mem ?_)
  rintro ⟨s, i⟩ ⟨t, j⟩ hp hq hne e
  simp only at hne e
  have e2 : i = j := by omega
  subst e2
  exact hne (As.cnt_inj ((h s i).1 hp) ((h t i).1 hq))
 ·exact List.pairwise_map.2 ((As.vis_sorted M k).imp (fun h => by omega))
 ·intro x
  rw [List.mem_map, List.mem_map]
  constructor
  ·rintro ⟨⟨s, i⟩, hp, rfl⟩
   exact ⟨i, As.mem_vis.2 ⟨s, (h s i).1 hp⟩, rfl⟩
  ·rintro ⟨i, hi, rfl⟩
   obtain ⟨s, hs⟩ := As.mem_vis.1 hi
   exact ⟨(s, i), (h s i).2 hs, rfl⟩
theorem IRng.nodup {w : World} {b r n : Nat} {f : ByteArray → Option Nat} {S : List (ByteArray × Nat)} {cnt : Nat} (h : IRng w b r n f S cnt) : (S.map (·.1)).Nodup := by
 obtain ⟨D, left, h1, h2, h3, _⟩ := h; exact h3
theorem As.seen_len {M : List As.Mk} {k : Int} {S : List (ByteArray × Nat)} (hn : (S.map (·.1)).Nodup) (h : ∀ p ∈ S, As.cnt M k M.length p.1 = some p.2) : S.length ≤ M.length := by
 have hnd : (S.map (·.2)).Nodup := by
  have h2 : S.Pairwise (fun p q => p.1 ≠ q.1) := List.pairwise_map.1 hn
  refine List.pairwise_map.2 (h2.imp_of_mem ?_)
  intro p q hp hq hne e
  exact hne (As.cnt_inj (h p hp) (e ▸ h q hq))
 have hsub : (S.map (·.2)) ⊆ List.range M.length := by
  intro i hi
  obtain ⟨p, hp, rfl⟩ := List.mem_map.1 hi
  have := (As.cnt_some (h p hp)).1
  exact List.mem_range.2 (As.last_some this).1
 have := List.Nodup.length_le_of_subset hnd hsub
 simpa using this
theorem IRng.vals {w : World} {b r n : Nat} {f : ByteArray → Option Nat} {S : List (ByteArray × Nat)} {cnt : Nat} (h : IRng w b r n f S cnt) : ∀ p ∈ S, f p.1 = some p.2 := by
 obtain ⟨D, left, h1, h2, h3, h4, _⟩ := h; exact h4
theorem visible_any (sv : Value) (M : List As.Mk) (k : Int) (w : World) (hR : As.Rd w sv M) (zs : List Int) (e : Int) (hr : Hid ((zs, e) = As.visR M k)) :
    Calls Tryz.prog 47 #[sv, .int .i64 k] w fun r w' => ∃ s' B, r = .returned (.tuple #[s', .int .i64 e]) ∧ Hid (SlAt 1 s' (V1 (zs.map (Value.int .i64))) B) ∧ Mem w [] B w' := by
 have HM := Mem.start w
 have HR := Zi hR
 obtain ⟨A, cap, rfl⟩ := hR.form
 have hML := hR.2
 have hel := el_int
 obtain ⟨e0, he0⟩ := Zh (As.err M)
 clear hR
 by_cases hok : As.ok M = true
 ·obtain ⟨rfl, rfl⟩ : zs = (As.vis M k).map (fun i : Nat => (i : Int)) ∧ e = 0 := by
    have h := hr.out; unfold As.visR at h; rw [if_pos hok] at h; exact Prod.mk.inj h
  obtain rfl : e0 = 0 := he0.out.trans (As.err_ok hok)
  have hM4 := As.ok_len hok
  have HOK := Zi hok
  clear hok
  go_enter Tryz.func47, Tryz.ntmps47
  go_wp2_with (first | first
   | (go_at_call 88; (with_reducible refine Zc HM (check_any _ M _ (As.Rd.below HR.out HM.low) 0 he0) ?_; clear HM; intro w2 HM))
   | (go_at_call 89; refine (counting_any _ M k _ (As.Rd.below HR.out HM.low) HOK.out).mono ?_; rintro e9 w2 ⟨bm, n, rfl, HI, hble, hL⟩; replace hble := Nat.le_trans HM.only.size hble; replace HM := HM.call hL; clear hL)
   | ((with_reducible refine g_rng ?_); refine a_rng HI.out ?_; intro r w1 cnt HG hr9 hL; replace hr9 := Nat.le_trans HM.only.size hr9; replace HM := HM.call hL; clear hL HI) | fail)
  go_loopw [7] (fun ov wr => ∃ (S : List (ByteArray × Nat)) (c : Nat) (B : List (Nat × Array Value)), Hid (IRng wr bm r n (As.cnt M k M.length) S c) ∧ Hid (SlAt 1 ov (V1 ((S.map fun p => ((p.2 : Nat) : Int)).map (Value.int .i64))) B) ∧ Mem w [] B wr) (fun _ wr => wr.rangeLeft bm r)
  case atStart => exact ⟨[], _, [], Zi HG, Zi .nil, HM⟩
  case round =>
   clear HM HG
   obtain ⟨S, c, B, HG, HS, HM⟩ := hrel
   have hlS := As.seen_len HG.out.nodup HG.out.vals
   have hcap : ∀ i : Nat, ((V1 ((S.map fun p => ((p.2 : Nat) : Int)).map (Value.int .i64))).length + [#[Value.int .i64 (i : Int)]].length) * (8 + 1) ≤ 140737488355328 := fun i => by rw [V1_len, List.length_map, List.length_map]; simp; omega
   have HCAP := Zi hcap
   have hsl : (S.map fun p => ((p.2 : Nat) : Int)).length ≤ 1000000000 := by rw [List.length_map]; omega
   have HSL := Zi hsl
   have hleft := HG.out.left_eq
   clear hcap hlS hsl
   go_wp2_with (first | first
    | ((with_reducible refine g_nx ?_); refine a_nx HG.out ?_ ?_; (intro hc0 hfin); rotate_left; (intro s i w1 c2 HG2 hlt hg hsz hfi hen; replace HM := HM.side hg hr9 (fun p hp => (HG.out.ne (HM.blk p hp)).2); have HW := HM; replace HM := HW.rebase; replace HG2 := Zi HG2; clear hg hsz hfi HSL); rotate_left)
    | ((with_reducible refine g_bs1 ?_); refine a_bs1 (c0 := #[.int .i64 (i : Int)]) HM ?_; clear HM; intro bx w1 HM)
    | ((with_reducible refine g_app ?_); refine a_app (m := [#[.int .i64 (i : Int)]]) (F := fun B => B) HM HS.out ((SlAt.made1 bx rfl).rd HM Zs) ?_ (V1_int_one [_]) (hlen := HCAP.out i); clear HM; intro s2 B2 w1 HS2 HM)
    | (go_at_call 90; refine (sortI_any _ _ HM HS.out HSL.out (Zi (As.seen_sort HG.out.nodup hfin.out))).mono ?_; rintro e9 w2 ⟨rfl, B2, HS2, HM2⟩) | fail)
   ·go_ret2
    exact ⟨_, B2, rfl, Zi HS2, HM2⟩
   ·have HG3 := HG2.out.kept (HM.stay HG2.out.lt.1 (fun p hp => (HG2.out.ne (HW.blk p hp)).1)) (HM.stay HG2.out.lt.2 (fun p hp => (HG2.out.ne (HW.blk p hp)).2))
    go_roundw
    case rel => exact ⟨S ++ [(s, i)], c2, B2, Zi HG3, Zi (by rw [List.map_append, List.map_append, V1_app]; exact HS2), HW.trans HM⟩
    case measure => rw [HG3.left_eq, HG.out.left_eq]; exact hlt
 ·have hok := Bool.eq_false_iff.2 hok
  obtain ⟨rfl, rfl⟩ : zs = [] ∧ e = 130 := by
   have h := hr.out; unfold As.visR at h; rw [hok, if_neg Bool.false_ne_true] at h; exact Prod.mk.inj h
  obtain rfl : e0 = 130 := he0.out.trans (As.err_bad hok)
  clear hok
  go_enter Tryz.func47, Tryz.ntmps47
  go_wp2_with (first | (go_at_call 88; (with_reducible refine Zc HM (check_any _ M _ (As.Rd.below HR.out HM.low) 130 he0) ?_; clear HM; intro w2 HM)) | fail)
  go_ret2
  exact ⟨_, [], rfl, Zi .nil, HM⟩
end
section
open Go.RowKit Go.Maps
def Vs (L : List (List UInt8)) : List (Array Value) := V1 (L.map encStr)
theorem RdS.at1 {w : World} {A : Option Addr} {n cap : Nat} {vs : List Value} (h : RdS 1 w (.slice A n cap) (V1 vs)) {i : Nat} {v : Value} (hi : vs[i]? = some v) {T : TypeId} (hT : aggT T = some false) : ∃ b off cs, A = some ⟨b, off, none⟩ ∧ Hid (Rbk w b cs) ∧ LA T cs (off + i) v := by
 obtain ⟨b, off, cs, cap', e, hb, hc⟩ := h.get (k := i) (c := #[v]) (by unfold V1; rw [List.getElem?_map, hi]; rfl)
 injection e with e1 e2 e3
 refine ⟨b, off, cs, e1, Zi hb, LA.one hT ?_⟩
 have := hc 0 Zd
 rw [Nat.mul_one, Nat.add_zero] at this
 rw [this]; rfl
end
section
open Go.RowKit Go.Maps
def As.out1 (g : ByteArray → Option Nat) (S : List (ByteArray × Nat)) : List (List UInt8) := (S.filter fun p => decide (g p.1 ≠ some p.2)).map fun p => p.1.data.toList
def As.out2 (f : ByteArray → Option Nat) (S : List (ByteArray × Nat)) : List (List UInt8) := (S.filter fun p => decide (f p.1 = none)).map fun p => p.1.data.toList
end
section
open Go.RowKit Go.Maps
abbrev Is (L : List Int) : List (Array Value) := V1 (L.map (Value.int .i64))
end
end Go.Proofs.YtiekmabiecalbaaGreatDoor
