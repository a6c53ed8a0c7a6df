/- Parts and Grounded of the program. -/
import Derived.Test.YtadnddffdedjgaaNsD
namespace Go.Proofs.Ytadnddffdedjgaa
set_option maxRecDepth 8000
open Go.RowKit
theorem below_seq {w w2 w3 : World} (h : Below w.heap.size w w2) (k : Below w2.heap.size w2 w3) : Below w.heap.size w w3 :=
  ⟨k.os.trans h.os, k.tape.trans h.tape, k.output.trans h.output, Nat.le_trans h.size k.size, fun b hb => (k.block b (Nat.lt_of_lt_of_le hb h.size)).trans (h.block b hb)⟩
namespace Ns
/-- A part has units outside of itself. -/
def gr (U : List Int) (H : List (List Int)) (p : List Nat) : Bool := p.any fun m => decide (ls p (fun k => gh H k m) < gu U m)
theorem ls_take {l : List Nat} {f : Nat → Int} {k x : Nat} (h : l[k]? = some x) : ls (l.take (k + 1)) f = ls (l.take k) f + f x := by
  unfold ls
  rw [List.take_add_one, h]
  simp
theorem Pts.mem {n : Nat} {h : Nat → Nat → Int} {P : List (List Nat)} (K : Pts n h P) {p : List Nat} (hp : p ∈ P) : (∀ m ∈ p, m < n) ∧ p.length ≤ n := by
  obtain ⟨i, hi, rfl⟩ := K.one p hp
  exact ⟨fun m hm => (mem_cls.1 hm).1, clsTo_len⟩
theorem gr_whole {U : List Int} {H : List (List Int)} {i : Nat} : gr U H (cls U.length (gh H) i) = false ↔ whole U.length (gu U) (gh H) (cls U.length (gh H) i) := by
  rw [whole_ls]
  unfold gr
  rw [List.any_eq_false]
  constructor
  · intro a m hm; have := a m hm; simp at this; omega
  · intro a m hm; have := a m hm; simp; omega
end Ns
theorem pI_at {P : List (List Nat)} {i : Nat} {p : List Nat} (h : P[i]? = some p) : (pI P)[i]? = some (p.map fun x : Nat => (x : Int)) := by
  unfold pI; rw [List.getElem?_map, h]; rfl
theorem pI_len (P : List (List Nat)) : (pI P).length = P.length := by unfold pI; simp
def bc (b : Bool) : Array Value := #[.bool b]
set_option maxHeartbeats 4000000 in
theorem nparts_any (us hs : Value) (U : List Int) (H : List (List Int)) (w : World) (hR : RdN w us hs U H) (hG : Ns.Good U H) :
    Calls Try.prog 53 #[.agg #[us, hs]] w fun e w' => ∃ s P, e = .returned (.tuple #[s, .int .i64 0]) ∧ Hid (Ns.Pts U.length (Ns.gh H) P ∧ P = Ns.pts U.length (Ns.gh H)) ∧ Hid (RdH w' s (pI P)) ∧ Below w.heap.size w w' := by
  have HM := Mem.start w
  have C := fun w' hB => ncheck_any us hs U H w' (hR.below hB) 0 (Lib.hid hG.good.symm)
  have K := fun w' hB => parts_any us hs U H w' (hR.below hB) hG
  have n2 := la_nest us hs
  clear hR hG
  go_enter Try.func53, Try.ntmps53
  go_wp2_with (first | first
    | (go_at_call 44; ((with_reducible refine (C _ HM.low).mono ?_); rintro e9 w2 ⟨rfl, hL⟩; replace HM := HM.call hL; clear hL))
    | (go_at_call 74; (with_reducible refine (K _ HM.low).mono ?_); rintro e9 w2 ⟨s, P, rfl, HP, HS, hL⟩; replace HM := HM.call hL; clear hL) | (first | ((with_reducible refine g_ld ?_); refine a_ld HM ?_) | ((with_reducible refine g_st ?_); refine a_st HM ?_; clear HM; intro w1 HM) | ((with_reducible refine g_al ?_); refine a_al HM ?_; clear HM; intro bk w1 HM) | ((with_reducible refine g_bx ?_); refine a_bx HM ?_; clear HM; intro bk w1 HM) | ((with_reducible refine g_bld ?_); refine a_bld ?_)))
  go_ret2
  exact ⟨s, P, rfl, HP, HS, HM.low⟩
set_option maxHeartbeats 4000000 in
theorem ngrounded_any (us hs : Value) (U : List Int) (H : List (List Int)) (w : World) (hR : RdN w us hs U H) (hG : Ns.Good U H) :
    Calls Try.prog 52 #[.agg #[us, hs]] w fun e w' => ∃ s, e = .returned (.tuple #[s, .int .i64 0]) ∧ Hid (RdS 1 w' s (((Ns.pts U.length (Ns.gh H)).map (Ns.gr U H)).map bc)) ∧ Below w.heap.size w w' := by
  have HM := Mem.start w
  have HG := Lib.hid hG
  have HR := Lib.hid hR
  have hn8 := hG.sh.1
  obtain ⟨Au, cu, rfl⟩ := hR.u.form
  obtain ⟨Ah, ch, rfl⟩ := hR.h.form
  have C := fun w' hB => ncheck_any _ _ U H w' (hR.below hB) 0 (Lib.hid hG.good.symm)
  have K := fun w' hB => parts_any _ _ U H w' (hR.below hB) hG
  have n0 := la_n0 (.slice Au U.length cu) (.slice Ah H.length ch)
  have n1 := la_n1 (.slice Au U.length cu) (.slice Ah H.length ch)
  have n2 := la_nest (.slice Au U.length cu) (.slice Ah H.length ch)
  clear hR hG
  go_enter Try.func52, Try.ntmps52
  go_upto_region 5 with (first | (go_at_call 44; ((with_reducible refine (C _ HM.low).mono ?_); rintro e9 w2 ⟨rfl, hL⟩; replace HM := HM.call hL; clear hL)) | (first | ((with_reducible refine g_ld ?_); refine a_ld HM ?_) | ((with_reducible refine g_st ?_); refine a_st HM ?_; clear HM; intro w1 HM) | ((with_reducible refine g_al ?_); refine a_al HM ?_; clear HM; intro bk w1 HM) | ((with_reducible refine g_bx ?_); refine a_bx HM ?_; clear HM; intro bk w1 HM) | ((with_reducible refine g_bld ?_); refine a_bld ?_)))
  obtain ⟨bg, rfl⟩ := HM.nm0
  go_wp2_with (first | fail | (first | ((with_reducible refine g_ld ?_); refine a_ld HM ?_) | ((with_reducible refine g_st ?_); refine a_st HM ?_; clear HM; intro w1 HM) | ((with_reducible refine g_al ?_); refine a_al HM ?_; clear HM; intro bk w1 HM) | ((with_reducible refine g_bx ?_); refine a_bx HM ?_; clear HM; intro bk w1 HM) | ((with_reducible refine g_bld ?_); refine a_bld ?_)))
  refine (K _ HM.low).mono ?_
  rintro e9 w2 ⟨s, P, rfl, HP, HS, hL⟩
  obtain ⟨A, cp, rfl⟩ := HS.out.form
  rw [pI_len] at HS
  rw [pI_len]
  replace HM := HM.call hL
  clear hL C K
  have HB0 := Lib.hid HM.low
  have HN2 := Lib.hid (HR.out.below HM.low)
  have HBG : Hid (Rbk w2 bg #[.slice Au U.length cu, .slice Ah H.length ch]) := Lib.hid (HM.get .here).rbk
  clear HR HM
  have HM := Mem.start w2
  have HPE : Hid (P = Ns.pts U.length (Ns.gh H)) := Lib.hid HP.out.2
  have HPT : Hid (Ns.Pts U.length (Ns.gh H) P) := Lib.hid HP.out.1
  have hPl := HP.out.1.len
  clear HP
  have eli : elemB 79 4 1 1 = true := by kernel_rfl
  go_wp2_with (first | fail | (first | ((with_reducible refine g_ld ?_); refine a_ld HM ?_) | ((with_reducible refine g_st ?_); refine a_st HM ?_; clear HM; intro w1 HM) | ((with_reducible refine g_al ?_); refine a_al HM ?_; clear HM; intro bk w1 HM) | ((with_reducible refine g_bx ?_); refine a_bx HM ?_; clear HM; intro bk w1 HM) | ((with_reducible refine g_bld ?_); refine a_bld ?_)))
  go_loopw [5, 22] (fun sv iv wr => ∃ (i : Nat) (B : List (Nat × Array Value)), iv = .int .i64 (i : Nat) ∧ i ≤ P.length ∧ Hid (SlAt 1 sv (((P.take i).map (Ns.gr U H)).map bc) B) ∧ Mem w2 [] B wr) (fun _ iv _ => P.length - (intOf iv).toNat)
  case atStart => exact ⟨0, [], rfl, by omega, Lib.hid .nil, HM⟩
  case round =>
    clear HM
    obtain ⟨i, B, rfl, hi, HO, HM⟩ := hrel
    by_cases hlt : i < P.length
    · have hlt1 : (i : Int) < P.length := by omega
      obtain ⟨p, hp⟩ : ∃ p, P[i]? = some p := ⟨_, List.getElem?_eq_getElem hlt⟩
      obtain ⟨hpm, hpl⟩ := HPT.out.mem (List.mem_of_getElem? hp)
      obtain ⟨b, off, cs, A2, c2, rfl, HB, k1, HL⟩ := HS.out.at_ (pI_at hp)
      rw [List.length_map] at k1 HL
      have HPM := Lib.hid hpm
      have HPA := Lib.hid hp
      clear hp hpm
      go_wp2_with (first | fail | (first | ((with_reducible refine g_ld ?_); refine a_ld HM ?_) | ((with_reducible refine g_st ?_); refine a_st HM ?_; clear HM; intro w1 HM) | ((with_reducible refine g_al ?_); refine a_al HM ?_; clear HM; intro bk w1 HM) | ((with_reducible refine g_bx ?_); refine a_bx HM ?_; clear HM; intro bk w1 HM) | ((with_reducible refine g_bld ?_); refine a_bld ?_)))
      go_loopw [8, 28] (fun bv jv wr => ∃ (j : Nat) (g : Bool), bv = .bool g ∧ jv = .int .i64 (j : Nat) ∧ j ≤ p.length ∧ Hid (g = (p.take j).any fun m => decide (Ns.ls p (fun k => Ns.gh H k m) < Ns.gu U m)) ∧ Mem w2 [] B wr) (fun _ jv _ => p.length - (intOf jv).toNat)
      case atStart => exact ⟨0, false, rfl, rfl, by omega, Lib.hid rfl, HM⟩
      case round =>
        clear HM
        obtain ⟨j, g, rfl, rfl, hj, HGV, HM⟩ := hrel
        by_cases hjt : j < p.length
        · have hjt1 : (j : Int) < p.length := by omega
          obtain ⟨m, hm⟩ : ∃ m, p[j]? = some m := ⟨_, List.getElem?_eq_getElem hjt⟩
          have hmn := HPM.out m (List.mem_of_getElem? hm)
          have hmn1 : (m : Int) < U.length := by omega
          obtain ⟨b3, off3, cs3, rfl, HB3, K3⟩ := HL.out.all (by rw [List.length_map]; omega)
          have k3 := K3.out j m (by rw [List.getElem?_map, hm]; rfl)
          obtain ⟨u, hu⟩ : ∃ u, U[m]? = some u := ⟨_, List.getElem?_eq_getElem hmn⟩
          obtain ⟨b5, off5, cs5, rfl, HB5, k5⟩ := HN2.out.u.at_ hu
          have HU := Lib.hid (Ns.gu_at hu)
          have HMA := Lib.hid hm
          clear hm hu
          go_wp2_with (first | fail | (first | ((with_reducible refine g_ld ?_); refine a_ld HM ?_) | ((with_reducible refine g_st ?_); refine a_st HM ?_; clear HM; intro w1 HM) | ((with_reducible refine g_al ?_); refine a_al HM ?_; clear HM; intro bk w1 HM) | ((with_reducible refine g_bx ?_); refine a_bx HM ?_; clear HM; intro bk w1 HM) | ((with_reducible refine g_bld ?_); refine a_bld ?_)))
          go_loopw [11, 34] (fun av kv wr => ∃ (k : Nat) (S : Int), av = .int .i64 S ∧ kv = .int .i64 (k : Nat) ∧ k ≤ p.length ∧ Hid (S = Ns.ls (p.take k) fun x => Ns.gh H x m) ∧ 0 ≤ S ∧ S ≤ k * 1000000000000000 ∧ Mem w2 [] B wr) (fun _ kv _ => p.length - (intOf kv).toNat)
          case atStart => exact ⟨0, 0, rfl, rfl, by omega, Lib.hid rfl, by omega, by omega, HM⟩
          case round =>
            clear HM
            obtain ⟨k, S, rfl, rfl, hk, HSV, hS0, hS1, HM⟩ := hrel
            by_cases hkt : k < p.length
            · have hkt1 : (k : Int) < p.length := by omega
              obtain ⟨x, hx⟩ : ∃ x, p[k]? = some x := ⟨_, List.getElem?_eq_getElem hkt⟩
              have hxn := HPM.out x (List.mem_of_getElem? hx)
              have hxn1 : (x : Int) < H.length := by have := HG.out.sh.2; omega
              have k4 := K3.out k x (by rw [List.getElem?_map, hx]; rfl)
              obtain ⟨l, hl, hll⟩ := HG.out.at_ hxn
              obtain ⟨y, hy⟩ : ∃ y, l[m]? = some y := ⟨_, List.getElem?_eq_getElem (by omega)⟩
              obtain ⟨b6, off6, cs6, A6, c6, rfl, HB6, k6, HL6⟩ := HN2.out.h.at_ hl
              obtain ⟨b7, off7, cs7, rfl, HB7, k7⟩ := HL6.out.at_ hy
              have ey := Ns.gh_at hl hy
              have hy0 := HG.out.ok.h0 x m hxn hmn
              have hy1 := HG.out.ok.h1 x m hxn hmn
              rw [ey] at hy0 hy1
              have hml : (m : Int) < l.length := by omega
              have HS2 : Hid (S + y = Ns.ls (p.take (k + 1)) fun x => Ns.gh H x m) := Lib.hid (by rw [Ns.ls_take hx, ← HSV.out, ey])
              clear hx hl hll hy ey
              go_wp2_with (first | fail | (first | ((with_reducible refine g_ld ?_); refine a_ld HM ?_) | ((with_reducible refine g_st ?_); refine a_st HM ?_; clear HM; intro w1 HM) | ((with_reducible refine g_al ?_); refine a_al HM ?_; clear HM; intro bk w1 HM) | ((with_reducible refine g_bx ?_); refine a_bx HM ?_; clear HM; intro bk w1 HM) | ((with_reducible refine g_bld ?_); refine a_bld ?_)))
              go_roundw
              case rel => exact ⟨k + 1, S + y, by go_num, by go_num, by omega, HS2, by omega, by omega, HM.pick⟩
              case measure => simp [intOf]; omega
            · obtain rfl : k = p.length := by omega
              have HS2 : Hid (S = Ns.ls p fun x => Ns.gh H x m) := by rw [List.take_length] at HSV; exact HSV
              have HGN : Hid ((g || decide (S < u)) = (p.take (j + 1)).any fun m => decide (Ns.ls p (fun k => Ns.gh H k m) < Ns.gu U m)) := Lib.hid (by
                rw [List.take_add_one, HMA.out, List.any_append, ← HGV.out, HS2.out, ← HU.out]
                simp)
              cases g with
              | true =>
                go_wp2_with (first | fail | (first | ((with_reducible refine g_ld ?_); refine a_ld HM ?_) | ((with_reducible refine g_st ?_); refine a_st HM ?_; clear HM; intro w1 HM) | ((with_reducible refine g_al ?_); refine a_al HM ?_; clear HM; intro bk w1 HM) | ((with_reducible refine g_bx ?_); refine a_bx HM ?_; clear HM; intro bk w1 HM) | ((with_reducible refine g_bld ?_); refine a_bld ?_)))
                go_roundw
                case rel => exact ⟨j + 1, true, rfl, by go_num, by omega, by simpa using HGN, HM.pick⟩
                case measure => simp [intOf]; omega
              | false =>
                go_wp2_with (first | fail | (first | ((with_reducible refine g_ld ?_); refine a_ld HM ?_) | ((with_reducible refine g_st ?_); refine a_st HM ?_; clear HM; intro w1 HM) | ((with_reducible refine g_al ?_); refine a_al HM ?_; clear HM; intro bk w1 HM) | ((with_reducible refine g_bx ?_); refine a_bx HM ?_; clear HM; intro bk w1 HM) | ((with_reducible refine g_bld ?_); refine a_bld ?_)))
                go_roundw
                case rel => exact ⟨j + 1, decide (S < u), rfl, by go_num, by omega, by simpa using HGN, HM.pick⟩
                case measure => simp [intOf]; omega
        · obtain rfl : j = p.length := by omega
          have HG2 : Hid (g = Ns.gr U H p) := by rw [List.take_length] at HGV; exact HGV
          have hcap : ((((P.take i).map (Ns.gr U H)).map bc).length + [bc g].length) * (1 + 1) ≤ 140737488355328 := by simp; omega
          go_wp2_with (first | first
            | ((with_reducible refine g_bs1 ?_); refine a_bs1 (c0 := #[.bool g]) HM ?_; clear HM; intro bx w1 HM)
            | ((with_reducible refine g_app ?_); refine a_app (m := [#[.bool g]]) (F := fun X => X) HM HO.out ((SlAt.made1 bx rfl).rd HM (by simp)) ?_ (by simp [Value.oneCell']) (hlen := hcap); clear HM; intro s2 B2 w1 HS2 HM) | (first | ((with_reducible refine g_ld ?_); refine a_ld HM ?_) | ((with_reducible refine g_st ?_); refine a_st HM ?_; clear HM; intro w1 HM) | ((with_reducible refine g_al ?_); refine a_al HM ?_; clear HM; intro bk w1 HM) | ((with_reducible refine g_bx ?_); refine a_bx HM ?_; clear HM; intro bk w1 HM) | ((with_reducible refine g_bld ?_); refine a_bld ?_)))
          go_roundw
          case rel => exact ⟨i + 1, B2, by go_num, by omega, Lib.hid (by
            rw [List.take_add_one, HPA.out, List.map_append, List.map_append]
            show SlAt 1 s2 (_ ++ [bc (Ns.gr U H p)]) B2
            rw [← HG2.out]; exact HS2), HM.pick⟩
          case measure => simp [intOf]; omega
    · obtain rfl : i = P.length := by omega
      go_wp2_with (first | fail | (first | ((with_reducible refine g_ld ?_); refine a_ld HM ?_) | ((with_reducible refine g_st ?_); refine a_st HM ?_; clear HM; intro w1 HM) | ((with_reducible refine g_al ?_); refine a_al HM ?_; clear HM; intro bk w1 HM) | ((with_reducible refine g_bx ?_); refine a_bx HM ?_; clear HM; intro bk w1 HM) | ((with_reducible refine g_bld ?_); refine a_bld ?_)))
      go_ret2
      refine ⟨_, rfl, Lib.hid ?_, below_seq HB0.out HM.low⟩
      rw [List.take_length] at HO
      rw [← HPE.out]
      exact HO.out.rd HM fun _ h => h
end Go.Proofs.Ytadnddffdedjgaa
