/- The law CalendarJoins, walked. -/
import Derived.Test.YtaokneooejbfkaaJoF
namespace Go.Proofs.Ytaokneooejbfkaa
set_option maxRecDepth 8000
open Go.RowKit
set_option maxRecDepth 100000 in
set_option maxHeartbeats 8000000 in
theorem joins_any (La : Option Addr) (xs : List Int) (c0 : Nat) (bad : Jo.C) (name : ByteArray) (W : World) (hI : IntsAt W La xs) (hxl : xs.length ≤ 9223372036854775807) (hB : IntsAt W bad.A bad.hs) (hbl : bad.hs.length ≤ 9223372036854775807) :
    Calls Try.prog 3 #[.slice La xs.length c0, .agg bad.cells, .string name] W fun e w' => e = .returned (.bool true) ∧ Below W.heap.size W w' := by
  have HM := Mem.start W
  have HI := Lib.hid hI
  have HBD := Lib.hid hB
  have elc : elemB 29 25 9 48 = true := by kernel_rfl
  have hz := za_cc
  have H0 : Hid (Below W.heap.size W W) := Below.refl _ _
  have hle : ∀ b ∈ ([] : List Nat), W.heap.size ≤ b := by simp
  clear hI hB
  go_enter Try.func3, Try.ntmps3
  go_upto_region 2 with (first | fail | (first | ((with_reducible refine g_ld ?_); refine a_ld HM ?_) | ((with_reducible refine g_st ?_); refine a_st HM ?_; clear HM; intro w1 HM) | ((with_reducible refine g_al ?_); refine a_al HM ?_; clear HM; intro bk w1 HM) | ((with_reducible refine g_bx ?_); refine a_bx HM ?_; clear HM; intro bk w1 HM) | ((with_reducible refine g_bld ?_); refine a_bld ?_)))
  obtain ⟨tb, rfl⟩ := HM.nm0
  obtain ⟨b4, rfl⟩ := HM.nm1
  have HC : Hid (TapeC W 0 #[.slice La xs.length c0, .int .i64 0]) := ⟨La, xs, c0, 0, rfl, by omega, by omega, HI.out, hxl⟩
  go_wp2_with fail
  go_loopw [8, 9] (fun sv iv wr => ∃ (i : Nat) (l : List Jo.C) (B BB : List (Nat × Array Value)) (c1 : Array Value), iv = .int .i64 (i : Nat) ∧ i ≤ 3 ∧ l.length = i ∧ Hid (∀ x ∈ l, Jo.okC x = true ∧ x.hs.length ≤ 2000) ∧ Hid (SlAt 9 sv (l.map Jo.C.cells) B) ∧ Hid (Jo.In l BB) ∧ Hid (TapeC W (202 * i) c1) ∧ Mem W [] ((tb, c1) :: (b4, bad.cells) :: (B ++ BB)) wr) (fun _ iv _ => 3 - (intOf iv).toNat)
  case atStart => exact ⟨0, [], [], [], _, rfl, by omega, rfl, Lib.hid (by simp), Lib.hid .nil, Lib.hid (fun x hx => by simp at hx), HC, HM⟩
  case round =>
    clear HM HC
    obtain ⟨_, l, B, BB, c1, rfl, hi, rfl, HOK, HO, HX, HC, HM⟩ := hrel
    go_wp2_with fail
    (refine (next_any W tb _ _ _ (HM.tp (by ((repeat (first | exact Look.here | refine Look.there ?_)); done)) HC.out H0.out hle) (by omega) (by omega) (by omega)).mono ?_; rintro e9 w2 ⟨v, rfl, v0, v1, ⟨c1, hb1, hc1, -, -⟩, hg⟩; replace HM := HM.put (c' := c1) (by (repeat (first | exact At.here | apply At.there))) hb1 (Only.of_grown hg); clear hg hb1; replace HC := Lib.hid hc1; clear hc1)
    by_cases hiv : (l.length : Int) < v
    · have hi3 : l.length + 1 ≤ 3 := by omega
      go_wp2_with fail
      refine (mcal_any 9497 tb _ _ _ W _ HM HC (by omega) (by omega) (by omega)).mono ?_
      rintro e9 w2 ⟨x, Bx, c2, rfl, hok, hx2, HSX, HC2, HM1⟩
      replace HM := HM1.shuffle
      replace HC := HC2
      clear HM1 HC2
      have hcap : ((l.map Jo.C.cells).length + [x.cells].length) * (48 + 1) ≤ 140737488355328 := by simp; omega
      have HOX := Lib.hid (And.intro hok hx2)
      clear hok hx2 hiv v0 v1
      go_wp2_with (first | first | ((with_reducible refine g_bs1 ?_); refine a_bs1 (c0 := x.cells) HM ?_; clear HM; intro bx w1 HM) | ((with_reducible refine g_app ?_); refine a_app (m := [x.cells]) (F := fun X => (tb, c2) :: (b4, bad.cells) :: (X ++ (Bx ++ BB))) HM HO.out ((SlAt.made1 bx rfl).rd HM (by simp)) ?_ (Jo.c_one [x]) (hlen := hcap); clear HM; intro s2 B2 w1 HS2 HM) | (first | ((with_reducible refine g_ld ?_); refine a_ld HM ?_) | ((with_reducible refine g_st ?_); refine a_st HM ?_; clear HM; intro w1 HM) | ((with_reducible refine g_al ?_); refine a_al HM ?_; clear HM; intro bk w1 HM) | ((with_reducible refine g_bx ?_); refine a_bx HM ?_; clear HM; intro bk w1 HM) | ((with_reducible refine g_bld ?_); refine a_bld ?_)))
      go_roundw
      case rel => exact ⟨l.length + 1, l ++ [x], B2, Bx ++ BB, c2, by go_num, by omega, by simp, Lib.hid (fun y hy => by
        rcases List.mem_append.1 hy with hy | hy
        · exact HOK.out y hy
        · rw [List.mem_singleton.1 hy]; exact HOX.out), Lib.hid (by rw [List.map_append]; exact HS2), Lib.hid (HX.out.snoc HSX.out), Lib.hid (HC.out.mono (by omega)), HM⟩
      case measure => simp [intOf]; omega
    · go_upto_region 7 with fail
      clear hiv v0 v1
      obtain ⟨As, cs, rfl, _⟩ := HO.out.val
      rw [List.length_map] at HO
      rw [List.length_map]
      obtain ⟨Lt, ys, ct, at_, rfl, ha0, ha1, hIt, hyl⟩ := HC.out
      have HIT := Lib.hid hIt
      have HYL := Lib.hid hyl
      have HL2 : Hid (∀ x ∈ l, x.hs.length ≤ 2000) := Lib.hid fun x hx => (HOK.out x hx).2
      have ham : at_ ≤ 100000 := by omega
      obtain ⟨nm, hnm⟩ : ∃ nm : ByteArray, Hid (nm = ([⟨#[97, 108, 108]⟩, name] : List ByteArray).getD (Tv ys at_ (([⟨#[97, 108, 108]⟩, name] : List ByteArray).length : Nat)).toNat default) := ⟨_, Lib.hid rfl⟩
      obtain ⟨r, hr⟩ : ∃ r, Hid (r = Jo.err nm l) := ⟨_, Lib.hid rfl⟩
      clear hIt hyl HC ha1
      go_wp2_with fail
      have O1 := one_en (tb := tb) (c := ct) HM (by ((repeat (first | exact Look.here | refine Look.there ?_)); done)) ha0 (by omega) (HIT.out.below HM.low) [⟨#[97, 108, 108]⟩, name] 9 (by simp) (by simp)
      rw [← hnm.out] at O1
      refine O1.mono ?_
      rintro e9 w3 ⟨rfl, hb, hg⟩
      replace HM := HM.put (c' := #[.slice Lt ys.length ct, .int .i64 (at_ + 1)]) (by (repeat (first | exact At.here | apply At.there))) hb hg
      clear hb hg O1
      have J := fun w' (HM : Mem W [] ((tb, #[.slice Lt ys.length ct, .int .i64 (at_ + 1)]) :: (b4, bad.cells) :: (B ++ BB)) w') => cjoin_any nm (.slice As l.length cs) l w' (Jo.rd_of HM (HO.out.rd HM (fun p hp => by simp [hp])) HX.out (fun p hp => by simp [hp]) HL2.out) r hr
      go_upto_region 8 with (first | (go_at_call 6; refine (J _ HM).mono ?_; rintro e9 w3 ⟨x, Bj, hx, rfl, hx5, HSX, HM1⟩; replace HM := (HM.join HM1).shuffle2; clear HM1; have s10 : SA 25 Jo.z 0 (.agg x.cells) x.cells := sa_cc x.s x.k x.v Jo.z rfl rfl) | (first | ((with_reducible refine g_ld ?_); refine a_ld HM ?_) | ((with_reducible refine g_st ?_); refine a_st HM ?_; clear HM; intro w1 HM) | ((with_reducible refine g_al ?_); refine a_al HM ?_; clear HM; intro bk w1 HM) | ((with_reducible refine g_bx ?_); refine a_bx HM ?_; clear HM; intro bk w1 HM) | ((with_reducible refine g_bld ?_); refine a_bld ?_)))
      clear J s10
      obtain ⟨b10, rfl⟩ := HM.nm0
      have st : SA 3 #[.slice Lt ys.length ct, .int .i64 (at_ + 1)] 1 (.int .i64 at_) #[.slice Lt ys.length ct, .int .i64 at_] := SA.one (by kernel_rfl) rfl (by show 1 < 2; omega)
      go_upto_region 9 with (first | fail | (first | ((with_reducible refine g_ld ?_); refine a_ld HM ?_) | ((with_reducible refine g_st ?_); refine a_st HM ?_; clear HM; intro w1 HM) | ((with_reducible refine g_al ?_); refine a_al HM ?_; clear HM; intro bk w1 HM) | ((with_reducible refine g_bx ?_); refine a_bx HM ?_; clear HM; intro bk w1 HM) | ((with_reducible refine g_bld ?_); refine a_bld ?_)))
      clear st
      go_wp2_with fail
      have O1 := one_en (tb := tb) (c := ct) HM (by ((repeat (first | exact Look.here | refine Look.there ?_)); done)) ha0 (by omega) (HIT.out.below HM.low) [⟨#[97, 108, 108]⟩, name] 9 (by simp) (by simp)
      rw [← hnm.out] at O1
      refine O1.mono ?_
      rintro e9 w3 ⟨rfl, hb, hg⟩
      replace HM := HM.put (c' := #[.slice Lt ys.length ct, .int .i64 (at_ + 1)]) (by (repeat (first | exact At.here | apply At.there))) hb hg
      clear hb hg O1
      have J2 := fun w' (HM : Mem W [] ((b10, x.cells) :: (tb, #[.slice Lt ys.length ct, .int .i64 (at_ + 1)]) :: (b4, bad.cells) :: (B ++ (Bj ++ BB))) w') => rjoin_any nm (.slice As l.length cs) l w' (Jo.rd_of HM (HO.out.rd HM (fun p hp => by simp [hp])) HX.out (fun p hp => by simp [hp]) HL2.out) r hr
      go_upto_region 10 with (first | (go_at_call 8; refine (J2 _ HM).mono ?_; rintro e9 w3 ⟨y, By, hy, rfl, hy5, HSY, HM1⟩; replace HM := (HM.join HM1).shuffle3; clear HM1; have s12 : SA 25 Jo.z 0 (.agg y.cells) y.cells := sa_cc y.s y.k y.v Jo.z rfl rfl) | (first | ((with_reducible refine g_ld ?_); refine a_ld HM ?_) | ((with_reducible refine g_st ?_); refine a_st HM ?_; clear HM; intro w1 HM) | ((with_reducible refine g_al ?_); refine a_al HM ?_; clear HM; intro bk w1 HM) | ((with_reducible refine g_bx ?_); refine a_bx HM ?_; clear HM; intro bk w1 HM) | ((with_reducible refine g_bld ?_); refine a_bld ?_)))
      clear J2 s12
      obtain ⟨b12, rfl⟩ := HM.nm0
      have hxy : x.s = y.s ∧ x.k = y.k ∧ x.hs = y.hs := by
        have e := hx.symm.trans hy
        injection e with e1 e2
        injection e2 with e2 e3
        exact ⟨e1, e2, e3⟩
      have E := fun w' (HM : Mem W [] ((b12, y.cells) :: (b10, x.cells) :: (tb, #[.slice Lt ys.length ct, .int .i64 (at_ + 1)]) :: (b4, bad.cells) :: (B ++ (By ++ (Bj ++ BB)))) w') => same_any x y w' hxy.1 hxy.2.1 hxy.2.2 (Jo.held HM HSX.out (fun p hp => by simp [hp])) (Jo.held HM HSY.out (fun p hp => by simp [hp])) (by omega)
      have kx := la_cc x.s x.k x.v
      have ky := la_cc y.s y.k y.v
      replace kx : LA 25 x.cells 0 (.agg x.cells) := kx
      replace ky : LA 25 y.cells 0 (.agg y.cells) := ky
      clear hxy
      go_upto_region 12 with (first | (go_at_call 9; ((with_reducible refine (E _ HM).mono ?_); rintro e9 w2 ⟨rfl, hL⟩; replace HM := HM.call hL; clear hL)) | (first | ((with_reducible refine g_ld ?_); refine a_ld HM ?_) | ((with_reducible refine g_st ?_); refine a_st HM ?_; clear HM; intro w1 HM) | ((with_reducible refine g_al ?_); refine a_al HM ?_; clear HM; intro bk w1 HM) | ((with_reducible refine g_bx ?_); refine a_bx HM ?_; clear HM; intro bk w1 HM) | ((with_reducible refine g_bld ?_); refine a_bld ?_)))
      clear E ky HSY
      replace HM := HM.tail
      obtain ⟨cT, hcT⟩ : ∃ cT : Array Value, Hid (cT = #[.slice Lt ys.length ct, .int .i64 (at_ + 1)]) := ⟨_, Lib.hid rfl⟩
      have HC : Hid (TapeC W 100001 cT) := Lib.hid ⟨Lt, ys, ct, at_ + 1, hcT.out, by omega, by omega, HIT.out, HYL.out⟩
      rw [← hcT.out] at HM
      obtain ⟨BB3, hB3⟩ : ∃ BB3, Hid (BB3 = By ++ (Bj ++ BB)) := ⟨_, Lib.hid rfl⟩
      rw [← hB3.out] at HM
      have HX3 : Hid (Jo.In l BB3) := Lib.hid (HX.out.more fun p hp => by rw [hB3.out]; simp [hp])
      have HXJ : Hid (∀ p ∈ Bj, p ∈ BB3) := Lib.hid fun p hp => by rw [hB3.out]; simp [hp]
      clear hB3 HX hcT HIT HYL hnm ham ha0
      obtain ⟨r2, hr2⟩ : ∃ r2, Hid (r2 = Jo.err ⟨#[97, 108, 108]⟩ (l ++ [bad])) := ⟨_, Lib.hid rfl⟩
      have J := fun (s3 : Value) (w' : World) (hR : Jo.Rd w' s3 (l ++ [bad])) => cjoin_any ⟨#[97, 108, 108]⟩ s3 (l ++ [bad]) w' hR r2 hr2
      have J2 := fun (s3 : Value) (w' : World) (hR : Jo.Rd w' s3 (l ++ [bad])) => rjoin_any ⟨#[97, 108, 108]⟩ s3 (l ++ [bad]) w' hR r2 hr2
      have kb : LA 25 bad.cells 0 (.agg bad.cells) := la_cc _ _ _
      have hcap : (([] : List (Array Value)).length + (l.map Jo.C.cells).length) * (48 + 1) ≤ 140737488355328 := by simp; omega
      have hcap2 : (([] ++ l.map Jo.C.cells).length + [bad.cells].length) * (48 + 1) ≤ 140737488355328 := by simp; omega
      go_cut [14, 15] (fun p ev wc => ∃ (b14 : Nat) (x2 : Jo.C) (Bj2 : List (Nat × Array Value)), p = .pointer (some ⟨b14, 0, none⟩) ∧ ev = .int .i64 r2 ∧ Jo.out ⟨#[97, 108, 108]⟩ (l ++ [bad]) = (x2.s, x2.k, x2.hs) ∧ x2.hs.length ≤ 100000 ∧ Hid (SlAt 1 x2.v (Jo.ir x2.hs) Bj2) ∧ Mem W [] ((b14, x2.cells) :: (b10, x.cells) :: (tb, cT) :: (b4, bad.cells) :: (B ++ (Bj2 ++ BB3))) wc)
      case first =>
        as_aux_lemma =>
          refine start_M2 [11] HM ((Sub.keep (Sub.keep (Sub.keep Sub.nil)))) (by kernel_rfl) (fun w0x H9 => ?_)
          replace HM := H9; clear H9
          refine k_mv 1 (heldG HM) ?_
          refine k_ld 3 [4, 5, 6, 7, 8, 9, 11, 12] (heldG HM) ?_
          refine three_L (i := 0) (j := 4) (k := 10) (by kernel_rfl) (op_L rfl (by rfl) ?_) (op_L rfl (by rfl) ?_) (op_L rfl (by rfl) ?_)
          · refine j_bs0 HM ?_; clear HM; intro b0 w1 HM
            refine ⟨(heldG HM), ?_⟩; ((try simp only [List.setIfInBounds_toArray]); (try simp only [List.set_cons_succ]); (try simp only [List.set_cons_zero]))
            refine three_L (i := 2) (j := 4) (k := 10) (by kernel_rfl) (op_L rfl (by rfl) ?_) (op_L rfl (by rfl) ?_) (op_L rfl (by rfl) ?_)
            · first | (refine j_app (m := l.map Jo.C.cells) (F := fun X => (b1, rowsOf [bad.cells]) :: (bz, Jo.z) :: (X ++ ((b10, x.cells) :: (tb, cT) :: (b4, bad.cells) :: (B ++ BB3)))) HM (SlAt.made0 b0) (HO.out.rd HM (fun p hp => by simp [hp])) ?_ (Jo.c_one l) (hlen := hcap); clear HM; intro s2 B2 w1 HS2 HM) | (refine j_app (m := l.map Jo.C.cells) (F := fun X => (b1, rowsOf [bad.cells]) :: (X ++ ((b10, x.cells) :: (tb, cT) :: (b4, bad.cells) :: (B ++ BB3)))) HM (SlAt.made0 b0) (HO.out.rd HM (fun p hp => by simp [hp])) ?_ (Jo.c_one l) (hlen := hcap); clear HM; intro s2 B2 w1 HS2 HM) | (refine j_app (m := l.map Jo.C.cells) (F := fun X => (bz, Jo.z) :: (X ++ ((b10, x.cells) :: (tb, cT) :: (b4, bad.cells) :: (B ++ BB3)))) HM (SlAt.made0 b0) (HO.out.rd HM (fun p hp => by simp [hp])) ?_ (Jo.c_one l) (hlen := hcap); clear HM; intro s2 B2 w1 HS2 HM) | (refine j_app (m := l.map Jo.C.cells) (F := fun X => (X ++ ((b10, x.cells) :: (tb, cT) :: (b4, bad.cells) :: (B ++ BB3)))) HM (SlAt.made0 b0) (HO.out.rd HM (fun p hp => by simp [hp])) ?_ (Jo.c_one l) (hlen := hcap); clear HM; intro s2 B2 w1 HS2 HM)
              refine ⟨(heldG HM), ?_⟩; ((try simp only [List.setIfInBounds_toArray]); (try simp only [List.set_cons_succ]); (try simp only [List.set_cons_zero]))
              refine j_two 4 10 ?_ ?_
              · refine j_bs1 (c0 := bad.cells) HM ?_; clear HM; intro b1 w1 HM
                refine ⟨(heldG HM), ?_⟩; ((try simp only [List.setIfInBounds_toArray]); (try simp only [List.set_cons_succ]); (try simp only [List.set_cons_zero]))
                refine j_two 5 10 ?_ ?_
                · first | (refine j_app (m := [bad.cells]) (F := fun X => (bz, Jo.z) :: (X ++ ((b10, x.cells) :: (tb, cT) :: (b4, bad.cells) :: (B ++ BB3)))) HM HS2 ((SlAt.made1 b1 rfl).rd HM (by simp)) ?_ (Jo.c_one [bad]) (hlen := hcap2); clear HM; intro s3 B3 w1 HS3 HM) | (refine j_app (m := [bad.cells]) (F := fun X => (X ++ ((b10, x.cells) :: (tb, cT) :: (b4, bad.cells) :: (B ++ BB3)))) HM HS2 ((SlAt.made1 b1 rfl).rd HM (by simp)) ?_ (Jo.c_one [bad]) (hlen := hcap2); clear HM; intro s3 B3 w1 HS3 HM)
                  refine ⟨(heldG HM), ?_⟩; ((try simp only [List.setIfInBounds_toArray]); (try simp only [List.set_cons_succ]); (try simp only [List.set_cons_zero]))
                  refine j_two 6 10 ?_ ?_
                  · refine o_callg (J _ _ (Jo.rd_more HM (by have := HS3.rd HM (fun p hp => by simp [hp]); rw [List.nil_append] at this; exact this) HX3.out (fun p hp => by simp [hp]) HL2.out (HBD.out.below HM.low) hbl)) rfl ?_ ?_; (focus (refine h_call2 (ts := ?_) (x1 := ?_) (x2 := ?_) ?_ (by kernel_rfl) ?_ ?_; rotate_left 3; (focus rfl); (focus rfl); rfl)); rintro e9 w1 ⟨x2, Bj2, hx2, rfl, hx25, HSX2, HM1⟩; have s14 : SA 25 Jo.z 0 (.agg x2.cells) x2.cells := sa_cc x2.s x2.k x2.v Jo.z rfl rfl; (first | (have HM2 : Mem W [] ((b10, x.cells) :: (tb, cT) :: (b4, bad.cells) :: (B ++ (Bj2 ++ BB3))) w1 := Mem.j1 [(b10, x.cells), (tb, cT), (b4, bad.cells)] (HM.join HM1); clear HM HM1; have HM := HM2; clear HM2) | (have HM2 : Mem W [] ((bz, Jo.z) :: (b10, x.cells) :: (tb, cT) :: (b4, bad.cells) :: (B ++ (Bj2 ++ BB3))) w1 := Mem.j2 [(b10, x.cells), (tb, cT), (b4, bad.cells)] (HM.join HM1); clear HM HM1; have HM := HM2; clear HM2)); refine ⟨_, rfl, ?_⟩
                    refine ⟨(heldG HM), ?_⟩; ((try simp only [List.setIfInBounds_toArray]); (try simp only [List.set_cons_succ]); (try simp only [List.set_cons_zero]))
                    refine k_mv 7 (heldG HM) ?_
                    refine k_ext 8 (heldG HM) ?_
                    refine k_ext 9 (heldG HM) ?_
                    refine j_one 10 fun K9 hK9 => ?_
                    refine j_al HM ?_; clear HM; intro bz w1 HM
                    refine hK9 _ _ (heldG HM) ?_; clear hK9 K9; ((try simp only [List.setIfInBounds_toArray]); (try simp only [List.set_cons_succ]); (try simp only [List.set_cons_zero]))
                    refine j_one 11 fun K9 hK9 => ?_
                    refine j_st HM ?_; clear HM; intro w1 HM
                    refine hK9 _ _ heldN ?_; clear hK9 K9
                    refine k_mv 12 heldN ?_
                    refine wpAnyL_done (by kernel_rfl) ?_ _
                    (go_wp2_with fail; go_meet; (case rel => exact ⟨bz, x2, Bj2, rfl, rfl, hx2, hx25, HSX2, HM⟩))
                  · refine j_al HM ?_; clear HM; intro bz w1 HM
                    refine ⟨(heldG HM), ?_⟩; ((try simp only [List.setIfInBounds_toArray]); (try simp only [List.set_cons_succ]); (try simp only [List.set_cons_zero]))
                    refine j_one 6 fun K9 hK9 => ?_
                    refine o_callg (J _ _ (Jo.rd_more HM (by have := HS3.rd HM (fun p hp => by simp [hp]); rw [List.nil_append] at this; exact this) HX3.out (fun p hp => by simp [hp]) HL2.out (HBD.out.below HM.low) hbl)) rfl ?_ ?_; (focus (refine h_call2 (ts := ?_) (x1 := ?_) (x2 := ?_) ?_ (by kernel_rfl) ?_ ?_; rotate_left 3; (focus rfl); (focus rfl); rfl)); rintro e9 w1 ⟨x2, Bj2, hx2, rfl, hx25, HSX2, HM1⟩; have s14 : SA 25 Jo.z 0 (.agg x2.cells) x2.cells := sa_cc x2.s x2.k x2.v Jo.z rfl rfl; (first | (have HM2 : Mem W [] ((b10, x.cells) :: (tb, cT) :: (b4, bad.cells) :: (B ++ (Bj2 ++ BB3))) w1 := Mem.j1 [(b10, x.cells), (tb, cT), (b4, bad.cells)] (HM.join HM1); clear HM HM1; have HM := HM2; clear HM2) | (have HM2 : Mem W [] ((bz, Jo.z) :: (b10, x.cells) :: (tb, cT) :: (b4, bad.cells) :: (B ++ (Bj2 ++ BB3))) w1 := Mem.j2 [(b10, x.cells), (tb, cT), (b4, bad.cells)] (HM.join HM1); clear HM HM1; have HM := HM2; clear HM2)); refine ⟨_, rfl, ?_⟩
                    refine hK9 _ _ (heldG HM) ?_; clear hK9 K9; ((try simp only [List.setIfInBounds_toArray]); (try simp only [List.set_cons_succ]); (try simp only [List.set_cons_zero]))
                    refine k_mv 7 (heldG HM) ?_
                    refine k_ext 8 (heldG HM) ?_
                    refine k_ext 9 (heldG HM) ?_
                    refine j_one 11 fun K9 hK9 => ?_
                    refine j_st HM ?_; clear HM; intro w1 HM
                    refine hK9 _ _ heldN ?_; clear hK9 K9
                    refine k_mv 12 heldN ?_
                    refine wpAnyL_done (by kernel_rfl) ?_ _
                    (go_wp2_with fail; go_meet; (case rel => exact ⟨bz, x2, Bj2, rfl, rfl, hx2, hx25, HSX2, HM⟩))
                · refine j_al HM ?_; clear HM; intro bz w1 HM
                  refine ⟨(heldG HM), ?_⟩; ((try simp only [List.setIfInBounds_toArray]); (try simp only [List.set_cons_succ]); (try simp only [List.set_cons_zero]))
                  refine j_one 5 fun K9 hK9 => ?_
                  first | (refine j_app (m := [bad.cells]) (F := fun X => (bz, Jo.z) :: (X ++ ((b10, x.cells) :: (tb, cT) :: (b4, bad.cells) :: (B ++ BB3)))) HM HS2 ((SlAt.made1 b1 rfl).rd HM (by simp)) ?_ (Jo.c_one [bad]) (hlen := hcap2); clear HM; intro s3 B3 w1 HS3 HM) | (refine j_app (m := [bad.cells]) (F := fun X => (X ++ ((b10, x.cells) :: (tb, cT) :: (b4, bad.cells) :: (B ++ BB3)))) HM HS2 ((SlAt.made1 b1 rfl).rd HM (by simp)) ?_ (Jo.c_one [bad]) (hlen := hcap2); clear HM; intro s3 B3 w1 HS3 HM)
                  refine hK9 _ _ (heldG HM) ?_; clear hK9 K9; ((try simp only [List.setIfInBounds_toArray]); (try simp only [List.set_cons_succ]); (try simp only [List.set_cons_zero]))
                  refine j_one 6 fun K9 hK9 => ?_
                  refine o_callg (J _ _ (Jo.rd_more HM (by have := HS3.rd HM (fun p hp => by simp [hp]); rw [List.nil_append] at this; exact this) HX3.out (fun p hp => by simp [hp]) HL2.out (HBD.out.below HM.low) hbl)) rfl ?_ ?_; (focus (refine h_call2 (ts := ?_) (x1 := ?_) (x2 := ?_) ?_ (by kernel_rfl) ?_ ?_; rotate_left 3; (focus rfl); (focus rfl); rfl)); rintro e9 w1 ⟨x2, Bj2, hx2, rfl, hx25, HSX2, HM1⟩; have s14 : SA 25 Jo.z 0 (.agg x2.cells) x2.cells := sa_cc x2.s x2.k x2.v Jo.z rfl rfl; (first | (have HM2 : Mem W [] ((b10, x.cells) :: (tb, cT) :: (b4, bad.cells) :: (B ++ (Bj2 ++ BB3))) w1 := Mem.j1 [(b10, x.cells), (tb, cT), (b4, bad.cells)] (HM.join HM1); clear HM HM1; have HM := HM2; clear HM2) | (have HM2 : Mem W [] ((bz, Jo.z) :: (b10, x.cells) :: (tb, cT) :: (b4, bad.cells) :: (B ++ (Bj2 ++ BB3))) w1 := Mem.j2 [(b10, x.cells), (tb, cT), (b4, bad.cells)] (HM.join HM1); clear HM HM1; have HM := HM2; clear HM2)); refine ⟨_, rfl, ?_⟩
                  refine hK9 _ _ (heldG HM) ?_; clear hK9 K9; ((try simp only [List.setIfInBounds_toArray]); (try simp only [List.set_cons_succ]); (try simp only [List.set_cons_zero]))
                  refine k_mv 7 (heldG HM) ?_
                  refine k_ext 8 (heldG HM) ?_
                  refine k_ext 9 (heldG HM) ?_
                  refine j_one 11 fun K9 hK9 => ?_
                  refine j_st HM ?_; clear HM; intro w1 HM
                  refine hK9 _ _ heldN ?_; clear hK9 K9
                  refine k_mv 12 heldN ?_
                  refine wpAnyL_done (by kernel_rfl) ?_ _
                  (go_wp2_with fail; go_meet; (case rel => exact ⟨bz, x2, Bj2, rfl, rfl, hx2, hx25, HSX2, HM⟩))
              · refine j_al HM ?_; clear HM; intro bz w1 HM
                refine ⟨(heldG HM), ?_⟩; ((try simp only [List.setIfInBounds_toArray]); (try simp only [List.set_cons_succ]); (try simp only [List.set_cons_zero]))
                refine j_one 4 fun K9 hK9 => ?_
                refine j_bs1 (c0 := bad.cells) HM ?_; clear HM; intro b1 w1 HM
                refine hK9 _ _ (heldG HM) ?_; clear hK9 K9; ((try simp only [List.setIfInBounds_toArray]); (try simp only [List.set_cons_succ]); (try simp only [List.set_cons_zero]))
                refine j_one 5 fun K9 hK9 => ?_
                first | (refine j_app (m := [bad.cells]) (F := fun X => (bz, Jo.z) :: (X ++ ((b10, x.cells) :: (tb, cT) :: (b4, bad.cells) :: (B ++ BB3)))) HM HS2 ((SlAt.made1 b1 rfl).rd HM (by simp)) ?_ (Jo.c_one [bad]) (hlen := hcap2); clear HM; intro s3 B3 w1 HS3 HM) | (refine j_app (m := [bad.cells]) (F := fun X => (X ++ ((b10, x.cells) :: (tb, cT) :: (b4, bad.cells) :: (B ++ BB3)))) HM HS2 ((SlAt.made1 b1 rfl).rd HM (by simp)) ?_ (Jo.c_one [bad]) (hlen := hcap2); clear HM; intro s3 B3 w1 HS3 HM)
                refine hK9 _ _ (heldG HM) ?_; clear hK9 K9; ((try simp only [List.setIfInBounds_toArray]); (try simp only [List.set_cons_succ]); (try simp only [List.set_cons_zero]))
                refine j_one 6 fun K9 hK9 => ?_
                refine o_callg (J _ _ (Jo.rd_more HM (by have := HS3.rd HM (fun p hp => by simp [hp]); rw [List.nil_append] at this; exact this) HX3.out (fun p hp => by simp [hp]) HL2.out (HBD.out.below HM.low) hbl)) rfl ?_ ?_; (focus (refine h_call2 (ts := ?_) (x1 := ?_) (x2 := ?_) ?_ (by kernel_rfl) ?_ ?_; rotate_left 3; (focus rfl); (focus rfl); rfl)); rintro e9 w1 ⟨x2, Bj2, hx2, rfl, hx25, HSX2, HM1⟩; have s14 : SA 25 Jo.z 0 (.agg x2.cells) x2.cells := sa_cc x2.s x2.k x2.v Jo.z rfl rfl; (first | (have HM2 : Mem W [] ((b10, x.cells) :: (tb, cT) :: (b4, bad.cells) :: (B ++ (Bj2 ++ BB3))) w1 := Mem.j1 [(b10, x.cells), (tb, cT), (b4, bad.cells)] (HM.join HM1); clear HM HM1; have HM := HM2; clear HM2) | (have HM2 : Mem W [] ((bz, Jo.z) :: (b10, x.cells) :: (tb, cT) :: (b4, bad.cells) :: (B ++ (Bj2 ++ BB3))) w1 := Mem.j2 [(b10, x.cells), (tb, cT), (b4, bad.cells)] (HM.join HM1); clear HM HM1; have HM := HM2; clear HM2)); refine ⟨_, rfl, ?_⟩
                refine hK9 _ _ (heldG HM) ?_; clear hK9 K9; ((try simp only [List.setIfInBounds_toArray]); (try simp only [List.set_cons_succ]); (try simp only [List.set_cons_zero]))
                refine k_mv 7 (heldG HM) ?_
                refine k_ext 8 (heldG HM) ?_
                refine k_ext 9 (heldG HM) ?_
                refine j_one 11 fun K9 hK9 => ?_
                refine j_st HM ?_; clear HM; intro w1 HM
                refine hK9 _ _ heldN ?_; clear hK9 K9
                refine k_mv 12 heldN ?_
                refine wpAnyL_done (by kernel_rfl) ?_ _
                (go_wp2_with fail; go_meet; (case rel => exact ⟨bz, x2, Bj2, rfl, rfl, hx2, hx25, HSX2, HM⟩))
            · refine j_bs1 (c0 := bad.cells) HM ?_; clear HM; intro b1 w1 HM
              refine ⟨(heldG HM), ?_⟩; ((try simp only [List.setIfInBounds_toArray]); (try simp only [List.set_cons_succ]); (try simp only [List.set_cons_zero]))
              refine j_two 2 10 ?_ ?_
              · first | (refine j_app (m := l.map Jo.C.cells) (F := fun X => (b1, rowsOf [bad.cells]) :: (bz, Jo.z) :: (X ++ ((b10, x.cells) :: (tb, cT) :: (b4, bad.cells) :: (B ++ BB3)))) HM (SlAt.made0 b0) (HO.out.rd HM (fun p hp => by simp [hp])) ?_ (Jo.c_one l) (hlen := hcap); clear HM; intro s2 B2 w1 HS2 HM) | (refine j_app (m := l.map Jo.C.cells) (F := fun X => (b1, rowsOf [bad.cells]) :: (X ++ ((b10, x.cells) :: (tb, cT) :: (b4, bad.cells) :: (B ++ BB3)))) HM (SlAt.made0 b0) (HO.out.rd HM (fun p hp => by simp [hp])) ?_ (Jo.c_one l) (hlen := hcap); clear HM; intro s2 B2 w1 HS2 HM) | (refine j_app (m := l.map Jo.C.cells) (F := fun X => (bz, Jo.z) :: (X ++ ((b10, x.cells) :: (tb, cT) :: (b4, bad.cells) :: (B ++ BB3)))) HM (SlAt.made0 b0) (HO.out.rd HM (fun p hp => by simp [hp])) ?_ (Jo.c_one l) (hlen := hcap); clear HM; intro s2 B2 w1 HS2 HM) | (refine j_app (m := l.map Jo.C.cells) (F := fun X => (X ++ ((b10, x.cells) :: (tb, cT) :: (b4, bad.cells) :: (B ++ BB3)))) HM (SlAt.made0 b0) (HO.out.rd HM (fun p hp => by simp [hp])) ?_ (Jo.c_one l) (hlen := hcap); clear HM; intro s2 B2 w1 HS2 HM)
                refine ⟨(heldG HM), ?_⟩; ((try simp only [List.setIfInBounds_toArray]); (try simp only [List.set_cons_succ]); (try simp only [List.set_cons_zero]))
                refine j_two 5 10 ?_ ?_
                · first | (refine j_app (m := [bad.cells]) (F := fun X => (bz, Jo.z) :: (X ++ ((b10, x.cells) :: (tb, cT) :: (b4, bad.cells) :: (B ++ BB3)))) HM HS2 ((SlAt.made1 b1 rfl).rd HM (by simp)) ?_ (Jo.c_one [bad]) (hlen := hcap2); clear HM; intro s3 B3 w1 HS3 HM) | (refine j_app (m := [bad.cells]) (F := fun X => (X ++ ((b10, x.cells) :: (tb, cT) :: (b4, bad.cells) :: (B ++ BB3)))) HM HS2 ((SlAt.made1 b1 rfl).rd HM (by simp)) ?_ (Jo.c_one [bad]) (hlen := hcap2); clear HM; intro s3 B3 w1 HS3 HM)
                  refine ⟨(heldG HM), ?_⟩; ((try simp only [List.setIfInBounds_toArray]); (try simp only [List.set_cons_succ]); (try simp only [List.set_cons_zero]))
                  refine j_two 6 10 ?_ ?_
                  · refine o_callg (J _ _ (Jo.rd_more HM (by have := HS3.rd HM (fun p hp => by simp [hp]); rw [List.nil_append] at this; exact this) HX3.out (fun p hp => by simp [hp]) HL2.out (HBD.out.below HM.low) hbl)) rfl ?_ ?_; (focus (refine h_call2 (ts := ?_) (x1 := ?_) (x2 := ?_) ?_ (by kernel_rfl) ?_ ?_; rotate_left 3; (focus rfl); (focus rfl); rfl)); rintro e9 w1 ⟨x2, Bj2, hx2, rfl, hx25, HSX2, HM1⟩; have s14 : SA 25 Jo.z 0 (.agg x2.cells) x2.cells := sa_cc x2.s x2.k x2.v Jo.z rfl rfl; (first | (have HM2 : Mem W [] ((b10, x.cells) :: (tb, cT) :: (b4, bad.cells) :: (B ++ (Bj2 ++ BB3))) w1 := Mem.j1 [(b10, x.cells), (tb, cT), (b4, bad.cells)] (HM.join HM1); clear HM HM1; have HM := HM2; clear HM2) | (have HM2 : Mem W [] ((bz, Jo.z) :: (b10, x.cells) :: (tb, cT) :: (b4, bad.cells) :: (B ++ (Bj2 ++ BB3))) w1 := Mem.j2 [(b10, x.cells), (tb, cT), (b4, bad.cells)] (HM.join HM1); clear HM HM1; have HM := HM2; clear HM2)); refine ⟨_, rfl, ?_⟩
                    refine ⟨(heldG HM), ?_⟩; ((try simp only [List.setIfInBounds_toArray]); (try simp only [List.set_cons_succ]); (try simp only [List.set_cons_zero]))
                    refine k_mv 7 (heldG HM) ?_
                    refine k_ext 8 (heldG HM) ?_
                    refine k_ext 9 (heldG HM) ?_
                    refine j_one 10 fun K9 hK9 => ?_
                    refine j_al HM ?_; clear HM; intro bz w1 HM
                    refine hK9 _ _ (heldG HM) ?_; clear hK9 K9; ((try simp only [List.setIfInBounds_toArray]); (try simp only [List.set_cons_succ]); (try simp only [List.set_cons_zero]))
                    refine j_one 11 fun K9 hK9 => ?_
                    refine j_st HM ?_; clear HM; intro w1 HM
                    refine hK9 _ _ heldN ?_; clear hK9 K9
                    refine k_mv 12 heldN ?_
                    refine wpAnyL_done (by kernel_rfl) ?_ _
                    (go_wp2_with fail; go_meet; (case rel => exact ⟨bz, x2, Bj2, rfl, rfl, hx2, hx25, HSX2, HM⟩))
                  · refine j_al HM ?_; clear HM; intro bz w1 HM
                    refine ⟨(heldG HM), ?_⟩; ((try simp only [List.setIfInBounds_toArray]); (try simp only [List.set_cons_succ]); (try simp only [List.set_cons_zero]))
                    refine j_one 6 fun K9 hK9 => ?_
                    refine o_callg (J _ _ (Jo.rd_more HM (by have := HS3.rd HM (fun p hp => by simp [hp]); rw [List.nil_append] at this; exact this) HX3.out (fun p hp => by simp [hp]) HL2.out (HBD.out.below HM.low) hbl)) rfl ?_ ?_; (focus (refine h_call2 (ts := ?_) (x1 := ?_) (x2 := ?_) ?_ (by kernel_rfl) ?_ ?_; rotate_left 3; (focus rfl); (focus rfl); rfl)); rintro e9 w1 ⟨x2, Bj2, hx2, rfl, hx25, HSX2, HM1⟩; have s14 : SA 25 Jo.z 0 (.agg x2.cells) x2.cells := sa_cc x2.s x2.k x2.v Jo.z rfl rfl; (first | (have HM2 : Mem W [] ((b10, x.cells) :: (tb, cT) :: (b4, bad.cells) :: (B ++ (Bj2 ++ BB3))) w1 := Mem.j1 [(b10, x.cells), (tb, cT), (b4, bad.cells)] (HM.join HM1); clear HM HM1; have HM := HM2; clear HM2) | (have HM2 : Mem W [] ((bz, Jo.z) :: (b10, x.cells) :: (tb, cT) :: (b4, bad.cells) :: (B ++ (Bj2 ++ BB3))) w1 := Mem.j2 [(b10, x.cells), (tb, cT), (b4, bad.cells)] (HM.join HM1); clear HM HM1; have HM := HM2; clear HM2)); refine ⟨_, rfl, ?_⟩
                    refine hK9 _ _ (heldG HM) ?_; clear hK9 K9; ((try simp only [List.setIfInBounds_toArray]); (try simp only [List.set_cons_succ]); (try simp only [List.set_cons_zero]))
                    refine k_mv 7 (heldG HM) ?_
                    refine k_ext 8 (heldG HM) ?_
                    refine k_ext 9 (heldG HM) ?_
                    refine j_one 11 fun K9 hK9 => ?_
                    refine j_st HM ?_; clear HM; intro w1 HM
                    refine hK9 _ _ heldN ?_; clear hK9 K9
                    refine k_mv 12 heldN ?_
                    refine wpAnyL_done (by kernel_rfl) ?_ _
                    (go_wp2_with fail; go_meet; (case rel => exact ⟨bz, x2, Bj2, rfl, rfl, hx2, hx25, HSX2, HM⟩))
                · refine j_al HM ?_; clear HM; intro bz w1 HM
                  refine ⟨(heldG HM), ?_⟩; ((try simp only [List.setIfInBounds_toArray]); (try simp only [List.set_cons_succ]); (try simp only [List.set_cons_zero]))
                  refine j_one 5 fun K9 hK9 => ?_
                  first | (refine j_app (m := [bad.cells]) (F := fun X => (bz, Jo.z) :: (X ++ ((b10, x.cells) :: (tb, cT) :: (b4, bad.cells) :: (B ++ BB3)))) HM HS2 ((SlAt.made1 b1 rfl).rd HM (by simp)) ?_ (Jo.c_one [bad]) (hlen := hcap2); clear HM; intro s3 B3 w1 HS3 HM) | (refine j_app (m := [bad.cells]) (F := fun X => (X ++ ((b10, x.cells) :: (tb, cT) :: (b4, bad.cells) :: (B ++ BB3)))) HM HS2 ((SlAt.made1 b1 rfl).rd HM (by simp)) ?_ (Jo.c_one [bad]) (hlen := hcap2); clear HM; intro s3 B3 w1 HS3 HM)
                  refine hK9 _ _ (heldG HM) ?_; clear hK9 K9; ((try simp only [List.setIfInBounds_toArray]); (try simp only [List.set_cons_succ]); (try simp only [List.set_cons_zero]))
                  refine j_one 6 fun K9 hK9 => ?_
                  refine o_callg (J _ _ (Jo.rd_more HM (by have := HS3.rd HM (fun p hp => by simp [hp]); rw [List.nil_append] at this; exact this) HX3.out (fun p hp => by simp [hp]) HL2.out (HBD.out.below HM.low) hbl)) rfl ?_ ?_; (focus (refine h_call2 (ts := ?_) (x1 := ?_) (x2 := ?_) ?_ (by kernel_rfl) ?_ ?_; rotate_left 3; (focus rfl); (focus rfl); rfl)); rintro e9 w1 ⟨x2, Bj2, hx2, rfl, hx25, HSX2, HM1⟩; have s14 : SA 25 Jo.z 0 (.agg x2.cells) x2.cells := sa_cc x2.s x2.k x2.v Jo.z rfl rfl; (first | (have HM2 : Mem W [] ((b10, x.cells) :: (tb, cT) :: (b4, bad.cells) :: (B ++ (Bj2 ++ BB3))) w1 := Mem.j1 [(b10, x.cells), (tb, cT), (b4, bad.cells)] (HM.join HM1); clear HM HM1; have HM := HM2; clear HM2) | (have HM2 : Mem W [] ((bz, Jo.z) :: (b10, x.cells) :: (tb, cT) :: (b4, bad.cells) :: (B ++ (Bj2 ++ BB3))) w1 := Mem.j2 [(b10, x.cells), (tb, cT), (b4, bad.cells)] (HM.join HM1); clear HM HM1; have HM := HM2; clear HM2)); refine ⟨_, rfl, ?_⟩
                  refine hK9 _ _ (heldG HM) ?_; clear hK9 K9; ((try simp only [List.setIfInBounds_toArray]); (try simp only [List.set_cons_succ]); (try simp only [List.set_cons_zero]))
                  refine k_mv 7 (heldG HM) ?_
                  refine k_ext 8 (heldG HM) ?_
                  refine k_ext 9 (heldG HM) ?_
                  refine j_one 11 fun K9 hK9 => ?_
                  refine j_st HM ?_; clear HM; intro w1 HM
                  refine hK9 _ _ heldN ?_; clear hK9 K9
                  refine k_mv 12 heldN ?_
                  refine wpAnyL_done (by kernel_rfl) ?_ _
                  (go_wp2_with fail; go_meet; (case rel => exact ⟨bz, x2, Bj2, rfl, rfl, hx2, hx25, HSX2, HM⟩))
              · refine j_al HM ?_; clear HM; intro bz w1 HM
                refine ⟨(heldG HM), ?_⟩; ((try simp only [List.setIfInBounds_toArray]); (try simp only [List.set_cons_succ]); (try simp only [List.set_cons_zero]))
                refine j_one 2 fun K9 hK9 => ?_
                first | (refine j_app (m := l.map Jo.C.cells) (F := fun X => (b1, rowsOf [bad.cells]) :: (bz, Jo.z) :: (X ++ ((b10, x.cells) :: (tb, cT) :: (b4, bad.cells) :: (B ++ BB3)))) HM (SlAt.made0 b0) (HO.out.rd HM (fun p hp => by simp [hp])) ?_ (Jo.c_one l) (hlen := hcap); clear HM; intro s2 B2 w1 HS2 HM) | (refine j_app (m := l.map Jo.C.cells) (F := fun X => (b1, rowsOf [bad.cells]) :: (X ++ ((b10, x.cells) :: (tb, cT) :: (b4, bad.cells) :: (B ++ BB3)))) HM (SlAt.made0 b0) (HO.out.rd HM (fun p hp => by simp [hp])) ?_ (Jo.c_one l) (hlen := hcap); clear HM; intro s2 B2 w1 HS2 HM) | (refine j_app (m := l.map Jo.C.cells) (F := fun X => (bz, Jo.z) :: (X ++ ((b10, x.cells) :: (tb, cT) :: (b4, bad.cells) :: (B ++ BB3)))) HM (SlAt.made0 b0) (HO.out.rd HM (fun p hp => by simp [hp])) ?_ (Jo.c_one l) (hlen := hcap); clear HM; intro s2 B2 w1 HS2 HM) | (refine j_app (m := l.map Jo.C.cells) (F := fun X => (X ++ ((b10, x.cells) :: (tb, cT) :: (b4, bad.cells) :: (B ++ BB3)))) HM (SlAt.made0 b0) (HO.out.rd HM (fun p hp => by simp [hp])) ?_ (Jo.c_one l) (hlen := hcap); clear HM; intro s2 B2 w1 HS2 HM)
                refine hK9 _ _ (heldG HM) ?_; clear hK9 K9; ((try simp only [List.setIfInBounds_toArray]); (try simp only [List.set_cons_succ]); (try simp only [List.set_cons_zero]))
                refine j_one 5 fun K9 hK9 => ?_
                first | (refine j_app (m := [bad.cells]) (F := fun X => (bz, Jo.z) :: (X ++ ((b10, x.cells) :: (tb, cT) :: (b4, bad.cells) :: (B ++ BB3)))) HM HS2 ((SlAt.made1 b1 rfl).rd HM (by simp)) ?_ (Jo.c_one [bad]) (hlen := hcap2); clear HM; intro s3 B3 w1 HS3 HM) | (refine j_app (m := [bad.cells]) (F := fun X => (X ++ ((b10, x.cells) :: (tb, cT) :: (b4, bad.cells) :: (B ++ BB3)))) HM HS2 ((SlAt.made1 b1 rfl).rd HM (by simp)) ?_ (Jo.c_one [bad]) (hlen := hcap2); clear HM; intro s3 B3 w1 HS3 HM)
                refine hK9 _ _ (heldG HM) ?_; clear hK9 K9; ((try simp only [List.setIfInBounds_toArray]); (try simp only [List.set_cons_succ]); (try simp only [List.set_cons_zero]))
                refine j_one 6 fun K9 hK9 => ?_
                refine o_callg (J _ _ (Jo.rd_more HM (by have := HS3.rd HM (fun p hp => by simp [hp]); rw [List.nil_append] at this; exact this) HX3.out (fun p hp => by simp [hp]) HL2.out (HBD.out.below HM.low) hbl)) rfl ?_ ?_; (focus (refine h_call2 (ts := ?_) (x1 := ?_) (x2 := ?_) ?_ (by kernel_rfl) ?_ ?_; rotate_left 3; (focus rfl); (focus rfl); rfl)); rintro e9 w1 ⟨x2, Bj2, hx2, rfl, hx25, HSX2, HM1⟩; have s14 : SA 25 Jo.z 0 (.agg x2.cells) x2.cells := sa_cc x2.s x2.k x2.v Jo.z rfl rfl; (first | (have HM2 : Mem W [] ((b10, x.cells) :: (tb, cT) :: (b4, bad.cells) :: (B ++ (Bj2 ++ BB3))) w1 := Mem.j1 [(b10, x.cells), (tb, cT), (b4, bad.cells)] (HM.join HM1); clear HM HM1; have HM := HM2; clear HM2) | (have HM2 : Mem W [] ((bz, Jo.z) :: (b10, x.cells) :: (tb, cT) :: (b4, bad.cells) :: (B ++ (Bj2 ++ BB3))) w1 := Mem.j2 [(b10, x.cells), (tb, cT), (b4, bad.cells)] (HM.join HM1); clear HM HM1; have HM := HM2; clear HM2)); refine ⟨_, rfl, ?_⟩
                refine hK9 _ _ (heldG HM) ?_; clear hK9 K9; ((try simp only [List.setIfInBounds_toArray]); (try simp only [List.set_cons_succ]); (try simp only [List.set_cons_zero]))
                refine k_mv 7 (heldG HM) ?_
                refine k_ext 8 (heldG HM) ?_
                refine k_ext 9 (heldG HM) ?_
                refine j_one 11 fun K9 hK9 => ?_
                refine j_st HM ?_; clear HM; intro w1 HM
                refine hK9 _ _ heldN ?_; clear hK9 K9
                refine k_mv 12 heldN ?_
                refine wpAnyL_done (by kernel_rfl) ?_ _
                (go_wp2_with fail; go_meet; (case rel => exact ⟨bz, x2, Bj2, rfl, rfl, hx2, hx25, HSX2, HM⟩))
            · refine j_al HM ?_; clear HM; intro bz w1 HM
              refine ⟨(heldG HM), ?_⟩; ((try simp only [List.setIfInBounds_toArray]); (try simp only [List.set_cons_succ]); (try simp only [List.set_cons_zero]))
              refine j_two 2 4 ?_ ?_
              · first | (refine j_app (m := l.map Jo.C.cells) (F := fun X => (b1, rowsOf [bad.cells]) :: (bz, Jo.z) :: (X ++ ((b10, x.cells) :: (tb, cT) :: (b4, bad.cells) :: (B ++ BB3)))) HM (SlAt.made0 b0) (HO.out.rd HM (fun p hp => by simp [hp])) ?_ (Jo.c_one l) (hlen := hcap); clear HM; intro s2 B2 w1 HS2 HM) | (refine j_app (m := l.map Jo.C.cells) (F := fun X => (b1, rowsOf [bad.cells]) :: (X ++ ((b10, x.cells) :: (tb, cT) :: (b4, bad.cells) :: (B ++ BB3)))) HM (SlAt.made0 b0) (HO.out.rd HM (fun p hp => by simp [hp])) ?_ (Jo.c_one l) (hlen := hcap); clear HM; intro s2 B2 w1 HS2 HM) | (refine j_app (m := l.map Jo.C.cells) (F := fun X => (bz, Jo.z) :: (X ++ ((b10, x.cells) :: (tb, cT) :: (b4, bad.cells) :: (B ++ BB3)))) HM (SlAt.made0 b0) (HO.out.rd HM (fun p hp => by simp [hp])) ?_ (Jo.c_one l) (hlen := hcap); clear HM; intro s2 B2 w1 HS2 HM) | (refine j_app (m := l.map Jo.C.cells) (F := fun X => (X ++ ((b10, x.cells) :: (tb, cT) :: (b4, bad.cells) :: (B ++ BB3)))) HM (SlAt.made0 b0) (HO.out.rd HM (fun p hp => by simp [hp])) ?_ (Jo.c_one l) (hlen := hcap); clear HM; intro s2 B2 w1 HS2 HM)
                refine ⟨(heldG HM), ?_⟩; ((try simp only [List.setIfInBounds_toArray]); (try simp only [List.set_cons_succ]); (try simp only [List.set_cons_zero]))
                refine j_one 4 fun K9 hK9 => ?_
                refine j_bs1 (c0 := bad.cells) HM ?_; clear HM; intro b1 w1 HM
                refine hK9 _ _ (heldG HM) ?_; clear hK9 K9; ((try simp only [List.setIfInBounds_toArray]); (try simp only [List.set_cons_succ]); (try simp only [List.set_cons_zero]))
                refine j_one 5 fun K9 hK9 => ?_
                first | (refine j_app (m := [bad.cells]) (F := fun X => (bz, Jo.z) :: (X ++ ((b10, x.cells) :: (tb, cT) :: (b4, bad.cells) :: (B ++ BB3)))) HM HS2 ((SlAt.made1 b1 rfl).rd HM (by simp)) ?_ (Jo.c_one [bad]) (hlen := hcap2); clear HM; intro s3 B3 w1 HS3 HM) | (refine j_app (m := [bad.cells]) (F := fun X => (X ++ ((b10, x.cells) :: (tb, cT) :: (b4, bad.cells) :: (B ++ BB3)))) HM HS2 ((SlAt.made1 b1 rfl).rd HM (by simp)) ?_ (Jo.c_one [bad]) (hlen := hcap2); clear HM; intro s3 B3 w1 HS3 HM)
                refine hK9 _ _ (heldG HM) ?_; clear hK9 K9; ((try simp only [List.setIfInBounds_toArray]); (try simp only [List.set_cons_succ]); (try simp only [List.set_cons_zero]))
                refine j_one 6 fun K9 hK9 => ?_
                refine o_callg (J _ _ (Jo.rd_more HM (by have := HS3.rd HM (fun p hp => by simp [hp]); rw [List.nil_append] at this; exact this) HX3.out (fun p hp => by simp [hp]) HL2.out (HBD.out.below HM.low) hbl)) rfl ?_ ?_; (focus (refine h_call2 (ts := ?_) (x1 := ?_) (x2 := ?_) ?_ (by kernel_rfl) ?_ ?_; rotate_left 3; (focus rfl); (focus rfl); rfl)); rintro e9 w1 ⟨x2, Bj2, hx2, rfl, hx25, HSX2, HM1⟩; have s14 : SA 25 Jo.z 0 (.agg x2.cells) x2.cells := sa_cc x2.s x2.k x2.v Jo.z rfl rfl; (first | (have HM2 : Mem W [] ((b10, x.cells) :: (tb, cT) :: (b4, bad.cells) :: (B ++ (Bj2 ++ BB3))) w1 := Mem.j1 [(b10, x.cells), (tb, cT), (b4, bad.cells)] (HM.join HM1); clear HM HM1; have HM := HM2; clear HM2) | (have HM2 : Mem W [] ((bz, Jo.z) :: (b10, x.cells) :: (tb, cT) :: (b4, bad.cells) :: (B ++ (Bj2 ++ BB3))) w1 := Mem.j2 [(b10, x.cells), (tb, cT), (b4, bad.cells)] (HM.join HM1); clear HM HM1; have HM := HM2; clear HM2)); refine ⟨_, rfl, ?_⟩
                refine hK9 _ _ (heldG HM) ?_; clear hK9 K9; ((try simp only [List.setIfInBounds_toArray]); (try simp only [List.set_cons_succ]); (try simp only [List.set_cons_zero]))
                refine k_mv 7 (heldG HM) ?_
                refine k_ext 8 (heldG HM) ?_
                refine k_ext 9 (heldG HM) ?_
                refine j_one 11 fun K9 hK9 => ?_
                refine j_st HM ?_; clear HM; intro w1 HM
                refine hK9 _ _ heldN ?_; clear hK9 K9
                refine k_mv 12 heldN ?_
                refine wpAnyL_done (by kernel_rfl) ?_ _
                (go_wp2_with fail; go_meet; (case rel => exact ⟨bz, x2, Bj2, rfl, rfl, hx2, hx25, HSX2, HM⟩))
              · refine j_bs1 (c0 := bad.cells) HM ?_; clear HM; intro b1 w1 HM
                refine ⟨(heldG HM), ?_⟩; ((try simp only [List.setIfInBounds_toArray]); (try simp only [List.set_cons_succ]); (try simp only [List.set_cons_zero]))
                refine j_one 2 fun K9 hK9 => ?_
                first | (refine j_app (m := l.map Jo.C.cells) (F := fun X => (b1, rowsOf [bad.cells]) :: (bz, Jo.z) :: (X ++ ((b10, x.cells) :: (tb, cT) :: (b4, bad.cells) :: (B ++ BB3)))) HM (SlAt.made0 b0) (HO.out.rd HM (fun p hp => by simp [hp])) ?_ (Jo.c_one l) (hlen := hcap); clear HM; intro s2 B2 w1 HS2 HM) | (refine j_app (m := l.map Jo.C.cells) (F := fun X => (b1, rowsOf [bad.cells]) :: (X ++ ((b10, x.cells) :: (tb, cT) :: (b4, bad.cells) :: (B ++ BB3)))) HM (SlAt.made0 b0) (HO.out.rd HM (fun p hp => by simp [hp])) ?_ (Jo.c_one l) (hlen := hcap); clear HM; intro s2 B2 w1 HS2 HM) | (refine j_app (m := l.map Jo.C.cells) (F := fun X => (bz, Jo.z) :: (X ++ ((b10, x.cells) :: (tb, cT) :: (b4, bad.cells) :: (B ++ BB3)))) HM (SlAt.made0 b0) (HO.out.rd HM (fun p hp => by simp [hp])) ?_ (Jo.c_one l) (hlen := hcap); clear HM; intro s2 B2 w1 HS2 HM) | (refine j_app (m := l.map Jo.C.cells) (F := fun X => (X ++ ((b10, x.cells) :: (tb, cT) :: (b4, bad.cells) :: (B ++ BB3)))) HM (SlAt.made0 b0) (HO.out.rd HM (fun p hp => by simp [hp])) ?_ (Jo.c_one l) (hlen := hcap); clear HM; intro s2 B2 w1 HS2 HM)
                refine hK9 _ _ (heldG HM) ?_; clear hK9 K9; ((try simp only [List.setIfInBounds_toArray]); (try simp only [List.set_cons_succ]); (try simp only [List.set_cons_zero]))
                refine j_one 5 fun K9 hK9 => ?_
                first | (refine j_app (m := [bad.cells]) (F := fun X => (bz, Jo.z) :: (X ++ ((b10, x.cells) :: (tb, cT) :: (b4, bad.cells) :: (B ++ BB3)))) HM HS2 ((SlAt.made1 b1 rfl).rd HM (by simp)) ?_ (Jo.c_one [bad]) (hlen := hcap2); clear HM; intro s3 B3 w1 HS3 HM) | (refine j_app (m := [bad.cells]) (F := fun X => (X ++ ((b10, x.cells) :: (tb, cT) :: (b4, bad.cells) :: (B ++ BB3)))) HM HS2 ((SlAt.made1 b1 rfl).rd HM (by simp)) ?_ (Jo.c_one [bad]) (hlen := hcap2); clear HM; intro s3 B3 w1 HS3 HM)
                refine hK9 _ _ (heldG HM) ?_; clear hK9 K9; ((try simp only [List.setIfInBounds_toArray]); (try simp only [List.set_cons_succ]); (try simp only [List.set_cons_zero]))
                refine j_one 6 fun K9 hK9 => ?_
                refine o_callg (J _ _ (Jo.rd_more HM (by have := HS3.rd HM (fun p hp => by simp [hp]); rw [List.nil_append] at this; exact this) HX3.out (fun p hp => by simp [hp]) HL2.out (HBD.out.below HM.low) hbl)) rfl ?_ ?_; (focus (refine h_call2 (ts := ?_) (x1 := ?_) (x2 := ?_) ?_ (by kernel_rfl) ?_ ?_; rotate_left 3; (focus rfl); (focus rfl); rfl)); rintro e9 w1 ⟨x2, Bj2, hx2, rfl, hx25, HSX2, HM1⟩; have s14 : SA 25 Jo.z 0 (.agg x2.cells) x2.cells := sa_cc x2.s x2.k x2.v Jo.z rfl rfl; (first | (have HM2 : Mem W [] ((b10, x.cells) :: (tb, cT) :: (b4, bad.cells) :: (B ++ (Bj2 ++ BB3))) w1 := Mem.j1 [(b10, x.cells), (tb, cT), (b4, bad.cells)] (HM.join HM1); clear HM HM1; have HM := HM2; clear HM2) | (have HM2 : Mem W [] ((bz, Jo.z) :: (b10, x.cells) :: (tb, cT) :: (b4, bad.cells) :: (B ++ (Bj2 ++ BB3))) w1 := Mem.j2 [(b10, x.cells), (tb, cT), (b4, bad.cells)] (HM.join HM1); clear HM HM1; have HM := HM2; clear HM2)); refine ⟨_, rfl, ?_⟩
                refine hK9 _ _ (heldG HM) ?_; clear hK9 K9; ((try simp only [List.setIfInBounds_toArray]); (try simp only [List.set_cons_succ]); (try simp only [List.set_cons_zero]))
                refine k_mv 7 (heldG HM) ?_
                refine k_ext 8 (heldG HM) ?_
                refine k_ext 9 (heldG HM) ?_
                refine j_one 11 fun K9 hK9 => ?_
                refine j_st HM ?_; clear HM; intro w1 HM
                refine hK9 _ _ heldN ?_; clear hK9 K9
                refine k_mv 12 heldN ?_
                refine wpAnyL_done (by kernel_rfl) ?_ _
                (go_wp2_with fail; go_meet; (case rel => exact ⟨bz, x2, Bj2, rfl, rfl, hx2, hx25, HSX2, HM⟩))
          · refine j_bs1 (c0 := bad.cells) HM ?_; clear HM; intro b1 w1 HM
            refine ⟨(heldG HM), ?_⟩; ((try simp only [List.setIfInBounds_toArray]); (try simp only [List.set_cons_succ]); (try simp only [List.set_cons_zero]))
            refine j_two 0 10 ?_ ?_
            · refine j_bs0 HM ?_; clear HM; intro b0 w1 HM
              refine ⟨(heldG HM), ?_⟩; ((try simp only [List.setIfInBounds_toArray]); (try simp only [List.set_cons_succ]); (try simp only [List.set_cons_zero]))
              refine j_two 2 10 ?_ ?_
              · first | (refine j_app (m := l.map Jo.C.cells) (F := fun X => (b1, rowsOf [bad.cells]) :: (bz, Jo.z) :: (X ++ ((b10, x.cells) :: (tb, cT) :: (b4, bad.cells) :: (B ++ BB3)))) HM (SlAt.made0 b0) (HO.out.rd HM (fun p hp => by simp [hp])) ?_ (Jo.c_one l) (hlen := hcap); clear HM; intro s2 B2 w1 HS2 HM) | (refine j_app (m := l.map Jo.C.cells) (F := fun X => (b1, rowsOf [bad.cells]) :: (X ++ ((b10, x.cells) :: (tb, cT) :: (b4, bad.cells) :: (B ++ BB3)))) HM (SlAt.made0 b0) (HO.out.rd HM (fun p hp => by simp [hp])) ?_ (Jo.c_one l) (hlen := hcap); clear HM; intro s2 B2 w1 HS2 HM) | (refine j_app (m := l.map Jo.C.cells) (F := fun X => (bz, Jo.z) :: (X ++ ((b10, x.cells) :: (tb, cT) :: (b4, bad.cells) :: (B ++ BB3)))) HM (SlAt.made0 b0) (HO.out.rd HM (fun p hp => by simp [hp])) ?_ (Jo.c_one l) (hlen := hcap); clear HM; intro s2 B2 w1 HS2 HM) | (refine j_app (m := l.map Jo.C.cells) (F := fun X => (X ++ ((b10, x.cells) :: (tb, cT) :: (b4, bad.cells) :: (B ++ BB3)))) HM (SlAt.made0 b0) (HO.out.rd HM (fun p hp => by simp [hp])) ?_ (Jo.c_one l) (hlen := hcap); clear HM; intro s2 B2 w1 HS2 HM)
                refine ⟨(heldG HM), ?_⟩; ((try simp only [List.setIfInBounds_toArray]); (try simp only [List.set_cons_succ]); (try simp only [List.set_cons_zero]))
                refine j_two 5 10 ?_ ?_
                · first | (refine j_app (m := [bad.cells]) (F := fun X => (bz, Jo.z) :: (X ++ ((b10, x.cells) :: (tb, cT) :: (b4, bad.cells) :: (B ++ BB3)))) HM HS2 ((SlAt.made1 b1 rfl).rd HM (by simp)) ?_ (Jo.c_one [bad]) (hlen := hcap2); clear HM; intro s3 B3 w1 HS3 HM) | (refine j_app (m := [bad.cells]) (F := fun X => (X ++ ((b10, x.cells) :: (tb, cT) :: (b4, bad.cells) :: (B ++ BB3)))) HM HS2 ((SlAt.made1 b1 rfl).rd HM (by simp)) ?_ (Jo.c_one [bad]) (hlen := hcap2); clear HM; intro s3 B3 w1 HS3 HM)
                  refine ⟨(heldG HM), ?_⟩; ((try simp only [List.setIfInBounds_toArray]); (try simp only [List.set_cons_succ]); (try simp only [List.set_cons_zero]))
                  refine j_two 6 10 ?_ ?_
                  · refine o_callg (J _ _ (Jo.rd_more HM (by have := HS3.rd HM (fun p hp => by simp [hp]); rw [List.nil_append] at this; exact this) HX3.out (fun p hp => by simp [hp]) HL2.out (HBD.out.below HM.low) hbl)) rfl ?_ ?_; (focus (refine h_call2 (ts := ?_) (x1 := ?_) (x2 := ?_) ?_ (by kernel_rfl) ?_ ?_; rotate_left 3; (focus rfl); (focus rfl); rfl)); rintro e9 w1 ⟨x2, Bj2, hx2, rfl, hx25, HSX2, HM1⟩; have s14 : SA 25 Jo.z 0 (.agg x2.cells) x2.cells := sa_cc x2.s x2.k x2.v Jo.z rfl rfl; (first | (have HM2 : Mem W [] ((b10, x.cells) :: (tb, cT) :: (b4, bad.cells) :: (B ++ (Bj2 ++ BB3))) w1 := Mem.j1 [(b10, x.cells), (tb, cT), (b4, bad.cells)] (HM.join HM1); clear HM HM1; have HM := HM2; clear HM2) | (have HM2 : Mem W [] ((bz, Jo.z) :: (b10, x.cells) :: (tb, cT) :: (b4, bad.cells) :: (B ++ (Bj2 ++ BB3))) w1 := Mem.j2 [(b10, x.cells), (tb, cT), (b4, bad.cells)] (HM.join HM1); clear HM HM1; have HM := HM2; clear HM2)); refine ⟨_, rfl, ?_⟩
                    refine ⟨(heldG HM), ?_⟩; ((try simp only [List.setIfInBounds_toArray]); (try simp only [List.set_cons_succ]); (try simp only [List.set_cons_zero]))
                    refine k_mv 7 (heldG HM) ?_
                    refine k_ext 8 (heldG HM) ?_
                    refine k_ext 9 (heldG HM) ?_
                    refine j_one 10 fun K9 hK9 => ?_
                    refine j_al HM ?_; clear HM; intro bz w1 HM
                    refine hK9 _ _ (heldG HM) ?_; clear hK9 K9; ((try simp only [List.setIfInBounds_toArray]); (try simp only [List.set_cons_succ]); (try simp only [List.set_cons_zero]))
                    refine j_one 11 fun K9 hK9 => ?_
                    refine j_st HM ?_; clear HM; intro w1 HM
                    refine hK9 _ _ heldN ?_; clear hK9 K9
                    refine k_mv 12 heldN ?_
                    refine wpAnyL_done (by kernel_rfl) ?_ _
                    (go_wp2_with fail; go_meet; (case rel => exact ⟨bz, x2, Bj2, rfl, rfl, hx2, hx25, HSX2, HM⟩))
                  · refine j_al HM ?_; clear HM; intro bz w1 HM
                    refine ⟨(heldG HM), ?_⟩; ((try simp only [List.setIfInBounds_toArray]); (try simp only [List.set_cons_succ]); (try simp only [List.set_cons_zero]))
                    refine j_one 6 fun K9 hK9 => ?_
                    refine o_callg (J _ _ (Jo.rd_more HM (by have := HS3.rd HM (fun p hp => by simp [hp]); rw [List.nil_append] at this; exact this) HX3.out (fun p hp => by simp [hp]) HL2.out (HBD.out.below HM.low) hbl)) rfl ?_ ?_; (focus (refine h_call2 (ts := ?_) (x1 := ?_) (x2 := ?_) ?_ (by kernel_rfl) ?_ ?_; rotate_left 3; (focus rfl); (focus rfl); rfl)); rintro e9 w1 ⟨x2, Bj2, hx2, rfl, hx25, HSX2, HM1⟩; have s14 : SA 25 Jo.z 0 (.agg x2.cells) x2.cells := sa_cc x2.s x2.k x2.v Jo.z rfl rfl; (first | (have HM2 : Mem W [] ((b10, x.cells) :: (tb, cT) :: (b4, bad.cells) :: (B ++ (Bj2 ++ BB3))) w1 := Mem.j1 [(b10, x.cells), (tb, cT), (b4, bad.cells)] (HM.join HM1); clear HM HM1; have HM := HM2; clear HM2) | (have HM2 : Mem W [] ((bz, Jo.z) :: (b10, x.cells) :: (tb, cT) :: (b4, bad.cells) :: (B ++ (Bj2 ++ BB3))) w1 := Mem.j2 [(b10, x.cells), (tb, cT), (b4, bad.cells)] (HM.join HM1); clear HM HM1; have HM := HM2; clear HM2)); refine ⟨_, rfl, ?_⟩
                    refine hK9 _ _ (heldG HM) ?_; clear hK9 K9; ((try simp only [List.setIfInBounds_toArray]); (try simp only [List.set_cons_succ]); (try simp only [List.set_cons_zero]))
                    refine k_mv 7 (heldG HM) ?_
                    refine k_ext 8 (heldG HM) ?_
                    refine k_ext 9 (heldG HM) ?_
                    refine j_one 11 fun K9 hK9 => ?_
                    refine j_st HM ?_; clear HM; intro w1 HM
                    refine hK9 _ _ heldN ?_; clear hK9 K9
                    refine k_mv 12 heldN ?_
                    refine wpAnyL_done (by kernel_rfl) ?_ _
                    (go_wp2_with fail; go_meet; (case rel => exact ⟨bz, x2, Bj2, rfl, rfl, hx2, hx25, HSX2, HM⟩))
                · refine j_al HM ?_; clear HM; intro bz w1 HM
                  refine ⟨(heldG HM), ?_⟩; ((try simp only [List.setIfInBounds_toArray]); (try simp only [List.set_cons_succ]); (try simp only [List.set_cons_zero]))
                  refine j_one 5 fun K9 hK9 => ?_
                  first | (refine j_app (m := [bad.cells]) (F := fun X => (bz, Jo.z) :: (X ++ ((b10, x.cells) :: (tb, cT) :: (b4, bad.cells) :: (B ++ BB3)))) HM HS2 ((SlAt.made1 b1 rfl).rd HM (by simp)) ?_ (Jo.c_one [bad]) (hlen := hcap2); clear HM; intro s3 B3 w1 HS3 HM) | (refine j_app (m := [bad.cells]) (F := fun X => (X ++ ((b10, x.cells) :: (tb, cT) :: (b4, bad.cells) :: (B ++ BB3)))) HM HS2 ((SlAt.made1 b1 rfl).rd HM (by simp)) ?_ (Jo.c_one [bad]) (hlen := hcap2); clear HM; intro s3 B3 w1 HS3 HM)
                  refine hK9 _ _ (heldG HM) ?_; clear hK9 K9; ((try simp only [List.setIfInBounds_toArray]); (try simp only [List.set_cons_succ]); (try simp only [List.set_cons_zero]))
                  refine j_one 6 fun K9 hK9 => ?_
                  refine o_callg (J _ _ (Jo.rd_more HM (by have := HS3.rd HM (fun p hp => by simp [hp]); rw [List.nil_append] at this; exact this) HX3.out (fun p hp => by simp [hp]) HL2.out (HBD.out.below HM.low) hbl)) rfl ?_ ?_; (focus (refine h_call2 (ts := ?_) (x1 := ?_) (x2 := ?_) ?_ (by kernel_rfl) ?_ ?_; rotate_left 3; (focus rfl); (focus rfl); rfl)); rintro e9 w1 ⟨x2, Bj2, hx2, rfl, hx25, HSX2, HM1⟩; have s14 : SA 25 Jo.z 0 (.agg x2.cells) x2.cells := sa_cc x2.s x2.k x2.v Jo.z rfl rfl; (first | (have HM2 : Mem W [] ((b10, x.cells) :: (tb, cT) :: (b4, bad.cells) :: (B ++ (Bj2 ++ BB3))) w1 := Mem.j1 [(b10, x.cells), (tb, cT), (b4, bad.cells)] (HM.join HM1); clear HM HM1; have HM := HM2; clear HM2) | (have HM2 : Mem W [] ((bz, Jo.z) :: (b10, x.cells) :: (tb, cT) :: (b4, bad.cells) :: (B ++ (Bj2 ++ BB3))) w1 := Mem.j2 [(b10, x.cells), (tb, cT), (b4, bad.cells)] (HM.join HM1); clear HM HM1; have HM := HM2; clear HM2)); refine ⟨_, rfl, ?_⟩
                  refine hK9 _ _ (heldG HM) ?_; clear hK9 K9; ((try simp only [List.setIfInBounds_toArray]); (try simp only [List.set_cons_succ]); (try simp only [List.set_cons_zero]))
                  refine k_mv 7 (heldG HM) ?_
                  refine k_ext 8 (heldG HM) ?_
                  refine k_ext 9 (heldG HM) ?_
                  refine j_one 11 fun K9 hK9 => ?_
                  refine j_st HM ?_; clear HM; intro w1 HM
                  refine hK9 _ _ heldN ?_; clear hK9 K9
                  refine k_mv 12 heldN ?_
                  refine wpAnyL_done (by kernel_rfl) ?_ _
                  (go_wp2_with fail; go_meet; (case rel => exact ⟨bz, x2, Bj2, rfl, rfl, hx2, hx25, HSX2, HM⟩))
              · refine j_al HM ?_; clear HM; intro bz w1 HM
                refine ⟨(heldG HM), ?_⟩; ((try simp only [List.setIfInBounds_toArray]); (try simp only [List.set_cons_succ]); (try simp only [List.set_cons_zero]))
                refine j_one 2 fun K9 hK9 => ?_
                first | (refine j_app (m := l.map Jo.C.cells) (F := fun X => (b1, rowsOf [bad.cells]) :: (bz, Jo.z) :: (X ++ ((b10, x.cells) :: (tb, cT) :: (b4, bad.cells) :: (B ++ BB3)))) HM (SlAt.made0 b0) (HO.out.rd HM (fun p hp => by simp [hp])) ?_ (Jo.c_one l) (hlen := hcap); clear HM; intro s2 B2 w1 HS2 HM) | (refine j_app (m := l.map Jo.C.cells) (F := fun X => (b1, rowsOf [bad.cells]) :: (X ++ ((b10, x.cells) :: (tb, cT) :: (b4, bad.cells) :: (B ++ BB3)))) HM (SlAt.made0 b0) (HO.out.rd HM (fun p hp => by simp [hp])) ?_ (Jo.c_one l) (hlen := hcap); clear HM; intro s2 B2 w1 HS2 HM) | (refine j_app (m := l.map Jo.C.cells) (F := fun X => (bz, Jo.z) :: (X ++ ((b10, x.cells) :: (tb, cT) :: (b4, bad.cells) :: (B ++ BB3)))) HM (SlAt.made0 b0) (HO.out.rd HM (fun p hp => by simp [hp])) ?_ (Jo.c_one l) (hlen := hcap); clear HM; intro s2 B2 w1 HS2 HM) | (refine j_app (m := l.map Jo.C.cells) (F := fun X => (X ++ ((b10, x.cells) :: (tb, cT) :: (b4, bad.cells) :: (B ++ BB3)))) HM (SlAt.made0 b0) (HO.out.rd HM (fun p hp => by simp [hp])) ?_ (Jo.c_one l) (hlen := hcap); clear HM; intro s2 B2 w1 HS2 HM)
                refine hK9 _ _ (heldG HM) ?_; clear hK9 K9; ((try simp only [List.setIfInBounds_toArray]); (try simp only [List.set_cons_succ]); (try simp only [List.set_cons_zero]))
                refine j_one 5 fun K9 hK9 => ?_
                first | (refine j_app (m := [bad.cells]) (F := fun X => (bz, Jo.z) :: (X ++ ((b10, x.cells) :: (tb, cT) :: (b4, bad.cells) :: (B ++ BB3)))) HM HS2 ((SlAt.made1 b1 rfl).rd HM (by simp)) ?_ (Jo.c_one [bad]) (hlen := hcap2); clear HM; intro s3 B3 w1 HS3 HM) | (refine j_app (m := [bad.cells]) (F := fun X => (X ++ ((b10, x.cells) :: (tb, cT) :: (b4, bad.cells) :: (B ++ BB3)))) HM HS2 ((SlAt.made1 b1 rfl).rd HM (by simp)) ?_ (Jo.c_one [bad]) (hlen := hcap2); clear HM; intro s3 B3 w1 HS3 HM)
                refine hK9 _ _ (heldG HM) ?_; clear hK9 K9; ((try simp only [List.setIfInBounds_toArray]); (try simp only [List.set_cons_succ]); (try simp only [List.set_cons_zero]))
                refine j_one 6 fun K9 hK9 => ?_
                refine o_callg (J _ _ (Jo.rd_more HM (by have := HS3.rd HM (fun p hp => by simp [hp]); rw [List.nil_append] at this; exact this) HX3.out (fun p hp => by simp [hp]) HL2.out (HBD.out.below HM.low) hbl)) rfl ?_ ?_; (focus (refine h_call2 (ts := ?_) (x1 := ?_) (x2 := ?_) ?_ (by kernel_rfl) ?_ ?_; rotate_left 3; (focus rfl); (focus rfl); rfl)); rintro e9 w1 ⟨x2, Bj2, hx2, rfl, hx25, HSX2, HM1⟩; have s14 : SA 25 Jo.z 0 (.agg x2.cells) x2.cells := sa_cc x2.s x2.k x2.v Jo.z rfl rfl; (first | (have HM2 : Mem W [] ((b10, x.cells) :: (tb, cT) :: (b4, bad.cells) :: (B ++ (Bj2 ++ BB3))) w1 := Mem.j1 [(b10, x.cells), (tb, cT), (b4, bad.cells)] (HM.join HM1); clear HM HM1; have HM := HM2; clear HM2) | (have HM2 : Mem W [] ((bz, Jo.z) :: (b10, x.cells) :: (tb, cT) :: (b4, bad.cells) :: (B ++ (Bj2 ++ BB3))) w1 := Mem.j2 [(b10, x.cells), (tb, cT), (b4, bad.cells)] (HM.join HM1); clear HM HM1; have HM := HM2; clear HM2)); refine ⟨_, rfl, ?_⟩
                refine hK9 _ _ (heldG HM) ?_; clear hK9 K9; ((try simp only [List.setIfInBounds_toArray]); (try simp only [List.set_cons_succ]); (try simp only [List.set_cons_zero]))
                refine k_mv 7 (heldG HM) ?_
                refine k_ext 8 (heldG HM) ?_
                refine k_ext 9 (heldG HM) ?_
                refine j_one 11 fun K9 hK9 => ?_
                refine j_st HM ?_; clear HM; intro w1 HM
                refine hK9 _ _ heldN ?_; clear hK9 K9
                refine k_mv 12 heldN ?_
                refine wpAnyL_done (by kernel_rfl) ?_ _
                (go_wp2_with fail; go_meet; (case rel => exact ⟨bz, x2, Bj2, rfl, rfl, hx2, hx25, HSX2, HM⟩))
            · refine j_al HM ?_; clear HM; intro bz w1 HM
              refine ⟨(heldG HM), ?_⟩; ((try simp only [List.setIfInBounds_toArray]); (try simp only [List.set_cons_succ]); (try simp only [List.set_cons_zero]))
              refine j_one 0 fun K9 hK9 => ?_
              refine j_bs0 HM ?_; clear HM; intro b0 w1 HM
              refine hK9 _ _ (heldG HM) ?_; clear hK9 K9; ((try simp only [List.setIfInBounds_toArray]); (try simp only [List.set_cons_succ]); (try simp only [List.set_cons_zero]))
              refine j_one 2 fun K9 hK9 => ?_
              first | (refine j_app (m := l.map Jo.C.cells) (F := fun X => (b1, rowsOf [bad.cells]) :: (bz, Jo.z) :: (X ++ ((b10, x.cells) :: (tb, cT) :: (b4, bad.cells) :: (B ++ BB3)))) HM (SlAt.made0 b0) (HO.out.rd HM (fun p hp => by simp [hp])) ?_ (Jo.c_one l) (hlen := hcap); clear HM; intro s2 B2 w1 HS2 HM) | (refine j_app (m := l.map Jo.C.cells) (F := fun X => (b1, rowsOf [bad.cells]) :: (X ++ ((b10, x.cells) :: (tb, cT) :: (b4, bad.cells) :: (B ++ BB3)))) HM (SlAt.made0 b0) (HO.out.rd HM (fun p hp => by simp [hp])) ?_ (Jo.c_one l) (hlen := hcap); clear HM; intro s2 B2 w1 HS2 HM) | (refine j_app (m := l.map Jo.C.cells) (F := fun X => (bz, Jo.z) :: (X ++ ((b10, x.cells) :: (tb, cT) :: (b4, bad.cells) :: (B ++ BB3)))) HM (SlAt.made0 b0) (HO.out.rd HM (fun p hp => by simp [hp])) ?_ (Jo.c_one l) (hlen := hcap); clear HM; intro s2 B2 w1 HS2 HM) | (refine j_app (m := l.map Jo.C.cells) (F := fun X => (X ++ ((b10, x.cells) :: (tb, cT) :: (b4, bad.cells) :: (B ++ BB3)))) HM (SlAt.made0 b0) (HO.out.rd HM (fun p hp => by simp [hp])) ?_ (Jo.c_one l) (hlen := hcap); clear HM; intro s2 B2 w1 HS2 HM)
              refine hK9 _ _ (heldG HM) ?_; clear hK9 K9; ((try simp only [List.setIfInBounds_toArray]); (try simp only [List.set_cons_succ]); (try simp only [List.set_cons_zero]))
              refine j_one 5 fun K9 hK9 => ?_
              first | (refine j_app (m := [bad.cells]) (F := fun X => (bz, Jo.z) :: (X ++ ((b10, x.cells) :: (tb, cT) :: (b4, bad.cells) :: (B ++ BB3)))) HM HS2 ((SlAt.made1 b1 rfl).rd HM (by simp)) ?_ (Jo.c_one [bad]) (hlen := hcap2); clear HM; intro s3 B3 w1 HS3 HM) | (refine j_app (m := [bad.cells]) (F := fun X => (X ++ ((b10, x.cells) :: (tb, cT) :: (b4, bad.cells) :: (B ++ BB3)))) HM HS2 ((SlAt.made1 b1 rfl).rd HM (by simp)) ?_ (Jo.c_one [bad]) (hlen := hcap2); clear HM; intro s3 B3 w1 HS3 HM)
              refine hK9 _ _ (heldG HM) ?_; clear hK9 K9; ((try simp only [List.setIfInBounds_toArray]); (try simp only [List.set_cons_succ]); (try simp only [List.set_cons_zero]))
              refine j_one 6 fun K9 hK9 => ?_
              refine o_callg (J _ _ (Jo.rd_more HM (by have := HS3.rd HM (fun p hp => by simp [hp]); rw [List.nil_append] at this; exact this) HX3.out (fun p hp => by simp [hp]) HL2.out (HBD.out.below HM.low) hbl)) rfl ?_ ?_; (focus (refine h_call2 (ts := ?_) (x1 := ?_) (x2 := ?_) ?_ (by kernel_rfl) ?_ ?_; rotate_left 3; (focus rfl); (focus rfl); rfl)); rintro e9 w1 ⟨x2, Bj2, hx2, rfl, hx25, HSX2, HM1⟩; have s14 : SA 25 Jo.z 0 (.agg x2.cells) x2.cells := sa_cc x2.s x2.k x2.v Jo.z rfl rfl; (first | (have HM2 : Mem W [] ((b10, x.cells) :: (tb, cT) :: (b4, bad.cells) :: (B ++ (Bj2 ++ BB3))) w1 := Mem.j1 [(b10, x.cells), (tb, cT), (b4, bad.cells)] (HM.join HM1); clear HM HM1; have HM := HM2; clear HM2) | (have HM2 : Mem W [] ((bz, Jo.z) :: (b10, x.cells) :: (tb, cT) :: (b4, bad.cells) :: (B ++ (Bj2 ++ BB3))) w1 := Mem.j2 [(b10, x.cells), (tb, cT), (b4, bad.cells)] (HM.join HM1); clear HM HM1; have HM := HM2; clear HM2)); refine ⟨_, rfl, ?_⟩
              refine hK9 _ _ (heldG HM) ?_; clear hK9 K9; ((try simp only [List.setIfInBounds_toArray]); (try simp only [List.set_cons_succ]); (try simp only [List.set_cons_zero]))
              refine k_mv 7 (heldG HM) ?_
              refine k_ext 8 (heldG HM) ?_
              refine k_ext 9 (heldG HM) ?_
              refine j_one 11 fun K9 hK9 => ?_
              refine j_st HM ?_; clear HM; intro w1 HM
              refine hK9 _ _ heldN ?_; clear hK9 K9
              refine k_mv 12 heldN ?_
              refine wpAnyL_done (by kernel_rfl) ?_ _
              (go_wp2_with fail; go_meet; (case rel => exact ⟨bz, x2, Bj2, rfl, rfl, hx2, hx25, HSX2, HM⟩))
          · refine j_al HM ?_; clear HM; intro bz w1 HM
            refine ⟨(heldG HM), ?_⟩; ((try simp only [List.setIfInBounds_toArray]); (try simp only [List.set_cons_succ]); (try simp only [List.set_cons_zero]))
            refine j_two 0 4 ?_ ?_
            · refine j_bs0 HM ?_; clear HM; intro b0 w1 HM
              refine ⟨(heldG HM), ?_⟩; ((try simp only [List.setIfInBounds_toArray]); (try simp only [List.set_cons_succ]); (try simp only [List.set_cons_zero]))
              refine j_two 2 4 ?_ ?_
              · first | (refine j_app (m := l.map Jo.C.cells) (F := fun X => (b1, rowsOf [bad.cells]) :: (bz, Jo.z) :: (X ++ ((b10, x.cells) :: (tb, cT) :: (b4, bad.cells) :: (B ++ BB3)))) HM (SlAt.made0 b0) (HO.out.rd HM (fun p hp => by simp [hp])) ?_ (Jo.c_one l) (hlen := hcap); clear HM; intro s2 B2 w1 HS2 HM) | (refine j_app (m := l.map Jo.C.cells) (F := fun X => (b1, rowsOf [bad.cells]) :: (X ++ ((b10, x.cells) :: (tb, cT) :: (b4, bad.cells) :: (B ++ BB3)))) HM (SlAt.made0 b0) (HO.out.rd HM (fun p hp => by simp [hp])) ?_ (Jo.c_one l) (hlen := hcap); clear HM; intro s2 B2 w1 HS2 HM) | (refine j_app (m := l.map Jo.C.cells) (F := fun X => (bz, Jo.z) :: (X ++ ((b10, x.cells) :: (tb, cT) :: (b4, bad.cells) :: (B ++ BB3)))) HM (SlAt.made0 b0) (HO.out.rd HM (fun p hp => by simp [hp])) ?_ (Jo.c_one l) (hlen := hcap); clear HM; intro s2 B2 w1 HS2 HM) | (refine j_app (m := l.map Jo.C.cells) (F := fun X => (X ++ ((b10, x.cells) :: (tb, cT) :: (b4, bad.cells) :: (B ++ BB3)))) HM (SlAt.made0 b0) (HO.out.rd HM (fun p hp => by simp [hp])) ?_ (Jo.c_one l) (hlen := hcap); clear HM; intro s2 B2 w1 HS2 HM)
                refine ⟨(heldG HM), ?_⟩; ((try simp only [List.setIfInBounds_toArray]); (try simp only [List.set_cons_succ]); (try simp only [List.set_cons_zero]))
                refine j_one 4 fun K9 hK9 => ?_
                refine j_bs1 (c0 := bad.cells) HM ?_; clear HM; intro b1 w1 HM
                refine hK9 _ _ (heldG HM) ?_; clear hK9 K9; ((try simp only [List.setIfInBounds_toArray]); (try simp only [List.set_cons_succ]); (try simp only [List.set_cons_zero]))
                refine j_one 5 fun K9 hK9 => ?_
                first | (refine j_app (m := [bad.cells]) (F := fun X => (bz, Jo.z) :: (X ++ ((b10, x.cells) :: (tb, cT) :: (b4, bad.cells) :: (B ++ BB3)))) HM HS2 ((SlAt.made1 b1 rfl).rd HM (by simp)) ?_ (Jo.c_one [bad]) (hlen := hcap2); clear HM; intro s3 B3 w1 HS3 HM) | (refine j_app (m := [bad.cells]) (F := fun X => (X ++ ((b10, x.cells) :: (tb, cT) :: (b4, bad.cells) :: (B ++ BB3)))) HM HS2 ((SlAt.made1 b1 rfl).rd HM (by simp)) ?_ (Jo.c_one [bad]) (hlen := hcap2); clear HM; intro s3 B3 w1 HS3 HM)
                refine hK9 _ _ (heldG HM) ?_; clear hK9 K9; ((try simp only [List.setIfInBounds_toArray]); (try simp only [List.set_cons_succ]); (try simp only [List.set_cons_zero]))
                refine j_one 6 fun K9 hK9 => ?_
                refine o_callg (J _ _ (Jo.rd_more HM (by have := HS3.rd HM (fun p hp => by simp [hp]); rw [List.nil_append] at this; exact this) HX3.out (fun p hp => by simp [hp]) HL2.out (HBD.out.below HM.low) hbl)) rfl ?_ ?_; (focus (refine h_call2 (ts := ?_) (x1 := ?_) (x2 := ?_) ?_ (by kernel_rfl) ?_ ?_; rotate_left 3; (focus rfl); (focus rfl); rfl)); rintro e9 w1 ⟨x2, Bj2, hx2, rfl, hx25, HSX2, HM1⟩; have s14 : SA 25 Jo.z 0 (.agg x2.cells) x2.cells := sa_cc x2.s x2.k x2.v Jo.z rfl rfl; (first | (have HM2 : Mem W [] ((b10, x.cells) :: (tb, cT) :: (b4, bad.cells) :: (B ++ (Bj2 ++ BB3))) w1 := Mem.j1 [(b10, x.cells), (tb, cT), (b4, bad.cells)] (HM.join HM1); clear HM HM1; have HM := HM2; clear HM2) | (have HM2 : Mem W [] ((bz, Jo.z) :: (b10, x.cells) :: (tb, cT) :: (b4, bad.cells) :: (B ++ (Bj2 ++ BB3))) w1 := Mem.j2 [(b10, x.cells), (tb, cT), (b4, bad.cells)] (HM.join HM1); clear HM HM1; have HM := HM2; clear HM2)); refine ⟨_, rfl, ?_⟩
                refine hK9 _ _ (heldG HM) ?_; clear hK9 K9; ((try simp only [List.setIfInBounds_toArray]); (try simp only [List.set_cons_succ]); (try simp only [List.set_cons_zero]))
                refine k_mv 7 (heldG HM) ?_
                refine k_ext 8 (heldG HM) ?_
                refine k_ext 9 (heldG HM) ?_
                refine j_one 11 fun K9 hK9 => ?_
                refine j_st HM ?_; clear HM; intro w1 HM
                refine hK9 _ _ heldN ?_; clear hK9 K9
                refine k_mv 12 heldN ?_
                refine wpAnyL_done (by kernel_rfl) ?_ _
                (go_wp2_with fail; go_meet; (case rel => exact ⟨bz, x2, Bj2, rfl, rfl, hx2, hx25, HSX2, HM⟩))
              · refine j_bs1 (c0 := bad.cells) HM ?_; clear HM; intro b1 w1 HM
                refine ⟨(heldG HM), ?_⟩; ((try simp only [List.setIfInBounds_toArray]); (try simp only [List.set_cons_succ]); (try simp only [List.set_cons_zero]))
                refine j_one 2 fun K9 hK9 => ?_
                first | (refine j_app (m := l.map Jo.C.cells) (F := fun X => (b1, rowsOf [bad.cells]) :: (bz, Jo.z) :: (X ++ ((b10, x.cells) :: (tb, cT) :: (b4, bad.cells) :: (B ++ BB3)))) HM (SlAt.made0 b0) (HO.out.rd HM (fun p hp => by simp [hp])) ?_ (Jo.c_one l) (hlen := hcap); clear HM; intro s2 B2 w1 HS2 HM) | (refine j_app (m := l.map Jo.C.cells) (F := fun X => (b1, rowsOf [bad.cells]) :: (X ++ ((b10, x.cells) :: (tb, cT) :: (b4, bad.cells) :: (B ++ BB3)))) HM (SlAt.made0 b0) (HO.out.rd HM (fun p hp => by simp [hp])) ?_ (Jo.c_one l) (hlen := hcap); clear HM; intro s2 B2 w1 HS2 HM) | (refine j_app (m := l.map Jo.C.cells) (F := fun X => (bz, Jo.z) :: (X ++ ((b10, x.cells) :: (tb, cT) :: (b4, bad.cells) :: (B ++ BB3)))) HM (SlAt.made0 b0) (HO.out.rd HM (fun p hp => by simp [hp])) ?_ (Jo.c_one l) (hlen := hcap); clear HM; intro s2 B2 w1 HS2 HM) | (refine j_app (m := l.map Jo.C.cells) (F := fun X => (X ++ ((b10, x.cells) :: (tb, cT) :: (b4, bad.cells) :: (B ++ BB3)))) HM (SlAt.made0 b0) (HO.out.rd HM (fun p hp => by simp [hp])) ?_ (Jo.c_one l) (hlen := hcap); clear HM; intro s2 B2 w1 HS2 HM)
                refine hK9 _ _ (heldG HM) ?_; clear hK9 K9; ((try simp only [List.setIfInBounds_toArray]); (try simp only [List.set_cons_succ]); (try simp only [List.set_cons_zero]))
                refine j_one 5 fun K9 hK9 => ?_
                first | (refine j_app (m := [bad.cells]) (F := fun X => (bz, Jo.z) :: (X ++ ((b10, x.cells) :: (tb, cT) :: (b4, bad.cells) :: (B ++ BB3)))) HM HS2 ((SlAt.made1 b1 rfl).rd HM (by simp)) ?_ (Jo.c_one [bad]) (hlen := hcap2); clear HM; intro s3 B3 w1 HS3 HM) | (refine j_app (m := [bad.cells]) (F := fun X => (X ++ ((b10, x.cells) :: (tb, cT) :: (b4, bad.cells) :: (B ++ BB3)))) HM HS2 ((SlAt.made1 b1 rfl).rd HM (by simp)) ?_ (Jo.c_one [bad]) (hlen := hcap2); clear HM; intro s3 B3 w1 HS3 HM)
                refine hK9 _ _ (heldG HM) ?_; clear hK9 K9; ((try simp only [List.setIfInBounds_toArray]); (try simp only [List.set_cons_succ]); (try simp only [List.set_cons_zero]))
                refine j_one 6 fun K9 hK9 => ?_
                refine o_callg (J _ _ (Jo.rd_more HM (by have := HS3.rd HM (fun p hp => by simp [hp]); rw [List.nil_append] at this; exact this) HX3.out (fun p hp => by simp [hp]) HL2.out (HBD.out.below HM.low) hbl)) rfl ?_ ?_; (focus (refine h_call2 (ts := ?_) (x1 := ?_) (x2 := ?_) ?_ (by kernel_rfl) ?_ ?_; rotate_left 3; (focus rfl); (focus rfl); rfl)); rintro e9 w1 ⟨x2, Bj2, hx2, rfl, hx25, HSX2, HM1⟩; have s14 : SA 25 Jo.z 0 (.agg x2.cells) x2.cells := sa_cc x2.s x2.k x2.v Jo.z rfl rfl; (first | (have HM2 : Mem W [] ((b10, x.cells) :: (tb, cT) :: (b4, bad.cells) :: (B ++ (Bj2 ++ BB3))) w1 := Mem.j1 [(b10, x.cells), (tb, cT), (b4, bad.cells)] (HM.join HM1); clear HM HM1; have HM := HM2; clear HM2) | (have HM2 : Mem W [] ((bz, Jo.z) :: (b10, x.cells) :: (tb, cT) :: (b4, bad.cells) :: (B ++ (Bj2 ++ BB3))) w1 := Mem.j2 [(b10, x.cells), (tb, cT), (b4, bad.cells)] (HM.join HM1); clear HM HM1; have HM := HM2; clear HM2)); refine ⟨_, rfl, ?_⟩
                refine hK9 _ _ (heldG HM) ?_; clear hK9 K9; ((try simp only [List.setIfInBounds_toArray]); (try simp only [List.set_cons_succ]); (try simp only [List.set_cons_zero]))
                refine k_mv 7 (heldG HM) ?_
                refine k_ext 8 (heldG HM) ?_
                refine k_ext 9 (heldG HM) ?_
                refine j_one 11 fun K9 hK9 => ?_
                refine j_st HM ?_; clear HM; intro w1 HM
                refine hK9 _ _ heldN ?_; clear hK9 K9
                refine k_mv 12 heldN ?_
                refine wpAnyL_done (by kernel_rfl) ?_ _
                (go_wp2_with fail; go_meet; (case rel => exact ⟨bz, x2, Bj2, rfl, rfl, hx2, hx25, HSX2, HM⟩))
            · refine j_bs1 (c0 := bad.cells) HM ?_; clear HM; intro b1 w1 HM
              refine ⟨(heldG HM), ?_⟩; ((try simp only [List.setIfInBounds_toArray]); (try simp only [List.set_cons_succ]); (try simp only [List.set_cons_zero]))
              refine j_one 0 fun K9 hK9 => ?_
              refine j_bs0 HM ?_; clear HM; intro b0 w1 HM
              refine hK9 _ _ (heldG HM) ?_; clear hK9 K9; ((try simp only [List.setIfInBounds_toArray]); (try simp only [List.set_cons_succ]); (try simp only [List.set_cons_zero]))
              refine j_one 2 fun K9 hK9 => ?_
              first | (refine j_app (m := l.map Jo.C.cells) (F := fun X => (b1, rowsOf [bad.cells]) :: (bz, Jo.z) :: (X ++ ((b10, x.cells) :: (tb, cT) :: (b4, bad.cells) :: (B ++ BB3)))) HM (SlAt.made0 b0) (HO.out.rd HM (fun p hp => by simp [hp])) ?_ (Jo.c_one l) (hlen := hcap); clear HM; intro s2 B2 w1 HS2 HM) | (refine j_app (m := l.map Jo.C.cells) (F := fun X => (b1, rowsOf [bad.cells]) :: (X ++ ((b10, x.cells) :: (tb, cT) :: (b4, bad.cells) :: (B ++ BB3)))) HM (SlAt.made0 b0) (HO.out.rd HM (fun p hp => by simp [hp])) ?_ (Jo.c_one l) (hlen := hcap); clear HM; intro s2 B2 w1 HS2 HM) | (refine j_app (m := l.map Jo.C.cells) (F := fun X => (bz, Jo.z) :: (X ++ ((b10, x.cells) :: (tb, cT) :: (b4, bad.cells) :: (B ++ BB3)))) HM (SlAt.made0 b0) (HO.out.rd HM (fun p hp => by simp [hp])) ?_ (Jo.c_one l) (hlen := hcap); clear HM; intro s2 B2 w1 HS2 HM) | (refine j_app (m := l.map Jo.C.cells) (F := fun X => (X ++ ((b10, x.cells) :: (tb, cT) :: (b4, bad.cells) :: (B ++ BB3)))) HM (SlAt.made0 b0) (HO.out.rd HM (fun p hp => by simp [hp])) ?_ (Jo.c_one l) (hlen := hcap); clear HM; intro s2 B2 w1 HS2 HM)
              refine hK9 _ _ (heldG HM) ?_; clear hK9 K9; ((try simp only [List.setIfInBounds_toArray]); (try simp only [List.set_cons_succ]); (try simp only [List.set_cons_zero]))
              refine j_one 5 fun K9 hK9 => ?_
              first | (refine j_app (m := [bad.cells]) (F := fun X => (bz, Jo.z) :: (X ++ ((b10, x.cells) :: (tb, cT) :: (b4, bad.cells) :: (B ++ BB3)))) HM HS2 ((SlAt.made1 b1 rfl).rd HM (by simp)) ?_ (Jo.c_one [bad]) (hlen := hcap2); clear HM; intro s3 B3 w1 HS3 HM) | (refine j_app (m := [bad.cells]) (F := fun X => (X ++ ((b10, x.cells) :: (tb, cT) :: (b4, bad.cells) :: (B ++ BB3)))) HM HS2 ((SlAt.made1 b1 rfl).rd HM (by simp)) ?_ (Jo.c_one [bad]) (hlen := hcap2); clear HM; intro s3 B3 w1 HS3 HM)
              refine hK9 _ _ (heldG HM) ?_; clear hK9 K9; ((try simp only [List.setIfInBounds_toArray]); (try simp only [List.set_cons_succ]); (try simp only [List.set_cons_zero]))
              refine j_one 6 fun K9 hK9 => ?_
              refine o_callg (J _ _ (Jo.rd_more HM (by have := HS3.rd HM (fun p hp => by simp [hp]); rw [List.nil_append] at this; exact this) HX3.out (fun p hp => by simp [hp]) HL2.out (HBD.out.below HM.low) hbl)) rfl ?_ ?_; (focus (refine h_call2 (ts := ?_) (x1 := ?_) (x2 := ?_) ?_ (by kernel_rfl) ?_ ?_; rotate_left 3; (focus rfl); (focus rfl); rfl)); rintro e9 w1 ⟨x2, Bj2, hx2, rfl, hx25, HSX2, HM1⟩; have s14 : SA 25 Jo.z 0 (.agg x2.cells) x2.cells := sa_cc x2.s x2.k x2.v Jo.z rfl rfl; (first | (have HM2 : Mem W [] ((b10, x.cells) :: (tb, cT) :: (b4, bad.cells) :: (B ++ (Bj2 ++ BB3))) w1 := Mem.j1 [(b10, x.cells), (tb, cT), (b4, bad.cells)] (HM.join HM1); clear HM HM1; have HM := HM2; clear HM2) | (have HM2 : Mem W [] ((bz, Jo.z) :: (b10, x.cells) :: (tb, cT) :: (b4, bad.cells) :: (B ++ (Bj2 ++ BB3))) w1 := Mem.j2 [(b10, x.cells), (tb, cT), (b4, bad.cells)] (HM.join HM1); clear HM HM1; have HM := HM2; clear HM2)); refine ⟨_, rfl, ?_⟩
              refine hK9 _ _ (heldG HM) ?_; clear hK9 K9; ((try simp only [List.setIfInBounds_toArray]); (try simp only [List.set_cons_succ]); (try simp only [List.set_cons_zero]))
              refine k_mv 7 (heldG HM) ?_
              refine k_ext 8 (heldG HM) ?_
              refine k_ext 9 (heldG HM) ?_
              refine j_one 11 fun K9 hK9 => ?_
              refine j_st HM ?_; clear HM; intro w1 HM
              refine hK9 _ _ heldN ?_; clear hK9 K9
              refine k_mv 12 heldN ?_
              refine wpAnyL_done (by kernel_rfl) ?_ _
              (go_wp2_with fail; go_meet; (case rel => exact ⟨bz, x2, Bj2, rfl, rfl, hx2, hx25, HSX2, HM⟩))
      case rest =>
        clear HM J
        obtain ⟨b14, x2, Bj2, rfl, rfl, hx2, hx25, HSX2, HM⟩ := hcut
        obtain ⟨BB4, hB4⟩ : ∃ BB4, Hid (BB4 = Bj2 ++ BB3) := ⟨_, Lib.hid rfl⟩
        rw [← hB4.out] at HM
        have HX4 : Hid (Jo.In l BB4) := Lib.hid (HX3.out.more fun p hp => by rw [hB4.out]; simp [hp])
        have HXJ4 : Hid (∀ p ∈ Bj, p ∈ BB4) := Lib.hid fun p hp => by rw [hB4.out]; exact List.mem_append_right _ (HXJ.out p hp)
        have HX2J : Hid (∀ p ∈ Bj2, p ∈ BB4) := Lib.hid fun p hp => by rw [hB4.out]; exact List.mem_append_left _ hp
        clear hB4 HX3 HXJ
        go_upto_region 13 with fail
        go_cut [16, 17] (fun p ev wc => ∃ (b16 : Nat) (x3 : Jo.C) (Bj3 : List (Nat × Array Value)), p = .pointer (some ⟨b16, 0, none⟩) ∧ ev = .int .i64 r2 ∧ Jo.out ⟨#[97, 108, 108]⟩ (l ++ [bad]) = (x3.s, x3.k, x3.hs) ∧ x3.hs.length ≤ 100000 ∧ Hid (SlAt 1 x3.v (Jo.ir x3.hs) Bj3) ∧ Mem W [] ((b16, x3.cells) :: (b14, x2.cells) :: (b10, x.cells) :: (tb, cT) :: (b4, bad.cells) :: (B ++ (Bj3 ++ BB4))) wc)
        case first =>
          as_aux_lemma =>
            refine start_M2 [11] HM ((Sub.keep (Sub.keep (Sub.keep (Sub.keep Sub.nil))))) (by kernel_rfl) (fun w0x H9 => ?_)
            replace HM := H9; clear H9
            refine k_mv 1 (heldG HM) ?_
            refine k_ld 3 [4, 5, 6, 7, 8, 9, 11, 12] (heldG HM) ?_
            refine three_L (i := 0) (j := 4) (k := 10) (by kernel_rfl) (op_L rfl (by rfl) ?_) (op_L rfl (by rfl) ?_) (op_L rfl (by rfl) ?_)
            · refine j_bs0 HM ?_; clear HM; intro b0 w1 HM
              refine ⟨(heldG HM), ?_⟩; ((try simp only [List.setIfInBounds_toArray]); (try simp only [List.set_cons_succ]); (try simp only [List.set_cons_zero]))
              refine three_L (i := 2) (j := 4) (k := 10) (by kernel_rfl) (op_L rfl (by rfl) ?_) (op_L rfl (by rfl) ?_) (op_L rfl (by rfl) ?_)
              · first | (refine j_app (m := l.map Jo.C.cells) (F := fun X => (b1, rowsOf [bad.cells]) :: (bz, Jo.z) :: (X ++ ((b14, x2.cells) :: (b10, x.cells) :: (tb, cT) :: (b4, bad.cells) :: (B ++ BB4)))) HM (SlAt.made0 b0) (HO.out.rd HM (fun p hp => by simp [hp])) ?_ (Jo.c_one l) (hlen := hcap); clear HM; intro s2 B2 w1 HS2 HM) | (refine j_app (m := l.map Jo.C.cells) (F := fun X => (b1, rowsOf [bad.cells]) :: (X ++ ((b14, x2.cells) :: (b10, x.cells) :: (tb, cT) :: (b4, bad.cells) :: (B ++ BB4)))) HM (SlAt.made0 b0) (HO.out.rd HM (fun p hp => by simp [hp])) ?_ (Jo.c_one l) (hlen := hcap); clear HM; intro s2 B2 w1 HS2 HM) | (refine j_app (m := l.map Jo.C.cells) (F := fun X => (bz, Jo.z) :: (X ++ ((b14, x2.cells) :: (b10, x.cells) :: (tb, cT) :: (b4, bad.cells) :: (B ++ BB4)))) HM (SlAt.made0 b0) (HO.out.rd HM (fun p hp => by simp [hp])) ?_ (Jo.c_one l) (hlen := hcap); clear HM; intro s2 B2 w1 HS2 HM) | (refine j_app (m := l.map Jo.C.cells) (F := fun X => (X ++ ((b14, x2.cells) :: (b10, x.cells) :: (tb, cT) :: (b4, bad.cells) :: (B ++ BB4)))) HM (SlAt.made0 b0) (HO.out.rd HM (fun p hp => by simp [hp])) ?_ (Jo.c_one l) (hlen := hcap); clear HM; intro s2 B2 w1 HS2 HM)
                refine ⟨(heldG HM), ?_⟩; ((try simp only [List.setIfInBounds_toArray]); (try simp only [List.set_cons_succ]); (try simp only [List.set_cons_zero]))
                refine j_two 4 10 ?_ ?_
                · refine j_bs1 (c0 := bad.cells) HM ?_; clear HM; intro b1 w1 HM
                  refine ⟨(heldG HM), ?_⟩; ((try simp only [List.setIfInBounds_toArray]); (try simp only [List.set_cons_succ]); (try simp only [List.set_cons_zero]))
                  refine j_two 5 10 ?_ ?_
                  · first | (refine j_app (m := [bad.cells]) (F := fun X => (bz, Jo.z) :: (X ++ ((b14, x2.cells) :: (b10, x.cells) :: (tb, cT) :: (b4, bad.cells) :: (B ++ BB4)))) HM HS2 ((SlAt.made1 b1 rfl).rd HM (by simp)) ?_ (Jo.c_one [bad]) (hlen := hcap2); clear HM; intro s3 B3 w1 HS3 HM) | (refine j_app (m := [bad.cells]) (F := fun X => (X ++ ((b14, x2.cells) :: (b10, x.cells) :: (tb, cT) :: (b4, bad.cells) :: (B ++ BB4)))) HM HS2 ((SlAt.made1 b1 rfl).rd HM (by simp)) ?_ (Jo.c_one [bad]) (hlen := hcap2); clear HM; intro s3 B3 w1 HS3 HM)
                    refine ⟨(heldG HM), ?_⟩; ((try simp only [List.setIfInBounds_toArray]); (try simp only [List.set_cons_succ]); (try simp only [List.set_cons_zero]))
                    refine j_two 6 10 ?_ ?_
                    · refine o_callg (J2 _ _ (Jo.rd_more HM (by have := HS3.rd HM (fun p hp => by simp [hp]); rw [List.nil_append] at this; exact this) HX4.out (fun p hp => by simp [hp]) HL2.out (HBD.out.below HM.low) hbl)) rfl ?_ ?_; (focus (refine h_call2 (ts := ?_) (x1 := ?_) (x2 := ?_) ?_ (by kernel_rfl) ?_ ?_; rotate_left 3; (focus rfl); (focus rfl); rfl)); rintro e9 w1 ⟨x3, Bj3, hx3, rfl, hx35, HSX3, HM1⟩; have s14 : SA 25 Jo.z 0 (.agg x3.cells) x3.cells := sa_cc x3.s x3.k x3.v Jo.z rfl rfl; (first | (have HM2 : Mem W [] ((b14, x2.cells) :: (b10, x.cells) :: (tb, cT) :: (b4, bad.cells) :: (B ++ (Bj3 ++ BB4))) w1 := Mem.j1 [(b14, x2.cells), (b10, x.cells), (tb, cT), (b4, bad.cells)] (HM.join HM1); clear HM HM1; have HM := HM2; clear HM2) | (have HM2 : Mem W [] ((bz, Jo.z) :: (b14, x2.cells) :: (b10, x.cells) :: (tb, cT) :: (b4, bad.cells) :: (B ++ (Bj3 ++ BB4))) w1 := Mem.j2 [(b14, x2.cells), (b10, x.cells), (tb, cT), (b4, bad.cells)] (HM.join HM1); clear HM HM1; have HM := HM2; clear HM2)); refine ⟨_, rfl, ?_⟩
                      refine ⟨(heldG HM), ?_⟩; ((try simp only [List.setIfInBounds_toArray]); (try simp only [List.set_cons_succ]); (try simp only [List.set_cons_zero]))
                      refine k_mv 7 (heldG HM) ?_
                      refine k_ext 8 (heldG HM) ?_
                      refine k_ext 9 (heldG HM) ?_
                      refine j_one 10 fun K9 hK9 => ?_
                      refine j_al HM ?_; clear HM; intro bz w1 HM
                      refine hK9 _ _ (heldG HM) ?_; clear hK9 K9; ((try simp only [List.setIfInBounds_toArray]); (try simp only [List.set_cons_succ]); (try simp only [List.set_cons_zero]))
                      refine j_one 11 fun K9 hK9 => ?_
                      refine j_st HM ?_; clear HM; intro w1 HM
                      refine hK9 _ _ heldN ?_; clear hK9 K9
                      refine k_mv 12 heldN ?_
                      refine wpAnyL_done (by kernel_rfl) ?_ _
                      (go_wp2_with fail; go_meet; (case rel => exact ⟨bz, x3, Bj3, rfl, rfl, hx3, hx35, HSX3, HM⟩))
                    · refine j_al HM ?_; clear HM; intro bz w1 HM
                      refine ⟨(heldG HM), ?_⟩; ((try simp only [List.setIfInBounds_toArray]); (try simp only [List.set_cons_succ]); (try simp only [List.set_cons_zero]))
                      refine j_one 6 fun K9 hK9 => ?_
                      refine o_callg (J2 _ _ (Jo.rd_more HM (by have := HS3.rd HM (fun p hp => by simp [hp]); rw [List.nil_append] at this; exact this) HX4.out (fun p hp => by simp [hp]) HL2.out (HBD.out.below HM.low) hbl)) rfl ?_ ?_; (focus (refine h_call2 (ts := ?_) (x1 := ?_) (x2 := ?_) ?_ (by kernel_rfl) ?_ ?_; rotate_left 3; (focus rfl); (focus rfl); rfl)); rintro e9 w1 ⟨x3, Bj3, hx3, rfl, hx35, HSX3, HM1⟩; have s14 : SA 25 Jo.z 0 (.agg x3.cells) x3.cells := sa_cc x3.s x3.k x3.v Jo.z rfl rfl; (first | (have HM2 : Mem W [] ((b14, x2.cells) :: (b10, x.cells) :: (tb, cT) :: (b4, bad.cells) :: (B ++ (Bj3 ++ BB4))) w1 := Mem.j1 [(b14, x2.cells), (b10, x.cells), (tb, cT), (b4, bad.cells)] (HM.join HM1); clear HM HM1; have HM := HM2; clear HM2) | (have HM2 : Mem W [] ((bz, Jo.z) :: (b14, x2.cells) :: (b10, x.cells) :: (tb, cT) :: (b4, bad.cells) :: (B ++ (Bj3 ++ BB4))) w1 := Mem.j2 [(b14, x2.cells), (b10, x.cells), (tb, cT), (b4, bad.cells)] (HM.join HM1); clear HM HM1; have HM := HM2; clear HM2)); refine ⟨_, rfl, ?_⟩
                      refine hK9 _ _ (heldG HM) ?_; clear hK9 K9; ((try simp only [List.setIfInBounds_toArray]); (try simp only [List.set_cons_succ]); (try simp only [List.set_cons_zero]))
                      refine k_mv 7 (heldG HM) ?_
                      refine k_ext 8 (heldG HM) ?_
                      refine k_ext 9 (heldG HM) ?_
                      refine j_one 11 fun K9 hK9 => ?_
                      refine j_st HM ?_; clear HM; intro w1 HM
                      refine hK9 _ _ heldN ?_; clear hK9 K9
                      refine k_mv 12 heldN ?_
                      refine wpAnyL_done (by kernel_rfl) ?_ _
                      (go_wp2_with fail; go_meet; (case rel => exact ⟨bz, x3, Bj3, rfl, rfl, hx3, hx35, HSX3, HM⟩))
                  · refine j_al HM ?_; clear HM; intro bz w1 HM
                    refine ⟨(heldG HM), ?_⟩; ((try simp only [List.setIfInBounds_toArray]); (try simp only [List.set_cons_succ]); (try simp only [List.set_cons_zero]))
                    refine j_one 5 fun K9 hK9 => ?_
                    first | (refine j_app (m := [bad.cells]) (F := fun X => (bz, Jo.z) :: (X ++ ((b14, x2.cells) :: (b10, x.cells) :: (tb, cT) :: (b4, bad.cells) :: (B ++ BB4)))) HM HS2 ((SlAt.made1 b1 rfl).rd HM (by simp)) ?_ (Jo.c_one [bad]) (hlen := hcap2); clear HM; intro s3 B3 w1 HS3 HM) | (refine j_app (m := [bad.cells]) (F := fun X => (X ++ ((b14, x2.cells) :: (b10, x.cells) :: (tb, cT) :: (b4, bad.cells) :: (B ++ BB4)))) HM HS2 ((SlAt.made1 b1 rfl).rd HM (by simp)) ?_ (Jo.c_one [bad]) (hlen := hcap2); clear HM; intro s3 B3 w1 HS3 HM)
                    refine hK9 _ _ (heldG HM) ?_; clear hK9 K9; ((try simp only [List.setIfInBounds_toArray]); (try simp only [List.set_cons_succ]); (try simp only [List.set_cons_zero]))
                    refine j_one 6 fun K9 hK9 => ?_
                    refine o_callg (J2 _ _ (Jo.rd_more HM (by have := HS3.rd HM (fun p hp => by simp [hp]); rw [List.nil_append] at this; exact this) HX4.out (fun p hp => by simp [hp]) HL2.out (HBD.out.below HM.low) hbl)) rfl ?_ ?_; (focus (refine h_call2 (ts := ?_) (x1 := ?_) (x2 := ?_) ?_ (by kernel_rfl) ?_ ?_; rotate_left 3; (focus rfl); (focus rfl); rfl)); rintro e9 w1 ⟨x3, Bj3, hx3, rfl, hx35, HSX3, HM1⟩; have s14 : SA 25 Jo.z 0 (.agg x3.cells) x3.cells := sa_cc x3.s x3.k x3.v Jo.z rfl rfl; (first | (have HM2 : Mem W [] ((b14, x2.cells) :: (b10, x.cells) :: (tb, cT) :: (b4, bad.cells) :: (B ++ (Bj3 ++ BB4))) w1 := Mem.j1 [(b14, x2.cells), (b10, x.cells), (tb, cT), (b4, bad.cells)] (HM.join HM1); clear HM HM1; have HM := HM2; clear HM2) | (have HM2 : Mem W [] ((bz, Jo.z) :: (b14, x2.cells) :: (b10, x.cells) :: (tb, cT) :: (b4, bad.cells) :: (B ++ (Bj3 ++ BB4))) w1 := Mem.j2 [(b14, x2.cells), (b10, x.cells), (tb, cT), (b4, bad.cells)] (HM.join HM1); clear HM HM1; have HM := HM2; clear HM2)); refine ⟨_, rfl, ?_⟩
                    refine hK9 _ _ (heldG HM) ?_; clear hK9 K9; ((try simp only [List.setIfInBounds_toArray]); (try simp only [List.set_cons_succ]); (try simp only [List.set_cons_zero]))
                    refine k_mv 7 (heldG HM) ?_
                    refine k_ext 8 (heldG HM) ?_
                    refine k_ext 9 (heldG HM) ?_
                    refine j_one 11 fun K9 hK9 => ?_
                    refine j_st HM ?_; clear HM; intro w1 HM
                    refine hK9 _ _ heldN ?_; clear hK9 K9
                    refine k_mv 12 heldN ?_
                    refine wpAnyL_done (by kernel_rfl) ?_ _
                    (go_wp2_with fail; go_meet; (case rel => exact ⟨bz, x3, Bj3, rfl, rfl, hx3, hx35, HSX3, HM⟩))
                · refine j_al HM ?_; clear HM; intro bz w1 HM
                  refine ⟨(heldG HM), ?_⟩; ((try simp only [List.setIfInBounds_toArray]); (try simp only [List.set_cons_succ]); (try simp only [List.set_cons_zero]))
                  refine j_one 4 fun K9 hK9 => ?_
                  refine j_bs1 (c0 := bad.cells) HM ?_; clear HM; intro b1 w1 HM
                  refine hK9 _ _ (heldG HM) ?_; clear hK9 K9; ((try simp only [List.setIfInBounds_toArray]); (try simp only [List.set_cons_succ]); (try simp only [List.set_cons_zero]))
                  refine j_one 5 fun K9 hK9 => ?_
                  first | (refine j_app (m := [bad.cells]) (F := fun X => (bz, Jo.z) :: (X ++ ((b14, x2.cells) :: (b10, x.cells) :: (tb, cT) :: (b4, bad.cells) :: (B ++ BB4)))) HM HS2 ((SlAt.made1 b1 rfl).rd HM (by simp)) ?_ (Jo.c_one [bad]) (hlen := hcap2); clear HM; intro s3 B3 w1 HS3 HM) | (refine j_app (m := [bad.cells]) (F := fun X => (X ++ ((b14, x2.cells) :: (b10, x.cells) :: (tb, cT) :: (b4, bad.cells) :: (B ++ BB4)))) HM HS2 ((SlAt.made1 b1 rfl).rd HM (by simp)) ?_ (Jo.c_one [bad]) (hlen := hcap2); clear HM; intro s3 B3 w1 HS3 HM)
                  refine hK9 _ _ (heldG HM) ?_; clear hK9 K9; ((try simp only [List.setIfInBounds_toArray]); (try simp only [List.set_cons_succ]); (try simp only [List.set_cons_zero]))
                  refine j_one 6 fun K9 hK9 => ?_
                  refine o_callg (J2 _ _ (Jo.rd_more HM (by have := HS3.rd HM (fun p hp => by simp [hp]); rw [List.nil_append] at this; exact this) HX4.out (fun p hp => by simp [hp]) HL2.out (HBD.out.below HM.low) hbl)) rfl ?_ ?_; (focus (refine h_call2 (ts := ?_) (x1 := ?_) (x2 := ?_) ?_ (by kernel_rfl) ?_ ?_; rotate_left 3; (focus rfl); (focus rfl); rfl)); rintro e9 w1 ⟨x3, Bj3, hx3, rfl, hx35, HSX3, HM1⟩; have s14 : SA 25 Jo.z 0 (.agg x3.cells) x3.cells := sa_cc x3.s x3.k x3.v Jo.z rfl rfl; (first | (have HM2 : Mem W [] ((b14, x2.cells) :: (b10, x.cells) :: (tb, cT) :: (b4, bad.cells) :: (B ++ (Bj3 ++ BB4))) w1 := Mem.j1 [(b14, x2.cells), (b10, x.cells), (tb, cT), (b4, bad.cells)] (HM.join HM1); clear HM HM1; have HM := HM2; clear HM2) | (have HM2 : Mem W [] ((bz, Jo.z) :: (b14, x2.cells) :: (b10, x.cells) :: (tb, cT) :: (b4, bad.cells) :: (B ++ (Bj3 ++ BB4))) w1 := Mem.j2 [(b14, x2.cells), (b10, x.cells), (tb, cT), (b4, bad.cells)] (HM.join HM1); clear HM HM1; have HM := HM2; clear HM2)); refine ⟨_, rfl, ?_⟩
                  refine hK9 _ _ (heldG HM) ?_; clear hK9 K9; ((try simp only [List.setIfInBounds_toArray]); (try simp only [List.set_cons_succ]); (try simp only [List.set_cons_zero]))
                  refine k_mv 7 (heldG HM) ?_
                  refine k_ext 8 (heldG HM) ?_
                  refine k_ext 9 (heldG HM) ?_
                  refine j_one 11 fun K9 hK9 => ?_
                  refine j_st HM ?_; clear HM; intro w1 HM
                  refine hK9 _ _ heldN ?_; clear hK9 K9
                  refine k_mv 12 heldN ?_
                  refine wpAnyL_done (by kernel_rfl) ?_ _
                  (go_wp2_with fail; go_meet; (case rel => exact ⟨bz, x3, Bj3, rfl, rfl, hx3, hx35, HSX3, HM⟩))
              · refine j_bs1 (c0 := bad.cells) HM ?_; clear HM; intro b1 w1 HM
                refine ⟨(heldG HM), ?_⟩; ((try simp only [List.setIfInBounds_toArray]); (try simp only [List.set_cons_succ]); (try simp only [List.set_cons_zero]))
                refine j_two 2 10 ?_ ?_
                · first | (refine j_app (m := l.map Jo.C.cells) (F := fun X => (b1, rowsOf [bad.cells]) :: (bz, Jo.z) :: (X ++ ((b14, x2.cells) :: (b10, x.cells) :: (tb, cT) :: (b4, bad.cells) :: (B ++ BB4)))) HM (SlAt.made0 b0) (HO.out.rd HM (fun p hp => by simp [hp])) ?_ (Jo.c_one l) (hlen := hcap); clear HM; intro s2 B2 w1 HS2 HM) | (refine j_app (m := l.map Jo.C.cells) (F := fun X => (b1, rowsOf [bad.cells]) :: (X ++ ((b14, x2.cells) :: (b10, x.cells) :: (tb, cT) :: (b4, bad.cells) :: (B ++ BB4)))) HM (SlAt.made0 b0) (HO.out.rd HM (fun p hp => by simp [hp])) ?_ (Jo.c_one l) (hlen := hcap); clear HM; intro s2 B2 w1 HS2 HM) | (refine j_app (m := l.map Jo.C.cells) (F := fun X => (bz, Jo.z) :: (X ++ ((b14, x2.cells) :: (b10, x.cells) :: (tb, cT) :: (b4, bad.cells) :: (B ++ BB4)))) HM (SlAt.made0 b0) (HO.out.rd HM (fun p hp => by simp [hp])) ?_ (Jo.c_one l) (hlen := hcap); clear HM; intro s2 B2 w1 HS2 HM) | (refine j_app (m := l.map Jo.C.cells) (F := fun X => (X ++ ((b14, x2.cells) :: (b10, x.cells) :: (tb, cT) :: (b4, bad.cells) :: (B ++ BB4)))) HM (SlAt.made0 b0) (HO.out.rd HM (fun p hp => by simp [hp])) ?_ (Jo.c_one l) (hlen := hcap); clear HM; intro s2 B2 w1 HS2 HM)
                  refine ⟨(heldG HM), ?_⟩; ((try simp only [List.setIfInBounds_toArray]); (try simp only [List.set_cons_succ]); (try simp only [List.set_cons_zero]))
                  refine j_two 5 10 ?_ ?_
                  · first | (refine j_app (m := [bad.cells]) (F := fun X => (bz, Jo.z) :: (X ++ ((b14, x2.cells) :: (b10, x.cells) :: (tb, cT) :: (b4, bad.cells) :: (B ++ BB4)))) HM HS2 ((SlAt.made1 b1 rfl).rd HM (by simp)) ?_ (Jo.c_one [bad]) (hlen := hcap2); clear HM; intro s3 B3 w1 HS3 HM) | (refine j_app (m := [bad.cells]) (F := fun X => (X ++ ((b14, x2.cells) :: (b10, x.cells) :: (tb, cT) :: (b4, bad.cells) :: (B ++ BB4)))) HM HS2 ((SlAt.made1 b1 rfl).rd HM (by simp)) ?_ (Jo.c_one [bad]) (hlen := hcap2); clear HM; intro s3 B3 w1 HS3 HM)
                    refine ⟨(heldG HM), ?_⟩; ((try simp only [List.setIfInBounds_toArray]); (try simp only [List.set_cons_succ]); (try simp only [List.set_cons_zero]))
                    refine j_two 6 10 ?_ ?_
                    · refine o_callg (J2 _ _ (Jo.rd_more HM (by have := HS3.rd HM (fun p hp => by simp [hp]); rw [List.nil_append] at this; exact this) HX4.out (fun p hp => by simp [hp]) HL2.out (HBD.out.below HM.low) hbl)) rfl ?_ ?_; (focus (refine h_call2 (ts := ?_) (x1 := ?_) (x2 := ?_) ?_ (by kernel_rfl) ?_ ?_; rotate_left 3; (focus rfl); (focus rfl); rfl)); rintro e9 w1 ⟨x3, Bj3, hx3, rfl, hx35, HSX3, HM1⟩; have s14 : SA 25 Jo.z 0 (.agg x3.cells) x3.cells := sa_cc x3.s x3.k x3.v Jo.z rfl rfl; (first | (have HM2 : Mem W [] ((b14, x2.cells) :: (b10, x.cells) :: (tb, cT) :: (b4, bad.cells) :: (B ++ (Bj3 ++ BB4))) w1 := Mem.j1 [(b14, x2.cells), (b10, x.cells), (tb, cT), (b4, bad.cells)] (HM.join HM1); clear HM HM1; have HM := HM2; clear HM2) | (have HM2 : Mem W [] ((bz, Jo.z) :: (b14, x2.cells) :: (b10, x.cells) :: (tb, cT) :: (b4, bad.cells) :: (B ++ (Bj3 ++ BB4))) w1 := Mem.j2 [(b14, x2.cells), (b10, x.cells), (tb, cT), (b4, bad.cells)] (HM.join HM1); clear HM HM1; have HM := HM2; clear HM2)); refine ⟨_, rfl, ?_⟩
                      refine ⟨(heldG HM), ?_⟩; ((try simp only [List.setIfInBounds_toArray]); (try simp only [List.set_cons_succ]); (try simp only [List.set_cons_zero]))
                      refine k_mv 7 (heldG HM) ?_
                      refine k_ext 8 (heldG HM) ?_
                      refine k_ext 9 (heldG HM) ?_
                      refine j_one 10 fun K9 hK9 => ?_
                      refine j_al HM ?_; clear HM; intro bz w1 HM
                      refine hK9 _ _ (heldG HM) ?_; clear hK9 K9; ((try simp only [List.setIfInBounds_toArray]); (try simp only [List.set_cons_succ]); (try simp only [List.set_cons_zero]))
                      refine j_one 11 fun K9 hK9 => ?_
                      refine j_st HM ?_; clear HM; intro w1 HM
                      refine hK9 _ _ heldN ?_; clear hK9 K9
                      refine k_mv 12 heldN ?_
                      refine wpAnyL_done (by kernel_rfl) ?_ _
                      (go_wp2_with fail; go_meet; (case rel => exact ⟨bz, x3, Bj3, rfl, rfl, hx3, hx35, HSX3, HM⟩))
                    · refine j_al HM ?_; clear HM; intro bz w1 HM
                      refine ⟨(heldG HM), ?_⟩; ((try simp only [List.setIfInBounds_toArray]); (try simp only [List.set_cons_succ]); (try simp only [List.set_cons_zero]))
                      refine j_one 6 fun K9 hK9 => ?_
                      refine o_callg (J2 _ _ (Jo.rd_more HM (by have := HS3.rd HM (fun p hp => by simp [hp]); rw [List.nil_append] at this; exact this) HX4.out (fun p hp => by simp [hp]) HL2.out (HBD.out.below HM.low) hbl)) rfl ?_ ?_; (focus (refine h_call2 (ts := ?_) (x1 := ?_) (x2 := ?_) ?_ (by kernel_rfl) ?_ ?_; rotate_left 3; (focus rfl); (focus rfl); rfl)); rintro e9 w1 ⟨x3, Bj3, hx3, rfl, hx35, HSX3, HM1⟩; have s14 : SA 25 Jo.z 0 (.agg x3.cells) x3.cells := sa_cc x3.s x3.k x3.v Jo.z rfl rfl; (first | (have HM2 : Mem W [] ((b14, x2.cells) :: (b10, x.cells) :: (tb, cT) :: (b4, bad.cells) :: (B ++ (Bj3 ++ BB4))) w1 := Mem.j1 [(b14, x2.cells), (b10, x.cells), (tb, cT), (b4, bad.cells)] (HM.join HM1); clear HM HM1; have HM := HM2; clear HM2) | (have HM2 : Mem W [] ((bz, Jo.z) :: (b14, x2.cells) :: (b10, x.cells) :: (tb, cT) :: (b4, bad.cells) :: (B ++ (Bj3 ++ BB4))) w1 := Mem.j2 [(b14, x2.cells), (b10, x.cells), (tb, cT), (b4, bad.cells)] (HM.join HM1); clear HM HM1; have HM := HM2; clear HM2)); refine ⟨_, rfl, ?_⟩
                      refine hK9 _ _ (heldG HM) ?_; clear hK9 K9; ((try simp only [List.setIfInBounds_toArray]); (try simp only [List.set_cons_succ]); (try simp only [List.set_cons_zero]))
                      refine k_mv 7 (heldG HM) ?_
                      refine k_ext 8 (heldG HM) ?_
                      refine k_ext 9 (heldG HM) ?_
                      refine j_one 11 fun K9 hK9 => ?_
                      refine j_st HM ?_; clear HM; intro w1 HM
                      refine hK9 _ _ heldN ?_; clear hK9 K9
                      refine k_mv 12 heldN ?_
                      refine wpAnyL_done (by kernel_rfl) ?_ _
                      (go_wp2_with fail; go_meet; (case rel => exact ⟨bz, x3, Bj3, rfl, rfl, hx3, hx35, HSX3, HM⟩))
                  · refine j_al HM ?_; clear HM; intro bz w1 HM
                    refine ⟨(heldG HM), ?_⟩; ((try simp only [List.setIfInBounds_toArray]); (try simp only [List.set_cons_succ]); (try simp only [List.set_cons_zero]))
                    refine j_one 5 fun K9 hK9 => ?_
                    first | (refine j_app (m := [bad.cells]) (F := fun X => (bz, Jo.z) :: (X ++ ((b14, x2.cells) :: (b10, x.cells) :: (tb, cT) :: (b4, bad.cells) :: (B ++ BB4)))) HM HS2 ((SlAt.made1 b1 rfl).rd HM (by simp)) ?_ (Jo.c_one [bad]) (hlen := hcap2); clear HM; intro s3 B3 w1 HS3 HM) | (refine j_app (m := [bad.cells]) (F := fun X => (X ++ ((b14, x2.cells) :: (b10, x.cells) :: (tb, cT) :: (b4, bad.cells) :: (B ++ BB4)))) HM HS2 ((SlAt.made1 b1 rfl).rd HM (by simp)) ?_ (Jo.c_one [bad]) (hlen := hcap2); clear HM; intro s3 B3 w1 HS3 HM)
                    refine hK9 _ _ (heldG HM) ?_; clear hK9 K9; ((try simp only [List.setIfInBounds_toArray]); (try simp only [List.set_cons_succ]); (try simp only [List.set_cons_zero]))
                    refine j_one 6 fun K9 hK9 => ?_
                    refine o_callg (J2 _ _ (Jo.rd_more HM (by have := HS3.rd HM (fun p hp => by simp [hp]); rw [List.nil_append] at this; exact this) HX4.out (fun p hp => by simp [hp]) HL2.out (HBD.out.below HM.low) hbl)) rfl ?_ ?_; (focus (refine h_call2 (ts := ?_) (x1 := ?_) (x2 := ?_) ?_ (by kernel_rfl) ?_ ?_; rotate_left 3; (focus rfl); (focus rfl); rfl)); rintro e9 w1 ⟨x3, Bj3, hx3, rfl, hx35, HSX3, HM1⟩; have s14 : SA 25 Jo.z 0 (.agg x3.cells) x3.cells := sa_cc x3.s x3.k x3.v Jo.z rfl rfl; (first | (have HM2 : Mem W [] ((b14, x2.cells) :: (b10, x.cells) :: (tb, cT) :: (b4, bad.cells) :: (B ++ (Bj3 ++ BB4))) w1 := Mem.j1 [(b14, x2.cells), (b10, x.cells), (tb, cT), (b4, bad.cells)] (HM.join HM1); clear HM HM1; have HM := HM2; clear HM2) | (have HM2 : Mem W [] ((bz, Jo.z) :: (b14, x2.cells) :: (b10, x.cells) :: (tb, cT) :: (b4, bad.cells) :: (B ++ (Bj3 ++ BB4))) w1 := Mem.j2 [(b14, x2.cells), (b10, x.cells), (tb, cT), (b4, bad.cells)] (HM.join HM1); clear HM HM1; have HM := HM2; clear HM2)); refine ⟨_, rfl, ?_⟩
                    refine hK9 _ _ (heldG HM) ?_; clear hK9 K9; ((try simp only [List.setIfInBounds_toArray]); (try simp only [List.set_cons_succ]); (try simp only [List.set_cons_zero]))
                    refine k_mv 7 (heldG HM) ?_
                    refine k_ext 8 (heldG HM) ?_
                    refine k_ext 9 (heldG HM) ?_
                    refine j_one 11 fun K9 hK9 => ?_
                    refine j_st HM ?_; clear HM; intro w1 HM
                    refine hK9 _ _ heldN ?_; clear hK9 K9
                    refine k_mv 12 heldN ?_
                    refine wpAnyL_done (by kernel_rfl) ?_ _
                    (go_wp2_with fail; go_meet; (case rel => exact ⟨bz, x3, Bj3, rfl, rfl, hx3, hx35, HSX3, HM⟩))
                · refine j_al HM ?_; clear HM; intro bz w1 HM
                  refine ⟨(heldG HM), ?_⟩; ((try simp only [List.setIfInBounds_toArray]); (try simp only [List.set_cons_succ]); (try simp only [List.set_cons_zero]))
                  refine j_one 2 fun K9 hK9 => ?_
                  first | (refine j_app (m := l.map Jo.C.cells) (F := fun X => (b1, rowsOf [bad.cells]) :: (bz, Jo.z) :: (X ++ ((b14, x2.cells) :: (b10, x.cells) :: (tb, cT) :: (b4, bad.cells) :: (B ++ BB4)))) HM (SlAt.made0 b0) (HO.out.rd HM (fun p hp => by simp [hp])) ?_ (Jo.c_one l) (hlen := hcap); clear HM; intro s2 B2 w1 HS2 HM) | (refine j_app (m := l.map Jo.C.cells) (F := fun X => (b1, rowsOf [bad.cells]) :: (X ++ ((b14, x2.cells) :: (b10, x.cells) :: (tb, cT) :: (b4, bad.cells) :: (B ++ BB4)))) HM (SlAt.made0 b0) (HO.out.rd HM (fun p hp => by simp [hp])) ?_ (Jo.c_one l) (hlen := hcap); clear HM; intro s2 B2 w1 HS2 HM) | (refine j_app (m := l.map Jo.C.cells) (F := fun X => (bz, Jo.z) :: (X ++ ((b14, x2.cells) :: (b10, x.cells) :: (tb, cT) :: (b4, bad.cells) :: (B ++ BB4)))) HM (SlAt.made0 b0) (HO.out.rd HM (fun p hp => by simp [hp])) ?_ (Jo.c_one l) (hlen := hcap); clear HM; intro s2 B2 w1 HS2 HM) | (refine j_app (m := l.map Jo.C.cells) (F := fun X => (X ++ ((b14, x2.cells) :: (b10, x.cells) :: (tb, cT) :: (b4, bad.cells) :: (B ++ BB4)))) HM (SlAt.made0 b0) (HO.out.rd HM (fun p hp => by simp [hp])) ?_ (Jo.c_one l) (hlen := hcap); clear HM; intro s2 B2 w1 HS2 HM)
                  refine hK9 _ _ (heldG HM) ?_; clear hK9 K9; ((try simp only [List.setIfInBounds_toArray]); (try simp only [List.set_cons_succ]); (try simp only [List.set_cons_zero]))
                  refine j_one 5 fun K9 hK9 => ?_
                  first | (refine j_app (m := [bad.cells]) (F := fun X => (bz, Jo.z) :: (X ++ ((b14, x2.cells) :: (b10, x.cells) :: (tb, cT) :: (b4, bad.cells) :: (B ++ BB4)))) HM HS2 ((SlAt.made1 b1 rfl).rd HM (by simp)) ?_ (Jo.c_one [bad]) (hlen := hcap2); clear HM; intro s3 B3 w1 HS3 HM) | (refine j_app (m := [bad.cells]) (F := fun X => (X ++ ((b14, x2.cells) :: (b10, x.cells) :: (tb, cT) :: (b4, bad.cells) :: (B ++ BB4)))) HM HS2 ((SlAt.made1 b1 rfl).rd HM (by simp)) ?_ (Jo.c_one [bad]) (hlen := hcap2); clear HM; intro s3 B3 w1 HS3 HM)
                  refine hK9 _ _ (heldG HM) ?_; clear hK9 K9; ((try simp only [List.setIfInBounds_toArray]); (try simp only [List.set_cons_succ]); (try simp only [List.set_cons_zero]))
                  refine j_one 6 fun K9 hK9 => ?_
                  refine o_callg (J2 _ _ (Jo.rd_more HM (by have := HS3.rd HM (fun p hp => by simp [hp]); rw [List.nil_append] at this; exact this) HX4.out (fun p hp => by simp [hp]) HL2.out (HBD.out.below HM.low) hbl)) rfl ?_ ?_; (focus (refine h_call2 (ts := ?_) (x1 := ?_) (x2 := ?_) ?_ (by kernel_rfl) ?_ ?_; rotate_left 3; (focus rfl); (focus rfl); rfl)); rintro e9 w1 ⟨x3, Bj3, hx3, rfl, hx35, HSX3, HM1⟩; have s14 : SA 25 Jo.z 0 (.agg x3.cells) x3.cells := sa_cc x3.s x3.k x3.v Jo.z rfl rfl; (first | (have HM2 : Mem W [] ((b14, x2.cells) :: (b10, x.cells) :: (tb, cT) :: (b4, bad.cells) :: (B ++ (Bj3 ++ BB4))) w1 := Mem.j1 [(b14, x2.cells), (b10, x.cells), (tb, cT), (b4, bad.cells)] (HM.join HM1); clear HM HM1; have HM := HM2; clear HM2) | (have HM2 : Mem W [] ((bz, Jo.z) :: (b14, x2.cells) :: (b10, x.cells) :: (tb, cT) :: (b4, bad.cells) :: (B ++ (Bj3 ++ BB4))) w1 := Mem.j2 [(b14, x2.cells), (b10, x.cells), (tb, cT), (b4, bad.cells)] (HM.join HM1); clear HM HM1; have HM := HM2; clear HM2)); refine ⟨_, rfl, ?_⟩
                  refine hK9 _ _ (heldG HM) ?_; clear hK9 K9; ((try simp only [List.setIfInBounds_toArray]); (try simp only [List.set_cons_succ]); (try simp only [List.set_cons_zero]))
                  refine k_mv 7 (heldG HM) ?_
                  refine k_ext 8 (heldG HM) ?_
                  refine k_ext 9 (heldG HM) ?_
                  refine j_one 11 fun K9 hK9 => ?_
                  refine j_st HM ?_; clear HM; intro w1 HM
                  refine hK9 _ _ heldN ?_; clear hK9 K9
                  refine k_mv 12 heldN ?_
                  refine wpAnyL_done (by kernel_rfl) ?_ _
                  (go_wp2_with fail; go_meet; (case rel => exact ⟨bz, x3, Bj3, rfl, rfl, hx3, hx35, HSX3, HM⟩))
              · refine j_al HM ?_; clear HM; intro bz w1 HM
                refine ⟨(heldG HM), ?_⟩; ((try simp only [List.setIfInBounds_toArray]); (try simp only [List.set_cons_succ]); (try simp only [List.set_cons_zero]))
                refine j_two 2 4 ?_ ?_
                · first | (refine j_app (m := l.map Jo.C.cells) (F := fun X => (b1, rowsOf [bad.cells]) :: (bz, Jo.z) :: (X ++ ((b14, x2.cells) :: (b10, x.cells) :: (tb, cT) :: (b4, bad.cells) :: (B ++ BB4)))) HM (SlAt.made0 b0) (HO.out.rd HM (fun p hp => by simp [hp])) ?_ (Jo.c_one l) (hlen := hcap); clear HM; intro s2 B2 w1 HS2 HM) | (refine j_app (m := l.map Jo.C.cells) (F := fun X => (b1, rowsOf [bad.cells]) :: (X ++ ((b14, x2.cells) :: (b10, x.cells) :: (tb, cT) :: (b4, bad.cells) :: (B ++ BB4)))) HM (SlAt.made0 b0) (HO.out.rd HM (fun p hp => by simp [hp])) ?_ (Jo.c_one l) (hlen := hcap); clear HM; intro s2 B2 w1 HS2 HM) | (refine j_app (m := l.map Jo.C.cells) (F := fun X => (bz, Jo.z) :: (X ++ ((b14, x2.cells) :: (b10, x.cells) :: (tb, cT) :: (b4, bad.cells) :: (B ++ BB4)))) HM (SlAt.made0 b0) (HO.out.rd HM (fun p hp => by simp [hp])) ?_ (Jo.c_one l) (hlen := hcap); clear HM; intro s2 B2 w1 HS2 HM) | (refine j_app (m := l.map Jo.C.cells) (F := fun X => (X ++ ((b14, x2.cells) :: (b10, x.cells) :: (tb, cT) :: (b4, bad.cells) :: (B ++ BB4)))) HM (SlAt.made0 b0) (HO.out.rd HM (fun p hp => by simp [hp])) ?_ (Jo.c_one l) (hlen := hcap); clear HM; intro s2 B2 w1 HS2 HM)
                  refine ⟨(heldG HM), ?_⟩; ((try simp only [List.setIfInBounds_toArray]); (try simp only [List.set_cons_succ]); (try simp only [List.set_cons_zero]))
                  refine j_one 4 fun K9 hK9 => ?_
                  refine j_bs1 (c0 := bad.cells) HM ?_; clear HM; intro b1 w1 HM
                  refine hK9 _ _ (heldG HM) ?_; clear hK9 K9; ((try simp only [List.setIfInBounds_toArray]); (try simp only [List.set_cons_succ]); (try simp only [List.set_cons_zero]))
                  refine j_one 5 fun K9 hK9 => ?_
                  first | (refine j_app (m := [bad.cells]) (F := fun X => (bz, Jo.z) :: (X ++ ((b14, x2.cells) :: (b10, x.cells) :: (tb, cT) :: (b4, bad.cells) :: (B ++ BB4)))) HM HS2 ((SlAt.made1 b1 rfl).rd HM (by simp)) ?_ (Jo.c_one [bad]) (hlen := hcap2); clear HM; intro s3 B3 w1 HS3 HM) | (refine j_app (m := [bad.cells]) (F := fun X => (X ++ ((b14, x2.cells) :: (b10, x.cells) :: (tb, cT) :: (b4, bad.cells) :: (B ++ BB4)))) HM HS2 ((SlAt.made1 b1 rfl).rd HM (by simp)) ?_ (Jo.c_one [bad]) (hlen := hcap2); clear HM; intro s3 B3 w1 HS3 HM)
                  refine hK9 _ _ (heldG HM) ?_; clear hK9 K9; ((try simp only [List.setIfInBounds_toArray]); (try simp only [List.set_cons_succ]); (try simp only [List.set_cons_zero]))
                  refine j_one 6 fun K9 hK9 => ?_
                  refine o_callg (J2 _ _ (Jo.rd_more HM (by have := HS3.rd HM (fun p hp => by simp [hp]); rw [List.nil_append] at this; exact this) HX4.out (fun p hp => by simp [hp]) HL2.out (HBD.out.below HM.low) hbl)) rfl ?_ ?_; (focus (refine h_call2 (ts := ?_) (x1 := ?_) (x2 := ?_) ?_ (by kernel_rfl) ?_ ?_; rotate_left 3; (focus rfl); (focus rfl); rfl)); rintro e9 w1 ⟨x3, Bj3, hx3, rfl, hx35, HSX3, HM1⟩; have s14 : SA 25 Jo.z 0 (.agg x3.cells) x3.cells := sa_cc x3.s x3.k x3.v Jo.z rfl rfl; (first | (have HM2 : Mem W [] ((b14, x2.cells) :: (b10, x.cells) :: (tb, cT) :: (b4, bad.cells) :: (B ++ (Bj3 ++ BB4))) w1 := Mem.j1 [(b14, x2.cells), (b10, x.cells), (tb, cT), (b4, bad.cells)] (HM.join HM1); clear HM HM1; have HM := HM2; clear HM2) | (have HM2 : Mem W [] ((bz, Jo.z) :: (b14, x2.cells) :: (b10, x.cells) :: (tb, cT) :: (b4, bad.cells) :: (B ++ (Bj3 ++ BB4))) w1 := Mem.j2 [(b14, x2.cells), (b10, x.cells), (tb, cT), (b4, bad.cells)] (HM.join HM1); clear HM HM1; have HM := HM2; clear HM2)); refine ⟨_, rfl, ?_⟩
                  refine hK9 _ _ (heldG HM) ?_; clear hK9 K9; ((try simp only [List.setIfInBounds_toArray]); (try simp only [List.set_cons_succ]); (try simp only [List.set_cons_zero]))
                  refine k_mv 7 (heldG HM) ?_
                  refine k_ext 8 (heldG HM) ?_
                  refine k_ext 9 (heldG HM) ?_
                  refine j_one 11 fun K9 hK9 => ?_
                  refine j_st HM ?_; clear HM; intro w1 HM
                  refine hK9 _ _ heldN ?_; clear hK9 K9
                  refine k_mv 12 heldN ?_
                  refine wpAnyL_done (by kernel_rfl) ?_ _
                  (go_wp2_with fail; go_meet; (case rel => exact ⟨bz, x3, Bj3, rfl, rfl, hx3, hx35, HSX3, HM⟩))
                · refine j_bs1 (c0 := bad.cells) HM ?_; clear HM; intro b1 w1 HM
                  refine ⟨(heldG HM), ?_⟩; ((try simp only [List.setIfInBounds_toArray]); (try simp only [List.set_cons_succ]); (try simp only [List.set_cons_zero]))
                  refine j_one 2 fun K9 hK9 => ?_
                  first | (refine j_app (m := l.map Jo.C.cells) (F := fun X => (b1, rowsOf [bad.cells]) :: (bz, Jo.z) :: (X ++ ((b14, x2.cells) :: (b10, x.cells) :: (tb, cT) :: (b4, bad.cells) :: (B ++ BB4)))) HM (SlAt.made0 b0) (HO.out.rd HM (fun p hp => by simp [hp])) ?_ (Jo.c_one l) (hlen := hcap); clear HM; intro s2 B2 w1 HS2 HM) | (refine j_app (m := l.map Jo.C.cells) (F := fun X => (b1, rowsOf [bad.cells]) :: (X ++ ((b14, x2.cells) :: (b10, x.cells) :: (tb, cT) :: (b4, bad.cells) :: (B ++ BB4)))) HM (SlAt.made0 b0) (HO.out.rd HM (fun p hp => by simp [hp])) ?_ (Jo.c_one l) (hlen := hcap); clear HM; intro s2 B2 w1 HS2 HM) | (refine j_app (m := l.map Jo.C.cells) (F := fun X => (bz, Jo.z) :: (X ++ ((b14, x2.cells) :: (b10, x.cells) :: (tb, cT) :: (b4, bad.cells) :: (B ++ BB4)))) HM (SlAt.made0 b0) (HO.out.rd HM (fun p hp => by simp [hp])) ?_ (Jo.c_one l) (hlen := hcap); clear HM; intro s2 B2 w1 HS2 HM) | (refine j_app (m := l.map Jo.C.cells) (F := fun X => (X ++ ((b14, x2.cells) :: (b10, x.cells) :: (tb, cT) :: (b4, bad.cells) :: (B ++ BB4)))) HM (SlAt.made0 b0) (HO.out.rd HM (fun p hp => by simp [hp])) ?_ (Jo.c_one l) (hlen := hcap); clear HM; intro s2 B2 w1 HS2 HM)
                  refine hK9 _ _ (heldG HM) ?_; clear hK9 K9; ((try simp only [List.setIfInBounds_toArray]); (try simp only [List.set_cons_succ]); (try simp only [List.set_cons_zero]))
                  refine j_one 5 fun K9 hK9 => ?_
                  first | (refine j_app (m := [bad.cells]) (F := fun X => (bz, Jo.z) :: (X ++ ((b14, x2.cells) :: (b10, x.cells) :: (tb, cT) :: (b4, bad.cells) :: (B ++ BB4)))) HM HS2 ((SlAt.made1 b1 rfl).rd HM (by simp)) ?_ (Jo.c_one [bad]) (hlen := hcap2); clear HM; intro s3 B3 w1 HS3 HM) | (refine j_app (m := [bad.cells]) (F := fun X => (X ++ ((b14, x2.cells) :: (b10, x.cells) :: (tb, cT) :: (b4, bad.cells) :: (B ++ BB4)))) HM HS2 ((SlAt.made1 b1 rfl).rd HM (by simp)) ?_ (Jo.c_one [bad]) (hlen := hcap2); clear HM; intro s3 B3 w1 HS3 HM)
                  refine hK9 _ _ (heldG HM) ?_; clear hK9 K9; ((try simp only [List.setIfInBounds_toArray]); (try simp only [List.set_cons_succ]); (try simp only [List.set_cons_zero]))
                  refine j_one 6 fun K9 hK9 => ?_
                  refine o_callg (J2 _ _ (Jo.rd_more HM (by have := HS3.rd HM (fun p hp => by simp [hp]); rw [List.nil_append] at this; exact this) HX4.out (fun p hp => by simp [hp]) HL2.out (HBD.out.below HM.low) hbl)) rfl ?_ ?_; (focus (refine h_call2 (ts := ?_) (x1 := ?_) (x2 := ?_) ?_ (by kernel_rfl) ?_ ?_; rotate_left 3; (focus rfl); (focus rfl); rfl)); rintro e9 w1 ⟨x3, Bj3, hx3, rfl, hx35, HSX3, HM1⟩; have s14 : SA 25 Jo.z 0 (.agg x3.cells) x3.cells := sa_cc x3.s x3.k x3.v Jo.z rfl rfl; (first | (have HM2 : Mem W [] ((b14, x2.cells) :: (b10, x.cells) :: (tb, cT) :: (b4, bad.cells) :: (B ++ (Bj3 ++ BB4))) w1 := Mem.j1 [(b14, x2.cells), (b10, x.cells), (tb, cT), (b4, bad.cells)] (HM.join HM1); clear HM HM1; have HM := HM2; clear HM2) | (have HM2 : Mem W [] ((bz, Jo.z) :: (b14, x2.cells) :: (b10, x.cells) :: (tb, cT) :: (b4, bad.cells) :: (B ++ (Bj3 ++ BB4))) w1 := Mem.j2 [(b14, x2.cells), (b10, x.cells), (tb, cT), (b4, bad.cells)] (HM.join HM1); clear HM HM1; have HM := HM2; clear HM2)); refine ⟨_, rfl, ?_⟩
                  refine hK9 _ _ (heldG HM) ?_; clear hK9 K9; ((try simp only [List.setIfInBounds_toArray]); (try simp only [List.set_cons_succ]); (try simp only [List.set_cons_zero]))
                  refine k_mv 7 (heldG HM) ?_
                  refine k_ext 8 (heldG HM) ?_
                  refine k_ext 9 (heldG HM) ?_
                  refine j_one 11 fun K9 hK9 => ?_
                  refine j_st HM ?_; clear HM; intro w1 HM
                  refine hK9 _ _ heldN ?_; clear hK9 K9
                  refine k_mv 12 heldN ?_
                  refine wpAnyL_done (by kernel_rfl) ?_ _
                  (go_wp2_with fail; go_meet; (case rel => exact ⟨bz, x3, Bj3, rfl, rfl, hx3, hx35, HSX3, HM⟩))
            · refine j_bs1 (c0 := bad.cells) HM ?_; clear HM; intro b1 w1 HM
              refine ⟨(heldG HM), ?_⟩; ((try simp only [List.setIfInBounds_toArray]); (try simp only [List.set_cons_succ]); (try simp only [List.set_cons_zero]))
              refine j_two 0 10 ?_ ?_
              · refine j_bs0 HM ?_; clear HM; intro b0 w1 HM
                refine ⟨(heldG HM), ?_⟩; ((try simp only [List.setIfInBounds_toArray]); (try simp only [List.set_cons_succ]); (try simp only [List.set_cons_zero]))
                refine j_two 2 10 ?_ ?_
                · first | (refine j_app (m := l.map Jo.C.cells) (F := fun X => (b1, rowsOf [bad.cells]) :: (bz, Jo.z) :: (X ++ ((b14, x2.cells) :: (b10, x.cells) :: (tb, cT) :: (b4, bad.cells) :: (B ++ BB4)))) HM (SlAt.made0 b0) (HO.out.rd HM (fun p hp => by simp [hp])) ?_ (Jo.c_one l) (hlen := hcap); clear HM; intro s2 B2 w1 HS2 HM) | (refine j_app (m := l.map Jo.C.cells) (F := fun X => (b1, rowsOf [bad.cells]) :: (X ++ ((b14, x2.cells) :: (b10, x.cells) :: (tb, cT) :: (b4, bad.cells) :: (B ++ BB4)))) HM (SlAt.made0 b0) (HO.out.rd HM (fun p hp => by simp [hp])) ?_ (Jo.c_one l) (hlen := hcap); clear HM; intro s2 B2 w1 HS2 HM) | (refine j_app (m := l.map Jo.C.cells) (F := fun X => (bz, Jo.z) :: (X ++ ((b14, x2.cells) :: (b10, x.cells) :: (tb, cT) :: (b4, bad.cells) :: (B ++ BB4)))) HM (SlAt.made0 b0) (HO.out.rd HM (fun p hp => by simp [hp])) ?_ (Jo.c_one l) (hlen := hcap); clear HM; intro s2 B2 w1 HS2 HM) | (refine j_app (m := l.map Jo.C.cells) (F := fun X => (X ++ ((b14, x2.cells) :: (b10, x.cells) :: (tb, cT) :: (b4, bad.cells) :: (B ++ BB4)))) HM (SlAt.made0 b0) (HO.out.rd HM (fun p hp => by simp [hp])) ?_ (Jo.c_one l) (hlen := hcap); clear HM; intro s2 B2 w1 HS2 HM)
                  refine ⟨(heldG HM), ?_⟩; ((try simp only [List.setIfInBounds_toArray]); (try simp only [List.set_cons_succ]); (try simp only [List.set_cons_zero]))
                  refine j_two 5 10 ?_ ?_
                  · first | (refine j_app (m := [bad.cells]) (F := fun X => (bz, Jo.z) :: (X ++ ((b14, x2.cells) :: (b10, x.cells) :: (tb, cT) :: (b4, bad.cells) :: (B ++ BB4)))) HM HS2 ((SlAt.made1 b1 rfl).rd HM (by simp)) ?_ (Jo.c_one [bad]) (hlen := hcap2); clear HM; intro s3 B3 w1 HS3 HM) | (refine j_app (m := [bad.cells]) (F := fun X => (X ++ ((b14, x2.cells) :: (b10, x.cells) :: (tb, cT) :: (b4, bad.cells) :: (B ++ BB4)))) HM HS2 ((SlAt.made1 b1 rfl).rd HM (by simp)) ?_ (Jo.c_one [bad]) (hlen := hcap2); clear HM; intro s3 B3 w1 HS3 HM)
                    refine ⟨(heldG HM), ?_⟩; ((try simp only [List.setIfInBounds_toArray]); (try simp only [List.set_cons_succ]); (try simp only [List.set_cons_zero]))
                    refine j_two 6 10 ?_ ?_
                    · refine o_callg (J2 _ _ (Jo.rd_more HM (by have := HS3.rd HM (fun p hp => by simp [hp]); rw [List.nil_append] at this; exact this) HX4.out (fun p hp => by simp [hp]) HL2.out (HBD.out.below HM.low) hbl)) rfl ?_ ?_; (focus (refine h_call2 (ts := ?_) (x1 := ?_) (x2 := ?_) ?_ (by kernel_rfl) ?_ ?_; rotate_left 3; (focus rfl); (focus rfl); rfl)); rintro e9 w1 ⟨x3, Bj3, hx3, rfl, hx35, HSX3, HM1⟩; have s14 : SA 25 Jo.z 0 (.agg x3.cells) x3.cells := sa_cc x3.s x3.k x3.v Jo.z rfl rfl; (first | (have HM2 : Mem W [] ((b14, x2.cells) :: (b10, x.cells) :: (tb, cT) :: (b4, bad.cells) :: (B ++ (Bj3 ++ BB4))) w1 := Mem.j1 [(b14, x2.cells), (b10, x.cells), (tb, cT), (b4, bad.cells)] (HM.join HM1); clear HM HM1; have HM := HM2; clear HM2) | (have HM2 : Mem W [] ((bz, Jo.z) :: (b14, x2.cells) :: (b10, x.cells) :: (tb, cT) :: (b4, bad.cells) :: (B ++ (Bj3 ++ BB4))) w1 := Mem.j2 [(b14, x2.cells), (b10, x.cells), (tb, cT), (b4, bad.cells)] (HM.join HM1); clear HM HM1; have HM := HM2; clear HM2)); refine ⟨_, rfl, ?_⟩
                      refine ⟨(heldG HM), ?_⟩; ((try simp only [List.setIfInBounds_toArray]); (try simp only [List.set_cons_succ]); (try simp only [List.set_cons_zero]))
                      refine k_mv 7 (heldG HM) ?_
                      refine k_ext 8 (heldG HM) ?_
                      refine k_ext 9 (heldG HM) ?_
                      refine j_one 10 fun K9 hK9 => ?_
                      refine j_al HM ?_; clear HM; intro bz w1 HM
                      refine hK9 _ _ (heldG HM) ?_; clear hK9 K9; ((try simp only [List.setIfInBounds_toArray]); (try simp only [List.set_cons_succ]); (try simp only [List.set_cons_zero]))
                      refine j_one 11 fun K9 hK9 => ?_
                      refine j_st HM ?_; clear HM; intro w1 HM
                      refine hK9 _ _ heldN ?_; clear hK9 K9
                      refine k_mv 12 heldN ?_
                      refine wpAnyL_done (by kernel_rfl) ?_ _
                      (go_wp2_with fail; go_meet; (case rel => exact ⟨bz, x3, Bj3, rfl, rfl, hx3, hx35, HSX3, HM⟩))
                    · refine j_al HM ?_; clear HM; intro bz w1 HM
                      refine ⟨(heldG HM), ?_⟩; ((try simp only [List.setIfInBounds_toArray]); (try simp only [List.set_cons_succ]); (try simp only [List.set_cons_zero]))
                      refine j_one 6 fun K9 hK9 => ?_
                      refine o_callg (J2 _ _ (Jo.rd_more HM (by have := HS3.rd HM (fun p hp => by simp [hp]); rw [List.nil_append] at this; exact this) HX4.out (fun p hp => by simp [hp]) HL2.out (HBD.out.below HM.low) hbl)) rfl ?_ ?_; (focus (refine h_call2 (ts := ?_) (x1 := ?_) (x2 := ?_) ?_ (by kernel_rfl) ?_ ?_; rotate_left 3; (focus rfl); (focus rfl); rfl)); rintro e9 w1 ⟨x3, Bj3, hx3, rfl, hx35, HSX3, HM1⟩; have s14 : SA 25 Jo.z 0 (.agg x3.cells) x3.cells := sa_cc x3.s x3.k x3.v Jo.z rfl rfl; (first | (have HM2 : Mem W [] ((b14, x2.cells) :: (b10, x.cells) :: (tb, cT) :: (b4, bad.cells) :: (B ++ (Bj3 ++ BB4))) w1 := Mem.j1 [(b14, x2.cells), (b10, x.cells), (tb, cT), (b4, bad.cells)] (HM.join HM1); clear HM HM1; have HM := HM2; clear HM2) | (have HM2 : Mem W [] ((bz, Jo.z) :: (b14, x2.cells) :: (b10, x.cells) :: (tb, cT) :: (b4, bad.cells) :: (B ++ (Bj3 ++ BB4))) w1 := Mem.j2 [(b14, x2.cells), (b10, x.cells), (tb, cT), (b4, bad.cells)] (HM.join HM1); clear HM HM1; have HM := HM2; clear HM2)); refine ⟨_, rfl, ?_⟩
                      refine hK9 _ _ (heldG HM) ?_; clear hK9 K9; ((try simp only [List.setIfInBounds_toArray]); (try simp only [List.set_cons_succ]); (try simp only [List.set_cons_zero]))
                      refine k_mv 7 (heldG HM) ?_
                      refine k_ext 8 (heldG HM) ?_
                      refine k_ext 9 (heldG HM) ?_
                      refine j_one 11 fun K9 hK9 => ?_
                      refine j_st HM ?_; clear HM; intro w1 HM
                      refine hK9 _ _ heldN ?_; clear hK9 K9
                      refine k_mv 12 heldN ?_
                      refine wpAnyL_done (by kernel_rfl) ?_ _
                      (go_wp2_with fail; go_meet; (case rel => exact ⟨bz, x3, Bj3, rfl, rfl, hx3, hx35, HSX3, HM⟩))
                  · refine j_al HM ?_; clear HM; intro bz w1 HM
                    refine ⟨(heldG HM), ?_⟩; ((try simp only [List.setIfInBounds_toArray]); (try simp only [List.set_cons_succ]); (try simp only [List.set_cons_zero]))
                    refine j_one 5 fun K9 hK9 => ?_
                    first | (refine j_app (m := [bad.cells]) (F := fun X => (bz, Jo.z) :: (X ++ ((b14, x2.cells) :: (b10, x.cells) :: (tb, cT) :: (b4, bad.cells) :: (B ++ BB4)))) HM HS2 ((SlAt.made1 b1 rfl).rd HM (by simp)) ?_ (Jo.c_one [bad]) (hlen := hcap2); clear HM; intro s3 B3 w1 HS3 HM) | (refine j_app (m := [bad.cells]) (F := fun X => (X ++ ((b14, x2.cells) :: (b10, x.cells) :: (tb, cT) :: (b4, bad.cells) :: (B ++ BB4)))) HM HS2 ((SlAt.made1 b1 rfl).rd HM (by simp)) ?_ (Jo.c_one [bad]) (hlen := hcap2); clear HM; intro s3 B3 w1 HS3 HM)
                    refine hK9 _ _ (heldG HM) ?_; clear hK9 K9; ((try simp only [List.setIfInBounds_toArray]); (try simp only [List.set_cons_succ]); (try simp only [List.set_cons_zero]))
                    refine j_one 6 fun K9 hK9 => ?_
                    refine o_callg (J2 _ _ (Jo.rd_more HM (by have := HS3.rd HM (fun p hp => by simp [hp]); rw [List.nil_append] at this; exact this) HX4.out (fun p hp => by simp [hp]) HL2.out (HBD.out.below HM.low) hbl)) rfl ?_ ?_; (focus (refine h_call2 (ts := ?_) (x1 := ?_) (x2 := ?_) ?_ (by kernel_rfl) ?_ ?_; rotate_left 3; (focus rfl); (focus rfl); rfl)); rintro e9 w1 ⟨x3, Bj3, hx3, rfl, hx35, HSX3, HM1⟩; have s14 : SA 25 Jo.z 0 (.agg x3.cells) x3.cells := sa_cc x3.s x3.k x3.v Jo.z rfl rfl; (first | (have HM2 : Mem W [] ((b14, x2.cells) :: (b10, x.cells) :: (tb, cT) :: (b4, bad.cells) :: (B ++ (Bj3 ++ BB4))) w1 := Mem.j1 [(b14, x2.cells), (b10, x.cells), (tb, cT), (b4, bad.cells)] (HM.join HM1); clear HM HM1; have HM := HM2; clear HM2) | (have HM2 : Mem W [] ((bz, Jo.z) :: (b14, x2.cells) :: (b10, x.cells) :: (tb, cT) :: (b4, bad.cells) :: (B ++ (Bj3 ++ BB4))) w1 := Mem.j2 [(b14, x2.cells), (b10, x.cells), (tb, cT), (b4, bad.cells)] (HM.join HM1); clear HM HM1; have HM := HM2; clear HM2)); refine ⟨_, rfl, ?_⟩
                    refine hK9 _ _ (heldG HM) ?_; clear hK9 K9; ((try simp only [List.setIfInBounds_toArray]); (try simp only [List.set_cons_succ]); (try simp only [List.set_cons_zero]))
                    refine k_mv 7 (heldG HM) ?_
                    refine k_ext 8 (heldG HM) ?_
                    refine k_ext 9 (heldG HM) ?_
                    refine j_one 11 fun K9 hK9 => ?_
                    refine j_st HM ?_; clear HM; intro w1 HM
                    refine hK9 _ _ heldN ?_; clear hK9 K9
                    refine k_mv 12 heldN ?_
                    refine wpAnyL_done (by kernel_rfl) ?_ _
                    (go_wp2_with fail; go_meet; (case rel => exact ⟨bz, x3, Bj3, rfl, rfl, hx3, hx35, HSX3, HM⟩))
                · refine j_al HM ?_; clear HM; intro bz w1 HM
                  refine ⟨(heldG HM), ?_⟩; ((try simp only [List.setIfInBounds_toArray]); (try simp only [List.set_cons_succ]); (try simp only [List.set_cons_zero]))
                  refine j_one 2 fun K9 hK9 => ?_
                  first | (refine j_app (m := l.map Jo.C.cells) (F := fun X => (b1, rowsOf [bad.cells]) :: (bz, Jo.z) :: (X ++ ((b14, x2.cells) :: (b10, x.cells) :: (tb, cT) :: (b4, bad.cells) :: (B ++ BB4)))) HM (SlAt.made0 b0) (HO.out.rd HM (fun p hp => by simp [hp])) ?_ (Jo.c_one l) (hlen := hcap); clear HM; intro s2 B2 w1 HS2 HM) | (refine j_app (m := l.map Jo.C.cells) (F := fun X => (b1, rowsOf [bad.cells]) :: (X ++ ((b14, x2.cells) :: (b10, x.cells) :: (tb, cT) :: (b4, bad.cells) :: (B ++ BB4)))) HM (SlAt.made0 b0) (HO.out.rd HM (fun p hp => by simp [hp])) ?_ (Jo.c_one l) (hlen := hcap); clear HM; intro s2 B2 w1 HS2 HM) | (refine j_app (m := l.map Jo.C.cells) (F := fun X => (bz, Jo.z) :: (X ++ ((b14, x2.cells) :: (b10, x.cells) :: (tb, cT) :: (b4, bad.cells) :: (B ++ BB4)))) HM (SlAt.made0 b0) (HO.out.rd HM (fun p hp => by simp [hp])) ?_ (Jo.c_one l) (hlen := hcap); clear HM; intro s2 B2 w1 HS2 HM) | (refine j_app (m := l.map Jo.C.cells) (F := fun X => (X ++ ((b14, x2.cells) :: (b10, x.cells) :: (tb, cT) :: (b4, bad.cells) :: (B ++ BB4)))) HM (SlAt.made0 b0) (HO.out.rd HM (fun p hp => by simp [hp])) ?_ (Jo.c_one l) (hlen := hcap); clear HM; intro s2 B2 w1 HS2 HM)
                  refine hK9 _ _ (heldG HM) ?_; clear hK9 K9; ((try simp only [List.setIfInBounds_toArray]); (try simp only [List.set_cons_succ]); (try simp only [List.set_cons_zero]))
                  refine j_one 5 fun K9 hK9 => ?_
                  first | (refine j_app (m := [bad.cells]) (F := fun X => (bz, Jo.z) :: (X ++ ((b14, x2.cells) :: (b10, x.cells) :: (tb, cT) :: (b4, bad.cells) :: (B ++ BB4)))) HM HS2 ((SlAt.made1 b1 rfl).rd HM (by simp)) ?_ (Jo.c_one [bad]) (hlen := hcap2); clear HM; intro s3 B3 w1 HS3 HM) | (refine j_app (m := [bad.cells]) (F := fun X => (X ++ ((b14, x2.cells) :: (b10, x.cells) :: (tb, cT) :: (b4, bad.cells) :: (B ++ BB4)))) HM HS2 ((SlAt.made1 b1 rfl).rd HM (by simp)) ?_ (Jo.c_one [bad]) (hlen := hcap2); clear HM; intro s3 B3 w1 HS3 HM)
                  refine hK9 _ _ (heldG HM) ?_; clear hK9 K9; ((try simp only [List.setIfInBounds_toArray]); (try simp only [List.set_cons_succ]); (try simp only [List.set_cons_zero]))
                  refine j_one 6 fun K9 hK9 => ?_
                  refine o_callg (J2 _ _ (Jo.rd_more HM (by have := HS3.rd HM (fun p hp => by simp [hp]); rw [List.nil_append] at this; exact this) HX4.out (fun p hp => by simp [hp]) HL2.out (HBD.out.below HM.low) hbl)) rfl ?_ ?_; (focus (refine h_call2 (ts := ?_) (x1 := ?_) (x2 := ?_) ?_ (by kernel_rfl) ?_ ?_; rotate_left 3; (focus rfl); (focus rfl); rfl)); rintro e9 w1 ⟨x3, Bj3, hx3, rfl, hx35, HSX3, HM1⟩; have s14 : SA 25 Jo.z 0 (.agg x3.cells) x3.cells := sa_cc x3.s x3.k x3.v Jo.z rfl rfl; (first | (have HM2 : Mem W [] ((b14, x2.cells) :: (b10, x.cells) :: (tb, cT) :: (b4, bad.cells) :: (B ++ (Bj3 ++ BB4))) w1 := Mem.j1 [(b14, x2.cells), (b10, x.cells), (tb, cT), (b4, bad.cells)] (HM.join HM1); clear HM HM1; have HM := HM2; clear HM2) | (have HM2 : Mem W [] ((bz, Jo.z) :: (b14, x2.cells) :: (b10, x.cells) :: (tb, cT) :: (b4, bad.cells) :: (B ++ (Bj3 ++ BB4))) w1 := Mem.j2 [(b14, x2.cells), (b10, x.cells), (tb, cT), (b4, bad.cells)] (HM.join HM1); clear HM HM1; have HM := HM2; clear HM2)); refine ⟨_, rfl, ?_⟩
                  refine hK9 _ _ (heldG HM) ?_; clear hK9 K9; ((try simp only [List.setIfInBounds_toArray]); (try simp only [List.set_cons_succ]); (try simp only [List.set_cons_zero]))
                  refine k_mv 7 (heldG HM) ?_
                  refine k_ext 8 (heldG HM) ?_
                  refine k_ext 9 (heldG HM) ?_
                  refine j_one 11 fun K9 hK9 => ?_
                  refine j_st HM ?_; clear HM; intro w1 HM
                  refine hK9 _ _ heldN ?_; clear hK9 K9
                  refine k_mv 12 heldN ?_
                  refine wpAnyL_done (by kernel_rfl) ?_ _
                  (go_wp2_with fail; go_meet; (case rel => exact ⟨bz, x3, Bj3, rfl, rfl, hx3, hx35, HSX3, HM⟩))
              · refine j_al HM ?_; clear HM; intro bz w1 HM
                refine ⟨(heldG HM), ?_⟩; ((try simp only [List.setIfInBounds_toArray]); (try simp only [List.set_cons_succ]); (try simp only [List.set_cons_zero]))
                refine j_one 0 fun K9 hK9 => ?_
                refine j_bs0 HM ?_; clear HM; intro b0 w1 HM
                refine hK9 _ _ (heldG HM) ?_; clear hK9 K9; ((try simp only [List.setIfInBounds_toArray]); (try simp only [List.set_cons_succ]); (try simp only [List.set_cons_zero]))
                refine j_one 2 fun K9 hK9 => ?_
                first | (refine j_app (m := l.map Jo.C.cells) (F := fun X => (b1, rowsOf [bad.cells]) :: (bz, Jo.z) :: (X ++ ((b14, x2.cells) :: (b10, x.cells) :: (tb, cT) :: (b4, bad.cells) :: (B ++ BB4)))) HM (SlAt.made0 b0) (HO.out.rd HM (fun p hp => by simp [hp])) ?_ (Jo.c_one l) (hlen := hcap); clear HM; intro s2 B2 w1 HS2 HM) | (refine j_app (m := l.map Jo.C.cells) (F := fun X => (b1, rowsOf [bad.cells]) :: (X ++ ((b14, x2.cells) :: (b10, x.cells) :: (tb, cT) :: (b4, bad.cells) :: (B ++ BB4)))) HM (SlAt.made0 b0) (HO.out.rd HM (fun p hp => by simp [hp])) ?_ (Jo.c_one l) (hlen := hcap); clear HM; intro s2 B2 w1 HS2 HM) | (refine j_app (m := l.map Jo.C.cells) (F := fun X => (bz, Jo.z) :: (X ++ ((b14, x2.cells) :: (b10, x.cells) :: (tb, cT) :: (b4, bad.cells) :: (B ++ BB4)))) HM (SlAt.made0 b0) (HO.out.rd HM (fun p hp => by simp [hp])) ?_ (Jo.c_one l) (hlen := hcap); clear HM; intro s2 B2 w1 HS2 HM) | (refine j_app (m := l.map Jo.C.cells) (F := fun X => (X ++ ((b14, x2.cells) :: (b10, x.cells) :: (tb, cT) :: (b4, bad.cells) :: (B ++ BB4)))) HM (SlAt.made0 b0) (HO.out.rd HM (fun p hp => by simp [hp])) ?_ (Jo.c_one l) (hlen := hcap); clear HM; intro s2 B2 w1 HS2 HM)
                refine hK9 _ _ (heldG HM) ?_; clear hK9 K9; ((try simp only [List.setIfInBounds_toArray]); (try simp only [List.set_cons_succ]); (try simp only [List.set_cons_zero]))
                refine j_one 5 fun K9 hK9 => ?_
                first | (refine j_app (m := [bad.cells]) (F := fun X => (bz, Jo.z) :: (X ++ ((b14, x2.cells) :: (b10, x.cells) :: (tb, cT) :: (b4, bad.cells) :: (B ++ BB4)))) HM HS2 ((SlAt.made1 b1 rfl).rd HM (by simp)) ?_ (Jo.c_one [bad]) (hlen := hcap2); clear HM; intro s3 B3 w1 HS3 HM) | (refine j_app (m := [bad.cells]) (F := fun X => (X ++ ((b14, x2.cells) :: (b10, x.cells) :: (tb, cT) :: (b4, bad.cells) :: (B ++ BB4)))) HM HS2 ((SlAt.made1 b1 rfl).rd HM (by simp)) ?_ (Jo.c_one [bad]) (hlen := hcap2); clear HM; intro s3 B3 w1 HS3 HM)
                refine hK9 _ _ (heldG HM) ?_; clear hK9 K9; ((try simp only [List.setIfInBounds_toArray]); (try simp only [List.set_cons_succ]); (try simp only [List.set_cons_zero]))
                refine j_one 6 fun K9 hK9 => ?_
                refine o_callg (J2 _ _ (Jo.rd_more HM (by have := HS3.rd HM (fun p hp => by simp [hp]); rw [List.nil_append] at this; exact this) HX4.out (fun p hp => by simp [hp]) HL2.out (HBD.out.below HM.low) hbl)) rfl ?_ ?_; (focus (refine h_call2 (ts := ?_) (x1 := ?_) (x2 := ?_) ?_ (by kernel_rfl) ?_ ?_; rotate_left 3; (focus rfl); (focus rfl); rfl)); rintro e9 w1 ⟨x3, Bj3, hx3, rfl, hx35, HSX3, HM1⟩; have s14 : SA 25 Jo.z 0 (.agg x3.cells) x3.cells := sa_cc x3.s x3.k x3.v Jo.z rfl rfl; (first | (have HM2 : Mem W [] ((b14, x2.cells) :: (b10, x.cells) :: (tb, cT) :: (b4, bad.cells) :: (B ++ (Bj3 ++ BB4))) w1 := Mem.j1 [(b14, x2.cells), (b10, x.cells), (tb, cT), (b4, bad.cells)] (HM.join HM1); clear HM HM1; have HM := HM2; clear HM2) | (have HM2 : Mem W [] ((bz, Jo.z) :: (b14, x2.cells) :: (b10, x.cells) :: (tb, cT) :: (b4, bad.cells) :: (B ++ (Bj3 ++ BB4))) w1 := Mem.j2 [(b14, x2.cells), (b10, x.cells), (tb, cT), (b4, bad.cells)] (HM.join HM1); clear HM HM1; have HM := HM2; clear HM2)); refine ⟨_, rfl, ?_⟩
                refine hK9 _ _ (heldG HM) ?_; clear hK9 K9; ((try simp only [List.setIfInBounds_toArray]); (try simp only [List.set_cons_succ]); (try simp only [List.set_cons_zero]))
                refine k_mv 7 (heldG HM) ?_
                refine k_ext 8 (heldG HM) ?_
                refine k_ext 9 (heldG HM) ?_
                refine j_one 11 fun K9 hK9 => ?_
                refine j_st HM ?_; clear HM; intro w1 HM
                refine hK9 _ _ heldN ?_; clear hK9 K9
                refine k_mv 12 heldN ?_
                refine wpAnyL_done (by kernel_rfl) ?_ _
                (go_wp2_with fail; go_meet; (case rel => exact ⟨bz, x3, Bj3, rfl, rfl, hx3, hx35, HSX3, HM⟩))
            · refine j_al HM ?_; clear HM; intro bz w1 HM
              refine ⟨(heldG HM), ?_⟩; ((try simp only [List.setIfInBounds_toArray]); (try simp only [List.set_cons_succ]); (try simp only [List.set_cons_zero]))
              refine j_two 0 4 ?_ ?_
              · refine j_bs0 HM ?_; clear HM; intro b0 w1 HM
                refine ⟨(heldG HM), ?_⟩; ((try simp only [List.setIfInBounds_toArray]); (try simp only [List.set_cons_succ]); (try simp only [List.set_cons_zero]))
                refine j_two 2 4 ?_ ?_
                · first | (refine j_app (m := l.map Jo.C.cells) (F := fun X => (b1, rowsOf [bad.cells]) :: (bz, Jo.z) :: (X ++ ((b14, x2.cells) :: (b10, x.cells) :: (tb, cT) :: (b4, bad.cells) :: (B ++ BB4)))) HM (SlAt.made0 b0) (HO.out.rd HM (fun p hp => by simp [hp])) ?_ (Jo.c_one l) (hlen := hcap); clear HM; intro s2 B2 w1 HS2 HM) | (refine j_app (m := l.map Jo.C.cells) (F := fun X => (b1, rowsOf [bad.cells]) :: (X ++ ((b14, x2.cells) :: (b10, x.cells) :: (tb, cT) :: (b4, bad.cells) :: (B ++ BB4)))) HM (SlAt.made0 b0) (HO.out.rd HM (fun p hp => by simp [hp])) ?_ (Jo.c_one l) (hlen := hcap); clear HM; intro s2 B2 w1 HS2 HM) | (refine j_app (m := l.map Jo.C.cells) (F := fun X => (bz, Jo.z) :: (X ++ ((b14, x2.cells) :: (b10, x.cells) :: (tb, cT) :: (b4, bad.cells) :: (B ++ BB4)))) HM (SlAt.made0 b0) (HO.out.rd HM (fun p hp => by simp [hp])) ?_ (Jo.c_one l) (hlen := hcap); clear HM; intro s2 B2 w1 HS2 HM) | (refine j_app (m := l.map Jo.C.cells) (F := fun X => (X ++ ((b14, x2.cells) :: (b10, x.cells) :: (tb, cT) :: (b4, bad.cells) :: (B ++ BB4)))) HM (SlAt.made0 b0) (HO.out.rd HM (fun p hp => by simp [hp])) ?_ (Jo.c_one l) (hlen := hcap); clear HM; intro s2 B2 w1 HS2 HM)
                  refine ⟨(heldG HM), ?_⟩; ((try simp only [List.setIfInBounds_toArray]); (try simp only [List.set_cons_succ]); (try simp only [List.set_cons_zero]))
                  refine j_one 4 fun K9 hK9 => ?_
                  refine j_bs1 (c0 := bad.cells) HM ?_; clear HM; intro b1 w1 HM
                  refine hK9 _ _ (heldG HM) ?_; clear hK9 K9; ((try simp only [List.setIfInBounds_toArray]); (try simp only [List.set_cons_succ]); (try simp only [List.set_cons_zero]))
                  refine j_one 5 fun K9 hK9 => ?_
                  first | (refine j_app (m := [bad.cells]) (F := fun X => (bz, Jo.z) :: (X ++ ((b14, x2.cells) :: (b10, x.cells) :: (tb, cT) :: (b4, bad.cells) :: (B ++ BB4)))) HM HS2 ((SlAt.made1 b1 rfl).rd HM (by simp)) ?_ (Jo.c_one [bad]) (hlen := hcap2); clear HM; intro s3 B3 w1 HS3 HM) | (refine j_app (m := [bad.cells]) (F := fun X => (X ++ ((b14, x2.cells) :: (b10, x.cells) :: (tb, cT) :: (b4, bad.cells) :: (B ++ BB4)))) HM HS2 ((SlAt.made1 b1 rfl).rd HM (by simp)) ?_ (Jo.c_one [bad]) (hlen := hcap2); clear HM; intro s3 B3 w1 HS3 HM)
                  refine hK9 _ _ (heldG HM) ?_; clear hK9 K9; ((try simp only [List.setIfInBounds_toArray]); (try simp only [List.set_cons_succ]); (try simp only [List.set_cons_zero]))
                  refine j_one 6 fun K9 hK9 => ?_
                  refine o_callg (J2 _ _ (Jo.rd_more HM (by have := HS3.rd HM (fun p hp => by simp [hp]); rw [List.nil_append] at this; exact this) HX4.out (fun p hp => by simp [hp]) HL2.out (HBD.out.below HM.low) hbl)) rfl ?_ ?_; (focus (refine h_call2 (ts := ?_) (x1 := ?_) (x2 := ?_) ?_ (by kernel_rfl) ?_ ?_; rotate_left 3; (focus rfl); (focus rfl); rfl)); rintro e9 w1 ⟨x3, Bj3, hx3, rfl, hx35, HSX3, HM1⟩; have s14 : SA 25 Jo.z 0 (.agg x3.cells) x3.cells := sa_cc x3.s x3.k x3.v Jo.z rfl rfl; (first | (have HM2 : Mem W [] ((b14, x2.cells) :: (b10, x.cells) :: (tb, cT) :: (b4, bad.cells) :: (B ++ (Bj3 ++ BB4))) w1 := Mem.j1 [(b14, x2.cells), (b10, x.cells), (tb, cT), (b4, bad.cells)] (HM.join HM1); clear HM HM1; have HM := HM2; clear HM2) | (have HM2 : Mem W [] ((bz, Jo.z) :: (b14, x2.cells) :: (b10, x.cells) :: (tb, cT) :: (b4, bad.cells) :: (B ++ (Bj3 ++ BB4))) w1 := Mem.j2 [(b14, x2.cells), (b10, x.cells), (tb, cT), (b4, bad.cells)] (HM.join HM1); clear HM HM1; have HM := HM2; clear HM2)); refine ⟨_, rfl, ?_⟩
                  refine hK9 _ _ (heldG HM) ?_; clear hK9 K9; ((try simp only [List.setIfInBounds_toArray]); (try simp only [List.set_cons_succ]); (try simp only [List.set_cons_zero]))
                  refine k_mv 7 (heldG HM) ?_
                  refine k_ext 8 (heldG HM) ?_
                  refine k_ext 9 (heldG HM) ?_
                  refine j_one 11 fun K9 hK9 => ?_
                  refine j_st HM ?_; clear HM; intro w1 HM
                  refine hK9 _ _ heldN ?_; clear hK9 K9
                  refine k_mv 12 heldN ?_
                  refine wpAnyL_done (by kernel_rfl) ?_ _
                  (go_wp2_with fail; go_meet; (case rel => exact ⟨bz, x3, Bj3, rfl, rfl, hx3, hx35, HSX3, HM⟩))
                · refine j_bs1 (c0 := bad.cells) HM ?_; clear HM; intro b1 w1 HM
                  refine ⟨(heldG HM), ?_⟩; ((try simp only [List.setIfInBounds_toArray]); (try simp only [List.set_cons_succ]); (try simp only [List.set_cons_zero]))
                  refine j_one 2 fun K9 hK9 => ?_
                  first | (refine j_app (m := l.map Jo.C.cells) (F := fun X => (b1, rowsOf [bad.cells]) :: (bz, Jo.z) :: (X ++ ((b14, x2.cells) :: (b10, x.cells) :: (tb, cT) :: (b4, bad.cells) :: (B ++ BB4)))) HM (SlAt.made0 b0) (HO.out.rd HM (fun p hp => by simp [hp])) ?_ (Jo.c_one l) (hlen := hcap); clear HM; intro s2 B2 w1 HS2 HM) | (refine j_app (m := l.map Jo.C.cells) (F := fun X => (b1, rowsOf [bad.cells]) :: (X ++ ((b14, x2.cells) :: (b10, x.cells) :: (tb, cT) :: (b4, bad.cells) :: (B ++ BB4)))) HM (SlAt.made0 b0) (HO.out.rd HM (fun p hp => by simp [hp])) ?_ (Jo.c_one l) (hlen := hcap); clear HM; intro s2 B2 w1 HS2 HM) | (refine j_app (m := l.map Jo.C.cells) (F := fun X => (bz, Jo.z) :: (X ++ ((b14, x2.cells) :: (b10, x.cells) :: (tb, cT) :: (b4, bad.cells) :: (B ++ BB4)))) HM (SlAt.made0 b0) (HO.out.rd HM (fun p hp => by simp [hp])) ?_ (Jo.c_one l) (hlen := hcap); clear HM; intro s2 B2 w1 HS2 HM) | (refine j_app (m := l.map Jo.C.cells) (F := fun X => (X ++ ((b14, x2.cells) :: (b10, x.cells) :: (tb, cT) :: (b4, bad.cells) :: (B ++ BB4)))) HM (SlAt.made0 b0) (HO.out.rd HM (fun p hp => by simp [hp])) ?_ (Jo.c_one l) (hlen := hcap); clear HM; intro s2 B2 w1 HS2 HM)
                  refine hK9 _ _ (heldG HM) ?_; clear hK9 K9; ((try simp only [List.setIfInBounds_toArray]); (try simp only [List.set_cons_succ]); (try simp only [List.set_cons_zero]))
                  refine j_one 5 fun K9 hK9 => ?_
                  first | (refine j_app (m := [bad.cells]) (F := fun X => (bz, Jo.z) :: (X ++ ((b14, x2.cells) :: (b10, x.cells) :: (tb, cT) :: (b4, bad.cells) :: (B ++ BB4)))) HM HS2 ((SlAt.made1 b1 rfl).rd HM (by simp)) ?_ (Jo.c_one [bad]) (hlen := hcap2); clear HM; intro s3 B3 w1 HS3 HM) | (refine j_app (m := [bad.cells]) (F := fun X => (X ++ ((b14, x2.cells) :: (b10, x.cells) :: (tb, cT) :: (b4, bad.cells) :: (B ++ BB4)))) HM HS2 ((SlAt.made1 b1 rfl).rd HM (by simp)) ?_ (Jo.c_one [bad]) (hlen := hcap2); clear HM; intro s3 B3 w1 HS3 HM)
                  refine hK9 _ _ (heldG HM) ?_; clear hK9 K9; ((try simp only [List.setIfInBounds_toArray]); (try simp only [List.set_cons_succ]); (try simp only [List.set_cons_zero]))
                  refine j_one 6 fun K9 hK9 => ?_
                  refine o_callg (J2 _ _ (Jo.rd_more HM (by have := HS3.rd HM (fun p hp => by simp [hp]); rw [List.nil_append] at this; exact this) HX4.out (fun p hp => by simp [hp]) HL2.out (HBD.out.below HM.low) hbl)) rfl ?_ ?_; (focus (refine h_call2 (ts := ?_) (x1 := ?_) (x2 := ?_) ?_ (by kernel_rfl) ?_ ?_; rotate_left 3; (focus rfl); (focus rfl); rfl)); rintro e9 w1 ⟨x3, Bj3, hx3, rfl, hx35, HSX3, HM1⟩; have s14 : SA 25 Jo.z 0 (.agg x3.cells) x3.cells := sa_cc x3.s x3.k x3.v Jo.z rfl rfl; (first | (have HM2 : Mem W [] ((b14, x2.cells) :: (b10, x.cells) :: (tb, cT) :: (b4, bad.cells) :: (B ++ (Bj3 ++ BB4))) w1 := Mem.j1 [(b14, x2.cells), (b10, x.cells), (tb, cT), (b4, bad.cells)] (HM.join HM1); clear HM HM1; have HM := HM2; clear HM2) | (have HM2 : Mem W [] ((bz, Jo.z) :: (b14, x2.cells) :: (b10, x.cells) :: (tb, cT) :: (b4, bad.cells) :: (B ++ (Bj3 ++ BB4))) w1 := Mem.j2 [(b14, x2.cells), (b10, x.cells), (tb, cT), (b4, bad.cells)] (HM.join HM1); clear HM HM1; have HM := HM2; clear HM2)); refine ⟨_, rfl, ?_⟩
                  refine hK9 _ _ (heldG HM) ?_; clear hK9 K9; ((try simp only [List.setIfInBounds_toArray]); (try simp only [List.set_cons_succ]); (try simp only [List.set_cons_zero]))
                  refine k_mv 7 (heldG HM) ?_
                  refine k_ext 8 (heldG HM) ?_
                  refine k_ext 9 (heldG HM) ?_
                  refine j_one 11 fun K9 hK9 => ?_
                  refine j_st HM ?_; clear HM; intro w1 HM
                  refine hK9 _ _ heldN ?_; clear hK9 K9
                  refine k_mv 12 heldN ?_
                  refine wpAnyL_done (by kernel_rfl) ?_ _
                  (go_wp2_with fail; go_meet; (case rel => exact ⟨bz, x3, Bj3, rfl, rfl, hx3, hx35, HSX3, HM⟩))
              · refine j_bs1 (c0 := bad.cells) HM ?_; clear HM; intro b1 w1 HM
                refine ⟨(heldG HM), ?_⟩; ((try simp only [List.setIfInBounds_toArray]); (try simp only [List.set_cons_succ]); (try simp only [List.set_cons_zero]))
                refine j_one 0 fun K9 hK9 => ?_
                refine j_bs0 HM ?_; clear HM; intro b0 w1 HM
                refine hK9 _ _ (heldG HM) ?_; clear hK9 K9; ((try simp only [List.setIfInBounds_toArray]); (try simp only [List.set_cons_succ]); (try simp only [List.set_cons_zero]))
                refine j_one 2 fun K9 hK9 => ?_
                first | (refine j_app (m := l.map Jo.C.cells) (F := fun X => (b1, rowsOf [bad.cells]) :: (bz, Jo.z) :: (X ++ ((b14, x2.cells) :: (b10, x.cells) :: (tb, cT) :: (b4, bad.cells) :: (B ++ BB4)))) HM (SlAt.made0 b0) (HO.out.rd HM (fun p hp => by simp [hp])) ?_ (Jo.c_one l) (hlen := hcap); clear HM; intro s2 B2 w1 HS2 HM) | (refine j_app (m := l.map Jo.C.cells) (F := fun X => (b1, rowsOf [bad.cells]) :: (X ++ ((b14, x2.cells) :: (b10, x.cells) :: (tb, cT) :: (b4, bad.cells) :: (B ++ BB4)))) HM (SlAt.made0 b0) (HO.out.rd HM (fun p hp => by simp [hp])) ?_ (Jo.c_one l) (hlen := hcap); clear HM; intro s2 B2 w1 HS2 HM) | (refine j_app (m := l.map Jo.C.cells) (F := fun X => (bz, Jo.z) :: (X ++ ((b14, x2.cells) :: (b10, x.cells) :: (tb, cT) :: (b4, bad.cells) :: (B ++ BB4)))) HM (SlAt.made0 b0) (HO.out.rd HM (fun p hp => by simp [hp])) ?_ (Jo.c_one l) (hlen := hcap); clear HM; intro s2 B2 w1 HS2 HM) | (refine j_app (m := l.map Jo.C.cells) (F := fun X => (X ++ ((b14, x2.cells) :: (b10, x.cells) :: (tb, cT) :: (b4, bad.cells) :: (B ++ BB4)))) HM (SlAt.made0 b0) (HO.out.rd HM (fun p hp => by simp [hp])) ?_ (Jo.c_one l) (hlen := hcap); clear HM; intro s2 B2 w1 HS2 HM)
                refine hK9 _ _ (heldG HM) ?_; clear hK9 K9; ((try simp only [List.setIfInBounds_toArray]); (try simp only [List.set_cons_succ]); (try simp only [List.set_cons_zero]))
                refine j_one 5 fun K9 hK9 => ?_
                first | (refine j_app (m := [bad.cells]) (F := fun X => (bz, Jo.z) :: (X ++ ((b14, x2.cells) :: (b10, x.cells) :: (tb, cT) :: (b4, bad.cells) :: (B ++ BB4)))) HM HS2 ((SlAt.made1 b1 rfl).rd HM (by simp)) ?_ (Jo.c_one [bad]) (hlen := hcap2); clear HM; intro s3 B3 w1 HS3 HM) | (refine j_app (m := [bad.cells]) (F := fun X => (X ++ ((b14, x2.cells) :: (b10, x.cells) :: (tb, cT) :: (b4, bad.cells) :: (B ++ BB4)))) HM HS2 ((SlAt.made1 b1 rfl).rd HM (by simp)) ?_ (Jo.c_one [bad]) (hlen := hcap2); clear HM; intro s3 B3 w1 HS3 HM)
                refine hK9 _ _ (heldG HM) ?_; clear hK9 K9; ((try simp only [List.setIfInBounds_toArray]); (try simp only [List.set_cons_succ]); (try simp only [List.set_cons_zero]))
                refine j_one 6 fun K9 hK9 => ?_
                refine o_callg (J2 _ _ (Jo.rd_more HM (by have := HS3.rd HM (fun p hp => by simp [hp]); rw [List.nil_append] at this; exact this) HX4.out (fun p hp => by simp [hp]) HL2.out (HBD.out.below HM.low) hbl)) rfl ?_ ?_; (focus (refine h_call2 (ts := ?_) (x1 := ?_) (x2 := ?_) ?_ (by kernel_rfl) ?_ ?_; rotate_left 3; (focus rfl); (focus rfl); rfl)); rintro e9 w1 ⟨x3, Bj3, hx3, rfl, hx35, HSX3, HM1⟩; have s14 : SA 25 Jo.z 0 (.agg x3.cells) x3.cells := sa_cc x3.s x3.k x3.v Jo.z rfl rfl; (first | (have HM2 : Mem W [] ((b14, x2.cells) :: (b10, x.cells) :: (tb, cT) :: (b4, bad.cells) :: (B ++ (Bj3 ++ BB4))) w1 := Mem.j1 [(b14, x2.cells), (b10, x.cells), (tb, cT), (b4, bad.cells)] (HM.join HM1); clear HM HM1; have HM := HM2; clear HM2) | (have HM2 : Mem W [] ((bz, Jo.z) :: (b14, x2.cells) :: (b10, x.cells) :: (tb, cT) :: (b4, bad.cells) :: (B ++ (Bj3 ++ BB4))) w1 := Mem.j2 [(b14, x2.cells), (b10, x.cells), (tb, cT), (b4, bad.cells)] (HM.join HM1); clear HM HM1; have HM := HM2; clear HM2)); refine ⟨_, rfl, ?_⟩
                refine hK9 _ _ (heldG HM) ?_; clear hK9 K9; ((try simp only [List.setIfInBounds_toArray]); (try simp only [List.set_cons_succ]); (try simp only [List.set_cons_zero]))
                refine k_mv 7 (heldG HM) ?_
                refine k_ext 8 (heldG HM) ?_
                refine k_ext 9 (heldG HM) ?_
                refine j_one 11 fun K9 hK9 => ?_
                refine j_st HM ?_; clear HM; intro w1 HM
                refine hK9 _ _ heldN ?_; clear hK9 K9
                refine k_mv 12 heldN ?_
                refine wpAnyL_done (by kernel_rfl) ?_ _
                (go_wp2_with fail; go_meet; (case rel => exact ⟨bz, x3, Bj3, rfl, rfl, hx3, hx35, HSX3, HM⟩))
        case rest =>
          clear HM J2 hcap hcap2 kb
          obtain ⟨b16, x3, Bj3, rfl, rfl, hx3, hx35, HSX3, HM⟩ := hcut
          have hxy : x2.s = x3.s ∧ x2.k = x3.k ∧ x2.hs = x3.hs := by
            have e := hx2.symm.trans hx3
            injection e with e1 e2
            injection e2 with e2 e3
            exact ⟨e1, e2, e3⟩
          have E := fun w' (HM : Mem W [] ((b16, x3.cells) :: (b14, x2.cells) :: (b10, x.cells) :: (tb, cT) :: (b4, bad.cells) :: (B ++ (Bj3 ++ BB4))) w') => same_any x2 x3 w' hxy.1 hxy.2.1 hxy.2.2 (Jo.held HM HSX2.out (fun p hp => by have := HX2J.out p hp; simp [this])) (Jo.held HM HSX3.out (fun p hp => by simp [hp])) (by omega)
          have k14 : LA 25 x2.cells 0 (.agg x2.cells) := la_cc _ _ _
          have k16 : LA 25 x3.cells 0 (.agg x3.cells) := la_cc _ _ _
          clear hxy
          go_upto_region 16 with (first | (go_at_call 9; ((with_reducible refine (E _ HM).mono ?_); rintro e9 w2 ⟨rfl, hL⟩; replace HM := HM.call hL; clear hL)) | (first | ((with_reducible refine g_ld ?_); refine a_ld HM ?_) | ((with_reducible refine g_st ?_); refine a_st HM ?_; clear HM; intro w1 HM) | ((with_reducible refine g_al ?_); refine a_al HM ?_; clear HM; intro bk w1 HM) | ((with_reducible refine g_bx ?_); refine a_bx HM ?_; clear HM; intro bk w1 HM) | ((with_reducible refine g_bld ?_); refine a_bld ?_)))
          clear E k14 k16 HSX2 HSX3 HX2J
          replace HM := HM.tail.tail
          obtain ⟨BB5, hB5⟩ : ∃ BB5, Hid (BB5 = Bj3 ++ BB4) := ⟨_, Lib.hid rfl⟩
          rw [← hB5.out] at HM
          have HX5 : Hid (Jo.In l BB5) := Lib.hid (HX4.out.more fun p hp => by rw [hB5.out]; simp [hp])
          have HXJ5 : Hid (∀ p ∈ Bj, p ∈ BB5) := Lib.hid fun p hp => by rw [hB5.out]; exact List.mem_append_right _ (HXJ4.out p hp)
          clear hB5 HX4 HXJ4 hx2 hx3 hx25 hx35
          have KN := fun w => known_any w
          by_cases hr0 : r = 0
          · subst hr0
            obtain ⟨hok, hvx⟩ := Jo.err_zero hr.out.symm
            have hxe : x.s = nm ∧ x.k = Jo.week l ∧ x.hs = Jo.srt (Jo.hols l) := by
              have e := hx
              unfold Jo.out at e
              rw [if_pos hr.out.symm] at e
              injection e with e1 e2
              injection e2 with e2 e3
              exact ⟨e1.symm, e2.symm, e3.symm⟩
            have HVX : Hid (Cl.validC x.s x.k x.hs = true) := Lib.hid (by rw [hxe.1, hxe.2.1, hxe.2.2]; exact hvx)
            have HBZ : Hid (∀ d, Dt.isDay d = true → Cl.bizB x.s x.k x.hs d = l.all fun z => Cl.bizB z.s z.k z.hs d) := Lib.hid fun d hd => by rw [hxe.1, hxe.2.1, hxe.2.2]; exact Jo.biz_join hr.out.symm hd
            have HVL := Lib.hid hok
            clear hok hvx hxe hx
            go_wp2_with (first | fail | (first | ((with_reducible refine g_ld ?_); refine a_ld HM ?_) | ((with_reducible refine g_st ?_); refine a_st HM ?_; clear HM; intro w1 HM) | ((with_reducible refine g_al ?_); refine a_al HM ?_; clear HM; intro bk w1 HM) | ((with_reducible refine g_bx ?_); refine a_bx HM ?_; clear HM; intro bk w1 HM) | ((with_reducible refine g_bld ?_); refine a_bld ?_)))
            go_loopw [6, 18] (fun rv kv wr => ∃ (k : Nat) (cT : Array Value), rv = .bool false ∧ kv = .int .i64 (k : Nat) ∧ k ≤ 8 ∧ Hid (TapeC W (100001 + k) cT) ∧ Mem W [] ((b10, x.cells) :: (tb, cT) :: (b4, bad.cells) :: (B ++ BB5)) wr) (fun _ kv _ => 8 - (intOf kv).toNat)
            case atStart => exact ⟨0, cT, rfl, rfl, by omega, HC, HM⟩
            case round =>
              clear HM HC
              obtain ⟨k, cT, rfl, rfl, hk, HC, HM⟩ := hrel
              by_cases hkt : k < 8
              · have hkt1 : (k : Int) < 8 := by omega
                go_wp2_with fail
                have HM1 : Mem W [] ((tb, cT) :: (b10, x.cells) :: (b4, bad.cells) :: (B ++ BB5)) _ := HM.pick
                refine (near_m 9497 40 tb _ _ _ W _ HM1 HC (by omega) (by omega) (by omega) (by omega) (by omega)).mono ?_
                rintro e9 w2 ⟨d, c2, rfl, d0, d1, HC2, HM2⟩
                clear HM HM1 HC
                have HM : Mem W [] ((b10, x.cells) :: (tb, c2) :: (b4, bad.cells) :: (B ++ BB5)) w2 := HM2.pick
                replace HC := HC2
                clear HM2 HC2
                have hday := Jo.day_is d0 d1
                have HDAY := Lib.hid hday
                clear hday d0 d1
                go_wp2_with fail
                go_loopw [20, 21] (fun av iv wr => ∃ (i : Nat) (a : Bool), av = .bool a ∧ iv = .int .i64 (i : Nat) ∧ i ≤ l.length ∧ Hid (a = (l.take i).all fun z => Cl.bizB z.s z.k z.hs d) ∧ Mem W [] ((b10, x.cells) :: (tb, c2) :: (b4, bad.cells) :: (B ++ BB5)) wr) (fun _ iv _ => l.length - (intOf iv).toNat)
                case atStart => exact ⟨0, true, rfl, rfl, by omega, Lib.hid rfl, HM⟩
                case round =>
                  clear HM
                  obtain ⟨i, a, rfl, rfl, hil, HA, HM⟩ := hrel
                  by_cases hit : i < l.length
                  · have hit1 : (i : Int) < l.length := by omega
                    obtain ⟨z, hzi⟩ : ∃ z, l[i]? = some z := ⟨_, List.getElem?_eq_getElem hit⟩
                    have hRD := Jo.rd_of HM (HO.out.rd HM (fun p hp => by simp [hp])) HX5.out (fun p hp => by simp [hp]) HL2.out
                    obtain ⟨bz, oz, cz, ez, HRZ, kz, _, _⟩ := hRD.at_ hzi
                    obtain ⟨hzA, hzl⟩ := hRD.hol z (List.mem_of_getElem? hzi)
                    obtain ⟨v, hv⟩ : ∃ v, Hid (v = Cl.bizB z.s z.k z.hs d) := ⟨_, Lib.hid rfl⟩
                    have V := biz_c z d _ hzA hzl (HVL.out z (List.mem_of_getElem? hzi)) HDAY.out v hv
                    have HA2 : Hid ((a && v) = (l.take (i + 1)).all fun z => Cl.bizB z.s z.k z.hs d) := Lib.hid (by rw [Jo.take_ok hzi, List.all_append, ← HA.out, hv.out]; simp)
                    clear hRD hzA hzl hzi hv
                    subst ez
                    cases a <;> cases v
                    all_goals
                      go_wp2_with (first | first | ((with_reducible refine g_ld ?_); refine a_ldw HRZ ?_) | (go_at_call 11; ((with_reducible refine (V).mono ?_); rintro e9 w2 ⟨rfl, hL⟩; replace HM := HM.call hL; clear hL)) | (first | ((with_reducible refine g_ld ?_); refine a_ld HM ?_) | ((with_reducible refine g_st ?_); refine a_st HM ?_; clear HM; intro w1 HM) | ((with_reducible refine g_al ?_); refine a_al HM ?_; clear HM; intro bk w1 HM) | ((with_reducible refine g_bx ?_); refine a_bx HM ?_; clear HM; intro bk w1 HM) | ((with_reducible refine g_bld ?_); refine a_bld ?_)))
                      go_roundw
                      case rel => exact ⟨i + 1, _, rfl, by go_num, by omega, HA2, HM⟩
                      case measure => simp [intOf]; omega
                  · obtain rfl : l.length = i := by omega
                    rw [List.take_of_length_le (Nat.le_refl _)] at HA
                    have HAX : Hid (a = Cl.bizB x.s x.k x.hs d) := Lib.hid (by rw [HA.out, HBZ.out d HDAY.out])
                    have V := biz_c x d _ (Jo.held HM HSX.out (fun p hp => by have := HXJ5.out p hp; simp [this])) (by omega) HVX.out HDAY.out a HAX
                    cases a
                    all_goals
                      go_wp2_with (first | (go_at_call 11; ((with_reducible refine (V).mono ?_); rintro e9 w2 ⟨rfl, hL⟩; replace HM := HM.call hL; clear hL)) | (first | ((with_reducible refine g_ld ?_); refine a_ld HM ?_) | ((with_reducible refine g_st ?_); refine a_st HM ?_; clear HM; intro w1 HM) | ((with_reducible refine g_al ?_); refine a_al HM ?_; clear HM; intro bk w1 HM) | ((with_reducible refine g_bx ?_); refine a_bx HM ?_; clear HM; intro bk w1 HM) | ((with_reducible refine g_bld ?_); refine a_bld ?_)))
                      go_roundw
                      case rel => exact ⟨k + 1, c2, rfl, by go_num, by omega, Lib.hid (HC.out.mono (by omega)), HM⟩
                      case measure => simp [intOf]; omega
              · obtain rfl : k = 8 := by omega
                go_wp2_with (first | (go_at_call 12; ((with_reducible refine (KN _).mono ?_); rintro e9 w2 ⟨rfl, hL⟩; replace HM := HM.call hL; clear hL)) | (first | ((with_reducible refine g_ld ?_); refine a_ld HM ?_) | ((with_reducible refine g_st ?_); refine a_st HM ?_; clear HM; intro w1 HM) | ((with_reducible refine g_al ?_); refine a_al HM ?_; clear HM; intro bk w1 HM) | ((with_reducible refine g_bx ?_); refine a_bx HM ?_; clear HM; intro bk w1 HM) | ((with_reducible refine g_bld ?_); refine a_bld ?_)))
                go_ret
                exact ⟨rfl, HM.low⟩
          · have hrb : (r == 0) = false := beq_eq_false_iff_ne.2 hr0
            go_wp2_with (first | fail | (first | ((with_reducible refine g_ld ?_); refine a_ld HM ?_) | ((with_reducible refine g_st ?_); refine a_st HM ?_; clear HM; intro w1 HM) | ((with_reducible refine g_al ?_); refine a_al HM ?_; clear HM; intro bk w1 HM) | ((with_reducible refine g_bx ?_); refine a_bx HM ?_; clear HM; intro bk w1 HM) | ((with_reducible refine g_bld ?_); refine a_bld ?_)))
            go_loopw [6, 18] (fun rv kv wr => rv = .bool false ∧ kv = .int .i64 0 ∧ Mem W [] ((b10, x.cells) :: (tb, cT) :: (b4, bad.cells) :: (B ++ BB5)) wr) (fun _ _ _ => 0)
            case atStart => exact ⟨rfl, rfl, HM⟩
            case round =>
              clear HM
              obtain ⟨rfl, rfl, HM⟩ := hrel
              go_wp2_with (first | (go_at_call 12; ((with_reducible refine (KN _).mono ?_); rintro e9 w2 ⟨rfl, hL⟩; replace HM := HM.call hL; clear hL)) | (first | ((with_reducible refine g_ld ?_); refine a_ld HM ?_) | ((with_reducible refine g_st ?_); refine a_st HM ?_; clear HM; intro w1 HM) | ((with_reducible refine g_al ?_); refine a_al HM ?_; clear HM; intro bk w1 HM) | ((with_reducible refine g_bx ?_); refine a_bx HM ?_; clear HM; intro bk w1 HM) | ((with_reducible refine g_bld ?_); refine a_bld ?_)))
              go_ret
              exact ⟨rfl, HM.low⟩
end Go.Proofs.Ytaokneooejbfkaa
