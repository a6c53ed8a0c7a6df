/- Join of the document, walked. -/
import Derived.Test.YtaokneooejbfkaaJoM
namespace Go.Proofs.Ytaokneooejbfkaa
set_option maxRecDepth 8000
open Go.RowKit
theorem Jo.srt_le (l : List Int) : (Jo.srt l).length ≤ l.length := Jo.nodup_len (Jo.pw_srt.imp fun h => by omega) fun x hx => Jo.mem_srt.1 hx
theorem Sub.app {B : List (Nat × Array Value)} : ∀ {A : List (Nat × Array Value)}, Sub A (A ++ B)
  | [] => .nil
  | _ :: _ => .keep Sub.app
/-- New blocks in the place of the last. -/
theorem Mem.instead {w0 w : World} {X : List Nat} {p q : Nat × Array Value} {B B2 : List (Nat × Array Value)} (h : Mem w0 X (B2 ++ (p :: q :: B)) w) : Mem w0 X (p :: q :: B2) w := by
  have hp : (p :: q :: (B2 ++ B)).Perm (B2 ++ (p :: q :: B)) := ((List.perm_middle (a := q) (l₁ := B2) (l₂ := B)).symm.cons p).trans (List.perm_middle (a := p) (l₁ := B2) (l₂ := q :: B)).symm
  exact (h.perm hp).less (.keep (.keep Sub.app))
theorem rCheck_v (s : ByteArray) (k : Nat → Bool) (hs : List Int) (A : Option Addr) (c : Nat) (w : World) (hA : IntsAt w A hs) (hl : hs.length ≤ 9223372036854775807) (r : Int) (hr : Hid (r = Cl.chk s k hs)) :
    Calls Try.prog 17 #[.agg (Jo.cc s k (.slice A hs.length c))] w fun e w' => e = .returned (.int .i64 r) ∧ Below w.heap.size w w' := rCheck_c ⟨s, k, hs, A, c⟩ w hA hl r hr
set_option maxHeartbeats 8000000 in
theorem rjoin_any (name : ByteArray) (sv : Value) (l : List Jo.C) (w : World) (hR : Jo.Rd w sv l) (r : Int) (hr : Hid (r = Jo.err name l)) :
    Calls Try.prog 8 #[.string name, sv] w fun e w' => ∃ (x : Jo.C) (B : List (Nat × Array Value)), Jo.out name l = (x.s, x.k, x.hs) ∧ e = .returned (.tuple #[.agg x.cells, .int .i64 r]) ∧ x.hs.length ≤ 100000 ∧ Hid (SlAt 1 x.v (Jo.ir x.hs) B) ∧ Mem w [] B w' := by
  have HM := Mem.start w
  have HR := Lib.hid hR
  obtain ⟨A, cap, rfl⟩ := hR.form
  have hz := za_cc
  have hsz := Jo.sa_z
  clear hR
  by_cases hl : l.length = 0 ∨ 8 < l.length
  · have he := Jo.err_bad (name := name) (Jo.bad_len hl)
    obtain rfl : r = 80 := by rw [hr.out, he]
    have HO := Lib.hid (Jo.out_bad (name := name) (l := l) (by rw [he]; decide))
    clear he hr
    rcases hl with h0 | h8
    · have h1 : (l.length : Int) = 0 := by omega
      clear h0
      go_enter Try.func8, Try.ntmps8
      go_wp2_with (first | ((with_reducible refine gj_bld ?_); refine a_jbl ?_ (h_jb0 rfl Jo.build0)) | (first | ((with_reducible refine g_ld ?_); refine a_ld HM ?_) | ((with_reducible refine g_st ?_); refine a_st HM ?_; clear HM; intro w1 HM) | ((with_reducible refine g_al ?_); refine a_al HM ?_; clear HM; intro bk w1 HM) | ((with_reducible refine g_bx ?_); refine a_bx HM ?_; clear HM; intro bk w1 HM) | ((with_reducible refine g_bld ?_); refine a_bld ?_)))
      refine bodyPost_ret (jr_ct (k := 0) rfl rfl (HM.get (by ((repeat (first | exact Look.here | refine Look.there ?_)); done))) Jo.la_z) rfl ⟨Jo.C0, [], HO.out, rfl, by decide, Lib.hid .nil, HM.pick⟩
    · have h1 : ((l.length : Int) == 0) = false := beq_eq_false_iff_ne.2 (by omega)
      have h2 : (8 : Int) < l.length := by omega
      go_enter Try.func8, Try.ntmps8
      go_wp2_with (first | ((with_reducible refine gj_bld ?_); refine a_jbl ?_ (h_jb0 rfl Jo.build0)) | (first | ((with_reducible refine g_ld ?_); refine a_ld HM ?_) | ((with_reducible refine g_st ?_); refine a_st HM ?_; clear HM; intro w1 HM) | ((with_reducible refine g_al ?_); refine a_al HM ?_; clear HM; intro bk w1 HM) | ((with_reducible refine g_bx ?_); refine a_bx HM ?_; clear HM; intro bk w1 HM) | ((with_reducible refine g_bld ?_); refine a_bld ?_)))
      refine bodyPost_ret (jr_ct (k := 0) rfl rfl (HM.get (by ((repeat (first | exact Look.here | refine Look.there ?_)); done))) Jo.la_z) rfl ⟨Jo.C0, [], HO.out, rfl, by decide, Lib.hid .nil, HM.pick⟩
  have h0 : 0 < l.length := by omega
  have h8 : l.length ≤ 8 := by omega
  have h1 : ((l.length : Int) == 0) = false := beq_eq_false_iff_ne.2 (by omega)
  have h2 : ¬ (8 : Int) < l.length := by omega
  have s0 := sa_cc name Jo.zk (.slice none 0 0) Jo.z rfl rfl
  clear hl
  go_enter Try.func8, Try.ntmps8
  go_upto_region 4 with (first | ((with_reducible refine gj_bld ?_); refine a_jbl ?_ (h_jb1 rfl (by (conv => lhs; whnf) <;> rfl) (Jo.build1 name))) | (first | ((with_reducible refine g_ld ?_); refine a_ld HM ?_) | ((with_reducible refine g_st ?_); refine a_st HM ?_; clear HM; intro w1 HM) | ((with_reducible refine g_al ?_); refine a_al HM ?_; clear HM; intro bk w1 HM) | ((with_reducible refine g_bx ?_); refine a_bx HM ?_; clear HM; intro bk w1 HM) | ((with_reducible refine g_bld ?_); refine a_bld ?_)))
  clear s0
  obtain ⟨b6, rfl⟩ := HM.nm0
  obtain ⟨b4, rfl⟩ := HM.nm1
  go_wp2_with (first | fail | (first | ((with_reducible refine g_ld ?_); refine a_ld HM ?_) | ((with_reducible refine g_st ?_); refine a_st HM ?_; clear HM; intro w1 HM) | ((with_reducible refine g_al ?_); refine a_al HM ?_; clear HM; intro bk w1 HM) | ((with_reducible refine g_bx ?_); refine a_bx HM ?_; clear HM; intro bk w1 HM) | ((with_reducible refine g_bld ?_); refine a_bld ?_)))
  go_loopw [5, 7] (fun ev iv wr => ∃ (i : Nat) (sv : Value) (B : List (Nat × Array Value)), ev = .int .i64 0 ∧ iv = .int .i64 (i : Nat) ∧ i ≤ l.length ∧ Hid (∀ x ∈ l.take i, Jo.okC x = true) ∧ Hid (SlAt 1 sv (Jo.ir (Jo.srt (Jo.hols (l.take i)))) B) ∧ Mem w [] ((b6, Jo.cc name (Jo.week (l.take i)) sv) :: (b4, Jo.z) :: B) wr) (fun _ iv _ => l.length - (intOf iv).toNat)
  case atStart => exact ⟨0, .slice none 0 0, [], rfl, rfl, by omega, Lib.hid (by simp), Lib.hid .nil, HM⟩
  case round =>
    clear HM
    obtain ⟨i, sv, B, rfl, rfl, hi, HOK, HO, HM⟩ := hrel
    by_cases hit : i < l.length
    · have hit1 : (i : Int) < l.length := by omega
      obtain ⟨x, hx⟩ : ∃ x, l[i]? = some x := ⟨_, List.getElem?_eq_getElem hit⟩
      have HX := Lib.hid hx
      obtain ⟨bl, ol, csl, rfl, HRB, kl, kW, kH⟩ := HR.out.at_ hx
      obtain ⟨hxA, hxl⟩ := HR.out.hol x (List.mem_of_getElem? hx)
      obtain ⟨r1, hr1⟩ : ∃ r1, Hid (r1 = Cl.chk x.s x.k x.hs) := ⟨_, Lib.hid rfl⟩
      have C := fun w' (hB : Below w.heap.size w w') => rCheck_c x w' (hxA.below hB) hxl r1 hr1
      have HXA := Lib.hid hxA
      have HKW := Lib.hid kW
      replace kH : LA 22 csl (ol + i * 9 + 8) (.slice x.A x.hs.length x.c) := kH
      clear hx hxA kW
      by_cases hok : Jo.okC x = true
      · obtain rfl : r1 = 0 := by rw [hr1.out, Jo.chk_ok hok]
        have HOKX := Lib.hid hok
        clear hok hr1
        go_wp2_with (first | (go_at_call 17; ((with_reducible refine (C _ HM.low).mono ?_); rintro e9 w2 ⟨rfl, hL⟩; replace HM := HM.call hL; clear hL)) | (first | ((with_reducible refine g_ld ?_); refine a_ld HM ?_) | ((with_reducible refine g_st ?_); refine a_st HM ?_; clear HM; intro w1 HM) | ((with_reducible refine g_al ?_); refine a_al HM ?_; clear HM; intro bk w1 HM) | ((with_reducible refine g_bx ?_); refine a_bx HM ?_; clear HM; intro bk w1 HM) | ((with_reducible refine g_bld ?_); refine a_bld ?_)))
        clear C
        go_loopw [8] (fun jv wr2 => ∃ j : Nat, jv = .int .i64 (j : Nat) ∧ j ≤ 7 ∧ Mem w [] ((b6, Jo.cc name (Jo.wm (Jo.week (l.take (i + 1))) (Jo.week (l.take i)) j) sv) :: (b4, Jo.z) :: B) wr2) (fun jv _ => 7 - (intOf jv).toNat)
        case atStart => exact ⟨0, rfl, by omega, by rw [Jo.wm_zero]; exact HM⟩
        case round =>
          clear HM
          obtain ⟨j, rfl, hj, HM⟩ := hrel
          by_cases hjt : j < 7
          · have hjt1 : (j : Int) < 7 := by omega
            have hwk : Jo.week (l.take (i + 1)) j = (Jo.week (l.take i) j || x.k j) := by rw [Jo.take_ok HX.out, Jo.week_add]
            have kd := la_cday name (Jo.wm (Jo.week (l.take (i + 1))) (Jo.week (l.take i)) j) sv hjt
            rw [Jo.wm_at] at kd
            have ke := HKW.out j hjt
            have ke2 := ke
            rw [← Nat.add_assoc] at ke2
            obtain ⟨z, hz2⟩ : ∃ z, Jo.week (l.take i) j = z := ⟨_, rfl⟩
            rw [hz2] at hwk kd
            cases z
            · have sd := sa_wm name (Jo.week (l.take (i + 1))) (Jo.week (l.take i)) sv hjt (z := x.k j) (by rw [hwk]; rfl)
              clear hz2 hwk
              go_wp2_with (first | fail | (first | ((with_reducible refine g_ld ?_); refine a_ld HM ?_) | ((with_reducible refine g_st ?_); refine a_st HM ?_; clear HM; intro w1 HM) | ((with_reducible refine g_al ?_); refine a_al HM ?_; clear HM; intro bk w1 HM) | ((with_reducible refine g_bx ?_); refine a_bx HM ?_; clear HM; intro bk w1 HM) | ((with_reducible refine g_bld ?_); refine a_bld ?_)))
              go_roundw
              case rel => exact ⟨j + 1, by go_num, by omega, HM⟩
              case measure => simp [intOf]; omega
            · have sd := sa_wm name (Jo.week (l.take (i + 1))) (Jo.week (l.take i)) sv hjt (z := true) (by rw [hwk]; rfl)
              clear hz2 hwk ke ke2
              go_wp2_with (first | fail | (first | ((with_reducible refine g_ld ?_); refine a_ld HM ?_) | ((with_reducible refine g_st ?_); refine a_st HM ?_; clear HM; intro w1 HM) | ((with_reducible refine g_al ?_); refine a_al HM ?_; clear HM; intro bk w1 HM) | ((with_reducible refine g_bx ?_); refine a_bx HM ?_; clear HM; intro bk w1 HM) | ((with_reducible refine g_bld ?_); refine a_bld ?_)))
              go_roundw
              case rel => exact ⟨j + 1, by go_num, by omega, HM⟩
              case measure => simp [intOf]; omega
          · obtain rfl : j = 7 := by omega
            rw [Jo.wm_done] at HM
            clear HKW
            obtain ⟨hpw, hx2⟩ := Jo.valid_pw HOKX.out
            obtain ⟨A2, c2, rfl, _⟩ := HO.out.val
            rw [Jo.ir_len] at HM
            have hhl : (Jo.hols (l.take i)).length ≤ 16000 := by
              have := Jo.hols_len fun y hy => (Jo.valid_pw (HOK.out y hy)).2
              rw [List.length_take] at this
              have h9 : min i l.length ≤ 8 := by omega
              have := Nat.mul_le_mul_right 2000 h9
              omega
            have hsl : (Jo.srt (Jo.hols (l.take i))).length ≤ 100000 := by have := Jo.srt_le (Jo.hols (l.take i)); omega
            have M := fun w' (HM : Mem w [] ((b6, Jo.cc name (Jo.week (l.take (i + 1))) (.slice A2 (Jo.srt (Jo.hols (l.take i))).length c2)) :: (b4, Jo.z) :: B) w') => merge_any A2 x.A (Jo.srt (Jo.hols (l.take i))) x.hs (Jo.hols (l.take (i + 1))) c2 x.c w' (rdS_ints (HO.out.rd HM (fun p hp => by simp [hp]))).2 (HXA.out.below HM.low) Jo.pw_srt hpw hsl (by omega) (fun y => by rw [Jo.take_ok HX.out, Jo.hols_add, List.mem_append, Jo.mem_srt])
            have ka := la_chol name (Jo.week (l.take (i + 1))) (.slice A2 (Jo.srt (Jo.hols (l.take i))).length c2)
            clear hhl hsl hpw hx2
            go_upto_region 13 with (first | fail | (first | ((with_reducible refine g_ld ?_); refine a_ld HM ?_) | ((with_reducible refine g_st ?_); refine a_st HM ?_; clear HM; intro w1 HM) | ((with_reducible refine g_al ?_); refine a_al HM ?_; clear HM; intro bk w1 HM) | ((with_reducible refine g_bx ?_); refine a_bx HM ?_; clear HM; intro bk w1 HM) | ((with_reducible refine g_bld ?_); refine a_bld ?_)))
            refine start_M2 [9] HM ((Sub.keep (Sub.keep Sub.nil))) (by kernel_rfl) (fun w0x H9 => ?_)
            replace HM := H9; clear H9
            refine k_fa 0 (heldF HM) ?_
            refine k_ld 1 [7, 8, 9] (heldF HM) ?_
            refine k_mv 2 (heldF HM) ?_
            refine k_mv 3 (heldF HM) ?_
            refine k_ia 4 (heldF HM) ?_
            refine k_fa 5 (heldF HM) ?_
            refine k_ld 6 [7, 8, 9] (heldF HM) ?_
            refine j_one 7 fun K9 hK9 => ?_
            refine o_callg (M _ HM) rfl ?_ ?_; (focus (refine h_call2 (ts := ?_) (x1 := ?_) (x2 := ?_) ?_ (by kernel_rfl) ?_ ?_; rotate_left 3; (focus rfl); (focus rfl); rfl)); rintro e9 w1 ⟨s2, B2, rfl, HS2, HM1⟩; have HM2 : Mem w [] ((b6, Jo.cc name (Jo.week (l.take (i + 1))) (.slice A2 (Jo.srt (Jo.hols (l.take i))).length c2)) :: (b4, Jo.z) :: B2) w1 := (HM.join HM1).instead; clear HM HM1; have HM := HM2; clear HM2; obtain ⟨A3, c3, rfl, _⟩ := HS2.val; have s8 := sa_chol name (Jo.week (l.take (i + 1))) (.slice A2 (Jo.srt (Jo.hols (l.take i))).length c2) (u := .slice A3 (Jo.ir (Jo.srt (Jo.hols (l.take (i + 1))))).length c3) rfl; refine ⟨_, rfl, ?_⟩
            refine hK9 _ _ (heldF HM) ?_; clear hK9 K9; ((try simp only [List.setIfInBounds_toArray]); (try simp only [List.set_cons_succ]); (try simp only [List.set_cons_zero]))
            refine k_fa 8 (heldF HM) ?_
            refine j_one 9 fun K9 hK9 => ?_
            refine j_st HM ?_; clear HM; intro w1 HM
            refine hK9 _ _ heldN ?_; clear hK9 K9
            refine wpAnyL_done (by kernel_rfl) ?_ _
            go_wp2_with fail
            go_roundw
            case rel => exact ⟨i + 1, _, B2, rfl, by go_num, by omega, Lib.hid (fun y hy => by
              rw [Jo.take_ok HX.out] at hy
              rcases List.mem_append.1 hy with hy | hy
              · exact HOK.out y hy
              · rw [List.mem_singleton.1 hy]; exact HOKX.out), Lib.hid HS2, HM⟩
            case measure => simp [intOf]; omega
      · obtain rfl : r1 = 80 := by rw [hr1.out, Jo.chk_no hok]
        have he := Jo.err_bad (name := name) (Jo.bad_at HX.out hok)
        obtain rfl : r = 80 := by rw [hr.out, he]
        have HOU := Lib.hid (Jo.out_bad (name := name) (l := l) (by rw [he]; decide))
        clear he hr hr1 hok
        go_wp2_with (first | first | (go_at_call 17; ((with_reducible refine (C _ HM.low).mono ?_); rintro e9 w2 ⟨rfl, hL⟩; replace HM := HM.call hL; clear hL)) | ((with_reducible refine gj_bld ?_); refine a_jbl ?_ (h_jb0 rfl Jo.build0)) | (first | ((with_reducible refine g_ld ?_); refine a_ld HM ?_) | ((with_reducible refine g_st ?_); refine a_st HM ?_; clear HM; intro w1 HM) | ((with_reducible refine g_al ?_); refine a_al HM ?_; clear HM; intro bk w1 HM) | ((with_reducible refine g_bx ?_); refine a_bx HM ?_; clear HM; intro bk w1 HM) | ((with_reducible refine g_bld ?_); refine a_bld ?_)))
        refine bodyPost_ret (jr_ct (b := b4) (k := 0) rfl rfl (HM.get (by ((repeat (first | exact Look.here | refine Look.there ?_)); done))) Jo.la_z) rfl ⟨Jo.C0, [], HOU.out, rfl, by decide, Lib.hid .nil, HM.pick⟩
    · obtain rfl : l.length = i := by omega
      rw [List.take_of_length_le (Nat.le_refl _)] at HOK HO HM
      have he := Jo.err_ok (name := name) h0 h8 HOK.out
      obtain ⟨A2, c2, rfl, _⟩ := HO.out.val
      rw [Jo.ir_len] at HM
      have hhl : (Jo.hols l).length ≤ 16000 := by
        have := Jo.hols_len fun y hy => (Jo.valid_pw (HOK.out y hy)).2
        omega
      have hln : (Jo.srt (Jo.hols l)).length ≤ 9223372036854775807 := by have := Jo.srt_le (Jo.hols l); omega
      have HL5 : Hid ((Jo.srt (Jo.hols l)).length ≤ 100000) := Lib.hid (by have := Jo.srt_le (Jo.hols l); omega)
      have C := fun w' (HM : Mem w [] ((b6, Jo.cc name (Jo.week l) (.slice A2 (Jo.srt (Jo.hols l)).length c2)) :: (b4, Jo.z) :: B) w') => rCheck_v name (Jo.week l) (Jo.srt (Jo.hols l)) A2 c2 w' (rdS_ints (HO.out.rd HM (fun p hp => by simp [hp]))).2 hln r (Lib.hid (by rw [hr.out, he]))
      have k6 := la_cc name (Jo.week l) (.slice A2 (Jo.srt (Jo.hols l)).length c2)
      have s4 := sa_cc name (Jo.week l) (.slice A2 (Jo.srt (Jo.hols l)).length c2) Jo.z rfl rfl
      clear he HOK hhl hln
      by_cases hr0 : r = 0
      · subst hr0
        have HOU : Hid (Jo.out name l = (name, Jo.week l, Jo.srt (Jo.hols l))) := Lib.hid (by unfold Jo.out; rw [if_pos hr.out.symm])
        clear hr
        go_wp2_with (first | (go_at_call 17; ((with_reducible refine (C _ HM).mono ?_); rintro e9 w2 ⟨rfl, hL⟩; replace HM := HM.call hL; clear hL)) | (first | ((with_reducible refine g_ld ?_); refine a_ld HM ?_) | ((with_reducible refine g_st ?_); refine a_st HM ?_; clear HM; intro w1 HM) | ((with_reducible refine g_al ?_); refine a_al HM ?_; clear HM; intro bk w1 HM) | ((with_reducible refine g_bx ?_); refine a_bx HM ?_; clear HM; intro bk w1 HM) | ((with_reducible refine g_bld ?_); refine a_bld ?_)))
        refine bodyPost_ret (jr_ct (b := b4) (k := 0) rfl rfl (HM.get (by ((repeat (first | exact Look.here | refine Look.there ?_)); done))) k6) rfl ⟨⟨name, Jo.week l, Jo.srt (Jo.hols l), A2, c2⟩, B, HOU.out, rfl, HL5.out, Lib.hid (by have := HO.out; rw [Jo.ir_len] at this; exact this), HM.pick⟩
      · have HOU := Lib.hid (Jo.out_bad (name := name) (l := l) (by rw [← hr.out]; exact hr0))
        have hrb : (r == 0) = false := beq_eq_false_iff_ne.2 hr0
        have hr80 : r = 80 := by
          have := hr.out
          rw [this]
          unfold Jo.err at this ⊢
          split
          · rfl
          · rename_i hb
            rw [if_neg hb] at this
            unfold Cl.chk at this ⊢
            split at this
            · exact absurd this hr0
            · rename_i h3; rw [if_neg h3]
        have HR80 := Lib.hid hr80
        clear hr80
        go_wp2_with (first | first | (go_at_call 17; ((with_reducible refine (C _ HM).mono ?_); rintro e9 w2 ⟨rfl, hL⟩; replace HM := HM.call hL; clear hL)) | ((with_reducible refine gj_bld ?_); refine a_jbl ?_ (h_jb0 rfl Jo.build0)) | (first | ((with_reducible refine g_ld ?_); refine a_ld HM ?_) | ((with_reducible refine g_st ?_); refine a_st HM ?_; clear HM; intro w1 HM) | ((with_reducible refine g_al ?_); refine a_al HM ?_; clear HM; intro bk w1 HM) | ((with_reducible refine g_bx ?_); refine a_bx HM ?_; clear HM; intro bk w1 HM) | ((with_reducible refine g_bld ?_); refine a_bld ?_)))
        refine bodyPost_ret (jr_ct (b := b4) (k := 0) rfl rfl (HM.get (by ((repeat (first | exact Look.here | refine Look.there ?_)); done))) Jo.la_z) rfl ⟨Jo.C0, [], HOU.out, by rw [HR80.out]; rfl, by decide, Lib.hid .nil, HM.pick⟩
end Go.Proofs.Ytaokneooejbfkaa
