/- Join of the program, walked. -/
import Derived.Test.YtaokneooejbfkaaJoC
import Derived.Test.YtaokneooejbfkaaJoS
import Derived.WalkMore
namespace Go.Proofs.Ytaokneooejbfkaa
set_option maxRecDepth 8000
open Go.RowKit Go.Maps
theorem cCheck_v (s : ByteArray) (k : Nat → Bool) (hs : List Int) (A : Option Addr) (c : Nat) (w : World) (hA : IntsAt w A hs) (hl : hs.length ≤ 9223372036854775807) (r : Int) (hr : Hid (r = Cl.chk s k hs)) :
    Calls Try.prog 15 #[.agg (Jo.cc s k (.slice A hs.length c))] w fun e w' => e = .returned (.int .i64 r) ∧ Below w.heap.size w w' := cCheck_c ⟨s, k, hs, A, c⟩ w hA hl r hr
set_option maxHeartbeats 8000000 in
theorem cjoin_any (name : ByteArray) (sv : Value) (l : List Jo.C) (w : World) (hR : Jo.Rd w sv l) (r : Int) (hr : Hid (r = Jo.err name l)) :
    Calls Try.prog 6 #[.string name, sv] w fun e w' => ∃ (x : Jo.C) (B : List (Nat × Array Value)), Jo.out name l = (x.s, x.k, x.hs) ∧ e = .returned (.tuple #[.agg x.cells, .int .i64 r]) ∧ x.hs.length ≤ 100000 ∧ Hid (SlAt 1 x.v (Jo.ir x.hs) B) ∧ Mem w [] B w' := by
  have HM := Mem.start w
  have HR := Lib.hid hR
  obtain ⟨A, cap, rfl⟩ := hR.form
  have hz := za_cc
  have hsz := Jo.sa_z
  have eli : elemB 22 3 1 8 = true := by kernel_rfl
  have hmm := @run_makeMap Try.prog
  clear hR
  by_cases hl : l.length = 0 ∨ 8 < l.length
  · have he := Jo.err_bad (name := name) (Jo.bad_len hl)
    obtain rfl : r = 80 := by rw [hr.out, he]
    have HO := Lib.hid (Jo.out_bad (name := name) (l := l) (by rw [he]; decide))
    clear he hr
    rcases hl with h0 | h8
    · have h1 : (l.length : Int) = 0 := by omega
      clear h0
      go_enter Try.func6, Try.ntmps6
      go_wp2_with (first | ((with_reducible refine gj_bld ?_); refine a_jbl ?_ (h_jb0 rfl Jo.build0)) | (first | ((with_reducible refine g_ld ?_); refine a_ld HM ?_) | ((with_reducible refine g_st ?_); refine a_st HM ?_; clear HM; intro w1 HM) | ((with_reducible refine g_al ?_); refine a_al HM ?_; clear HM; intro bk w1 HM) | ((with_reducible refine g_bx ?_); refine a_bx HM ?_; clear HM; intro bk w1 HM) | ((with_reducible refine g_bld ?_); refine a_bld ?_)))
      refine bodyPost_ret (jr_ct (k := 0) rfl rfl (HM.get (by ((repeat (first | exact Look.here | refine Look.there ?_)); done))) Jo.la_z) rfl ⟨Jo.C0, [], HO.out, rfl, by decide, Lib.hid .nil, HM.pick⟩
    · have h1 : ((l.length : Int) == 0) = false := beq_eq_false_iff_ne.2 (by omega)
      have h2 : (8 : Int) < l.length := by omega
      go_enter Try.func6, Try.ntmps6
      go_wp2_with (first | ((with_reducible refine gj_bld ?_); refine a_jbl ?_ (h_jb0 rfl Jo.build0)) | (first | ((with_reducible refine g_ld ?_); refine a_ld HM ?_) | ((with_reducible refine g_st ?_); refine a_st HM ?_; clear HM; intro w1 HM) | ((with_reducible refine g_al ?_); refine a_al HM ?_; clear HM; intro bk w1 HM) | ((with_reducible refine g_bx ?_); refine a_bx HM ?_; clear HM; intro bk w1 HM) | ((with_reducible refine g_bld ?_); refine a_bld ?_)))
      refine bodyPost_ret (jr_ct (k := 0) rfl rfl (HM.get (by ((repeat (first | exact Look.here | refine Look.there ?_)); done))) Jo.la_z) rfl ⟨Jo.C0, [], HO.out, rfl, by decide, Lib.hid .nil, HM.pick⟩
  have h0 : 0 < l.length := by omega
  have h8 : l.length ≤ 8 := by omega
  have h1 : ((l.length : Int) == 0) = false := beq_eq_false_iff_ne.2 (by omega)
  have h2 : ¬ (8 : Int) < l.length := by omega
  have s0 := sa_cc name Jo.zk (.slice none 0 0) Jo.z rfl rfl
  clear hl
  go_enter Try.func6, Try.ntmps6
  go_upto_region 5 with (first | ((with_reducible refine gj_bld ?_); refine a_jbl ?_ (h_jb1 rfl (by (conv => lhs; whnf) <;> rfl) (Jo.build1 name))) | (first | ((with_reducible refine g_ld ?_); refine a_ld HM ?_) | ((with_reducible refine g_st ?_); refine a_st HM ?_; clear HM; intro w1 HM) | ((with_reducible refine g_al ?_); refine a_al HM ?_; clear HM; intro bk w1 HM) | ((with_reducible refine g_bx ?_); refine a_bx HM ?_; clear HM; intro bk w1 HM) | ((with_reducible refine g_bld ?_); refine a_bld ?_)))
  clear s0 hmm
  obtain ⟨b6, rfl⟩ := HM.nm0
  obtain ⟨b4, rfl⟩ := HM.nm1
  have HB0 := JMap.made w1
  have hne0 : ∀ p ∈ [(b6, Jo.cc name Jo.zk (.slice none 0 0)), (b4, Jo.z)], p.1 ≠ w1.heap.size := fun p hp => by
    have := (HM.blk p hp).lt; omega
  have hble : w.heap.size ≤ w1.heap.size := HM.only.size
  replace HM := HM.call (below_new w1 (.map #[] 0))
  obtain ⟨bm, hbm⟩ : ∃ x, x = w1.heap.size := ⟨_, rfl⟩
  rw [← hbm] at HB0 hne0 hble ⊢
  clear hbm
  have HNE0 := Lib.hid hne0
  clear hne0
  go_wp2_with (first | fail | (first | ((with_reducible refine g_ld ?_); refine a_ld HM ?_) | ((with_reducible refine g_st ?_); refine a_st HM ?_; clear HM; intro w1 HM) | ((with_reducible refine g_al ?_); refine a_al HM ?_; clear HM; intro bk w1 HM) | ((with_reducible refine g_bx ?_); refine a_bx HM ?_; clear HM; intro bk w1 HM) | ((with_reducible refine g_bld ?_); refine a_bld ?_)))
  go_loopw [5, 30] (fun ev iv wr => ∃ (i : Nat) (acc : List Int) (sv : Value) (B : List (Nat × Array Value)), ev = .int .i64 0 ∧ iv = .int .i64 (i : Nat) ∧ i ≤ l.length ∧ Hid (∀ x ∈ l.take i, Jo.okC x = true) ∧ Hid (acc.Nodup ∧ ∀ x, x ∈ acc ↔ x ∈ Jo.hols (l.take i)) ∧ acc.length ≤ 2000 * i ∧ Hid (SlAt 1 sv (Jo.ir acc) B) ∧ Hid (JMap wr bm acc.length fun x => decide (x ∈ acc)) ∧ Hid (∀ p ∈ (b6, Jo.cc name (Jo.week (l.take i)) sv) :: (b4, Jo.z) :: B, p.1 ≠ bm) ∧ Mem w [] ((b6, Jo.cc name (Jo.week (l.take i)) sv) :: (b4, Jo.z) :: B) wr) (fun _ iv _ => l.length - (intOf iv).toNat)
  case atStart => exact ⟨0, [], .slice none 0 0, [], rfl, rfl, by omega, Lib.hid (by simp), Lib.hid ⟨by simp, by simp [Jo.hols]⟩, by simp, Lib.hid .nil, Lib.hid (HB0.congr fun x => by simp), HNE0, HM⟩
  case round =>
    clear HM HB0 HNE0
    obtain ⟨i, acc, sv, B, rfl, rfl, hi, HOK, HAC, hal, HO, HB, HNE, HM⟩ := hrel
    by_cases hit : i < l.length
    · have hit1 : (i : Int) < l.length := by omega
      obtain ⟨x, hx⟩ : ∃ x, l[i]? = some x := ⟨_, List.getElem?_eq_getElem hit⟩
      have HX := Lib.hid hx
      obtain ⟨bl, ol, csl, rfl, HRB, kl, _, _⟩ := (HR.out.below HM.low).at_ hx
      obtain ⟨hxA, hxl⟩ := HR.out.hol x (List.mem_of_getElem? hx)
      obtain ⟨r1, hr1⟩ : ∃ r1, Hid (r1 = Cl.chk x.s x.k x.hs) := ⟨_, Lib.hid rfl⟩
      have C := fun w' (hB : Below w.heap.size w w') => cCheck_c x w' (hxA.below hB) hxl r1 hr1
      have HXA := Lib.hid hxA
      have s9 : SA 25 Jo.z 0 (.agg x.cells) x.cells := sa_cc x.s x.k x.v Jo.z rfl rfl
      have k9 : LA 25 x.cells 0 (.agg x.cells) := la_cc _ _ _
      have kw : LA 23 x.cells 1 (.agg #[.bool (x.k 0), .bool (x.k 1), .bool (x.k 2), .bool (x.k 3), .bool (x.k 4), .bool (x.k 5), .bool (x.k 6)]) := la_cweek _ _ _
      have kh : LA 22 x.cells 8 (.slice x.A x.hs.length x.c) := la_chol _ _ _
      clear hx hxA
      have HM0 := HM
      replace HM := HM.rebase
      go_upto_region 8 with (first | ((with_reducible refine g_ld ?_); refine a_ldw HRB ?_) | (first | ((with_reducible refine g_ld ?_); refine a_ld HM ?_) | ((with_reducible refine g_st ?_); refine a_st HM ?_; clear HM; intro w1 HM) | ((with_reducible refine g_al ?_); refine a_al HM ?_; clear HM; intro bk w1 HM) | ((with_reducible refine g_bx ?_); refine a_bx HM ?_; clear HM; intro bk w1 HM) | ((with_reducible refine g_bld ?_); refine a_bld ?_)))
      go_upto_region 9 with (first | (go_at_call 15; ((with_reducible refine (C _ (HM0.onto HM).low).mono ?_); rintro e9 w2 ⟨rfl, hL⟩; replace HM := HM.call hL; clear hL)) | (first | ((with_reducible refine g_ld ?_); refine a_ld HM ?_) | ((with_reducible refine g_st ?_); refine a_st HM ?_; clear HM; intro w1 HM) | ((with_reducible refine g_al ?_); refine a_al HM ?_; clear HM; intro bk w1 HM) | ((with_reducible refine g_bx ?_); refine a_bx HM ?_; clear HM; intro bk w1 HM) | ((with_reducible refine g_bld ?_); refine a_bld ?_)))
      clear HRB kl C
      by_cases hok : Jo.okC x = true
      · obtain rfl : r1 = 0 := by rw [hr1.out, Jo.chk_ok hok]
        have HOKX := Lib.hid hok
        clear hok hr1
        go_upto_region 11 with (first | fail | (first | ((with_reducible refine g_ld ?_); refine a_ld HM ?_) | ((with_reducible refine g_st ?_); refine a_st HM ?_; clear HM; intro w1 HM) | ((with_reducible refine g_al ?_); refine a_al HM ?_; clear HM; intro bk w1 HM) | ((with_reducible refine g_bx ?_); refine a_bx HM ?_; clear HM; intro bk w1 HM) | ((with_reducible refine g_bld ?_); refine a_bld ?_)))
        obtain ⟨b9, rfl⟩ := HM.nm0
        go_wp2_with (first | fail | (first | ((with_reducible refine g_ld ?_); refine a_ld HM ?_) | ((with_reducible refine g_st ?_); refine a_st HM ?_; clear HM; intro w1 HM) | ((with_reducible refine g_al ?_); refine a_al HM ?_; clear HM; intro bk w1 HM) | ((with_reducible refine g_bx ?_); refine a_bx HM ?_; clear HM; intro bk w1 HM) | ((with_reducible refine g_bld ?_); refine a_bld ?_)))
        go_loopw [42] (fun jv wr2 => ∃ j : Nat, jv = .int .i64 (j : Nat) ∧ j ≤ 7 ∧ Mem wr (((b6, Jo.cc name (Jo.week (l.take i)) sv) :: (b4, Jo.z) :: B).map (·.1)) ((b9, x.cells) :: (b6, Jo.cc name (Jo.wm (Jo.week (l.take (i + 1))) (Jo.week (l.take i)) j) sv) :: (b4, Jo.z) :: B) wr2) (fun jv _ => 7 - (intOf jv).toNat)
        case atStart => exact ⟨0, rfl, by omega, by rw [Jo.wm_zero]; exact HM⟩
        case round =>
          clear HM
          obtain ⟨j, rfl, hj, HM⟩ := hrel
          by_cases hjt : j < 7
          · have hjt1 : (j : Int) < 7 := by omega
            have hix := Jo.week_ix x.k hjt
            have hwk : Jo.week (l.take (i + 1)) j = (Jo.week (l.take i) j || x.k j) := by rw [Jo.take_ok HX.out, Jo.week_add]
            have kd := la_cday name (Jo.wm (Jo.week (l.take (i + 1))) (Jo.week (l.take i)) j) sv hjt
            rw [Jo.wm_at] at kd
            obtain ⟨z, hz2⟩ : ∃ z, Jo.week (l.take i) j = z := ⟨_, rfl⟩
            rw [hz2] at hwk kd
            cases z
            · have sd := sa_wm name (Jo.week (l.take (i + 1))) (Jo.week (l.take i)) sv hjt (z := x.k j) (by rw [hwk]; rfl)
              clear hz2 hwk
              go_wp2_with (first | fail | (first | ((with_reducible refine g_ld ?_); refine a_ld HM ?_) | ((with_reducible refine g_st ?_); refine a_st HM ?_; clear HM; intro w1 HM) | ((with_reducible refine g_al ?_); refine a_al HM ?_; clear HM; intro bk w1 HM) | ((with_reducible refine g_bx ?_); refine a_bx HM ?_; clear HM; intro bk w1 HM) | ((with_reducible refine g_bld ?_); refine a_bld ?_)))
              go_roundw
              case rel => exact ⟨j + 1, by go_num, by omega, HM⟩
              case measure => simp [intOf]; omega
            · have sd := sa_wm name (Jo.week (l.take (i + 1))) (Jo.week (l.take i)) sv hjt (z := true) (by rw [hwk]; rfl)
              clear hz2 hwk
              go_wp2_with (first | fail | (first | ((with_reducible refine g_ld ?_); refine a_ld HM ?_) | ((with_reducible refine g_st ?_); refine a_st HM ?_; clear HM; intro w1 HM) | ((with_reducible refine g_al ?_); refine a_al HM ?_; clear HM; intro bk w1 HM) | ((with_reducible refine g_bx ?_); refine a_bx HM ?_; clear HM; intro bk w1 HM) | ((with_reducible refine g_bld ?_); refine a_bld ?_)))
              go_roundw
              case rel => exact ⟨j + 1, by go_num, by omega, HM⟩
              case measure => simp [intOf]; omega
          · obtain rfl : j = 7 := by omega
            rw [Jo.wm_done] at HM
            have HB1 := Lib.hid (HB.out.kept (HM.besideK HB.out.lt HNE.out))
            have HNE1 := Lib.hid (HM.beside HB.out.lt HNE.out)
            replace HM := HM0.onto HM
            clear HM0 HB HNE s9 k9 kw
            obtain ⟨hpw, hx2⟩ := Jo.valid_pw HOKX.out
            have HPW := Lib.hid hpw
            clear hpw
            go_wp2_with (first | fail | (first | ((with_reducible refine g_ld ?_); refine a_ld HM ?_) | ((with_reducible refine g_st ?_); refine a_st HM ?_; clear HM; intro w1 HM) | ((with_reducible refine g_al ?_); refine a_al HM ?_; clear HM; intro bk w1 HM) | ((with_reducible refine g_bx ?_); refine a_bx HM ?_; clear HM; intro bk w1 HM) | ((with_reducible refine g_bld ?_); refine a_bld ?_)))
            go_loopw [60] (fun kv wr2 => ∃ (q : Nat) (acc : List Int) (sv : Value) (B : List (Nat × Array Value)), kv = .int .i64 (q : Nat) ∧ q ≤ x.hs.length ∧ Hid (acc.Nodup ∧ ∀ y, y ∈ acc ↔ y ∈ Jo.hols (l.take i) ∨ y ∈ x.hs.take q) ∧ acc.length ≤ 2000 * i + q ∧ Hid (SlAt 1 sv (Jo.ir acc) B) ∧ Hid (JMap wr2 bm acc.length fun x => decide (x ∈ acc)) ∧ Hid (∀ p ∈ (b9, x.cells) :: (b6, Jo.cc name (Jo.week (l.take (i + 1))) sv) :: (b4, Jo.z) :: B, p.1 ≠ bm) ∧ Mem w [] ((b9, x.cells) :: (b6, Jo.cc name (Jo.week (l.take (i + 1))) sv) :: (b4, Jo.z) :: B) wr2) (fun kv _ => x.hs.length - (intOf kv).toNat)
            case atStart => exact ⟨0, acc, sv, B, rfl, by omega, Lib.hid (by simpa using HAC.out), by omega, HO, HB1, HNE1, HM⟩
            case round =>
              clear HM HB1 HNE1 HAC HO hal
              obtain ⟨q, acc, sv, B, rfl, hq, HAC, hal, HO, HB, HNE, HM⟩ := hrel
              by_cases hqt : q < x.hs.length
              · have hqt1 : (q : Int) < x.hs.length := by omega
                obtain ⟨d, hd⟩ : ∃ d, x.hs[q]? = some d := ⟨_, List.getElem?_eq_getElem hqt⟩
                obtain ⟨bd, od, csd, ed, HRD, kd⟩ := (HXA.out.below HM.low).ld hd
                obtain ⟨hd0, hd1⟩ := Jo.ok_day HOKX.out d (List.mem_of_getElem? hd)
                have hwf := Jo.wf_day hd0 hd1
                have HD := Lib.hid hd
                rw [ed]
                by_cases hin : d ∈ acc
                · have hdin : decide (d ∈ acc) = true := decide_eq_true hin
                  have HIN := Lib.hid hin
                  clear hin hd ed hd0 hd1
                  go_wp2_with (first | first | ((with_reducible refine g_ld ?_); refine a_ldw HRD ?_) | ((with_reducible refine g_lkb ?_); refine a_lkb true HB.out hwf hdin ?_) | (first | ((with_reducible refine g_ld ?_); refine a_ld HM ?_) | ((with_reducible refine g_st ?_); refine a_st HM ?_; clear HM; intro w1 HM) | ((with_reducible refine g_al ?_); refine a_al HM ?_; clear HM; intro bk w1 HM) | ((with_reducible refine g_bx ?_); refine a_bx HM ?_; clear HM; intro bk w1 HM) | ((with_reducible refine g_bld ?_); refine a_bld ?_)))
                  go_roundw
                  case rel => exact ⟨q + 1, acc, sv, B, by go_num, by omega, Lib.hid ⟨HAC.out.1, fun y => by
                    rw [HAC.out.2 y, List.take_add_one, HD.out, List.mem_append]
                    constructor
                    · rintro (h | h) <;> simp [h]
                    · rintro (h | h | h)
                      · exact .inl h
                      · exact .inr h
                      · simp at h; subst h; exact (HAC.out.2 y).1 HIN.out⟩, by omega, HO, HB, HNE, HM⟩
                  case measure => simp [intOf]; omega
                · have hdin : decide (d ∈ acc) = false := decide_eq_false hin
                  have HIN := Lib.hid hin
                  clear hin hd ed hd0 hd1
                  go_upto_region 21 with (first | first | ((with_reducible refine g_ld ?_); refine a_ldw HRD ?_) | ((with_reducible refine g_lkb ?_); refine a_lkb false HB.out hwf hdin ?_) | ((with_reducible refine g_updb ?_); refine a_updb HB.out (by omega) hwf ?_; intro w1 HB2 hg) | (first | ((with_reducible refine g_ld ?_); refine a_ld HM ?_) | ((with_reducible refine g_st ?_); refine a_st HM ?_; clear HM; intro w1 HM) | ((with_reducible refine g_al ?_); refine a_al HM ?_; clear HM; intro bk w1 HM) | ((with_reducible refine g_bx ?_); refine a_bx HM ?_; clear HM; intro bk w1 HM) | ((with_reducible refine g_bld ?_); refine a_bld ?_)))
                  have HM1 := HM.side hg hble HNE.out
                  have HB3 := Lib.hid HB2
                  clear HM hg HB2 HB HRD kd hdin
                  have HM := HM1.rebase
                  have ka := la_chol name (Jo.week (l.take (i + 1))) sv
                  have hcap : ((Jo.ir acc).length + [#[Value.int .i64 d]].length) * (8 + 1) ≤ 140737488355328 := by rw [Jo.ir_len]; simp; omega
                  have hone : ∀ c ∈ [#[Value.int .i64 d]], c.all (·.oneCell') = true := Jo.ir_one [d]
                  go_wp2_with (first | first | ((with_reducible refine g_bs1 ?_); refine a_bs1 (c0 := #[.int .i64 d]) HM ?_; clear HM; intro bx w1 HM) | ((with_reducible refine g_app ?_); refine a_app (m := [#[.int .i64 d]]) (F := fun X => (b9, x.cells) :: (b6, Jo.cc name (Jo.week (l.take (i + 1))) sv) :: (b4, Jo.z) :: X) HM HO.out ((SlAt.made1 bx rfl).rd HM (by simp)) ?_ hone (hlen := hcap); clear HM; intro s2 B2 w1 HS2 HM; obtain ⟨A2, c2, rfl, _⟩ := HS2.val; have s8 := sa_chol name (Jo.week (l.take (i + 1))) sv (u := .slice A2 (Jo.ir acc ++ [#[Value.int .i64 d]]).length c2) rfl) | (first | ((with_reducible refine g_ld ?_); refine a_ld HM ?_) | ((with_reducible refine g_st ?_); refine a_st HM ?_; clear HM; intro w1 HM) | ((with_reducible refine g_al ?_); refine a_al HM ?_; clear HM; intro bk w1 HM) | ((with_reducible refine g_bx ?_); refine a_bx HM ?_; clear HM; intro bk w1 HM) | ((with_reducible refine g_bld ?_); refine a_bld ?_)))
                  have HB4 := Lib.hid (HB3.out.kept (HM.besideK HB3.out.lt HNE.out))
                  have HNE4 := Lib.hid (HM.beside HB3.out.lt HNE.out)
                  replace HM := HM1.onto HM
                  clear HM1 HB3
                  go_roundw
                  case rel => exact ⟨q + 1, acc ++ [d], _, B2, by go_num, by omega, Lib.hid ⟨List.nodup_append.2 ⟨HAC.out.1, by simp, fun a ha b hb e => by rw [List.mem_singleton.1 hb] at e; exact HIN.out (e ▸ ha)⟩, fun y => by
                    rw [List.mem_append, HAC.out.2 y, List.take_add_one, HD.out, List.mem_append]
                    simp only [Option.toList_some, List.mem_singleton, or_assoc]⟩, by simp; omega, Lib.hid (by rw [Jo.ir_app]; exact HS2), Lib.hid ((HB4.out.mono (by simp)).congr fun y => by by_cases e : y = d <;> simp [e]), HNE4, HM⟩
                  case measure => simp [intOf]; omega
              · obtain rfl : x.hs.length = q := by omega
                rw [List.take_of_length_le (Nat.le_refl _)] at HAC
                go_wp2_with (first | fail | (first | ((with_reducible refine g_ld ?_); refine a_ld HM ?_) | ((with_reducible refine g_st ?_); refine a_st HM ?_; clear HM; intro w1 HM) | ((with_reducible refine g_al ?_); refine a_al HM ?_; clear HM; intro bk w1 HM) | ((with_reducible refine g_bx ?_); refine a_bx HM ?_; clear HM; intro bk w1 HM) | ((with_reducible refine g_bld ?_); refine a_bld ?_)))
                go_roundw
                case rel => exact ⟨i + 1, acc, sv, B, rfl, by go_num, by omega, Lib.hid (fun y hy => by
                  rw [Jo.take_ok HX.out] at hy
                  rcases List.mem_append.1 hy with hy | hy
                  · exact HOK.out y hy
                  · rw [List.mem_singleton.1 hy]; exact HOKX.out), Lib.hid ⟨HAC.out.1, fun y => by rw [HAC.out.2 y, Jo.take_ok HX.out, Jo.hols_add, List.mem_append]⟩, by omega, HO, HB, Lib.hid (fun p hp => HNE.out p (List.mem_cons_of_mem _ hp)), HM.tail⟩
                case measure => simp [intOf]; omega
      · obtain rfl : r1 = 80 := by rw [hr1.out, Jo.chk_no hok]
        have he := Jo.err_bad (name := name) (Jo.bad_at HX.out hok)
        obtain rfl : r = 80 := by rw [hr.out, he]
        have HOU := Lib.hid (Jo.out_bad (name := name) (l := l) (by rw [he]; decide))
        clear he hr hr1 hok
        go_wp2_with (first | ((with_reducible refine gj_bld ?_); refine a_jbl ?_ (h_jb0 rfl Jo.build0)) | (first | ((with_reducible refine g_ld ?_); refine a_ld HM ?_) | ((with_reducible refine g_st ?_); refine a_st HM ?_; clear HM; intro w1 HM) | ((with_reducible refine g_al ?_); refine a_al HM ?_; clear HM; intro bk w1 HM) | ((with_reducible refine g_bx ?_); refine a_bx HM ?_; clear HM; intro bk w1 HM) | ((with_reducible refine g_bld ?_); refine a_bld ?_)))
        replace HM := HM0.onto HM
        refine bodyPost_ret (jr_ct (b := b4) (k := 0) rfl rfl (HM.get (by ((repeat (first | exact Look.here | refine Look.there ?_)); done))) Jo.la_z) rfl ⟨Jo.C0, [], HOU.out, rfl, by decide, Lib.hid .nil, HM.pick⟩
    · obtain rfl : l.length = i := by omega
      rw [List.take_of_length_le (Nat.le_refl _)] at HOK HAC HNE HM
      have he := Jo.err_ok (name := name) h0 h8 HOK.out
      have ka := la_chol name (Jo.week l) sv
      have hS := sortJ_any [(b6, Jo.cc name (Jo.week l) sv), (b4, Jo.z)] acc (Jo.hols l) HM HO.out (by omega) HAC.out.1 HAC.out.2
      go_upto_region 25 with (first | (go_at_call 16; refine hS.mono ?_; rintro e9 w2 ⟨rfl, B2, HS2, HM2⟩; replace HM := HM2; clear HM2) | (first | ((with_reducible refine g_ld ?_); refine a_ld HM ?_) | ((with_reducible refine g_st ?_); refine a_st HM ?_; clear HM; intro w1 HM) | ((with_reducible refine g_al ?_); refine a_al HM ?_; clear HM; intro bk w1 HM) | ((with_reducible refine g_bx ?_); refine a_bx HM ?_; clear HM; intro bk w1 HM) | ((with_reducible refine g_bld ?_); refine a_bld ?_)))
      obtain ⟨A2, c2, rfl, _⟩ := HS2.val
      obtain ⟨hl2, hI2⟩ := rdS_ints (HS2.rd HM (fun p hp => by simp [hp]))
      rw [Jo.ir_len] at HM ka ⊢
      have hln : (Jo.srt (Jo.hols l)).length ≤ 9223372036854775807 := by rw [Jo.srt_len HAC.out.1 HAC.out.2]; omega
      have HS3 := Lib.hid HS2
      have HL5 : Hid ((Jo.srt (Jo.hols l)).length ≤ 100000) := Lib.hid (by rw [Jo.srt_len HAC.out.1 HAC.out.2]; omega)
      have C := cCheck_v name (Jo.week l) (Jo.srt (Jo.hols l)) A2 c2 w2 hI2 hln r (Lib.hid (by rw [hr.out, he]))
      have k6 := la_cc name (Jo.week l) (.slice A2 (Jo.srt (Jo.hols l)).length c2)
      have s4 := sa_cc name (Jo.week l) (.slice A2 (Jo.srt (Jo.hols l)).length c2) Jo.z rfl rfl
      have k4 := la_cc name (Jo.week l) (.slice A2 (Jo.srt (Jo.hols l)).length c2)
      clear hI2 hl2 hS HS2 he ka HB HNE HAC HO HOK
      by_cases hr0 : r = 0
      · subst hr0
        have HOU : Hid (Jo.out name l = (name, Jo.week l, Jo.srt (Jo.hols l))) := Lib.hid (by unfold Jo.out; rw [if_pos hr.out.symm])
        clear hr
        go_wp2_with (first | (go_at_call 15; ((with_reducible refine (C).mono ?_); rintro e9 w2 ⟨rfl, hL⟩; replace HM := HM.call hL; clear hL)) | (first | ((with_reducible refine g_ld ?_); refine a_ld HM ?_) | ((with_reducible refine g_st ?_); refine a_st HM ?_; clear HM; intro w1 HM) | ((with_reducible refine g_al ?_); refine a_al HM ?_; clear HM; intro bk w1 HM) | ((with_reducible refine g_bx ?_); refine a_bx HM ?_; clear HM; intro bk w1 HM) | ((with_reducible refine g_bld ?_); refine a_bld ?_)))
        refine bodyPost_ret (jr_ct (b := b4) (k := 0) rfl rfl (HM.get (by ((repeat (first | exact Look.here | refine Look.there ?_)); done))) k4) rfl ⟨⟨name, Jo.week l, Jo.srt (Jo.hols l), A2, c2⟩, B2, HOU.out, rfl, HL5.out, Lib.hid (by have := HS3.out; rw [Jo.ir_len] at this; exact this), HM.pick⟩
      · have HOU := Lib.hid (Jo.out_bad (name := name) (l := l) (by rw [← hr.out]; exact hr0))
        have hrb : (r == 0) = false := beq_eq_false_iff_ne.2 hr0
        go_wp2_with (first | first | (go_at_call 15; ((with_reducible refine (C).mono ?_); rintro e9 w2 ⟨rfl, hL⟩; replace HM := HM.call hL; clear hL)) | ((with_reducible refine gj_bld ?_); refine a_jbl ?_ (h_jb0 rfl Jo.build0)) | (first | ((with_reducible refine g_ld ?_); refine a_ld HM ?_) | ((with_reducible refine g_st ?_); refine a_st HM ?_; clear HM; intro w1 HM) | ((with_reducible refine g_al ?_); refine a_al HM ?_; clear HM; intro bk w1 HM) | ((with_reducible refine g_bx ?_); refine a_bx HM ?_; clear HM; intro bk w1 HM) | ((with_reducible refine g_bld ?_); refine a_bld ?_)))
        refine bodyPost_ret (jr_ct (b := b4) (k := 0) rfl rfl (HM.get (by ((repeat (first | exact Look.here | refine Look.there ?_)); done))) Jo.la_z) rfl ⟨Jo.C0, [], HOU.out, rfl, by decide, Lib.hid .nil, HM.pick⟩
end Go.Proofs.Ytaokneooejbfkaa
