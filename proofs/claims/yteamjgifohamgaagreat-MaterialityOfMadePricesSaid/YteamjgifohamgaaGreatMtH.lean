/- First of the document; Same. -/
import Derived.Test.YteamjgifohamgaaGreatMtG
namespace Go.Proofs.YteamjgifohamgaaGreat
set_option maxRecDepth 8000
open Go.RowKit
set_option maxHeartbeats 4000000 in
theorem rfirst_any (sv : Value) (L : List Mt.D) (l : Option Rat) (cl : Array Value) (w : World) (hv : Rt.Vc l cl) (hR : RdS 135 w sv (L.map Mt.c)) (hl : L.length ≤ 12) (K : List Mt.D) (e : Int) (hr : Hid ((K, e) = Mt.mat l L)) (v : Int) (t : Bool) (e2 : Int) (hf : Hid ((v, t, e2) = Mt.fst3 K e)) :
    Calls Tryz.prog 16 #[sv, .agg cl] w fun r w' => r = .returned (.tuple #[.int .i64 v, .bool t, .int .i64 e2]) ∧ Below w.heap.size w w' := by
  have HM := Mem.start w
  have kl := la_r66 hv.size
  have zd := Mt.za
  have M := fun w hR => rmaterial_any sv L l cl w hv hR hl K e hr
  have HR := Lib.hid hR
  have hKl := Mt.mat_len hr.out
  clear hR
  cases K with
  | nil =>
    obtain ⟨rfl, rfl, rfl⟩ : v = 0 ∧ t = false ∧ e2 = e := by
      have h := hf.out
      unfold Mt.fst3 at h
      simpa using h
    clear hf hr hKl
    by_cases h0 : e2 = 0
    · subst h0
      go_enter Tryz.func16, Tryz.ntmps16
      go_wp2_with (first | (go_at_call 14; (with_reducible refine (M _ (HR.out.below HM.low)).mono ?_); rintro e9 w2 ⟨s1, B1, rfl, HS1, HM1⟩; replace HM := HM.join HM1; clear HM1; obtain ⟨A1, cap1, rfl⟩ := (HS1.out.rd HM (by intro p hp; (repeat (first | exact hp | exact List.mem_append_left _ hp | exact (List.mem_singleton.1 hp) ▸ List.mem_cons_self | apply List.mem_append_right | apply List.mem_cons_of_mem)); done)).form1; rw [List.length_map, List.length_nil]) | (first | ((with_reducible refine g_ld ?_); refine a_ld HM ?_) | ((with_reducible refine g_st ?_); refine a_st HM ?_; clear HM; intro w1 HM) | ((with_reducible refine g_al ?_); refine a_al HM ?_; clear HM; intro bk w1 HM) | ((with_reducible refine g_bx ?_); refine a_bx HM ?_; clear HM; intro bk w1 HM) | ((with_reducible refine g_bld ?_); refine a_bld ?_)))
      go_ret3
      exact ⟨rfl, HM.low⟩
    · have g1 : (e2 == 0) = false := by simpa using h0
      have g2 : (e2 != 0) = true := by simpa using h0
      go_enter Tryz.func16, Tryz.ntmps16
      go_wp2_with (first | (go_at_call 14; (with_reducible refine (M _ (HR.out.below HM.low)).mono ?_); rintro e9 w2 ⟨s1, B1, rfl, HS1, HM1⟩; replace HM := HM.join HM1; clear HM1) | (first | ((with_reducible refine g_ld ?_); refine a_ld HM ?_) | ((with_reducible refine g_st ?_); refine a_st HM ?_; clear HM; intro w1 HM) | ((with_reducible refine g_al ?_); refine a_al HM ?_; clear HM; intro bk w1 HM) | ((with_reducible refine g_bx ?_); refine a_bx HM ?_; clear HM; intro bk w1 HM) | ((with_reducible refine g_bld ?_); refine a_bld ?_)))
      go_ret3
      exact ⟨rfl, HM.low⟩
  | cons d0 r =>
    obtain rfl : e = 0 := Mt.mat_e hr.out
    have hf2 := hf.out
    unfold Mt.fst3 at hf2
    obtain ⟨rfl, rfl, rfl⟩ : v = Mt.mind d0.day (d0 :: r) ∧ t = true ∧ e2 = 0 := by simpa using hf2
    obtain ⟨v, hv9⟩ : ∃ v, Hid (v = Mt.mind d0.day (d0 :: r)) := ⟨_, Lib.hid rfl⟩
    rw [← hv9.out]
    obtain ⟨K, hK⟩ : ∃ K, K = d0 :: r := ⟨_, rfl⟩
    have hd0 : K[0]? = some d0 := by rw [hK]; rfl
    have hKl1 : K.length = r.length + 1 := by rw [hK]; rfl
    rw [← hK] at M hv9 hKl
    clear hf hf2 hr hK
    go_enter Tryz.func16, Tryz.ntmps16
    go_upto_region 4 with (first | (go_at_call 14; (with_reducible refine (M _ (HR.out.below HM.low)).mono ?_); rintro e9 w2 ⟨s1, B1, rfl, HS1, HM1⟩; replace HM := HM.join HM1; clear HM1; obtain ⟨A1, cap1, rfl⟩ := (HS1.out.rd HM (by intro p hp; (repeat (first | exact hp | exact List.mem_append_left _ hp | exact (List.mem_singleton.1 hp) ▸ List.mem_cons_self | apply List.mem_append_right | apply List.mem_cons_of_mem)); done)).form1; rw [List.length_map, hKl1] at HS1; rw [List.length_map, hKl1]) | (first | ((with_reducible refine g_ld ?_); refine a_ld HM ?_) | ((with_reducible refine g_st ?_); refine a_st HM ?_; clear HM; intro w1 HM) | ((with_reducible refine g_al ?_); refine a_al HM ?_; clear HM; intro bk w1 HM) | ((with_reducible refine g_bx ?_); refine a_bx HM ?_; clear HM; intro bk w1 HM) | ((with_reducible refine g_bld ?_); refine a_bld ?_)))
    obtain ⟨b, sp, e1, e2, hsz⟩ := SlAt.inv HS1.out (by intro h; rw [List.map_eq_nil_iff] at h; rw [h] at hKl1; simp at hKl1)
    injection e1 with e1 e3 e4
    subst e1 e2
    replace HM : Mem w [] [(b, rowsOf (K.map Mt.c ++ sp)), (bk, cl)] w2 := HM
    rw [← hKl1] at HS1 ⊢
    have lrow := Lib.hid (fun (i : Nat) (d : Mt.D) (h : K[i]? = some d) => show LA 42 (rowsOf (K.map Mt.c ++ sp)) (i * 135) (.agg (Mt.c d)) ∧ LA 3 (rowsOf (K.map Mt.c ++ sp)) (i * 135) (.int .i64 d.day) from by
      have hrow : (K.map Mt.c ++ sp)[i]? = some (Mt.c d) := by
        have := (List.getElem?_eq_some_iff.1 h).1
        rw [List.getElem?_append_left (by simpa using this), List.getElem?_map, h]; rfl
      have h2 := la_rowone (T := 3) (n := 135) (a := 0) (k := i) (by kernel_rfl) hsz hrow (by decide) (Mt.c_day d)
      rw [Nat.add_zero] at h2
      exact ⟨la_row (k := i) (by kernel_rfl) (by kernel_rfl) hsz hrow, h2⟩)
    have l0 := (lrow.out 0 d0 hd0).2
    rw [Nat.zero_mul] at l0
    have hpos : (0 : Int) < K.length := by omega
    clear HS1 hsz e3 e4 M HR hKl1
    go_wp2_with (first | fail | (first | ((with_reducible refine g_ld ?_); refine a_ld HM ?_) | ((with_reducible refine g_st ?_); refine a_st HM ?_; clear HM; intro w1 HM) | ((with_reducible refine g_al ?_); refine a_al HM ?_; clear HM; intro bk w1 HM) | ((with_reducible refine g_bx ?_); refine a_bx HM ?_; clear HM; intro bk w1 HM) | ((with_reducible refine g_bld ?_); refine a_bld ?_)))
    go_loopw [9, 10] (fun mv iv wr => ∃ (i : Nat) (m : Int), iv = .int .i64 (i : Nat) ∧ mv = .int .i64 m ∧ i ≤ K.length ∧ Hid (v = Mt.mind m (K.drop i)) ∧ Mem w [] [(b, rowsOf (K.map Mt.c ++ sp)), (bk, cl)] wr) (fun _ iv _ => K.length - (intOf iv).toNat)
    case atStart => exact ⟨0, d0.day, rfl, rfl, by omega, by simpa using hv9, HM⟩
    case round =>
      clear HM hv9
      obtain ⟨i, m, rfl, rfl, hi, HV, HM⟩ := hrel
      by_cases hlt : i < K.length
      · obtain ⟨d, hd⟩ : ∃ d, K[i]? = some d := ⟨_, List.getElem?_eq_getElem hlt⟩
        obtain ⟨l1, l2⟩ := lrow.out i d hd
        have hlt1 : (i : Int) < K.length := by omega
        have sd := Mt.sa d (Mt.c_size Mt.zd)
        have ld := (Mt.fday d).la
        have HV2 : Hid (v = Mt.mind (min m d.day) (K.drop (i + 1))) := Lib.hid (by rw [← Mt.mind_step hd]; exact HV.out)
        clear hd
        go_wp2_with (first | fail | (first | ((with_reducible refine g_ld ?_); refine a_ld HM ?_) | ((with_reducible refine g_st ?_); refine a_st HM ?_; clear HM; intro w1 HM) | ((with_reducible refine g_al ?_); refine a_al HM ?_; clear HM; intro bk w1 HM) | ((with_reducible refine g_bx ?_); refine a_bx HM ?_; clear HM; intro bk w1 HM) | ((with_reducible refine g_bld ?_); refine a_bld ?_)))
        go_roundw
        case rel => exact ⟨i + 1, min m d.day, by go_num, rfl, by omega, HV2, HM.pick⟩
        case measure => simp [intOf]; omega
      · obtain rfl : i = K.length := by omega
        obtain rfl : v = m := by rw [HV.out, List.drop_length]; rfl
        go_wp2_with fail
        go_ret3
        exact ⟨rfl, HM.low⟩
theorem Mt.vc_eq {o : Option Rat} {c : Array Value} (h : Rt.Vc o c) : ∃ s M t N, M < Bg.lim ∧ N < Bg.lim ∧ c = Bg.ratA s M t N := by
  cases o with
  | some x => obtain ⟨hx, rfl⟩ := h; exact ⟨_, _, _, _, hx.ln, hx.ld, by rw [qA_rZ, rZ_ratA]⟩
  | none => obtain ⟨s, M, t, N, hM, hN, _, rfl⟩ := h; exact ⟨s, M, t, N, hM, hN, rfl⟩
theorem eq_int_any (d : Nat) (s : Bool) (N : Nat) (hN : N < Bg.lim) : EqT (d + 3) 30 (.agg (Bg.intA s N)) (.agg (Bg.intA s N)) true := by
  have h1 : FA 4 (Bg.intA s N) 0 (.bool s) := .inl ⟨by kernel_rfl, Bg.intA_neg s N⟩
  have h2 : FA 28 (Bg.intA s N) 1 (.agg (Bg.row 32 N)) := .inr ⟨by kernel_rfl, Bg.row 32 N, by rw [Bg.row_size]; kernel_rfl, by rw [Bg.intA_size, Bg.row_size]; omega, by rw [Bg.row_size]; exact intA_mag s N, rfl⟩
  have e1 : EqT (d + 2) 4 (.bool s) (.bool s) true := by
    have := eq_t_bool (d := d + 1) Tryz.underlying4 s s
    rwa [beq_self_eq_true] at this
  have e2 : EqT (d + 2) 28 (.agg (Bg.row 32 N)) (.agg (Bg.row 32 N)) true := fun w => by
    have := eq_arr N N hN hN d w
    rwa [decide_eq_true rfl] at this
  exact eq_agg (S := [(4, 0), (28, 1)]) (by kernel_rfl) (by kernel_rfl) (by kernel_rfl) (EqF.cons h1 h1 e1 (EqF.cons h2 h2 e2 .nil))
theorem eq_rat_any (d : Nat) {o : Option Rat} {c : Array Value} (h : Rt.Vc o c) : EqT (d + 4) 32 (.agg c) (.agg c) true := by
  obtain ⟨s, M, t, N, hM, hN, rfl⟩ := Mt.vc_eq h
  have h1 : FA 30 (Bg.ratA s M t N) 0 (.agg (Bg.intA s M)) := .inr ⟨by kernel_rfl, Bg.intA s M, by rw [Bg.intA_size]; exact sT_int, by rw [Bg.intA_size, ratA_size]; omega, by rw [Bg.intA_size]; exact ratA_num s M t N, rfl⟩
  have h2 : FA 30 (Bg.ratA s M t N) 33 (.agg (Bg.intA t N)) := .inr ⟨by kernel_rfl, Bg.intA t N, by rw [Bg.intA_size]; exact sT_int, by rw [Bg.intA_size, ratA_size]; omega, by rw [Bg.intA_size]; exact ratA_den s M t N, rfl⟩
  exact eq_agg (S := [(30, 0), (30, 33)]) (by kernel_rfl) (by kernel_rfl) (by kernel_rfl) (EqF.cons h1 h1 (eq_int_any d s M hM) (EqF.cons h2 h2 (eq_int_any d t N hN) .nil))
theorem Mt.ffund (d : Mt.D) : FA 9 (Mt.c d) 1 (.string d.fund) := by rw [Mt.c_rows]; exact fa_one 1 (by kernel_rfl) rfl rfl
theorem Mt.fcls (d : Mt.D) : FA 9 (Mt.c d) 2 (.string d.cls) := by rw [Mt.c_rows]; exact fa_one 2 (by kernel_rfl) rfl rfl
theorem Mt.eq_self (d : Mt.D) : EqT 10000 42 (.agg (Mt.c d)) (.agg (Mt.c d)) true := by
  have e1 : EqT 9999 3 (.int .i64 d.day) (.int .i64 d.day) true := by
    have := eq_t_int (d := 9998) Tryz.underlying3 d.day d.day
    rwa [beq_self_eq_true] at this
  have e2 : ∀ s : ByteArray, EqT 9999 9 (.string s) (.string s) true := fun s => by
    have := eq_t_str (d := 9998) Tryz.underlying9 s s
    have hs : (s == s) = true := (show (s.data == s.data) = true from beq_self_eq_true _)
    rwa [hs] at this
  exact eq_agg (d := 9999) (S := [(3, 0), (9, 1), (9, 2), (32, 3), (32, 69)]) (by kernel_rfl) (by kernel_rfl) (by kernel_rfl)
    (EqF.cons (Mt.fday d) (Mt.fday d) e1 (EqF.cons (Mt.ffund d) (Mt.ffund d) (e2 _) (EqF.cons (Mt.fcls d) (Mt.fcls d) (e2 _) (EqF.cons (Mt.fw d) (Mt.fw d) (eq_rat_any 9995 d.hw) (EqF.cons (Mt.fi d) (Mt.fi d) (eq_rat_any 9995 d.hi) .nil)))))
end Go.Proofs.YteamjgifohamgaaGreat
