/- First of the program; Material and First of the document; Same. -/
import Derived.Test.YteamjgifohamgaaGreatMtE
namespace Go.Proofs.YteamjgifohamgaaGreat
set_option maxRecDepth 8000
open Go.RowKit
namespace Mt
def mind : Int → List D → Int
  | m, [] => m
  | m, d :: r => mind (min m d.day) r
def fst3 : List D → Int → Int × Bool × Int
  | [], e => (0, false, e)
  | d :: r, _ => (mind d.day (d :: r), true, 0)
theorem mat_e {l : Option Rat} {L : List D} {d : D} {r : List D} {e : Int} (h : (d :: r, e) = mat l L) : e = 0 := by
  unfold mat at h
  split at h
  · cases (Prod.mk.inj h).1
  · split at h
    · split at h
      · cases (Prod.mk.inj h).1
      · exact (Prod.mk.inj h).2
    · cases (Prod.mk.inj h).1
theorem mat_len {l : Option Rat} {L K : List D} {e : Int} (h : (K, e) = mat l L) : K.length ≤ L.length := by
  unfold mat at h
  split at h
  · rw [(Prod.mk.inj h).1]; simp
  · split at h
    · split at h
      · rw [(Prod.mk.inj h).1]; simp
      · rw [(Prod.mk.inj h).1]; exact List.length_filter_le _ _
    · rw [(Prod.mk.inj h).1]; simp
theorem mind_step {v : Int} {K : List D} {i : Nat} {d : D} (h : K[i]? = some d) : mind v (K.drop i) = mind (min v d.day) (K.drop (i + 1)) := by
  obtain ⟨hi, rfl⟩ := List.getElem?_eq_some_iff.1 h
  rw [List.drop_eq_getElem_cons hi, mind]
end Mt
set_option maxHeartbeats 4000000 in
theorem first_any (sv : Value) (L : List Mt.D) (l : Option Rat) (cl : Array Value) (w : World) (hv : Rt.Vc l cl) (hR : RdS 135 w sv (L.map Mt.c)) (hl : L.length ≤ 12) (K : List Mt.D) (e : Int) (hr : Hid ((K, e) = Mt.mat l L)) (v : Int) (t : Bool) (e2 : Int) (hf : Hid ((v, t, e2) = Mt.fst3 K e)) :
    Calls Tryz.prog 15 #[sv, .agg cl] w fun r w' => r = .returned (.tuple #[.int .i64 v, .bool t, .int .i64 e2]) ∧ Below w.heap.size w w' := by
  have HM := Mem.start w
  have kl := la_r66 hv.size
  have zd := Mt.za
  have M := fun w hR => material_any sv L l cl w hv hR hl K e hr
  have HR := Lib.hid hR
  have hKl := Mt.mat_len hr.out
  clear hR
  cases K with
  | nil =>
    obtain ⟨rfl, rfl, rfl⟩ : v = 0 ∧ t = false ∧ e2 = e := by
      have h := hf.out
      unfold Mt.fst3 at h
      simpa using h
    clear hf hr hKl
    by_cases h0 : e2 = 0
    · subst h0
      go_enter Tryz.func15, Tryz.ntmps15
      go_wp2_with (first | (go_at_call 13; (with_reducible refine (M _ (HR.out.below HM.low)).mono ?_); rintro e9 w2 ⟨s1, B1, rfl, HS1, HM1⟩; replace HM := HM.join HM1; clear HM1; obtain ⟨A1, cap1, rfl⟩ := (HS1.out.rd HM (by intro p hp; (repeat (first | exact hp | exact List.mem_append_left _ hp | exact (List.mem_singleton.1 hp) ▸ List.mem_cons_self | apply List.mem_append_right | apply List.mem_cons_of_mem)); done)).form1; rw [List.length_map, List.length_nil]) | (first | ((with_reducible refine g_ld ?_); refine a_ld HM ?_) | ((with_reducible refine g_st ?_); refine a_st HM ?_; clear HM; intro w1 HM) | ((with_reducible refine g_al ?_); refine a_al HM ?_; clear HM; intro bk w1 HM) | ((with_reducible refine g_bx ?_); refine a_bx HM ?_; clear HM; intro bk w1 HM) | ((with_reducible refine g_bld ?_); refine a_bld ?_)))
      go_ret3
      exact ⟨rfl, HM.low⟩
    · have g1 : (e2 == 0) = false := by simpa using h0
      have g2 : (e2 != 0) = true := by simpa using h0
      go_enter Tryz.func15, Tryz.ntmps15
      go_wp2_with (first | (go_at_call 13; (with_reducible refine (M _ (HR.out.below HM.low)).mono ?_); rintro e9 w2 ⟨s1, B1, rfl, HS1, HM1⟩; replace HM := HM.join HM1; clear HM1) | (first | ((with_reducible refine g_ld ?_); refine a_ld HM ?_) | ((with_reducible refine g_st ?_); refine a_st HM ?_; clear HM; intro w1 HM) | ((with_reducible refine g_al ?_); refine a_al HM ?_; clear HM; intro bk w1 HM) | ((with_reducible refine g_bx ?_); refine a_bx HM ?_; clear HM; intro bk w1 HM) | ((with_reducible refine g_bld ?_); refine a_bld ?_)))
      go_ret3
      exact ⟨rfl, HM.low⟩
  | cons d0 r =>
    obtain rfl : e = 0 := Mt.mat_e hr.out
    have hf2 := hf.out
    unfold Mt.fst3 at hf2
    obtain ⟨rfl, rfl, rfl⟩ : v = Mt.mind d0.day (d0 :: r) ∧ t = true ∧ e2 = 0 := by simpa using hf2
    obtain ⟨v, hv9⟩ : ∃ v, Hid (v = Mt.mind d0.day (d0 :: r)) := ⟨_, Lib.hid rfl⟩
    rw [← hv9.out]
    obtain ⟨K, hK⟩ : ∃ K, K = d0 :: r := ⟨_, rfl⟩
    have hd0 : K[0]? = some d0 := by rw [hK]; rfl
    have hKl1 : K.length = r.length + 1 := by rw [hK]; rfl
    rw [← hK] at M hv9 hKl
    clear hf hf2 hr hK
    go_enter Tryz.func15, Tryz.ntmps15
    go_upto_region 4 with (first | (go_at_call 13; (with_reducible refine (M _ (HR.out.below HM.low)).mono ?_); rintro e9 w2 ⟨s1, B1, rfl, HS1, HM1⟩; replace HM := HM.join HM1; clear HM1; obtain ⟨A1, cap1, rfl⟩ := (HS1.out.rd HM (by intro p hp; (repeat (first | exact hp | exact List.mem_append_left _ hp | exact (List.mem_singleton.1 hp) ▸ List.mem_cons_self | apply List.mem_append_right | apply List.mem_cons_of_mem)); done)).form1; rw [List.length_map, hKl1] at HS1; rw [List.length_map, hKl1]) | (first | ((with_reducible refine g_ld ?_); refine a_ld HM ?_) | ((with_reducible refine g_st ?_); refine a_st HM ?_; clear HM; intro w1 HM) | ((with_reducible refine g_al ?_); refine a_al HM ?_; clear HM; intro bk w1 HM) | ((with_reducible refine g_bx ?_); refine a_bx HM ?_; clear HM; intro bk w1 HM) | ((with_reducible refine g_bld ?_); refine a_bld ?_)))
    obtain ⟨b, sp, e1, e2, hsz⟩ := SlAt.inv HS1.out (by intro h; rw [List.map_eq_nil_iff] at h; rw [h] at hKl1; simp at hKl1)
    injection e1 with e1 e3 e4
    subst e1 e2
    replace HM : Mem w [] [(b, rowsOf (K.map Mt.c ++ sp)), (bk, cl)] w2 := HM
    rw [← hKl1] at HS1 ⊢
    have lrow := Lib.hid (fun (i : Nat) (d : Mt.D) (h : K[i]? = some d) => show LA 42 (rowsOf (K.map Mt.c ++ sp)) (i * 135) (.agg (Mt.c d)) ∧ LA 3 (rowsOf (K.map Mt.c ++ sp)) (i * 135) (.int .i64 d.day) from by
      have hrow : (K.map Mt.c ++ sp)[i]? = some (Mt.c d) := by
        have := (List.getElem?_eq_some_iff.1 h).1
        rw [List.getElem?_append_left (by simpa using this), List.getElem?_map, h]; rfl
      have h2 := la_rowone (T := 3) (n := 135) (a := 0) (k := i) (by kernel_rfl) hsz hrow (by decide) (Mt.c_day d)
      rw [Nat.add_zero] at h2
      exact ⟨la_row (k := i) (by kernel_rfl) (by kernel_rfl) hsz hrow, h2⟩)
    have l0 := (lrow.out 0 d0 hd0).2
    rw [Nat.zero_mul] at l0
    have hpos : (0 : Int) < K.length := by omega
    clear HS1 hsz e3 e4 M HR hKl1
    go_wp2_with (first | fail | (first | ((with_reducible refine g_ld ?_); refine a_ld HM ?_) | ((with_reducible refine g_st ?_); refine a_st HM ?_; clear HM; intro w1 HM) | ((with_reducible refine g_al ?_); refine a_al HM ?_; clear HM; intro bk w1 HM) | ((with_reducible refine g_bx ?_); refine a_bx HM ?_; clear HM; intro bk w1 HM) | ((with_reducible refine g_bld ?_); refine a_bld ?_)))
    go_loopw [9, 32] (fun mv iv wr => ∃ (i : Nat) (m : Int), iv = .int .i64 (i : Nat) ∧ mv = .int .i64 m ∧ i ≤ K.length ∧ Hid (v = Mt.mind m (K.drop i)) ∧ Mem w [] [(b, rowsOf (K.map Mt.c ++ sp)), (bk, cl)] wr) (fun _ iv _ => K.length - (intOf iv).toNat)
    case atStart => exact ⟨0, d0.day, rfl, rfl, by omega, by simpa using hv9, HM⟩
    case round =>
      clear HM hv9
      obtain ⟨i, m, rfl, rfl, hi, HV, HM⟩ := hrel
      by_cases hlt : i < K.length
      · obtain ⟨d, hd⟩ : ∃ d, K[i]? = some d := ⟨_, List.getElem?_eq_getElem hlt⟩
        obtain ⟨l1, l2⟩ := lrow.out i d hd
        have hlt1 : (i : Int) < K.length := by omega
        have sd := Mt.sa d (Mt.c_size Mt.zd)
        have ld := (Mt.fday d).la
        have HV2 : Hid (v = Mt.mind (min m d.day) (K.drop (i + 1))) := Lib.hid (by rw [← Mt.mind_step hd]; exact HV.out)
        clear hd
        go_wp2_with (first | fail | (first | ((with_reducible refine g_ld ?_); refine a_ld HM ?_) | ((with_reducible refine g_st ?_); refine a_st HM ?_; clear HM; intro w1 HM) | ((with_reducible refine g_al ?_); refine a_al HM ?_; clear HM; intro bk w1 HM) | ((with_reducible refine g_bx ?_); refine a_bx HM ?_; clear HM; intro bk w1 HM) | ((with_reducible refine g_bld ?_); refine a_bld ?_)))
        go_roundw
        case rel => exact ⟨i + 1, min m d.day, by go_num, rfl, by omega, HV2, HM.pick⟩
        case measure => simp [intOf]; omega
      · obtain rfl : i = K.length := by omega
        obtain rfl : v = m := by rw [HV.out, List.drop_length]; rfl
        go_wp2_with fail
        go_ret3
        exact ⟨rfl, HM.low⟩
end Go.Proofs.YteamjgifohamgaaGreat
