/- Near and Calendar, made off the tape. -/
import Derived.Test.YtaokneooejbfkaaJoC
import Derived.Test.YtaokneooejbfkaaTapeO
import Derived.WalkMore
import Derived.Deep.CutBlock
import Derived.Lib.MinMax
namespace Go.Proofs.Ytaokneooejbfkaa
set_option maxRecDepth 8000
open Go.RowKit
namespace Jo
def names : List ByteArray := [⟨#[99]⟩, ⟨#[110, 121, 115, 101]⟩, ⟨#[116, 97, 114, 103, 101, 116]⟩, ⟨#[120, 49]⟩]
theorem use_small (l : Array UInt8) (h0 : 0 < l.size) (h : l.size ≤ 16) (h1 : 97 ≤ ((l[0]'h0).toNat : Int) ∧ ((l[0]'h0).toNat : Int) ≤ 122) (h2 : l.toList.all Nm.okB = true) : Nm.usableB ⟨l⟩ = true := by
  refine Nm.usable_yes h0 h h1 (fun k hk => ?_)
  exact List.all_eq_true.1 h2 _ (by
    show l[k]'hk ∈ l.toList
    exact Array.getElem_mem_toList hk)
theorem names_ok {s : ByteArray} (h : s ∈ names) : Nm.usableB s = true := by
  simp only [names, List.mem_cons, List.not_mem_nil, or_false] at h
  rcases h with rfl | rfl | rfl | rfl
  · exact use_small _ (by decide) (by decide) (by decide) (by decide)
  · exact use_small _ (by decide) (by decide) (by decide) (by decide)
  · exact use_small _ (by decide) (by decide) (by decide) (by decide)
  · exact use_small _ (by decide) (by decide) (by decide) (by decide)
theorem asc_add : ∀ (hs : List Int) (last x : Int), Cl.asc last hs = true → (∀ h ∈ hs, h < x) → last < x → Dt.isDay x = true → Cl.asc last (hs ++ [x]) = true
  | [], last, x, _, _, h1, h2 => by simp [Cl.asc, h1, h2]
  | y :: t, last, x, h, hl, h1, h2 => by
    unfold Cl.asc at h
    simp only [Bool.and_eq_true, decide_eq_true_eq] at h
    have := asc_add t y x h.2 (fun z hz => hl z (by simp [hz])) (hl y (by simp)) h2
    simp only [List.cons_append, Cl.asc, this, h.1.1, h.1.2, decide_true, Bool.and_self]
theorem one_day {i : Nat} (hi : i < 7) : Cl.allK (fun j => if j = i then true else zk j) = false := by
  obtain rfl | rfl | rfl | rfl | rfl | rfl | rfl : i = 0 ∨ i = 1 ∨ i = 2 ∨ i = 3 ∨ i = 4 ∨ i = 5 ∨ i = 6 := by omega
  all_goals rfl
theorem all_sun {k : Nat → Bool} (h : k 6 = false) : Cl.allK k = false := by simp [Cl.allK, h]
theorem all_mon {k : Nat → Bool} (h : k 0 = false) : Cl.allK k = false := by simp [Cl.allK, h]
/-- Holidays in the making. -/
def Hm (hs : List Int) (a : Int) : Prop := Cl.asc (-1) hs = true ∧ ∀ h ∈ hs, h < a
theorem Hm.add {hs : List Int} {a b : Int} (h : Hm hs a) (h0 : 0 ≤ a) (h1 : a ≤ 73048) (hb : a < b) : Hm (hs ++ [a]) b := by
  refine ⟨asc_add hs (-1) a h.1 h.2 (by omega) (by simp [Dt.isDay]; omega), fun x hx => ?_⟩
  rcases List.mem_append.1 hx with hx | hx
  · have := h.2 x hx; omega
  · rw [List.mem_singleton.1 hx]; exact hb
end Jo
theorem near_m (d f : Int) (tb m : Nat) (c : Array Value) (R : List (Nat × Array Value)) (W w : World) (HM : Mem W [] ((tb, c) :: R) w) (HC : Hid (TapeC W m c)) (hm : m ≤ 900000000000) (h0 : 0 ≤ d) (h1 : d ≤ 73048) (f0 : 0 ≤ f) (f1 : f ≤ 1000) :
    Calls Try.prog 10 #[.pointer (some ⟨tb, 0, none⟩), .int .i64 d, .int .i64 f] w fun e w' => ∃ (v : Int) (c' : Array Value), e = .returned (.int .i64 v) ∧ 0 ≤ v ∧ v ≤ 73048 ∧ Hid (TapeC W (m + 1) c') ∧ Mem W [] ((tb, c') :: R) w' := by
  have H0 : Hid (Below W.heap.size W W) := Below.refl _ _
  have hle : ∀ b ∈ ([] : List Nat), W.heap.size ≤ b := by simp
  go_enter Try.func10, Try.ntmps10
  go_wp2_with fail
  (refine (next_any W tb _ _ _ (HM.tp (by ((repeat (first | exact Look.here | refine Look.there ?_)); done)) HC.out H0.out hle) (by omega) (by omega) (by omega)).mono ?_; rintro e9 w2 ⟨v, rfl, v0, v1, ⟨c1, hb1, hc1, -, -⟩, hg⟩; replace HM := HM.put (c' := c1) (by (repeat (first | exact At.here | apply At.there))) hb1 (Only.of_grown hg); clear hg hb1; replace HC := Lib.hid hc1; clear hc1)
  go_wp2
  all_goals
    go_ret
    exact ⟨_, _, rfl, by omega, by omega, HC, HM⟩
set_option maxHeartbeats 8000000 in
theorem mcal_any (d : Int) (tb m : Nat) (c : Array Value) (R : List (Nat × Array Value)) (W w : World) (HM : Mem W [] ((tb, c) :: R) w) (HC : Hid (TapeC W m c)) (hm : m ≤ 900000000000) (d0 : 0 ≤ d) (d1 : d ≤ 73048) :
    Calls Try.prog 5 #[.pointer (some ⟨tb, 0, none⟩), .int .i64 d] w fun e w' => ∃ (x : Jo.C) (B : List (Nat × Array Value)) (c' : Array Value), e = .returned (.agg x.cells) ∧ Jo.okC x = true ∧ x.hs.length ≤ 2000 ∧ Hid (SlAt 1 x.v (Jo.ir x.hs) B) ∧ Hid (TapeC W (m + 200) c') ∧ Mem W [] ((tb, c') :: (B ++ R)) w' := by
  have H0 : Hid (Below W.heap.size W W) := Below.refl _ _
  have hle : ∀ b ∈ ([] : List Nat), W.heap.size ≤ b := by simp
  have hz := za_cc
  have eli : elemB 22 3 1 8 = true := by kernel_rfl
  go_enter Try.func5, Try.ntmps5
  go_wp2_with (first | fail | (first | ((with_reducible refine g_ld ?_); refine a_ld HM ?_) | ((with_reducible refine g_st ?_); refine a_st HM ?_; clear HM; intro w1 HM) | ((with_reducible refine g_al ?_); refine a_al HM ?_; clear HM; intro bk w1 HM) | ((with_reducible refine g_bx ?_); refine a_bx HM ?_; clear HM; intro bk w1 HM) | ((with_reducible refine g_bld ?_); refine a_bld ?_)))
  (refine (one_new (tb := tb) (W := W) HM (by ((repeat (first | exact Look.here | refine Look.there ?_)); done)) HC.out H0.out (by first | exact hle | simpa using hle) ([⟨#[99]⟩, ⟨#[110, 121, 115, 101]⟩, ⟨#[116, 97, 114, 103, 101, 116]⟩, ⟨#[120, 49]⟩] : List ByteArray) _ (by omega) (by simp) (by simp)).mono ?_; rintro e9 w2 ⟨s, c1, rfl, hs, hc1, hb1, hg⟩; replace HM := HM.put (c' := c1) (by (repeat (first | exact At.here | apply At.there))) hb1 hg; clear hg hb1; replace HC := Lib.hid hc1; clear hc1)
  have HN := Lib.hid (Jo.names_ok hs)
  have s0 := sa_cc s Jo.zk (.slice none 0 0) Jo.z rfl rfl
  clear hs
  go_upto_region 2 with (first | ((with_reducible refine gj_bld ?_); refine a_jbl ?_ (h_jb1 rfl (by (conv => lhs; whnf) <;> rfl) (Jo.build1 s))) | (first | ((with_reducible refine g_ld ?_); refine a_ld HM ?_) | ((with_reducible refine g_st ?_); refine a_st HM ?_; clear HM; intro w1 HM) | ((with_reducible refine g_al ?_); refine a_al HM ?_; clear HM; intro bk w1 HM) | ((with_reducible refine g_bx ?_); refine a_bx HM ?_; clear HM; intro bk w1 HM) | ((with_reducible refine g_bld ?_); refine a_bld ?_)))
  obtain ⟨b5, rfl⟩ := HM.nm0
  clear s0
  obtain ⟨b4, rfl⟩ := HM.nm1
  go_wp2_with fail
  (refine (next_any W tb _ _ _ (HM.tp (by ((repeat (first | exact Look.here | refine Look.there ?_)); done)) HC.out H0.out hle) (by omega) (by omega) (by omega)).mono ?_; rintro e9 w2 ⟨v, rfl, v0, v1, ⟨c1, hb1, hc1, -, -⟩, hg⟩; replace HM := HM.put (c' := c1) (by (repeat (first | exact At.here | apply At.there))) hb1 (Only.of_grown hg); clear hg hb1; replace HC := Lib.hid hc1; clear hc1)
  go_upto_block 0 with (fail)
  go_cut [6] (fun _ wc => ∃ (k : Nat → Bool) (c2 : Array Value), Cl.allK k = false ∧ Hid (TapeC W (m + 10) c2) ∧ Mem W [] ((b5, Jo.cc s k (.slice none 0 0)) :: (b4, Jo.z) :: (tb, c2) :: R) wc)
  case first =>
    have hv : v = 0 ∨ v = 1 ∨ v = 2 ∨ v = 3 := by omega
    clear v0 v1
    rcases hv with h | h | h | h
    · subst h
      go_wp2_with fail
      go_meet
      case rel => exact ⟨Jo.zk, _, rfl, Lib.hid (HC.out.mono (by omega)), HM⟩
    · subst h
      go_wp2_with fail
      (refine (next_any W tb _ _ _ (HM.tp (by ((repeat (first | exact Look.here | refine Look.there ?_)); done)) HC.out H0.out hle) (by omega) (by omega) (by omega)).mono ?_; rintro e9 w2 ⟨q, rfl, q0, q1, ⟨c1, hb1, hc1, -, -⟩, hg⟩; replace HM := HM.put (c' := c1) (by (repeat (first | exact At.here | apply At.there))) hb1 (Only.of_grown hg); clear hg hb1; replace HC := Lib.hid hc1; clear hc1)
      obtain ⟨j, rfl⟩ : ∃ j : Nat, q = j := ⟨q.toNat, by omega⟩
      have hj : j < 7 := by omega
      have sd := sa_cday s Jo.zk (.slice none 0 0) hj true
      go_wp2_with (first | fail | (first | ((with_reducible refine g_ld ?_); refine a_ld HM ?_) | ((with_reducible refine g_st ?_); refine a_st HM ?_; clear HM; intro w1 HM) | ((with_reducible refine g_al ?_); refine a_al HM ?_; clear HM; intro bk w1 HM) | ((with_reducible refine g_bx ?_); refine a_bx HM ?_; clear HM; intro bk w1 HM) | ((with_reducible refine g_bld ?_); refine a_bld ?_)))
      go_meet
      case rel => exact ⟨_, _, Jo.one_day hj, Lib.hid (HC.out.mono (by omega)), HM⟩
    · subst h
      go_wp2_with fail
      go_loopw [6] (fun i wr => ∃ (j : Nat) (k : Nat → Bool) (c2 : Array Value), j ≤ 6 ∧ i = .int .i64 (j : Nat) ∧ Hid (k 6 = false) ∧ Hid (TapeC W (m + 2 + j) c2) ∧ Mem W [] ((b5, Jo.cc s k (.slice none 0 0)) :: (b4, Jo.z) :: (tb, c2) :: R) wr) (fun i _ => 6 - (intOf i).toNat)
      case atStart => exact ⟨0, Jo.zk, _, by omega, rfl, Lib.hid rfl, HC, HM⟩
      case round =>
        clear HM HC
        obtain ⟨j, k, c2, hj, rfl, HK, HC, HM⟩ := hrel
        by_cases hlt6 : j < 6
        · have hlt7 : (j : Int) < 6 := by omega
          go_wp2_with (first | fail | (first | ((with_reducible refine g_ld ?_); refine a_ld HM ?_) | ((with_reducible refine g_st ?_); refine a_st HM ?_; clear HM; intro w1 HM) | ((with_reducible refine g_al ?_); refine a_al HM ?_; clear HM; intro bk w1 HM) | ((with_reducible refine g_bx ?_); refine a_bx HM ?_; clear HM; intro bk w1 HM) | ((with_reducible refine g_bld ?_); refine a_bld ?_)))
          (refine (next_any W tb _ _ _ (HM.tp (by ((repeat (first | exact Look.here | refine Look.there ?_)); done)) HC.out H0.out hle) (by omega) (by omega) (by omega)).mono ?_; rintro e9 w2 ⟨q, rfl, q0, q1, ⟨c1, hb1, hc1, -, -⟩, hg⟩; replace HM := HM.put (c' := c1) (by (repeat (first | exact At.here | apply At.there))) hb1 (Only.of_grown hg); clear hg hb1; replace HC := Lib.hid hc1; clear hc1)
          obtain ⟨p, rfl⟩ : ∃ p : Nat, q = p := ⟨q.toNat, by omega⟩
          have hp : p < 7 := by omega
          have hp6 : (6 : Nat) ≠ p := by omega
          have sd := sa_cday s k (.slice none 0 0) hp true
          go_wp2_with (first | fail | (first | ((with_reducible refine g_ld ?_); refine a_ld HM ?_) | ((with_reducible refine g_st ?_); refine a_st HM ?_; clear HM; intro w1 HM) | ((with_reducible refine g_al ?_); refine a_al HM ?_; clear HM; intro bk w1 HM) | ((with_reducible refine g_bx ?_); refine a_bx HM ?_; clear HM; intro bk w1 HM) | ((with_reducible refine g_bld ?_); refine a_bld ?_)))
          go_roundw
          case rel => exact ⟨j + 1, _, _, by omega, by go_num, Lib.hid (by show (if (6 : Nat) = p then true else k 6) = false; rw [if_neg hp6]; exact HK.out), HC, HM⟩
          case measure => simp [intOf]; omega
        · obtain rfl : j = 6 := by omega
          go_wp2_with (first | fail | (first | ((with_reducible refine g_ld ?_); refine a_ld HM ?_) | ((with_reducible refine g_st ?_); refine a_st HM ?_; clear HM; intro w1 HM) | ((with_reducible refine g_al ?_); refine a_al HM ?_; clear HM; intro bk w1 HM) | ((with_reducible refine g_bx ?_); refine a_bx HM ?_; clear HM; intro bk w1 HM) | ((with_reducible refine g_bld ?_); refine a_bld ?_)))
          go_meet
          case rel => exact ⟨k, _, Jo.all_sun HK.out, Lib.hid (HC.out.mono (by omega)), HM⟩
    · subst h
      have s5 := sa_cday s Jo.zk (.slice none 0 0) (i := 5) (by omega) true
      have s6 := sa_cday s (fun j => if j = 5 then true else Jo.zk j) (.slice none 0 0) (i := 6) (by omega) true
      go_wp2_with (first | fail | (first | ((with_reducible refine g_ld ?_); refine a_ld HM ?_) | ((with_reducible refine g_st ?_); refine a_st HM ?_; clear HM; intro w1 HM) | ((with_reducible refine g_al ?_); refine a_al HM ?_; clear HM; intro bk w1 HM) | ((with_reducible refine g_bx ?_); refine a_bx HM ?_; clear HM; intro bk w1 HM) | ((with_reducible refine g_bld ?_); refine a_bld ?_)))
      go_meet
      case rel => exact ⟨_, _, Jo.all_mon rfl, Lib.hid (HC.out.mono (by omega)), HM⟩
  case rest =>
    clear HM HC v0 v1
    obtain ⟨k, c2, hk, HC, HM⟩ := hcut
    have HK := Lib.hid hk
    clear hk
    go_upto_region 12 with (fail)
    go_cut [7] (fun x wc => ∃ (a : Int) (c3 : Array Value), x = .int .i64 a ∧ 0 ≤ a ∧ a ≤ d ∧ Hid (TapeC W (m + 11) c3) ∧ Mem W [] ((b5, Jo.cc s k (.slice none 0 0)) :: (b4, Jo.z) :: (tb, c3) :: R) wc)
    case first =>
      go_wp2_with fail
      (refine (next_any W tb _ _ _ (HM.tp (by ((repeat (first | exact Look.here | refine Look.there ?_)); done)) HC.out H0.out hle) (by omega) (by omega) (by omega)).mono ?_; rintro e9 w2 ⟨q, rfl, q0, q1, ⟨c1, hb1, hc1, -, -⟩, hg⟩; replace HM := HM.put (c' := c1) (by (repeat (first | exact At.here | apply At.there))) hb1 (Only.of_grown hg); clear hg hb1; replace HC := Lib.hid hc1; clear hc1)
      by_cases hp : 0 < d - q
      all_goals
        go_wp2_with fail
        go_meet
        case rel => exact ⟨_, _, rfl, by omega, by omega, HC, HM⟩
    case rest =>
      clear HM HC
      obtain ⟨a0, c3, rfl, ha0, ha1, HC, HM⟩ := hcut
      go_wp2_with fail
      go_loopw [7, 8] (fun x iv wr => ∃ (i : Nat) (a : Int) (hs : List Int) (sv : Value) (B : List (Nat × Array Value)) (c3 : Array Value), x = .int .i64 a ∧ iv = .int .i64 (i : Nat) ∧ i ≤ 20 ∧ 0 ≤ a ∧ a ≤ d + 31 * i ∧ hs.length = i ∧ Hid (Jo.Hm hs a) ∧ Hid (SlAt 1 sv (Jo.ir hs) B) ∧ Hid (TapeC W (m + 11 + 4 * i) c3) ∧ Mem W [] ((b5, Jo.cc s k sv) :: (b4, Jo.z) :: (tb, c3) :: (B ++ R)) wr) (fun _ iv _ => 20 - (intOf iv).toNat)
      case atStart => exact ⟨0, a0, [], .slice none 0 0, [], c3, rfl, rfl, by omega, ha0, by omega, rfl, Lib.hid ⟨rfl, by simp⟩, Lib.hid .nil, HC, HM⟩
      case round =>
        clear HM HC ha0 ha1
        obtain ⟨i, a, hs, sv, B, c3, rfl, rfl, hi, ha0, ha1, hln, HH, HO, HC, HM⟩ := hrel
        go_wp2_with fail
        (refine (pick_new (tb := tb) (W := W) HM (by ((repeat (first | exact Look.here | refine Look.there ?_)); done)) HC.out H0.out (by first | exact hle | simpa using hle) [0, 1, 3, 8, 20] _ (by omega) (by simp) (by simp)).mono ?_; rintro e9 w2 ⟨v1, c1, rfl, hv, hc1, hb1, hg⟩; replace HM := HM.put (c' := c1) (by (repeat (first | exact At.here | apply At.there))) hb1 hg; clear hg hb1; replace HC := Lib.hid hc1; clear hc1)
        have hv2 : v1 ≤ 20 := by simp at hv; omega
        clear hv
        obtain ⟨A2, c2', rfl, _⟩ := HO.out.val
        rw [Jo.ir_len] at HM
        have k8 := la_chol s k (.slice A2 hs.length c2')
        have k0 := la_cc s k (.slice A2 hs.length c2')
        have s4 := sa_cc s k (.slice A2 hs.length c2') Jo.z rfl rfl
        have HE : Hid (Jo.okC ⟨s, k, hs, A2, c2'⟩ = true ∧ hs.length ≤ 2000 ∧ SlAt 1 (.slice A2 hs.length c2') (Jo.ir hs) B) := Lib.hid ⟨by
          have h1 := HN.out
          have h2 := HK.out
          have h3 := HH.out.1
          have h4 : hs.length ≤ 2000 := by omega
          simp [Jo.okC, Cl.validC, h1, h2, h3, h4], by omega, by have := HO.out; rw [Jo.ir_len] at this; exact this⟩
        have HCE : Hid (TapeC W (m + 200) c1) := Lib.hid (HC.out.mono (by omega))
        by_cases hjq : (i : Int) < v1
        · by_cases hbig : 73048 < a
          · go_wp2_with (first | fail | (first | ((with_reducible refine g_ld ?_); refine a_ld HM ?_) | ((with_reducible refine g_st ?_); refine a_st HM ?_; clear HM; intro w1 HM) | ((with_reducible refine g_al ?_); refine a_al HM ?_; clear HM; intro bk w1 HM) | ((with_reducible refine g_bx ?_); refine a_bx HM ?_; clear HM; intro bk w1 HM) | ((with_reducible refine g_bld ?_); refine a_bld ?_)))
            refine bodyPost_ret (jr_c (b := b4) (k := 0) rfl rfl (HM.get (by ((repeat (first | exact Look.here | refine Look.there ?_)); done))) k0) rfl ⟨⟨s, k, hs, A2, c2'⟩, B, c1, rfl, HE.out.1, HE.out.2.1, Lib.hid HE.out.2.2, HCE, HM.pick⟩
          · have ha73 : a ≤ 73048 := by omega
            have hcap : ((Jo.ir hs).length + [#[Value.int .i64 a]].length) * (8 + 1) ≤ 140737488355328 := by rw [Jo.ir_len]; simp; omega
            have HO2 := Lib.hid HE.out.2.2
            clear HO k0 s4 HE HCE
            go_upto_region 18 with (first | first | ((with_reducible refine g_bs1 ?_); refine a_bs1 (c0 := #[.int .i64 a]) HM ?_; clear HM; intro bx w1 HM) | ((with_reducible refine g_app ?_); refine a_app (m := [#[.int .i64 a]]) (F := fun X => (b5, Jo.cc s k (.slice A2 hs.length c2')) :: (b4, Jo.z) :: (tb, c1) :: (X ++ R)) HM HO2.out ((SlAt.made1 bx rfl).rd HM (by simp)) ?_ (Jo.ir_one [a]) (hlen := hcap); clear HM; intro s2 B2 w1 HS2 HM; obtain ⟨A3, c4, rfl, _⟩ := HS2.val; have s8 := sa_chol s k (.slice A2 hs.length c2') (u := .slice A3 (Jo.ir hs ++ [#[Value.int .i64 a]]).length c4) rfl) | (first | ((with_reducible refine g_ld ?_); refine a_ld HM ?_) | ((with_reducible refine g_st ?_); refine a_st HM ?_; clear HM; intro w1 HM) | ((with_reducible refine g_al ?_); refine a_al HM ?_; clear HM; intro bk w1 HM) | ((with_reducible refine g_bx ?_); refine a_bx HM ?_; clear HM; intro bk w1 HM) | ((with_reducible refine g_bld ?_); refine a_bld ?_)))
            clear hcap s8 k8
            go_wp2_with fail
            (refine (next_any W tb _ _ _ (HM.tp (by ((repeat (first | exact Look.here | refine Look.there ?_)); done)) HC.out H0.out hle) (by omega) (by omega) (by omega)).mono ?_; rintro e9 w2 ⟨q, rfl, q0, q1, ⟨c1, hb1, hc1, -, -⟩, hg⟩; replace HM := HM.put (c' := c1) (by (repeat (first | exact At.here | apply At.there))) hb1 (Only.of_grown hg); clear hg hb1; replace HC := Lib.hid hc1; clear hc1)
            go_wp2_with fail
            (refine (next_any W tb _ _ _ (HM.tp (by ((repeat (first | exact Look.here | refine Look.there ?_)); done)) HC.out H0.out hle) (by omega) (by omega) (by omega)).mono ?_; rintro e9 w2 ⟨p, rfl, p0, p1, ⟨c1, hb1, hc1, -, -⟩, hg⟩; replace HM := HM.put (c' := c1) (by (repeat (first | exact At.here | apply At.there))) hb1 (Only.of_grown hg); clear hg hb1; replace HC := Lib.hid hc1; clear hc1)
            go_wp2_with fail
            have hi20 : i + 1 ≤ 20 := by omega
            clear hv2 hjq
            (refine (pick_new (tb := tb) (W := W) HM (by ((repeat (first | exact Look.here | refine Look.there ?_)); done)) HC.out H0.out (by first | exact hle | simpa using hle) [0, 0, 1, q, p] _ (by omega) (by simp) (by simp)).mono ?_; rintro e9 w2 ⟨v1, c1, rfl, hv, hc1, hb1, hg⟩; replace HM := HM.put (c' := c1) (by (repeat (first | exact At.here | apply At.there))) hb1 hg; clear hg hb1; replace HC := Lib.hid hc1; clear hc1)
            have hvr : 0 ≤ v1 ∧ v1 ≤ 29 := by simp at hv; omega
            obtain ⟨hvr0, hvr1⟩ := hvr
            clear hv
            go_wp2_with fail
            go_roundw
            case rel => exact ⟨i + 1, a + (1 + v1), hs ++ [a], _, B2, _, by go_num, by go_num, by omega, by omega, by omega, by simp [hln], Lib.hid (HH.out.add ha0 ha73 (by omega)), Lib.hid (by rw [Jo.ir_app]; exact HS2), Lib.hid (HC.out.mono (by omega)), HM⟩
            case measure => simp [intOf]; omega
        · go_wp2_with (first | fail | (first | ((with_reducible refine g_ld ?_); refine a_ld HM ?_) | ((with_reducible refine g_st ?_); refine a_st HM ?_; clear HM; intro w1 HM) | ((with_reducible refine g_al ?_); refine a_al HM ?_; clear HM; intro bk w1 HM) | ((with_reducible refine g_bx ?_); refine a_bx HM ?_; clear HM; intro bk w1 HM) | ((with_reducible refine g_bld ?_); refine a_bld ?_)))
          refine bodyPost_ret (jr_c (b := b4) (k := 0) rfl rfl (HM.get (by ((repeat (first | exact Look.here | refine Look.there ?_)); done))) k0) rfl ⟨⟨s, k, hs, A2, c2'⟩, B, c1, rfl, HE.out.1, HE.out.2.1, Lib.hid HE.out.2.2, HCE, HM.pick⟩
end Go.Proofs.Ytaokneooejbfkaa
