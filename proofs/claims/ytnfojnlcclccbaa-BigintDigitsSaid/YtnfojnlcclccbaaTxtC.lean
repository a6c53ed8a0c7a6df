/- Parse of the document. -/
import Derived.Test.YtnfojnlcclccbaaTxtB
import Derived.Test.YtnfojnlcclccbaaEngG
import Derived.Lib.MinMax
namespace Go.Proofs.Ytnfojnlcclccbaa
set_option maxRecDepth 8000
open Go.RowKit
theorem Tx.cut_neg (s : ByteArray) (h : 0 < s.size) (h45 : s[0].toNat = 45) : Tx.cut s = (s.extract 1 s.size, true) := by
  have hb : s[0] = 45 := UInt8.toNat_inj.1 h45
  have h1 : ((s.extract 0 1).toList == ({ data := #[45] } : ByteArray).toList) = true := by
    rw [Lib.extract_toList, Lib.toList_data]
    cases s with
    | mk d =>
      cases d with
      | mk l =>
        cases l with
        | nil => exact absurd h (by decide)
        | cons c r =>
          have : c = 45 := hb
          subst this
          rfl
  have e := Lib.trimPrefix_hit s { data := #[45] } h h1
  have hr := Lib.hasPrefix_raw s { data := #[45] }
  unfold Tx.cut
  rw [show ([45] : List UInt8) = ({ data := #[45] } : ByteArray).data.toList from rfl, e, ← hr]
  rw [show ({ data := #[45] } : ByteArray).size = 1 from rfl, h1]
  simp; omega
theorem Tx.cut_pos (s : ByteArray) (h : ∀ h : 0 < s.size, s[0].toNat ≠ 45) : Tx.cut s = (s, false) := by
  have h1 : Lib.hasPrefix s.data.toList [45] = false := by
    cases s with
    | mk d =>
      cases d with
      | mk l =>
        cases l with
        | nil => rfl
        | cons c r =>
          have := h (by show 0 < r.length + 1; omega)
          have hc : c ≠ 45 := fun e => this (by show c.toNat = 45; rw [e]; rfl)
          unfold Lib.hasPrefix
          show ((45 == c) && _) = false
          rw [beq_eq_false_iff_ne.2 (Ne.symm hc)]; rfl
  have hr := Lib.hasPrefix_raw s { data := #[45] }
  have e := Lib.trimPrefix_miss s { data := #[45] } (hr.trans h1)
  unfold Tx.cut
  rw [h1, show ([45] : List UInt8) = ({ data := #[45] } : ByteArray).data.toList from rfl, e]
theorem rmul_zz (p d z v e : Int) (hp : p.natAbs < Bg.lim) (hd : d.natAbs < Bg.lim) (hz : Hid (z = p * d)) (hv : Hid (v = Bg.resZ z)) (he : Hid (e = Bg.resE z)) (w : World) :
    Calls Try.prog 18 #[.agg (Bg.zA p), .agg (Bg.zA d)] w fun r w' => r = .returned (.tuple #[.agg (Bg.zA v), .int .i64 e]) ∧ Below w.heap.size w w' := by
  rw [zA_int p, zA_int d]
  exact rmul_any _ _ _ _ z v e hp hd (Lib.hid (by rw [Bg.toZ_iv, Bg.toZ_iv]; exact hz.out)) hv he w
theorem radd_zz (p d z v e : Int) (hp : p.natAbs < Bg.lim) (hd : d.natAbs < Bg.lim) (hz : Hid (z = p + d)) (hv : Hid (v = Bg.resZ z)) (he : Hid (e = Bg.resE z)) (w : World) :
    Calls Try.prog 20 #[.agg (Bg.zA p), .agg (Bg.zA d)] w fun r w' => r = .returned (.tuple #[.agg (Bg.zA v), .int .i64 e]) ∧ Below w.heap.size w w' := by
  rw [zA_int p, zA_int d]
  exact radd_any _ _ _ _ z v e hp hd (Lib.hid (by rw [Bg.toZ_iv, Bg.toZ_iv]; exact hz.out)) hv he w
theorem rcanon_t (t s : Bool) (ht : Hid (t = s)) (N : Nat) (z : Int) (hN : N < Bg.lim) (hz : Hid (z = Bg.toZ s N)) (w : World) :
    Calls Try.prog 21 #[.bool t, .agg (Bg.row 32 N)] w fun e w' => e = .returned (.agg (Bg.zA z)) ∧ Below w.heap.size w w' := by
  rw [ht.out]; exact rcanon_any s N z hN hz w
theorem rfromInt_w (m n : Int) (h : Hid (m = n)) (h1 : -9223372036854775808 ≤ n) (h2 : n < 9223372036854775808) (w : World) :
    Calls Try.prog 19 #[.int .i64 m] w fun e w' => e = .returned (.agg (Bg.zA n)) ∧ Below w.heap.size w w' := by
  rw [h.out]; exact rfromInt_z n h1 h2 w
theorem Tx.prs_ok {L : List Nat} {g : Bool} (hb : ¬ Tx.bad L g) (h : ∀ c ∈ L, Tx.isd c) : Tx.prs L g = if Tx.num L < Bg.lim then (Bg.toZ g (Tx.num L), 0) else (0, 10) := by
  unfold Tx.prs; rw [if_neg hb, if_pos h]
/-- A product with 10 and a digit more: what the two steps answer. -/
theorem Tx.two {L : List Nat} {k c : Nat} (hc : L[k]? = some c) (hd : Tx.isd c) {v1 e1 v2 e2 : Int}
    (hv1 : v1 = Bg.resZ ((Tx.num (L.take k) : Nat) * 10 : Int)) (he1 : e1 = Bg.resE ((Tx.num (L.take k) : Nat) * 10 : Int)) (hv2 : v2 = Bg.resZ (v1 + ((c : Int) - 48))) (he2 : e2 = Bg.resE (v1 + ((c : Int) - 48))) :
    (e1 = 0 ∧ e2 = 0 ∧ v2 = (Tx.num (L.take (k + 1)) : Nat) ∧ Tx.num (L.take (k + 1)) < Bg.lim) ∨ ((e1 = 10 ∨ (e1 = 0 ∧ e2 = 10)) ∧ Bg.lim ≤ Tx.num L) := by
  have en : Tx.num (L.take (k + 1)) = 10 * Tx.num (L.take k) + (c - 48) := by rw [Tx.take_succ hc]; exact Tx.num_snoc _ _
  have hle := Tx.num_take_le L (k + 1)
  have h48 := hd.1
  unfold Bg.resZ at hv1 hv2
  unfold Bg.resE at he1 he2
  by_cases h : ((Tx.num (L.take k) : Nat) * 10 : Int).natAbs < Bg.lim
  · rw [if_pos h] at hv1 he1
    subst hv1
    by_cases h2 : ((Tx.num (L.take k) : Nat) * 10 + ((c : Int) - 48) : Int).natAbs < Bg.lim
    · rw [if_pos h2] at hv2 he2
      refine .inl ⟨he1, he2, ?_, ?_⟩ <;> omega
    · rw [if_neg h2] at he2
      refine .inr ⟨.inr ⟨he1, he2⟩, ?_⟩; omega
  · rw [if_neg h] at he1
    refine .inr ⟨.inl he1, ?_⟩; omega
set_option maxRecDepth 20000 in
set_option maxHeartbeats 4000000 in
theorem rparse_any (s D : ByteArray) (g : Bool) (hD : Hid ((D, g) = Tx.cut s)) (z e : Int) (hr : Hid ((z, e) = Tx.prs (Tx.ns D) g)) (w : World) :
    Calls Try.prog 6 #[.string s] w fun r w' => r = .returned (.tuple #[.agg (Bg.zA z), .int .i64 e]) ∧ Below w.heap.size w w' := by
  have HM := Mem.start w
  have hln := Tx.ns_len D
  have HE := Lib.hid (fun (hb : Tx.bad (Tx.ns D) g) => Prod.mk.inj (hr.out.trans (Tx.prs_bad hb)))
  have HN := Lib.hid (fun (k c : Nat) (hc : (Tx.ns D)[k]? = some c) (hd : ¬ Tx.isd c) => Prod.mk.inj (hr.out.trans (Tx.prs_no (g := g) hc hd)))
  have HF := Lib.hid (fun (hb : ¬ Tx.bad (Tx.ns D) g) (h : ∀ c ∈ Tx.ns D, Tx.isd c) => hr.out.trans (Tx.prs_ok hb h))
  clear hr
  go_enter Try.func6, Try.ntmps6
  by_cases h45 : ∃ h : 0 < s.size, s[0].toNat = 45
  case' pos =>
    obtain ⟨hs, h45⟩ := h45
    obtain ⟨hx, hg⟩ := Prod.mk.inj (hD.out.trans (Tx.cut_neg s hs h45))
    have HX := Lib.hid hx
    have HG := Lib.hid hg
    clear hx hg
    have h45' : ((s[0].toNat : Nat) : Int) = 45 := by omega
    go_upto_region 4 with (first | fail | (first | ((with_reducible refine g_ld ?_); refine a_ld HM ?_) | ((with_reducible refine g_st ?_); refine a_st HM ?_; clear HM; intro w1 HM) | ((with_reducible refine g_al ?_); refine a_al HM ?_; clear HM; intro bk w1 HM) | ((with_reducible refine g_bx ?_); refine a_bx HM ?_; clear HM; intro bk w1 HM) | ((with_reducible refine g_bld ?_); refine a_bld ?_)))
    rw [← HX.out]
    clear h45' h45 hs
  case' neg =>
    obtain ⟨hx, hg⟩ := Prod.mk.inj (hD.out.trans (Tx.cut_pos s (fun h h2 => h45 ⟨h, h2⟩)))
    subst hx
    have HG := Lib.hid hg
    clear hg
    by_cases hs : 0 < D.size
    case neg =>
      have h0 : D.size = 0 := by omega
      have hb : Tx.bad (Tx.ns D) g := .inl (by rw [hln]; exact h0)
      obtain ⟨rfl, rfl⟩ := HE.out hb
      clear HE HN HF hb h45 hs hln HG hD
      obtain rfl : D = { data := #[] } := by
        cases D with
        | mk d =>
          have h1 : d.size = 0 := h0
          rw [Array.size_eq_zero_iff.1 h1]
      go_wp2_with (first | fail | (first | ((with_reducible refine g_ld ?_); refine a_ld HM ?_) | ((with_reducible refine g_st ?_); refine a_st HM ?_; clear HM; intro w1 HM) | ((with_reducible refine g_al ?_); refine a_al HM ?_; clear HM; intro bk w1 HM) | ((with_reducible refine g_bx ?_); refine a_bx HM ?_; clear HM; intro bk w1 HM) | ((with_reducible refine g_bld ?_); refine a_bld ?_)))
      refine bodyPost_ret (r_ct rfl rfl (HM.get (by ((repeat (first | exact Look.here | refine Look.there ?_)); done))) (la_z _)) rfl ⟨rfl, HM.low⟩
    case' pos =>
      have h45' : ¬ ((D[0].toNat : Nat) : Int) = 45 := fun h => h45 ⟨hs, by omega⟩
      have h45b : (((D[0].toNat : Nat) : Int) == 45) = false := by simpa using h45'
      go_upto_region 4 with (first | fail | (first | ((with_reducible refine g_ld ?_); refine a_ld HM ?_) | ((with_reducible refine g_st ?_); refine a_st HM ?_; clear HM; intro w1 HM) | ((with_reducible refine g_al ?_); refine a_al HM ?_; clear HM; intro bk w1 HM) | ((with_reducible refine g_bx ?_); refine a_bx HM ?_; clear HM; intro bk w1 HM) | ((with_reducible refine g_bld ?_); refine a_bld ?_)))
      clear h45b h45' h45
  all_goals
    obtain ⟨br, hbr⟩ := HM.nm0
    subst hbr
    by_cases hb : Tx.bad (Tx.ns D) g
    · obtain ⟨rfl, rfl⟩ := HE.out hb
      clear HE HN HF
      unfold Tx.bad at hb
      rw [hln] at hb
      by_cases h0 : D.size = 0
      · have h0' : (D.size : Int) = 0 := by omega
        go_wp2_with (first | fail | (first | ((with_reducible refine g_ld ?_); refine a_ld HM ?_) | ((with_reducible refine g_st ?_); refine a_st HM ?_; clear HM; intro w1 HM) | ((with_reducible refine g_al ?_); refine a_al HM ?_; clear HM; intro bk w1 HM) | ((with_reducible refine g_bx ?_); refine a_bx HM ?_; clear HM; intro bk w1 HM) | ((with_reducible refine g_bld ?_); refine a_bld ?_)))
        refine bodyPost_ret (r_ct (b := br) (k := 0) rfl rfl (HM.get (by ((repeat (first | exact Look.here | refine Look.there ?_)); done))) (la_z _)) rfl ⟨rfl, HM.low⟩
      · have h0' : ¬ (D.size : Int) = 0 := by omega
        have h0b : ((D.size : Int) == 0) = false := by simpa using h0
        have hp : 0 < D.size := by omega
        by_cases h1 : 309 < D.size
        · have h1' : (309 : Int) < D.size := by omega
          have h1b : decide ((309 : Int) < D.size) = true := decide_eq_true h1'
          go_wp2_with (first | fail | (first | ((with_reducible refine g_ld ?_); refine a_ld HM ?_) | ((with_reducible refine g_st ?_); refine a_st HM ?_; clear HM; intro w1 HM) | ((with_reducible refine g_al ?_); refine a_al HM ?_; clear HM; intro bk w1 HM) | ((with_reducible refine g_bx ?_); refine a_bx HM ?_; clear HM; intro bk w1 HM) | ((with_reducible refine g_bld ?_); refine a_bld ?_)))
          refine bodyPost_ret (r_ct (b := br) (k := 0) rfl rfl (HM.get (by ((repeat (first | exact Look.here | refine Look.there ?_)); done))) (la_z _)) rfl ⟨rfl, HM.low⟩
        · have h1' : (D.size : Int) ≤ 309 := by omega
          have h1b : decide ((309 : Int) < D.size) = false := by simp; omega
          have hb3 := (hb.resolve_left h0).resolve_left h1
          rw [Tx.ns_get D hp, HG.out] at hb3
          have h48 : ((D[0].toNat : Nat) : Int) = 48 := by have := hb3.1; injection this with this; omega
          have hor := hb3.2
          clear hb hb3
          have h48b : (((D[0].toNat : Nat) : Int) == 48) = true := by simpa using h48
          first
            | (have hor2 : (1 : Int) < D.size := by (simp at hor; omega)
               have hor3 : decide ((1 : Int) < D.size) = true := by (simp; omega)
               clear hor)
            | clear hor
          go_wp2_with (first | fail | (first | ((with_reducible refine g_ld ?_); refine a_ld HM ?_) | ((with_reducible refine g_st ?_); refine a_st HM ?_; clear HM; intro w1 HM) | ((with_reducible refine g_al ?_); refine a_al HM ?_; clear HM; intro bk w1 HM) | ((with_reducible refine g_bx ?_); refine a_bx HM ?_; clear HM; intro bk w1 HM) | ((with_reducible refine g_bld ?_); refine a_bld ?_)))
          refine bodyPost_ret (r_ct (b := br) (k := 0) rfl rfl (HM.get (by ((repeat (first | exact Look.here | refine Look.there ?_)); done))) (la_z _)) rfl ⟨rfl, HM.low⟩
    · have HF2 := Lib.hid (HF.out hb)
      have hb2 := hb
      unfold Tx.bad at hb2
      rw [hln] at hb2
      clear HE HF hb
      have h0 : ¬ D.size = 0 := fun h => hb2 (.inl h)
      have h0' : ¬ (D.size : Int) = 0 := by omega
      have h0b : ((D.size : Int) == 0) = false := by simpa using h0
      have hp : 0 < D.size := by omega
      have h1 : (D.size : Int) ≤ 309 := by
        have : ¬ 309 < D.size := fun h => hb2 (.inr (.inl h))
        omega
      have h1b : decide ((309 : Int) < D.size) = false := by simp; omega
      rw [Tx.ns_get D hp, HG.out] at hb2
      by_cases h48 : ((D[0].toNat : Nat) : Int) = 48
      case' pos =>
        have h48b : (((D[0].toNat : Nat) : Int) == 48) = true := by simpa using h48
        have h2 : ¬ (1 : Int) < D.size := fun h => hb2 (.inr (.inr ⟨by congr 1; omega, .inr (by omega)⟩))
        have h2b : decide ((1 : Int) < D.size) = false := by simpa using h2
        first
          | (exfalso; exact hb2 (.inr (.inr ⟨by congr 1; omega, .inl rfl⟩)); done)
          | (clear hb2
             go_upto_region 6 with (first | fail | (first | ((with_reducible refine g_ld ?_); refine a_ld HM ?_) | ((with_reducible refine g_st ?_); refine a_st HM ?_; clear HM; intro w1 HM) | ((with_reducible refine g_al ?_); refine a_al HM ?_; clear HM; intro bk w1 HM) | ((with_reducible refine g_bx ?_); refine a_bx HM ?_; clear HM; intro bk w1 HM) | ((with_reducible refine g_bld ?_); refine a_bld ?_)))
             clear h48b h2b h48 h2)
      case' neg =>
        have h48b : (((D[0].toNat : Nat) : Int) == 48) = false := by simpa using h48
        clear hb2
        go_upto_region 6 with (first | fail | (first | ((with_reducible refine g_ld ?_); refine a_ld HM ?_) | ((with_reducible refine g_st ?_); refine a_st HM ?_; clear HM; intro w1 HM) | ((with_reducible refine g_al ?_); refine a_al HM ?_; clear HM; intro bk w1 HM) | ((with_reducible refine g_bx ?_); refine a_bx HM ?_; clear HM; intro bk w1 HM) | ((with_reducible refine g_bld ?_); refine a_bld ?_)))
        clear h48b h48
      all_goals
        clear h0b h0' h1b
        go_wp2_with (first | fail | (first | ((with_reducible refine g_ld ?_); refine a_ld HM ?_) | ((with_reducible refine g_st ?_); refine a_st HM ?_; clear HM; intro w1 HM) | ((with_reducible refine g_al ?_); refine a_al HM ?_; clear HM; intro bk w1 HM) | ((with_reducible refine g_bx ?_); refine a_bx HM ?_; clear HM; intro bk w1 HM) | ((with_reducible refine g_bld ?_); refine a_bld ?_)))
        go_loopw [3, 5] (fun r3 i wr => r3 = .int .i64 0 ∧ ∃ k : Nat, k ≤ D.size ∧ i = .int .i64 (k : Nat) ∧ Hid (∀ c ∈ (Tx.ns D).take k, Tx.isd c) ∧ Mem w [] [(br, Bg.zA 0)] wr) (fun _ i _ => D.size - (intOf i).toNat)
        case atStart => exact ⟨rfl, 0, by omega, rfl, Lib.hid (by simp), HM⟩
        case round =>
          clear HM
          obtain ⟨rfl, k, hk, rfl, HP, HM⟩ := hrel
          by_cases hlt : k < D.size
          · have hc := Tx.ns_get D hlt
            have hlt2 : (k : Int) < D.size := by omega
            by_cases hd : Tx.isd (D[k].toNat)
            · have h3 : (48 : Int) ≤ (D[k].toNat : Nat) := by have := hd.1; omega
              have h4 : ((D[k].toNat : Nat) : Int) ≤ 57 := by have := hd.2; omega
              have HS : Hid (∀ c ∈ (Tx.ns D).take (k + 1), Tx.isd c) := Lib.hid (by
                rw [Tx.take_succ hc]; intro c hcm
                rcases List.mem_append.1 hcm with hcm | hcm
                · exact HP.out c hcm
                · rw [List.mem_singleton.1 hcm]; exact hd)
              go_wp2_with (first | fail | (first | ((with_reducible refine g_ld ?_); refine a_ld HM ?_) | ((with_reducible refine g_st ?_); refine a_st HM ?_; clear HM; intro w1 HM) | ((with_reducible refine g_al ?_); refine a_al HM ?_; clear HM; intro bk w1 HM) | ((with_reducible refine g_bx ?_); refine a_bx HM ?_; clear HM; intro bk w1 HM) | ((with_reducible refine g_bld ?_); refine a_bld ?_)))
              go_roundw
              case rel => exact ⟨rfl, k + 1, by omega, by go_num, HS, HM⟩
              case measure => simp [intOf]; omega
            · obtain ⟨rfl, rfl⟩ := HN.out k _ hc hd
              by_cases h3 : ((D[k].toNat : Nat) : Int) < 48
              · go_wp2_with (first | fail | (first | ((with_reducible refine g_ld ?_); refine a_ld HM ?_) | ((with_reducible refine g_st ?_); refine a_st HM ?_; clear HM; intro w1 HM) | ((with_reducible refine g_al ?_); refine a_al HM ?_; clear HM; intro bk w1 HM) | ((with_reducible refine g_bx ?_); refine a_bx HM ?_; clear HM; intro bk w1 HM) | ((with_reducible refine g_bld ?_); refine a_bld ?_)))
                refine bodyPost_ret (r_ct (b := br) (k := 0) rfl rfl (HM.get (by ((repeat (first | exact Look.here | refine Look.there ?_)); done))) (la_z _)) rfl ⟨rfl, HM.low⟩
              · have h4 : (57 : Int) < (D[k].toNat : Nat) := by
                  unfold Tx.isd at hd; omega
                go_wp2_with (first | fail | (first | ((with_reducible refine g_ld ?_); refine a_ld HM ?_) | ((with_reducible refine g_st ?_); refine a_st HM ?_; clear HM; intro w1 HM) | ((with_reducible refine g_al ?_); refine a_al HM ?_; clear HM; intro bk w1 HM) | ((with_reducible refine g_bx ?_); refine a_bx HM ?_; clear HM; intro bk w1 HM) | ((with_reducible refine g_bld ?_); refine a_bld ?_)))
                refine bodyPost_ret (r_ct (b := br) (k := 0) rfl rfl (HM.get (by ((repeat (first | exact Look.here | refine Look.there ?_)); done))) (la_z _)) rfl ⟨rfl, HM.low⟩
          · obtain rfl : k = D.size := by omega
            have hall : ∀ c ∈ Tx.ns D, Tx.isd c := by
              have := HP.out
              rwa [List.take_of_length_le (by omega)] at this
            have HA := Lib.hid hall
            have HZ := Lib.hid (HF2.out hall)
            clear hall HF2 HN HP hk hlt
            go_wp2_with (first | fail | (first | ((with_reducible refine g_ld ?_); refine a_ld HM ?_) | ((with_reducible refine g_st ?_); refine a_st HM ?_; clear HM; intro w1 HM) | ((with_reducible refine g_al ?_); refine a_al HM ?_; clear HM; intro bk w1 HM) | ((with_reducible refine g_bx ?_); refine a_bx HM ?_; clear HM; intro bk w1 HM) | ((with_reducible refine g_bld ?_); refine a_bld ?_)))
            obtain ⟨bx, hbx⟩ := HM.nm0
            subst hbx
            go_loopw [3, 7] (fun r3 i wr => r3 = .int .i64 0 ∧ ∃ (k M : Nat), k ≤ D.size ∧ i = .int .i64 (k : Nat) ∧ Hid (M = Tx.num ((Tx.ns D).take k)) ∧ Hid (M < Bg.lim) ∧ Mem w [] [(bx, Bg.zA (M : Nat)), (br, Bg.zA 0)] wr) (fun _ i _ => D.size - (intOf i).toNat)
            case atStart => exact ⟨rfl, 0, 0, by omega, rfl, Lib.hid rfl, Lib.hid (Bg.ppos 32), HM⟩
            case round =>
              clear HM
              obtain ⟨rfl, k, M, hk, rfl, HMk, HL, HM⟩ := hrel
              by_cases hlt : k < D.size
              · have hlt2 : (k : Int) < D.size := by omega
                have hc := Tx.ns_get D hlt
                have hd := HA.out _ (List.mem_of_getElem? hc)
                have h3 : (48 : Int) ≤ (D[k].toNat : Nat) := by have := hd.1; omega
                have h4 : ((D[k].toNat : Nat) : Int) ≤ 57 := by have := hd.2; omega
                obtain ⟨z1, hz1⟩ : ∃ x, Hid (x = ((M : Nat) : Int) * 10) := ⟨_, rfl⟩
                obtain ⟨v1, hv1⟩ : ∃ x, Hid (x = Bg.resZ z1) := ⟨_, rfl⟩
                obtain ⟨e1, he1⟩ : ∃ x, Hid (x = Bg.resE z1) := ⟨_, rfl⟩
                obtain ⟨z2, hz2⟩ : ∃ x, Hid (x = v1 + (((D[k].toNat : Nat) : Int) - 48)) := ⟨_, Lib.hid rfl⟩
                obtain ⟨v2, hv2⟩ : ∃ x, Hid (x = Bg.resZ z2) := ⟨_, rfl⟩
                obtain ⟨e2, he2⟩ : ∃ x, Hid (x = Bg.resE z2) := ⟨_, rfl⟩
                have HT := Lib.hid (Tx.two (v1 := v1) (e1 := e1) (v2 := v2) (e2 := e2) hc hd (by rw [hv1.out, hz1.out, HMk.out]) (by rw [he1.out, hz1.out, HMk.out]) (by rw [hv2.out, hz2.out]) (by rw [he2.out, hz2.out]))
                have lM : ((M : Nat) : Int).natAbs < Bg.lim := by rw [Int.natAbs_natCast]; exact HL.out
                have l10 : (10 : Int).natAbs < Bg.lim := small_lim (by decide)
                have lc : (((D[k].toNat : Nat) : Int) - 48).natAbs < Bg.lim := small_lim (by omega)
                have l1 : v1.natAbs < Bg.lim := by
                  rw [hv1.out]; unfold Bg.resZ; split
                  · assumption
                  · exact Bg.ppos 32
                have hwr : Hid (IntKind.i64.wrap (IntKind.u8.wrap (((D[k].toNat : Nat) : Int) - 48)) = ((D[k].toNat : Nat) : Int) - 48) := Lib.hid (by
                  rw [IntWalk.u8_in _ (by omega), IntWalk.i64_in _ (by omega)])
                clear hd
                go_upto_region 15 with (first | fail | (first | ((with_reducible refine g_ld ?_); refine a_ld HM ?_) | ((with_reducible refine g_st ?_); refine a_st HM ?_; clear HM; intro w1 HM) | ((with_reducible refine g_al ?_); refine a_al HM ?_; clear HM; intro bk w1 HM) | ((with_reducible refine g_bx ?_); refine a_bx HM ?_; clear HM; intro bk w1 HM) | ((with_reducible refine g_bld ?_); refine a_bld ?_)))
                go_cut [8, 9] (fun p e wc => ∃ b8, p = .pointer (some ⟨b8, 0, none⟩) ∧ e = .int .i64 e1 ∧ Mem w [] [(b8, Bg.zA v1), (bx, Bg.zA (M : Nat)), (br, Bg.zA 0)] wc)
                case first =>
                  refine start_M [7] HM (by kernel_rfl) (fun w0x H9 => ?_)
                  replace HM := H9; clear H9
                  refine k_ld 0 [2, 3, 4, 5, 7, 8] (heldE HM) ?_
                  refine j_two 1 6 ?_ ?_
                  · refine j_call1 (v := ?_) HM ?_ ?_; rotate_left 1; (focus (with_reducible (first | exact rfromInt_z 10 (by omega) (by omega) _ | exact rmul_zz _ _ z1 v1 e1 lM l10 hz1 hv1 he1 _))); clear HM; intro w1 HM
                    refine ⟨(heldE HM), ?_⟩
                    refine j_two 2 6 ?_ ?_
                    · refine j_call2 (v := ?_) HM ?_ ?_; rotate_left 1; (focus (with_reducible (first | exact rfromInt_z 10 (by omega) (by omega) _ | exact rmul_zz _ _ z1 v1 e1 lM l10 hz1 hv1 he1 _))); clear HM; intro w1 HM
                      refine ⟨(heldE HM), ?_⟩
                      refine k_mv 3 (heldE HM) ?_
                      refine k_ext 4 (heldE HM) ?_
                      refine k_ext 5 (heldE HM) ?_
                      refine j_one 6 fun K9 hK9 => ?_
                      refine j_al HM ?_; clear HM; intro bk w1 HM
                      refine hK9 _ _ (heldE HM) ?_; clear hK9 K9
                      refine j_one 7 fun K9 hK9 => ?_
                      refine j_st HM ?_; clear HM; intro w1 HM
                      refine hK9 _ _ heldN ?_; clear hK9 K9
                      refine k_mv 8 heldN ?_
                      refine wpAnyL_done (by kernel_rfl) ?_ _
                      (go_wp2_with fail; go_meet; (case rel => exact ⟨_, rfl, rfl, HM.pick⟩))
                    · refine j_al HM ?_; clear HM; intro bk w1 HM
                      refine ⟨(heldE HM), ?_⟩
                      refine j_one 2 fun K9 hK9 => ?_
                      refine j_call2 (v := ?_) HM ?_ ?_; rotate_left 1; (focus (with_reducible (first | exact rfromInt_z 10 (by omega) (by omega) _ | exact rmul_zz _ _ z1 v1 e1 lM l10 hz1 hv1 he1 _))); clear HM; intro w1 HM
                      refine hK9 _ _ (heldE HM) ?_; clear hK9 K9
                      refine k_mv 3 (heldE HM) ?_
                      refine k_ext 4 (heldE HM) ?_
                      refine k_ext 5 (heldE HM) ?_
                      refine j_one 7 fun K9 hK9 => ?_
                      refine j_st HM ?_; clear HM; intro w1 HM
                      refine hK9 _ _ heldN ?_; clear hK9 K9
                      refine k_mv 8 heldN ?_
                      refine wpAnyL_done (by kernel_rfl) ?_ _
                      (go_wp2_with fail; go_meet; (case rel => exact ⟨_, rfl, rfl, HM.pick⟩))
                  · refine j_al HM ?_; clear HM; intro bk w1 HM
                    refine ⟨(heldE HM), ?_⟩
                    refine j_one 1 fun K9 hK9 => ?_
                    refine j_call1 (v := ?_) HM ?_ ?_; rotate_left 1; (focus (with_reducible (first | exact rfromInt_z 10 (by omega) (by omega) _ | exact rmul_zz _ _ z1 v1 e1 lM l10 hz1 hv1 he1 _))); clear HM; intro w1 HM
                    refine hK9 _ _ (heldE HM) ?_; clear hK9 K9
                    refine j_one 2 fun K9 hK9 => ?_
                    refine j_call2 (v := ?_) HM ?_ ?_; rotate_left 1; (focus (with_reducible (first | exact rfromInt_z 10 (by omega) (by omega) _ | exact rmul_zz _ _ z1 v1 e1 lM l10 hz1 hv1 he1 _))); clear HM; intro w1 HM
                    refine hK9 _ _ (heldE HM) ?_; clear hK9 K9
                    refine k_mv 3 (heldE HM) ?_
                    refine k_ext 4 (heldE HM) ?_
                    refine k_ext 5 (heldE HM) ?_
                    refine j_one 7 fun K9 hK9 => ?_
                    refine j_st HM ?_; clear HM; intro w1 HM
                    refine hK9 _ _ heldN ?_; clear hK9 K9
                    refine k_mv 8 heldN ?_
                    refine wpAnyL_done (by kernel_rfl) ?_ _
                    (go_wp2_with fail; go_meet; (case rel => exact ⟨_, rfl, rfl, HM.pick⟩))
                case rest =>
                  clear HM
                  obtain ⟨b8, rfl, rfl, HM⟩ := hcut
                  go_upto_region 16 with fail
                  go_cut [10, 11] (fun p e wc => ∃ b10, p = .pointer (some ⟨b10, 0, none⟩) ∧ e = .int .i64 e2 ∧ Mem w [] [(b10, Bg.zA v2), (b8, Bg.zA v1), (bx, Bg.zA (M : Nat)), (br, Bg.zA 0)] wc)
                  case first =>
                    refine start_M [12] HM (by kernel_rfl) (fun w0x H9 => ?_)
                    replace HM := H9; clear H9
                    refine k_ld 0 [7, 8, 9, 10, 12, 13] (heldE HM) ?_
                    refine k_mv 1 (heldE HM) ?_
                    refine k_mv 2 (heldE HM) ?_
                    refine k_pv 3 (heldE HM) ?_
                    refine k_sub 4 (heldE HM) ?_
                    refine k_cv 5 (heldE HM) ?_
                    refine j_two 6 11 ?_ ?_
                    · refine j_call1 (v := ?_) HM ?_ ?_; rotate_left 1; (focus (with_reducible (first | exact rfromInt_w _ _ hwr (by omega) (by omega) _ | exact radd_zz _ _ z2 v2 e2 l1 lc hz2 hv2 he2 _))); clear HM; intro w1 HM
                      refine ⟨(heldE HM), ?_⟩
                      refine j_two 7 11 ?_ ?_
                      · refine j_call2 (v := ?_) HM ?_ ?_; rotate_left 1; (focus (with_reducible (first | exact rfromInt_w _ _ hwr (by omega) (by omega) _ | exact radd_zz _ _ z2 v2 e2 l1 lc hz2 hv2 he2 _))); clear HM; intro w1 HM
                        refine ⟨(heldE HM), ?_⟩
                        refine k_mv 8 (heldE HM) ?_
                        refine k_ext 9 (heldE HM) ?_
                        refine k_ext 10 (heldE HM) ?_
                        refine j_one 11 fun K9 hK9 => ?_
                        refine j_al HM ?_; clear HM; intro bk w1 HM
                        refine hK9 _ _ (heldE HM) ?_; clear hK9 K9
                        refine j_one 12 fun K9 hK9 => ?_
                        refine j_st HM ?_; clear HM; intro w1 HM
                        refine hK9 _ _ heldN ?_; clear hK9 K9
                        refine k_mv 13 heldN ?_
                        refine wpAnyL_done (by kernel_rfl) ?_ _
                        (go_wp2_with fail; go_meet; (case rel => exact ⟨_, rfl, rfl, HM.pick⟩))
                      · refine j_al HM ?_; clear HM; intro bk w1 HM
                        refine ⟨(heldE HM), ?_⟩
                        refine j_one 7 fun K9 hK9 => ?_
                        refine j_call2 (v := ?_) HM ?_ ?_; rotate_left 1; (focus (with_reducible (first | exact rfromInt_w _ _ hwr (by omega) (by omega) _ | exact radd_zz _ _ z2 v2 e2 l1 lc hz2 hv2 he2 _))); clear HM; intro w1 HM
                        refine hK9 _ _ (heldE HM) ?_; clear hK9 K9
                        refine k_mv 8 (heldE HM) ?_
                        refine k_ext 9 (heldE HM) ?_
                        refine k_ext 10 (heldE HM) ?_
                        refine j_one 12 fun K9 hK9 => ?_
                        refine j_st HM ?_; clear HM; intro w1 HM
                        refine hK9 _ _ heldN ?_; clear hK9 K9
                        refine k_mv 13 heldN ?_
                        refine wpAnyL_done (by kernel_rfl) ?_ _
                        (go_wp2_with fail; go_meet; (case rel => exact ⟨_, rfl, rfl, HM.pick⟩))
                    · refine j_al HM ?_; clear HM; intro bk w1 HM
                      refine ⟨(heldE HM), ?_⟩
                      refine j_one 6 fun K9 hK9 => ?_
                      refine j_call1 (v := ?_) HM ?_ ?_; rotate_left 1; (focus (with_reducible (first | exact rfromInt_w _ _ hwr (by omega) (by omega) _ | exact radd_zz _ _ z2 v2 e2 l1 lc hz2 hv2 he2 _))); clear HM; intro w1 HM
                      refine hK9 _ _ (heldE HM) ?_; clear hK9 K9
                      refine j_one 7 fun K9 hK9 => ?_
                      refine j_call2 (v := ?_) HM ?_ ?_; rotate_left 1; (focus (with_reducible (first | exact rfromInt_w _ _ hwr (by omega) (by omega) _ | exact radd_zz _ _ z2 v2 e2 l1 lc hz2 hv2 he2 _))); clear HM; intro w1 HM
                      refine hK9 _ _ (heldE HM) ?_; clear hK9 K9
                      refine k_mv 8 (heldE HM) ?_
                      refine k_ext 9 (heldE HM) ?_
                      refine k_ext 10 (heldE HM) ?_
                      refine j_one 12 fun K9 hK9 => ?_
                      refine j_st HM ?_; clear HM; intro w1 HM
                      refine hK9 _ _ heldN ?_; clear hK9 K9
                      refine k_mv 13 heldN ?_
                      refine wpAnyL_done (by kernel_rfl) ?_ _
                      (go_wp2_with fail; go_meet; (case rel => exact ⟨_, rfl, rfl, HM.pick⟩))
                  case rest =>
                    clear HM
                    obtain ⟨b10, rfl, rfl, HM⟩ := hcut
                    go_step
                    rcases HT.out with ⟨rfl, rfl, rfl, hl⟩ | ⟨hee, hl⟩
                    · have HL2 := Lib.hid hl
                      clear hl
                      go_wp2_with (first | fail | (first | ((with_reducible refine g_ld ?_); refine a_ld HM ?_) | ((with_reducible refine g_st ?_); refine a_st HM ?_; clear HM; intro w1 HM) | ((with_reducible refine g_al ?_); refine a_al HM ?_; clear HM; intro bk w1 HM) | ((with_reducible refine g_bx ?_); refine a_bx HM ?_; clear HM; intro bk w1 HM) | ((with_reducible refine g_bld ?_); refine a_bld ?_)))
                      go_roundw
                      case rel => exact ⟨rfl, k + 1, _, by omega, by go_num, Lib.hid rfl, HL2, HM.pick⟩
                      case measure => simp [intOf]; omega
                    · have hze := HZ.out
                      rw [if_neg (by omega)] at hze
                      obtain ⟨rfl, rfl⟩ := Prod.mk.inj hze
                      clear hl hze
                      rcases hee with rfl | ⟨rfl, rfl⟩
                      · go_wp2_with (first | fail | (first | ((with_reducible refine g_ld ?_); refine a_ld HM ?_) | ((with_reducible refine g_st ?_); refine a_st HM ?_; clear HM; intro w1 HM) | ((with_reducible refine g_al ?_); refine a_al HM ?_; clear HM; intro bk w1 HM) | ((with_reducible refine g_bx ?_); refine a_bx HM ?_; clear HM; intro bk w1 HM) | ((with_reducible refine g_bld ?_); refine a_bld ?_)))
                        refine bodyPost_ret (r_ct (b := br) (k := 0) rfl rfl (HM.get (by ((repeat (first | exact Look.here | refine Look.there ?_)); done))) (la_z _)) rfl ⟨rfl, HM.low⟩
                      · go_wp2_with (first | fail | (first | ((with_reducible refine g_ld ?_); refine a_ld HM ?_) | ((with_reducible refine g_st ?_); refine a_st HM ?_; clear HM; intro w1 HM) | ((with_reducible refine g_al ?_); refine a_al HM ?_; clear HM; intro bk w1 HM) | ((with_reducible refine g_bx ?_); refine a_bx HM ?_; clear HM; intro bk w1 HM) | ((with_reducible refine g_bld ?_); refine a_bld ?_)))
                        refine bodyPost_ret (r_ct (b := br) (k := 0) rfl rfl (HM.get (by ((repeat (first | exact Look.here | refine Look.there ?_)); done))) (la_z _)) rfl ⟨rfl, HM.low⟩
              · obtain rfl : k = D.size := by omega
                have hMk := HMk.out
                rw [List.take_of_length_le (by omega)] at hMk
                have hze := HZ.out
                rw [if_pos (by rw [← hMk]; exact HL.out), ← hMk] at hze
                obtain ⟨rfl, rfl⟩ := Prod.mk.inj hze
                have lM : ((M : Nat) : Int).natAbs < Bg.lim := by rw [Int.natAbs_natCast]; exact HL.out
                have hzz : Hid (Bg.toZ g M = Bg.toZ g ((M : Nat) : Int).natAbs) := Lib.hid (by rw [Int.natAbs_natCast])
                have HG2 := Lib.hid HG.out.symm
                clear hze hMk HZ
                go_wp2_with (first | first | (go_at_call 21; ((with_reducible refine (rcanon_t _ g HG2 _ _ lM hzz _).mono ?_); rintro e9 w2 ⟨rfl, hL⟩; replace HM := HM.call hL; clear hL)) | (go_at_call 21; ((with_reducible refine (rcanon_t _ g HG2 M _ HL.out (Lib.hid rfl) _).mono ?_); rintro e9 w2 ⟨rfl, hL⟩; replace HM := HM.call hL; clear hL)) | (first | ((with_reducible refine g_ld ?_); refine a_ld HM ?_) | ((with_reducible refine g_st ?_); refine a_st HM ?_; clear HM; intro w1 HM) | ((with_reducible refine g_al ?_); refine a_al HM ?_; clear HM; intro bk w1 HM) | ((with_reducible refine g_bx ?_); refine a_bx HM ?_; clear HM; intro bk w1 HM) | ((with_reducible refine g_bld ?_); refine a_bld ?_)))
                refine bodyPost_ret (r_ct (b := br) (k := 0) rfl rfl (HM.get (by ((repeat (first | exact Look.here | refine Look.there ?_)); done))) (la_z _)) rfl ⟨rfl, HM.low⟩
end Go.Proofs.Ytnfojnlcclccbaa
