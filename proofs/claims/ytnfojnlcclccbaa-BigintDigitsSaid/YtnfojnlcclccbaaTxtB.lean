/- Parse of the program. -/
import Derived.Test.YtnfojnlcclccbaaTxtA
import Derived.Test.YtnfojnlcclccbaaEngE
import Derived.Lib.Small
import Derived.Lib.SlicesS
namespace Go.Proofs.Ytnfojnlcclccbaa
set_option maxRecDepth 8000
open Go.RowKit
theorem belt {f : FuncId} {args : Array Value} {v : Value} {w : World} (h : Calls Try.prog f args w fun e w' => e = .returned v ∧ w = w') : Calls Try.prog f args w fun e w' => e = .returned v ∧ Below w.heap.size w w' := h.mono (by rintro e w' ⟨rfl, rfl⟩; exact ⟨rfl, Below.refl _ _⟩)
theorem hp_any (s : ByteArray) (w : World) :
    Calls Try.prog 45 #[.string s, .string { data := #[45] }] w fun e w' => e = .returned (.bool (Lib.hasPrefix s.data.toList [45])) ∧ w = w' := by
  have hraw := Lib.hasPrefix_raw s { data := #[45] }
  have hsz : ({ data := #[45] } : ByteArray).size = 1 := rfl
  rw [hsz] at hraw
  go_enter Try.func45, Try.ntmps45
  by_cases h : 1 ≤ s.size
  · go_wp2
    go_ret
    refine ⟨?_, rfl⟩
    show Ending.returned (Value.bool ((s.extract 0 1).toList == [45])) = _
    refine ret_bool ?_
    simpa [h] using hraw
  · go_wp2
    go_ret
    refine ⟨?_, rfl⟩
    show Ending.returned (Value.bool false) = _
    refine ret_bool ?_
    simpa [h] using hraw
theorem cp0_any (s : ByteArray) (w : World) :
    Calls Try.prog 33 #[.string s, .string { data := #[45] }] w fun e w' => e = .returned (.tuple #[.string ⟨(Lib.trimPrefix s.data.toList [45]).toArray⟩, .bool (Lib.hasPrefix s.data.toList [45])]) ∧ w = w' := by
  have hraw := Lib.hasPrefix_raw s { data := #[45] }
  have hsz : ({ data := #[45] } : ByteArray).size = 1 := rfl
  rw [hsz] at hraw
  have HH := Lib.hid (hp_any s w)
  by_cases h : Lib.hasPrefix s.data.toList [45] = true
  · rw [h] at HH
    have hraw2 : (decide (1 ≤ s.size) && ((s.extract 0 1).toList == ({ data := #[45] } : ByteArray).toList)) = true := hraw.trans h
    rw [Bool.and_eq_true, decide_eq_true_iff] at hraw2
    have hle := hraw2.1
    have e := Lib.trimPrefix_hit s { data := #[45] } hraw2.1 hraw2.2
    rw [show ({ data := #[45] } : ByteArray).data.toList = [45] from rfl] at e
    go_enter Try.func33, Try.ntmps33
    go_wp2_with (go_at_call 45; refine (HH.out).mono ?_; rintro e w' ⟨rfl, rfl⟩)
    go_ret2
    rw [e, h]
    exact ⟨rfl, rfl⟩
  · have hf : Lib.hasPrefix s.data.toList [45] = false := by simpa using h
    rw [hf] at HH
    have e := Lib.trimPrefix_miss s { data := #[45] } (hraw.trans hf)
    rw [show ({ data := #[45] } : ByteArray).data.toList = [45] from rfl] at e
    go_enter Try.func33, Try.ntmps33
    go_wp2_with (go_at_call 45; refine (HH.out).mono ?_; rintro e w' ⟨rfl, rfl⟩)
    go_ret2
    rw [e, hf]
    exact ⟨rfl, rfl⟩
def Tx.cut (s : ByteArray) : ByteArray × Bool := (⟨(Lib.trimPrefix s.data.toList [45]).toArray⟩, Lib.hasPrefix s.data.toList [45])
theorem cp_any (s D : ByteArray) (g : Bool) (hD : Hid ((D, g) = Tx.cut s)) (w : World) :
    Calls Try.prog 15 #[.string s, .string { data := #[45] }] w fun e w' => e = .returned (.tuple #[.string D, .bool g]) ∧ w = w' := by
  obtain ⟨rfl, rfl⟩ := Prod.mk.inj hD.out
  have HH := Lib.hid (cp0_any s w)
  go_enter Try.func15, Try.ntmps15
  go_wp2_with (go_at_call 33; refine (HH.out).mono ?_; rintro e w' ⟨rfl, rfl⟩)
  go_ret2
  exact ⟨rfl, rfl⟩
/-- The bytes of a text as numbers. -/
def Tx.ns (D : ByteArray) : List Nat := D.data.toList.map UInt8.toNat
theorem Tx.ns_len (D : ByteArray) : (Tx.ns D).length = D.size := by unfold Tx.ns; rw [List.length_map]; exact Array.length_toList
theorem Tx.ns_get (D : ByteArray) {k : Nat} (h : k < D.size) : (Tx.ns D)[k]? = some D[k].toNat := by
  unfold Tx.ns
  rw [List.getElem?_map, Array.getElem?_toList, Array.getElem?_eq_getElem h]
  rfl
theorem Tx.ns_byte (D : ByteArray) : ∀ c ∈ Tx.ns D, c < 256 := by
  intro c hc
  unfold Tx.ns at hc
  obtain ⟨x, _, rfl⟩ := List.mem_map.1 hc
  exact x.toNat_lt
def Tx.bad (L : List Nat) (g : Bool) : Prop := L.length = 0 ∨ 309 < L.length ∨ (L[0]? = some 48 ∧ (g = true ∨ 1 < L.length))
instance (L : List Nat) (g : Bool) : Decidable (Tx.bad L g) := by unfold Tx.bad; infer_instance
def Tx.isd (c : Nat) : Prop := 48 ≤ c ∧ c ≤ 57
instance (c : Nat) : Decidable (Tx.isd c) := by unfold Tx.isd; infer_instance
/-- The number of a text of digits. -/
def Tx.num (L : List Nat) : Nat := Tx.val (L.map (· - 48))
/-- What Parse answers: the number and the error. -/
def Tx.prs (L : List Nat) (g : Bool) : Int × Int :=
  if Tx.bad L g then (0, 12) else if ∀ c ∈ L, Tx.isd c then (if Tx.num L < Bg.lim then (Bg.toZ g (Tx.num L), 0) else (0, 10)) else (0, 12)
theorem Tx.num_snoc (L : List Nat) (c : Nat) : Tx.num (L ++ [c]) = 10 * Tx.num L + (c - 48) := by
  unfold Tx.num; rw [List.map_append]; exact Tx.val_snoc _ _
theorem Tx.num_take_le (L : List Nat) (k : Nat) : Tx.num (L.take k) ≤ Tx.num L := by
  unfold Tx.num; rw [List.map_take]; exact Tx.val_take_le _ _
theorem Tx.take_succ {L : List Nat} {k c : Nat} (h : L[k]? = some c) : L.take (k + 1) = L.take k ++ [c] := by
  rw [List.take_add_one, h]; rfl
/-- Before byte k: the number so far, taken to 1024 bits, and whether it fits. -/
structure Tx.PrSt (L : List Nat) (k M : Nat) (f : Bool) : Prop where
  dg : ∀ c ∈ L.take k, Tx.isd c
  eq : M = Tx.num (L.take k) % Bg.lim
  fit : f = decide (Tx.num (L.take k) < Bg.lim)
theorem Tx.PrSt.zero (L : List Nat) : Tx.PrSt L 0 0 true := by
  have h0 : Tx.num (L.take 0) = 0 := rfl
  exact ⟨by simp, by rw [h0, Nat.zero_mod], by rw [h0]; exact (decide_eq_true (Bg.ppos 32)).symm⟩
theorem Tx.PrSt.step {L : List Nat} {k M c : Nat} {f : Bool} (h : Tx.PrSt L k M f) (hc : L[k]? = some c) (hd : Tx.isd c) :
    Tx.PrSt L (k + 1) ((M * 10 + (c - 48)) % Bg.lim) (decide (M * 10 + (c - 48) < Bg.lim) && f) := by
  obtain ⟨h1, h2, h3⟩ := h
  have e := Tx.take_succ hc
  have en := Tx.num_snoc (L.take k) c
  refine ⟨?_, ?_, ?_⟩
  · rw [e]; intro d hd2
    rcases List.mem_append.1 hd2 with hd2 | hd2
    · exact h1 d hd2
    · rw [List.mem_singleton.1 hd2]; exact hd
  · rw [e, en, h2, Nat.add_mod, Nat.mul_mod, Nat.mod_mod, ← Nat.mul_mod, ← Nat.add_mod, Nat.mul_comm]
  · rw [e, en, h3]
    by_cases hf : Tx.num (L.take k) < Bg.lim
    · rw [Nat.mod_eq_of_lt hf] at h2
      rw [h2, decide_eq_true hf, Bool.and_true, Nat.mul_comm]
    · rw [decide_eq_false hf, Bool.and_false]
      refine (decide_eq_false ?_).symm
      omega
theorem Tx.PrSt.lt {L : List Nat} {k M : Nat} {f : Bool} (h : Tx.PrSt L k M f) : M < Bg.lim := by rw [h.eq]; exact Nat.mod_lt _ (Bg.ppos 32)
theorem Tx.prs_bad {L : List Nat} {g : Bool} (h : Tx.bad L g) : Tx.prs L g = (0, 12) := by unfold Tx.prs; rw [if_pos h]
theorem Tx.prs_no {L : List Nat} {g : Bool} {k c : Nat} (hc : L[k]? = some c) (hd : ¬ Tx.isd c) : Tx.prs L g = (0, 12) := by
  unfold Tx.prs
  have : ¬ ∀ c ∈ L, Tx.isd c := fun h => hd (h c (List.mem_of_getElem? hc))
  rw [if_neg this, ite_self]
theorem Tx.PrSt.done {L : List Nat} {g : Bool} {k M : Nat} {f : Bool} (h : Tx.PrSt L k M f) (hb : ¬ Tx.bad L g) (hk : L.length ≤ k) :
    Tx.prs L g = if f then (Bg.toZ g M, 0) else (0, 10) := by
  obtain ⟨h1, h2, h3⟩ := h
  rw [List.take_of_length_le hk] at h1 h2 h3
  unfold Tx.prs
  rw [if_neg hb, if_pos h1]
  by_cases hf : Tx.num L < Bg.lim
  · rw [if_pos hf, h3, decide_eq_true hf, if_pos rfl, h2, Nat.mod_eq_of_lt hf]
  · rw [if_neg hf, h3, decide_eq_false hf]; rfl
theorem small_c (b N c : Nat) (t : Bool) {x : Nat} (hN : N < Bg.lim) (hc : Tx.isd c) (hx : Hid (c = x)) (ht : Hid (t = decide (N * 10 + (c - 48) < Bg.lim))) (w : World) (hB : Blk w b (Bg.row 32 N)) :
    Calls Try.prog 16 #[.pointer (some ⟨b, 0, none⟩), .int .u32 10, .int .u32 ((x : Nat) - 48)] w fun e w' => e = .returned (.bool t) ∧ Blk w' b (Bg.row 32 ((N * 10 + (c - 48)) % Bg.lim)) ∧ w.grownBy w' (some b) := by
  obtain rfl := hx.out
  have h := small_any b N 10 (c - 48) hN (by decide) (by have := hc.2; omega) w hB
  rw [show ((c - 48 : Nat) : Int) = (c : Int) - 48 from by have := hc.1; omega] at h
  rw [ht.out]
  exact h
set_option maxRecDepth 20000 in
set_option maxHeartbeats 2000000 in
theorem parse_any (s D : ByteArray) (g : Bool) (hD : Hid ((D, g) = Tx.cut s)) (z e : Int) (hr : Hid ((z, e) = Tx.prs (Tx.ns D) g)) (w : World) :
    Calls Try.prog 5 #[.string s] w fun r w' => r = .returned (.tuple #[.agg (Bg.zA z), .int .i64 e]) ∧ Below w.heap.size w w' := by
  have HM := Mem.start w
  have hln := Tx.ns_len D
  by_cases hb : Tx.bad (Tx.ns D) g
  · obtain ⟨rfl, rfl⟩ := Prod.mk.inj (hr.out.trans (Tx.prs_bad hb))
    have hb2 := hb
    unfold Tx.bad at hb2
    rw [hln] at hb2
    by_cases h0 : D.size = 0
    · obtain rfl : D = { data := #[] } := by
        cases D with
        | mk d =>
          have h1 : d.size = 0 := h0
          rw [Array.size_eq_zero_iff.1 h1]
      go_enter Try.func5, Try.ntmps5
      go_wp2_with (first | (go_at_call 15; ((with_reducible refine (belt (cp_any s _ g hD _)).mono ?_); rintro e9 w2 ⟨rfl, hL⟩; replace HM := HM.call hL; clear hL)) | (first | ((with_reducible refine g_ld ?_); refine a_ld HM ?_) | ((with_reducible refine g_st ?_); refine a_st HM ?_; clear HM; intro w1 HM) | ((with_reducible refine g_al ?_); refine a_al HM ?_; clear HM; intro bk w1 HM) | ((with_reducible refine g_bx ?_); refine a_bx HM ?_; clear HM; intro bk w1 HM) | ((with_reducible refine g_bld ?_); refine a_bld ?_)))
      refine bodyPost_ret (r_ct rfl rfl (HM.get (by ((repeat (first | exact Look.here | refine Look.there ?_)); done))) (la_z _)) rfl ⟨rfl, HM.low⟩
    · have hn : ¬ D.toList = [] := by
        rw [ByteArray.toList_eq]
        intro h; exact h0 (by show D.data.size = 0; rw [← Array.length_toList, h]; rfl)
      have hp : 0 < D.size := by omega
      by_cases h1 : 309 < D.size
      · have h1' : (309 : Int) < D.size := by omega
        go_enter Try.func5, Try.ntmps5
        go_wp2_with (first | (go_at_call 15; ((with_reducible refine (belt (cp_any s _ g hD _)).mono ?_); rintro e9 w2 ⟨rfl, hL⟩; replace HM := HM.call hL; clear hL)) | (first | ((with_reducible refine g_ld ?_); refine a_ld HM ?_) | ((with_reducible refine g_st ?_); refine a_st HM ?_; clear HM; intro w1 HM) | ((with_reducible refine g_al ?_); refine a_al HM ?_; clear HM; intro bk w1 HM) | ((with_reducible refine g_bx ?_); refine a_bx HM ?_; clear HM; intro bk w1 HM) | ((with_reducible refine g_bld ?_); refine a_bld ?_)))
        refine bodyPost_ret (r_ct rfl rfl (HM.get (by ((repeat (first | exact Look.here | refine Look.there ?_)); done))) (la_z _)) rfl ⟨rfl, HM.low⟩
      · have h1' : (D.size : Int) ≤ 309 := by omega
        have hb3 := (hb2.resolve_left h0).resolve_left h1
        rw [Tx.ns_get D hp] at hb3
        have h48 : ((D[0].toNat : Nat) : Int) = 48 := by have := hb3.1; injection this with this; omega
        have hor := hb3.2
        clear hb hb2 hb3
        cases g with
        | true =>
          go_enter Try.func5, Try.ntmps5
          go_wp2_with (first | (go_at_call 15; ((with_reducible refine (belt (cp_any s _ _ hD _)).mono ?_); rintro e9 w2 ⟨rfl, hL⟩; replace HM := HM.call hL; clear hL)) | (first | ((with_reducible refine g_ld ?_); refine a_ld HM ?_) | ((with_reducible refine g_st ?_); refine a_st HM ?_; clear HM; intro w1 HM) | ((with_reducible refine g_al ?_); refine a_al HM ?_; clear HM; intro bk w1 HM) | ((with_reducible refine g_bx ?_); refine a_bx HM ?_; clear HM; intro bk w1 HM) | ((with_reducible refine g_bld ?_); refine a_bld ?_)))
          refine bodyPost_ret (r_ct rfl rfl (HM.get (by ((repeat (first | exact Look.here | refine Look.there ?_)); done))) (la_z _)) rfl ⟨rfl, HM.low⟩
        | false =>
          have hor2 : (1 : Int) < D.size := by simp at hor; omega
          go_enter Try.func5, Try.ntmps5
          go_wp2_with (first | (go_at_call 15; ((with_reducible refine (belt (cp_any s _ _ hD _)).mono ?_); rintro e9 w2 ⟨rfl, hL⟩; replace HM := HM.call hL; clear hL)) | (first | ((with_reducible refine g_ld ?_); refine a_ld HM ?_) | ((with_reducible refine g_st ?_); refine a_st HM ?_; clear HM; intro w1 HM) | ((with_reducible refine g_al ?_); refine a_al HM ?_; clear HM; intro bk w1 HM) | ((with_reducible refine g_bx ?_); refine a_bx HM ?_; clear HM; intro bk w1 HM) | ((with_reducible refine g_bld ?_); refine a_bld ?_)))
          refine bodyPost_ret (r_ct rfl rfl (HM.get (by ((repeat (first | exact Look.here | refine Look.there ?_)); done))) (la_z _)) rfl ⟨rfl, HM.low⟩
  · have hb2 := hb
    unfold Tx.bad at hb2
    rw [hln] at hb2
    have h0 : ¬ D.size = 0 := fun h => hb2 (.inl h)
    have hn : ¬ D.toList = [] := by
      rw [ByteArray.toList_eq]
      intro h; exact h0 (by show D.data.size = 0; rw [← Array.length_toList, h]; rfl)
    have hp : 0 < D.size := by omega
    have h1 : (D.size : Int) ≤ 309 := by
      have : ¬ 309 < D.size := fun h => hb2 (.inr (.inl h))
      omega
    rw [Tx.ns_get D hp] at hb2
    have h48 : ¬ (((D[0].toNat : Nat) : Int) = 48) ∨ (((D[0].toNat : Nat) : Int) = 48 ∧ g = false ∧ ¬ (1 : Int) < D.size) := by
      by_cases h : ((D[0].toNat : Nat) : Int) = 48
      · refine .inr ⟨h, ?_, ?_⟩
        · cases g
          · rfl
          · exact absurd (.inr (.inr ⟨by congr 1; omega, .inl rfl⟩)) hb2
        · intro h2
          exact hb2 (.inr (.inr ⟨by congr 1; omega, .inr (by omega)⟩))
      · exact .inl h
    clear hb2
    have HE := Lib.hid (fun (k M : Nat) (f : Bool) (h : Tx.PrSt (Tx.ns D) k M f) (hk : (Tx.ns D).length ≤ k) => hr.out.trans (h.done hb hk))
    have HN := Lib.hid (fun (k c : Nat) (hc : (Tx.ns D)[k]? = some c) (hd : ¬ Tx.isd c) => Prod.mk.inj (hr.out.trans (Tx.prs_no (g := g) hc hd)))
    rcases h48 with h48 | ⟨h48, rfl, h2⟩
    all_goals
      go_enter Try.func5, Try.ntmps5
      go_wp2_with (first | (go_at_call 15; ((with_reducible refine (belt (cp_any s _ _ hD _)).mono ?_); rintro e9 w2 ⟨rfl, hL⟩; replace HM := HM.call hL; clear hL)) | (first | ((with_reducible refine g_ld ?_); refine a_ld HM ?_) | ((with_reducible refine g_st ?_); refine a_st HM ?_; clear HM; intro w1 HM) | ((with_reducible refine g_al ?_); refine a_al HM ?_; clear HM; intro bk w1 HM) | ((with_reducible refine g_bx ?_); refine a_bx HM ?_; clear HM; intro bk w1 HM) | ((with_reducible refine g_bld ?_); refine a_bld ?_)))
      all_goals try (exfalso; rename_i hq; simp [hn] at hq; omega)
      first | rename D.toList.isEmpty = false ∧ _ => hq | rename (D.toList.isEmpty = false ∧ _) ∧ _ => hq
      clear hq hn
      obtain ⟨bm, hbm⟩ := HM.nm0
      obtain ⟨br, hbr⟩ := HM.nm1
      subst hbm hbr
      clear h48
      go_loopw [3, 7, 38] (fun r3 f i wr => r3 = .int .i64 0 ∧ ∃ (k M : Nat) (b : Bool), k ≤ D.size ∧ f = .bool b ∧ i = .int .i64 (k : Nat) ∧ Hid (Tx.PrSt (Tx.ns D) k M b) ∧ Mem w [] [(bm, Bg.row 32 M), (br, Bg.zA 0)] wr) (fun _ _ i _ => D.size - (intOf i).toNat)
      case atStart => exact ⟨rfl, 0, 0, true, by omega, rfl, rfl, Lib.hid (Tx.PrSt.zero _), HM⟩
      case round =>
        clear HM
        obtain ⟨rfl, k, M, f, hk, rfl, rfl, HP, HM⟩ := hrel
        by_cases hlt : k < D.size
        · have hc := Tx.ns_get D hlt
          have hlt2 : (k : Int) < D.size := by omega
          obtain ⟨c, hcc⟩ : ∃ c, c = D[k].toNat := ⟨_, rfl⟩
          have h256 : c < 256 := by rw [hcc]; exact D[k].toNat_lt
          rw [← hcc] at hc
          have HC := Lib.hid hcc
          by_cases hd : Tx.isd c
          · have h3 : (48 : Int) ≤ (D[k].toNat : Nat) := by have := hd.1; omega
            have h4 : ((D[k].toNat : Nat) : Int) ≤ 57 := by have := hd.2; omega
            obtain ⟨t, ht⟩ : ∃ t, Hid (t = decide (M * 10 + (c - 48) < Bg.lim)) := ⟨_, rfl⟩
            have HS := Lib.hid (HP.out.step hc hd)
            rw [← ht.out] at HS
            have HL := Lib.hid (HP.out.lt)
            have HD := Lib.hid hd
            cases t <;>
            · go_wp2_with (first | (go_at_call 16; refine (small_c bm M c _ HL.out HD.out HC ht _ (HM.get (by ((repeat (first | exact Look.here | refine Look.there ?_)); done)))).mono ?_; rintro e9 w2 ⟨rfl, hB2, hG⟩; replace HM := HM.put At.here hB2 (Only.of_grown hG); clear hB2 hG) | (first | ((with_reducible refine g_ld ?_); refine a_ld HM ?_) | ((with_reducible refine g_st ?_); refine a_st HM ?_; clear HM; intro w1 HM) | ((with_reducible refine g_al ?_); refine a_al HM ?_; clear HM; intro bk w1 HM) | ((with_reducible refine g_bx ?_); refine a_bx HM ?_; clear HM; intro bk w1 HM) | ((with_reducible refine g_bld ?_); refine a_bld ?_)))
              go_roundw
              case rel => (exact ⟨rfl, k + 1, _, _, by omega, rfl, by go_num, HS, HM⟩)
              case measure => simp [intOf]; omega
          · obtain ⟨rfl, rfl⟩ := HN.out k c hc hd
            by_cases h3 : ((D[k].toNat : Nat) : Int) < 48
            · go_wp2_with (first | fail | (first | ((with_reducible refine g_ld ?_); refine a_ld HM ?_) | ((with_reducible refine g_st ?_); refine a_st HM ?_; clear HM; intro w1 HM) | ((with_reducible refine g_al ?_); refine a_al HM ?_; clear HM; intro bk w1 HM) | ((with_reducible refine g_bx ?_); refine a_bx HM ?_; clear HM; intro bk w1 HM) | ((with_reducible refine g_bld ?_); refine a_bld ?_)))
              refine bodyPost_ret (r_ct (b := br) (k := 0) rfl rfl (HM.get (by ((repeat (first | exact Look.here | refine Look.there ?_)); done))) (la_z _)) rfl ⟨rfl, HM.low⟩
            · have h4 : (57 : Int) < (D[k].toNat : Nat) := by
                unfold Tx.isd at hd; omega
              go_wp2_with (first | fail | (first | ((with_reducible refine g_ld ?_); refine a_ld HM ?_) | ((with_reducible refine g_st ?_); refine a_st HM ?_; clear HM; intro w1 HM) | ((with_reducible refine g_al ?_); refine a_al HM ?_; clear HM; intro bk w1 HM) | ((with_reducible refine g_bx ?_); refine a_bx HM ?_; clear HM; intro bk w1 HM) | ((with_reducible refine g_bld ?_); refine a_bld ?_)))
              refine bodyPost_ret (r_ct (b := br) (k := 0) rfl rfl (HM.get (by ((repeat (first | exact Look.here | refine Look.there ?_)); done))) (la_z _)) rfl ⟨rfl, HM.low⟩
        · obtain rfl : k = D.size := by omega
          have hee := HE.out _ M f HP.out (by omega)
          cases f with
          | true =>
            obtain ⟨rfl, rfl⟩ := Prod.mk.inj hee
            have HL := Lib.hid (HP.out.lt)
            go_wp2_with (first | (go_at_call 17; ((with_reducible refine (made_g _ M HL.out _).mono ?_); rintro e9 w2 ⟨rfl, hL⟩; replace HM := HM.call hL; clear hL)) | (first | ((with_reducible refine g_ld ?_); refine a_ld HM ?_) | ((with_reducible refine g_st ?_); refine a_st HM ?_; clear HM; intro w1 HM) | ((with_reducible refine g_al ?_); refine a_al HM ?_; clear HM; intro bk w1 HM) | ((with_reducible refine g_bx ?_); refine a_bx HM ?_; clear HM; intro bk w1 HM) | ((with_reducible refine g_bld ?_); refine a_bld ?_)))
            refine bodyPost_ret (r_ct (b := br) (k := 0) rfl rfl (HM.get (by ((repeat (first | exact Look.here | refine Look.there ?_)); done))) (la_z _)) rfl ⟨rfl, HM.low⟩
          | false =>
            obtain ⟨rfl, rfl⟩ := Prod.mk.inj hee
            go_wp2_with (first | fail | (first | ((with_reducible refine g_ld ?_); refine a_ld HM ?_) | ((with_reducible refine g_st ?_); refine a_st HM ?_; clear HM; intro w1 HM) | ((with_reducible refine g_al ?_); refine a_al HM ?_; clear HM; intro bk w1 HM) | ((with_reducible refine g_bx ?_); refine a_bx HM ?_; clear HM; intro bk w1 HM) | ((with_reducible refine g_bld ?_); refine a_bld ?_)))
            refine bodyPost_ret (r_ct (b := br) (k := 0) rfl rfl (HM.get (by ((repeat (first | exact Look.here | refine Look.there ?_)); done))) (la_z _)) rfl ⟨rfl, HM.low⟩
end Go.Proofs.Ytnfojnlcclccbaa
