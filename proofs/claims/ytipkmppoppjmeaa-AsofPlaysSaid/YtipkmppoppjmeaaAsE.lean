/- Changed of both. -/
import Derived.Test.YtipkmppoppjmeaaAsD
namespace Go.Proofs.Ytipkmppoppjmeaa
set_option maxRecDepth 8000
open Go.RowKit Go.Maps
/-- Texts in memory. -/
def Vs (L : List (List UInt8)) : List (Array Value) := V1 (L.map encStr)
theorem Vs_len (L : List (List UInt8)) : (Vs L).length = L.length := by unfold Vs; rw [V1_len, List.length_map]
theorem Vs_one (L : List (List UInt8)) : ∀ c ∈ Vs L, c.all (·.oneCell') = true := V1_one (by
  intro v hv
  obtain ⟨x, _, rfl⟩ := List.mem_map.1 hv
  rfl)
theorem Vs_app (a b : List (List UInt8)) : Vs (a ++ b) = Vs a ++ Vs b := by unfold Vs; rw [List.map_append, V1_app]
theorem Vs_take (L : List (List UInt8)) (i : Nat) : (Vs L).take i = Vs (L.take i) := by unfold Vs V1; rw [← List.map_take, ← List.map_take]
theorem Vs_drop (L : List (List UInt8)) (i : Nat) : (Vs L).drop i = Vs (L.drop i) := by unfold Vs V1; rw [← List.map_drop, ← List.map_drop]
theorem Vs_single (s : ByteArray) : Vs [s.data.toList] = [#[.string s]] := rfl
theorem RdS.at1 {w : World} {A : Option Addr} {n cap : Nat} {vs : List Value} (h : RdS 1 w (.slice A n cap) (V1 vs)) {i : Nat} {v : Value} (hi : vs[i]? = some v) {T : TypeId} (hT : aggT T = some false) : ∃ b off cs, A = some ⟨b, off, none⟩ ∧ Hid (Rbk w b cs) ∧ LA T cs (off + i) v := by
  obtain ⟨b, off, cs, cap', e, hb, hc⟩ := h.get (k := i) (c := #[v]) (by unfold V1; rw [List.getElem?_map, hi]; rfl)
  injection e with e1 e2 e3
  refine ⟨b, off, cs, e1, Lib.hid hb, LA.one hT ?_⟩
  have := hc 0 (by decide)
  rw [Nat.mul_one, Nat.add_zero] at this
  rw [this]; rfl
theorem RdS.form1 {n : Nat} {w : World} {sv : Value} {m : List (Array Value)} (h : RdS n w sv m) : ∃ A cap, sv = .slice A m.length cap := by
  obtain ⟨_, A, cap, e, _⟩ := h; exact ⟨A, cap, e⟩
theorem bytes_less (x s : ByteArray) : Op.bytesLess x.toList s.toList = decide (x.data.toList < s.data.toList) := by rw [bytesLess_eq, ByteArray.toList_eq, ByteArray.toList_eq]
theorem bytes_lt (x s : ByteArray) : (x.toList < s.toList) ↔ (x.data.toList < s.data.toList) := by rw [ByteArray.toList_eq, ByteArray.toList_eq]
set_option maxHeartbeats 4000000 in
theorem insert_any (lv : Value) (L : List (List UInt8)) (s : ByteArray) (w : World) (hR : RdS 1 w lv (Vs L)) (hL : L.length ≤ 1000000) (N : List (List UInt8)) (hN : Hid (N = As.ins L s.data.toList)) :
    Calls Try.prog 31 #[lv, .string s] w fun r w' => ∃ s', r = .returned s' ∧ ((s' = lv ∧ N = L ∧ Below w.heap.size w w') ∨ ∃ B, Hid (SlAt 1 s' (Vs N) B) ∧ Mem w [] B w') := by
  have HM := Mem.start w
  have HR := Lib.hid hR
  obtain ⟨A, cap, rfl⟩ := hR.form1
  have hel := el_str
  clear hR
  rw [Vs_len] at HR ⊢
  go_enter Try.func31, Try.ntmps31
  go_wp2_with fail
  go_loopw [5] (fun iv wr => ∃ (i : Nat), iv = .int .i64 (i : Nat) ∧ i ≤ L.length ∧ Hid (∀ x ∈ L.take i, x < s.data.toList) ∧ Mem w [] [] wr) (fun iv _ => L.length - (intOf iv).toNat)
  case atStart => exact ⟨0, rfl, by omega, Lib.hid (by simp), HM⟩
  case round =>
    clear HM
    obtain ⟨i, rfl, hi, HT, HM⟩ := hrel
    by_cases hlt : i < L.length
    · obtain ⟨x, hx⟩ : ∃ x, L[i]? = some x := ⟨_, List.getElem?_eq_getElem hlt⟩
      obtain ⟨b, off, cs, rfl, HB, l0⟩ := HR.out.at1 (i := i) (v := encStr x) (by rw [List.getElem?_map, hx]; rfl) (T := 9) (by kernel_rfl)
      obtain ⟨y, hy⟩ : ∃ y : ByteArray, y = ⟨x.toArray⟩ := ⟨_, rfl⟩
      have hyd : y.data.toList = x := by rw [hy]
      have hey : encStr x = .string y := by rw [hy]
      rw [hey] at l0
      have hlt1 : (i : Int) < L.length := by omega
      by_cases hc : x < s.data.toList
      · have g1 : Op.bytesLess y.toList s.toList = true := by rw [bytes_less, hyd]; exact decide_eq_true hc
        have HT2 : Hid (∀ x ∈ L.take (i + 1), x < s.data.toList) := Lib.hid (by
          intro z hz
          rw [List.take_add_one, hx] at hz
          rcases List.mem_append.1 hz with h | h
          · exact HT.out z h
          · simp at h; rw [h]; exact hc)
        clear hc hx hy hey hyd
        go_wp2_with (first | fail | (first | ((with_reducible refine g_ld ?_); refine a_ld HM ?_) | ((with_reducible refine g_st ?_); refine a_st HM ?_; clear HM; intro w1 HM) | ((with_reducible refine g_al ?_); refine a_al HM ?_; clear HM; intro bk w1 HM) | ((with_reducible refine g_bx ?_); refine a_bx HM ?_; clear HM; intro bk w1 HM) | ((with_reducible refine g_bld ?_); refine a_bld ?_)))
        go_roundw
        case rel => exact ⟨i + 1, by go_num, by omega, HT2, HM⟩
        case measure => simp [intOf]; omega
      · have g1 : Op.bytesLess y.toList s.toList = false := by rw [bytes_less, hyd]; exact decide_eq_false hc
        have hdr : L.drop i = x :: L.drop (i + 1) := by
          obtain ⟨h1, h2⟩ := List.getElem?_eq_some_iff.1 hx
          rw [List.drop_eq_getElem_cons h1, h2]
        by_cases hs : x = s.data.toList
        · have hNL : N = L := by
            rw [hN.out, As.ins_split i L _ HT.out, hdr, As.ins, if_neg hc, if_pos hs, ← hdr, List.take_append_drop]
          have hys : y = s := As.key_inj (by rw [hyd, hs])
          have g2 : (y.toList == s.toList) = true := by rw [hys]; exact beq_self_eq_true _
          have HNL := Lib.hid hNL
          clear hc hx hy hey hyd hdr hs hNL hys
          go_wp2_with (first | fail | (first | ((with_reducible refine g_ld ?_); refine a_ld HM ?_) | ((with_reducible refine g_st ?_); refine a_st HM ?_; clear HM; intro w1 HM) | ((with_reducible refine g_al ?_); refine a_al HM ?_; clear HM; intro bk w1 HM) | ((with_reducible refine g_bx ?_); refine a_bx HM ?_; clear HM; intro bk w1 HM) | ((with_reducible refine g_bld ?_); refine a_bld ?_)))
          go_ret
          exact ⟨_, rfl, .inl ⟨rfl, HNL.out, HM.low⟩⟩
        · have g2 := bytes_ne (x := y) (y := s) (fun h => hs (by rw [← hyd, h]))
          obtain ⟨sv1, hrun1, hrd1⟩ := run_take HR.out hel (k := i) (by rw [Vs_len]; omega)
          obtain ⟨sv2, hrun2, hrd2⟩ := run_drop HR.out hel (k := i) (by rw [Vs_len]; omega)
          rw [Vs_take] at hrd1
          rw [Vs_drop] at hrd2
          have HR1 := Lib.hid hrun1
          have HR2 := Lib.hid hrun2
          have HD1 := Lib.hid hrd1
          have HD2 := Lib.hid hrd2
          clear hrun1 hrun2 hrd1 hrd2
          have HN2 : Hid (Vs N = [] ++ Vs (L.take i) ++ [#[.string s]] ++ Vs (L.drop i)) := Lib.hid (by
            rw [hN.out, As.ins_split i L _ HT.out, show As.ins (L.drop i) s.data.toList = s.data.toList :: L.drop i by rw [hdr, As.ins, if_neg hc, if_neg hs], Vs_app]
            simp only [List.nil_append, List.append_assoc]
            rfl)
          clear hc hx hy hey hyd hdr hs
          go_wp2_with (first | first
            | ((with_reducible refine g_bs0 ?_); refine a_bs0 HM ?_; clear HM; intro b0 w1 HM)
            | ((with_reducible refine g_bs1 ?_); refine a_bs1 (c0 := #[.string s]) HM ?_; clear HM; intro bx w1 HM)
            | ((with_reducible refine g_sl ?_); refine a_sl (v := sv1) ?_ (fun w => by simpa [Act.eval] using HR1.out w))
            | ((with_reducible refine g_sl ?_); refine a_sl (v := sv2) ?_ (fun w => by simpa [Act.eval] using HR2.out w))
            | ((with_reducible refine g_app ?_); refine a_app (m := Vs (L.drop i)) (F := fun B => B) HM HS2 (HD2.out _ (HR.out.below HM.low)) ?_ (Vs_one _) (hlen := by simp only [List.length_append, List.length_nil, Vs_len, List.length_cons, List.length_take, List.length_drop]; omega); clear HM; intro s3 B3 w1 HS3 HM)
            | ((with_reducible refine g_app ?_); refine a_app (m := [#[.string s]]) (F := fun B => B) HM HS1 ((SlAt.made1 bx rfl).rd HM (by simp)) ?_ (Vs_one [s.data.toList]) (hlen := by simp only [List.length_append, List.length_nil, Vs_len, List.length_cons, List.length_take]; omega); clear HM; intro s2 B2 w1 HS2 HM)
            | ((with_reducible refine g_app ?_); refine a_app (m := Vs (L.take i)) (F := fun B => B) HM (SlAt.made0 b0) (HD1.out _ (HR.out.below HM.low)) ?_ (Vs_one _) (hlen := by simp only [List.length_nil, Vs_len, List.length_take]; omega); clear HM; intro s1 B1 w1 HS1 HM) | (first | ((with_reducible refine g_ld ?_); refine a_ld HM ?_) | ((with_reducible refine g_st ?_); refine a_st HM ?_; clear HM; intro w1 HM) | ((with_reducible refine g_al ?_); refine a_al HM ?_; clear HM; intro bk w1 HM) | ((with_reducible refine g_bx ?_); refine a_bx HM ?_; clear HM; intro bk w1 HM) | ((with_reducible refine g_bld ?_); refine a_bld ?_)))
          go_ret
          exact ⟨_, rfl, .inr ⟨B3, Lib.hid (by rw [HN2.out]; exact HS3), HM⟩⟩
    · obtain rfl : i = L.length := by omega
      obtain ⟨sv1, hrun1, hrd1⟩ := run_take HR.out hel (k := L.length) (by rw [Vs_len]; omega)
      obtain ⟨sv2, hrun2, hrd2⟩ := run_drop HR.out hel (k := L.length) (by rw [Vs_len]; omega)
      rw [Vs_take] at hrd1
      rw [Vs_drop] at hrd2
      have HR1 := Lib.hid hrun1
      have HR2 := Lib.hid hrun2
      have HD1 := Lib.hid hrd1
      have HD2 := Lib.hid hrd2
      clear hrun1 hrun2 hrd1 hrd2
      have HN2 : Hid (Vs N = [] ++ Vs (L.take L.length) ++ [#[.string s]] ++ Vs (L.drop L.length)) := Lib.hid (by
        rw [hN.out, As.ins_split L.length L _ HT.out, show As.ins (L.drop L.length) s.data.toList = s.data.toList :: L.drop L.length by rw [List.drop_length]; rfl, Vs_app]
        simp only [List.nil_append, List.append_assoc]
        rfl)
      go_wp2_with (first | first
        | ((with_reducible refine g_bs0 ?_); refine a_bs0 HM ?_; clear HM; intro b0 w1 HM)
        | ((with_reducible refine g_bs1 ?_); refine a_bs1 (c0 := #[.string s]) HM ?_; clear HM; intro bx w1 HM)
        | ((with_reducible refine g_sl ?_); refine a_sl (v := sv1) ?_ (fun w => by simpa [Act.eval] using HR1.out w))
        | ((with_reducible refine g_sl ?_); refine a_sl (v := sv2) ?_ (fun w => by simpa [Act.eval] using HR2.out w))
        | ((with_reducible refine g_app ?_); refine a_app (m := Vs (L.drop L.length)) (F := fun B => B) HM HS2 (HD2.out _ (HR.out.below HM.low)) ?_ (Vs_one _) (hlen := by simp only [List.length_append, List.length_nil, Vs_len, List.length_cons, List.length_take, List.length_drop]; omega); clear HM; intro s3 B3 w1 HS3 HM)
        | ((with_reducible refine g_app ?_); refine a_app (m := [#[.string s]]) (F := fun B => B) HM HS1 ((SlAt.made1 bx rfl).rd HM (by simp)) ?_ (Vs_one [s.data.toList]) (hlen := by simp only [List.length_append, List.length_nil, Vs_len, List.length_cons, List.length_take]; omega); clear HM; intro s2 B2 w1 HS2 HM)
        | ((with_reducible refine g_app ?_); refine a_app (m := Vs (L.take L.length)) (F := fun B => B) HM (SlAt.made0 b0) (HD1.out _ (HR.out.below HM.low)) ?_ (Vs_one _) (hlen := by simp only [List.length_nil, Vs_len, List.length_take]; omega); clear HM; intro s1 B1 w1 HS1 HM) | (first | ((with_reducible refine g_ld ?_); refine a_ld HM ?_) | ((with_reducible refine g_st ?_); refine a_st HM ?_; clear HM; intro w1 HM) | ((with_reducible refine g_al ?_); refine a_al HM ?_; clear HM; intro bk w1 HM) | ((with_reducible refine g_bx ?_); refine a_bx HM ?_; clear HM; intro bk w1 HM) | ((with_reducible refine g_bld ?_); refine a_bld ?_)))
      go_ret
      exact ⟨_, rfl, .inr ⟨B3, Lib.hid (by rw [HN2.out]; exact HS3), HM⟩⟩
end Go.Proofs.Ytipkmppoppjmeaa
