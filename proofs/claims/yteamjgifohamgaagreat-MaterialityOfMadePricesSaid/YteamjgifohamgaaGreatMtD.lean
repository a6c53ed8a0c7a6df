/- Material of the program: the deletion, and whole. -/
import Derived.Test.YteamjgifohamgaaGreatMtC
namespace Go.Proofs.YteamjgifohamgaaGreat
set_option maxRecDepth 8000
open Go.RowKit
theorem run_sl_from {n by_ : Nat} {t e : TypeId} (hT : elemB t e n by_ = true) {b len cap k : Nat} (hk : k ≤ len) (_ : len ≤ cap) (h2 : k < cap) (w : World) :
    (Instr.sliceAt t (.slice (some ⟨b, 0, none⟩) len cap) (some (.int .i64 (k : Nat))) none none).run Tryz.prog w = .ok (.slice (some ⟨b, k * n, none⟩) (len - k) (cap - k)) w := by
  obtain ⟨i, z, hE⟩ := elemT hT
  have hb := run_sliceBound (P := Tryz.prog) w IntKind.i64 (k : Int) len .sliceB (by omega) (by omega)
  have h3 : ¬ cap = k := by omega
  simp [Instr.sliceAt, Instr.slice, run_underlying hE.ht, Instr.sliceBounds, sizeOf, typeInfo, hE.hi, hE.hn, hb, h3, Addr.add_lit']
theorem run_sl_to {n by_ : Nat} {t e : TypeId} (hT : elemB t e n by_ = true) {b len cap k : Nat} (hk : k ≤ len) (hc : len ≤ cap) (w : World) :
    (Instr.sliceAt t (.slice (some ⟨b, 0, none⟩) len cap) none (some (.int .i64 (k : Nat))) none).run Tryz.prog w = .ok (.slice (some ⟨b, 0, none⟩) k cap) w := by
  obtain ⟨i, z, hE⟩ := elemT hT
  have hb := run_sliceBound (P := Tryz.prog) w IntKind.i64 (k : Int) cap .sliceAcap (by omega) (by omega)
  have e0 : Addr.add ⟨b, 0, none⟩ 0 = ⟨b, 0, none⟩ := Addr.add_lit' b 0 0
  simp [Instr.sliceAt, Instr.slice, run_underlying hE.ht, Instr.sliceBounds, sizeOf, typeInfo, hE.hi, hb, e0]
noncomputable def Mt.kept (x : Rat) (L : List Mt.D) : List Mt.D := L.filter (Mt.keep x)
theorem Mt.kept_take {x : Rat} {L : List Mt.D} {j : Nat} {d : Mt.D} (h : L[j]? = some d) : Mt.kept x (L.take (j + 1)) = Mt.kept x (L.take j) ++ (if Mt.keep x d then [d] else []) := by
  unfold Mt.kept
  rw [List.take_add_one, h, List.filter_append]
  congr 1
  cases hk : Mt.keep x d <;> simp [hk]
theorem Mt.kept_len (x : Rat) (L : List Mt.D) (j : Nat) : (Mt.kept x (L.take j)).length ≤ j := by
  unfold Mt.kept
  exact Nat.le_trans (List.length_filter_le _ _) (by rw [List.length_take]; omega)
theorem Mt.fst_some {x : Rat} {L : List Mt.D} {i : Nat} (h : L.findIdx? (fun d => !Mt.keep x d) = some i) : i < L.length ∧ Mt.kept x (L.take (i + 1)) = L.take i := by
  rw [List.findIdx?_eq_some_iff_getElem] at h
  obtain ⟨h1, h2, h3⟩ := h
  refine ⟨h1, ?_⟩
  have hk : Mt.keep x L[i] = false := by simpa using h2
  rw [Mt.kept_take (List.getElem?_eq_getElem h1), hk]
  simp only [Bool.false_eq_true, if_false, List.append_nil]
  unfold Mt.kept
  rw [List.filter_eq_self]
  intro d hd
  obtain ⟨j, hj, rfl⟩ := List.mem_take_iff_getElem.1 hd
  have := h3 j (by omega)
  simpa using this
theorem Mt.fst_none {x : Rat} {L : List Mt.D} (h : L.findIdx? (fun d => !Mt.keep x d) = none) : Mt.kept x L = L := by
  rw [List.findIdx?_eq_none_iff] at h
  unfold Mt.kept
  rw [List.filter_eq_self]
  intro d hd
  have := h d hd
  simpa using this
/-- A round of the deletion in memory. -/
theorem Mt.set_round {F L : List Mt.D} {S : List (Array Value)} {i : Nat} (d : Mt.D) (hF : F.length = i) (hi : i < L.length) : (F.map Mt.c ++ ((L.drop i).map Mt.c ++ S)).set i (Mt.c d) = (F ++ [d]).map Mt.c ++ ((L.drop (i + 1)).map Mt.c ++ S) := by
  rw [List.set_append_right _ _ (by simp; omega), List.length_map, hF, Nat.sub_self, List.drop_eq_getElem_cons hi, List.map_cons, List.cons_append, List.set_cons_zero, List.map_append]
  simp
theorem Mt.at_round {F L : List Mt.D} {S : List (Array Value)} {i j : Nat} {d : Mt.D} (hF : F.length = i) (hij : i ≤ j) (hd : L[j]? = some d) : (F.map Mt.c ++ ((L.drop i).map Mt.c ++ S))[j]? = some (Mt.c d) := by
  have hj := (List.getElem?_eq_some_iff.1 hd).1
  rw [List.getElem?_append_right (by simp; omega), List.length_map, hF, List.getElem?_append_left (by simp; omega), List.getElem?_map, List.getElem?_drop, show i + (j - i) = j by omega, hd]
  rfl
theorem Mt.sizes {F G : List Mt.D} {S : List (Array Value)} (hS : ∀ c ∈ S, c.size = 135) : ∀ c ∈ F.map Mt.c ++ (G.map Mt.c ++ S), c.size = 135 := by
  intro c hc
  rcases List.mem_append.1 hc with h | h
  · exact Mt.c_sizes F c h
  · rcases List.mem_append.1 h with h | h
    · exact Mt.c_sizes G c h
    · exact hS c h
set_option maxHeartbeats 8000000 in
theorem delete_any (L : List Mt.D) (S : List (Array Value)) (x : Rat) (bl b : Nat) (w : World) (hS : ∀ c ∈ S, c.size = 135) (hb : Blk w b (rowsOf (L.map Mt.c ++ S))) (hl : L.length ≤ 100) (hx : Rt.Fit x) (hbad : ∀ d ∈ L, Mt.bad d = false) (hB : Blk w bl (Rt.qA x)) (hne : bl ≠ b) :
    Calls Tryz.prog 27 #[.slice (some ⟨b, 0, none⟩) L.length (L.length + S.length), .func (.func 29) #[] #[.pointer (some ⟨bl, 0, none⟩)]] w fun e w' =>
      ∃ S' : List (Array Value), e = .returned (.slice (some ⟨b, 0, none⟩) (Mt.kept x L).length ((Mt.kept x L).length + S'.length)) ∧ Hid (∀ c ∈ S', c.size = 135) ∧ Mem w [b] [(b, rowsOf ((Mt.kept x L).map Mt.c ++ S'))] w' := by
  have HM := Mem.start1 w hb
  have hel := Mt.el
  have hz := Mt.za
  have HS := Lib.hid hS
  have HB := Lib.hid hB
  have HBAD := Lib.hid hbad
  have hRd : RdS 135 w (.slice (some ⟨b, 0, none⟩) L.length (L.length + S.length)) (L.map Mt.c) := by
    have h := SlAt.row (n := 135) b (L.map Mt.c) S (by
      intro c hc
      rcases List.mem_append.1 hc with h | h
      · exact Mt.c_sizes L c h
      · exact hS c h)
    have h2 := h.rd HM (by simp)
    rw [List.length_map] at h2
    exact h2
  obtain ⟨r, hr⟩ : ∃ r, Hid (r = Mt.fst x L) := ⟨_, Lib.hid rfl⟩
  have I := fun hB => index_any _ L x bl w hRd hl hx hbad hB r hr
  have hr2 := hr.out
  unfold Mt.fst at hr2
  have hcapL : ((L.length + S.length : Nat) : Int) = L.length + S.length := by omega
  clear hb hS hbad hRd
  cases hf : L.findIdx? (fun d => !Mt.keep x d) with
  | none =>
    rw [hf] at hr2
    obtain rfl : r = -1 := hr2
    have hk := Mt.fst_none hf
    clear hf hr
    go_enter Tryz.func27, Tryz.ntmps27
    go_wp2_with (first | (go_at_call 46; ((with_reducible refine (I HB.out).mono ?_); rintro e9 w2 ⟨rfl, hL⟩; replace HM := HM.call hL; clear hL)) | (first | ((with_reducible refine g_ld ?_); refine a_ld HM ?_) | ((with_reducible refine g_st ?_); refine a_st HM ?_; clear HM; intro w1 HM) | ((with_reducible refine g_al ?_); refine a_al HM ?_; clear HM; intro bk w1 HM) | ((with_reducible refine g_bx ?_); refine a_bx HM ?_; clear HM; intro bk w1 HM) | ((with_reducible refine g_bld ?_); refine a_bld ?_)))
    go_ret
    exact ⟨S, by rw [hk]; rfl, HS, by rw [hk]; exact HM⟩
  | some i0 =>
    rw [hf] at hr2
    obtain rfl : r = (i0 : Int) := hr2
    obtain ⟨hi0, hk0⟩ := Mt.fst_some hf
    have g0 : ((i0 : Int) == -1) = false := beq_eq_false_iff_ne.2 (by omega)
    have hst : L.map Mt.c ++ S = (Mt.kept x (L.take (i0 + 1))).map Mt.c ++ ((L.drop i0).map Mt.c ++ S) := by
      rw [hk0, ← List.append_assoc, ← List.map_append, List.take_append_drop]
    have hl0 : (Mt.kept x (L.take (i0 + 1))).length = i0 := by rw [hk0, List.length_take]; omega
    clear hf hr
    go_enter Tryz.func27, Tryz.ntmps27
    go_wp2_with (first | (go_at_call 46; ((with_reducible refine (I HB.out).mono ?_); rintro e9 w2 ⟨rfl, hL⟩; replace HM := HM.call hL; clear hL)) | (first | ((with_reducible refine g_ld ?_); refine a_ld HM ?_) | ((with_reducible refine g_st ?_); refine a_st HM ?_; clear HM; intro w1 HM) | ((with_reducible refine g_al ?_); refine a_al HM ?_; clear HM; intro bk w1 HM) | ((with_reducible refine g_bx ?_); refine a_bx HM ?_; clear HM; intro bk w1 HM) | ((with_reducible refine g_bld ?_); refine a_bld ?_)))
    rw [hst] at HM
    clear hst I hk0
    go_loopw [5, 6] (fun iv jv wr => ∃ (i j : Nat), iv = .int .i64 (i : Nat) ∧ jv = .int .i64 (j : Nat) ∧ i < j ∧ j ≤ L.length ∧ Hid ((Mt.kept x (L.take j)).length = i) ∧ Mem w [b] [(b, rowsOf ((Mt.kept x (L.take j)).map Mt.c ++ ((L.drop i).map Mt.c ++ S)))] wr) (fun _ jv _ => L.length - (intOf jv).toNat)
    case atStart => exact ⟨i0, i0 + 1, rfl, by go_num, by omega, by omega, Lib.hid hl0, HM⟩
    case round =>
      clear HM hl0
      obtain ⟨i, j, rfl, rfl, hij, hj, HL, HM⟩ := hrel
      by_cases hjt : j < L.length
      · obtain ⟨d, hd⟩ : ∃ d, L[j]? = some d := ⟨_, List.getElem?_eq_getElem hjt⟩
        have hjt1 : (j : Int) < L.length := by omega
        have l0 : LA 42 (rowsOf ((Mt.kept x (L.take j)).map Mt.c ++ ((L.drop i).map Mt.c ++ S))) (j * 135) (.agg (Mt.c d)) := la_row (by kernel_rfl) (by kernel_rfl) (Mt.sizes HS.out) (Mt.at_round HL.out (by omega) hd)
        have ld := Mt.la d
        have sd := Mt.sa d (Mt.c_size Mt.zd)
        have hbd := HBAD.out d (List.mem_of_getElem? hd)
        have HKT := Lib.hid (Mt.kept_take (x := x) hd)
        cases hk : Mt.keep x d with
        | false =>
          have F := fun w hB => mfn_any d x bl w hx hbd hB true (Lib.hid (by rw [hk]; rfl))
          rw [hk] at HKT
          have HKT2 : Hid (Mt.kept x (L.take (j + 1)) = Mt.kept x (L.take j)) := Lib.hid (by rw [HKT.out]; simp)
          clear hd hk HKT hbd
          go_wp2_with (first | (go_at_call 29; ((with_reducible refine (F _ (HM.ro HB.out (by simpa using hne))).mono ?_); rintro e9 w2 ⟨rfl, hL⟩; replace HM := HM.call hL; clear hL)) | (first | ((with_reducible refine g_ld ?_); refine a_ld HM ?_) | ((with_reducible refine g_st ?_); refine a_st HM ?_; clear HM; intro w1 HM) | ((with_reducible refine g_al ?_); refine a_al HM ?_; clear HM; intro bk w1 HM) | ((with_reducible refine g_bx ?_); refine a_bx HM ?_; clear HM; intro bk w1 HM) | ((with_reducible refine g_bld ?_); refine a_bld ?_)))
          go_roundw
          case rel => exact ⟨i, j + 1, rfl, by go_num, by omega, by omega, Lib.hid (by rw [HKT2.out]; exact HL.out), by rw [HKT2.out]; exact HM.pick⟩
          case measure => simp [intOf]; omega
        | true =>
          have F := fun w hB => mfn_any d x bl w hx hbd hB false (Lib.hid (by rw [hk]; rfl))
          rw [hk] at HKT
          have HKT2 : Hid (Mt.kept x (L.take (j + 1)) = Mt.kept x (L.take j) ++ [d]) := Lib.hid (by rw [HKT.out]; simp)
          have hrow : ((Mt.kept x (L.take j)).map Mt.c ++ ((L.drop i).map Mt.c ++ S))[i]? = some (Mt.c L[i]) := Mt.at_round HL.out (Nat.le_refl _) (List.getElem?_eq_getElem (by omega))
          have s0 : SA 42 (rowsOf ((Mt.kept x (L.take j)).map Mt.c ++ ((L.drop i).map Mt.c ++ S))) (i * 135) (.agg (Mt.c d)) (rowsOf ((Mt.kept x (L.take (j + 1))).map Mt.c ++ ((L.drop (i + 1)).map Mt.c ++ S))) := by
            rw [HKT2.out, ← Mt.set_round d HL.out (by omega)]
            exact sa_row (by kernel_rfl) (Mt.sizes HS.out) hrow (Mt.c_size d) (Mt.c_one d)
          have hit1 : (i : Int) < L.length := by omega
          have HLN : Hid ((Mt.kept x (L.take (j + 1))).length = i + 1) := Lib.hid (by rw [HKT2.out, List.length_append, HL.out]; rfl)
          clear hd hk HKT hbd hrow HKT2
          go_wp2_with (first | (go_at_call 29; ((with_reducible refine (F _ (HM.ro HB.out (by simpa using hne))).mono ?_); rintro e9 w2 ⟨rfl, hL⟩; replace HM := HM.call hL; clear hL)) | (first | ((with_reducible refine g_ld ?_); refine a_ld HM ?_) | ((with_reducible refine g_st ?_); refine a_st HM ?_; clear HM; intro w1 HM) | ((with_reducible refine g_al ?_); refine a_al HM ?_; clear HM; intro bk w1 HM) | ((with_reducible refine g_bx ?_); refine a_bx HM ?_; clear HM; intro bk w1 HM) | ((with_reducible refine g_bld ?_); refine a_bld ?_)))
          go_roundw
          case rel => exact ⟨i + 1, j + 1, by go_num, by go_num, by omega, by omega, HLN, HM.pick⟩
          case measure => simp [intOf]; omega
      · obtain rfl : j = L.length := by omega
        rw [List.take_length] at HL HM
        have hsl1 := fun w => run_sl_from (b := b) (len := L.length) (cap := L.length + S.length) (k := i) Mt.el (by omega) (by omega) (by omega) w
        have hsl2 := fun w => run_sl_to (b := b) (len := L.length) (cap := L.length + S.length) (k := i) Mt.el (by omega) (by omega) w
        have hgl : ((L.drop i).map Mt.c).length = L.length - i := by simp
        have hfl : ((Mt.kept x L).map Mt.c).length = i := by rw [List.length_map]; exact HL.out
        go_wp2_with (first | first
          | ((with_reducible refine g_sl ?_); refine a_sl (v := .slice (some ⟨b, i * 135, none⟩) (L.length - i) (L.length + S.length - i)) ?_ (fun w => by simpa [Act.eval] using hsl1 w))
          | ((with_reducible refine g_sl ?_); refine a_sl (v := .slice (some ⟨b, 0, none⟩) i (L.length + S.length)) ?_ (fun w => by simpa [Act.eval] using hsl2 w))
          | ((with_reducible refine g_clr ?_); refine a_clr (b := b) (n := 135) (by_ := 568) (e := 42) (z := Mt.c Mt.zd) (cap := L.length + S.length - i) HM ((Mt.kept x L).map Mt.c) ((L.drop i).map Mt.c) S hz (Mt.c_one _) (Mt.c_size _) (Mt.c_sizes _) (Mt.c_sizes _) (by rw [hgl]; omega) ?_ (by rw [hfl, hgl]; rfl) (fun c' => At.here); clear HM; intro w1 HM) | (first | ((with_reducible refine g_ld ?_); refine a_ld HM ?_) | ((with_reducible refine g_st ?_); refine a_st HM ?_; clear HM; intro w1 HM) | ((with_reducible refine g_al ?_); refine a_al HM ?_; clear HM; intro bk w1 HM) | ((with_reducible refine g_bx ?_); refine a_bx HM ?_; clear HM; intro bk w1 HM) | ((with_reducible refine g_bld ?_); refine a_bld ?_)))
        have hsl : (List.replicate ((L.drop i).map Mt.c).length (Mt.c Mt.zd) ++ S).length = L.length - i + S.length := by rw [List.length_append, List.length_replicate, hgl]
        go_ret
        refine ⟨List.replicate ((L.drop i).map Mt.c).length (Mt.c Mt.zd) ++ S, ?_, Lib.hid ?_, HM⟩
        · rw [hsl, HL.out, show i + (L.length - i + S.length) = L.length + S.length by omega]; rfl
        · intro c hc
          rcases List.mem_append.1 hc with h | h
          · rw [List.eq_of_mem_replicate h]; exact Mt.c_size _
          · exact HS.out c h
end Go.Proofs.YteamjgifohamgaaGreat
