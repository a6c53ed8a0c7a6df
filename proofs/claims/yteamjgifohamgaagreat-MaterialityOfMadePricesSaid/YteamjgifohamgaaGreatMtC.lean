/- Material of the program: the copy, the closure, the search, the deletion. -/
import Derived.Test.YteamjgifohamgaaGreatMtB
import Derived.Test.YteamjgifohamgaaGreatSlicesE
namespace Go.Proofs.YteamjgifohamgaaGreat
set_option maxRecDepth 8000
open Go.RowKit
theorem Rt.vc_zero : Rt.Vc none (Bg.rZ 0 0) := ⟨false, 0, false, 0, Bg.ppos 32, Bg.ppos 32, Rt.ok_zero, rZ_zero.symm⟩
namespace Mt
theorem size_cases {a b o : Option Rat} {e : Int} (h : (o, e) = size a b) : (∃ s, o = some s ∧ e = 0 ∧ Rt.Fit s) ∨ (o = none ∧ e ≠ 0) := by
  unfold size at h
  split at h
  · split at h
    · obtain ⟨rfl, rfl⟩ := Prod.mk.inj h; exact .inr ⟨rfl, by decide⟩
    · split at h
      · split at h
        · rename_i h2
          obtain ⟨rfl, rfl⟩ := Prod.mk.inj h; exact .inl ⟨_, rfl, rfl, Rt.fit_abs.2 h2⟩
        · obtain ⟨rfl, rfl⟩ := Prod.mk.inj h; exact .inr ⟨rfl, by decide⟩
      · obtain ⟨rfl, rfl⟩ := Prod.mk.inj h; exact .inr ⟨rfl, by decide⟩
  · obtain ⟨rfl, rfl⟩ := Prod.mk.inj h; exact .inr ⟨rfl, by decide⟩
/-- A difference that has no size, and is not one from 0. -/
noncomputable def bad (d : D) : Bool := decide ((size d.ow d.oi).2 ≠ 0) && decide ((size d.ow d.oi).2 ≠ 11)
/-- A difference that is kept for a limit. -/
noncomputable def keep (x : Rat) (d : D) : Bool := match (size d.ow d.oi).1 with
  | some s => decide (x < s)
  | none => true
def zd : D := ⟨0, { data := #[] }, { data := #[] }, Bg.rZ 0 0, Bg.rZ 0 0, none, none, Rt.vc_zero, Rt.vc_zero⟩
theorem zC : c zd = #[.int .i64 0, .string { data := #[] }, .string { data := #[] }] ++ (Bg.ratA false 0 false 0 ++ Bg.ratA false 0 false 0) := by
  rw [c_rows, rZ_zero]
  show rowsOf [#[.int .i64 0], #[.string { data := #[] }], #[.string { data := #[] }], Bg.rZ 0 0, Bg.rZ 0 0] = _
  simp [rowsOf]
  rw [← Array.append_assoc]; rfl
theorem zeroF : (zeroValue 42).run Tryz.prog = fun w => .ok (.agg (c zd)) w := by
  rw [zC]; unfold Bg.ratA; rw [← Bg.zeroInt]; kernel_rfl
theorem za : ZA 42 (c zd) := ⟨_, rfl, fun w => by rw [zeroF]⟩
theorem sa (d : D) {z : Array Value} (h : z.size = 135) : SA 42 z 0 (.agg (c d)) (c d) := SA.whole (by rw [c_size]; exact sT) (c_one d) (by rw [c_size, h])
theorem c_sizes (L : List D) : ∀ x ∈ L.map c, x.size = 135 := by
  intro x hx
  obtain ⟨d, _, rfl⟩ := List.mem_map.1 hx
  exact c_size d
theorem c_ones (L : List D) : ∀ x ∈ L.map c, x.all (·.oneCell') = true := by
  intro x hx
  obtain ⟨d, _, rfl⟩ := List.mem_map.1 hx
  exact c_one d
theorem c_day (d : D) : (c d)[0]? = some (.int .i64 d.day) := by
  rw [c_rows]
  exact rows_fld (l := [#[.int .i64 d.day], #[.string d.fund], #[.string d.cls], d.cw, d.ci]) (i := 0) (c := #[.int .i64 d.day]) rfl 0 (by simp)
theorem el : elemB 25 42 135 568 = true := by kernel_rfl
end Mt
theorem RdS.some {n : Nat} {w : World} {A : Option Addr} {k cap : Nat} {m : List (Array Value)} (h : RdS n w (.slice A k cap) m) {i : Nat} {c : Array Value} (hi : m[i]? = some c) : ∃ b off, A = Option.some ⟨b, off, none⟩ := by
  obtain ⟨b, off, _, _, e, _⟩ := h.get hi
  injection e with e
  exact ⟨b, off, e⟩
theorem RdS.at135 {w : World} {A : Option Addr} {k cap : Nat} {L : List Mt.D} (h : RdS 135 w (.slice A k cap) (L.map Mt.c)) {i : Nat} {d : Mt.D} (hi : L[i]? = Option.some d) : ∃ b off cs, A = Option.some ⟨b, off, none⟩ ∧ Hid (Rbk w b cs) ∧ LA 42 cs (off + i * 135) (.agg (Mt.c d)) ∧ LA 3 cs (off + i * 135) (.int .i64 d.day) := by
  obtain ⟨b, off, cs, cap', e, hb, hc⟩ := h.get (k := i) (c := Mt.c d) (by rw [List.getElem?_map, hi]; rfl)
  injection e with e1 e2 e3
  refine ⟨b, off, cs, e1, Lib.hid hb, la_in (n := 135) (by kernel_rfl) (by kernel_rfl) (Mt.c_size d) hc (by decide), LA.one (by kernel_rfl) ?_⟩
  have h0 := hc 0 (by decide)
  rw [Nat.add_zero] at h0
  rw [h0]; exact Mt.c_day d
theorem run_nil_slice (A : Option Addr) (n cap : Nat) (w : World) : (binOp .eql 25 (.slice A n cap) (.slice none 0 0)).run Tryz.prog w = .ok (.bool A.isNone) w := by
  have h : ∀ d : Nat, (Op.equalIn (d + 1) 25 (.slice A n cap) (.slice none 0 0)).run Tryz.prog w = .ok A.isNone w := fun d => by
    cases A <;> simp [Op.equalIn, run_underlying Tryz.underlying25]
  simp only [binOp]
  simp [Op.equal, Op.maxDepth, h 9999]
set_option maxHeartbeats 4000000 in
theorem clone_any (sv : Value) (L : List Mt.D) (w : World) (hR : RdS 135 w sv (L.map Mt.c)) (hl : L.length ≤ 100) :
    Calls Tryz.prog 28 #[sv] w fun e w' => ∃ s' B, e = .returned s' ∧ Hid (SlAt 135 s' (L.map Mt.c) B) ∧ Mem w [] B w' := by
  have HM := Mem.start w
  obtain ⟨A, cap, rfl⟩ := hR.form1
  have HR := Lib.hid hR
  have hel := Mt.el
  cases A with
  | none =>
    obtain rfl : L = [] := by
      cases L with
      | nil => rfl
      | cons d L =>
        obtain ⟨b, off, e⟩ := hR.some (i := 0) (c := Mt.c d) rfl
        cases e
    clear hR
    have hN := fun n c w => run_nil_slice none n c w
    go_enter Tryz.func28, Tryz.ntmps28
    go_wp2_with fail
    go_ret
    exact ⟨_, [], rfl, Lib.hid .nil, HM⟩
  | some a =>
    clear hR
    have hN := fun n c w => run_nil_slice (some a) n c w
    have hcap : (([] : List (Array Value)).length + (L.map Mt.c).length) * (568 + 1) ≤ 140737488355328 := by simp; omega
    go_enter Tryz.func28, Tryz.ntmps28
    go_wp2_with (first | first
      | ((with_reducible refine g_bs0 ?_); refine a_bs0 HM ?_; clear HM; intro b0 w1 HM)
      | ((with_reducible refine g_app ?_); refine a_app (m := L.map Mt.c) (F := fun B => B) HM (SlAt.made0 b0) (HR.out.below HM.low) ?_ (Mt.c_ones L) (hlen := hcap); clear HM; intro s1 B1 w1 HS1 HM) | (first | ((with_reducible refine g_ld ?_); refine a_ld HM ?_) | ((with_reducible refine g_st ?_); refine a_st HM ?_; clear HM; intro w1 HM) | ((with_reducible refine g_al ?_); refine a_al HM ?_; clear HM; intro bk w1 HM) | ((with_reducible refine g_bx ?_); refine a_bx HM ?_; clear HM; intro bk w1 HM) | ((with_reducible refine g_bld ?_); refine a_bld ?_)))
    go_ret
    exact ⟨_, B1, rfl, Lib.hid HS1, HM⟩
set_option maxHeartbeats 4000000 in
theorem mfn_any (d : Mt.D) (x : Rat) (bl : Nat) (w : World) (hx : Rt.Fit x) (hb : Mt.bad d = false) (hB : Blk w bl (Rt.qA x)) (r : Bool) (hr : Hid (r = !Mt.keep x d)) :
    Calls Tryz.prog 29 #[.agg (Mt.c d), .pointer (some ⟨bl, 0, none⟩)] w fun e w' => e = .returned (.bool r) ∧ Below w.heap.size w w' := by
  have HM := Mem.start w
  have HB := Lib.hid hB
  obtain ⟨o, e, hs⟩ : ∃ o e, Hid ((o, e) = Mt.size d.ow d.oi) := ⟨_, _, Lib.hid rfl⟩
  have S := fun w => size_any d o e hs w
  have hr2 := hr.out
  unfold Mt.keep at hr2
  unfold Mt.bad at hb
  rw [← hs.out] at hr2 hb
  have hz := za_rat
  have kl := la_q x
  have kd := Mt.la d
  rcases Mt.size_cases hs.out with ⟨s, rfl, rfl, hf⟩ | ⟨rfl, h0⟩
  · obtain ⟨g, hg⟩ : ∃ g, Hid (g = Rt.cmp s x) := ⟨_, Lib.hid rfl⟩
    have C := fun w => cmp_q s x g hf hx hg w
    have hg2 : decide (g ≤ 0) = r := by
      rw [hr2, hg.out]
      rcases Rt.cmp_cases s x with ⟨h1, h2⟩ | ⟨h1, h2⟩ | ⟨h1, h2⟩
      · rw [h1]; show true = !decide (x < s); rw [decide_eq_false (Rat.not_lt.2 (Rat.le_of_lt h2))]; rfl
      · rw [h1, h2]; show true = !decide (x < x); rw [decide_eq_false Rat.lt_irrefl]; rfl
      · rw [h1]; show false = !decide (x < s); rw [decide_eq_true h2]; rfl
    have k1 := la_q s
    have s1 := sa_q s (rZ_size 0 0)
    replace S : ∀ w, Calls Tryz.prog 26 #[.agg (Mt.c d)] w fun r w' => r = .returned (.tuple #[.agg (Rt.qA s), .int .i64 0]) ∧ Below w.heap.size w w' := S
    clear hs hr hr2 hb hB
    go_enter Tryz.func29, Tryz.ntmps29
    go_wp2_with (first | first | (go_at_call 26; ((with_reducible refine (S _).mono ?_); rintro e9 w2 ⟨rfl, hL⟩; replace HM := HM.call hL; clear hL)) | (go_at_call 24; ((with_reducible refine (C _).mono ?_); rintro e9 w2 ⟨rfl, hL⟩; replace HM := HM.call hL; clear hL)) | (first | ((with_reducible refine g_ld ?_); refine a_ld HM ?_) | ((with_reducible refine g_st ?_); refine a_st HM ?_; clear HM; intro w1 HM) | ((with_reducible refine g_al ?_); refine a_al HM ?_; clear HM; intro bk w1 HM) | ((with_reducible refine g_bx ?_); refine a_bx HM ?_; clear HM; intro bk w1 HM) | ((with_reducible refine g_bld ?_); refine a_bld ?_)))
    go_ret
    exact ⟨rfl, HM.low⟩
  · have h11 : e = 11 := by
      simp [h0] at hb; exact hb
    subst h11
    obtain rfl : r = false := hr2
    have C : ∀ w, Calls Tryz.prog 24 #[.agg (Bg.rZ 0 0), .agg (Rt.qA x)] w fun r w' => r = .returned (.tuple #[.int .i64 0, .int .i64 20]) ∧ Below w.heap.size w w' := fun w => by
      rw [← rZ_zero, qA_rZ, rZ_ratA]
      exact Cmp_bad _ _ _ _ _ _ _ _ (Bg.ppos 32) (Bg.ppos 32) hx.ln hx.ld (by rw [show Rt.ok false 0 false 0 = false from Rt.ok_zero]; rfl) w
    have k1 := la_rz 0 0
    have s1 := sa_rz 0 0 (rZ_size 0 0)
    replace S : ∀ w, Calls Tryz.prog 26 #[.agg (Mt.c d)] w fun r w' => r = .returned (.tuple #[.agg (Bg.rZ 0 0), .int .i64 11]) ∧ Below w.heap.size w w' := S
    clear hs hr hb hB h0
    go_enter Tryz.func29, Tryz.ntmps29
    go_wp2_with (first | first | (go_at_call 26; ((with_reducible refine (S _).mono ?_); rintro e9 w2 ⟨rfl, hL⟩; replace HM := HM.call hL; clear hL)) | (go_at_call 24; ((with_reducible refine (C _).mono ?_); rintro e9 w2 ⟨rfl, hL⟩; replace HM := HM.call hL; clear hL)) | (first | ((with_reducible refine g_ld ?_); refine a_ld HM ?_) | ((with_reducible refine g_st ?_); refine a_st HM ?_; clear HM; intro w1 HM) | ((with_reducible refine g_al ?_); refine a_al HM ?_; clear HM; intro bk w1 HM) | ((with_reducible refine g_bx ?_); refine a_bx HM ?_; clear HM; intro bk w1 HM) | ((with_reducible refine g_bld ?_); refine a_bld ?_)))
    go_ret
    exact ⟨rfl, HM.low⟩
/-- The first that is not kept. -/
noncomputable def Mt.fst (x : Rat) (L : List Mt.D) : Int := match L.findIdx? (fun d => !Mt.keep x d) with
  | some i => (i : Int)
  | none => -1
set_option maxHeartbeats 4000000 in
theorem index_any (sv : Value) (L : List Mt.D) (x : Rat) (bl : Nat) (w : World) (hR : RdS 135 w sv (L.map Mt.c)) (hl : L.length ≤ 100) (hx : Rt.Fit x) (hbad : ∀ d ∈ L, Mt.bad d = false) (hB : Blk w bl (Rt.qA x)) (r : Int) (hr : Hid (r = Mt.fst x L)) :
    Calls Tryz.prog 46 #[sv, .func (.func 29) #[] #[.pointer (some ⟨bl, 0, none⟩)]] w fun e w' => e = .returned (.int .i64 r) ∧ Below w.heap.size w w' := by
  have HM := Mem.start w
  obtain ⟨A, cap, rfl⟩ := hR.form1
  have HR := Lib.hid hR
  have HB := Lib.hid hB
  have HBAD := Lib.hid hbad
  clear hR hB hbad
  rw [List.length_map] at HR ⊢
  go_enter Tryz.func46, Tryz.ntmps46
  go_wp2_with fail
  go_loopw [8] (fun iv wr => ∃ (i : Nat), iv = .int .i64 (i : Nat) ∧ i ≤ L.length ∧ Hid (∀ d ∈ L.take i, Mt.keep x d = true) ∧ Mem w [] [] wr) (fun iv _ => L.length - (intOf iv).toNat)
  case atStart => exact ⟨0, rfl, by omega, Lib.hid (by simp), HM⟩
  case round =>
    clear HM
    obtain ⟨i, rfl, hi, HT, HM⟩ := hrel
    by_cases hlt : i < L.length
    · obtain ⟨d, hd⟩ : ∃ d, L[i]? = some d := ⟨_, List.getElem?_eq_getElem hlt⟩
      obtain ⟨b, off, cs, rfl, HC, l0, -⟩ := HR.out.at135 hd
      have hlt1 : (i : Int) < L.length := by omega
      have hb := HBAD.out d (List.mem_of_getElem? hd)
      by_cases hk : Mt.keep x d = true
      · have F := fun w hB => mfn_any d x bl w hx hb hB false (Lib.hid (by rw [hk]; rfl))
        have HT2 : Hid (∀ d ∈ L.take (i + 1), Mt.keep x d = true) := Lib.hid (by
          intro y hy
          rw [List.take_add_one, hd] at hy
          rcases List.mem_append.1 hy with h | h
          · exact HT.out y h
          · simp at h; rw [h]; exact hk)
        clear hd hk hb
        go_wp2_with (first | (go_at_call 29; ((with_reducible refine (F _ (HM.ro HB.out (by simp))).mono ?_); rintro e9 w2 ⟨rfl, hL⟩; replace HM := HM.call hL; clear hL)) | (first | ((with_reducible refine g_ld ?_); refine a_ld HM ?_) | ((with_reducible refine g_st ?_); refine a_st HM ?_; clear HM; intro w1 HM) | ((with_reducible refine g_al ?_); refine a_al HM ?_; clear HM; intro bk w1 HM) | ((with_reducible refine g_bx ?_); refine a_bx HM ?_; clear HM; intro bk w1 HM) | ((with_reducible refine g_bld ?_); refine a_bld ?_)))
        go_roundw
        case rel => exact ⟨i + 1, by go_num, by omega, HT2, HM⟩
        case measure => simp [intOf]; omega
      · have hk2 : Mt.keep x d = false := by simpa using hk
        have F := fun w hB => mfn_any d x bl w hx hb hB true (Lib.hid (by rw [hk2]; rfl))
        obtain rfl : r = (i : Int) := by
          have h : L.findIdx? (fun d => !Mt.keep x d) = some i := by
            rw [List.findIdx?_eq_some_iff_getElem]
            obtain ⟨h1, h2⟩ := List.getElem?_eq_some_iff.1 hd
            refine ⟨h1, by rw [h2, hk2]; rfl, fun j hj => ?_⟩
            have := HT.out L[j] (List.mem_take_iff_getElem.2 ⟨j, by omega, rfl⟩)
            rw [this]; simp
          rw [hr.out]; unfold Mt.fst; rw [h]
        clear hd hk hk2 hb hr
        go_wp2_with (first | (go_at_call 29; ((with_reducible refine (F _ (HM.ro HB.out (by simp))).mono ?_); rintro e9 w2 ⟨rfl, hL⟩; replace HM := HM.call hL; clear hL)) | (first | ((with_reducible refine g_ld ?_); refine a_ld HM ?_) | ((with_reducible refine g_st ?_); refine a_st HM ?_; clear HM; intro w1 HM) | ((with_reducible refine g_al ?_); refine a_al HM ?_; clear HM; intro bk w1 HM) | ((with_reducible refine g_bx ?_); refine a_bx HM ?_; clear HM; intro bk w1 HM) | ((with_reducible refine g_bld ?_); refine a_bld ?_)))
        go_ret
        exact ⟨rfl, HM.low⟩
    · obtain rfl : i = L.length := by omega
      obtain rfl : r = -1 := by
        have h : L.findIdx? (fun d => !Mt.keep x d) = none := by
          rw [List.findIdx?_eq_none_iff]
          intro y hy
          rw [HT.out y (by rw [List.take_length]; exact hy)]; rfl
        rw [hr.out]; unfold Mt.fst; rw [h]
      go_wp2_with fail
      go_ret
      exact ⟨rfl, HM.low⟩
end Go.Proofs.YteamjgifohamgaaGreat
