/- Made marks. -/
import Derived.Test.YtipkmppoppjmeaaAsX
import Derived.Test.YtipkmppoppjmeaaTapeO
import Derived.Test.YtipkmppoppjmeaaSlicesD
namespace Go.Proofs.Ytipkmppoppjmeaa
set_option maxRecDepth 8000
open Go.RowKit Go.Maps
namespace As
def keys : List ByteArray := [{ data := #[97] }, { data := #[98] }, { data := #[99] }, { data := #[0] }, { data := #[97, 97] }]
/-- Marks as they are made: n the number of the last one. -/
structure Made (M : List Mk) (n : Int) : Prop where
  keys : ∀ m ∈ M, m.key ∈ As.keys
  lo : ∀ m ∈ M, 0 < m.kn ∧ m.kn ≤ n
  inc : M.Pairwise (fun a b => a.kn < b.kn)
  n0 : 0 ≤ n
  n1 : n ≤ 4 * M.length
theorem Made.nil : Made [] 0 := ⟨by simp, by simp, .nil, by omega, by simp⟩
theorem Made.snoc {M : List Mk} {n d : Int} {m : Mk} (h : Made M n) (hk : m.key ∈ As.keys) (hn : m.kn = n + d) (d0 : 1 ≤ d) (d1 : d ≤ 4) : Made (M ++ [m]) (n + d) := by
  have h0 := h.n0
  have h1 := h.n1
  refine ⟨fun x hx => ?_, fun x hx => ?_, List.pairwise_append.2 ⟨h.inc, by simp, fun a ha b hb => ?_⟩, by omega, by simp; omega⟩
  · rcases List.mem_append.1 hx with hx | hx
    · exact h.keys x hx
    · rw [List.mem_singleton.1 hx]; exact hk
  · rcases List.mem_append.1 hx with hx | hx
    · have := h.lo x hx; omega
    · rw [List.mem_singleton.1 hx]; omega
  · rw [List.mem_singleton.1 hb]; have := h.lo a ha; omega
theorem okFrom_of : ∀ (M : List Mk) (l : Int), (∀ m ∈ M, l < m.kn ∧ m.kn ≤ 2147483647 ∧ m.key.size ≠ 0 ∧ m.key.size ≤ 64) → M.Pairwise (fun a b => a.kn < b.kn) → okFrom l M = true
  | [], _, _, _ => rfl
  | m :: M, l, h, hp => by
    obtain ⟨a1, a2, a3, a4⟩ := h m List.mem_cons_self
    rw [okFrom, decide_eq_false a3, decide_eq_false (by omega), decide_eq_false (by omega), decide_eq_false (by omega)]
    rw [List.pairwise_cons] at hp
    rw [okFrom_of M m.kn (fun x hx => ⟨hp.1 x hx, (h x (List.mem_cons_of_mem _ hx)).2⟩) hp.2]
    rfl
theorem keys_size {s : ByteArray} (h : s ∈ As.keys) : s.size ≠ 0 ∧ s.size ≤ 64 := by
  simp only [As.keys, List.mem_cons, List.not_mem_nil, or_false] at h
  rcases h with rfl | rfl | rfl | rfl | rfl <;> exact ⟨by decide, by decide⟩
theorem Made.ok {M : List Mk} {n : Int} (h : Made M n) (hl : M.length ≤ 12) : As.ok M = true := by
  have h1 := h.n1
  unfold As.ok
  rw [decide_eq_true (by omega), okFrom_of M 0 (fun m hm => by
    have h2 := h.lo m hm
    obtain ⟨h3, h4⟩ := keys_size (h.keys m hm)
    exact ⟨h2.1, by omega, h3, h4⟩) h.inc]
  rfl
end As
theorem SlAt.marks {s : Value} {M : List As.Mk} {B : List (Nat × Array Value)} (h : SlAt 3 s (M.map As.c) B) : ∃ A cap, s = .slice A M.length cap := by
  obtain ⟨A, cap, e, _⟩ := h.val
  rw [List.length_map] at e
  exact ⟨A, cap, e⟩
theorem el_mark : elemB 22 46 3 32 = true := by kernel_rfl
set_option maxHeartbeats 4000000 in
theorem marks_any (W : World) (tb m : Nat) (w : World) (hT : Tp W tb m w) (hm : m ≤ 100000000000) :
    Calls Try.prog 20 #[.pointer (some ⟨tb, 0, none⟩)] w fun e w' => ∃ sv M n B c, e = .returned sv ∧ Hid (As.Made M n) ∧ M.length ≤ 12 ∧ Hid (SlAt 3 sv (M.map As.c) B) ∧ Hid (TapeC W (m + 100) c) ∧ Mem w [tb] ((tb, c) :: B) w' := by
  obtain ⟨c0, hbl, hc0, hb, hle0⟩ := hT
  have HM := Mem.start1 w hbl
  have HC := Lib.hid hc0
  have H0 := Lib.hid hb
  have HLE := Lib.hid hle0
  have hle : ∀ b ∈ [tb], W.heap.size ≤ b := by simpa using hle0
  have hel := el_mark
  clear hbl hc0 hb hle0
  go_enter Try.func20, Try.ntmps20
  go_wp2_with fail
  go_loopw [3, 4, 5] (fun sv nv iv wr => ∃ (i : Nat) (n : Int) (M : List As.Mk) (B : List (Nat × Array Value)) (c : Array Value), iv = .int .i64 (i : Nat) ∧ nv = .int .i64 n ∧ i ≤ 12 ∧ M.length = i ∧ Hid (As.Made M n) ∧ Hid (SlAt 3 sv (M.map As.c) B) ∧ Hid (TapeC W (m + 5 * i) c) ∧ Mem w [tb] ((tb, c) :: B) wr) (fun _ _ iv _ => 12 - (intOf iv).toNat)
  case atStart => exact ⟨0, 0, [], [], _, rfl, rfl, by omega, rfl, Lib.hid .nil, Lib.hid .nil, HC, HM⟩
  case round =>
    clear HM HC
    obtain ⟨i, n, M, B, c, rfl, rfl, hi, hMl, HMD, HS, HC, HM⟩ := hrel
    go_wp2_with fail
    (refine (next_any W tb _ _ _ (HM.tp (by ((repeat (first | exact Look.here | refine Look.there ?_)); done)) HC.out H0.out hle) (by omega) (by omega) (by omega)).mono ?_; rintro e9 w2 ⟨v, rfl, h0v, h1v, ⟨c1, hb1, hc1, -, -⟩, hg⟩; replace HM := HM.put (c' := c1) (by (repeat (first | exact At.here | apply At.there))) hb1 (Only.of_grown hg); clear hg hb1; replace HC := Lib.hid hc1; clear hc1)
    by_cases hlt : (i : Int) < v
    · go_wp2_with fail
      (refine (pick_new (tb := tb) (W := W) HM (by ((repeat (first | exact Look.here | refine Look.there ?_)); done)) HC.out H0.out (by first | exact hle | simpa using hle) [0, 0, 1, 3] _ (by omega) (by simp) (by simp)).mono ?_; rintro e9 w2 ⟨v1, c1, rfl, hv, hc1, hb1, hg⟩; replace HM := HM.put (c' := c1) (by (repeat (first | exact At.here | apply At.there))) hb1 hg; clear hg hb1; replace HC := Lib.hid hc1; clear hc1)
      have hd : 1 ≤ 1 + v1 ∧ 1 + v1 ≤ 4 := by
        simp only [List.mem_cons, List.not_mem_nil, or_false] at hv
        omega
      clear hv
      have hn0 := HMD.out.n0
      have hn1 := HMD.out.n1
      obtain ⟨d, hd0⟩ : ∃ d, d = 1 + v1 := ⟨_, rfl⟩
      go_wp2_with fail
      (refine (one_new (tb := tb) (W := W) HM (by ((repeat (first | exact Look.here | refine Look.there ?_)); done)) HC.out H0.out (by first | exact hle | simpa using hle) [{ data := #[97] }, { data := #[98] }, { data := #[99] }, { data := #[0] }, { data := #[97, 97] }] _ (by omega) (by simp) (by simp)).mono ?_; rintro e9 w2 ⟨s, c1, rfl, hs, hc1, hb1, hg⟩; replace HM := HM.put (c' := c1) (by (repeat (first | exact At.here | apply At.there))) hb1 hg; clear hg hb1; replace HC := Lib.hid hc1; clear hc1)
      have HMD2 := Lib.hid (fun b => HMD.out.snoc (d := d) (m := ⟨s, n + d, b⟩) hs rfl (by omega) (by omega))
      clear hs
      go_wp2_with fail
      (refine (chance_any W tb _ 1 4 _ (HM.tp (by ((repeat (first | exact Look.here | refine Look.there ?_)); done)) HC.out H0.out hle) (by omega) (by omega) (by omega)).mono ?_; rintro e9 w2 ⟨b, rfl, ⟨c1, hb1, hc1, -, -⟩, hg⟩; replace HM := HM.put (c' := c1) (by (repeat (first | exact At.here | apply At.there))) hb1 (Only.of_grown hg); clear hg hb1; replace HC := Lib.hid hc1; clear hc1)
      rw [← hd0]
      clear hd0 hd
      obtain ⟨n2, hn2⟩ : ∃ n2, n2 = n + d := ⟨_, rfl⟩
      rw [← hn2] at HMD2 ⊢
      clear hn2
      have hcap : ((M.map As.c).length + [As.c ⟨s, n2, b⟩].length) * (32 + 1) ≤ 140737488355328 := by simp; omega
      go_wp2_with (first | first
        | ((with_reducible refine g_bs1 ?_); refine a_bs1 (c0 := As.c ⟨s, n2, b⟩) HM ?_; clear HM; intro bx w1 HM)
        | ((with_reducible refine g_app ?_); refine a_app (m := [As.c ⟨s, n2, b⟩]) (F := fun B => (tb, c1) :: B) HM HS.out ((SlAt.made1 bx rfl).rd HM (by simp)) ?_ (As.c_one [⟨s, n2, b⟩]) (hlen := hcap); clear HM; intro s2 B2 w1 HS2 HM) | (first | ((with_reducible refine g_ld ?_); refine a_ld HM ?_) | ((with_reducible refine g_st ?_); refine a_st HM ?_; clear HM; intro w1 HM) | ((with_reducible refine g_al ?_); refine a_al HM ?_; clear HM; intro bk w1 HM) | ((with_reducible refine g_bx ?_); refine a_bx HM ?_; clear HM; intro bk w1 HM) | ((with_reducible refine g_bld ?_); refine a_bld ?_)))
      go_roundw
      case rel => exact ⟨i + 1, n2, M ++ [⟨s, n2, b⟩], B2, c1, by go_num, rfl, by omega, by simp [hMl], Lib.hid (HMD2.out b), Lib.hid (by rw [List.map_append]; exact HS2), Lib.hid (HC.out.mono (by omega)), HM⟩
      case measure => simp [intOf]; omega
    · go_wp2_with fail
      go_ret
      exact ⟨_, M, n, B, c1, rfl, HMD, by omega, HS, Lib.hid (HC.out.mono (by omega)), HM⟩
end Go.Proofs.Ytipkmppoppjmeaa
