/- The tape's methods on texts: One, Text. -/
import Derived.Test.YtnfojnlcclccbaaTxtE
namespace Go.Proofs.Ytnfojnlcclccbaa
set_option maxRecDepth 8000
open Go.RowKit
def OnePost (W : World) (tb m : Nat) (ss : List ByteArray) (w : World) (e : Ending) (w' : World) : Prop :=
  ∃ s : ByteArray, e = .returned (.string s) ∧ s ∈ ss ∧ Tp W tb (m + 1) w' ∧ w.grownBy w' (some tb)
theorem one_any (W : World) (tb m b : Nat) (ss : List ByteArray) (c : Nat) (w : World) (hT : Tp W tb m w) (hm : m ≤ 1000000000000) (hB : Blk w b (ss.map Value.string).toArray) (hne : b ≠ tb) (hd : 0 < ss.length) (hd2 : ss.length ≤ 1000) :
    Calls Try.prog 11 #[.pointer (some ⟨tb, 0, none⟩), .slice (some ⟨b, 0, none⟩) ss.length c] w (OnePost W tb m ss w) := by
  have HT := Lib.hid hT
  have HB := Lib.hid hB
  have hn0 : ((ss.length : Int) == 0) = false := beq_eq_false_iff_ne.2 (by omega)
  clear hT hB
  go_enter Try.func11, Try.ntmps11
  go_wp2_with fail
  refine (next_any W tb m ss.length _ HT.out hm (by omega) (by omega)).mono ?_
  rintro e w' ⟨v, rfl, v0, v1, hT, hg⟩
  obtain ⟨k, rfl⟩ : ∃ k : Nat, v = k := ⟨v.toNat, by omega⟩
  have hk : k < ss.length := by omega
  have hb2 : Blk w' b (ss.map Value.string).toArray := HB.out.kept ((Only.of_grown hg).block b HB.out.lt (by simpa using hne))
  obtain ⟨x, hx⟩ : ∃ x, x = ss[k] := ⟨_, rfl⟩
  have hcv : w'.cell? ⟨b, k, none⟩ = some (.string x) := by
    rw [hb2.cell k, hx]; simp [hk]
  have hmem : Hid (x ∈ ss) := Lib.hid (by rw [hx]; exact List.getElem_mem hk)
  have HT2 := Lib.hid hT
  have HG := Lib.hid hg
  clear hx hT hg hb2
  go_wp2
  go_ret
  exact ⟨x, rfl, hmem.out, HT2.out, HG.out⟩
/-- One out of a list that was made for the call. -/
theorem one_new {W w0 w : World} {X : List Nat} {L : List (Nat × Array Value)} {tb m : Nat} {cs : Array Value} (HM : Mem w0 X L w) (hl : Look L tb cs) (hc : TapeC W m cs) (h0 : Below W.heap.size W w0) (hX : ∀ b ∈ X, W.heap.size ≤ b) (ss : List ByteArray) (T : TypeId) (hm : m ≤ 1000000000000) (hd : 0 < ss.length) (hd2 : ss.length ≤ 1000) :
    Calls Try.prog 11 #[.pointer (some ⟨tb, 0, none⟩), .slice (some ⟨w.heap.size, 0, none⟩) ss.length ss.length] (w.alloc (.cells (ss.map Value.string).toArray T)) fun e w' =>
      ∃ (s : ByteArray) (c' : Array Value), e = .returned (.string s) ∧ s ∈ ss ∧ TapeC W (m + 1) c' ∧ Blk w' tb c' ∧ Only [tb] w w' := by
  have hlt := (HM.get hl).lt
  refine (one_any W tb m _ ss _ _ ((HM.new _ T).tp (.there hl) hc h0 hX) hm (Blk.new w _ T) (by omega) hd hd2).mono ?_
  rintro e w' ⟨v, rfl, hv, ⟨c', h1, h2, _⟩, hg⟩
  exact ⟨v, c', rfl, hv, h2, h1, ((Only.of (below_new w _) [tb]).trans (Only.of_grown hg))⟩
theorem conv_nil (w : World) : (convert 52 9 (.slice none 0 0)).run Try.prog w = .ok (.string { data := #[] }) w := by kernel_rfl
def TextPost (W : World) (tb m : Nat) (n : Nat) (w : World) (e : Ending) (w' : World) : Prop :=
  ∃ s : ByteArray, e = .returned (.string s) ∧ s.size = n ∧ Tp W tb (m + n) w' ∧ w.grownBy w' (some tb)
set_option maxRecDepth 20000 in
set_option maxHeartbeats 4000000 in
theorem text_any (W : World) (tb m n : Nat) (al : ByteArray) (w : World) (hT : Tp W tb m w) (hm : m ≤ 100000000000) (hn : n ≤ 1000) (ha : 0 < al.size) (ha2 : al.size ≤ 1000) :
    Calls Try.prog 12 #[.pointer (some ⟨tb, 0, none⟩), .int .i64 (n : Nat), .string al] w (TextPost W tb m n w) := by
  obtain ⟨c0, hbl, hc0, hb, hle0⟩ := hT
  have HM := Mem.start1 w hbl
  have HC := Lib.hid hc0
  have H0 := Lib.hid hb
  have HLE := Lib.hid hle0
  have hle : ∀ b ∈ [tb], W.heap.size ≤ b := by simpa using hle0
  have hel := el_byte
  clear hbl hc0 hb hle0
  go_enter Try.func12, Try.ntmps12
  go_wp2_with fail
  go_loopw [7, 8] (fun sv iv wr => ∃ (i : Nat) (bs : List Nat) (B : List (Nat × Array Value)) (c : Array Value), iv = .int .i64 (i : Nat) ∧ i ≤ n ∧ bs.length = i ∧ Hid (∀ d ∈ bs, d < 256) ∧ Hid (SlAt 1 sv (bs.map Tx.b) B) ∧ Hid (TapeC W (m + i) c) ∧ Mem w [tb] ((tb, c) :: B) wr) (fun _ iv _ => n - (intOf iv).toNat)
  case atStart => exact ⟨0, [], [], _, rfl, by omega, rfl, Lib.hid (by simp), Lib.hid .nil, HC, HM⟩
  case round =>
    clear HM HC
    obtain ⟨i, bs, B, c, rfl, hi, hbs, HD, HS, HC, HM⟩ := hrel
    by_cases hlt : i < n
    · have hlt1 : (i : Int) < n := by omega
      go_wp2_with fail
      (refine (next_any W tb _ _ _ (HM.tp (by ((repeat (first | exact Look.here | refine Look.there ?_)); done)) HC.out H0.out hle) (by omega) (by omega) (by omega)).mono ?_; rintro e9 w2 ⟨v, rfl, h0v, h1v, ⟨c1, hb1, hc1, -, -⟩, hg⟩; replace HM := HM.put (c' := c1) (by (repeat (first | exact At.here | apply At.there))) hb1 (Only.of_grown hg); clear hg hb1; replace HC := Lib.hid hc1; clear hc1)
      obtain ⟨k, rfl⟩ : ∃ k : Nat, v = k := ⟨v.toNat, by omega⟩
      have hk : k < al.size := by omega
      obtain ⟨x, hx⟩ : ∃ x, x = al[k].toNat := ⟨_, rfl⟩
      have h256 : x < 256 := by rw [hx]; exact al[k].toNat_lt
      have HX := Lib.hid hx
      have hcap : ((bs.map Tx.b).length + [Tx.b x].length) * (1 + 1) ≤ 140737488355328 := by rw [len_b]; simp; omega
      clear hx
      go_wp2_with (first | first
        | ((with_reducible refine g_bs1 ?_); refine a_bs1 (c0 := Tx.b al[k].toNat) HM ?_; clear HM; intro bx w1 HM)
        | ((with_reducible refine g_app ?_); refine a_app (m := [Tx.b al[k].toNat]) (F := fun B => (tb, c1) :: B) HM HS.out ((SlAt.made1 bx rfl).rd HM (by simp)) ?_ (Tx.b_one [_]) (hlen := hcap); clear HM; intro s2 B2 w1 HS2 HM) | (first | ((with_reducible refine g_ld ?_); refine a_ld HM ?_) | ((with_reducible refine g_st ?_); refine a_st HM ?_; clear HM; intro w1 HM) | ((with_reducible refine g_al ?_); refine a_al HM ?_; clear HM; intro bk w1 HM) | ((with_reducible refine g_bx ?_); refine a_bx HM ?_; clear HM; intro bk w1 HM) | ((with_reducible refine g_bld ?_); refine a_bld ?_)))
      go_roundw
      case rel =>
        rw [← HX.out] at HS2
        have e : bs.map Tx.b ++ [Tx.b x] = (bs ++ [x]).map Tx.b := by rw [List.map_append]; rfl
        rw [e] at HS2
        exact ⟨i + 1, bs ++ [x], B2, c1, by go_num, by omega, by simp [hbs], Lib.hid (by
          intro d hd
          rcases List.mem_append.1 hd with h | h
          · exact HD.out d h
          · rw [List.mem_singleton.1 h]; exact h256), Lib.hid HS2, Lib.hid (HC.out.mono (by omega)), HM⟩
      case measure => simp [intOf]; omega
    · obtain rfl : i = n := by omega
      have HG : Hid (w.grownBy wr (some tb)) := Lib.hid ⟨HM.only.os, HM.only.tape, HM.only.output, HM.only.size, fun k hk hne => HM.only.block k hk (by simpa using fun e => hne (by rw [e]))⟩
      have HTp : Hid (Tp W tb (m + i) wr) := Lib.hid (HM.tp .here HC.out H0.out hle)
      have HBS := Lib.hid hbs
      clear hbs
      by_cases h0 : bs = []
      · subst h0
        have hsv := HS.out
        rw [List.map_nil] at hsv
        cases hsv with
        | nil =>
          have hcv := conv_nil
          go_wp2_with fail
          go_ret
          exact ⟨_, rfl, HBS.out, HTp.out, HG.out⟩
        | row b l sp h =>
          have hcv := conv_b (l := []) (sp := sp) (HM.get (.there .here)) h (by simp) sp.length
          simp only [List.length_nil] at hcv
          go_wp2_with fail
          go_ret
          exact ⟨_, rfl, HBS.out, HTp.out, HG.out⟩
      · obtain ⟨b0, sp, e1, e2, hsz⟩ := SlAt.inv HS.out (by intro h; exact h0 (by simpa using h))
        rw [len_b] at e1
        subst e1 e2
        have hcv := conv_b (HM.get (.there .here)) hsz HD.out (bs.length + sp.length)
        go_wp2_with fail
        go_ret
        exact ⟨_, rfl, by rw [← HBS.out]; show (bs.map UInt8.ofNat).toArray.size = _; simp, HTp.out, HG.out⟩
end Go.Proofs.Ytnfojnlcclccbaa
