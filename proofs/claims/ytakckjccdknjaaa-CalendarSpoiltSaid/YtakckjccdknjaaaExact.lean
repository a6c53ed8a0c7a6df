/- CalendarExact: the walk: for every input the law returns true. -/
import Derived.Test.YtakckjccdknjaaaKnown
import Derived.Test.YtakckjccdknjaaaRefE
import Derived.Deep.RegionHeld3
namespace Go.Proofs.Ytakckjccdknjaaa
open Go.RowKit Go.Maps
theorem adjE_any (s : ByteArray) (k : Nat → Bool) (A : Option Addr) (hs : List Int) (c : Nat) (d v : Int) (w : World) (hA : IntsAt w A hs) (hl : hs.length ≤ 9223372036854775807) :
    Calls Try.prog 15 #[.agg #[.string s, .bool (k 0), .bool (k 1), .bool (k 2), .bool (k 3), .bool (k 4), .bool (k 5), .bool (k 6), .slice A hs.length c], .int .i64 d, .int .i64 v] w fun e w' => e = .returned (.tuple #[.int .i64 (Cl.adjV s k hs d v), .int .i64 (Cl.adjE s k hs d v)]) ∧ Below w.heap.size w w' := by
  by_cases hp : Cl.adjP s k hs d v = 0
  · have hq : Cl.preE s k hs d = 0 := by
      by_cases h : Cl.preE s k hs d = 0
      · exact h
      · simp [Cl.adjP, h] at hp
    have hv : 1 ≤ v ∧ v ≤ 4 := by
      by_cases h : 1 ≤ v ∧ v ≤ 4
      · exact h
      · simp [Cl.adjP, hq, h] at hp
    have g := adj_ok s k A hs c d v w hA (preE_parts hq).1 (preE_parts hq).2 hv.1 hv.2
    have e1 : Cl.adjV s k hs d v = (Cl.adjO k hs d v).getD 0 := by simp [Cl.adjV, hp]
    have e2 : Cl.adjE s k hs d v = Cl.errO (Cl.adjO k hs d v) := by simp [Cl.adjE, hp]
    rw [e1, e2]; exact g
  · have g := adj_bad s k A hs c d v w hA hl hp
    have e1 : Cl.adjV s k hs d v = 0 := by simp [Cl.adjV, hp]
    have e2 : Cl.adjE s k hs d v = Cl.adjP s k hs d v := by simp [Cl.adjE, hp]
    rw [e1, e2]; exact g
theorem rAdjE_any (s : ByteArray) (k : Nat → Bool) (A : Option Addr) (hs : List Int) (c : Nat) (d v : Int) (w : World) (hA : IntsAt w A hs) (hl : hs.length ≤ 9223372036854775807) :
    Calls Try.prog 16 #[.agg #[.string s, .bool (k 0), .bool (k 1), .bool (k 2), .bool (k 3), .bool (k 4), .bool (k 5), .bool (k 6), .slice A hs.length c], .int .i64 d, .int .i64 v] w fun e w' => e = .returned (.tuple #[.int .i64 (Cl.adjV s k hs d v), .int .i64 (Cl.adjE s k hs d v)]) ∧ Below w.heap.size w w' := by
  by_cases hp : Cl.adjP s k hs d v = 0
  · have hq : Cl.preE s k hs d = 0 := by
      by_cases h : Cl.preE s k hs d = 0
      · exact h
      · simp [Cl.adjP, h] at hp
    have hv : 1 ≤ v ∧ v ≤ 4 := by
      by_cases h : 1 ≤ v ∧ v ≤ 4
      · exact h
      · simp [Cl.adjP, hq, h] at hp
    have g := rAdj_ok s k A hs c d v w hA hl hq hv.1 hv.2
    have e1 : Cl.adjV s k hs d v = (Cl.adjO k hs d v).getD 0 := by simp [Cl.adjV, hp]
    have e2 : Cl.adjE s k hs d v = Cl.errO (Cl.adjO k hs d v) := by simp [Cl.adjE, hp]
    rw [e1, e2]; exact g
  · have g := rAdj_bad s k A hs c d v w hA hl hp
    have e1 : Cl.adjV s k hs d v = 0 := by simp [Cl.adjV, hp]
    have e2 : Cl.adjE s k hs d v = Cl.adjP s k hs d v := by simp [Cl.adjE, hp]
    rw [e1, e2]; exact g
theorem rAddE_any (s : ByteArray) (k : Nat → Bool) (A : Option Addr) (hs : List Int) (c : Nat) (d n : Int) (w : World) (hA : IntsAt w A hs) (hl : hs.length ≤ 9223372036854775807) (hn0 : -9223372036854775808 ≤ n) (hn1 : n ≤ 9223372036854775807) :
    Calls Try.prog 12 #[.agg #[.string s, .bool (k 0), .bool (k 1), .bool (k 2), .bool (k 3), .bool (k 4), .bool (k 5), .bool (k 6), .slice A hs.length c], .int .i64 d, .int .i64 n] w fun e w' => e = .returned (.tuple #[.int .i64 (Cl.addV s k hs d n), .int .i64 (Cl.addE s k hs d n)]) ∧ Below w.heap.size w w' := by
  by_cases hp : Cl.preE s k hs d = 0
  · by_cases h : n < 0
    · exact rAdd_neg s k A hs c d n w hA hl hp h hn0
    · exact rAdd_pos s k A hs c d n w hA hl hp (by omega) hn1
  · exact rAdd_bad s k A hs c d n w hA hl hp

set_option maxHeartbeats 2000000 in
theorem exact_any (s : ByteArray) (k : Nat → Bool) (A : Option Addr) (hs : List Int) (c : Nat) (d n t v : Int) (w : World) (hA : IntsAt w A hs) (hl : hs.length ≤ 9223372036854775807) (hn0 : -9223372036854775808 ≤ n) (hn1 : n ≤ 9223372036854775807) :
    Calls Try.prog 3 #[.agg #[.string s, .bool (k 0), .bool (k 1), .bool (k 2), .bool (k 3), .bool (k 4), .bool (k 5), .bool (k 6), .slice A hs.length c], .int .i64 d, .int .i64 n, .int .i64 t, .int .i64 v] w fun e w' => e = .returned (.bool true) ∧ Below w.heap.size w w' := by
  have HA := Lib.hid (hA.alloc (Obj.cells #[.string s, .bool (k 0), .bool (k 1), .bool (k 2), .bool (k 3), .bool (k 4), .bool (k 5), .bool (k 6), .slice A hs.length c] 25))
  have HL := Lib.hid hl
  have HN := Lib.hid (And.intro hn0 hn1)
  clear hA hl hn0 hn1
  have HB0 : Hid (Below (w.alloc (Obj.cells #[.string s, .bool (k 0), .bool (k 1), .bool (k 2), .bool (k 3), .bool (k 4), .bool (k 5), .bool (k 6), .slice A hs.length c] 25)).heap.size (w.alloc (Obj.cells #[.string s, .bool (k 0), .bool (k 1), .bool (k 2), .bool (k 3), .bool (k 4), .bool (k 5), .bool (k 6), .slice A hs.length c] 25)) (w.alloc (Obj.cells #[.string s, .bool (k 0), .bool (k 1), .bool (k 2), .bool (k 3), .bool (k 4), .bool (k 5), .bool (k 6), .slice A hs.length c] 25))) := Below.refl _ _
  go_enter Try.func3, Try.ntmps3
  go_wp2_with fail
  refine (biz_any s k A hs c d _ (HA.out.below HB0.out) HL.out).mono ?_
  rintro e w1 ⟨rfl, hb⟩
  have HB1 := Lib.hid (HB0.out.trans (hb.mono HB0.out.size))
  clear hb
  obtain ⟨hc, hf⟩ := bcell HB1.out
  have hc1 := hc; have hf1 := hf; clear hc hf
  go_wp2_with fail
  refine (rBiz_any s k A hs c d _ (HA.out.below HB1.out) HL.out).mono ?_
  rintro e w2 ⟨rfl, hb⟩
  have HB2 := Lib.hid (HB1.out.trans (hb.mono HB1.out.size))
  clear hb
  obtain ⟨hc, hf⟩ := bcell HB2.out
  clear hc1 hf1
  have hc1 := hc; have hf1 := hf; clear hc hf
  go_wp2_with fail
  refine (add_any s k A hs c d n _ (HA.out.below HB2.out) HL.out HN.out.1 HN.out.2).mono ?_
  rintro e w3 ⟨rfl, hb⟩
  have HB3 := Lib.hid (HB2.out.trans (hb.mono HB2.out.size))
  clear hb
  obtain ⟨hc, hf⟩ := bcell HB3.out
  clear hc1 hf1
  have hc1 := hc; have hf1 := hf; clear hc hf
  go_wp2_with fail
  refine (rAddE_any s k A hs c d n _ (HA.out.below HB3.out) HL.out HN.out.1 HN.out.2).mono ?_
  rintro e w4 ⟨rfl, hb⟩
  have HB4 := Lib.hid (HB3.out.trans (hb.mono HB3.out.size))
  clear hb
  obtain ⟨hc, hf⟩ := bcell HB4.out
  clear hc1 hf1
  have hc1 := hc; have hf1 := hf; clear hc hf
  go_wp2_with fail
  refine (count_any s k A hs c d t _ (HA.out.below HB4.out) HL.out).mono ?_
  rintro e w5 ⟨rfl, hb⟩
  have HB5 := Lib.hid (HB4.out.trans (hb.mono HB4.out.size))
  clear hb
  obtain ⟨hc, hf⟩ := bcell HB5.out
  clear hc1 hf1
  have hc1 := hc; have hf1 := hf; clear hc hf
  go_wp2_with fail
  refine (rCount_any s k A hs c d t _ (HA.out.below HB5.out) HL.out).mono ?_
  rintro e w6 ⟨rfl, hb⟩
  have HB6 := Lib.hid (HB5.out.trans (hb.mono HB5.out.size))
  clear hb
  obtain ⟨hc, hf⟩ := bcell HB6.out
  clear hc1 hf1
  have hc1 := hc; have hf1 := hf; clear hc hf
  go_wp2_with fail
  refine (adjE_any s k A hs c d v _ (HA.out.below HB6.out) HL.out).mono ?_
  rintro e w7 ⟨rfl, hb⟩
  have HB7 := Lib.hid (HB6.out.trans (hb.mono HB6.out.size))
  clear hb
  obtain ⟨hc, hf⟩ := bcell HB7.out
  clear hc1 hf1
  have hc1 := hc; have hf1 := hf; clear hc hf
  go_wp2_with fail
  refine (rAdjE_any s k A hs c d v _ (HA.out.below HB7.out) HL.out).mono ?_
  rintro e w8 ⟨rfl, hb⟩
  have HB8 := Lib.hid (HB7.out.trans (hb.mono HB7.out.size))
  clear hb
  obtain ⟨hc, hf⟩ := bcell HB8.out
  clear hc1 hf1
  have hc1 := hc; have hf1 := hf; clear hc hf
  go_wp2_with fail
  clear hc1 hf1
  have hlt : w.heap.size < (w.alloc (Obj.cells #[.string s, .bool (k 0), .bool (k 1), .bool (k 2), .bool (k 3), .bool (k 4), .bool (k 5), .bool (k 6), .slice A hs.length c] 25)).heap.size := by simp
  have HB9 := Lib.hid (HB8.out.drew)
  go_region_held3 (fun w' => (∀ o, w'.cell? ⟨w.heap.size, o, none⟩ = (w.alloc (Obj.cells #[.string s, .bool (k 0), .bool (k 1), .bool (k 2), .bool (k 3), .bool (k 4), .bool (k 5), .bool (k 6), .slice A hs.length c] 25)).cell? ⟨w.heap.size, o, none⟩) ∧ Below (w.alloc (Obj.cells #[.string s, .bool (k 0), .bool (k 1), .bool (k 2), .bool (k 3), .bool (k 4), .bool (k 5), .bool (k 6), .slice A hs.length c] 25)).heap.size (w.alloc (Obj.cells #[.string s, .bool (k 0), .bool (k 1), .bool (k 2), .bool (k 3), .bool (k 4), .bool (k 5), .bool (k 6), .slice A hs.length c] 25)) w')
    (first
      | exact sw_mk hlt HB9.out
      | (go_split_ands; exact sw_keep hlt (by assumption) (by assumption)))
    (first
      | (go_at_call 17; refine (known_any _).mono ?_; rintro e w' ⟨rfl, hb⟩)
      | (go_split_ands; go_at_call 18; refine (cCheck_any s k A hs c _ (HA.out.below (by assumption)) HL.out).mono ?_; rintro e w' ⟨rfl, hb⟩)
      | (go_split_ands; go_at_call 19; refine (rCheck_any s k A hs c _ (HA.out.below (by assumption)) HL.out).mono ?_; rintro e w' ⟨rfl, hb⟩))
  all_goals
    go_wp2
    go_ret
    go_split_ands
    exact ⟨by simp, bup (below_new w (Obj.cells #[.string s, .bool (k 0), .bool (k 1), .bool (k 2), .bool (k 3), .bool (k 4), .bool (k 5), .bool (k 6), .slice A hs.length c] 25)) (by assumption) (Nat.le_of_lt hlt)⟩
end Go.Proofs.Ytakckjccdknjaaa
