/- Adjusted days: plain mathematics, no program in sight. -/
import Derived.Test.YtakckjccdknjaaaAddMath
namespace Go.Proofs.Ytakckjccdknjaaa
namespace Cl
open Dt Nm
theorem up_there {k : Nat → Bool} {hs : List Int} (hk : allK k = false) (hl : hs.length ≤ 20) {d : Int} (h0 : 1000 ≤ d) (h1 : d ≤ 70000) : ∃ x, up (opn k hs) d = some x ∧ d ≤ x ∧ x ≤ d + 350 ∧ opn k hs x = true := by
  obtain ⟨x, hx, a, b, c⟩ := nthU_there hk hl 1 d (by omega) (by omega) (by omega)
  exact ⟨x, by rw [← nthU_one]; exact hx, by omega, by omega, c⟩
theorem dn_there {k : Nat → Bool} {hs : List Int} (hk : allK k = false) (hl : hs.length ≤ 20) {d : Int} (h0 : 1000 ≤ d) (h1 : d ≤ 70000) : ∃ x, dn (opn k hs) d = some x ∧ x ≤ d ∧ d - 350 ≤ x ∧ opn k hs x = true := by
  obtain ⟨x, hx, a, b, c⟩ := nthL_there hk hl 1 d (by omega) (by omega) (by omega)
  exact ⟨x, by rw [← nthL_one]; exact hx, by omega, by omega, c⟩
/-- The first day of a day's month. -/
noncomputable def mFirst (n : Int) : Int := n - mDay n + 1
theorem adj_law {k : Nat → Bool} {hs : List Int} (hk : allK k = false) (hl : hs.length ≤ 20) {d l v : Int} (h0 : 1000 ≤ d) (hdl : d ≤ l) (h1 : l ≤ 70000) (v1 : 1 ≤ v) (v4 : v ≤ 4) :
    ∃ a b, adjO k hs d v = some a ∧ adjO k hs l v = some b ∧ adjO k hs a v = some a ∧ opn k hs a = true ∧ d - 350 ≤ a ∧ a ≤ d + 350 ∧ (v ≤ 2 → a ≤ b) ∧ (v = 1 → d ≤ a) ∧ (v = 2 → a ≤ d)
      ∧ (3 ≤ v → mNo a = mNo d ∨ cnt (opn k hs) (mEnd d + 1 - mFirst d).toNat (mFirst d) = 0) := by
  obtain ⟨u, hu, u0, u1, uo⟩ := up_there hk hl h0 (by omega : d ≤ 70000)
  obtain ⟨e, he, e0, e1, eo⟩ := dn_there hk hl h0 (by omega : d ≤ 70000)
  obtain ⟨u', hu', u0', u1', uo'⟩ := up_there hk hl (by omega : 1000 ≤ l) h1
  obtain ⟨e', he', e0', e1', eo'⟩ := dn_there hk hl (by omega : 1000 ≤ l) h1
  have hday : isDay d = true := by unfold isDay; simp; omega
  have hua : isDay u = true := by unfold isDay; simp; omega
  have hea : isDay e = true := by unfold isDay; simp; omega
  have hmono : u ≤ u' := by
    by_cases c : u ≤ l
    · omega
    · by_cases c2 : u ≤ u'
      · exact c2
      · have := up_gap _ rfl hu u' (by omega) (by omega)
        rw [uo'] at this; cases this
  have hmono' : e ≤ e' := by
    by_cases c : e ≤ e'
    · exact c
    · have := dn_gap _ rfl he' e (by omega) (by omega)
      rw [eo] at this; cases this
  have hall : ∀ z, e < z → z < u → opn k hs z = false := by
    intro z z0 z1
    by_cases c : z ≤ d
    · exact dn_gap _ rfl he z c z0
    · exact up_gap _ rfl hu z (by omega) z1
  have hnone : e < mFirst d → mEnd d < u → cnt (opn k hs) (mEnd d + 1 - mFirst d).toNat (mFirst d) = 0 := by
    intro a b
    exact cnt_none _ _ _ (fun z z0 z1 => hall z (by omega) (by omega))
  have hsu : u ≤ mEnd d → mNo u = mNo d := by
    intro c
    by_cases q : d < u
    · exact (month_up hday hua q).2 c
    · obtain rfl : d = u := by omega
      rfl
  have hse : mFirst d ≤ e → mNo e = mNo d := by
    intro c
    by_cases q : e < d
    · exact (month_dn hday hea q).2 (by unfold mFirst at c; omega)
    · obtain rfl : d = e := by omega
      rfl
  have hv : v = 1 ∨ v = 2 ∨ v = 3 ∨ v = 4 := by omega
  rcases hv with rfl | rfl | rfl | rfl
  · refine ⟨u, u', ?_, ?_, adjO_open hua uo, uo, by omega, by omega, fun _ => hmono, fun _ => u0, fun h => by omega, fun h => by omega⟩
    · unfold adjO; rw [if_pos rfl]; exact hu
    · unfold adjO; rw [if_pos rfl]; exact hu'
  · refine ⟨e, e', ?_, ?_, adjO_open hea eo, eo, by omega, by omega, fun _ => hmono', fun h => by omega, fun _ => e0, fun h => by omega⟩
    · unfold adjO; rw [if_neg (by omega), if_neg (by omega), if_neg (by omega)]; exact he
    · unfold adjO; rw [if_neg (by omega), if_neg (by omega), if_neg (by omega)]; exact he'
  · have hb : ∃ b, adjO k hs l 3 = some b := by
      unfold adjO
      rw [if_neg (by omega), if_pos rfl]
      split
      · exact ⟨_, hu'⟩
      · exact ⟨_, he'⟩
    obtain ⟨b, hb⟩ := hb
    by_cases c : u ≤ mEnd d
    · refine ⟨u, b, ?_, hb, adjO_open hua uo, uo, by omega, by omega, fun h => by omega, fun h => by omega, fun h => by omega, fun _ => .inl (hsu c)⟩
      unfold adjO
      rw [if_neg (by omega), if_pos rfl, hu, if_pos ⟨rfl, by simpa using c⟩]
    · refine ⟨e, b, ?_, hb, adjO_open hea eo, eo, by omega, by omega, fun h => by omega, fun h => by omega, fun h => by omega, fun _ => ?_⟩
      · unfold adjO
        rw [if_neg (by omega), if_pos rfl, hu, if_neg (by simpa using c), he]
      · by_cases q : mFirst d ≤ e
        · exact .inl (hse q)
        · exact .inr (hnone (by omega) (by omega))
  · have hb : ∃ b, adjO k hs l 4 = some b := by
      unfold adjO
      rw [if_neg (by omega), if_neg (by omega), if_pos rfl]
      split
      · exact ⟨_, he'⟩
      · exact ⟨_, hu'⟩
    obtain ⟨b, hb⟩ := hb
    by_cases c : mFirst d ≤ e
    · refine ⟨e, b, ?_, hb, adjO_open hea eo, eo, by omega, by omega, fun h => by omega, fun h => by omega, fun h => by omega, fun _ => .inl (hse c)⟩
      have c' : d - mDay d < e := by unfold mFirst at c; omega
      unfold adjO
      rw [if_neg (by omega), if_neg (by omega), if_pos rfl, he, if_pos ⟨rfl, by simpa using c'⟩]
    · refine ⟨u, b, ?_, hb, adjO_open hua uo, uo, by omega, by omega, fun h => by omega, fun h => by omega, fun h => by omega, fun _ => ?_⟩
      · have c' : ¬ d - mDay d < e := by unfold mFirst at c; omega
        unfold adjO
        rw [if_neg (by omega), if_neg (by omega), if_pos rfl, he, if_neg (by simpa using c'), hu]
      · by_cases q : u ≤ mEnd d
        · exact .inl (hsu q)
        · exact .inr (hnone (by omega) (by omega))
/-- The month of a civil date: its first and its last day. -/
theorem civ_month {n y m d : Int} (hc : isCiv n y m d) : mFirst n = dby y + cum y m ∧ mEnd n = dby y + cum y m + dim y m - 1 := by
  unfold mFirst mEnd mDay
  rw [civ_of hc]
  obtain ⟨_, _, _, _, _, _, h⟩ := hc
  constructor <;> simp only <;> omega
theorem mNo_civ {n y m d : Int} (hc : isCiv n y m d) : mNo n = 12 * y + m := by
  unfold mNo; rw [civ_of hc]
end Cl
end Go.Proofs.Ytakckjccdknjaaa
