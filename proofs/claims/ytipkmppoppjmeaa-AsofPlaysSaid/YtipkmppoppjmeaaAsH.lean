/- The chapter's example, walked. -/
import Derived.Test.YtipkmppoppjmeaaAsG
namespace Go.Proofs.Ytipkmppoppjmeaa
set_option maxRecDepth 8000
open Go.RowKit Go.Maps
def As.exM : List As.Mk := [⟨{ data := #[97] }, 1, false⟩, ⟨{ data := #[98] }, 2, false⟩, ⟨{ data := #[97] }, 5, false⟩, ⟨{ data := #[98] }, 7, true⟩, ⟨{ data := #[98] }, 9, false⟩]
set_option maxHeartbeats 4000000 in
theorem example_any (w : World) :
    Calls Try.prog 32 #[] w fun e w' => ∃ sv B, e = .returned sv ∧ Hid (SlAt 3 sv (As.exM.map As.c) B) ∧ Mem w [] B w' := by
  have HM := Mem.start w
  go_enter Try.func32, Try.ntmps32
  go_wp2_with (first | fail | (first | ((with_reducible refine g_ld ?_); refine a_ld HM ?_) | ((with_reducible refine g_st ?_); refine a_st HM ?_; clear HM; intro w1 HM) | ((with_reducible refine g_al ?_); refine a_al HM ?_; clear HM; intro bk w1 HM) | ((with_reducible refine g_bx ?_); refine a_bx HM ?_; clear HM; intro bk w1 HM) | ((with_reducible refine g_bld ?_); refine a_bld ?_)))
  go_ret
  exact ⟨_, _, rfl, Lib.hid (SlAt.made w.heap.size (As.exM.map As.c) (As.c_size _)), HM.new _ _⟩
theorem SlAt.readMk {w0 w : World} {X : List Nat} {L B : List (Nat × Array Value)} {s : Value} {M : List As.Mk} (h : SlAt 3 s (M.map As.c) B) (HM : Mem w0 X L w) (hp : ∀ p ∈ B, p ∈ L) (hl : M.length ≤ 9223372036854775807) : As.Rd w s M := ⟨h.rd HM hp, hl⟩
theorem As.ex8 : (([(2 : Int)], (0 : Int))) = As.visR As.exM 8 := by decide +kernel
theorem As.ex9 : (([(2 : Int), 4], (0 : Int))) = As.visR As.exM 9 := by decide +kernel
theorem As.exC : (([[97], [98]], (0 : Int)) : List (List UInt8) × Int) = As.chgR As.exM 4 8 := by decide +kernel
theorem As.exF : ((1, true, (0 : Int)) : Nat × Bool × Int) = As.findR As.exM 5 { data := #[98] } := by decide +kernel
set_option maxHeartbeats 8000000 in
theorem known_any (w : World) :
    Calls Try.prog 15 #[] w fun e w' => e = .returned (.bool true) ∧ Below w.heap.size w w' := by
  have HM := Mem.start w
  have hel := el_int
  have hel2 := el_str
  have X8 := Lib.hid As.ex8
  have X9 := Lib.hid As.ex9
  have XC := Lib.hid As.exC
  have XF := Lib.hid As.exF
  go_enter Try.func15, Try.ntmps15
  go_wp2_with (first | first
    | (go_at_call 32; refine (example_any _).mono ?_; rintro e9 w2 ⟨s1, B1, rfl, HS1, HM1⟩; replace HM := HM.join HM1; clear HM1)
    | (go_at_call 9; (with_reducible refine (visible_any _ _ _ _ (HS1.out.readMk HM (by intro p hp; (repeat (first | exact hp | exact List.mem_append_left _ hp | exact (List.mem_singleton.1 hp) ▸ List.mem_cons_self | apply List.mem_append_right | apply List.mem_cons_of_mem)); done) (by decide)) _ _ X8).mono ?_); rintro e9 w2 ⟨sa, Ba, rfl, HSa, HM1⟩; replace HM := HM.join HM1; clear HM1)
    | (go_at_call 9; (with_reducible refine (visible_any _ _ _ _ (HS1.out.readMk HM (by intro p hp; (repeat (first | exact hp | exact List.mem_append_left _ hp | exact (List.mem_singleton.1 hp) ▸ List.mem_cons_self | apply List.mem_append_right | apply List.mem_cons_of_mem)); done) (by decide)) _ _ X9).mono ?_); rintro e9 w2 ⟨sb, Bb, rfl, HSb, HM1⟩; replace HM := HM.join HM1; clear HM1)
    | (go_at_call 13; (with_reducible refine (changed_any _ _ _ _ _ (HS1.out.readMk HM (by intro p hp; (repeat (first | exact hp | exact List.mem_append_left _ hp | exact (List.mem_singleton.1 hp) ▸ List.mem_cons_self | apply List.mem_append_right | apply List.mem_cons_of_mem)); done) (by decide)) _ _ XC).mono ?_); rintro e9 w2 ⟨sc, Bc, rfl, HSc, HM1⟩; replace HM := HM.join HM1; clear HM1)
    | (go_at_call 11; ((with_reducible refine (find_any _ _ _ _ _ (HS1.out.readMk HM (by intro p hp; (repeat (first | exact hp | exact List.mem_append_left _ hp | exact (List.mem_singleton.1 hp) ▸ List.mem_cons_self | apply List.mem_append_right | apply List.mem_cons_of_mem)); done) (by decide)) (by decide) _ _ _ XF).mono ?_); rintro e9 w2 ⟨rfl, hL⟩; replace HM := HM.call hL; clear hL))
    | ((with_reducible refine g_bs1 ?_); refine a_bs1 (c0 := #[.int .i64 2]) HM ?_; clear HM; intro bx w1 HM)
    | ((with_reducible refine g_bs2 ?_); refine a_bs2 (t := 23) (c0 := #[.int .i64 2]) (c1 := #[.int .i64 4]) HM ?_; clear HM; intro bx w1 HM)
    | ((with_reducible refine g_bs2 ?_); refine a_bs2 (t := 29) (c0 := #[.string { data := #[97] }]) (c1 := #[.string { data := #[98] }]) HM ?_; clear HM; intro bx w1 HM)
    | (go_at_call 18; ((with_reducible refine (sameInts_any _ _ [2] [2] _ (HSa.out.rd HM (by intro p hp; (repeat (first | exact hp | exact List.mem_append_left _ hp | exact (List.mem_singleton.1 hp) ▸ List.mem_cons_self | apply List.mem_append_right | apply List.mem_cons_of_mem)); done)) ((Is.made1 bx 2).rd HM (by intro p hp; (repeat (first | exact hp | exact List.mem_append_left _ hp | exact (List.mem_singleton.1 hp) ▸ List.mem_cons_self | apply List.mem_append_right | apply List.mem_cons_of_mem)); done)) (by decide) (by decide) true (Lib.hid rfl)).mono ?_); rintro e9 w2 ⟨rfl, hL⟩; replace HM := HM.call hL; clear hL))
    | (go_at_call 18; ((with_reducible refine (sameInts_any _ _ [2, 4] [2, 4] _ (HSb.out.rd HM (by intro p hp; (repeat (first | exact hp | exact List.mem_append_left _ hp | exact (List.mem_singleton.1 hp) ▸ List.mem_cons_self | apply List.mem_append_right | apply List.mem_cons_of_mem)); done)) ((Is.made2 bx 2 4).rd HM (by intro p hp; (repeat (first | exact hp | exact List.mem_append_left _ hp | exact (List.mem_singleton.1 hp) ▸ List.mem_cons_self | apply List.mem_append_right | apply List.mem_cons_of_mem)); done)) (by decide) (by decide) true (Lib.hid rfl)).mono ?_); rintro e9 w2 ⟨rfl, hL⟩; replace HM := HM.call hL; clear hL))
    | (go_at_call 19; ((with_reducible refine (sameTexts_any _ _ [[97], [98]] [[97], [98]] _ (HSc.out.rd HM (by intro p hp; (repeat (first | exact hp | exact List.mem_append_left _ hp | exact (List.mem_singleton.1 hp) ▸ List.mem_cons_self | apply List.mem_append_right | apply List.mem_cons_of_mem)); done)) ((Vs.made2 bx [97] [98]).rd HM (by intro p hp; (repeat (first | exact hp | exact List.mem_append_left _ hp | exact (List.mem_singleton.1 hp) ▸ List.mem_cons_self | apply List.mem_append_right | apply List.mem_cons_of_mem)); done)) (by decide) (by decide) true (Lib.hid rfl)).mono ?_); rintro e9 w2 ⟨rfl, hL⟩; replace HM := HM.call hL; clear hL)) | (first | ((with_reducible refine g_ld ?_); refine a_ld HM ?_) | ((with_reducible refine g_st ?_); refine a_st HM ?_; clear HM; intro w1 HM) | ((with_reducible refine g_al ?_); refine a_al HM ?_; clear HM; intro bk w1 HM) | ((with_reducible refine g_bx ?_); refine a_bx HM ?_; clear HM; intro bk w1 HM) | ((with_reducible refine g_bld ?_); refine a_bld ?_)))
  go_ret
  exact ⟨rfl, HM.low⟩
end Go.Proofs.Ytipkmppoppjmeaa
