/- Walks. -/
import Derived.Test.YtkiempioeffhbaaGreatDoorPg37
namespace Go.Proofs.YtkiempioeffhbaaGreatDoor
set_option maxHeartbeats 16000000
open Go.RowKit
set_option maxRecDepth 8000
set_option linter.unusedSimpArgs false
set_option linter.unusedVariables false
section
open Jb
def pc (n : Int) : Rr := rr (Rat.divInt n 10000)
theorem spct_r (n : Int) (h1 : 0 ≤ n) (h2 : n ≤ 1000000000) (w : World) :
    Calls Tryz.prog 50 #[.int .i64 n] w fun r w' => r = .returned (.agg (pc n).c) ∧ Below w.heap.size w w' := by
 have HM := Mem.start w
 have hz := za_rat
 have s1 := (pc n).sa (rZ_size 0 0)
 have l1 := (pc n).la
 have O := fun w => sratio_r n 10000 h1 h2 Zd Zd w
 go_enter Tryz.func50, Tryz.ntmps50
 go_wp2_with (first | (go_at_call 19; (with_reducible refine Zc HM (O _) ?_; clear HM; intro w2 HM)) | ((with_reducible refine g_st ?_); refine a_st HM ?_; clear HM; intro w1 HM) | ((with_reducible refine g_al ?_); refine a_al HM ?_; clear HM; intro bk w1 HM))
 refine bodyPost_ret (r_c rfl rfl (HM.get Zl) l1) rfl ⟨rfl, HM.low⟩
def WK.mk0 (nm ins : ByteArray) (up pp mg : Int) : WK := ⟨nm, { data := #[85, 83, 68] }, false, up, pp, 6, rr (Rat.divInt 100 1), ⟨{ data := #[109, 97, 110, 97, 103, 101, 109, 101, 110, 116] }, pc mg, 2⟩, pc 0, pc 0, 0, 0, ins⟩
theorem scls_new {W w0 w : World} {X : List Nat} {L : List (Nat × Array Value)} {tb m : Nat} {cs : Array Value} (HMo : Mem w0 X L w) (hl : Look L tb cs) (hc : TapeC W m cs) (h0 : Below W.heap.size W w0) (hX : ∀ b ∈ X, W.heap.size ≤ b) (nm ins : ByteArray) :
    Calls Tryz.prog 28 #[.pointer (some ⟨tb, 0, none⟩), .string nm, .string ins] w fun e w' => ∃ c : WK, e = .returned (.agg c.c) ∧ c.nm = nm ∧ TPost W tb (m + 20) w w' := by
 have HM := Mem.start1 w (HMo.get hl)
 have HC := Zi hc
 have HT := HMo.tp hl hc h0 hX
 have H0 : Hid (Below W.heap.size W w) := Zi (by obtain ⟨_, _, _, h, _⟩ := HT; exact h)
 have hle : ∀ b ∈ [tb], W.heap.size ≤ b := by
  exact z9_109
 clear HT hc h0 hX hl HMo
 have za0 := WK.za
 go_enter Tryz.func28, Tryz.ntmps28
 go_wp2_with ((with_reducible refine g_al ?_); refine a_al HM ?_; clear HM; intro bk w1 HM)
 obtain ⟨b6, rfl⟩ := HM.nm0
 (refine (spick_newi (tb := tb) (W := W) HM Zl HC.out H0.out (by first | exact hle | simpa using hle) [3, 0, 2] _ Zs Zs).mono ?_; rintro e9 w2 ⟨up, c1, rfl, hup, hc1, hb1, hg⟩; replace HM := HM.put (c' := c1) Zg hb1 hg; clear hg hb1; replace HC := Zi hc1; clear hc1)
 go_wp2_with fail
 (refine (spick_newi (tb := tb) (W := W) HM Zl HC.out H0.out (by first | exact hle | simpa using hle) [2, 4] _ Zs Zs).mono ?_; rintro e9 w2 ⟨pp, c1, rfl, hpp, hc1, hb1, hg⟩; replace HM := HM.put (c' := c1) Zg hb1 hg; clear hg hb1; replace HC := Zi hc1; clear hc1)
 clear hup hpp
 go_wp2_with (go_at_call 19; (with_reducible refine Zc HM (sratio_r 100 1 Zd Zd Zd Zd _) ?_; clear HM; intro w2 HM))
 (refine (spick_newi (tb := tb) (W := W) HM Zl HC.out H0.out (by first | exact hle | simpa using hle) [0, 150, 100] _ Zs Zs).mono ?_; rintro e9 w2 ⟨mg, c1, rfl, hmg, hc1, hb1, hg⟩; replace HM := HM.put (c' := c1) Zg hb1 hg; clear hg hb1; replace HC := Zi hc1; clear hc1)
 have hm0 : 0 ≤ mg ∧ mg ≤ 1000000000 := by
  simp only [List.mem_cons, List.not_mem_nil, or_false] at hmg
  omega
 obtain ⟨m0, m1⟩ := hm0
 clear hmg
 have BE := fun w => WE.bld (parts := #[(0, .string { data := #[109, 97, 110, 97, 103, 101, 109, 101, 110, 116] }), (1, .agg (pc mg).c), (2, .int .i64 2)]) (r := ⟨{ data := #[109, 97, 110, 97, 103, 101, 109, 101, 110, 116] }, pc mg, 2⟩) (by simp [Value.cells, Rr.size]) (by rw [WE.rows]; rfl) w
 have BK := fun w => WK.bld (parts := #[(0, .string nm), (1, .string { data := #[85, 83, 68] }), (3, .int .i64 up), (4, .int .i64 pp), (5, .int .i64 6), (6, .agg (rr (Rat.divInt 100 1)).c), (7, .agg (WE.c ⟨{ data := #[109, 97, 110, 97, 103, 101, 109, 101, 110, 116] }, pc mg, 2⟩)), (8, .agg (pc 0).c), (9, .agg (pc 0).c), (12, .string ins)]) (r := WK.mk0 nm ins up pp mg) (by simp [Value.cells, Rr.size, WE.size]) (by rw [WK.rows]; rfl) w
 have s0 := (WK.mk0 nm ins up pp mg).sa WK.zero.size
 go_wp2_with (first | ((first | (go_at_call 50; with_reducible refine (spct_r mg m0 m1 _).mono ?_) | (go_at_call 50; with_reducible refine (spct_r 0 Zd Zd _).mono ?_)); rintro e9 w2 ⟨rfl, hL⟩; replace HM := HM.call hL; clear hL) | ((with_reducible refine g_bld ?_); refine a_rbl (v := .agg (WE.c ⟨{ data := #[109, 97, 110, 97, 103, 101, 109, 101, 110, 116] }, pc mg, 2⟩)) ?_ (hy := h_bg3 rfl Zw Zw Zw (by with_reducible exact (BE)))) | ((with_reducible refine g_bld ?_); refine a_rbl (v := .agg (WK.mk0 nm ins up pp mg).c) ?_ (hy := h_bg10 rfl Zw Zw Zw Zw Zw Zw Zw Zw Zw Zw (by with_reducible exact (BK)))) | ((with_reducible refine g_st ?_); refine a_st HM ?_; clear HM; intro w1 HM) | ((with_reducible refine g_al ?_); refine a_al HM ?_; clear HM; intro bk w1 HM))
 (refine (sbool_inf W tb _ 3 _ (HM.tp Zl HC.out H0.out hle) Zo Zo).mono ?_; rintro e9 w2 ⟨g, rfl, ⟨c1, hb1, hc1, -, -⟩, hg⟩; replace HM := HM.put (c' := c1) Zg hb1 (Only.of_grown hg); clear hg hb1; replace HC := Zi hc1; clear hc1)
 obtain ⟨b7, rfl⟩ := HM.nm0
 obtain ⟨C0, hC0⟩ : ∃ C : WK, C = WK.mk0 nm ins up pp mg := ⟨_, rfl⟩
 have hn0 : C0.nm = nm := by rw [hC0]; rfl
 rw [← hC0] at HM
 replace HM := HM.pick (K := [(b7, C0.c), (b6, WK.zero.c), (tb, c1)]) (by (repeat (first | exact Pk.nil | exact Pk.refl _ | exact Pk.pre _ _ | exact Pk.post _ _ | (apply Pk.cons; focus (repeat (first | exact Rm.here | apply Rm.there))) | apply Pk.skip)))
 clear BE BK s0 m0 m1 hC0
 go_upto_if 26 with (first | ((with_reducible refine g_ld ?_); refine a_ld HM ?_) | ((with_reducible refine g_st ?_); refine a_st HM ?_; clear HM; intro w1 HM) | ((with_reducible refine g_al ?_); refine a_al HM ?_; clear HM; intro bk w1 HM) | ((with_reducible refine g_bld ?_); refine a_bld ?_))
 go_cut [] (fun wc => ∃ (C : WK) (cc : Array Value), C.nm = nm ∧ Hid (TapeC W (m + 12) cc) ∧ Mem w [tb] [(b7, C.c), (b6, WK.zero.c), (tb, cc)] wc)
 case first =>
  cases g with
  | true =>
   have s1 := C0.s_prf (pc 2000)
   have s2 := WK.s_meth { C0 with prf := pc 2000 } 1
   have s3 := WK.s_hur { C0 with prf := pc 2000, meth := 1 } (pc 400)
   go_wp2_with (first | (go_at_call 50; (with_reducible refine Zc HM (spct_r 2000 Zd Zd _) ?_; clear HM; intro w2 HM)) | ((with_reducible refine g_st ?_); refine a_st HM ?_; clear HM; intro w1 HM))
   (refine (sbool_inf W tb _ 2 _ (HM.tp Zl HC.out H0.out hle) Zo Zo).mono ?_; rintro e9 w2 ⟨g2, rfl, ⟨c1, hb1, hc1, -, -⟩, hg⟩; replace HM := HM.put (c' := c1) Zg hb1 (Only.of_grown hg); clear hg hb1; replace HC := Zi hc1; clear hc1)
   cases g2 with
   | true =>
    go_wp2_with (first | (go_at_call 50; (with_reducible refine Zc HM (spct_r 400 Zd Zd _) ?_; clear HM; intro w2 HM)) | ((with_reducible refine g_st ?_); refine a_st HM ?_; clear HM; intro w1 HM))
    go_meet
    case rel => exact ⟨{ C0 with prf := pc 2000, meth := 1, hur := pc 400 }, _, hn0, Zi (HC.out.mono Zo), HM.pick⟩
   | false =>
    go_wp2_with fail
    go_meet
    case rel => exact ⟨{ C0 with prf := pc 2000, meth := 1 }, _, hn0, Zi (HC.out.mono Zo), HM.pick⟩
  | false =>
   go_wp2_with fail
   go_meet
   case rel => exact ⟨C0, _, hn0, Zi (HC.out.mono Zo), HM.pick⟩
 case rest =>
  clear HM HC hn0
  obtain ⟨C, cc, hn, HC, HM⟩ := hcut
  go_step
  go_wp2_with fail
  (refine (sbool_inf W tb _ 5 _ (HM.tp Zl HC.out H0.out hle) Zo Zo).mono ?_; rintro e9 w2 ⟨g, rfl, ⟨c1, hb1, hc1, -, -⟩, hg⟩; replace HM := HM.put (c' := c1) Zg hb1 (Only.of_grown hg); clear hg hb1; replace HC := Zi hc1; clear hc1)
  have s1 := C.s_mini 50000
  have l1 := C.la
  have l2 := (({ C with mini := 50000 } : WK)).la
  have s8 := C.sa WK.zero.size
  have s9 := (({ C with mini := 50000 } : WK)).sa WK.zero.size
  cases g with
  | true =>
   go_wp2_with (first | ((with_reducible refine g_ld ?_); refine a_ld HM ?_) | ((with_reducible refine g_st ?_); refine a_st HM ?_; clear HM; intro w1 HM))
   refine bodyPost_ret (r_c rfl rfl (HM.get Zl) l2) rfl ⟨_, rfl, hn, TPost.mk' HC HM Zl Zo⟩
  | false =>
   go_wp2_with (first | ((with_reducible refine g_ld ?_); refine a_ld HM ?_) | ((with_reducible refine g_st ?_); refine a_st HM ?_; clear HM; intro w1 HM))
   refine bodyPost_ret (r_c rfl rfl (HM.get Zl) l1) rfl ⟨_, rfl, hn, TPost.mk' HC HM Zl Zo⟩
end
section
open Jb
theorem alloc_sz (w : World) (o : Obj) : w.heap.size + 1 = (w.alloc o).heap.size := (Array.size_push ..).symm
def WF.mk0 (nm : ByteArray) (b1 b2 : Nat) (n g : Int) : WF := ⟨nm, { data := #[85, 83, 68] }, { data := #[104, 111, 109, 101] }, ⟨some ⟨b1, 0, none⟩, 1, 1⟩, ⟨1, 0, n, 2, 1020⟩, pc g, pc 0, pc 0, ⟨⟨some ⟨b2, 0, none⟩, 1, 1⟩, pc 1000, 30⟩, ⟨none, 0, 0⟩, ⟨none, 0, 0⟩⟩
theorem sfund_new {W w0 w : World} {X : List Nat} {L : List (Nat × Array Value)} {tb m : Nat} {cs : Array Value} (HMo : Mem w0 X L w) (hl : Look L tb cs) (hc : TapeC W m cs) (h0 : Below W.heap.size W w0) (hX : ∀ b ∈ X, W.heap.size ≤ b) (nm : ByteArray) :
    Calls Tryz.prog 27 #[.pointer (some ⟨tb, 0, none⟩), .string nm] w fun e w' => ∃ f : WF, e = .returned (.agg f.c) ∧ f.nm = nm ∧ f.cls = ⟨none, 0, 0⟩ ∧ TPost W tb (m + 20) w w' := by
 have HM := Mem.start1 w (HMo.get hl)
 have HC := Zi hc
 have HT := HMo.tp hl hc h0 hX
 have H0 : Hid (Below W.heap.size W w) := Zi (by obtain ⟨_, _, _, h, _⟩ := HT; exact h)
 have hle : ∀ b ∈ [tb], W.heap.size ≤ b := by
  exact z9_109
 clear HT hc h0 hX hl HMo
 have za0 := WF.za
 have els : elemB 80 9 1 16 = true := by kernel_rfl
 have elf : elemB 85 90 68 288 = true := by kernel_rfl
 go_enter Tryz.func27, Tryz.ntmps27
 go_wp2_with ((with_reducible refine g_al ?_); refine a_al HM ?_; clear HM; intro bk w1 HM)
 obtain ⟨b6, rfl⟩ := HM.nm0
 (replace HM := HM.new #[Value.string { data := #[100, 97, 121, 115] }] 9; have hs9 : w1.heap.size + 1 = (w1.alloc (Obj.cells #[Value.string { data := #[100, 97, 121, 115] }] 9)).heap.size := alloc_sz _ _; rw [hs9]; generalize w1.alloc (Obj.cells #[Value.string { data := #[100, 97, 121, 115] }] 9) = wa at HM ⊢; generalize w1.heap.size = bd at HM ⊢; clear hs9)
 (refine (spick_newi (tb := tb) (W := W) HM Zl HC.out H0.out (by first | exact hle | simpa using hle) [0, 0, 1] _ Zs Zs).mono ?_; rintro e9 w2 ⟨n, c1, rfl, hn, hc1, hb1, hg⟩; replace HM := HM.put (c' := c1) Zg hb1 hg; clear hg hb1; replace HC := Zi hc1; clear hc1)
 clear hn
 have BH := fun w => WH.bld (parts := #[(0, .int .i64 1), (2, .int .i64 n), (3, .int .i64 2), (4, .int .i64 1020)]) (r := ⟨1, 0, n, 2, 1020⟩) (by simp [Value.cells]) (by rw [WH.rows]; rfl) w
 go_wp2_with ((with_reducible refine g_bld ?_); refine a_rbl (v := .agg (WH.c ⟨1, 0, n, 2, 1020⟩)) ?_ (hy := h_bg4 rfl Zw Zw Zw Zw (by with_reducible exact (BH))))
 (refine (spick_newi (tb := tb) (W := W) HM Zl HC.out H0.out (by first | exact hle | simpa using hle) [10000, 10000, 2500, 1000] _ Zs Zs).mono ?_; rintro e9 w2 ⟨g, c1, rfl, hg, hc1, hb1, hg⟩; replace HM := HM.put (c' := c1) Zg hb1 hg; clear hg hb1; replace HC := Zi hc1; clear hc1)
 have hg0 : 0 ≤ g ∧ g ≤ 1000000000 := by
  simp only [List.mem_cons, List.not_mem_nil, or_false] at hg
  omega
 obtain ⟨g0, g1⟩ := hg0
 clear hg BH
 go_wp2_with ((first | (go_at_call 50; with_reducible refine (spct_r g g0 g1 _).mono ?_) | (go_at_call 50; with_reducible refine (spct_r 0 Zd Zd _).mono ?_)); rintro e9 w2 ⟨rfl, hL⟩; replace HM := HM.call hL; clear hL)
 replace HM := HM.new #[Value.string { data := #[115, 49] }] 9
 generalize w2.alloc (Obj.cells #[Value.string { data := #[115, 49] }] 9) = wa at HM ⊢
 generalize w2.heap.size = bs at HM ⊢
 refine (spct_r 1000 Zd Zd _).mono ?_
 rintro e9 w3 ⟨rfl, hL⟩
 replace HM := HM.call hL
 have BP := fun w => WP.bld (parts := #[(0, .slice (some ⟨bs, 0, none⟩) 1 1), (1, .agg (pc 1000).c), (2, .int .i64 30)]) (r := ⟨⟨some ⟨bs, 0, none⟩, 1, 1⟩, pc 1000, 30⟩) (by simp [Value.cells, Rr.size]) (by rw [WP.rows]; rfl) w
 have BF := fun w => WF.bld (parts := #[(0, .string nm), (1, .string { data := #[85, 83, 68] }), (2, .string { data := #[104, 111, 109, 101] }), (3, .slice (some ⟨bd, 0, none⟩) 1 1), (4, .agg (WH.c ⟨1, 0, n, 2, 1020⟩)), (5, .agg (pc g).c), (6, .agg (pc 0).c), (7, .agg (pc 0).c), (8, .agg (WP.c ⟨⟨some ⟨bs, 0, none⟩, 1, 1⟩, pc 1000, 30⟩))]) (r := WF.mk0 nm bd bs n g) (by simp [Value.cells, Rr.size, WH.size, WP.size]) (by rw [WF.rows]; rfl) w
 have s0 := (WF.mk0 nm bd bs n g).sa WF.zero.size
 clear hL g0 g1 els
 go_wp2_with (first | ((with_reducible refine g_bld ?_); refine a_rbl (v := .agg (WP.c ⟨⟨some ⟨bs, 0, none⟩, 1, 1⟩, pc 1000, 30⟩)) ?_ (hy := h_bg3 rfl Zw Zw Zw (by with_reducible exact (BP)))) | ((with_reducible refine g_bld ?_); refine a_rbl (v := .agg (WF.mk0 nm bd bs n g).c) ?_ (hy := h_bg9 rfl Zw Zw Zw Zw Zw Zw Zw Zw Zw (by with_reducible exact (BF)))) | ((with_reducible refine g_st ?_); refine a_st HM ?_; clear HM; intro w1 HM) | ((with_reducible refine g_al ?_); refine a_al HM ?_; clear HM; intro bk w1 HM))
 (refine (sbool_inf W tb _ 3 _ (HM.tp Zl HC.out H0.out hle) Zo Zo).mono ?_; rintro e9 w2 ⟨q, rfl, ⟨c1, hb1, hc1, -, -⟩, hg⟩; replace HM := HM.put (c' := c1) Zg hb1 (Only.of_grown hg); clear hg hb1; replace HC := Zi hc1; clear hc1)
 obtain ⟨b5, rfl⟩ := HM.nm0
 obtain ⟨C0, hC0⟩ : ∃ C : WF, C = WF.mk0 nm bd bs n g := ⟨_, rfl⟩
 have hn0 : C0.nm = nm := by rw [hC0]; rfl
 have hk0 : C0.cls = ⟨none, 0, 0⟩ := by rw [hC0]; rfl
 rw [← hC0] at HM
 replace HM := HM.pick (K := [(b5, C0.c), (b6, WF.zero.c), (tb, c1)]) (by (repeat (first | exact Pk.nil | exact Pk.refl _ | exact Pk.pre _ _ | exact Pk.post _ _ | (apply Pk.cons; focus (repeat (first | exact Rm.here | apply Rm.there))) | apply Pk.skip)))
 clear BP BF s0 hC0
 go_upto_if 23 with (first | ((with_reducible refine g_ld ?_); refine a_ld HM ?_) | ((with_reducible refine g_st ?_); refine a_st HM ?_; clear HM; intro w1 HM) | ((with_reducible refine g_al ?_); refine a_al HM ?_; clear HM; intro bk w1 HM) | ((with_reducible refine g_bld ?_); refine a_bld ?_))
 go_cut [] (fun wc => ∃ (C : WF) (cc : Array Value), C.nm = nm ∧ C.cls = ⟨none, 0, 0⟩ ∧ Hid (TapeC W (m + 6) cc) ∧ Mem w [tb] [(b5, C.c), (b6, WF.zero.c), (tb, cc)] wc)
 case first =>
  cases q with
  | true =>
   have s1 := C0.s_thr (pc 200)
   have s2 := WF.s_fac { C0 with thr := pc 200 } (pc 50)
   go_wp2_with (first | ((first | (go_at_call 50; with_reducible refine (spct_r 200 Zd Zd _).mono ?_) | (go_at_call 50; with_reducible refine (spct_r 50 Zd Zd _).mono ?_)); rintro e9 w2 ⟨rfl, hL⟩; replace HM := HM.call hL; clear hL) | ((with_reducible refine g_st ?_); refine a_st HM ?_; clear HM; intro w1 HM))
   go_meet
   case rel => exact ⟨{ C0 with thr := pc 200, fac := pc 50 }, _, hn0, hk0, Zi (HC.out.mono Zo), HM.pick⟩
  | false =>
   go_wp2_with fail
   go_meet
   case rel => exact ⟨C0, _, hn0, hk0, Zi (HC.out.mono Zo), HM.pick⟩
 case rest =>
  clear HM HC hn0 hk0
  obtain ⟨C, cc, hn, hk, HC, HM⟩ := hcut
  go_step
  go_wp2_with fail
  (refine (sbool_inf W tb _ 3 _ (HM.tp Zl HC.out H0.out hle) Zo Zo).mono ?_; rintro e9 w2 ⟨q, rfl, ⟨c1, hb1, hc1, -, -⟩, hg⟩; replace HM := HM.put (c' := c1) Zg hb1 (Only.of_grown hg); clear hg hb1; replace HC := Zi hc1; clear hc1)
  cases q with
  | true =>
   go_wp2_with fail
   (refine (spick_newi (tb := tb) (W := W) HM Zl HC.out H0.out (by first | exact hle | simpa using hle) [10, 100] _ Zs Zs).mono ?_; rintro e9 w2 ⟨r, c1, rfl, hr, hc1, hb1, hg⟩; replace HM := HM.put (c' := c1) Zg hb1 hg; clear hg hb1; replace HC := Zi hc1; clear hc1)
   have hr0 : 0 ≤ r ∧ r ≤ 1000000000 := by
    simp only [List.mem_cons, List.not_mem_nil, or_false] at hr
    omega
   obtain ⟨r0, r1⟩ := hr0
   clear hr
   have BE := fun w => WE.bld (parts := #[(0, .string { data := #[97, 117, 100, 105, 116] }), (1, .agg (pc r).c), (2, .int .i64 2)]) (r := ⟨{ data := #[97, 117, 100, 105, 116] }, pc r, 2⟩) (by simp [Value.cells, Rr.size]) (by rw [WE.rows]; rfl) w
   have se : (WE.c ⟨{ data := #[97, 117, 100, 105, 116] }, pc r, 2⟩).size = 68 := WE.size _
   have s3 : ∀ b, SA 85 C.c 275 (.slice (some ⟨b, 0, none⟩) 1 1) (WF.c { C with exps := ⟨some ⟨b, 0, none⟩, 1, 1⟩ }) := fun b => C.s_exps ⟨some ⟨b, 0, none⟩, 1, 1⟩
   go_wp2_with (first | (go_at_call 50; (with_reducible refine Zc HM (spct_r r r0 r1 _) ?_; clear HM; intro w2 HM)) | ((with_reducible refine g_bld ?_); refine a_rbl (v := .agg (WE.c ⟨{ data := #[97, 117, 100, 105, 116] }, pc r, 2⟩)) ?_ (hy := h_bg3 rfl Zw Zw Zw (by with_reducible exact (BE)))) | (((with_reducible refine g_bs1 ?_); refine a_bs1 (c0 := WE.c ⟨{ data := #[97, 117, 100, 105, 116] }, pc r, 2⟩) HM ?_ (z0 := se); clear HM; intro b9 w9 HM); have s4 := s3 b9; have l4 := (WF.la { C with exps := ⟨some ⟨b9, 0, none⟩, 1, 1⟩ }); have s5 := (WF.sa { C with exps := ⟨some ⟨b9, 0, none⟩, 1, 1⟩ } WF.zero.size)) | ((with_reducible refine g_ld ?_); refine a_ld HM ?_) | ((with_reducible refine g_st ?_); refine a_st HM ?_; clear HM; intro w1 HM))
   refine bodyPost_ret (r_c rfl rfl (HM.get Zl) (WF.la _)) rfl ⟨{ C with exps := ⟨some ⟨b9, 0, none⟩, 1, 1⟩ }, rfl, hn, hk, TPost.mk' HC HM Zl Zo⟩
  | false =>
   have l4 := C.la
   have s5 := C.sa WF.zero.size
   go_wp2_with (first | ((with_reducible refine g_ld ?_); refine a_ld HM ?_) | ((with_reducible refine g_st ?_); refine a_st HM ?_; clear HM; intro w1 HM))
   refine bodyPost_ret (r_c rfl rfl (HM.get Zl) (WF.la _)) rfl ⟨_, rfl, hn, hk, TPost.mk' HC HM Zl Zo⟩
end
section
open Jb
namespace Jb
def alpha : ByteArray := { data := #[97, 108, 112, 104, 97] }
def beta : ByteArray := { data := #[98, 101, 116, 97] }
theorem alpha_name : name alpha = true := by decide +kernel
theorem beta_name : name beta = true := by decide +kernel
structure KOk (K : List WK) : Prop where
 l0 : 0 < K.length
 l1 : K.length ≤ 2
 nm : ∀ k ∈ K, name k.nm = true
theorem KOk.one {k : WK} (h : name k.nm = true) : KOk [k] := ⟨Nat.zero_lt_one, (by decide : (1 : Nat) ≤ 2), fun x hx => by rw [List.mem_singleton.1 hx]; exact h⟩
theorem KOk.two {k x : WK} (h : name k.nm = true) (hx : name x.nm = true) : KOk [k, x] := ⟨(by decide : 0 < (2 : Nat)), (by decide : (2 : Nat) ≤ 2), fun y hy => by
 simp only [List.mem_cons, List.not_mem_nil, or_false] at hy
 rcases hy with rfl | rfl
 ·exact h
 ·exact hx⟩
theorem a_name : name { data := #[97] } = true := by decide +kernel
theorem b_name : name { data := #[98] } = true := by decide +kernel
theorem c_name : name { data := #[99] } = true := by decide +kernel
def NB (tb : Nat) (s : Value) : Prop := ∀ b o k n c, s = .slice (some ⟨b, o, k⟩) n c → b ≠ tb
def FundR (w : World) (tb : Nat) (f : WF) (K : List WK) : Prop := (f.nm = alpha ∨ f.nm = beta) ∧ KOk K ∧ RdS 275 w (Sl.v f.cls) (K.map WK.c) ∧ NB tb (Sl.v f.cls)
structure SetR (w : World) (tb : Nat) (u : WU) (F : List (WF × List WK)) : Prop where
 l0 : 0 < F.length
 l1 : F.length ≤ 2
 rd : RdS 277 w (Sl.v u.funds) (F.map fun p => p.1.c)
 nb : NB tb (Sl.v u.funds)
 each : ∀ p ∈ F, FundR w tb p.1 p.2
theorem NB.of {w0 w : World} {X : List Nat} {L B : List (Nat × Array Value)} {tb n : Nat} {cs : Array Value} {s : Value} {l : List (Array Value)} (HM : Mem w0 X ((tb, cs) :: L) w) (HS : SlAt n s l B) (hp : ∀ p ∈ B, p ∈ L) : NB tb s := by
 cases HS with
 | nil => intro b o k n c e; cases e
 | row b l sp h =>
  intro b' o k n c e
  injection e with e1 e2 e3
  injection e1 with e1
  injection e1 with e1
  subst e1
  intro e
  subst e
  exact (List.nodup_cons.1 HM.nod).1 (List.mem_map.2 ⟨_, hp _ (List.mem_singleton.2 rfl), rfl⟩)
end Jb
def WU.mk0 (z c : Sl) : WU := ⟨⟨none, 0, 0⟩, z, c, { data := #[85, 83, 68] }⟩
def SetO (u : WU) (FK : List (WF × List WK)) (BF B : List (Nat × Array Value)) : Prop := SlAt 277 (Sl.v u.funds) (FK.map fun p => p.1.c) BF ∧ ∀ p ∈ FK, (p.1.nm = Jb.alpha ∨ p.1.nm = Jb.beta) ∧ Jb.KOk p.2 ∧ ∃ BK, SlAt 275 (Sl.v p.1.cls) (p.2.map WK.c) BK ∧ ∀ q ∈ BK, q ∈ B
theorem SetO.rd {u : WU} {FK : List (WF × List WK)} {BF B R : List (Nat × Array Value)} {w0 w : World} {X : List Nat} {tb : Nat} {c : Array Value} (h : SetO u FK BF B) (HM : Mem w0 X ((tb, c) :: R) w) (hB : ∀ p ∈ BF ++ B, p ∈ R) (l0 : 0 < FK.length) (l1 : FK.length ≤ 2) : Jb.SetR w tb u FK :=
 ⟨l0, l1, h.1.rd HM (fun p hp => List.mem_cons_of_mem _ (hB p (List.mem_append_left _ hp))), Jb.NB.of HM h.1 (fun p hp => hB p (List.mem_append_left _ hp)), fun p hp => by
  obtain ⟨h1, h2, BK, h3, h4⟩ := h.2 p hp
  exact ⟨h1, h2, h3.rd HM (fun q hq => List.mem_cons_of_mem _ (hB q (List.mem_append_right _ (h4 q hq)))), Jb.NB.of HM h3 (fun q hq => hB q (List.mem_append_right _ (h4 q hq)))⟩⟩
theorem ssetup_new {W w0 w : World} {X : List Nat} {L : List (Nat × Array Value)} {tb m : Nat} {cs : Array Value} (HMo : Mem w0 X L w) (hl : Look L tb cs) (hc : TapeC W m cs) (h0 : Below W.heap.size W w0) (hX : ∀ b ∈ X, W.heap.size ≤ b) :
    Calls Tryz.prog 9 #[.pointer (some ⟨tb, 0, none⟩)] w fun e w' => ∃ (u : WU) (FK : List (WF × List WK)) (m' : Nat) (c' : Array Value) (B : List (Nat × Array Value)), e = .returned (.agg u.c) ∧ Jb.SetR w' tb u FK ∧ TapeC W m' c' ∧ Mem w [tb] ((tb, c') :: B) w' := by
 have HM := Mem.start1 w (HMo.get hl)
 have HC := Zi hc
 have HT := HMo.tp hl hc h0 hX
 have H0 : Hid (Below W.heap.size W w) := Zi (by obtain ⟨_, _, _, h, _⟩ := HT; exact h)
 have hle : ∀ b ∈ [tb], W.heap.size ≤ b := by
  exact z9_109
 clear HT hc h0 hX hl HMo
 have za0 := WU.za
 have za1 := WF.za
 have elz : elemB 28 101 3 48 = true := by kernel_rfl
 have elc : elemB 29 104 9 48 = true := by kernel_rfl
 have elk : elemB 86 92 275 1176 = true := by kernel_rfl
 have elf : elemB 27 88 277 1248 = true := by kernel_rfl
 go_enter Tryz.func9, Tryz.ntmps9
 go_wp2_with ((with_reducible refine g_al ?_); refine a_al HM ?_; clear HM; intro bk w1 HM)
 obtain ⟨b2, rfl⟩ := HM.nm0
 (refine (spick_newi (tb := tb) (W := W) HM Zl HC.out H0.out (by first | exact hle | simpa using hle) [0, 60, -300] _ Zs Zs).mono ?_; rintro e9 w2 ⟨z, c1, rfl, hz, hc1, hb1, hg⟩; replace HM := HM.put (c' := c1) Zg hb1 hg; clear hg hb1; replace HC := Zi hc1; clear hc1)
 clear hz
 have BZ := fun w => WZ.bld (parts := #[(0, .string { data := #[104, 111, 109, 101] }), (1, .int .i64 z)]) (r := ⟨{ data := #[104, 111, 109, 101] }, z, ⟨none, 0, 0⟩⟩) (by simp [Value.cells]) (by rw [WZ.rows]; rfl) w
 have BL := fun w => WL.bld (parts := #[(0, .string { data := #[100, 97, 121, 115] }), (1, .agg (W7.c ⟨false, false, false, false, false, true, true⟩))]) (r := ⟨{ data := #[100, 97, 121, 115] }, ⟨false, false, false, false, false, true, true⟩, ⟨none, 0, 0⟩⟩) (by simp [Value.cells, W7.size]) (by rw [WL.rows]; rfl) w
 have sz : (WZ.c ⟨{ data := #[104, 111, 109, 101] }, z, ⟨none, 0, 0⟩⟩).size = 3 := WZ.size _
 have sc : (WL.c ⟨{ data := #[100, 97, 121, 115] }, ⟨false, false, false, false, false, true, true⟩, ⟨none, 0, 0⟩⟩).size = 9 := WL.size _
 go_wp2_with (first | ((with_reducible refine g_bld ?_); refine a_rbl (v := .agg (WZ.c ⟨{ data := #[104, 111, 109, 101] }, z, ⟨none, 0, 0⟩⟩)) ?_ (hy := h_bg2 rfl Zw Zw (by with_reducible exact (BZ)))) | ((with_reducible refine g_bs1 ?_); refine a_bs1 (c0 := WZ.c ⟨{ data := #[104, 111, 109, 101] }, z, ⟨none, 0, 0⟩⟩) HM ?_ (z0 := sz); clear HM; intro bz w9 HM) | ((with_reducible refine g_bld ?_); refine a_rbl (v := .agg (W7.c ⟨false, false, false, false, false, true, true⟩)) ?_ (hy := h_bg2 rfl Zw Zw (by with_reducible exact (W7.bld)))) | ((with_reducible refine g_bld ?_); refine a_rbl (v := .agg (WL.c ⟨{ data := #[100, 97, 121, 115] }, ⟨false, false, false, false, false, true, true⟩, ⟨none, 0, 0⟩⟩)) ?_ (hy := h_bg2 rfl Zw Zw (by with_reducible exact (BL)))) | (((with_reducible refine g_bs1 ?_); refine a_bs1 (c0 := WL.c ⟨{ data := #[100, 97, 121, 115] }, ⟨false, false, false, false, false, true, true⟩, ⟨none, 0, 0⟩⟩) HM ?_ (z0 := sc); clear HM; intro bc w9 HM); have BU := fun w => WU.bld (parts := #[(3, .string { data := #[85, 83, 68] }), (1, .slice (some ⟨bz, 0, none⟩) 1 1), (2, .slice (some ⟨bc, 0, none⟩) 1 1)]) (r := WU.mk0 ⟨some ⟨bz, 0, none⟩, 1, 1⟩ ⟨some ⟨bc, 0, none⟩, 1, 1⟩) (by simp [Value.cells]) (by rw [WU.rows]; rfl) w; have sU := (WU.mk0 ⟨some ⟨bz, 0, none⟩, 1, 1⟩ ⟨some ⟨bc, 0, none⟩, 1, 1⟩).sa WU.zero.size) | ((with_reducible refine g_bld ?_); refine a_rbl (v := .agg (WU.mk0 ⟨some ⟨bz, 0, none⟩, 1, 1⟩ ⟨some ⟨bc, 0, none⟩, 1, 1⟩).c) ?_ (hy := h_bg3 rfl Zw Zw Zw (by with_reducible exact (BU)))) | ((with_reducible refine g_st ?_); refine a_st HM ?_; clear HM; intro w1 HM) | ((with_reducible refine g_al ?_); refine a_al HM ?_; clear HM; intro bk w1 HM))
 refine (sfund_new (tb := tb) HM Zl HC.out H0.out hle _).mono ?_
 rintro e9 w2 ⟨f, rfl, hf, hfc, ⟨c1, hc1, hb1, hg9⟩⟩
 replace HM := HM.put (c' := c1) Zg hb1 hg9
 replace HC := Zi hc1
 obtain ⟨b3, rfl⟩ := HM.nm0
 obtain ⟨U0, hU0⟩ : ∃ U : WU, U = WU.mk0 ⟨some ⟨bz, 0, none⟩, 1, 1⟩ ⟨some ⟨bc, 0, none⟩, 1, 1⟩ := ⟨_, rfl⟩
 have hUf : U0.funds = ⟨none, 0, 0⟩ := by rw [hU0]; rfl
 rw [← hU0] at HM ⊢
 replace HM := HM.pick (K := [(b3, U0.c), (b2, WU.zero.c), (tb, c1)]) (by (repeat (first | exact Pk.nil | exact Pk.refl _ | exact Pk.pre _ _ | exact Pk.post _ _ | (apply Pk.cons; focus (repeat (first | exact Rm.here | apply Rm.there))) | apply Pk.skip)))
 clear hg9 hb1 hc1 BZ BL BU sU sz sc hU0 elz elc
 have sf := f.sa WF.zero.size
 have hnm : f.nm = Jb.alpha := hf
 have lc : LA 86 f.c 276 (.slice none 0 0) := by
  have h := (f.f_cls).la
  rw [hfc] at h
  exact h
 clear hf hfc
 go_upto_region 3 with (first | ((with_reducible refine g_st ?_); refine a_st HM ?_; clear HM; intro w1 HM) | ((with_reducible refine g_al ?_); refine a_al HM ?_; clear HM; intro bk w1 HM))
 obtain ⟨b4, rfl⟩ := HM.nm0
 clear sf
 refine start_M2 [7] HM ((Sub.keep (Sub.keep (Sub.keep Sub.nil)))) Zk (fun w0x H9 => ?_)
 replace HM := H9; clear H9
 refine k_fa 0 (heldE HM) ?_
 refine k_ld 1 [5, 6, 7] (heldE HM) ?_
 refine k_mv 2 (heldE HM) ?_
 refine j_one 3 fun K9 hK9 => ?_
 refine o_callg (scls_new (tb := tb) HM Zl HC.out H0.out hle { data := #[97] } { data := #[65, 76, 80, 72, 65, 65] }) rfl ?_ ?_; (focus (refine h_call3 (ts := ?_) (x1 := ?_) (x2 := ?_) (x3 := ?_) ?_ Zk ?_ ?_ ?_; rotate_left 4; (focus rfl); (focus rfl); (focus rfl); rfl)); rintro e9 w1 ⟨k, rfl, hk, ⟨c1, hc1, hb1, hg9⟩⟩; replace HM := HM.put (c' := c1) Zg hb1 hg9; clear hg9 hb1; replace HC := Zi hc1; clear hc1; refine ⟨_, rfl, ?_⟩
 refine hK9 _ _ (heldE HM) ?_; clear hK9 K9; ((try simp only [Za]); (try simp only [Zx]); (try simp only [Zy]))
 refine j_one 4 fun K9 hK9 => ?_
 refine j_bs1 (c0 := k.c) HM ?_ (z0 := k.size); clear HM; intro bk w1 HM
 refine hK9 _ _ (heldE HM) ?_; clear hK9 K9; ((try simp only [Za]); (try simp only [Zx]); (try simp only [Zy]))
 refine j_one 5 fun K9 hK9 => ?_
 refine j_app (m := [k.c]) (F := fun X => (b4, f.c) :: (b3, U0.c) :: (b2, WU.zero.c) :: (tb, c1) :: X) HM SlAt.nil ((SlAt.made1 bk k.size).rd HM Zs) ?_ (by simpa using k.one); clear HM; intro s9 B9 w9 HSS HM; obtain ⟨A9, n9, e9', -⟩ := HSS.val; have e8 : s9 = .slice A9 1 n9 := e9'; subst e8; have sS : SA 86 (f).c 276 (.slice A9 1 n9) (WF.c { f with cls := ⟨A9, 1, n9⟩ }) := WF.s_cls (f) ⟨A9, _, n9⟩; clear e9'
 refine hK9 _ _ (heldE HM) ?_; clear hK9 K9; ((try simp only [Za]); (try simp only [Zx]); (try simp only [Zy]))
 refine k_fa 6 (heldE HM) ?_
 refine j_one 7 fun K9 hK9 => ?_
 refine j_st HM ?_; clear HM; intro w1 HM
 refine hK9 _ _ heldN ?_; clear hK9 K9
 refine wpAnyL_done Zk ?_ _
 replace HM := HM.pick (K := (b4, WF.c { f with cls := ⟨A9, 1, n9⟩ }) :: (b3, U0.c) :: (b2, WU.zero.c) :: (tb, c1) :: B9) (by (repeat (first | exact Pk.nil | exact Pk.refl _ | exact Pk.pre _ _ | exact Pk.post _ _ | (apply Pk.cons; focus (repeat (first | exact Rm.here | apply Rm.there))) | apply Pk.skip)))
 clear lc sS
 go_wp2_with fail
 (refine (sbool_inf W tb _ 3 _ (HM.tp Zl HC.out H0.out hle) Zo Zo).mono ?_; rintro e9 w2 ⟨q, rfl, ⟨c1, hb1, hc1, -, -⟩, hg⟩; replace HM := HM.put (c' := c1) Zg hb1 (Only.of_grown hg); clear hg hb1; replace HC := Zi hc1; clear hc1)
 go_upto_if 25 with (first | ((with_reducible refine g_ld ?_); refine a_ld HM ?_) | ((with_reducible refine g_st ?_); refine a_st HM ?_; clear HM; intro w1 HM) | ((with_reducible refine g_al ?_); refine a_al HM ?_; clear HM; intro bk w1 HM) | ((with_reducible refine g_bld ?_); refine a_bld ?_))
 go_cut [] (fun wc => ∃ (G : WF) (K : List WK) (B : List (Nat × Array Value)) (cc : Array Value), G.nm = Jb.alpha ∧ Jb.KOk K ∧ Hid (SlAt 275 (Sl.v G.cls) (K.map WK.c) B) ∧ Hid (TapeC W (m + 62) cc) ∧ Mem w [tb] ((b4, G.c) :: (b3, U0.c) :: (b2, WU.zero.c) :: (tb, cc) :: B) wc)
 case first =>
  as_aux_lemma =>
   have hk1 : name k.nm = true := by rw [hk]; exact Jb.a_name
   have HS1 : SlAt 275 (.slice A9 1 n9) [k.c] B9 := HSS
   clear HSS
   cases q with
   | false =>
    as_aux_lemma =>
     go_wp2_with fail
     go_meet
     case rel => exact ⟨{ f with cls := ⟨A9, 1, n9⟩ }, [k], B9, _, hnm, Jb.KOk.one hk1, Zi HS1, Zi (HC.out.mono Zo), HM.pick⟩
   | true =>
    as_aux_lemma =>
     have lc : LA 86 (WF.c { f with cls := ⟨A9, 1, n9⟩ }) 276 (.slice A9 1 n9) := (WF.f_cls { f with cls := ⟨A9, 1, n9⟩ }).la
     have HS2 := Zi HS1
     obtain ⟨B1, hB1⟩ : ∃ B1, B1 = B9 := ⟨_, rfl⟩
     rw [← hB1] at HM HS2
     obtain ⟨f1, hf1⟩ : ∃ f1, f1 = { f with cls := ⟨A9, 1, n9⟩ } := ⟨_, rfl⟩
     have hnm1 : f1.nm = Jb.alpha := by rw [hf1]; exact hnm
     rw [← hf1] at HM lc
     clear HS1 hB1 hf1 hnm
     go_upto_region 5 with fail
     refine start_M2 [7] HM ((Sub.keep (Sub.keep (Sub.keep Sub.nil)))) Zk (fun w0x H9 => ?_)
     replace HM := H9; clear H9
     refine k_fa 0 (heldE HM) ?_
     refine k_ld 1 [5, 6, 7] (heldE HM) ?_
     refine k_mv 2 (heldE HM) ?_
     refine j_one 3 fun K9 hK9 => ?_
     refine o_callg (scls_new (tb := tb) HM Zl HC.out H0.out hle { data := #[98] } { data := #[] }) rfl ?_ ?_; (focus (refine h_call3 (ts := ?_) (x1 := ?_) (x2 := ?_) (x3 := ?_) ?_ Zk ?_ ?_ ?_; rotate_left 4; (focus rfl); (focus rfl); (focus rfl); rfl)); rintro e9 w1 ⟨k2, rfl, hk, ⟨c1, hc1, hb1, hg9⟩⟩; replace HM := HM.put (c' := c1) Zg hb1 hg9; clear hg9 hb1; replace HC := Zi hc1; clear hc1; refine ⟨_, rfl, ?_⟩
     refine hK9 _ _ (heldE HM) ?_; clear hK9 K9; ((try simp only [Za]); (try simp only [Zx]); (try simp only [Zy]))
     refine j_one 4 fun K9 hK9 => ?_
     refine j_bs1 (c0 := k2.c) HM ?_ (z0 := k2.size); clear HM; intro bk w1 HM
     refine hK9 _ _ (heldE HM) ?_; clear hK9 K9; ((try simp only [Za]); (try simp only [Zx]); (try simp only [Zy]))
     refine j_one 5 fun K9 hK9 => ?_
     refine j_app (m := [k2.c]) (F := fun X => (b4, f1.c) :: (b3, U0.c) :: (b2, WU.zero.c) :: (tb, c1) :: X) HM HS2.out ((SlAt.made1 bk k2.size).rd HM Zs) ?_ (by simpa using k2.one); clear HM; intro s9 B9 w9 HSS HM; obtain ⟨A9, n9, e9', -⟩ := HSS.val; have e8 : s9 = .slice A9 2 n9 := e9'; subst e8; have sS : SA 86 (f1).c 276 (.slice A9 2 n9) (WF.c { f1 with cls := ⟨A9, 2, n9⟩ }) := WF.s_cls (f1) ⟨A9, _, n9⟩; clear e9'
     refine hK9 _ _ (heldE HM) ?_; clear hK9 K9; ((try simp only [Za]); (try simp only [Zx]); (try simp only [Zy]))
     refine k_fa 6 (heldE HM) ?_
     refine j_one 7 fun K9 hK9 => ?_
     refine j_st HM ?_; clear HM; intro w1 HM
     refine hK9 _ _ heldN ?_; clear hK9 K9
     refine wpAnyL_done Zk ?_ _
     go_wp2_with fail
     go_meet
     case rel => exact ⟨{ f1 with cls := ⟨A9, 2, n9⟩ }, [k, k2], B9, _, hnm1, Jb.KOk.two hk1 (by rw [hk]; exact Jb.b_name), Zi HSS, Zi (HC.out.mono Zo), HM.pick⟩
 case rest =>
  clear HM HC HSS hk hnm
  obtain ⟨G, K, B, cc, hGn, hK, HS, HC, HM⟩ := hcut
  have lu : LA 27 U0.c 0 (.slice none 0 0) := by
   have h := (U0.f_funds).la
   rw [hUf] at h
   exact h
  have lG := G.la
  go_step
  go_wp2_with (first | ((with_reducible refine g_bs1 ?_); refine a_bs1 (c0 := G.c) HM ?_ (z0 := G.size); clear HM; intro b9 w9 HM) | ((with_reducible refine g_app ?_); refine a_app (m := [G.c]) (F := fun X => (b3, U0.c) :: (b2, WU.zero.c) :: (tb, cc) :: (X ++ B)) HM .nil ((SlAt.made1 b9 G.size).rd HM Zs) ?_ (by simpa using G.one); clear HM; intro s9 BF w9 HSS HM; obtain ⟨A8, n8, e9', -⟩ := HSS.val; have e8 : s9 = .slice A8 1 n8 := e9'; subst e8; have sS : SA 27 U0.c 0 (.slice A8 1 n8) (WU.c { U0 with funds := ⟨A8, 1, n8⟩ }) := WU.s_funds U0 ⟨A8, 1, n8⟩; clear e9') | ((with_reducible refine g_ld ?_); refine a_ld HM ?_) | ((with_reducible refine g_st ?_); refine a_st HM ?_; clear HM; intro w1 HM))
  (refine (sbool_inf W tb _ 3 _ (HM.tp Zl HC.out H0.out hle) Zo Zo).mono ?_; rintro e9 w2 ⟨q, rfl, ⟨c1, hb1, hc1, -, -⟩, hg⟩; replace HM := HM.put (c' := c1) Zg hb1 (Only.of_grown hg); clear hg hb1; replace HC := Zi hc1; clear hc1)
  have HF : Hid (SlAt 277 (.slice A8 1 n8) [G.c] BF) := Zi HSS
  obtain ⟨U1, hU1⟩ : ∃ U1, U1 = { U0 with funds := ⟨A8, 1, n8⟩ } := ⟨_, rfl⟩
  have hUf1 : U1.funds = ⟨A8, 1, n8⟩ := by rw [hU1]
  rw [← hU1] at HM
  clear HSS sS lu lG hU1 hUf
  cases q with
  | false =>
   as_aux_lemma =>
    have sU := U1.sa WU.zero.size
    have lU := U1.la
    go_wp2_with (first | ((with_reducible refine g_ld ?_); refine a_ld HM ?_) | ((with_reducible refine g_st ?_); refine a_st HM ?_; clear HM; intro w1 HM))
    refine bodyPost_ret (r_c rfl rfl (HM.get Zl) lU) rfl ⟨U1, [(G, K)], _, c1, BF ++ B, rfl, ?_, HC.out, HM.pick⟩
    refine SetO.rd (BF := BF) (B := B) ⟨by rw [hUf1]; exact HF.out, fun p hp => ?_⟩ (HM.pick : Mem w [tb] ((tb, c1) :: (BF ++ B)) _) (fun p hp => hp) (Nat.zero_lt_succ _) Zs
    rw [List.mem_singleton.1 hp]
    exact ⟨.inl hGn, hK, B, HS.out, fun q hq => hq⟩
  | true =>
   as_aux_lemma =>
    go_wp2_with fail
    refine (sfund_new (tb := tb) HM Zl HC.out H0.out hle _).mono ?_
    rintro e9 w2 ⟨f, rfl, hf, hfc, ⟨c1, hc1, hb1, hg9⟩⟩
    replace HM := HM.put (c' := c1) Zg hb1 hg9
    replace HC := Zi hc1
    replace HM := HM.pick (K := (b3, U1.c) :: (b2, WU.zero.c) :: (tb, c1) :: (BF ++ B)) (by (repeat (first | exact Pk.nil | exact Pk.refl _ | exact Pk.pre _ _ | exact Pk.post _ _ | (apply Pk.cons; focus (repeat (first | exact Rm.here | apply Rm.there))) | apply Pk.skip)))
    obtain ⟨BB, hBB⟩ : ∃ BB, BB = BF ++ B := ⟨_, rfl⟩
    rw [← hBB] at HM
    have sf := f.sa WF.zero.size
    have hnm : f.nm = Jb.beta := hf
    have lc : LA 86 f.c 276 (.slice none 0 0) := by
     have h := (f.f_cls).la
     rw [hfc] at h
     exact h
    clear hf hfc hg9 hb1 hc1
    go_upto_region 9 with (first | ((with_reducible refine g_st ?_); refine a_st HM ?_; clear HM; intro w1 HM) | ((with_reducible refine g_al ?_); refine a_al HM ?_; clear HM; intro bk w1 HM))
    obtain ⟨b5, rfl⟩ := HM.nm0
    clear sf
    refine start_M2 [7] HM ((Sub.keep (Sub.keep (Sub.keep Sub.nil)))) Zk (fun w0x H9 => ?_)
    replace HM := H9; clear H9
    refine k_fa 0 (heldE HM) ?_
    refine k_ld 1 [5, 6, 7] (heldE HM) ?_
    refine k_mv 2 (heldE HM) ?_
    refine j_one 3 fun K9 hK9 => ?_
    refine o_callg (scls_new (tb := tb) HM Zl HC.out H0.out hle { data := #[99] } { data := #[66, 69, 84, 65, 67] }) rfl ?_ ?_; (focus (refine h_call3 (ts := ?_) (x1 := ?_) (x2 := ?_) (x3 := ?_) ?_ Zk ?_ ?_ ?_; rotate_left 4; (focus rfl); (focus rfl); (focus rfl); rfl)); rintro e9 w1 ⟨k, rfl, hk, ⟨c1, hc1, hb1, hg9⟩⟩; replace HM := HM.put (c' := c1) Zg hb1 hg9; clear hg9 hb1; replace HC := Zi hc1; clear hc1; refine ⟨_, rfl, ?_⟩
    refine hK9 _ _ (heldE HM) ?_; clear hK9 K9; ((try simp only [Za]); (try simp only [Zx]); (try simp only [Zy]))
    refine j_one 4 fun K9 hK9 => ?_
    refine j_bs1 (c0 := k.c) HM ?_ (z0 := k.size); clear HM; intro bk w1 HM
    refine hK9 _ _ (heldE HM) ?_; clear hK9 K9; ((try simp only [Za]); (try simp only [Zx]); (try simp only [Zy]))
    refine j_one 5 fun K9 hK9 => ?_
    refine j_app (m := [k.c]) (F := fun X => (b5, f.c) :: (b3, U1.c) :: (b2, WU.zero.c) :: (tb, c1) :: (X ++ BB)) HM SlAt.nil ((SlAt.made1 bk k.size).rd HM Zs) ?_ (by simpa using k.one); clear HM; intro s9 B9 w9 HSS HM; obtain ⟨A9, n9, e9', -⟩ := HSS.val; have e8 : s9 = .slice A9 1 n9 := e9'; subst e8; have sS : SA 86 (f).c 276 (.slice A9 1 n9) (WF.c { f with cls := ⟨A9, 1, n9⟩ }) := WF.s_cls (f) ⟨A9, _, n9⟩; clear e9'
    refine hK9 _ _ (heldE HM) ?_; clear hK9 K9; ((try simp only [Za]); (try simp only [Zx]); (try simp only [Zy]))
    refine k_fa 6 (heldE HM) ?_
    refine j_one 7 fun K9 hK9 => ?_
    refine j_st HM ?_; clear HM; intro w1 HM
    refine hK9 _ _ heldN ?_; clear hK9 K9
    refine wpAnyL_done Zk ?_ _
    subst hBB
    have hk1 : name k.nm = true := by rw [hk]; exact Jb.c_name
    have HS1 : Hid (SlAt 275 (.slice A9 1 n9) [k.c] B9) := Zi HSS
    obtain ⟨G2, hG2⟩ : ∃ G2, G2 = { f with cls := ⟨A9, 1, n9⟩ } := ⟨_, rfl⟩
    have hn2 : G2.nm = Jb.beta := by rw [hG2]; exact hnm
    have hc2 : G2.cls = ⟨A9, 1, n9⟩ := by rw [hG2]
    rw [← hG2] at HM
    obtain ⟨BK, hBK⟩ : ∃ BK, BK = B9 := ⟨_, rfl⟩
    rw [← hBK] at HM HS1
    have lu : LA 27 U1.c 0 (.slice A8 1 n8) := by
     have h := (U1.f_funds).la
     rw [hUf1] at h
     exact h
    have lG := G2.la
    clear HSS sS lc hk hnm hG2 hBK
    go_wp2_with (first | ((with_reducible refine g_bs1 ?_); refine a_bs1 (c0 := G2.c) HM ?_ (z0 := G2.size); clear HM; intro b9 w9 HM) | ((with_reducible refine g_app ?_); refine a_app (m := [G2.c]) (F := fun X => (b3, U1.c) :: (b2, WU.zero.c) :: (tb, c1) :: (BK ++ (X ++ B))) HM HF.out ((SlAt.made1 b9 G2.size).rd HM Zs) ?_ (by simpa using G2.one); clear HM; intro s9 B7 w9 HSS HM; obtain ⟨A7, n7, e9', -⟩ := HSS.val; have e8 : s9 = .slice A7 2 n7 := e9'; subst e8; have sS : SA 27 U1.c 0 (.slice A7 2 n7) (WU.c { U1 with funds := ⟨A7, 2, n7⟩ }) := WU.s_funds U1 ⟨A7, 2, n7⟩; have sU := (WU.sa { U1 with funds := ⟨A7, 2, n7⟩ } WU.zero.size); have lU := (WU.la { U1 with funds := ⟨A7, 2, n7⟩ }); clear e9') | ((with_reducible refine g_ld ?_); refine a_ld HM ?_) | ((with_reducible refine g_st ?_); refine a_st HM ?_; clear HM; intro w1 HM))
    refine bodyPost_ret (r_c rfl rfl (HM.get Zl) lU) rfl ⟨{ U1 with funds := ⟨A7, 2, n7⟩ }, [(G, K), (G2, [k])], _, c1, BK ++ (B7 ++ B), rfl, ?_, HC.out, HM.pick⟩
    refine SetO.rd (BF := B7) (B := BK ++ B) ⟨HSS, fun p hp => ?_⟩ (HM.pick : Mem w [tb] ((tb, c1) :: (BK ++ (B7 ++ B))) _) (fun p hp => by simp only [List.mem_append] at hp ⊢; rcases hp with h | h | h <;> simp [h]) (Nat.zero_lt_succ _) Zs
    simp only [List.mem_cons, List.not_mem_nil, or_false] at hp
    rcases hp with rfl | rfl
    ·exact ⟨.inl hGn, hK, B, HS.out, fun q hq => List.mem_append_right _ hq⟩
    ·exact ⟨.inr hn2, Jb.KOk.one hk1, BK, by rw [hc2]; exact HS1.out, fun q hq => List.mem_append_left _ hq⟩
end
section
theorem z9_122 {P : Prop} (h : P := by
 intro x hx
 rcases List.mem_append.1 hx with g | g
 ·exact h.wf x g
 ·rw [List.mem_singleton.1 g]; exact hw) : P := h
end
section
open Jb
namespace Jb
def fin : List JR → Int → Nat → Int × Nat
 | [], last, c => (last, c)
 | r :: l, last, c => if r.kd = 7 then fin l r.day (c + 1) else fin l last c
theorem fin_snoc : ∀ (l : List JR) (r : JR) (last : Int) (c : Nat), fin (l ++ [r]) last c = if r.kd = 7 then (r.day, (fin l last c).2 + 1) else fin l last c
 | [], r, last, c => rfl
 | x :: l, r, last, c => by
  rw [List.cons_append]
  unfold fin
  by_cases h : x.kd = 7
  ·rw [if_pos h, if_pos h]; exact fin_snoc l r x.day (c + 1)
  ·rw [if_neg h, if_neg h]; exact fin_snoc l r last c
theorem chk_snoc : ∀ (l : List JR) (r : JR) (i : Nat) (last : Int) (c : Nat), chk l i last c = 0 → chk [r] (i + l.length) (fin l last c).1 (fin l last c).2 = 0 → chk (l ++ [r]) i last c = 0
 | [], _, i, last, c, _, h => h
 | x :: l, r, i, last, c, h0, h => by
  rw [List.cons_append]
  unfold chk at h0 ⊢
  unfold fin at h
  by_cases h1 : x.right = true
  case neg => rw [if_neg h1] at h0; exact absurd h0 Zd
  rw [if_pos h1] at h0 ⊢
  by_cases h2 : x.known ((i + 1 : Nat) : Int) = ((i + 1 : Nat) : Int)
  case neg => rw [if_neg h2] at h0; exact absurd h0 Zd
  rw [if_pos h2] at h0 ⊢
  by_cases h3 : x.kd = 8 ∧ last < x.day
  ·rw [if_pos h3] at h0; exact absurd h0 Zd
  rw [if_neg h3] at h0 ⊢
  have el : i + (x :: l).length = i + 1 + l.length := by simp only [List.length_cons]; omega
  rw [el] at h
  by_cases h4 : x.kd = 7
  ·rw [if_pos h4] at h0 h ⊢
   by_cases h5 : x.day ≤ last ∨ 64 < c + 1
   ·rw [if_pos h5] at h0; exact absurd h0 Zd
   rw [if_neg h5] at h0 ⊢
   exact chk_snoc l r (i + 1) x.day (c + 1) h0 h
  ·rw [if_neg h4] at h0 h ⊢
   exact chk_snoc l r (i + 1) last c h0 h
structure Jn (l : List JR) (day last : Int) : Prop where
 ok : chk l 0 (-1) 0 = 0
 la : (fin l (-1) 0).1 = last
 cl : (fin l (-1) 0).2 ≤ l.length
 lt : last < day
 d0 : 9 ≤ day
 d1 : day ≤ 9 + 5 * l.length
 l0 : -1 ≤ last
 wf : ∀ r ∈ l, r.wf
 len : l.length ≤ 40
theorem Jn.nil : Jn [] 9 (-1) := ⟨rfl, rfl, by decide, by decide, by decide, by decide, by decide, fun r h => (List.not_mem_nil h).elim, by decide⟩
theorem Jn.day {l : List JR} {day last : Int} (h : Jn l day last) : day ≤ 209 := by have := h.d1; have := h.len; omega
theorem Jn.isDay {l : List JR} {day last : Int} (h : Jn l day last) : Dt.isDay day = true := by
 have h1 := h.day; have h2 := h.d0
 unfold Dt.isDay; simp only [Bool.and_eq_true, decide_eq_true_eq]; omega
theorem Jn.kn {l : List JR} {day last : Int} (h : Jn l day last) : known ((l.length + 1 : Nat) : Int) = true := by
 have h1 := h.len
 unfold known; simp only [Bool.and_eq_true, decide_eq_true_eq]; omega
theorem Jn.put {l : List JR} {day last : Int} (h : Jn l day last) (hl : l.length < 40) {r : JR} (hr : r.right = true) (hk : r.known ((l.length + 1 : Nat) : Int) = ((l.length + 1 : Nat) : Int)) (h7 : r.kd ≠ 7) (h8 : r.kd = 8 → r.day ≤ last) (hw : r.wf) : Jn (l ++ [r]) day last := by
 have e := fin_snoc l r (-1) 0
 rw [if_neg h7] at e
 have hlen : (l ++ [r]).length = l.length + 1 := by simp
 refine ⟨chk_snoc l r 0 (-1) 0 h.ok ?_, by rw [e]; exact h.la, by rw [e, hlen]; exact Nat.le_succ_of_le h.cl, h.lt, h.d0, ?_, h.l0, ?_, by omega⟩
 ·rw [Nat.zero_add, h.la]
  unfold chk
  rw [if_pos hr, if_pos hk, if_neg (fun ⟨a, b⟩ => by have := h8 a; omega), if_neg h7]
  rfl
 ·have := h.d1; omega
 ·exact z9_122
theorem Jn.close {l : List JR} {day last : Int} (h : Jn l day last) (hl : l.length < 40) {r : JR} {day2 : Int} (hr : r.right = true) (h7 : r.kd = 7) (hd : r.day = day) (h1 : day < day2) (h2 : day2 ≤ day + 5) (hw : r.wf) : Jn (l ++ [r]) day2 day := by
 have e := fin_snoc l r (-1) 0
 rw [if_pos h7] at e
 have hlen : (l ++ [r]).length = l.length + 1 := by simp
 refine ⟨chk_snoc l r 0 (-1) 0 h.ok ?_, by rw [e]; exact hd, by rw [e, hlen]; exact Nat.succ_le_succ h.cl, h1, by have := h.d0; omega, ?_, by have := h.d0; omega, ?_, by omega⟩
 ·rw [Nat.zero_add, h.la]
  have hk : r.known ((l.length + 1 : Nat) : Int) = ((l.length + 1 : Nat) : Int) := by unfold JR.known; simp [h7]
  have hc := h.cl
  have ht := h.lt
  unfold chk
  rw [if_pos hr, if_pos hk, if_neg (fun ⟨a, _⟩ => by omega), if_pos h7, if_neg (fun g => by rcases g with g | g <;> omega)]
  rfl
 ·have := h.d1; omega
 ·exact z9_122
theorem Jn.check {l : List JR} {day last : Int} (h : Jn l day last) : Jb.check l = 0 := by
 have := h.len
 unfold Jb.check; rw [if_neg Zo]; exact h.ok
theorem name_wf {f : ByteArray} (h : name f = true) : f.size ≤ 9223372036854775807 := by
 unfold name at h
 simp only [Bool.and_eq_true, decide_eq_true_eq] at h
 omega
theorem wf_JK : JK.zero.wf := ⟨by decide, by decide⟩
theorem wf_JQ : JQ.zero.wf := ⟨by decide, by decide, by decide⟩
theorem wf_JA : JA.zero.wf := ⟨by decide, by decide, by decide, by decide⟩
theorem wf_JE : JE.zero.wf := ⟨by decide, by decide, by decide⟩
theorem wf_JO : JO.zero.wf := ⟨by decide, wf_JK, by decide, by decide⟩
theorem wf_JT : JT.zero.wf := ⟨by decide, by decide, by decide, wf_JK, wf_JK⟩
theorem wf_JS : JS.zero.wf := ⟨by decide, by decide⟩
def rQ (x : JQ) : JR := { JR.zero with kd := 1, q := x }
theorem rQ_only (x : JQ) : (rQ x).only = (rQ x) := by
 simp [JR.only, rQ]
theorem rQ_kind (x : JQ) : (rQ x).kind = x.right := by
 simp [JR.kind, rQ]
theorem rQ_right {x : JQ} (h : x.right = true) : (rQ x).right = true := by
 unfold JR.right
 rw [rQ_only, JR.b_self, rQ_kind, h]
 simp [rQ, JR.zero]
 all_goals rfl
theorem rQ_known {x : JQ} {n : Int} (h : x.kn = n) : (rQ x).known n = n := by
 simp [JR.known, rQ, h]
theorem rQ_wf {x : JQ} (h : x.wf) : (rQ x).wf := ⟨Nat.zero_le _, h, wf_JA, wf_JE, wf_JO, wf_JT, wf_JS⟩
theorem Jn.putQ {l : List JR} {day last : Int} (h : Jn l day last) (hl : l.length < 40) {x : JQ} (hr : x.right = true) (hk : x.kn = ((l.length + 1 : Nat) : Int)) (hw : x.wf) : Jn (l ++ [rQ x]) day last :=
 h.put hl (rQ_right hr) (rQ_known hk) (by show (1 : Int) ≠ 7; decide) (fun e => absurd e (by show ¬ (1 : Int) = 8; decide)) (rQ_wf hw)
def rA (x : JA) : JR := { JR.zero with kd := 2, a := x }
theorem rA_only (x : JA) : (rA x).only = (rA x) := by
 simp [JR.only, rA]
theorem rA_kind (x : JA) : (rA x).kind = x.right := by
 simp [JR.kind, rA]
theorem rA_right {x : JA} (h : x.right = true) : (rA x).right = true := by
 unfold JR.right
 rw [rA_only, JR.b_self, rA_kind, h]
 simp [rA, JR.zero]
 all_goals rfl
theorem rA_known {x : JA} {n : Int} (h : x.kn = n) : (rA x).known n = n := by
 simp [JR.known, rA, h]
theorem rA_wf {x : JA} (h : x.wf) : (rA x).wf := ⟨Nat.zero_le _, wf_JQ, h, wf_JE, wf_JO, wf_JT, wf_JS⟩
theorem Jn.putA {l : List JR} {day last : Int} (h : Jn l day last) (hl : l.length < 40) {x : JA} (hr : x.right = true) (hk : x.kn = ((l.length + 1 : Nat) : Int)) (hw : x.wf) : Jn (l ++ [rA x]) day last :=
 h.put hl (rA_right hr) (rA_known hk) (by show (2 : Int) ≠ 7; decide) (fun e => absurd e (by show ¬ (2 : Int) = 8; decide)) (rA_wf hw)
def rE (f : ByteArray) (x : JE) : JR := { JR.zero with kd := 3, fnd := f, e := x }
theorem rE_only {f : ByteArray} (x : JE) : (rE f x).only = (rE f x) := by
 simp [JR.only, rE]
theorem rE_kind {f : ByteArray} (x : JE) : (rE f x).kind = x.right := by
 simp [JR.kind, rE]
theorem rE_right {f : ByteArray} {x : JE} (h : x.right = true) (hf : name f = true) : (rE f x).right = true := by
 unfold JR.right
 rw [rE_only, JR.b_self, rE_kind, h]
 simp [rE, hf]
 all_goals rfl
theorem rE_known {f : ByteArray} {x : JE} {n : Int} (h : x.kn = n) : (rE f x).known n = n := by
 simp [JR.known, rE, h]
theorem rE_wf {f : ByteArray} {x : JE} (h : x.wf) (hf : f.size ≤ 9223372036854775807) : (rE f x).wf := ⟨hf, wf_JQ, wf_JA, h, wf_JO, wf_JT, wf_JS⟩
theorem Jn.putE {f : ByteArray} {l : List JR} {day last : Int} (h : Jn l day last) (hl : l.length < 40) {x : JE} (hr : x.right = true) (hk : x.kn = ((l.length + 1 : Nat) : Int)) (hw : x.wf) (hf : name f = true) : Jn (l ++ [rE f x]) day last :=
 h.put hl (rE_right hr hf) (rE_known hk) (by show (3 : Int) ≠ 7; decide) (fun e => absurd e (by show ¬ (3 : Int) = 8; decide)) (rE_wf hw (name_wf hf))
def rO (x : JO) : JR := { JR.zero with kd := 4, o := x }
theorem rO_only (x : JO) : (rO x).only = (rO x) := by
 simp [JR.only, rO]
theorem rO_kind (x : JO) : (rO x).kind = x.right := by
 simp [JR.kind, rO]
theorem rO_right {x : JO} (h : x.right = true) : (rO x).right = true := by
 unfold JR.right
 rw [rO_only, JR.b_self, rO_kind, h]
 simp [rO, JR.zero]
 all_goals rfl
theorem rO_known {x : JO} {n : Int} (h : x.kn = n) : (rO x).known n = n := by
 simp [JR.known, rO, h]
theorem rO_wf {x : JO} (h : x.wf) : (rO x).wf := ⟨Nat.zero_le _, wf_JQ, wf_JA, wf_JE, h, wf_JT, wf_JS⟩
theorem Jn.putO {l : List JR} {day last : Int} (h : Jn l day last) (hl : l.length < 40) {x : JO} (hr : x.right = true) (hk : x.kn = ((l.length + 1 : Nat) : Int)) (hw : x.wf) : Jn (l ++ [rO x]) day last :=
 h.put hl (rO_right hr) (rO_known hk) (by show (4 : Int) ≠ 7; decide) (fun e => absurd e (by show ¬ (4 : Int) = 8; decide)) (rO_wf hw)
def rT (x : JT) : JR := { JR.zero with kd := 5, t := x }
theorem rT_only (x : JT) : (rT x).only = (rT x) := by
 simp [JR.only, rT]
theorem rT_kind (x : JT) : (rT x).kind = x.right := by
 simp [JR.kind, rT]
theorem rT_right {x : JT} (h : x.right = true) : (rT x).right = true := by
 unfold JR.right
 rw [rT_only, JR.b_self, rT_kind, h]
 simp [rT, JR.zero]
 all_goals rfl
theorem rT_known {x : JT} {n : Int} (h : x.kn = n) : (rT x).known n = n := by
 simp [JR.known, rT, h]
theorem rT_wf {x : JT} (h : x.wf) : (rT x).wf := ⟨Nat.zero_le _, wf_JQ, wf_JA, wf_JE, wf_JO, h, wf_JS⟩
theorem Jn.putT {l : List JR} {day last : Int} (h : Jn l day last) (hl : l.length < 40) {x : JT} (hr : x.right = true) (hk : x.kn = ((l.length + 1 : Nat) : Int)) (hw : x.wf) : Jn (l ++ [rT x]) day last :=
 h.put hl (rT_right hr) (rT_known hk) (by show (5 : Int) ≠ 7; decide) (fun e => absurd e (by show ¬ (5 : Int) = 8; decide)) (rT_wf hw)
def rS (x : JS) : JR := { JR.zero with kd := 6, s := x }
theorem rS_only (x : JS) : (rS x).only = (rS x) := by
 simp [JR.only, rS]
theorem rS_kind (x : JS) : (rS x).kind = x.right := by
 simp [JR.kind, rS]
theorem rS_right {x : JS} (h : x.right = true) : (rS x).right = true := by
 unfold JR.right
 rw [rS_only, JR.b_self, rS_kind, h]
 simp [rS, JR.zero]
 all_goals rfl
theorem rS_known {x : JS} {n : Int} (h : x.kn = n) : (rS x).known n = n := by
 simp [JR.known, rS, h]
theorem rS_wf {x : JS} (h : x.wf) : (rS x).wf := ⟨Nat.zero_le _, wf_JQ, wf_JA, wf_JE, wf_JO, wf_JT, h⟩
theorem Jn.putS {l : List JR} {day last : Int} (h : Jn l day last) (hl : l.length < 40) {x : JS} (hr : x.right = true) (hk : x.kn = ((l.length + 1 : Nat) : Int)) (hw : x.wf) : Jn (l ++ [rS x]) day last :=
 h.put hl (rS_right hr) (rS_known hk) (by show (6 : Int) ≠ 7; decide) (fun e => absurd e (by show ¬ (6 : Int) = 8; decide)) (rS_wf hw)
def rC (d : Int) : JR := { JR.zero with kd := 7, day := d }
theorem rC_right {d : Int} (h : Dt.isDay d = true) : (rC d).right = true := by
 have eo : (rC d).only = rC d := by simp [JR.only, rC]
 have ek : (rC d).kind = Dt.isDay d := by simp [JR.kind, rC]
 unfold JR.right
 rw [eo, JR.b_self, ek, h]
 simp [rC, JR.zero]
 rfl
theorem rC_wf (d : Int) : (rC d).wf := ⟨Nat.zero_le _, wf_JQ, wf_JA, wf_JE, wf_JO, wf_JT, wf_JS⟩
def rX (d : Int) : JR := { JR.zero with kd := 8, day := d }
theorem rX_right {d : Int} (h : Dt.isDay d = true) : (rX d).right = true := by
 have eo : (rX d).only = rX d := by simp [JR.only, rX]
 have ek : (rX d).kind = Dt.isDay d := by simp [JR.kind, rX]
 unfold JR.right
 rw [eo, JR.b_self, ek, h]
 simp [rX, JR.zero]
 rfl
theorem rX_wf (d : Int) : (rX d).wf := ⟨Nat.zero_le _, wf_JQ, wf_JA, wf_JE, wf_JO, wf_JT, wf_JS⟩
theorem Jn.putC {l : List JR} {day last day2 : Int} (h : Jn l day last) (hl : l.length < 40) (h1 : day < day2) (h2 : day2 ≤ day + 5) : Jn (l ++ [rC day]) day2 day :=
 h.close hl (rC_right h.isDay) rfl rfl h1 h2 (rC_wf _)
theorem Jn.putX {l : List JR} {day last d : Int} (h : Jn l day last) (hl : l.length < 40) (h0 : 0 ≤ d) (h1 : d ≤ last) : Jn (l ++ [rX d]) day last :=
 h.put hl (rX_right (by have := h.day; have := h.lt; unfold Dt.isDay; simp only [Bool.and_eq_true, decide_eq_true_eq]; omega)) (by simp [JR.known, rX]) (by show (8 : Int) ≠ 7; decide) (fun _ => h1) (rX_wf _)
theorem key_o : ∀ k, k < 20 → name (k2 111 (97 + k)) = true := by decide +kernel
theorem key_s : ∀ k, k < 2 → name (k2 115 (49 + k)) = true := by decide +kernel
theorem key_x : ∀ k, k < 9 → name (k2 120 (97 + k)) = true := by decide +kernel
def s1 : ByteArray := { data := #[115, 49] }
def u1 : ByteArray := { data := #[117, 49] }
theorem s1_name : Nm.usableB s1 = true := by decide +kernel
theorem u1_name : name u1 = true := by decide +kernel
theorem q_right {ins : ByteArray} {day n d k kn : Int} (hi : paper ins = true) (hd : Dt.isDay day = true) (hk : known kn = true) (h0 : 0 < n) (h1 : n ≤ 1000000) (d0 : 0 < d) (d1 : d ≤ 1000000) (hdk : d * k = 1000000) : JQ.right ⟨s1, ins, usd, day, rr (Rat.divInt n d), kn, false⟩ = true := by
 show (Nm.usableB s1 && (paper ins && (code usd && (Dt.isDay day && (known kn && (if false = true then _ else (price (rr (Rat.divInt n d)) && !Rr.b (rr (Rat.divInt n d)) rat0))))))) = true
 rw [s1_name, hi, usd_code, hd, hk, if_neg Bool.false_ne_true, price_r (k := k) Zo h1 d0 hdk, rr_no h0 d0 Zo d1]; rfl
theorem q_wf {ins : ByteArray} {day kn : Int} {p : Rr} (h : ins.size ≤ 9223372036854775807) : JQ.wf ⟨s1, ins, usd, day, p, kn, false⟩ := ⟨(by decide : (2 : Nat) ≤ _), h, (by decide : (3 : Nat) ≤ _)⟩
theorem e_right {k : Nat} {day stl : Int} {ins : ByteArray} {qty amt kn : Int} (hi : paper ins = true) (hk : known kn = true) (d0 : 0 ≤ day) (d1 : day ≤ stl) (d2 : stl ≤ 73048) (q0 : 1 ≤ qty) (q1 : qty ≤ 1000000) (a0 : -1000000000000 ≤ amt) (a1 : amt ≤ 1000000000000) : JE.right ⟨1, k2 116 (97 + k), day, stl, ins, qty, amt, usd, kn, false⟩ = true := by
 show ((decide (1 ≤ (2 : Nat)) && (decide ((2 : Nat) ≤ 64) && known kn)) && (if false = true then _ else (decide (0 ≤ day) && (decide (day ≤ stl) && (decide (stl ≤ 73048) && (decide (-1000000000000000 ≤ amt) && (decide (amt ≤ 1000000000000000) && code usd))))) && (if (1 : Int) = 1 then paper ins && (decide (qty ≠ 0) && (decide (-1000000000000000 ≤ qty) && decide (qty ≤ 1000000000000000))) else _))) = true
 rw [hk, usd_code, hi, if_neg Bool.false_ne_true, if_pos rfl, Zt d0, Zt d1, Zt d2, Zt (show -1000000000000000 ≤ amt by omega), Zt (show amt ≤ 1000000000000000 by omega), Zt (show qty ≠ 0 by omega), Zt (show -1000000000000000 ≤ qty by omega), Zt (show qty ≤ 1000000000000000 by omega)]; rfl
theorem o_right {key : ByteArray} {acc : JK} {f c : ByteArray} {kd am un at_ kn : Int} (hkey : name key = true) (ha : acc.right = true) (hf : name f = true) (hc : name c = true) (h0 : 0 ≤ at_) (h1 : at_ ≤ 1000000) (hk : known kn = true) (hs : JO.asked ⟨key, acc, f, c, kd, am, un, at_, kn, false⟩ = true) : JO.right ⟨key, acc, f, c, kd, am, un, at_, kn, false⟩ = true := by
 show ((name key && (decide (0 ≤ at_) && (decide (at_ ≤ 105190559) && known kn))) && (if false = true then _ else acc.right && (name f && (name c && JO.asked ⟨key, acc, f, c, kd, am, un, at_, kn, false⟩)))) = true
 rw [hkey, ha, hf, hc, hk, hs, if_neg Bool.false_ne_true, Zt h0, Zt (show at_ ≤ 105190559 by omega)]; rfl
theorem ov_right {key : ByteArray} {at_ kn : Int} (hkey : name key = true) (h0 : 0 ≤ at_) (h1 : at_ ≤ 1000000) (hk : known kn = true) : JO.right { JO.zero with key := key, at_ := at_, kn := kn, vd := true } = true := by
 show ((name key && (decide (0 ≤ at_) && (decide (at_ ≤ 105190559) && known kn))) && (if true = true then JO.b { JO.zero with key := key, at_ := at_, kn := kn, vd := true } { JO.zero with key := key, at_ := at_, kn := kn, vd := true } else _)) = true
 rw [hkey, hk, if_pos rfl, JO.b_self, Zt h0, Zt (show at_ ≤ 105190559 by omega)]; rfl
theorem t_right {key f c : ByteArray} {x y : JK} {un day kn : Int} (hkey : name key = true) (hf : name f = true) (hc : name c = true) (hx : x.right = true) (hy : y.right = true) (u0 : 1 ≤ un) (u1 : un ≤ 1000000) (hd : Dt.isDay day = true) (hk : known kn = true) : JT.right ⟨key, f, c, x, y, un, day, kn, false⟩ = true := by
 show ((name key && known kn) && (if false = true then _ else name f && (name c && (x.right && (y.right && (amount un && Dt.isDay day)))))) = true
 have hu : amount un = true := by unfold amount; simp only [Bool.and_eq_true, decide_eq_true_eq]; omega
 rw [hkey, hf, hc, hx, hy, hu, hd, hk, if_neg Bool.false_ne_true]; rfl
theorem s_right {f : ByteArray} {fr tl kn : Int} (hf : name f = true) (h0 : 0 ≤ fr) (h1 : fr ≤ tl) (h2 : tl ≤ 73048) (hk : known kn = true) : JS.right ⟨u1, f, fr, tl, kn, false⟩ = true := by
 show ((name u1 && known kn) && (if false = true then _ else name f && (decide (0 ≤ fr) && (decide (fr ≤ 73048) && (decide (tl = 0) || (decide (fr ≤ tl) && decide (tl ≤ 73048))))))) = true
 rw [u1_name, hk, hf, if_neg Bool.false_ne_true, Zt h0, Zt (show fr ≤ 73048 by omega), Zt h1, Zt h2, Bool.and_true, Bool.or_true]; rfl
end Jb
end
end Go.Proofs.YtkiempioeffhbaaGreatDoor
