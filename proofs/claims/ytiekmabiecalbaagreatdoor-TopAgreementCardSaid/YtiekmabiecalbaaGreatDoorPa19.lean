/- Walks. -/
import Derived.Lib.SlBytesRow
import Derived.Test.YtiekmabiecalbaaGreatDoorPa18
import Derived.Test.YtiekmabiecalbaaGreatDoorPa15
namespace Go.Proofs.YtiekmabiecalbaaGreatDoor
set_option maxHeartbeats 16000000
open Go.RowKit
set_option maxRecDepth 8000
section
theorem z9_60 {P : Prop} (h : P := by
 show ((l.map UInt8.ofNat).toArray[i]'(by simpa using hi2)).toNat = _
 simp
 exact h2 _ (List.getElem_mem hi2)) : P := h
theorem z9_61 {P : Prop} (h : P := by
 obtain ⟨c, hc, rfl⟩ := List.mem_map.1 h
 have := Tx.dig_lt N c (by rw [HN0.out]; exact hc)
 omega) : P := h
theorem z9_62 {P : Prop} (h : P := by
 clear HM hsz hsub
 obtain ⟨i, j, l, rfl, rfl, hij, HR, HZ, HM⟩ := hrel
 have hll := HR.out.len
 by_cases hlt : i < j
 ·obtain ⟨a, ha⟩ : ∃ a, l[i]? = some a := ⟨_, List.getElem?_eq_getElem Zo⟩
  obtain ⟨c, hc⟩ : ∃ c, l[j]? = some c := ⟨_, List.getElem?_eq_getElem Zo⟩
  have la := la_b HZ.out ha
  have lc := la_b HZ.out hc
  have sa := sa_b HZ.out (k := i) (d := c) Zo
  have sc := sa_b (set_b HZ.out i c) (k := j) (d := a) (by simp; omega)
  have HZ2 := Zi (set_b (set_b HZ.out i c) j a)
  have HR2 := Zi (HR.out.step hij hlt ha hc)
  have hi1 : (i : Int) < xs.length := by omega
  have hj1 : (j : Int) < xs.length := by omega
  have hlt1 : (i : Int) < j := by omega
  clear ha hc
  go_upto_region 17 with fail
  refine start_M [13, 15] HM Zk (fun w0x H9 => ?_)
  replace HM := H9; clear H9
  refine k_mv 0 (heldE HM) ?_
  refine k_mv 1 (heldE HM) ?_
  refine k_mv 2 (heldE HM) ?_
  refine k_mv 3 (heldE HM) ?_
  refine k_mv 4 (heldE HM) ?_
  refine k_mv 5 (heldE HM) ?_
  refine k_ia 6 (heldE HM) ?_
  refine k_ld 7 [12, 13, 14, 15] (heldE HM) ?_
  refine k_mv 8 (heldE HM) ?_
  refine k_mv 9 (heldE HM) ?_
  refine k_ia 10 (heldE HM) ?_
  refine k_ld 11 [12, 13, 14, 15] (heldE HM) ?_
  refine k_ia 12 (heldE HM) ?_
  refine j_one 13 fun K9 hK9 => ?_
  refine j_st HM ?_; clear HM; intro w1 HM
  refine hK9 _ _ heldN ?_; clear hK9 K9
  refine k_ia 14 heldN ?_
  refine j_one 15 fun K9 hK9 => ?_
  refine j_st HM ?_; clear HM; intro w1 HM
  refine hK9 _ _ heldN ?_; clear hK9 K9
  refine wpAnyL_done Zk ?_ _
  (go_wp2_with fail; go_roundw; (case rel => exact ⟨i + 1, j - 1, _, by go_num, by rw [show (j : Int) - 1 = ((j - 1 : Nat) : Int) by omega], by omega, HR2, HZ2, HM⟩); (case measure => simp [intOf]; omega))
 ·obtain rfl : l = xs.reverse := HR.out.done hij Zo
  have hcv := conv_b (HM.get Zl) HZ.out HX.out (xs.length + sp.length)
  rw [List.length_reverse] at hcv
  have hlt1 : (j : Int) ≤ i := by omega
  go_wp2_with fail
  go_ret
  exact ⟨by rw [HT.out]; rfl, HM.low⟩) : P := h
end
section
theorem m_cmpm (op : BinOp) (N M : Nat) (v : Bool) (he : op = .eql ∨ op = .neq) (hv : v = if op = .eql then decide (N = M) else !decide (N = M)) (hN : N < Bg.lim) (hM : M < Bg.lim) {ops : Array Oper} {rest : List Oper} {a a2 : Act} {w : World} {Q : Exit → Act → World → Prop} {x y : Operand} {t : TypeId} {d : Option Tmp} {ty : TypeId} {ps : String} {af : Array Edge} {g : Option (Nat × Bool)} (h : wpList Tryz.prog ops Q rest a2 w) (hw : WantT ops { dst := d, op := .binOp op 167 x y t, type := ty, pos := ps, after := af, guard := g } a := by first | exact Or.inl rfl | exact Or.inr ⟨_, _, _, rfl, rfl, rfl⟩) (hx : a.eval x = .agg (Bg.row 32 N) := by (conv => lhs; whnf) <;> rfl) (hy : a.eval y = .agg (Bg.row 32 M) := by (conv => lhs; whnf) <;> rfl) (ha : a.put d (.bool v) = a2 := by ((try simp only [Act.put, Za, Zx, Zy]) <;> rfl)) : OpG ops Q rest a w { dst := d, op := .binOp op 167 x y t, type := ty, pos := ps, after := af, guard := g } := by
 have hr := run_cmp_mag op N M hN hM x y w he
 rw [← hv] at hr
 refine wpList_step fun K hK => ?_
 rw [if_pos hw.wanted]
 unfold Oper.wp execOp
 simp only [Sem.run_bind] at hr
 simp only [hx, hy, Sem.run_bind, hr, Result.andThen_ok, Sem.run_pure]
 exact hK _ _ (ha ▸ h)
theorem run_mag0 (w : World) : (Instr.build 167 #[]).run Tryz.prog w = .ok (.agg (Bg.row 32 0)) w := by
 rw [← Bg.zero32]; kernel_rfl
theorem h_m0 {o : Oper} {a : Act} (ho : o.op = .build 167 #[]) : ∀ w, (execOp a.eval o).run Tryz.prog w = .ok (.value (.agg (Bg.row 32 0))) w := fun w => by
 unfold execOp
 simp only [ho, Sem.run_bind, List.map_toArray, List.map_nil, run_mag0, Result.andThen_ok, Sem.run_pure]
theorem rows_onet (v : Value) : ∀ n : Nat, rowsOf (List.replicate n #[v]) = Array.replicate n v
 | 0 => rfl
 | n + 1 => by
  rw [List.replicate_succ, rowsOf, rows_onet v n]
  apply Array.ext'
  simp [List.replicate_succ]
theorem make_310 (w : World) : (Instr.makeSlice 70 (.int .i64 0) (.int .i64 310)).run Tryz.prog w = .ok (.slice (some ⟨w.heap.size, 0, none⟩) 0 310) (w.alloc (.cells (Array.replicate 310 (.int .u8 0)) 5)) := by kernel_rfl
theorem el_byte : elemB 70 5 1 1 = true := by kernel_rfl
def Tx.b (d : Nat) : Array Value := #[.int .u8 (d : Int)]
theorem Tx.b_size (l : List Nat) : ∀ c ∈ l.map Tx.b, c.size = 1 := by
 intro c hc
 obtain ⟨d, _, rfl⟩ := List.mem_map.1 hc
 rfl
theorem Tx.b_one (l : List Nat) : ∀ c ∈ l.map Tx.b, c.all (·.oneCell') = true := by
 intro c hc
 obtain ⟨d, _, rfl⟩ := List.mem_map.1 hc
 simp [Tx.b, Value.oneCell']
theorem sl_zero (b n : Nat) : SlAt 1 (.slice (some ⟨b, 0, none⟩) 0 n) (([] : List Nat).map Tx.b) [(b, Array.replicate n (.int .u8 0))] := by
 have h := SlAt.row (n := 1) b [] (List.replicate n #[.int .u8 0]) (by intro c hc; rw [List.eq_of_mem_replicate hc]; rfl)
 rw [List.nil_append, rows_onet] at h
 simpa using h
theorem la_b {l : List Nat} {sp : List (Array Value)} (h : ∀ c ∈ l.map Tx.b ++ sp, c.size = 1) {k d : Nat} (hk : l[k]? = some d) : LA 5 (rowsOf (l.map Tx.b ++ sp)) k (.int .u8 (d : Int)) := by
 have hl := (List.getElem?_eq_some_iff.1 hk).1
 have := la_rowone (T := 5) (n := 1) (a := 0) (l := l.map Tx.b ++ sp) (k := k) (c := Tx.b d) (v := .int .u8 (d : Int)) Zk h (by rw [List.getElem?_append_left (by simpa using hl), List.getElem?_map, hk]; rfl) Zo rfl
 simpa using this
theorem sa_b {l : List Nat} {sp : List (Array Value)} (h : ∀ c ∈ l.map Tx.b ++ sp, c.size = 1) {k d : Nat} (hk : k < l.length) : SA 5 (rowsOf (l.map Tx.b ++ sp)) k (.int .u8 (d : Int)) (rowsOf ((l.set k d).map Tx.b ++ sp)) := by
 have hk2 : (l.map Tx.b ++ sp)[k]? = some (Tx.b l[k]) := by rw [List.getElem?_append_left (by simpa using hk), List.getElem?_map, List.getElem?_eq_getElem hk]; rfl
 have hs := rows_set h hk2 (d := Tx.b d) rfl
 have e : (l.map Tx.b ++ sp).set k (Tx.b d) = (l.set k d).map Tx.b ++ sp := by rw [List.set_append_left _ _ (by simpa using hk), List.map_set]
 rw [e, Nat.one_mul] at hs
 have hlt := rows_lt h hk2
 have h1 : SA 5 (rowsOf (l.map Tx.b ++ sp)) k (.int .u8 (d : Int)) _ := SA.one Zk rfl Zo
 exact hs ▸ h1
theorem set_b {l : List Nat} {sp : List (Array Value)} (h : ∀ c ∈ l.map Tx.b ++ sp, c.size = 1) (k d : Nat) : ∀ c ∈ (l.set k d).map Tx.b ++ sp, c.size = 1 := by
 intro c hc
 rcases List.mem_append.1 hc with h1 | h1
 ·exact Tx.b_size _ c h1
 ·exact h c (List.mem_append_right _ h1)
def Tx.bytes (l : List Nat) : ByteArray := ⟨(l.map UInt8.ofNat).toArray⟩
theorem conv_b {w : World} {b : Nat} {l : List Nat} {sp : List (Array Value)} (hb : Blk w b (rowsOf (l.map Tx.b ++ sp))) (h : ∀ c ∈ l.map Tx.b ++ sp, c.size = 1) (h2 : ∀ d ∈ l, d < 256) (cap : Nat) : (convert 70 9 (.slice (some ⟨b, 0, none⟩) l.length cap)).run Tryz.prog w = .ok (.string (Tx.bytes l)) w := by
 have hs : (Tx.bytes l).size = l.length := by show (l.map UInt8.ofNat).toArray.size = _; simp
 have := Lib.run_convert_whole (P := Tryz.prog) w 70 5 9 Zk Zk Zk b 0 (Tx.bytes l) (fun i hi => by
  have hi2 : i < l.length := by omega
  have hk : (l.map Tx.b ++ sp)[i]? = some (Tx.b l[i]) := by rw [List.getElem?_append_left (by simpa using hi2), List.getElem?_map, List.getElem?_eq_getElem hi2]; rfl
  have hr := rows_at h hk (j := 0) Zo
  rw [Nat.one_mul, Nat.add_zero] at hr
  rw [hb.cell, Nat.zero_add, hr]
  have hd : (Tx.bytes l)[i].toNat = l[i] := by
   exact z9_60
  rw [hd]; rfl) cap
 rw [hs] at this
 exact this
structure Tx.Rv (xs : List Nat) (i : Nat) (l : List Nat) : Prop where
 len : l.length = xs.length
 at_ : ∀ k, k < xs.length → l[k]? = if k < i ∨ xs.length - 1 - k < i then xs[xs.length - 1 - k]? else xs[k]?
theorem Tx.Rv.start (xs : List Nat) : Tx.Rv xs 0 xs := ⟨rfl, fun k _ => by simp⟩
theorem Tx.Rv.step {xs l : List Nat} {i j : Nat} (h : Tx.Rv xs i l) (hij : i + j + 1 = xs.length) (hlt : i < j) {a c : Nat} (ha : l[i]? = some a) (hc : l[j]? = some c) : Tx.Rv xs (i + 1) ((l.set i c).set j a) := by
 obtain ⟨h1, h2⟩ := h
 refine ⟨by simp [h1], fun k hk => ?_⟩
 have hi := h2 i Zo
 have hj := h2 j Zo
 rw [ha, if_neg Zo] at hi
 rw [hc, if_neg Zo] at hj
 rw [List.getElem?_set, List.getElem?_set]
 by_cases e1 : j = k
 ·subst e1
  rw [if_pos rfl, if_pos (by simp [h1]; omega), if_pos Zo, show xs.length - 1 - j = i by omega, hi]
 ·rw [if_neg e1]
  by_cases e2 : i = k
  ·subst e2
   rw [if_pos rfl, if_pos Zo, if_pos Zo, show xs.length - 1 - i = j by omega, hj]
  ·rw [if_neg e2, h2 k hk]
   by_cases e3 : k < i ∨ xs.length - 1 - k < i
   ·rw [if_pos e3, if_pos Zo]
   ·rw [if_neg e3, if_neg Zo]
theorem Tx.Rv.done {xs l : List Nat} {i j : Nat} (h : Tx.Rv xs i l) (hij : i + j + 1 = xs.length) (hle : j ≤ i) : l = xs.reverse := by
 obtain ⟨h1, h2⟩ := h
 apply List.ext_getElem?
 intro k
 by_cases hk : k < xs.length
 ·rw [h2 k hk, List.getElem?_reverse hk]
  by_cases e : k < i ∨ xs.length - 1 - k < i
  ·rw [if_pos e]
  ·rw [if_neg e, show xs.length - 1 - k = k by omega]
 ·rw [List.getElem?_eq_none Zo, List.getElem?_eq_none (by simp; omega)]
theorem Tx.str_bytes (l : List Nat) : Tx.bytes (l.map (48 + ·)) = Tx.str l := by
 unfold Tx.bytes Tx.str
 rw [List.map_map]
 congr 2
 apply List.map_congr_left
 intro d _
 show UInt8.ofNat (48 + d) = _
 rw [Nat.add_comm]
theorem Tx.txt_pos {s : Bool} {N : Nat} {l : List Nat} (h : Tx.dig N = l) (h0 : l.length ≠ 0) : Tx.txt s N = Tx.bytes ((l.map (48 + ·)) ++ (if s then [45] else [])).reverse := by
 have hN : N ≠ 0 := by rintro rfl; rw [Tx.dig_zero] at h; subst h; exact h0 rfl
 unfold Tx.txt
 rw [if_neg hN, h, ← Tx.str_bytes]
 cases s with
 | true =>
  rw [if_pos rfl, if_pos rfl, List.reverse_append]
  apply ByteArray.ext
  rw [ByteArray.data_append]
  unfold Tx.bytes
  simp
 | false =>
  rw [if_neg Bool.false_ne_true, if_neg Bool.false_ne_true, List.append_nil, List.map_reverse]
theorem len_b (l : List Nat) : (l.map Tx.b).length = l.length := List.length_map _
theorem short_f (b N x q r : Nat) (hN : N < Bg.lim) (hx0 : 0 < x) (hx : x < 4294967296) (hq : Hid (q = N / x)) (hr : Hid (r = N % x)) (w : World) (hB : Blk w b (Bg.row 32 N)) :
    Calls Tryz.prog 121 #[.pointer (some ⟨b, 0, none⟩), .int .u32 (x : Nat)] w fun e w' => e = .returned (.int .u32 (r : Nat)) ∧ Blk w' b (Bg.row 32 q) ∧ w.grownBy w' (some b) := by
 rw [hq.out, hr.out]; exact short_any b N x hN hx0 hx w hB
set_option maxRecDepth 20000 in
theorem bformat_any (s : Bool) (N : Nat) (hN : N < Bg.lim) (w : World) :
    Calls Tryz.prog 79 #[.agg (Bg.intA s N)] w fun r w' => r = .returned (.string (Tx.txt s N)) ∧ Below w.heap.size w w' := by
 have HM := Mem.start w
 obtain ⟨s1, hs1⟩ := Zh ((s && decide (N ≠ 0)))
 have hel := el_byte
 have l0 : 0 < Bg.lim := Bg.ppos 32
 go_enter Tryz.func79, Tryz.ntmps79
 go_wp2_with (first | (go_at_call 120; (with_reducible refine Zc HM (split_as s s1 N hN hs1 _) ?_; clear HM; intro w2 HM)) | (first | ((with_reducible refine g_ld ?_); refine a_ld HM ?_) | ((with_reducible refine g_st ?_); refine a_st HM ?_; clear HM; intro w1 HM) | ((with_reducible refine g_al ?_); refine a_al HM ?_; clear HM; intro bk w1 HM) | ((with_reducible refine g_bx ?_); refine a_bx HM ?_; clear HM; intro bk w1 HM) | ((with_reducible refine g_bld ?_); refine a_bld ?_)))
 rw [make_310]
 replace HM := HM.new (Array.replicate 310 (.int .u8 0)) 5
 have HS := sl_zero w1.heap.size 310
 obtain ⟨bm, hbm⟩ := HM.nm1
 subst hbm
 go_wp2_with (first | ((with_reducible refine g_ld ?_); refine a_ld HM ?_) | ((with_reducible refine g_st ?_); refine a_st HM ?_; clear HM; intro w1 HM) | ((with_reducible refine g_al ?_); refine a_al HM ?_; clear HM; intro bk w1 HM) | ((with_reducible refine g_bx ?_); refine a_bx HM ?_; clear HM; intro bk w1 HM) | ((with_reducible refine g_bld ?_); refine a_bld ?_))
 go_loopg [5] (N + 1) (fun g sv wr => ∃ (m : Nat) (l : List Nat) (bs : List Nat) (B : List (Nat × Array Value)), m + 1 ≤ g ∧ m < Bg.lim ∧ Hid (Tx.dig N = l ++ Tx.dig m) ∧ Hid (bs = l.map (48 + ·)) ∧ Hid (SlAt 1 sv (bs.map Tx.b) B) ∧ Mem w [] ((bm, Bg.row 32 m) :: B) wr)
 case atStart => exact ⟨N, [], [], _, Nat.le_refl _, hN, Zi Zs, Zi rfl, Zi HS, HM.pick⟩
 case round =>
  clear HM HS
  obtain ⟨m, l, bs, B, hg, hm, HD, HB, HS, HM⟩ := hrel
  cases gk with
  | zero => omega
  | succ g =>
   by_cases h0 : m = 0
   ·subst h0
    obtain ⟨A, cap, rfl, hcap⟩ := HS.out.val
    have hlc := len_b bs
    have hbl : bs.length = l.length := by rw [HB.out, List.length_map]
    have HN0 : Hid (Tx.dig N = l) := Zi (by have := HD.out; rw [Tx.dig_zero, List.append_nil] at this; exact this)
    have hll : l.length ≤ 309 := by rw [← HN0.out]; exact Tx.lim_len hN
    clear HD
    by_cases hl0 : l.length = 0
    ·have hl1 : (((bs.map Tx.b).length : Int) == 0) = true := by rw [hlc, hbl, hl0]; rfl
     go_wp2_with (first | first
         | ((with_reducible refine g_bld ?_); refine a_bld (v := .agg (Bg.row 32 0)) ?_ (hy := h_m0 rfl))
         | ((with_reducible refine g_bin ?_); refine m_cmpm .neq 0 0 false (.inr rfl) rfl l0 l0 ?_) | (first | ((with_reducible refine g_ld ?_); refine a_ld HM ?_) | ((with_reducible refine g_st ?_); refine a_st HM ?_; clear HM; intro w1 HM) | ((with_reducible refine g_al ?_); refine a_al HM ?_; clear HM; intro bk w1 HM) | ((with_reducible refine g_bx ?_); refine a_bx HM ?_; clear HM; intro bk w1 HM) | ((with_reducible refine g_bld ?_); refine a_bld ?_)))
     go_ret
     have hz : N = 0 := by
      by_cases h : N = 0
      ·exact h
      ·have := HN0.out; rw [Tx.dig_pos h] at this; rw [← this] at hl0; simp at hl0
     refine ⟨?_, HM.low⟩
     unfold Tx.txt
     rw [if_pos hz]
     rfl
    ·have hl1 : (((bs.map Tx.b).length : Int) == 0) = false := by rw [hlc, hbl]; simpa using hl0
     clear hlc
     cases s1 with
     | true =>
      go_upto_region 14 with (first | first
       | ((with_reducible refine g_bld ?_); refine a_bld (v := .agg (Bg.row 32 0)) ?_ (hy := h_m0 rfl))
       | ((with_reducible refine g_bin ?_); refine m_cmpm .neq 0 0 false (.inr rfl) rfl l0 l0 ?_)
       | ((with_reducible refine g_bs1 ?_); refine a_bs1 HM ?_; clear HM; intro bx w1 HM)
       | ((with_reducible refine g_app ?_); refine a_app (m := [45].map Tx.b) (F := fun B => (bm, Bg.row 32 0) :: B) HM HS.out ((SlAt.made1 bx rfl).rd HM (by simp [Tx.b])) ?_ (Tx.b_one _) (hlen := by simp; omega); clear HM; intro s2 B2 w1 HS2 HM) | (first | ((with_reducible refine g_ld ?_); refine a_ld HM ?_) | ((with_reducible refine g_st ?_); refine a_st HM ?_; clear HM; intro w1 HM) | ((with_reducible refine g_al ?_); refine a_al HM ?_; clear HM; intro bk w1 HM) | ((with_reducible refine g_bx ?_); refine a_bx HM ?_; clear HM; intro bk w1 HM) | ((with_reducible refine g_bld ?_); refine a_bld ?_)))
      obtain ⟨xs, hxs⟩ := Zh (bs ++ (if true then [45] else []))
      have HT : Hid (Tx.txt s N = Tx.bytes xs.reverse) := Zi (by
       have e := Tx.txt_pos (s := s) HN0.out hl0
       have e1 := hs1.out
       have hz : N ≠ 0 := by rintro rfl; have := HN0.out; rw [Tx.dig_zero] at this; subst this; exact hl0 rfl
       rw [Zt hz, Bool.and_true] at e1
       rw [hxs.out, HB.out, e, ← e1])
      have HX : Hid (∀ d ∈ xs.reverse, d < 256) := Zi (by
       intro d hd
       rw [List.mem_reverse, hxs.out, HB.out] at hd
       rcases List.mem_append.1 hd with h | h
       ·exact z9_61
       ·simp at h; try omega)
      obtain ⟨b0, sp, e1, e2, hsz⟩ := SlAt.inv (l := xs.map Tx.b) (by rw [hxs.out]; simpa using HS2) (by rw [hxs.out]; intro h; have h2 := congrArg List.length h; rw [List.length_map, List.length_append] at h2; simp only [List.length_nil] at h2; omega)
      have hn1 : 1 ≤ xs.length := by rw [hxs.out, List.length_append]; omega
      have hn2 : xs.length ≤ 310 := by rw [hxs.out, List.length_append]; simp; omega
      rw [len_b] at e1
      subst e1 e2
      clear hxs HB HN0 hbl hl0 hl1 hll
      go_wp2_with fail
      replace HM : Mem w [] [(b0, rowsOf (xs.map Tx.b ++ sp))] _ := HM.pick
      have hsub : ((xs.length : Int) - 1) = ((xs.length - 1 : Nat) : Int) := by omega
      go_loopw [8, 9] (fun iv jv wr => ∃ (i j : Nat) (l : List Nat), iv = .int .i64 (i : Nat) ∧ jv = .int .i64 (j : Nat) ∧ i + j + 1 = xs.length ∧ Hid (Tx.Rv xs i l) ∧ Hid (∀ c ∈ l.map Tx.b ++ sp, c.size = 1) ∧ Mem w [] [(b0, rowsOf (l.map Tx.b ++ sp))] wr) (fun _ jv _ => (intOf jv).toNat)
      case atStart => exact ⟨0, xs.length - 1, xs, rfl, by first | rfl | rw [hsub], by omega, Zi (Tx.Rv.start xs), Zi hsz, HM⟩
      case round =>
       exact z9_62
     | false =>
      go_upto_region 14 with (first | first
       | ((with_reducible refine g_bld ?_); refine a_bld (v := .agg (Bg.row 32 0)) ?_ (hy := h_m0 rfl))
       | ((with_reducible refine g_bin ?_); refine m_cmpm .neq 0 0 false (.inr rfl) rfl l0 l0 ?_) | (first | ((with_reducible refine g_ld ?_); refine a_ld HM ?_) | ((with_reducible refine g_st ?_); refine a_st HM ?_; clear HM; intro w1 HM) | ((with_reducible refine g_al ?_); refine a_al HM ?_; clear HM; intro bk w1 HM) | ((with_reducible refine g_bx ?_); refine a_bx HM ?_; clear HM; intro bk w1 HM) | ((with_reducible refine g_bld ?_); refine a_bld ?_)))
      obtain ⟨xs, hxs⟩ := Zh (bs ++ (if false then [45] else []))
      have HT : Hid (Tx.txt s N = Tx.bytes xs.reverse) := Zi (by
       have e := Tx.txt_pos (s := s) HN0.out hl0
       have e1 := hs1.out
       have hz : N ≠ 0 := by rintro rfl; have := HN0.out; rw [Tx.dig_zero] at this; subst this; exact hl0 rfl
       rw [Zt hz, Bool.and_true] at e1
       rw [hxs.out, HB.out, e, ← e1])
      have HX : Hid (∀ d ∈ xs.reverse, d < 256) := Zi (by
       intro d hd
       rw [List.mem_reverse, hxs.out, HB.out] at hd
       rcases List.mem_append.1 hd with h | h
       ·exact z9_61
       ·simp at h; try omega)
      obtain ⟨b0, sp, e1, e2, hsz⟩ := SlAt.inv (l := xs.map Tx.b) (by rw [hxs.out]; simpa using HS.out) (by rw [hxs.out]; intro h; have h2 := congrArg List.length h; rw [List.length_map, List.length_append] at h2; simp only [List.length_nil] at h2; omega)
      have hn1 : 1 ≤ xs.length := by rw [hxs.out, List.length_append]; omega
      have hn2 : xs.length ≤ 310 := by rw [hxs.out, List.length_append]; simp; omega
      rw [len_b] at e1
      injection e1 with e1 e3 e4
      subst e1 e2 e4
      clear hxs HB HN0 hbl hl0 hl1 hll
      go_wp2_with fail
      replace HM : Mem w [] [(b0, rowsOf (xs.map Tx.b ++ sp))] _ := HM.pick
      have hsub : ((xs.length : Int) - 1) = ((xs.length - 1 : Nat) : Int) := by omega
      go_loopw [8, 9] (fun iv jv wr => ∃ (i j : Nat) (l : List Nat), iv = .int .i64 (i : Nat) ∧ jv = .int .i64 (j : Nat) ∧ i + j + 1 = xs.length ∧ Hid (Tx.Rv xs i l) ∧ Hid (∀ c ∈ l.map Tx.b ++ sp, c.size = 1) ∧ Mem w [] [(b0, rowsOf (l.map Tx.b ++ sp))] wr) (fun _ jv _ => (intOf jv).toNat)
      case atStart => exact ⟨0, xs.length - 1, xs, rfl, by first | rfl | rw [hsub], by omega, Zi (Tx.Rv.start xs), Zi hsz, HM⟩
      case round =>
       exact z9_62
   ·have hne : false = decide (m = 0) := by simp [h0]
    go_upto_region 4 with (first | first
          | ((with_reducible refine g_bld ?_); refine a_bld (v := .agg (Bg.row 32 0)) ?_ (hy := h_m0 rfl))
          | ((with_reducible refine g_bin ?_); refine m_cmpm .neq m 0 true (.inr rfl) (by simp [h0]) hm l0 ?_) | (first | ((with_reducible refine g_ld ?_); refine a_ld HM ?_) | ((with_reducible refine g_st ?_); refine a_st HM ?_; clear HM; intro w1 HM) | ((with_reducible refine g_al ?_); refine a_al HM ?_; clear HM; intro bk w1 HM) | ((with_reducible refine g_bx ?_); refine a_bx HM ?_; clear HM; intro bk w1 HM) | ((with_reducible refine g_bld ?_); refine a_bld ?_)))
    obtain ⟨q, hq⟩ := Zh (m / 1000000000)
    obtain ⟨r, hr⟩ := Zh (m % 1000000000)
    have hql : q < Bg.lim := by rw [hq.out]; exact Nat.lt_of_le_of_lt (Nat.div_le_self _ _) hm
    have hr9 : r < 1000000000 := by rw [hr.out]; omega
    have hqg : q + 1 ≤ g := by rw [hq.out]; omega
    have HF := Zi (Tx.FmSt.start HD.out)
    rw [← hq.out, ← hr.out] at HF
    clear h0 hne HD hg
    go_wp2_with (first | (go_at_call 121; refine (short_f bm m 1000000000 q r hm Zd Zd hq hr _ (HM.get Zl)).mono ?_; rintro e9 w2 ⟨rfl, hB2, hG⟩; replace HM := HM.put At.here hB2 (Only.of_grown hG); clear hB2 hG) | (first | ((with_reducible refine g_ld ?_); refine a_ld HM ?_) | ((with_reducible refine g_st ?_); refine a_st HM ?_; clear HM; intro w1 HM) | ((with_reducible refine g_al ?_); refine a_al HM ?_; clear HM; intro bk w1 HM) | ((with_reducible refine g_bx ?_); refine a_bx HM ?_; clear HM; intro bk w1 HM) | ((with_reducible refine g_bld ?_); refine a_bld ?_)))
    clear hq hr hm
    go_loopw [5, 6, 7] (fun sv rv iv wr => ∃ (l bs : List Nat) (B : List (Nat × Array Value)) (rest i : Nat), rv = .int .u32 (rest : Nat) ∧ iv = .int .i64 (i : Nat) ∧ i ≤ 9 ∧ rest < 1000000000 ∧ Hid (Tx.FmSt N q rest i l) ∧ Hid (bs = l.map (48 + ·)) ∧ Hid (SlAt 1 sv (bs.map Tx.b) B) ∧ Mem w [] ((bm, Bg.row 32 q) :: B) wr) (fun _ _ i _ => 9 - (intOf i).toNat)
    case atStart => exact ⟨_, _, _, r, 0, rfl, rfl, by omega, hr9, HF, HB, HS, HM⟩
    case round =>
     clear HM HF HS HB hr9
     obtain ⟨l, bs, B, rest, i, rfl, rfl, hi, hrl, HF, HB, HS, HM⟩ := hrel
     have hmq : ∀ b : Bool, b = decide (q ≠ 0) → b = (if BinOp.neq = BinOp.eql then decide (q = 0) else !decide (q = 0)) := by intro b hb; rw [hb]; simp
     have HMQ := Zi hmq
     clear hmq
     have hl9 : bs.length ≤ 309 := by
      have h1 := congrArg List.length HF.out.eq
      rw [List.length_append] at h1
      have := Tx.lim_len hN
      rw [HB.out, List.length_map]
      omega
     have hcap : ((bs.map Tx.b).length + [Tx.b (48 + rest % 10)].length) * (1 + 1) ≤ 140737488355328 := by rw [len_b]; simp; omega
     have hi8 : i < 9 → ((i : Int) < 9) := by omega
     by_cases hgo : i < 9 ∧ (0 < rest ∨ q ≠ 0)
     ·obtain ⟨hi9, h0⟩ := hgo
      have HF2 := Zi (HF.out.step hi9 h0)
      have hi9' : decide ((i : Int) < 9) = true := by simpa using by omega
      have hi9'' : (i : Int) < 9 := by omega
      have hu8 : IntKind.u8.wrap (48 + (rest : Int) % 10) = ((48 + rest % 10 : Nat) : Int) := by
       rw [show (48 + (rest : Int) % 10) = ((48 + rest % 10 : Nat) : Int) by omega]
       unfold IntKind.wrap; simp [IntKind.bits, IntKind.signed]; omega
      rcases (show 0 < rest ∨ (rest = 0 ∧ q ≠ 0) by omega) with hr | ⟨hr, hq⟩
      ·have hr1 : decide ((0 : Int) < rest) = true := by simpa using hr
       have hr2 : (0 : Int) < rest := by omega
       go_wp2_with (first | first
        | ((with_reducible refine g_bs1 ?_); refine a_bs1 (c0 := Tx.b (48 + rest % 10)) HM ?_; clear HM; intro bx w1 HM)
        | ((with_reducible refine g_app ?_); refine a_app (m := [Tx.b (48 + rest % 10)]) (F := fun B => (bm, Bg.row 32 q) :: B) HM HS.out ((SlAt.made1 bx rfl).rd HM Zs) ?_ (Tx.b_one [_]) (hlen := hcap); clear HM; intro s2 B2 w1 HS2 HM) | (first | ((with_reducible refine g_ld ?_); refine a_ld HM ?_) | ((with_reducible refine g_st ?_); refine a_st HM ?_; clear HM; intro w1 HM) | ((with_reducible refine g_al ?_); refine a_al HM ?_; clear HM; intro bk w1 HM) | ((with_reducible refine g_bx ?_); refine a_bx HM ?_; clear HM; intro bk w1 HM) | ((with_reducible refine g_bld ?_); refine a_bld ?_)))
       go_roundw
       case rel =>
        have e : bs.map Tx.b ++ [Tx.b (48 + rest % 10)] = (bs ++ [48 + rest % 10]).map Tx.b := by rw [List.map_append]; rfl
        rw [e] at HS2
        exact ⟨_, _, _, rest / 10, i + 1, by go_num, by go_num, by omega, by omega, HF2, Zi (by rw [HB.out, List.map_append]; rfl), Zi HS2, HM⟩
       case measure => simp [intOf]; omega
      ·subst hr
       have HQ0 := Zi hq
       clear h0 hq
       go_wp2_with (first | first
        | ((with_reducible refine g_bin ?_); refine m_cmpm .neq q 0 true (.inr rfl) (HMQ.out _ (by simp [HQ0.out])) hql l0 ?_)
        | ((with_reducible refine g_bld ?_); refine a_bld (v := .agg (Bg.row 32 0)) ?_ (hy := h_m0 rfl))
        | ((with_reducible refine g_bs1 ?_); refine a_bs1 (c0 := Tx.b 48) HM ?_; clear HM; intro bx w1 HM)
        | ((with_reducible refine g_app ?_); refine a_app (m := [Tx.b (48 + 0 % 10)]) (F := fun B => (bm, Bg.row 32 q) :: B) HM HS.out ((SlAt.made1 bx rfl).rd HM Zs) ?_ (Tx.b_one [_]) (hlen := hcap); clear HM; intro s2 B2 w1 HS2 HM) | (first | ((with_reducible refine g_ld ?_); refine a_ld HM ?_) | ((with_reducible refine g_st ?_); refine a_st HM ?_; clear HM; intro w1 HM) | ((with_reducible refine g_al ?_); refine a_al HM ?_; clear HM; intro bk w1 HM) | ((with_reducible refine g_bx ?_); refine a_bx HM ?_; clear HM; intro bk w1 HM) | ((with_reducible refine g_bld ?_); refine a_bld ?_)))
       go_roundw
       case rel =>
        have e : bs.map Tx.b ++ [Tx.b (48 + 0 % 10)] = (bs ++ [48 + 0 % 10]).map Tx.b := by rw [List.map_append]; rfl
        rw [e] at HS2
        exact ⟨_, _, _, 0 / 10, i + 1, by go_num, by go_num, by omega, by omega, HF2, Zi (by rw [HB.out, List.map_append]; rfl), Zi HS2, HM⟩
       case measure => simp [intOf]; omega
     ·by_cases hi9 : i = 9
      ·subst hi9
       have HD2 := Zi (HF.out.done (.inl rfl))
       go_wp2_with fail
       go_roundg g
       case rel => exact ⟨q, l, bs, B, hqg, hql, HD2, HB, HS, HM⟩
       case measure => omega
      ·obtain ⟨rfl, rfl⟩ : rest = 0 ∧ q = 0 := by omega
       have HD2 := Zi (HF.out.done (.inr ⟨rfl, rfl⟩))
       have hi9' : (i : Int) < 9 := by omega
       clear hgo
       go_wp2_with (first | first
        | ((with_reducible refine g_bld ?_); refine a_bld (v := .agg (Bg.row 32 0)) ?_ (hy := h_m0 rfl))
        | ((with_reducible refine g_bin ?_); refine m_cmpm .neq 0 0 false (.inr rfl) rfl l0 l0 ?_) | (first | ((with_reducible refine g_ld ?_); refine a_ld HM ?_) | ((with_reducible refine g_st ?_); refine a_st HM ?_; clear HM; intro w1 HM) | ((with_reducible refine g_al ?_); refine a_al HM ?_; clear HM; intro bk w1 HM) | ((with_reducible refine g_bx ?_); refine a_bx HM ?_; clear HM; intro bk w1 HM) | ((with_reducible refine g_bld ?_); refine a_bld ?_)))
       go_roundg g
       case rel => exact ⟨0, l, bs, B, hqg, hql, HD2, HB, HS, HM⟩
       case measure => omega
end
end Go.Proofs.YtiekmabiecalbaaGreatDoor
