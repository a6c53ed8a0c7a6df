/- Walks. -/
import Derived.Test.YtiekmabiecalbaaGreatDoorPa23
import Derived.Test.YtiekmabiecalbaaGreatDoorPa39
namespace Go.Proofs.YtiekmabiecalbaaGreatDoor
set_option maxHeartbeats 16000000
open Go.RowKit
set_option maxRecDepth 8000
set_option linter.unusedSimpArgs false
set_option linter.unusedVariables false
section
open Jb
namespace Tl
def fa (F : List ByteArray) (i : Nat) : Array Value := ((F.take i).map Value.string ++ List.replicate (5 - i) (Value.string { data := #[] })).toArray
theorem fa_size {F : List ByteArray} (h : F.length = 5) {i : Nat} (hi : i ≤ 5) : (fa F i).size = 5 := by
 unfold fa
 rw [List.size_toArray, List.length_append, List.length_map, List.length_take, List.length_replicate]; omega
theorem fa_set {F : List ByteArray} (h : F.length = 5) {i : Nat} {x : ByteArray} (hx : F[i]? = some x) : (fa F i).setIfInBounds i (.string x) = fa F (i + 1) := by
 have hi : i < 5 := by rw [← h]; exact (List.getElem?_eq_some_iff.1 hx).1
 have e1 : 5 - i = (5 - (i + 1)) + 1 := by omega
 have hl : ((F.take i).map Value.string).length = i := by rw [List.length_map, List.length_take]; omega
 unfold fa
 rw [Za, List.set_append_right i _ (by rw [hl]; exact Nat.le_refl _), hl, Nat.sub_self, e1, List.replicate_succ, Zy, List.take_add_one, hx, List.map_append]
 simp
theorem fa_get {F : List ByteArray} (h : F.length = 5) {j : Nat} {x : ByteArray} (hx : F[j]? = some x) : (fa F 5)[j]? = some (.string x) := by
 unfold fa
 rw [List.take_of_length_le Zo, Nat.sub_self, List.replicate_zero, List.append_nil, List.getElem?_toArray, List.getElem?_map, hx]; rfl
end Tl
theorem JQ.bld5 (s i u : ByteArray) (k : Int) (v : Bool) (w : World) : (Instr.build 40 #[(0, .string s), (1, .string i), (2, .string u), (5, .int .i64 k), (6, .bool v)]).run Tryz.prog w = .ok (.agg (JQ.c ⟨s, i, u, 0, Rr.zero, k, v⟩)) w :=
 JQ.bld (parts := #[(0, .string s), (1, .string i), (2, .string u), (5, .int .i64 k), (6, .bool v)]) (r := ⟨s, i, u, 0, Rr.zero, k, v⟩) (by simp [Value.cells]) (by rw [JQ.rows]; rfl) w
theorem Tl.ln_ge (y : ByteArray) (r : List ByteArray) : y.size ≤ (Tl.ln (y :: r)).size := by
 cases r with
 | nil => exact Nat.le_refl _
 | cons z r => rw [Tl.ln, ByteArray.size_append]; omega
theorem qparse_x (f0 f1 f2 f4 : ByteArray) (s : ByteArray) (hs : Hid (s = Tl.ln [f0, f1, f2, Dt.t11, f4])) (hc : Hid (∀ x ∈ [f0, f1, f2, Dt.t11, f4], (44 : UInt8) ∉ x.data.toList ∧ 1 ≤ x.size)) (hl : s.size ≤ 100) (k : Int) (hk : known k = true) (v : Bool) (hv : (f4.toList == [45]) = v) (r : Rr) (hr : v = true → r = Rr.zero) (hp : v = false → ∀ w, Calls Tryz.prog 30 #[.string f4, .int .i64 6] w fun e w' => e = .returned (.tuple #[.agg r.c, .int .i64 0]) ∧ Below w.heap.size w w')
    (hq : (JQ.mk f0 f1 f2 9497 r k v).line = true) (hw : (JQ.mk f0 f1 f2 9497 r k v).wf) (w : World) :
    Calls Tryz.prog 13 #[.string s, .int .i64 k] w fun e w' => e = .returned (.tuple #[.agg (JQ.c ⟨f0, f1, f2, 9497, r, k, v⟩), .int .i64 0]) ∧ Below w.heap.size w w' := by
 have HM := Mem.start w
 obtain ⟨F, hF⟩ : ∃ F, F = [f0, f1, f2, Dt.t11, f4] := ⟨_, rfl⟩
 rw [← hF] at hs hc
 have hF5 : Hid (F.length = 5) := Zi (by rw [hF]; rfl)
 have HF := Zi hF
 have zq := JQ.za
 have za5 : ZA 69 (Tl.fa F 0) := ⟨.agg (Tl.fa F 0), rfl, fun w => by rw [show Tl.fa F 0 = (List.replicate 5 (Value.string { data := #[] })).toArray by unfold Tl.fa; rfl]; kernel_rfl⟩
 clear hF
 go_enter Tryz.func13, Tryz.ntmps13
 go_upto_region 2 with (first | ((with_reducible refine g_ld ?_); refine a_ld HM ?_) | ((with_reducible refine g_st ?_); refine a_st HM ?_; clear HM; intro w1 HM) | ((with_reducible refine g_al ?_); refine a_al HM ?_; clear HM; intro bk w1 HM) | ((with_reducible refine g_bld ?_); refine a_bld ?_))
 obtain ⟨b6, rfl⟩ := HM.nm0
 obtain ⟨b4, rfl⟩ := HM.nm1
 go_wp2_with (first | ((with_reducible refine g_ld ?_); refine a_ld HM ?_) | ((with_reducible refine g_st ?_); refine a_st HM ?_; clear HM; intro w1 HM) | ((with_reducible refine g_al ?_); refine a_al HM ?_; clear HM; intro bk w1 HM) | ((with_reducible refine g_bld ?_); refine a_bld ?_))
 rw [Lib.run_convert_string_bytes (P := Tryz.prog) _ 9 70 5 s Tryz.underlying9 Tryz.underlying70 Tryz.underlying5]
 obtain ⟨b7, hb7⟩ : ∃ b, b = w1.heap.size := ⟨_, rfl⟩
 obtain ⟨W2, hW2⟩ : ∃ W2, W2 = Lib.bytesWorld w1 5 s := ⟨_, rfl⟩
 have HBY : Hid (∃ cs mk, W2.heap[b7]? = some (.cells cs 5 mk) ∧ ∀ j (hj : j < s.size), cs[j]? = some (.int .u8 ((s[j].toNat : Nat) : Int))) := Zi ⟨_, _, by rw [hW2, hb7]; exact Lib.bytesWorld_at_new _ _ _, bytes_at _ _ _⟩
 have hcap : s.size ≤ grownCap w1 s.size 0 5 := grownCap_ge _ _ _ _
 generalize grownCap w1 s.size 0 5 = C at *
 have hB : Below w1.heap.size w1 W2 := by rw [hW2]; exact Go.Joins.below_bytesWorld _ _ _ _ (Nat.le_refl _)
 have HM2 := HM.call hB
 have hne6 : b6 < b7 := by rw [hb7]; exact (HM.get (b := b6) (c := Tl.fa F 0) Zl).lt
 have hne4 : b4 < b7 := by rw [hb7]; exact (HM.get (b := b4) (c := JQ.zero.c) Zl).lt
 have hbs : b7 < W2.heap.size := by rw [hW2, Lib.bytesWorld_size, hb7]; omega
 rw [← hb7, ← hW2]
 change Oper.upon _ _ _ _ _ ((Result.ok (Value.slice (some ⟨b7, 0, none⟩) s.size C) W2).andThen _)
 have HMB := Zi HM2
 clear hW2 hb7 hB HM HM2
 have HM := jMem.rebase HMB.out
 simp only [List.map_cons, List.map_nil] at HM
 go_wp2_with (first | ((with_reducible refine g_ld ?_); refine a_ld HM ?_) | ((with_reducible refine g_st ?_); refine a_st HM ?_; clear HM; intro w1 HM) | ((with_reducible refine g_al ?_); refine a_al HM ?_; clear HM; intro bk w1 HM) | ((with_reducible refine g_bld ?_); refine a_bld ?_))
 go_loopw [7, 16] (fun rv iv wr => ∃ (i o l cp : Nat), iv = .int .i64 (i : Nat) ∧ rv = .slice (some ⟨b7, o, none⟩) l cp ∧ i ≤ 5 ∧ (i ≤ 4 → o + l = s.size ∧ l ≤ cp) ∧ Hid (i ≤ 4 → ∃ p : ByteArray, p.size = o ∧ s = p ++ Tl.ln (F.drop i)) ∧ Mem W2 [b6, b4] [(b6, Tl.fa F i), (b4, JQ.zero.c)] wr) (fun _ iv _ => 5 - (intOf iv).toNat)
 case atStart => exact ⟨0, 0, s.size, C, rfl, rfl, by omega, fun _ => ⟨by omega, hcap⟩, Zi (fun _ => ⟨{ data := #[] }, rfl, by rw [hs.out]; exact (ByteArray.empty_append).symm⟩), HM⟩
 case round =>
  clear HM
  obtain ⟨i, o, l, cp, rfl, rfl, hi, holc, HP, HM⟩ := hrel
  have H7 : Hid (∃ cs mk, wr.heap[b7]? = some (.cells cs 5 mk) ∧ ∀ j (hj : j < s.size), cs[j]? = some (.int .u8 ((s[j].toNat : Nat) : Int))) := Zi (by
   obtain ⟨cs, mk, h1, h2⟩ := HBY.out
   refine ⟨cs, mk, ?_, h2⟩
   rw [← h1]
   exact jMem.besideK (L := [(b6, Tl.fa F 0), (b4, JQ.zero.c)]) HM hbs (by simp; omega))
  by_cases hlt : i < 5
  ·obtain ⟨hol, hlc⟩ := holc Zo
   obtain ⟨p, hpo, hsp⟩ := HP.out Zo
   clear holc
   obtain ⟨x, hx⟩ : ∃ x, F[i]? = some x := ⟨_, List.getElem?_eq_getElem (by rw [hF5.out]; exact hlt)⟩
   have hxc := (hc.out x (List.mem_of_getElem? hx)).1
   have hdr : F.drop i = x :: F.drop (i + 1) := by
    have hi9 := (List.getElem?_eq_some_iff.1 hx)
    rw [List.drop_eq_getElem_cons hi9.1, hi9.2]
   have CV1 : (convert 70 9 (.slice (some ⟨b7, o, none⟩) l cp)).run Tryz.prog wr = .ok (.string (Tl.ln (F.drop i))) wr := by
    obtain ⟨cs, mk, h1, h2⟩ := H7.out
    rw [cv_str h1 h2 o l cp Zo, hol, ← Tl.ln_at hsp, hpo]
   have hTl : (Tl.ln (F.drop i)).size = l := by
    have := congrArg ByteArray.size hsp
    rw [ByteArray.size_append] at this
    omega
   have sA : SA 9 (Tl.fa F i) i (.string x) (Tl.fa F (i + 1)) := by
    have h := SA.one (T := 9) (c := Tl.fa F i) (k := i) (v := .string x) Zk rfl (by rw [Tl.fa_size hF5.out Zo]; exact hlt)
    rwa [Tl.fa_set hF5.out hx] at h
   by_cases h4 : i < 4
   ·obtain ⟨y, rr, hyr⟩ : ∃ y r, F.drop (i + 1) = y :: r := by
      cases h : F.drop (i + 1) with
      | nil => have := congrArg List.length h; rw [List.length_drop, hF5.out] at this; simp at this; omega
      | cons y r => exact ⟨y, r, rfl⟩
    rw [hyr] at hdr
    have hix : Lib.indexByte (Tl.ln (F.drop i)).data.toList 44 = (x.size : Nat) := by rw [hdr]; exact Tl.ln_idx hxc
    have hsp2 : s = (p ++ x ++ Tl.cm) ++ Tl.ln (F.drop (i + 1)) := by
     rw [hsp, hdr, hyr, Tl.ln, ByteArray.append_assoc, ByteArray.append_assoc]
    have hsm : s = p ++ (x ++ (Tl.cm ++ Tl.ln (F.drop (i + 1)))) := by rw [hsp2, ByteArray.append_assoc, ByteArray.append_assoc]
    have CV2 : (convert 70 9 (.slice (some ⟨b7, o, none⟩) x.size x.size)).run Tryz.prog wr = .ok (.string x) wr := by
     obtain ⟨cs, mk, h1, h2⟩ := H7.out
     have hle : o + x.size ≤ s.size := by rw [hsm, ByteArray.size_append, ByteArray.size_append, hpo]; omega
     rw [cv_str h1 h2 o x.size x.size hle, ← hpo, Tl.ba_mid p x _ s hsm]
    have hl2 : x.size + 2 ≤ l := by
     have hy1 : 1 ≤ y.size := (hc.out y (List.mem_of_mem_drop (i := i + 1) (by rw [hyr]; exact List.mem_cons_self))).2
     have hy2 : y.size ≤ (Tl.ln (F.drop (i + 1))).size := by rw [hyr]; exact Tl.ln_ge y rr
     have h9 := congrArg ByteArray.size hsm
     rw [ByteArray.size_append, ByteArray.size_append, ByteArray.size_append] at h9
     have h8 : Tl.cm.size = 1 := rfl
     omega
    have HP2 : Hid (i + 1 ≤ 4 → ∃ p : ByteArray, p.size = o + (x.size + 1) ∧ s = p ++ Tl.ln (F.drop (i + 1))) := Zi (fun _ => ⟨p ++ x ++ Tl.cm, by rw [ByteArray.size_append, ByteArray.size_append, hpo]; show _ + 1 = _; omega, hsp2⟩)
    have IB := fun w => Tryz.strings_IndexByte (Tl.ln (F.drop i)) 44 w
    rw [show (44 : Int).toNat.toUInt8 = 44 by decide, hix] at IB
    have hi4 : ((i : Int) == 4) = false := Zb Zo
    have hi5 : (i : Int) < 5 := by omega
    have hxn : ¬ ((x.size : Nat) : Int) < 0 := by omega
    obtain ⟨n, hn⟩ := Zh (x.size)
    rw [← hn.out] at CV2 IB hl2 HP2 hxn
    have hmin : min ((n : Int) + 1) (l : Int) = ((n + 1 : Nat) : Int) := by omega
    have hnl : n ≤ l := by omega
    have hnc : n ≤ cp := by omega
    have hcpn : ¬ cp = n + 1 := by omega
    generalize Tl.ln (F.drop i) = TT at *
    clear hsp hsp2 hsm hix hdr hyr hxc hx hpo HP
    go_wp2_with (first | (go_at_call 28; refine (IB _).mono ?_; rintro e9 w9 ⟨rfl, rfl⟩) | (first | ((with_reducible refine g_ld ?_); refine a_ld HM ?_) | ((with_reducible refine g_st ?_); refine a_st HM ?_; clear HM; intro w1 HM) | ((with_reducible refine g_al ?_); refine a_al HM ?_; clear HM; intro bk w1 HM) | ((with_reducible refine g_bld ?_); refine a_bld ?_)))
    go_roundw
    case rel => exact ⟨i + 1, o + (n + 1), l - (n + 1), cp - (n + 1), by go_num, rfl, by omega, fun _ => ⟨by omega, by omega⟩, HP2, HM⟩
    case measure => simp [intOf]; omega
   ·obtain rfl : i = 4 := by omega
    have hnil : F.drop (4 + 1) = [] := List.drop_eq_nil_of_le (by rw [hF5.out]; exact Nat.le_refl _)
    rw [hnil] at hdr
    have hix : Lib.indexByte (Tl.ln (F.drop 4)).data.toList 44 = -1 := by rw [hdr]; exact Tl.ln_one hxc
    have hTx : Tl.ln (F.drop 4) = x := by rw [hdr]; rfl
    have hxl : x.size = l := by rw [← hTx]; exact hTl
    have CV2 : (convert 70 9 (.slice (some ⟨b7, o, none⟩) l l)).run Tryz.prog wr = .ok (.string x) wr := by
     obtain ⟨cs, mk, h1, h2⟩ := H7.out
     rw [cv_str h1 h2 o l l Zo, hol, ← hpo, Tl.ln_at hsp, hTx]
    have IB := fun w => Tryz.strings_IndexByte (Tl.ln (F.drop 4)) 44 w
    rw [show (44 : Int).toNat.toUInt8 = 44 by decide, hix] at IB
    have hmin : min ((l : Int) + 1) (l : Int) = (l : Int) := by omega
    have HP2 : Hid (5 ≤ 4 → ∃ p : ByteArray, p.size = (if cp = l then o else s.size) ∧ s = p ++ Tl.ln (F.drop 5)) := Zi (fun h => absurd h Zd)
    generalize Tl.ln (F.drop 4) = TT at *
    rw [show ((4 : Nat) : Int) = 4 from rfl]
    clear hsp hix hdr hxc hx hpo HP hTx hxl hTl hnil
    go_wp2_with (first | (go_at_call 28; refine (IB _).mono ?_; rintro e9 w9 ⟨rfl, rfl⟩) | (first | ((with_reducible refine g_ld ?_); refine a_ld HM ?_) | ((with_reducible refine g_st ?_); refine a_st HM ?_; clear HM; intro w1 HM) | ((with_reducible refine g_al ?_); refine a_al HM ?_; clear HM; intro bk w1 HM) | ((with_reducible refine g_bld ?_); refine a_bld ?_)))
    go_roundw
    case rel => exact ⟨5, if cp = l then o else s.size, _, _, rfl, by congr 1; split <;> rfl, by omega, fun h => absurd h Zd, HP2, HM⟩
    case measure => simp [intOf]
  ·obtain rfl : i = 5 := by omega
   rw [show ((5 : Nat) : Int) = 5 from rfl]
   clear HP H7 holc
   have HFE := HF.out
   have a0 : LA 9 (Tl.fa F 5) 0 (.string f0) := LA.one Zk (Tl.fa_get hF5.out (by rw [HFE]; rfl))
   have a1 : LA 9 (Tl.fa F 5) 1 (.string f1) := LA.one Zk (Tl.fa_get hF5.out (by rw [HFE]; rfl))
   have a2 : LA 9 (Tl.fa F 5) 2 (.string f2) := LA.one Zk (Tl.fa_get hF5.out (by rw [HFE]; rfl))
   have a3 : LA 9 (Tl.fa F 5) 3 (.string Dt.t11) := LA.one Zk (Tl.fa_get hF5.out (by rw [HFE]; rfl))
   have a4 : LA 9 (Tl.fa F 5) 4 (.string f4) := LA.one Zk (Tl.fa_get hF5.out (by rw [HFE]; rfl))
   have DP := fun w => below_eq (dparse_x w)
   have HB := fun w => JQ.bld5 f0 f1 f2 k v w
   have sb := (JQ.mk f0 f1 f2 0 Rr.zero k v).sa JQ.zero.size
   have sd := JQ.s_day (JQ.mk f0 f1 f2 0 Rr.zero k v) 9497
   have lv := (JQ.f_vd (JQ.mk f0 f1 f2 9497 Rr.zero k v)).la
   have sp := JQ.s_prc (JQ.mk f0 f1 f2 9497 Rr.zero k v) r
   have lq := (JQ.mk f0 f1 f2 9497 r k v).la
   have sq := (JQ.mk f0 f1 f2 9497 r k v).sa JQ.zero.size
   have QL := fun w => qline_any (JQ.mk f0 f1 f2 9497 r k v) hw w
   rw [hq] at QL
   have QK := fun w => below_eq (qkn_any k true (Zi hk.symm) w)
   clear hq hw HFE
   have HMX := HMB
   have HM0 := HM
   have HM : Mem w [] [(b6, Tl.fa F 5), (b4, JQ.zero.c)] wr := jMem.onto HMB.out HM0
   clear HM0 HMX
   generalize Dt.t11 = t11 at *
   generalize Tl.fa F 5 = A9 at *
   cases v with
   | true =>
    have hrz := hr rfl
    subst hrz
    go_wp2_with (first | ((with_reducible refine g_bld ?_); refine a_rbl (v := .agg (JQ.c ⟨f0, f1, f2, 0, Rr.zero, k, true⟩)) ?_ (hy := h_bg5 rfl Zw Zw Zw Zw Zw (by with_reducible exact (HB)))) | (go_at_call 29; (with_reducible refine Zc HM (DP _) ?_; clear HM; intro w2 HM)) | (go_at_call 31; (with_reducible refine Zc HM (QL _) ?_; clear HM; intro w2 HM)) | (go_at_call 32; (with_reducible refine Zc HM (QK _) ?_; clear HM; intro w2 HM)) | (first | ((with_reducible refine g_ld ?_); refine a_ld HM ?_) | ((with_reducible refine g_st ?_); refine a_st HM ?_; clear HM; intro w1 HM) | ((with_reducible refine g_al ?_); refine a_al HM ?_; clear HM; intro bk w1 HM) | ((with_reducible refine g_bld ?_); refine a_bld ?_)))
    (try simp only [Exit.inBlock, Exit.then])
    exact bodyPost_ret (r_ct rfl rfl (HM.get Zl) lq) rfl ⟨rfl, HM.low⟩
   | false =>
    have DC := hp rfl
    go_wp2_with (first | ((with_reducible refine g_bld ?_); refine a_rbl (v := .agg (JQ.c ⟨f0, f1, f2, 0, Rr.zero, k, false⟩)) ?_ (hy := h_bg5 rfl Zw Zw Zw Zw Zw (by with_reducible exact (HB)))) | (go_at_call 29; (with_reducible refine Zc HM (DP _) ?_; clear HM; intro w2 HM)) | (go_at_call 30; (with_reducible refine Zc HM (DC _) ?_; clear HM; intro w2 HM)) | (go_at_call 31; (with_reducible refine Zc HM (QL _) ?_; clear HM; intro w2 HM)) | (go_at_call 32; (with_reducible refine Zc HM (QK _) ?_; clear HM; intro w2 HM)) | (first | ((with_reducible refine g_ld ?_); refine a_ld HM ?_) | ((with_reducible refine g_st ?_); refine a_st HM ?_; clear HM; intro w1 HM) | ((with_reducible refine g_al ?_); refine a_al HM ?_; clear HM; intro bk w1 HM) | ((with_reducible refine g_bld ?_); refine a_bld ?_)))
    (try simp only [Exit.inBlock, Exit.then])
    exact bodyPost_ret (r_ct rfl rfl (HM.get Zl) lq) rfl ⟨rfl, HM.low⟩
end
end Go.Proofs.YtiekmabiecalbaaGreatDoor
