/- Walks. -/
import Derived.ProofKit
import Derived.OpenShut
import Derived.ChangeSame
import Derived.Test.YtiekmabiecalbaaGreatDoorRows
import Derived.Test.YtiekmabiecalbaaGreatDoorPa01
namespace Go.Proofs.YtiekmabiecalbaaGreatDoor
set_option maxHeartbeats 16000000
set_option maxRecDepth 8000
section
open Go.RowKit Go.ChangeShapes Go.WideShapes Go.ChangeAt
theorem own_knob : ownKnob Tryz.prog.godebug = none := by kernel_rfl
theorem laid_out : laidOutB Tryz.prog = true := by kernel_rfl
section
variable {H : Type} {enc : TypeId × Value → H}
theorem keep_all {W W' : World} {sp : Nat → Bool} (hb : Below W.heap.size W W') : ∀ (ts : List TypeId) (vs : List Value) (ds : List (DataW H)) (ps : List MemPlace),
    (∀ t ∈ ts, Tryz.prog.readableRec t = true ∧ t < Tryz.prog.types.size) → DataW.TrodAll enc Tryz.prog W 0 (fun _ => true) true ts vs ds ps → (∀ x ∈ ps, x.block < W.heap.size) → (∀ x ∈ ps, sp x.block = true) →
    DataW.TrodAll enc Tryz.prog W' 0 sp true ts vs ds ps
 | [], [], [], _, _, h, _, _ => h
 | t :: ts, v :: vs, d :: ds, ps, hr, h, hlt, hs => by
  obtain ⟨p, q, h1, h2, rfl⟩ := h
  have ht := hr t Zs
  refine ⟨p, q, WideElems.Trod_stays laid_out ht.1 ht.2 h1 (fun x hx => hb.same (hlt x (by simp [hx]))) (fun x hx => hs x (by simp [hx])), ?_, rfl⟩
  exact keep_all hb ts vs ds q (fun t' h' => hr t' (by simp [h'])) h2 (fun x hx => hlt x (by simp [hx])) (fun x hx => hs x (by simp [hx]))
 | [], _ :: _, _, _, _, h, _, _ => by cases h
 | [], [], _ :: _, _, _, h, _, _ => by cases h
 | _ :: _, [], _, _, _, h, _, _ => by cases h
 | _ :: _, _ :: _, [], _, _, h, _, _ => by cases h
theorem law_post {f : Func} {s : ChangeSpec} {W W' : World} {args : Array Value} {ds gs : List (DataW H)} {before : List MemPlace}
    (hW : DataW.Whole enc Tryz.prog f.params.toList s.vars false W args.toList ds gs before) (hsv : s.vars = [])
    (hres : (s.fn H ds).results = [.lit (.bool true)]) (hargs : (s.fn H ds).args = ds) (hvars : (s.fn H ds).vars = [])
    (hrt : f.resultTypes = #[4]) (hts : ∀ t ∈ f.params.toList, Tryz.prog.readableRec t = true ∧ t < Tryz.prog.types.size)
    (hb : Below W.heap.size W W') : s.post enc Tryz.prog f false true false false W args (.bool true) W' := by
 have hlt : ∀ p ∈ before, p.block < W.heap.size := fun p hp => hW.lt p hp
 have hold : ∀ p ∈ before, (fun b => decide (b < W.heap.size)) p.block = true := fun p hp => by simpa using hlt p hp
 obtain ⟨p, q, hA, hV, hp, hz, hn⟩ := hW
 have hgs : gs = [] ∧ q = [] := by
  rw [hsv] at hV
  cases gs with
  | nil => exact ⟨rfl, hV⟩
  | cons g gs => cases hV
 obtain ⟨rfl, rfl⟩ := hgs
 rw [List.append_nil] at hp
 subst hp
 have hr1 : f.resultTypes.size = 1 := by rw [hrt]; rfl
 have hres1 : ∀ (b : Nat) (sp : Nat → Bool) (hd : Bool), DataW.TrodAll enc Tryz.prog W' b sp hd f.resultTypes.toList ((Value.bool true).resultList f.resultTypes.size) (s.fn H (ds ++ [])).results [] := by
  intro b sp hd
  rw [List.append_nil, hres, hrt]
  exact trodAll_mk1 (shut_bool Tryz.underlying4 true)
 have hargs1 : ∀ sp : Nat → Bool, (∀ x ∈ before, sp x.block = true) → DataW.TrodAll enc Tryz.prog W' 0 sp true f.params.toList args.toList (s.fn H (ds ++ [])).args before := by
  intro sp hs
  rw [List.append_nil, hargs]
  exact keep_all hb _ _ _ _ hts hA hlt hs
 have hvars1 : ∀ sp : Nat → Bool, DataW.TrodVars enc Tryz.prog W' sp s.vars (s.fn H (ds ++ [])).vars [] := by
  intro sp
  rw [List.append_nil, hvars, hsv]
  rfl
 have hW2 : DataW.Whole enc Tryz.prog f.params.toList s.vars false W args.toList ds [] before := ⟨before, [], hA, by rw [hsv]; rfl, (List.append_nil _).symm, hz, hn⟩
 refine ⟨ds, [], before, [], before, [], hW2, hres1 _ _ _, hargs1 _ hold, hvars1 _, World.keptBut_mono (fun x hx => ⟨hx, Or.inr (by simpa using hx)⟩) (hb.frame (· ∈ before)), fun h => by cases h⟩
end
end
end Go.Proofs.YtiekmabiecalbaaGreatDoor
