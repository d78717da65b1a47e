/- From a walk to a row: a law that answers true and turns nothing that was there. -/
import Derived.Test.YtophclimlepjoaaRows
import Derived.WalkKit
import Derived.ProofKit
import Derived.OpenShut
import Derived.Deep.DeepHandedRow
import Derived.Deep.DeepWitnessRowRef
import Derived.Deep.Slices
import Derived.Deep.Strs
namespace Go.Proofs.Ytophclimlepjoaa
open Go.ChangeShapes Go.WideShapes Go.ChangeAt Go.RowKit Go.Deep

theorem own : ownKnob Try.prog.godebug = none := by kernel_rfl
theorem kids : Kids Try.prog (· < Try.prog.types.size) := kids_rows (by kernel_rfl) (by kernel_rfl)
theorem slicesFull : ∀ t e, t < Try.prog.types.size → Try.prog.underlying t = some (.slice e) → 0 < Try.prog.cellsOf e := slices_full_of Try.prog (by kernel_rfl)

section
variable {H : Type} {enc : TypeId × Value → H}

theorem trodAll_carry {W W' : World} (hb : Below W.heap.size W W') : ∀ {ts : List TypeId} {vs : List Value} {ds : List (DataW H)} {ps : List MemPlace}, (∀ p ∈ ps, p.block < W.heap.size) →
    DataW.TrodAll enc Try.prog W 0 (fun _ => true) true ts vs ds ps → DataW.TrodAll enc Try.prog W' 0 (fun _ => true) true ts vs ds ps
  | [], [], [], _, _, h => h
  | _ :: _, _ :: _, _ :: _, _, hl, ⟨p, q, ⟨n, h1⟩, h2, e⟩ =>
    ⟨p, q, ⟨n, DataW.trod_carry _ _ _ _ h1 (fun x hx => hb.same (hl x (by rw [e]; exact List.mem_append_left _ hx)))⟩, trodAll_carry hb (fun x hx => hl x (by rw [e]; exact List.mem_append_right _ hx)) h2, e⟩

set_option maxRecDepth 100000 in
/-- THE POST OF A LAW that answers true and has turned nothing that was there. -/
theorem post_true {f : Func} {s : ChangeSpec} {fresh handsOn again : Bool} {W W' : World} {args : Array Value} {ds gs : List (DataW H)} {before : List MemPlace}
    (hrt : f.resultTypes = #[4]) (hpt : ∀ t ∈ f.params.toList, t < Try.prog.types.size) (hv0 : s.vars = []) (hW : DataW.Whole enc Try.prog f.params.toList s.vars false W args.toList ds gs before)
    (hs : s.fn H (ds ++ gs) = { results := [.lit (.bool true)], args := ds }) (hb : Below W.heap.size W W') : s.post enc Try.prog f false fresh handsOn again W args (.bool true) W' := by
  have hW' := hW
  obtain ⟨p, q, hA0, hV, e, hz, hn⟩ := hW'
  rw [hv0] at hV
  obtain ⟨_, hq⟩ := trodVars_none hV
  subst hq
  rw [List.append_nil] at e
  subst e
  have hlt := hW.lt
  have hA : DataW.TrodAll enc Try.prog W 0 (fun _ => true) true f.params.toList args.toList ds before := hA0
  have hC := trodAll_carry hb hlt hA
  have hargs : ∀ sp : Nat → Bool, (∀ p ∈ before, sp p.block = true) → DataW.TrodAll enc Try.prog W' 0 sp true f.params.toList args.toList ds before := fun sp hsp =>
    DataW.TrodAll.respare kids slicesFull hpt hC hsp
  have hres : ∀ (b : Nat) (sp : Nat → Bool) (hd : Bool), DataW.TrodAll enc Try.prog W' b sp hd f.resultTypes.toList ((Value.bool true).resultList f.resultTypes.size) [.lit (.bool true)] [] := fun b sp hd => by
    rw [hrt]
    exact trodAll_cons_mk (shut_bool Try.underlying4 _) trodAll_mk0
  have hold : ∀ p ∈ before, (fun b => decide (b < W.heap.size)) p.block = true := fun p hp => by simpa using hlt p hp
  have hvars : ∀ sp : Nat → Bool, DataW.TrodVars enc Try.prog W' sp s.vars [] [] := fun sp => by rw [hv0]; rfl
  refine ⟨ds, gs, before, [], before, [], hW, by rw [hs]; exact hres _ _ _, by rw [hs]; exact hargs _ hold, by rw [hs]; exact hvars _, hb.frame _, fun _ => ?_⟩
  refine ⟨?_, _, _, ([] ++ before) ++ [], ⟨[] ++ before, [], trodAll_append (hargs _ (fun _ _ => rfl)) (hres _ _ _), hvars _, rfl, ?_, ?_⟩, ?_⟩
  · exact ok_one hrt rfl (okWide_bool_mk Try.underlying4 _)
  · intro b off hp
    have hp' : MemPlace.cell b off ∈ before := by simpa using hp
    have := hlt _ hp'
    rw [show W'.frozen? ⟨b, off, none⟩ = W.frozen? ⟨b, off, none⟩ from hb.frozen (p := ⟨b, off, none⟩) this]
    exact hz b off hp'
  · intro ha
    have := hn ha
    simpa using this
  · intro p hp _
    simpa using hp
end
end Go.Proofs.Ytophclimlepjoaa
