/- What a row gives a walk (the two error values, the splices), and the way back from a walk to a row. -/
import Derived.Test.YtflkmdmceeefiaaDoorFew
import Derived.Test.YtflkmdmceeefiaaDoorEnv
import Derived.Test.YtflkmdmceeefiaaDoorCards
import Derived.Test.YtflkmdmceeefiaaDoorTie
import Derived.WalkKit
import Derived.ProofKit
import Derived.OpenShut
import Derived.Deep.DeepHandedRow
import Derived.Deep.DeepWitnessRowRef
import Derived.Deep.Slices
import Derived.Deep.Strs
import Derived.Stop.LaidTwo
namespace Go.Proofs.YtflkmdmceeefiaaDoor
open Go.ChangeShapes Go.WideShapes Go.ChangeAt Go.RowKit Go.Deep

theorem own : ownKnob Tryd.prog.godebug = none := by kernel_rfl
theorem kids : Kids Tryd.prog (· < Tryd.prog.types.size) := kids_rows (by kernel_rfl) (by kernel_rfl)
theorem slicesFull : ∀ t e, t < Tryd.prog.types.size → Tryd.prog.underlying t = some (.slice e) → 0 < Tryd.prog.cellsOf e := slices_full_of Tryd.prog (by kernel_rfl)
theorem gFull : Tryd.prog.globalNamed "diaeresis/buffer.errFull" = some 0 := by kernel_rfl
theorem gRange : Tryd.prog.globalNamed "diaeresis/buffer.errRange" = some 1 := by kernel_rfl
theorem gFullType : (Tryd.prog.globals[0]?).map (·.type) = some 46 := by kernel_rfl
theorem gRangeType : (Tryd.prog.globals[1]?).map (·.type) = some 46 := by kernel_rfl
theorem under91 : Tryd.prog.underlying 91 = some (.pointer 114) := Tryd.underlying91
theorem under46 : Tryd.prog.underlying 46 = some (.interface #[("Error", 35)]) := Tryd.underlying46
theorem cells114 : Tryd.prog.cellsOf 114 = 1 := by kernel_rfl
theorem cells9 : Tryd.prog.cellsOf 9 = 1 := by kernel_rfl
theorem cells3 : Tryd.prog.cellsOf 3 = 1 := by kernel_rfl
theorem cells31 : Tryd.prog.cellsOf 31 = 3 := by kernel_rfl
theorem star : "*" ++ "errors.errorString" = "*errors.errorString" := by decide
theorem row91 (u : TypeId) (h : Tryd.prog.typeName? 3 u = some "*errors.errorString") : u = 91 :=
  typeName_ptr_named (nm := "errors.errorString") (by rw [star]; kernel_rfl) (by kernel_rfl) (by decide) u (by rw [star]; exact h)

def laid2 : List (String × DataW Unit) := [("diaeresis/buffer.errRange", Rows.laid_diaeresis_buffer_errRange), ("diaeresis/buffer.errFull", Rows.laid_diaeresis_buffer_errFull)]

/-- what the rows' list gives -/
theorem env_of_laid {W : World} (h : laidMetH Tryd.prog laid2 W) : ∃ a0 a1, Env W a0 a1 := by
  have h : laidMet Tryd.prog laid2 W := h
  obtain ⟨aR, aF, sR, sF, cR, cF, tR, tF, hvR, hvF, hcR, _, _, hcF, _, _, hne, hbR, hbF⟩ := laid_sentinels2 h gRange gRangeType gFull gFullType under46 row91 under91 Tryd.underlying114 rfl rfl Tryd.underlying9 cells114 cells9
  exact ⟨aF, aR, ⟨by simpa using World.var?_cell gFull hvF 0, by simpa using World.var?_cell gRange hvR 0, fun e => hne e.symm, ⟨_, _, hbF⟩, ⟨_, _, hbR⟩⟩, World.block_lt_of_cell? W _ hcF, World.block_lt_of_cell? W _ hcR⟩

section
variable {H : Type} {enc : TypeId × Value → H}

theorem trodAll_carry {W W' : World} (hb : Below W.heap.size W W') : ∀ {ts : List TypeId} {vs : List Value} {ds : List (DataW H)} {ps : List MemPlace}, (∀ p ∈ ps, p.block < W.heap.size) →
    DataW.TrodAll enc Tryd.prog W 0 (fun _ => true) true ts vs ds ps → DataW.TrodAll enc Tryd.prog W' 0 (fun _ => true) true ts vs ds ps
  | [], [], [], _, _, h => h
  | _ :: _, _ :: _, _ :: _, _, hl, ⟨p, q, ⟨n, h1⟩, h2, e⟩ =>
    ⟨p, q, ⟨n, DataW.trod_carry _ _ _ _ h1 (fun x hx => hb.same (hl x (by rw [e]; exact List.mem_append_left _ hx)))⟩, trodAll_carry hb (fun x hx => hl x (by rw [e]; exact List.mem_append_right _ hx)) h2, e⟩

set_option maxRecDepth 100000 in
/-- THE POST OF A LAW that answers true and has turned nothing that was there. -/
theorem post_true {f : Func} {s : ChangeSpec} {fresh handsOn again : Bool} {W W' : World} {args : Array Value} {ds gs : List (DataW H)} {before : List MemPlace}
    (hrt : f.resultTypes = #[4]) (hpt : ∀ t ∈ f.params.toList, t < Tryd.prog.types.size) (hv0 : s.vars = []) (hW : DataW.Whole enc Tryd.prog f.params.toList s.vars false W args.toList ds gs before)
    (hs : s.fn H (ds ++ gs) = { results := [.lit (.bool true)], args := ds }) (hb : Below W.heap.size W W') : s.post enc Tryd.prog f false fresh handsOn again W args (.bool true) W' := by
  have hW' := hW
  obtain ⟨p, q, hA0, hV, e, hz, hn⟩ := hW'
  rw [hv0] at hV
  obtain ⟨_, hq⟩ := trodVars_none hV
  subst hq
  rw [List.append_nil] at e
  subst e
  have hlt := hW.lt
  have hA : DataW.TrodAll enc Tryd.prog W 0 (fun _ => true) true f.params.toList args.toList ds before := hA0
  have hC := trodAll_carry hb hlt hA
  have hargs : ∀ sp : Nat → Bool, (∀ p ∈ before, sp p.block = true) → DataW.TrodAll enc Tryd.prog W' 0 sp true f.params.toList args.toList ds before := fun sp hsp =>
    DataW.TrodAll.respare kids slicesFull hpt hC hsp
  have hres : ∀ (b : Nat) (sp : Nat → Bool) (hd : Bool), DataW.TrodAll enc Tryd.prog W' b sp hd f.resultTypes.toList ((Value.bool true).resultList f.resultTypes.size) [.lit (.bool true)] [] := fun b sp hd => by
    rw [hrt]
    exact trodAll_cons_mk (shut_bool Tryd.underlying4 _) trodAll_mk0
  have hold : ∀ p ∈ before, (fun b => decide (b < W.heap.size)) p.block = true := fun p hp => by simpa using hlt p hp
  have hvars : ∀ sp : Nat → Bool, DataW.TrodVars enc Tryd.prog W' sp s.vars [] [] := fun sp => by rw [hv0]; rfl
  refine ⟨ds, gs, before, [], before, [], hW, by rw [hs]; exact hres _ _ _, by rw [hs]; exact hargs _ hold, by rw [hs]; exact hvars _, hb.frame _, fun _ => ?_⟩
  refine ⟨?_, _, _, ([] ++ before) ++ [], ⟨[] ++ before, [], trodAll_append (hargs _ (fun _ _ => rfl)) (hres _ _ _), hvars _, rfl, ?_, ?_⟩, ?_⟩
  · exact ok_one hrt rfl (okWide_bool_mk Tryd.underlying4 _)
  · intro b off hp
    have hp' : MemPlace.cell b off ∈ before := by simpa using hp
    have := hlt _ hp'
    rw [show W'.frozen? ⟨b, off, none⟩ = W.frozen? ⟨b, off, none⟩ from hb.frozen (p := ⟨b, off, none⟩) this]
    exact hz b off hp'
  · intro ha
    have := hn ha
    simpa using this
  · intro p hp _
    simpa using hp

set_option maxRecDepth 100000 in
/-- a slice of splices, opened -/
theorem open_acts {W : World} {v : Value} {d : DataW H} {ps : List MemPlace} {base : Nat} (hval : Value.okWide Tryd.prog W .any base 22 v) (h : DataW.Trod enc Tryd.prog W 0 (fun _ => true) true 22 v d ps) : ∃ l, IsActs W v l := by
  obtain ⟨a0, len, cap, rfl⟩ := okWide_slice Tryd.underlying22 hval
  obtain ⟨fuel, hf⟩ := h
  have e0 : (Value.slice a0 len cap).cells.toList = [.slice a0 len cap] := rfl
  rw [e0] at hf
  rcases open_slice Tryd.underlying22 hf with ⟨hc, _⟩ | ⟨a, len', cap', m, n, D, Pl, hc, _, hl, hm, hmm, _, hall⟩
  · simp only [List.cons.injEq, and_true, Value.slice.injEq] at hc
    obtain ⟨rfl, rfl, rfl⟩ := hc
    exact ⟨[], none, 0, rfl, fun b hb => (by cases hb), fun j hj => absurd hj (Nat.not_lt_zero j)⟩
  · simp only [List.cons.injEq, and_true, Value.slice.injEq] at hc
    obtain ⟨rfl, rfl, rfl⟩ := hc
    simp only [if_true] at hmm
    subst hmm
    have hspot : 0 < len → a.spot = none := fun hp => by
      obtain ⟨cs', hcs, ht⟩ := hall 0 (by omega)
      rw [cells31] at hcs
      obtain ⟨_, hlen, hcell⟩ := World.cells?_some hcs
      have h0 := hcell 0 (by omega)
      rw [List.getElem?_eq_getElem (by omega)] at h0
      have := World.cell?_spot h0
      simpa [Addr.add] using this
    have key : ∀ j, j < len → ∃ x : Spl, a.spot = none ∧ a.block < W.heap.size ∧ W.cell? ⟨a.block, a.off + j * 3, none⟩ = some (.int .i64 x.1) ∧ W.cell? ⟨a.block, a.off + j * 3 + 1, none⟩ = some (.int .i64 x.2.1) ∧ W.cell? ⟨a.block, a.off + j * 3 + 2, none⟩ = some (.string x.2.2) ∧ x.2.2.size ≤ maxLen := fun j hj => by
      obtain ⟨cs', hcs, ht⟩ := hall j (by omega)
      rw [cells31] at hcs
      obtain ⟨_, hlen, hcell⟩ := World.cells?_some hcs
      match cs', hlen with
      | [u0, u1, u2], _ =>
        obtain ⟨y0, y1, y2, k, _, _, t0, t1, t2⟩ := trod_struct3 Tryd.underlying31 ht
        simp only [cells3, cells9, List.drop, List.take] at t0 t1 t2
        obtain ⟨x0, hx0, _⟩ := DataW.trod_int Tryd.underlying3 t0
        obtain ⟨x1, hx1, _⟩ := DataW.trod_int Tryd.underlying3 t1
        obtain ⟨x2, hx2, _, hz⟩ := DataW.trod_string Tryd.underlying9 t2
        simp only [List.cons.injEq, and_true] at hx0 hx1 hx2
        subst hx0 hx1 hx2
        obtain ⟨ab, ao, sp⟩ := a
        have h0 := hcell 0 (by omega)
        have h1 := hcell 1 (by omega)
        have h2 := hcell 2 (by omega)
        have hsp : sp = none := hspot (by omega)
        subst hsp
        have hadd : ∀ p q, ((⟨ab, ao, none⟩ : Addr).add p).add q = ⟨ab, ao + p + q, none⟩ := fun p q => by simp [Addr.add_lit]
        rw [hadd] at h0 h1 h2
        exact ⟨(x0, x1, x2), rfl, (by have := World.block_lt_of_cell? W _ h0; exact this), by simpa using h0, by simpa using h1, by simpa using h2, hz⟩
    refine ⟨(List.range len).pmap (fun j hj => Classical.choose (key j hj)) (fun j hj => List.mem_range.1 hj), some a, m, by simp, ?_, ?_⟩
    · intro b hb hne
      have hlen : 0 < len := by
        rcases Nat.eq_zero_or_pos len with rfl | h
        · simp at hne
        · exact h
      obtain ⟨_, _, hlt, _⟩ := key 0 hlen
      have : a.block = b := by simpa using hb
      omega
    · intro j hj
      have hj' : j < len := by simpa using hj
      obtain ⟨hsp, _, k1, k2, k3, k4⟩ := Classical.choose_spec (key j hj')
      refine ⟨a.block, a.off, ?_, ?_, ?_, ?_, ?_⟩
      · obtain ⟨ab, ao, sp⟩ := a
        simp only at hsp
        rw [hsp]
      · simpa using k1
      · simpa using k2
      · simpa using k3
      · simpa using k4
end
end Go.Proofs.YtflkmdmceeefiaaDoor
