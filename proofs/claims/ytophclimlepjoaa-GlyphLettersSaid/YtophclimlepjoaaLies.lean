/- where the glyphs' texts lie. -/
import Derived.Test.YtophclimlepjoaaLaw3
import Derived.Test.YtophclimlepjoaaPlainB
namespace Go.Proofs.Ytophclimlepjoaa
open Go.RowKit Go.Shelf Go.Dia Go.Maps

def Lies (W : World) (g : Nat) : Prop := ∀ j (h : j < allG.length), W.cell? ⟨g, j, none⟩ = some (.string allG[j].1)
theorem Lies.lt {W : World} {g : Nat} (h : Lies W g) : g < W.heap.size := by
  have h0 := h 0 (by decide)
  by_cases hg : g < W.heap.size
  · exact hg
  · have e : W.heap[g]? = none := Array.getElem?_eq_none (by omega)
    simp [World.cell?, e] at h0
theorem Lies.keep {W W' : World} {g : Nat} (h : Lies W g) (hb : Below W.heap.size W W') : Lies W' g := fun j hj => by
  rw [← h j hj]
  unfold World.cell?
  rw [hb.block g h.lt]
theorem Lies.same {W W' : World} {g : Nat} (h : Lies W g) (hb : ∀ a, W'.cell? a = W.cell? a) : Lies W' g := fun j hj => (hb _).trans (h j hj)
theorem all_lies (w : World) : Calls Try.prog 16 #[] w fun e W' => (∃ g c, e = .returned (.slice (some ⟨g, 0, none⟩) 38 c) ∧ Lies W' g) ∧ Below w.heap.size w W' :=
  (all16 w).mono fun e W' ⟨v, h1, h2, h3⟩ => by
    obtain ⟨g, c, rfl, k⟩ := strs_of_own (l := texts allG) h2 (by decide)
    refine ⟨⟨g, c, h1, fun j hj => ?_⟩, h3⟩
    rw [k j (by unfold texts; simpa using hj), texts_get j hj]
end Go.Proofs.Ytophclimlepjoaa
