/- the reference's table. -/
import Derived.Test.YtophclimlepjoaaOuter
namespace Go.Proofs.Ytophclimlepjoaa
open Go.RowKit Go.Shelf Go.Dia Go.Maps

set_option maxRecDepth 100000 in
set_option maxHeartbeats 8000000 in
theorem table25 (w : World) : Calls Try.prog 25 #[] w fun e W' => ∃ g, e = .returned (.slice (some ⟨g, 0, none⟩) 38 38) ∧ Blk W' g 58 (glCells allG).toArray ∧ W'.heap.size = w.heap.size + 1 ∧ Below w.heap.size w W' := by
  go_enter Try.func25, Try.ntmps25
  go_wp2
  go_ret
  exact ⟨w.heap.size, rfl, Blk.new w 58 _, by simp, (Below.refl _ w).alloc (Nat.le_refl _) _⟩
end Go.Proofs.Ytophclimlepjoaa
