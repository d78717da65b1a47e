/- shown: the five known answers. -/
import Derived.Test.YtophclimlepjoaaOuter
namespace Go.Proofs.Ytophclimlepjoaa
open Go.RowKit Go.Shelf Go.Dia Go.Maps

theorem s1 (W : World) : Calls Try.prog 13 #[.string ⟨#[96, 114, 53]⟩] W fun e W' => e = .returned (.tuple #[.string ⟨#[226, 141, 180]⟩, .int .i64 2]) ∧ Below W.heap.size W W' := by
  have h := first13 W ⟨#[96, 114, 53]⟩
  have e1 : (firstG ⟨#[96, 114, 53]⟩).1.1 = ⟨#[226, 141, 180]⟩ := by kernel_rfl
  have e2 : ((firstG ⟨#[96, 114, 53]⟩).2.size : Int) = 2 := by kernel_rfl
  rw [e1, e2] at h; exact h
theorem s2 (W : World) : Calls Try.prog 11 #[.string ⟨#[226, 141, 179]⟩] W fun e W' => e = .returned (.tuple #[.string ⟨#[96, 105]⟩, .bool true]) ∧ Below W.heap.size W W' := by
  have h := digraph11 W ⟨#[226, 141, 179]⟩ (by decide)
  have e1 : digL ⟨#[226, 141, 179]⟩ = (⟨#[96, 105]⟩, true) := by kernel_rfl
  rw [e1] at h; exact h
theorem s3 (W : World) : Calls Try.prog 20 #[.string ⟨#[96, 114, 53]⟩] W fun e W' => e = .returned (.string ⟨#[226, 141, 180, 53]⟩) ∧ Below W.heap.size W W' := by
  have h := glyphs20 W ⟨#[96, 114, 53]⟩ (by decide)
  have e1 : gluB (turnL toG ⟨#[96, 114, 53]⟩) = ⟨#[226, 141, 180, 53]⟩ := by kernel_rfl
  rw [e1] at h; exact h
theorem s4 (W : World) : Calls Try.prog 22 #[.string ⟨#[226, 141, 180, 53]⟩] W fun e W' => e = .returned (.string ⟨#[96, 114, 53]⟩) ∧ Below W.heap.size W W' := by
  have h := ascii22 W ⟨#[226, 141, 180, 53]⟩ (by decide)
  have e1 : gluB (turnL toA ⟨#[226, 141, 180, 53]⟩) = ⟨#[96, 114, 53]⟩ := by kernel_rfl
  rw [e1] at h; exact h
theorem s5 (W : World) : Calls Try.prog 18 #[.string ⟨#[194, 168]⟩] W fun e W' => e = .returned (.int .i64 2) ∧ Below W.heap.size W W' := by
  have h := class18 W ⟨#[194, 168]⟩ (by decide)
  have e1 : (ofG ⟨#[194, 168]⟩).2.2 = 2 := by kernel_rfl
  rw [e1] at h; exact h
theorem s6 (W : World) : Calls Try.prog 16 #[] W fun e W' => (∃ g c, e = .returned (.slice (some ⟨g, 0, none⟩) 38 c)) ∧ Below W.heap.size W W' :=
  (all16 W).mono fun e W' ⟨v, h1, h2, h3⟩ => by
    obtain ⟨g, c, rfl, _⟩ := h2.form (by decide)
    exact ⟨⟨g, c, h1⟩, h3⟩

set_option maxRecDepth 100000 in
set_option maxHeartbeats 8000000 in
theorem shown9 (w : World) : Calls Try.prog 9 #[] w fun e W' => e = .returned (.bool true) ∧ Below w.heap.size w W' := by
  have h1 := hid s1
  have h2 := hid s2
  have h3 := hid s3
  have h4 := hid s4
  have h5 := hid s5
  have h6 := hid s6
  go_enter Try.func9, Try.ntmps9
  go_wp2_with (first | (go_at_call 13; refine (h1.out _).mono ?_; rintro e w1 ⟨rfl, b1⟩) | (go_at_call 11; refine (h2.out _).mono ?_; rintro e w2 ⟨rfl, b2⟩) | (go_at_call 20; refine (h3.out _).mono ?_; rintro e w3 ⟨rfl, b3⟩) | (go_at_call 22; refine (h4.out _).mono ?_; rintro e w4 ⟨rfl, b4⟩) | (go_at_call 18; refine (h5.out _).mono ?_; rintro e w5 ⟨rfl, b5⟩) | (go_at_call 16; refine (h6.out _).mono ?_; rintro e w6 ⟨⟨g, c, rfl⟩, b6⟩))
  go_ret
  refine ⟨rfl, ?_⟩
  have c2 := b1.trans (b2.mono b1.size)
  have c3 := c2.trans (b3.mono c2.size)
  have c4 := c3.trans (b4.mono c3.size)
  have c5 := c4.trans (b5.mono c4.size)
  exact c5.trans (b6.mono c5.size)
end Go.Proofs.Ytophclimlepjoaa
