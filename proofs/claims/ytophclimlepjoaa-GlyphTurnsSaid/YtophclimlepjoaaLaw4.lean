/- GlyphTurns: the walk. -/
import Derived.Test.YtophclimlepjoaaLaw3
import Derived.Test.YtophclimlepjoaaPlainR
namespace Go.Proofs.Ytophclimlepjoaa
open Go.RowKit Go.Shelf Go.Dia Go.Maps

set_option maxRecDepth 100000 in
set_option maxHeartbeats 8000000 in
theorem law4 (w : World) (s : ByteArray) (hs : s.size ≤ maxLen) : Calls Try.prog 4 #[.string s] w fun e W' => e = .returned (.bool true) ∧ Below w.heap.size w W' := by
  have hsc := cutB_size s
  have K9 := hid shown9
  have K10 := hid (fun W => cut10 W s hs)
  obtain ⟨y, hy⟩ : ∃ y, cutB s = y := ⟨_, rfl⟩
  rw [hy] at K10 hsc
  clear hy
  have K20 := hid (fun W => glyphs20 W y (by omega))
  have K21 := hid (fun W => glyphs21 W y (by omega))
  have K22 := hid (fun W => ascii22 W y (by omega))
  have K23 := hid (fun W => ascii23 W y (by omega))
  rw [turnG] at K20
  rw [turnA] at K22
  rw [refG _ y rfl] at K21
  rw [refA _ y rfl] at K23
  obtain ⟨t1, ht1⟩ : ∃ t1, gluB (tl TG (bl y)) = t1 := ⟨_, rfl⟩
  obtain ⟨t2, ht2⟩ : ∃ t2, gluB (tl TA (bl y)) = t2 := ⟨_, rfl⟩
  rw [ht1] at K20 K21
  rw [ht2] at K22 K23
  clear ht1 ht2
  go_enter Try.func4, Try.ntmps4
  go_wp2_with (first | (go_at_call 9; refine (K9.out _).mono ?_; rintro e w1 ⟨rfl, b1⟩) | (go_at_call 10; refine (K10.out _).mono ?_; rintro e w2 ⟨rfl, rfl⟩) | (go_at_call 20; refine (K20.out _).mono ?_; rintro e w3 ⟨rfl, b3⟩) | (go_at_call 21; refine (K21.out _).mono ?_; rintro e w4 ⟨rfl, b4⟩) | (go_at_call 22; refine (K22.out _).mono ?_; rintro e w5 ⟨rfl, b5⟩) | (go_at_call 23; refine (K23.out _).mono ?_; rintro e w6 ⟨rfl, b6⟩))
  go_ret
  refine ⟨rfl, ?_⟩
  have n := Nat.le_refl w.heap.size
  exact below_seq (below_seq (below_seq (below_seq b1 n b3) n b4) n b5) n b6
end Go.Proofs.Ytophclimlepjoaa
