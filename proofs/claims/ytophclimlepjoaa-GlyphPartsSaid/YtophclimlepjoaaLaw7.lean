/- GlyphParts: the walk. -/
import Derived.Test.YtophclimlepjoaaLaw3
import Derived.Test.YtophclimlepjoaaPlainB
namespace Go.Proofs.Ytophclimlepjoaa
open Go.RowKit Go.Shelf Go.Dia Go.Maps

set_option maxRecDepth 100000 in
set_option maxHeartbeats 8000000 in
theorem law7 (w : World) (s t : ByteArray) (hs : s.size ≤ maxLen) (ht : t.size ≤ maxLen) : Calls Try.prog 7 #[.string s, .string t] w fun e W' => e = .returned (.bool true) ∧ Below w.heap.size w W' := by
  have hsc := cutB_size s
  have htc := cutB_size t
  have K9 := hid shown9
  have K10 := hid (fun W => cut10 W s hs)
  have K10' := hid (fun W => cut10 W t ht)
  obtain ⟨x, hx⟩ : ∃ x, cutB s = x := ⟨_, rfl⟩
  obtain ⟨y, hy⟩ : ∃ y, cutB t = y := ⟨_, rfl⟩
  rw [hx] at K10 hsc
  rw [hy] at K10' htc
  clear hx hy
  have hAx := A_size x
  have hGx := G_size x
  have hAy := A_size y
  have hGy := G_size y
  have hsz : (x ++ blank ++ y).size ≤ 100000 := by rw [ByteArray.size_append, ByteArray.size_append]; show x.size + 1 + y.size ≤ _; omega
  have KGx := hid (fun W => glyphs20 W x (by omega))
  have KGy := hid (fun W => glyphs20 W y (by omega))
  have KGu := hid (fun W => glyphs20 W (x ++ blank ++ y) hsz)
  have KAx := hid (fun W => ascii22 W x (by omega))
  have KAy := hid (fun W => ascii22 W y (by omega))
  have KAu := hid (fun W => ascii22 W (x ++ blank ++ y) hsz)
  rw [show gluB (turnL toG (x ++ blank ++ y)) = G (x ++ blank ++ y) from rfl, G_parts] at KGu
  rw [show gluB (turnL toA (x ++ blank ++ y)) = A (x ++ blank ++ y) from rfl, A_parts] at KAu
  rw [show gluB (turnL toG x) = G x from rfl] at KGx
  rw [show gluB (turnL toG y) = G y from rfl] at KGy
  rw [show gluB (turnL toA x) = A x from rfl] at KAx
  rw [show gluB (turnL toA y) = A y from rfl] at KAy
  obtain ⟨g, hg⟩ : ∃ g, G x = g := ⟨_, rfl⟩
  obtain ⟨a, ha⟩ : ∃ a, A x = a := ⟨_, rfl⟩
  obtain ⟨g', hg'⟩ : ∃ g, G y = g := ⟨_, rfl⟩
  obtain ⟨a', ha'⟩ : ∃ a, A y = a := ⟨_, rfl⟩
  rw [hg] at KGx KGu hGx
  rw [hg'] at KGy KGu hGy
  rw [ha] at KAx KAu hAx
  rw [ha'] at KAy KAu hAy
  clear hg ha hg' ha' hsz
  unfold blank at KGu KAu
  have q1 : ¬ 9223372036854775807 < x.size + 1 := by omega
  have q2 : ¬ 9223372036854775807 < x.size + 1 + y.size := by omega
  have q3 : ¬ 9223372036854775807 < g.size + 1 := by omega
  have q4 : ¬ 9223372036854775807 < g.size + 1 + g'.size := by omega
  have q5 : ¬ 9223372036854775807 < a.size + 1 := by omega
  have q6 : ¬ 9223372036854775807 < a.size + 1 + a'.size := by omega
  go_enter Try.func7, Try.ntmps7
  go_wp2_with (first | (go_at_call 9; refine (K9.out _).mono ?_; rintro e w1 ⟨rfl, b1⟩; have HB := hid b1; clear b1) | (go_at_call 10; first | (refine (K10.out _).mono ?_; rintro e w2 ⟨rfl, rfl⟩) | (refine (K10'.out _).mono ?_; rintro e w2 ⟨rfl, rfl⟩)) | (go_at_call 20; first | (refine (KGx.out _).mono ?_; rintro e wn ⟨rfl, bn⟩; have HB := hid (below_seq HB.out (Nat.le_refl _) bn); clear bn) | (refine (KGy.out _).mono ?_; rintro e wn ⟨rfl, bn⟩; have HB := hid (below_seq HB.out (Nat.le_refl _) bn); clear bn) | (refine (KGu.out _).mono ?_; rintro e wn ⟨rfl, bn⟩; have HB := hid (below_seq HB.out (Nat.le_refl _) bn); clear bn)) | (go_at_call 22; first | (refine (KAx.out _).mono ?_; rintro e wn ⟨rfl, bn⟩; have HB := hid (below_seq HB.out (Nat.le_refl _) bn); clear bn) | (refine (KAy.out _).mono ?_; rintro e wn ⟨rfl, bn⟩; have HB := hid (below_seq HB.out (Nat.le_refl _) bn); clear bn) | (refine (KAu.out _).mono ?_; rintro e wn ⟨rfl, bn⟩; have HB := hid (below_seq HB.out (Nat.le_refl _) bn); clear bn)))
  go_ret
  exact ⟨rfl, HB.out⟩
end Go.Proofs.Ytophclimlepjoaa
