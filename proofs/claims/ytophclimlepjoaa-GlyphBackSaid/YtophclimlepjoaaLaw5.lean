/- GlyphBack: the walk. -/
import Derived.Test.YtophclimlepjoaaLaw3
import Derived.Test.YtophclimlepjoaaPlainB
namespace Go.Proofs.Ytophclimlepjoaa
open Go.RowKit Go.Shelf Go.Dia Go.Maps

/-- no backtick in the first k bytes -/
def plainTo (y : ByteArray) (k : Nat) : Bool := ((bl y).take k).all (fun b => !(b == 96))
theorem plainTo_all (y : ByteArray) (h : plainTo y y.size = true) : ∀ b ∈ bl y, b ≠ 96 := by
  unfold plainTo at h
  rw [← bl_length, List.take_length, List.all_eq_true] at h
  intro b hb e
  have := h b hb
  rw [e] at this; exact absurd this (by decide)
theorem plainTo_succ (y : ByteArray) (k : Nat) (h : k < y.size) : plainTo y (k + 1) = (plainTo y k && ((y[k].toNat : Int) != 96)) := by
  unfold plainTo
  rw [List.take_succ_eq_append_getElem (by rw [bl_length]; exact h), List.all_append]
  simp only [List.all_cons, List.all_nil, Bool.and_true]
  have e : (bl y)[k]'(by rw [bl_length]; exact h) = y[k] := rfl
  rw [e]
  congr 1
  have h2 : (y[k] = 96) ↔ ((y[k].toNat : Int) = 96) := by
    rw [← UInt8.toNat_inj]; constructor <;> intro h <;> simp at * <;> omega
  by_cases h3 : y[k] = 96
  · have := h2.1 h3; simp [h3]
  · have h4 := fun h => h3 (h2.2 h)
    rw [bne, beq_eq_false_iff_ne.2 h3, beq_eq_false_iff_ne.2 h4]

set_option maxRecDepth 100000 in
set_option maxHeartbeats 8000000 in
theorem law5 (w : World) (s : ByteArray) (hs : s.size ≤ maxLen) : Calls Try.prog 5 #[.string s] w fun e W' => e = .returned (.bool true) ∧ Below w.heap.size w W' := by
  have hsc := cutB_size s
  have K9 := hid shown9
  have K10 := hid (fun W => cut10 W s hs)
  obtain ⟨y, hy⟩ : ∃ y, cutB s = y := ⟨_, rfl⟩
  rw [hy] at K10 hsc
  clear hy
  have hA := A_size y
  have hG := G_size y
  have KG := hid (fun W => glyphs20 W y (by omega))
  have KGA := hid (fun W => glyphs20 W (A y) (by omega))
  have KGG := hid (fun W => glyphs20 W (G y) (by omega))
  have KA := hid (fun W => ascii22 W y (by omega))
  rw [show gluB (turnL toG y) = G y from rfl] at KG
  rw [show gluB (turnL toG (A y)) = G (A y) from rfl, G_A] at KGA
  rw [show gluB (turnL toG (G y)) = G (G y) from rfl, G_G] at KGG
  rw [show gluB (turnL toA y) = A y from rfl] at KA
  have HP := hid (fun h => G_plain y (plainTo_all y h))
  have HS := hid (plainTo_succ y)
  obtain ⟨g, hg⟩ : ∃ g, G y = g := ⟨_, rfl⟩
  obtain ⟨a, ha⟩ : ∃ a, A y = a := ⟨_, rfl⟩
  rw [hg] at KG KGA KGG HP hG
  rw [ha] at KA KGA hA
  clear hg ha
  go_enter Try.func5, Try.ntmps5
  go_wp2_with (first | (go_at_call 9; refine (K9.out _).mono ?_; rintro e w1 ⟨rfl, b1⟩) | (go_at_call 10; refine (K10.out _).mono ?_; rintro e w2 ⟨rfl, rfl⟩))
  have HB := hid b1
  go_loopw [4, 5] (fun p i wr => ∃ k : Nat, k ≤ y.size ∧ i = .int .i64 k ∧ p = .bool (plainTo y k) ∧ wr = w2) (fun _ i _ => y.size - (intOf i).toNat)
  case atStart => exact ⟨0, Nat.zero_le _, rfl, rfl, rfl⟩
  case round =>
    obtain ⟨k, hk, rfl, rfl, rfl⟩ := hrel
    by_cases hlt : k < y.size
    · have h1 := HS.out k hlt
      cases hp : plainTo y k with
      | true =>
        rw [hp] at h1
        go_wp2
        go_roundw
        case rel => exact ⟨k + 1, by omega, by go_num, by rw [h1]; rfl, by first | rfl | trivial⟩
        case measure => simp [intOf]; omega
      | false =>
        rw [hp] at h1
        go_wp2
        go_roundw
        case rel => exact ⟨k + 1, by omega, by go_num, by rw [h1]; rfl, by first | rfl | trivial⟩
        case measure => simp [intOf]; omega
    · obtain rfl : k = y.size := by omega
      cases hp : plainTo y y.size with
      | true =>
        obtain rfl := HP.out hp
        go_wp2_with (first | (go_at_call 20; first | (refine (KG.out _).mono ?_; rintro e wn ⟨rfl, bn⟩; have HB := hid (below_seq HB.out (Nat.le_refl _) bn); clear bn) | (refine (KGA.out _).mono ?_; rintro e wn ⟨rfl, bn⟩; have HB := hid (below_seq HB.out (Nat.le_refl _) bn); clear bn)) | (go_at_call 22; refine (KA.out _).mono ?_; rintro e wn ⟨rfl, bn⟩; have HB := hid (below_seq HB.out (Nat.le_refl _) bn); clear bn))
        go_ret
        exact ⟨rfl, HB.out⟩
      | false =>
        go_wp2_with (first | (go_at_call 20; first | (refine (KG.out _).mono ?_; rintro e wn ⟨rfl, bn⟩; have HB := hid (below_seq HB.out (Nat.le_refl _) bn); clear bn) | (refine (KGA.out _).mono ?_; rintro e wn ⟨rfl, bn⟩; have HB := hid (below_seq HB.out (Nat.le_refl _) bn); clear bn) | (refine (KGG.out _).mono ?_; rintro e wn ⟨rfl, bn⟩; have HB := hid (below_seq HB.out (Nat.le_refl _) bn); clear bn)) | (go_at_call 22; refine (KA.out _).mono ?_; rintro e wn ⟨rfl, bn⟩; have HB := hid (below_seq HB.out (Nat.le_refl _) bn); clear bn))
        go_ret
        exact ⟨rfl, HB.out⟩
end Go.Proofs.Ytophclimlepjoaa
