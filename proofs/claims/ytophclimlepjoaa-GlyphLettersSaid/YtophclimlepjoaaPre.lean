/- HasPrefix, begins, cut, the closures. -/
import Derived.Test.YtophclimlepjoaaTable
namespace Go.Proofs.Ytophclimlepjoaa
open Go.RowKit Go.Shelf Go.Dia Go.Maps

/-- does s begin with t? -/
def hasP (s t : ByteArray) : Bool := decide (t.size ≤ s.size) && ((s.extract 0 t.size).toList == t.toList)

set_option maxHeartbeats 1000000 in
theorem has42 (s t : ByteArray) (w : World) : Calls Try.prog 42 #[.string s, .string t] w fun e w' => e = .returned (.bool (hasP s t)) ∧ w' = w := by
  by_cases h : t.size ≤ s.size
  · have h0 : ((t.size : Int) ≤ (s.size : Int)) := by omega
    go_enter Try.func42, Try.ntmps42
    go_wp2
    go_ret
    exact ⟨by simp [hasP, h], rfl⟩
  · have h0 : ¬ ((t.size : Int) ≤ (s.size : Int)) := by omega
    go_enter Try.func42, Try.ntmps42
    go_wp2
    go_ret
    exact ⟨by simp [hasP, h], rfl⟩
set_option maxHeartbeats 1000000 in
theorem begins27 (s t : ByteArray) (w : World) : Calls Try.prog 27 #[.string s, .string t] w fun e w' => e = .returned (.bool (hasP s t)) ∧ w' = w := by
  by_cases h : t.size ≤ s.size
  · have h0 : ((t.size : Int) ≤ (s.size : Int)) := by omega
    go_enter Try.func27, Try.ntmps27
    go_wp2
    go_ret
    exact ⟨by simp [hasP, h], rfl⟩
  · have h0 : ¬ ((t.size : Int) ≤ (s.size : Int)) := by omega
    go_enter Try.func27, Try.ntmps27
    go_wp2
    go_ret
    exact ⟨by simp [hasP, h], rfl⟩
set_option maxHeartbeats 1000000 in
theorem has33 (s t : ByteArray) (w : World) : Calls Try.prog 33 #[.string s, .string t] w fun e w' => e = .returned (.bool (hasP s t)) ∧ w' = w := by
  have H := hid (has42 s t w)
  go_enter Try.func33, Try.ntmps33
  go_wp2_with (go_at_call 42; refine H.out.mono ?_; rintro e w' ⟨rfl, rfl⟩)
  go_ret
  exact ⟨rfl, rfl⟩
def cutB (s : ByteArray) : ByteArray := s.extract 0 300
set_option maxHeartbeats 1000000 in
theorem cut10 (w : World) (s : ByteArray) (hs : s.size ≤ maxLen) : Calls Try.prog 10 #[.string s] w fun e W' => e = .returned (.string (cutB s)) ∧ W' = w := by
  unfold maxLen at hs
  by_cases h : s.size ≤ 300
  · have h0 : (s.size : Int) ≤ 300 := by omega
    have hc : cutB s = s := by
      refine ByteArray.ext (Array.ext' ?_)
      simp [cutB, ByteArray.data_extract, List.extract_eq_take_drop]
      exact List.take_of_length_le (by simpa using h)
    have H := hid hc
    clear hc
    go_enter Try.func10, Try.ntmps10
    go_wp2
    go_ret
    exact ⟨by rw [H.out]; rfl, rfl⟩
  · have h0 : ¬ (s.size : Int) ≤ 300 := by omega
    go_enter Try.func10, Try.ntmps10
    go_wp2
    go_ret
    exact ⟨rfl, rfl⟩
def tick : ByteArray := ⟨#[96]⟩
/-- what takes the place of a glyph -/
def toG (g : Gl) (_ : ByteArray) : ByteArray := g.1
def toA (g : Gl) (a : ByteArray) : ByteArray := if g.2.1 = ⟨#[]⟩ then a else tick ++ g.2.1
set_option maxHeartbeats 1000000 in
theorem to30 (w : World) (g : Gl) (a : ByteArray) : Calls Try.prog 30 #[glV g, .string a] w fun e W' => e = .returned (.string (toG g a)) ∧ Below w.heap.size w W' := by
  unfold glV
  go_enter Try.func30, Try.ntmps30
  go_wp2
  go_ret
  exact ⟨rfl, (Below.refl _ w).alloc (Nat.le_refl _) _⟩
set_option maxHeartbeats 1000000 in
theorem to31 (w : World) (g : Gl) (a : ByteArray) (hg : g.2.1.size ≤ 100) : Calls Try.prog 31 #[glV g, .string a] w fun e W' => e = .returned (.string (toA g a)) ∧ Below w.heap.size w W' := by
  unfold glV
  obtain ⟨ga, gb, gc⟩ := g
  by_cases h : gb = ⟨#[]⟩
  · subst h
    go_enter Try.func31, Try.ntmps31
    go_wp2
    go_ret
    exact ⟨rfl, (Below.refl _ w).alloc (Nat.le_refl _) _⟩
  · have h0 : ¬ gb.toList = [] := by
      intro e; apply h; rw [ByteArray.toList_eq] at e; cases gb; simp at e; simp [e]
    have h1 : (gb.toList == []) = false := by simpa using h0
    have h2 : ¬ 9223372036854775807 < 1 + gb.size := by simp only at hg; omega
    go_enter Try.func31, Try.ntmps31
    go_wp2
    go_ret
    exact ⟨by simp [toA, h]; rfl, (Below.refl _ w).alloc (Nat.le_refl _) _⟩
end Go.Proofs.Ytophclimlepjoaa
