/- turn, in plain words. -/
import Derived.Test.YtophclimlepjoaaFirst
namespace Go.Proofs.Ytophclimlepjoaa

theorem findG_some {s : ByteArray} {l : List Gl} {g : Gl} {a : ByteArray} (h : findG s l = some (g, a)) : g ∈ l ∧ hitG s g = some a := by
  induction l with
  | nil => cases h
  | cons x l ih =>
    unfold findG at h
    cases hx : hitG s x with
    | none => rw [hx] at h; obtain ⟨h1, h2⟩ := ih h; exact ⟨List.mem_cons_of_mem _ h1, h2⟩
    | some b =>
      rw [hx] at h
      simp only [Option.some.injEq, Prod.mk.injEq] at h
      obtain ⟨rfl, rfl⟩ := h
      exact ⟨by simp, hx⟩
theorem hasP_size {s t : ByteArray} (h : hasP s t = true) : t.size ≤ s.size := by
  unfold hasP at h
  simp only [Bool.and_eq_true, decide_eq_true_eq] at h
  exact h.1
theorem hitG_some {s a : ByteArray} {g : Gl} (h : hitG s g = some a) : hasP s a = true ∧ (a = g.1 ∨ (a = tick ++ g.2.1 ∧ ¬ g.2.1 = ⟨#[]⟩)) := by
  unfold hitG at h
  split at h
  · rename_i h1; cases h; exact ⟨h1, .inl rfl⟩
  · split at h
    · rename_i h2; cases h; exact ⟨h2.2, .inr ⟨rfl, h2.1⟩⟩
    · cases h
theorem allG_size1 : ∀ x ∈ allG, 1 ≤ x.1.size ∧ x.1.size ≤ 3 ∧ x.2.1.size ≤ 1 := by decide
theorem firstG_spec (s : ByteArray) : (findG s allG = none ∧ firstG s = (zeroG, ⟨#[]⟩)) ∨
    ((firstG s).1 ∈ allG ∧ findG s allG = some (firstG s) ∧ hitG s (firstG s).1 = some (firstG s).2 ∧ 1 ≤ (firstG s).2.size ∧ (firstG s).2.size ≤ 3 ∧ (firstG s).2.size ≤ s.size) := by
  cases h : findG s allG with
  | none => exact .inl ⟨rfl, by unfold firstG; rw [h]; rfl⟩
  | some x =>
    obtain ⟨g, a⟩ := x
    right
    have e : firstG s = (g, a) := by unfold firstG; rw [h]; rfl
    rw [e]
    obtain ⟨h1, h2⟩ := findG_some h
    obtain ⟨h3, h4⟩ := hitG_some h2
    obtain ⟨k1, k2, k3⟩ := allG_size1 g h1
    refine ⟨h1, rfl, h2, ?_, ?_, hasP_size h3⟩
    · rcases h4 with rfl | ⟨rfl, _⟩
      · exact k1
      · rw [ByteArray.size_append]; show 1 ≤ 1 + _; omega
    · rcases h4 with rfl | ⟨rfl, _⟩
      · exact k2
      · rw [ByteArray.size_append]; show 1 + _ ≤ 3; omega
def turnF (T : Gl → ByteArray → ByteArray) : Nat → ByteArray → List UInt8
  | 0, _ => []
  | n + 1, rs => if rs.size = 0 then [] else
      if (firstG rs).2.size = 0 then (rs.extract 0 1).data.toList ++ turnF T n (rs.extract 1 rs.size)
      else (T (firstG rs).1 (firstG rs).2).data.toList ++ turnF T n (rs.extract (firstG rs).2.size rs.size)
theorem turnF_fuel (T : Gl → ByteArray → ByteArray) : ∀ (m n : Nat) (rs : ByteArray), rs.size ≤ m → m ≤ n → turnF T n rs = turnF T m rs
  | 0, 0, _, _, _ => rfl
  | 0, n + 1, rs, h, _ => by unfold turnF; rw [if_pos (by omega)]
  | m + 1, 0, _, _, h => by omega
  | m + 1, n + 1, rs, h, hn => by
    unfold turnF
    by_cases h0 : rs.size = 0
    · rw [if_pos h0, if_pos h0]
    · rw [if_neg h0, if_neg h0]
      by_cases h1 : (firstG rs).2.size = 0
      · rw [if_pos h1, if_pos h1, turnF_fuel T m n _ (by rw [ByteArray.size_extract]; omega) (by omega)]
      · rw [if_neg h1, if_neg h1, turnF_fuel T m n _ (by rw [ByteArray.size_extract]; omega) (by omega)]
def turnL (T : Gl → ByteArray → ByteArray) (rs : ByteArray) : List UInt8 := turnF T rs.size rs
theorem turnL_nil (T : Gl → ByteArray → ByteArray) (rs : ByteArray) (h : rs.size = 0) : turnL T rs = [] := by
  unfold turnL; rw [h]; rfl
theorem turnL_one (T : Gl → ByteArray → ByteArray) (rs : ByteArray) (h : rs.size ≠ 0) (h1 : (firstG rs).2.size = 0) : turnL T rs = (rs.extract 0 1).data.toList ++ turnL T (rs.extract 1 rs.size) := by
  unfold turnL
  obtain ⟨n, hn⟩ : ∃ n, rs.size = n + 1 := ⟨rs.size - 1, by omega⟩
  rw [hn]
  show (if rs.size = 0 then [] else _) = _
  rw [if_neg h, if_pos h1, hn]
  congr 1
  exact turnF_fuel T _ n _ (Nat.le_refl _) (by rw [ByteArray.size_extract]; omega)
theorem turnL_glyph (T : Gl → ByteArray → ByteArray) (rs : ByteArray) (h : rs.size ≠ 0) (h1 : (firstG rs).2.size ≠ 0) : turnL T rs = (T (firstG rs).1 (firstG rs).2).data.toList ++ turnL T (rs.extract (firstG rs).2.size rs.size) := by
  unfold turnL
  obtain ⟨n, hn⟩ : ∃ n, rs.size = n + 1 := ⟨rs.size - 1, by omega⟩
  rw [hn]
  show (if rs.size = 0 then [] else _) = _
  rw [if_neg h, if_neg h1, hn]
  congr 1
  exact turnF_fuel T _ n _ (Nat.le_refl _) (by rw [ByteArray.size_extract]; omega)
end Go.Proofs.Ytophclimlepjoaa
