/- Class, Digraph, First: the program's and the reference's are the same. -/
import Derived.Test.YtophclimlepjoaaRefT
namespace Go.Proofs.Ytophclimlepjoaa

theorem allG_one : ∀ x ∈ allG, ∀ y ∈ allG, x.1 = y.1 → x = y := by decide +kernel
theorem atR_spec (k : ByteArray) : ∀ r : List Gl, (atR r k = zeroG ∧ ∀ x ∈ r, x.1 ≠ k) ∨ (atR r k ∈ r ∧ (atR r k).1 = k)
  | [] => .inl ⟨rfl, by simp⟩
  | g :: r => by
    unfold atR
    split
    · rename_i h; exact .inr ⟨by simp, h⟩
    · rename_i h
      rcases atR_spec k r with ⟨h1, h2⟩ | ⟨h1, h2⟩
      · refine .inl ⟨h1, fun x hx => ?_⟩
        rcases List.mem_cons.1 hx with rfl | hx
        · exact h
        · exact h2 x hx
      · exact .inr ⟨List.mem_cons_of_mem _ h1, h2⟩
theorem ofG_spec (k : ByteArray) : (ofG k = zeroG ∧ ∀ x ∈ allG, x.1 ≠ k) ∨ (ofG k ∈ allG ∧ (ofG k).1 = k) := by
  rcases atR_spec k allG.reverse with ⟨h1, h2⟩ | ⟨h1, h2⟩
  · exact .inl ⟨h1, fun x hx => h2 x (List.mem_reverse.2 hx)⟩
  · exact .inr ⟨List.mem_reverse.1 h1, h2⟩
theorem findP_all {p : Gl → Bool} {l : List Gl} (h : findP p l = none) : ∀ x ∈ l, p x = false := by
  induction l with
  | nil => simp
  | cons g l ih =>
    unfold findP at h
    split at h
    · cases h
    · rename_i hg
      intro x hx
      rcases List.mem_cons.1 hx with rfl | hx
      · simpa using hg
      · exact ih h x hx
theorem toList_inj {a b : ByteArray} (h : a.toList = b.toList) : a = b := by
  rw [ByteArray.toList_eq, ByteArray.toList_eq] at h
  exact bytes_list h
theorem isText_iff (s : ByteArray) (g : Gl) : isText s g = true ↔ g.1 = s := by
  unfold isText
  constructor
  · intro h; exact toList_inj (by simpa using h)
  · intro h; simp [h]
theorem class_eq (s : ByteArray) : (ofG s).2.2 = classR s := by
  unfold classR
  rcases ofG_spec s with ⟨h1, h2⟩ | ⟨h1, h2⟩
  · cases h : findP (isText s) allG with
    | none => rw [h1]; rfl
    | some g =>
      obtain ⟨k1, k2⟩ := findP_some h
      exact absurd ((isText_iff s g).1 k2) (h2 g k1)
  · cases h : findP (isText s) allG with
    | none =>
      have := findP_all h _ h1
      rw [(isText_iff s _).2 h2] at this; cases this
    | some g =>
      obtain ⟨k1, k2⟩ := findP_some h
      rw [allG_one _ h1 g k1 (h2.trans ((isText_iff s g).1 k2).symm)]
theorem isDig_iff (s : ByteArray) (g : Gl) : isDig s g = true ↔ g.1 = s ∧ ¬ g.2.1 = ⟨#[]⟩ := by
  unfold isDig
  constructor
  · intro h
    simp only [Bool.and_eq_true, Bool.not_eq_true', beq_iff_eq, beq_eq_false_iff_ne] at h
    exact ⟨toList_inj h.1, fun e => h.2 (by rw [e, ByteArray.toList_eq])⟩
  · rintro ⟨h1, h2⟩
    simp only [Bool.and_eq_true, Bool.not_eq_true', beq_iff_eq, beq_eq_false_iff_ne]
    exact ⟨by rw [h1], fun e => h2 (empty_of_toList e)⟩
theorem dig_eq (s : ByteArray) : digL s = digR s := by
  unfold digL digR
  rcases ofG_spec s with ⟨h1, h2⟩ | ⟨h1, h2⟩
  · rw [h1, if_pos (show zeroG.2.1 = ⟨#[]⟩ from rfl)]
    cases h : findP (isDig s) allG with
    | none => rfl
    | some g =>
      obtain ⟨k1, k2⟩ := findP_some h
      exact absurd ((isDig_iff s g).1 k2).1 (h2 g k1)
  · split
    · rename_i hz
      cases h : findP (isDig s) allG with
      | none => rfl
      | some g =>
        obtain ⟨k1, k2⟩ := findP_some h
        obtain ⟨k3, k4⟩ := (isDig_iff s g).1 k2
        rw [← allG_one _ h1 g k1 (h2.trans k3.symm)] at k4
        exact absurd hz k4
    · rename_i hz
      cases h : findP (isDig s) allG with
      | none =>
        have := findP_all h _ h1
        rw [(isDig_iff s _).2 ⟨h2, hz⟩] at this; cases this
      | some g =>
        obtain ⟨k1, k2⟩ := findP_some h
        obtain ⟨k3, k4⟩ := (isDig_iff s g).1 k2
        rw [allG_one _ h1 g k1 (h2.trans k3.symm)]
end Go.Proofs.Ytophclimlepjoaa
