/- the plain laws of the four statements by the program alone. -/
import Derived.Test.YtophclimlepjoaaPlainG
namespace Go.Proofs.Ytophclimlepjoaa

def G (y : ByteArray) : ByteArray := gluB (turnL toG y)
def A (y : ByteArray) : ByteArray := gluB (turnL toA y)
theorem bl_glu (l : Bs) : bl (gluB l) = l := rfl
theorem glu_bl (s : ByteArray) : gluB (bl s) = s := bl_inj rfl
theorem bl_G (y : ByteArray) : bl (G y) = tl TG (bl y) := by unfold G; rw [turnG]; rfl
theorem bl_A (y : ByteArray) : bl (A y) = tl TA (bl y) := by unfold A; rw [turnA]; rfl
theorem G_A (y : ByteArray) : G (A y) = G y := bl_inj (by rw [bl_G, bl_A, bl_G, back_ascii])
theorem G_G (y : ByteArray) : G (G y) = G y := bl_inj (by rw [bl_G, bl_G, back_glyphs])
theorem G_plain (y : ByteArray) (h : ∀ b ∈ bl y, b ≠ 96) : G y = y := bl_inj (by rw [bl_G, plain_glyphs _ h])
theorem A_size (y : ByteArray) : (A y).size ≤ y.size := by
  have := ascii_length (bl y)
  rw [← bl_A, bl_length, bl_length] at this; exact this
theorem glyphs_length : ∀ l : Bs, (tl TG l).length ≤ 2 * l.length := by_length fun l ih => by
  cases l with
  | nil => exact Nat.le_refl _
  | cons c l =>
    cases hf : fnd (c :: l) allG with
    | none => rw [tl_none TG c l hf]; have := ih l (by simp); simp only [List.length_cons]; omega
    | some y =>
      obtain ⟨g, a⟩ := y
      obtain ⟨h1, h2⟩ := fnd_some hf
      have hl := hit_len h1 h2
      have hpl := (hit_prefix h2).length_le
      have hr := ih ((c :: l).drop a.length) (by rw [List.length_drop]; simp only [List.length_cons]; omega)
      rw [tl_hit TG _ g a hf, List.length_append]
      rw [List.length_drop] at hr
      have h3 := (allG_size1 g h1).2.1
      have : (TG g a).length ≤ 2 * a.length := by
        unfold TG
        rcases hit_cases h2 with rfl | ⟨rfl, hz, _⟩
        · omega
        · have l1 := (fact_size g h1).2 hz
          rw [bl_length] at *
          simp only [List.length_cons, bl_length]
          omega
      omega
theorem G_size (y : ByteArray) : (G y).size ≤ 2 * y.size := by
  have := glyphs_length (bl y)
  rw [← bl_G, bl_length, bl_length] at this; exact this
def blank : ByteArray := ⟨#[32]⟩
theorem bl_blank (s t : ByteArray) : bl (s ++ blank ++ t) = bl s ++ 32 :: bl t := by
  rw [bl_append, bl_append, List.append_assoc]; rfl
theorem G_parts (s t : ByteArray) : G (s ++ blank ++ t) = G s ++ blank ++ G t := bl_inj (by rw [bl_G, bl_blank, bl_blank, parts, bl_G, bl_G])
theorem A_parts (s t : ByteArray) : A (s ++ blank ++ t) = A s ++ blank ++ A t := bl_inj (by rw [bl_A, bl_blank, bl_blank, parts, bl_A, bl_A])
/-- the glyph at the beginning, over byte arrays -/
theorem first_of {s : ByteArray} {g : Gl} {a : ByteArray} (h : fnd (bl s) allG = some (g, bl a)) : firstG s = (g, a) := by
  rw [fnd_of] at h
  cases hf : findG s allG with
  | none => rw [hf] at h; cases h
  | some x =>
    rw [hf] at h
    simp only [Option.map_some, Option.some.injEq, Prod.mk.injEq] at h
    obtain ⟨h1, h2⟩ := h
    unfold firstG
    rw [hf]
    obtain ⟨x1, x2⟩ := x
    simp only at h1 h2 ⊢
    rw [h1, bl_inj h2]; rfl
theorem first_text {g : Gl} (hg : g ∈ allG) (s : ByteArray) : firstG (g.1 ++ s) = (g, g.1) := first_of (by rw [bl_append]; exact fnd_text hg _)
theorem first_dig {g : Gl} (hg : g ∈ allG) (hl : ¬ g.2.1 = ⟨#[]⟩) (s : ByteArray) : firstG (tick ++ g.2.1 ++ s) = (g, tick ++ g.2.1) := first_of (by
  have e : bl (tick ++ g.2.1) = 96 :: bl g.2.1 := by rw [bl_append]; rfl
  rw [bl_append, e]; exact fnd_dig hg hl _)
theorem of_self {g : Gl} (hg : g ∈ allG) : ofG g.1 = g := by
  rcases ofG_spec g.1 with ⟨_, h⟩ | ⟨k1, k2⟩
  · exact absurd rfl (h g hg)
  · exact allG_one _ k1 g hg k2
theorem fact_class : ∀ g ∈ allG, g.2.2 ≠ 0 := by decide +kernel
theorem dig_self {g : Gl} (hg : g ∈ allG) : digL g.1 = if g.2.1 = ⟨#[]⟩ then (⟨#[]⟩, false) else (tick ++ g.2.1, true) := by unfold digL; rw [of_self hg]
theorem texts_nodup : (texts allG).Nodup := by decide +kernel
theorem texts_get (j : Nat) (h : j < allG.length) : (texts allG)[j]'(by unfold texts; simpa using h) = allG[j].1 := by simp [texts]
theorem text_apart {i j : Nat} (hi : i < allG.length) (hj : j < allG.length) (h : i ≠ j) : allG[i].1 ≠ allG[j].1 := fun e => by
  refine h ((List.getElem_inj (h₀ := (by unfold texts; simpa using hi)) (h₁ := (by unfold texts; simpa using hj)) texts_nodup).1 ?_)
  rw [texts_get i hi, texts_get j hj, e]
theorem letter_apart {i j : Nat} (hi : i < allG.length) (hj : j < allG.length) (h : i ≠ j) (hl : ¬ allG[i].2.1 = ⟨#[]⟩) : tick ++ allG[i].2.1 ≠ tick ++ allG[j].2.1 := fun e => by
  have e1 : bl (tick ++ allG[i].2.1) = 96 :: bl allG[i].2.1 := by rw [bl_append]; rfl
  have e2 : bl (tick ++ allG[j].2.1) = 96 :: bl allG[j].2.1 := by rw [bl_append]; rfl
  have e3 : (96 : UInt8) :: bl allG[i].2.1 = 96 :: bl allG[j].2.1 := by rw [← e1, ← e2, e]
  have := fact_letters _ (List.getElem_mem hi) _ (List.getElem_mem hj) hl (List.cons.inj e3).2
  exact text_apart hi hj h (by rw [this])
end Go.Proofs.Ytophclimlepjoaa
