/- the reference turns texts as the program does. -/
import Derived.Test.YtophclimlepjoaaPlainG
namespace Go.Proofs.Ytophclimlepjoaa

theorem byte0_bl {s : ByteArray} {c : UInt8} {l : Bs} (h : bl s = c :: l) : byte0 s = c := by
  unfold bl at h
  unfold byte0
  rw [Array.getD_eq_getD_getElem?, ← Array.getElem?_toList, h]; rfl
theorem bl_cons {s : ByteArray} (h : s.size ≠ 0) : ∃ c l, bl s = c :: l := by
  cases hb : bl s with
  | nil => exact absurd (by rw [← bl_length, hb]; rfl) h
  | cons c l => exact ⟨c, l, rfl⟩
theorem first_fnd (s : ByteArray) : (fnd (bl s) allG = none ∧ firstR s = (⟨#[]⟩, 0)) ∨
    ∃ g a, g ∈ allG ∧ fnd (bl s) allG = some (g, bl a) ∧ hit (bl s) g = some (bl a) ∧ firstR s = (g.1, (a.size : Int)) ∧ 1 ≤ a.size := by
  rw [firstR_eq]
  rcases firstG_spec s with ⟨h1, h2⟩ | ⟨h1, h2, h3, h4, h5, h6⟩
  · exact .inl ⟨by rw [fnd_of, h1]; rfl, by rw [h2]; rfl⟩
  · exact .inr ⟨(firstG s).1, (firstG s).2, h1, by rw [fnd_of, h2]; rfl, by rw [hit_of, h3]; rfl, rfl, h4⟩
theorem refG : ∀ (n : Nat) (s : ByteArray), s.size = n → runS stG s = tl TG (bl s) := by
  intro n
  induction n using Nat.strongRecOn with
  | _ n ih =>
    intro s hs
    by_cases h0 : s.size = 0
    · rw [runS_nil _ _ h0]
      have : bl s = [] := List.eq_nil_of_length_eq_zero (by rw [bl_length]; exact h0)
      rw [this]; rfl
    · have hp := stG_pos s h0
      rw [runS_step stG_pos s h0, ih _ (by rw [ByteArray.size_extract]; omega) _ rfl, bl_extract]
      obtain ⟨c, l, hb⟩ := bl_cons h0
      have h8 := byte0_bl hb
      rcases first_fnd s with ⟨h1, h2⟩ | ⟨g, a, hg, h1, h2, h3, h4⟩
      · have e : stG s = ([c], 1) := by unfold stG; rw [h2, h8]; simp
        rw [e, hb]
        rw [hb] at h1
        rw [tl_none TG c l h1]; rfl
      · rcases hit_cases h2 with ha | ⟨ha, hl, _⟩
        · obtain ⟨t, ht⟩ := hit_prefix h2
          obtain ⟨x, ds, ex, hx, hds⟩ := text_ne hg
          have hcx : c = x := by
            rw [ha, ex, hb, List.cons_append] at ht
            exact (List.cons.inj ht).1.symm
          have e : stG s = ([c], 1) := by unfold stG; rw [h3, h8, if_neg (fun h => hx (hcx ▸ h.2))]
          rw [e, tl_hit TG _ g _ h1, ← ht, List.drop_left]
          show [c] ++ tl TG (List.drop 1 (bl a ++ t)) = bl g.1 ++ tl TG t
          rw [ha, ex]
          show c :: tl TG (ds ++ t) = (x :: ds) ++ tl TG t
          rw [tl_dull TG ds t hds, hcx]; rfl
        · have hsz : a.size = 2 := by rw [← bl_length, ha, List.length_cons, (fact_size g hg).2 hl]
          have hc : c = 96 := by
            obtain ⟨t, ht⟩ := hit_prefix h2
            rw [ha, hb, List.cons_append] at ht
            exact (List.cons.inj ht).1.symm
          have e : stG s = (bl g.1, 2) := by unfold stG; rw [h3, h8, if_pos ⟨by rw [hsz]; rfl, hc⟩]; rfl
          rw [e, tl_hit TG _ g _ h1, bl_length, hsz]; rfl
theorem refA : ∀ (n : Nat) (s : ByteArray), s.size = n → runS stA s = tl TA (bl s) := by
  intro n
  induction n using Nat.strongRecOn with
  | _ n ih =>
    intro s hs
    by_cases h0 : s.size = 0
    · rw [runS_nil _ _ h0]
      have : bl s = [] := List.eq_nil_of_length_eq_zero (by rw [bl_length]; exact h0)
      rw [this]; rfl
    · have hp := stA_pos s h0
      rw [runS_step stA_pos s h0, ih _ (by rw [ByteArray.size_extract]; omega) _ rfl, bl_extract]
      obtain ⟨c, l, hb⟩ := bl_cons h0
      have h8 := byte0_bl hb
      rcases first_fnd s with ⟨h1, h2⟩ | ⟨g, a, hg, h1, h2, h3, h4⟩
      · have e : stA s = ([c], 1) := by unfold stA; rw [h2, h8, if_neg (fun h => absurd h.1 (by decide))]
        rw [e, hb]
        rw [hb] at h1
        rw [tl_none TA c l h1]; rfl
      · have hof : ofG g.1 = g := by
          rcases ofG_spec g.1 with ⟨_, h⟩ | ⟨k1, k2⟩
          · exact absurd rfl (h g hg)
          · exact allG_one _ k1 g hg k2
        have hd : digR g.1 = if g.2.1 = ⟨#[]⟩ then (⟨#[]⟩, false) else (tick ++ g.2.1, true) := by rw [← dig_eq]; unfold digL; rw [hof]
        rw [tl_hit TA _ g _ h1]
        by_cases hz : g.2.1 = ⟨#[]⟩
        · rw [if_pos hz] at hd
          have e : stA s = ([c], 1) := by unfold stA; rw [h3, h8, hd, if_neg (fun h => by cases h.2)]
          have ha : bl a = bl g.1 := by
            rcases hit_cases h2 with h | ⟨_, h, _⟩
            · exact h
            · exact absurd hz h
          have hlen : (bl a).length = 1 := by rw [ha]; exact (fact_size g hg).1.1 hz
          obtain ⟨t, ht⟩ := hit_prefix h2
          have hac : bl a = [c] := by
            cases hba : bl a with
            | nil => rw [hba] at hlen; cases hlen
            | cons x r =>
              rw [hba] at hlen ht
              have : r = [] := List.eq_nil_of_length_eq_zero (by simpa using hlen)
              subst this
              rw [hb, List.cons_append] at ht
              rw [(List.cons.inj ht).1]
          rw [e, hlen, hac]
          unfold TA
          rw [if_pos hz]
        · rw [if_neg hz] at hd
          have e : stA s = (96 :: bl g.2.1, a.size) := by
            unfold stA
            rw [h3, h8, hd, if_pos ⟨by simp only; omega, rfl⟩]
            simp only [Int.toNat_natCast]
            rw [show (tick ++ g.2.1).data.toList = bl (tick ++ g.2.1) from rfl, bl_append]; rfl
          rw [e, bl_length]
          unfold TA
          rw [if_neg hz]
end Go.Proofs.Ytophclimlepjoaa
