/- texts there and back; piece by piece; the glyph at the beginning. -/
import Derived.Test.YtophclimlepjoaaPlainL
import Derived.Test.YtophclimlepjoaaPlainA
namespace Go.Proofs.Ytophclimlepjoaa

/-- no glyph, no digraph begins with it -/
def dull (b : UInt8) : Bool := !(b == 96) && allG.all (fun x => !((bl x.1).head? == some b))
theorem fact_tail : ∀ g ∈ allG, ((bl g.1).tail.all dull) = true := by decide +kernel
theorem fact_letter : ∀ g ∈ allG, ((bl g.2.1).all dull) = true := by decide +kernel
theorem fact_head : ∀ g ∈ allG, ∀ h, (bl g.1).head? = some h → h ≠ 96 := by decide +kernel
theorem fact_free : ∀ x ∈ allG, ∀ g ∈ allG, (bl x.1).isPrefixOf (bl g.1) = true → x = g := by decide +kernel
theorem fact_letters : ∀ x ∈ allG, ∀ g ∈ allG, ¬ x.2.1 = ⟨#[]⟩ → bl x.2.1 = bl g.2.1 → x = g := by decide +kernel
theorem fact_size : ∀ g ∈ allG, (g.2.1 = ⟨#[]⟩ ↔ (bl g.1).length = 1) ∧ (¬ g.2.1 = ⟨#[]⟩ → (bl g.2.1).length = 1) := by decide +kernel
theorem fact_blank : ∀ g ∈ allG, (bl g.1).contains 32 = false ∧ (bl g.2.1).contains 32 = false := by decide +kernel
theorem text_ne {g : Gl} (hg : g ∈ allG) : ∃ h ds, bl g.1 = h :: ds ∧ h ≠ 96 ∧ ∀ b ∈ ds, dull b = true := by
  have h1 := (allG_size1 g hg).1
  have h2 := fact_tail g hg
  have h3 := fact_head g hg
  cases hb : bl g.1 with
  | nil => rw [← bl_length, hb] at h1; simp at h1
  | cons h ds =>
    rw [hb] at h2 h3
    exact ⟨h, ds, rfl, h3 h rfl, List.all_eq_true.1 h2⟩
theorem dull_head {g : Gl} (hg : g ∈ allG) {h : UInt8} {ds : Bs} (e : bl g.1 = h :: ds) : dull h = false := by
  unfold dull
  rw [Bool.and_eq_false_iff]
  right
  rw [List.all_eq_false]
  exact ⟨g, hg, by rw [e]; simp⟩
theorem dull_tick : dull 96 = false := by decide
theorem fnd_dull {b : UInt8} (hb : dull b = true) (l : Bs) : fnd (b :: l) allG = none := by
  refine fnd_none_iff.2 fun x hx => ?_
  obtain ⟨h, ds, e, hn, _⟩ := text_ne hx
  unfold hit
  rw [if_neg, if_neg]
  · rintro ⟨_, h2⟩
    have := (List.cons_prefix_cons.1 h2).1
    rw [← this, dull_tick] at hb; cases hb
  · intro h2
    rw [e] at h2
    have := (List.cons_prefix_cons.1 h2).1
    rw [← this, dull_head hx e] at hb; cases hb
theorem tl_dull (T : Gl → Bs → Bs) : ∀ (ds r : Bs), (∀ b ∈ ds, dull b = true) → tl T (ds ++ r) = ds ++ tl T r
  | [], _, _ => rfl
  | b :: ds, r, h => by
    rw [List.cons_append, tl_none T b _ (fnd_dull (h b (by simp)) _), tl_dull T ds r (fun x hx => h x (by simp [hx]))]; rfl
/-- a glyph stands at the beginning, itself -/
theorem fnd_text {g : Gl} (hg : g ∈ allG) (R : Bs) : fnd (bl g.1 ++ R) allG = some (g, bl g.1) := by
  refine fnd_one hg (by unfold hit; rw [if_pos (List.prefix_append _ _)]) fun x hx b hb => ?_
  rcases hit_cases hb with rfl | ⟨rfl, _, _⟩
  · have hp := hit_prefix hb
    rcases Nat.le_total (bl x.1).length (bl g.1).length with h | h
    · exact fact_free x hx g hg (List.isPrefixOf_iff_prefix.2 (List.prefix_of_prefix_length_le hp (List.prefix_append _ _) h))
    · exact (fact_free g hg x hx (List.isPrefixOf_iff_prefix.2 (List.prefix_of_prefix_length_le (List.prefix_append _ _) hp h))).symm
  · have hp := hit_prefix hb
    obtain ⟨h, ds, e, hn, _⟩ := text_ne hg
    rw [e, List.cons_append] at hp
    exact absurd (List.cons_prefix_cons.1 hp).1.symm hn
/-- .. by its digraph -/
theorem fnd_dig {g : Gl} (hg : g ∈ allG) (hl : ¬ g.2.1 = ⟨#[]⟩) (R : Bs) : fnd (96 :: bl g.2.1 ++ R) allG = some (g, 96 :: bl g.2.1) := by
  have no : ∀ x ∈ allG, ¬ bl x.1 <+: 96 :: bl g.2.1 ++ R := fun x hx hp => by
    obtain ⟨h, ds, e, hn, _⟩ := text_ne hx
    rw [e, List.cons_append] at hp
    exact hn (List.cons_prefix_cons.1 hp).1
  refine fnd_one hg (by unfold hit; rw [if_neg (no g hg), if_pos ⟨hl, List.prefix_append _ _⟩]) fun x hx b hb => ?_
  rcases hit_cases hb with rfl | ⟨rfl, hxl, _⟩
  · exact absurd (hit_prefix hb) (no x hx)
  · have hp := hit_prefix hb
    rw [List.cons_append] at hp
    have hp := (List.cons_prefix_cons.1 hp).2
    have l1 := (fact_size x hx).2 hxl
    have l2 := (fact_size g hg).2 hl
    have : bl x.2.1 <+: bl g.2.1 := List.prefix_of_prefix_length_le hp (List.prefix_append _ _) (by omega)
    exact fact_letters x hx g hg hxl (this.eq_of_length (by omega))
/-- a turning writes at each hit what begins with no dull byte -/
def Bright (T : Gl → Bs → Bs) : Prop := ∀ g ∈ allG, ∀ l a, hit l g = some a → ∃ h ds, T g a = h :: ds ∧ dull h = false
theorem bright_TG : Bright TG := fun g hg l a _ => by
  obtain ⟨h, ds, e, _⟩ := text_ne hg
  exact ⟨h, ds, e, dull_head hg e⟩
theorem bright_TA : Bright TA := fun g hg l a ha => by
  unfold TA
  split
  · rename_i hz
    rcases hit_cases ha with rfl | ⟨_, h, _⟩
    · obtain ⟨h, ds, e, _⟩ := text_ne hg
      exact ⟨h, ds, e, dull_head hg e⟩
    · exact absurd hz h
  · exact ⟨96, _, rfl, dull_tick⟩
/-- dull bytes at the beginning were there -/
theorem dull_prefix {T : Gl → Bs → Bs} (hT : Bright T) : ∀ (ds l : Bs), (∀ b ∈ ds, dull b = true) → ds <+: tl T l → ds <+: l
  | [], _, _, _ => List.nil_prefix
  | b :: ds, [], _, h => by simp [tl_nil] at h
  | b :: ds, c :: l, hd, h => by
    cases hf : fnd (c :: l) allG with
    | none =>
      rw [tl_none T c l hf] at h
      obtain ⟨rfl, h2⟩ := List.cons_prefix_cons.1 h
      exact List.cons_prefix_cons.2 ⟨rfl, dull_prefix hT ds l (fun x hx => hd x (by simp [hx])) h2⟩
    | some y =>
      obtain ⟨g, a⟩ := y
      obtain ⟨h1, h2⟩ := fnd_some hf
      obtain ⟨x, xs, e, hx⟩ := hT g h1 _ a h2
      rw [tl_hit T _ g a hf, e, List.cons_append] at h
      obtain ⟨rfl, _⟩ := List.cons_prefix_cons.1 h
      have := hd b (by simp)
      rw [hx] at this; cases this
/-- what begins no glyph begins none when the rest is turned -/
theorem none_tl {T : Gl → Bs → Bs} (hT : Bright T) (c : UInt8) (l : Bs) (h : fnd (c :: l) allG = none) : fnd (c :: tl T l) allG = none := by
  refine fnd_none_iff.2 fun x hx => ?_
  have h0 := fnd_none_iff.1 h x hx
  cases hh : hit (c :: tl T l) x with
  | none => rfl
  | some a =>
    exfalso
    rcases hit_cases hh with rfl | ⟨rfl, hxl, _⟩
    · have hp := hit_prefix hh
      obtain ⟨y, ds, e, _, hds⟩ := text_ne hx
      rw [e] at hp
      obtain ⟨rfl, hp2⟩ := List.cons_prefix_cons.1 hp
      have := dull_prefix hT ds l hds hp2
      unfold hit at h0
      rw [if_pos (by rw [e]; exact List.cons_prefix_cons.2 ⟨rfl, this⟩)] at h0
      cases h0
    · have hp := hit_prefix hh
      obtain ⟨rfl, hp2⟩ := List.cons_prefix_cons.1 hp
      have := dull_prefix hT _ l (List.all_eq_true.1 (fact_letter x hx)) hp2
      unfold hit at h0
      split at h0
      · cases h0
      · rw [if_pos ⟨hxl, List.cons_prefix_cons.2 ⟨rfl, this⟩⟩] at h0
        cases h0
theorem back_glyphs : ∀ l : Bs, tl TG (tl TG l) = tl TG l := by_length fun l ih => by
  cases l with
  | nil => rfl
  | cons c l =>
    cases hf : fnd (c :: l) allG with
    | none => rw [tl_none TG c l hf, tl_none TG c _ (none_tl bright_TG c l hf), ih l (by simp)]
    | some y =>
      obtain ⟨g, a⟩ := y
      obtain ⟨h1, h2⟩ := fnd_some hf
      have hl := hit_len h1 h2
      have hr := ih ((c :: l).drop a.length) (by rw [List.length_drop]; simp only [List.length_cons]; omega)
      rw [tl_hit TG _ g a hf]
      show tl TG (bl g.1 ++ _) = _
      rw [tl_hit TG _ g _ (fnd_text h1 _)]
      show bl g.1 ++ tl TG (List.drop _ (bl g.1 ++ _)) = _
      rw [List.drop_left, hr]; rfl
theorem back_ascii : ∀ l : Bs, tl TG (tl TA l) = tl TG l := by_length fun l ih => by
  cases l with
  | nil => rfl
  | cons c l =>
    cases hf : fnd (c :: l) allG with
    | none => rw [tl_none TA c l hf, tl_none TG c _ (none_tl bright_TA c l hf), tl_none TG c l hf, ih l (by simp)]
    | some y =>
      obtain ⟨g, a⟩ := y
      obtain ⟨h1, h2⟩ := fnd_some hf
      have hl := hit_len h1 h2
      have hr := ih ((c :: l).drop a.length) (by rw [List.length_drop]; simp only [List.length_cons]; omega)
      rw [tl_hit TA _ g a hf, tl_hit TG _ g a hf, ← hr]
      show tl TG (TA g a ++ _) = bl g.1 ++ _
      unfold TA
      split
      · rename_i hz
        have ha : a = bl g.1 := by
          rcases hit_cases h2 with h | ⟨_, h, _⟩
          · exact h
          · exact absurd hz h
        subst ha
        rw [tl_hit TG _ g _ (fnd_text h1 _)]
        show bl g.1 ++ tl TG (List.drop _ (bl g.1 ++ _)) = _
        rw [List.drop_left]
      · rename_i hz
        rw [tl_hit TG _ g _ (fnd_dig h1 hz _)]
        show bl g.1 ++ tl TG (List.drop _ (96 :: bl g.2.1 ++ _)) = _
        rw [List.drop_left]
theorem plain_glyphs : ∀ l : Bs, (∀ b ∈ l, b ≠ 96) → tl TG l = l := by_length fun l ih hp => by
  cases l with
  | nil => rfl
  | cons c l =>
    cases hf : fnd (c :: l) allG with
    | none => rw [tl_none TG c l hf, ih l (by simp) (fun b hb => hp b (by simp [hb]))]
    | some y =>
      obtain ⟨g, a⟩ := y
      obtain ⟨h1, h2⟩ := fnd_some hf
      have hl := hit_len h1 h2
      have hpre := hit_prefix h2
      have ha : a = bl g.1 := by
        rcases hit_cases h2 with h | ⟨rfl, _, _⟩
        · exact h
        · exact absurd (List.cons_prefix_cons.1 hpre).1.symm (hp c (by simp))
      have hr := ih ((c :: l).drop a.length) (by rw [List.length_drop]; simp only [List.length_cons]; omega) (fun b hb => hp b (List.mem_of_mem_drop hb))
      rw [tl_hit TG _ g a hf, hr]
      show bl g.1 ++ _ = _
      rw [← ha]
      obtain ⟨t, ht⟩ := hpre
      rw [← ht, List.drop_left]
theorem ascii_length : ∀ l : Bs, (tl TA l).length ≤ l.length := by_length fun l ih => by
  cases l with
  | nil => exact Nat.le_refl _
  | cons c l =>
    cases hf : fnd (c :: l) allG with
    | none => rw [tl_none TA c l hf]; have := ih l (by simp); simp only [List.length_cons]; omega
    | some y =>
      obtain ⟨g, a⟩ := y
      obtain ⟨h1, h2⟩ := fnd_some hf
      have hl := hit_len h1 h2
      have hpl := (hit_prefix h2).length_le
      have hr := ih ((c :: l).drop a.length) (by rw [List.length_drop]; simp only [List.length_cons]; omega)
      rw [tl_hit TA _ g a hf, List.length_append]
      rw [List.length_drop] at hr
      have : (TA g a).length ≤ a.length := by
        unfold TA
        split
        · exact Nat.le_refl _
        · rename_i hz
          have l1 := (fact_size g h1).2 hz
          have l2 := (fact_size g h1).1
          simp only [List.length_cons, l1]
          rcases hit_cases h2 with rfl | ⟨rfl, _, _⟩
          · have : (bl g.1).length ≠ 1 := fun e => hz (l2.2 e)
            omega
          · simp [l1]
      omega
theorem blank_dull : dull 32 = true := by decide +kernel
theorem prefix_blank {a s t : Bs} (ha : a.contains 32 = false) : a <+: s ++ 32 :: t ↔ a <+: s := by
  constructor
  · intro h
    rcases Nat.le_total a.length s.length with hl | hl
    · exact List.prefix_of_prefix_length_le h (List.prefix_append _ _) hl
    · have h2 : s <+: a := List.prefix_of_prefix_length_le (List.prefix_append _ _) h hl
      obtain ⟨r, rfl⟩ := h2
      cases r with
      | nil => simp
      | cons x r =>
        exfalso
        have h3 := (List.prefix_append_right_inj s).1 h
        obtain ⟨rfl, _⟩ := List.cons_prefix_cons.1 h3
        simp at ha
  · intro h; exact h.trans (List.prefix_append _ _)
theorem hit_blank {g : Gl} (hg : g ∈ allG) (s t : Bs) : hit (s ++ 32 :: t) g = hit s g := by
  obtain ⟨h1, h2⟩ := fact_blank g hg
  have h3 : (96 :: bl g.2.1).contains 32 = false := by
    rw [List.contains_cons, h2]; decide
  unfold hit
  simp only [prefix_blank h1, prefix_blank h3]
theorem fnd_blank (s t : Bs) : ∀ r, (∀ g ∈ r, g ∈ allG) → fnd (s ++ 32 :: t) r = fnd s r
  | [], _ => rfl
  | g :: r, h => by
    unfold fnd
    rw [hit_blank (h g (by simp)), fnd_blank s t r (fun x hx => h x (by simp [hx]))]
theorem parts (T : Gl → Bs → Bs) (t : Bs) : ∀ s : Bs, tl T (s ++ 32 :: t) = tl T s ++ 32 :: tl T t := by_length fun s ih => by
  cases s with
  | nil => exact tl_none T 32 t (fnd_dull blank_dull t)
  | cons c s =>
    have hb := fnd_blank (c :: s) t allG (fun _ h => h)
    cases hf : fnd (c :: s) allG with
    | none =>
      rw [hf, List.cons_append] at hb
      rw [List.cons_append, tl_none T c _ hb, tl_none T c s hf, ih s (by simp)]; rfl
    | some y =>
      obtain ⟨g, a⟩ := y
      obtain ⟨h1, h2⟩ := fnd_some hf
      have hl := hit_len h1 h2
      have hpl := (hit_prefix h2).length_le
      rw [hf] at hb
      rw [tl_hit T _ g a hb, tl_hit T _ g a hf, List.drop_append_of_le_length hpl, ih _ (by rw [List.length_drop]; simp only [List.length_cons]; omega), List.append_assoc]
end Go.Proofs.Ytophclimlepjoaa
