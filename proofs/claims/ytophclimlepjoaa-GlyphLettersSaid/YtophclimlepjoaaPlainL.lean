/- glyphs over lists of bytes: the plain laws. -/
import Derived.Test.YtophclimlepjoaaTurnP
namespace Go.Proofs.Ytophclimlepjoaa

abbrev Bs := List UInt8
def bl (b : ByteArray) : Bs := b.data.toList
theorem bl_extract (s : ByteArray) (k : Nat) : bl (s.extract k s.size) = (bl s).drop k := by
  unfold bl
  rw [ByteArray.data_extract, Array.toList_extract, List.extract_eq_take_drop]
  rw [List.take_of_length_le]
  rw [List.length_drop, Array.length_toList]
  exact Nat.le_refl _
theorem bl_take (s : ByteArray) (k : Nat) : bl (s.extract 0 k) = (bl s).take k := by
  unfold bl
  rw [ByteArray.data_extract, Array.toList_extract, List.extract_eq_take_drop]
  simp
theorem bl_length (s : ByteArray) : (bl s).length = s.size := by unfold bl; rw [Array.length_toList]; rfl
theorem bl_append (a b : ByteArray) : bl (a ++ b) = bl a ++ bl b := by unfold bl; rw [ByteArray.data_append, Array.toList_append]
theorem bl_inj {a b : ByteArray} (h : bl a = bl b) : a = b := bytes_list h
theorem hasP_iff (s t : ByteArray) : hasP s t = true ↔ bl t <+: bl s := by
  unfold hasP
  rw [ByteArray.toList_eq, ByteArray.toList_eq]
  simp only [Bool.and_eq_true, decide_eq_true_eq, beq_iff_eq]
  rw [List.prefix_iff_eq_take, bl_length]
  constructor
  · rintro ⟨_, h⟩; rw [← bl_take]; exact h.symm
  · intro h
    refine ⟨?_, ?_⟩
    · have := congrArg List.length h
      rw [List.length_take, bl_length, bl_length] at this; omega
    · have := bl_take s t.size
      rw [← h] at this; exact this

/-- a glyph at the beginning -/
def hit (l : Bs) (g : Gl) : Option Bs := if bl g.1 <+: l then some (bl g.1) else if ¬ g.2.1 = ⟨#[]⟩ ∧ (96 :: bl g.2.1) <+: l then some (96 :: bl g.2.1) else none
def fnd (l : Bs) : List Gl → Option (Gl × Bs)
  | [] => none
  | g :: r => match hit l g with | some a => some (g, a) | none => fnd l r
theorem hit_of (s : ByteArray) (g : Gl) : hit (bl s) g = (hitG s g).map bl := by
  unfold hit hitG
  have e : bl (tick ++ g.2.1) = 96 :: bl g.2.1 := by rw [bl_append]; rfl
  by_cases h1 : hasP s g.1 = true
  · rw [if_pos h1, if_pos ((hasP_iff _ _).1 h1)]; rfl
  · rw [if_neg h1, if_neg (fun h => h1 ((hasP_iff _ _).2 h))]
    by_cases h2 : ¬ g.2.1 = ⟨#[]⟩ ∧ hasP s (tick ++ g.2.1) = true
    · rw [if_pos h2, if_pos ⟨h2.1, e ▸ (hasP_iff _ _).1 h2.2⟩]; simp [e]
    · rw [if_neg h2, if_neg (fun h => h2 ⟨h.1, (hasP_iff _ _).2 (e ▸ h.2)⟩)]; rfl
theorem fnd_of (s : ByteArray) : ∀ l, fnd (bl s) l = (findG s l).map (fun x => (x.1, bl x.2))
  | [] => rfl
  | g :: r => by
    unfold fnd findG
    rw [hit_of]
    cases hitG s g with
    | none => exact fnd_of s r
    | some a => rfl
theorem fnd_some {l : Bs} {r : List Gl} {g : Gl} {a : Bs} (h : fnd l r = some (g, a)) : g ∈ r ∧ hit l g = some a := by
  induction r with
  | nil => cases h
  | cons x r ih =>
    unfold fnd at h
    cases hx : hit l x with
    | none => rw [hx] at h; obtain ⟨h1, h2⟩ := ih h; exact ⟨List.mem_cons_of_mem _ h1, h2⟩
    | some b =>
      rw [hx] at h
      simp only [Option.some.injEq, Prod.mk.injEq] at h
      obtain ⟨rfl, rfl⟩ := h
      exact ⟨by simp, hx⟩
theorem fnd_none_iff {l : Bs} {r : List Gl} : fnd l r = none ↔ ∀ x ∈ r, hit l x = none := by
  induction r with
  | nil => simp [fnd]
  | cons x r ih =>
    unfold fnd
    cases hx : hit l x with
    | none => simp [hx, ih]
    | some b => simp [hx]
theorem fnd_one {l : Bs} {r : List Gl} {g : Gl} {a : Bs} (hg : g ∈ r) (ha : hit l g = some a) (h : ∀ x ∈ r, ∀ b, hit l x = some b → x = g) : fnd l r = some (g, a) := by
  cases hf : fnd l r with
  | none => rw [fnd_none_iff.1 hf g hg] at ha; cases ha
  | some y =>
    obtain ⟨x, b⟩ := y
    obtain ⟨h1, h2⟩ := fnd_some hf
    obtain rfl := h x h1 b h2
    rw [ha] at h2; cases h2; rfl
theorem hit_prefix {l : Bs} {g : Gl} {a : Bs} (h : hit l g = some a) : a <+: l := by
  unfold hit at h
  split at h
  · rename_i h1; cases h; exact h1
  · split at h
    · rename_i h2; cases h; exact h2.2
    · cases h
theorem hit_cases {l : Bs} {g : Gl} {a : Bs} (h : hit l g = some a) : a = bl g.1 ∨ (a = 96 :: bl g.2.1 ∧ ¬ g.2.1 = ⟨#[]⟩ ∧ ¬ bl g.1 <+: l) := by
  unfold hit at h
  split at h
  · cases h; exact .inl rfl
  · rename_i h1
    split at h
    · rename_i h2; cases h; exact .inr ⟨rfl, h2.1, h1⟩
    · cases h
/-- a text is turned -/
def tlF (T : Gl → Bs → Bs) : Nat → Bs → Bs
  | 0, _ => []
  | _ + 1, [] => []
  | n + 1, c :: l => match fnd (c :: l) allG with | some (g, a) => T g a ++ tlF T n ((c :: l).drop a.length) | none => c :: tlF T n l
def tl (T : Gl → Bs → Bs) (l : Bs) : Bs := tlF T l.length l
theorem hit_len {l : Bs} {g : Gl} {a : Bs} (hg : g ∈ allG) (h : hit l g = some a) : 1 ≤ a.length := by
  rcases hit_cases h with rfl | ⟨rfl, _⟩
  · rw [bl_length]; exact (allG_size1 g hg).1
  · simp
theorem tlF_fuel (T : Gl → Bs → Bs) : ∀ (m n : Nat) (l : Bs), l.length ≤ m → m ≤ n → tlF T n l = tlF T m l
  | 0, 0, _, _, _ => rfl
  | 0, n + 1, [], _, _ => rfl
  | 0, n + 1, c :: l, h, _ => by simp at h
  | m + 1, 0, _, _, h => by omega
  | m + 1, n + 1, [], _, _ => rfl
  | m + 1, n + 1, c :: l, h, hn => by
    unfold tlF
    simp only [List.length_cons] at h
    cases hf : fnd (c :: l) allG with
    | none => simp only; rw [tlF_fuel T m n l (by omega) (by omega)]
    | some y =>
      obtain ⟨g, a⟩ := y
      obtain ⟨h1, h2⟩ := fnd_some hf
      have := hit_len h1 h2
      simp only
      rw [tlF_fuel T m n _ (by rw [List.length_drop, List.length_cons]; omega) (by omega)]
theorem tl_nil (T : Gl → Bs → Bs) : tl T [] = [] := rfl
theorem tl_none (T : Gl → Bs → Bs) (c : UInt8) (l : Bs) (h : fnd (c :: l) allG = none) : tl T (c :: l) = c :: tl T l := by
  unfold tl
  rw [List.length_cons]
  show (match fnd (c :: l) allG with | some (g, a) => T g a ++ tlF T l.length ((c :: l).drop a.length) | none => c :: tlF T l.length l) = _
  rw [h]
theorem tl_hit (T : Gl → Bs → Bs) (l : Bs) (g : Gl) (a : Bs) (h : fnd l allG = some (g, a)) : tl T l = T g a ++ tl T (l.drop a.length) := by
  obtain ⟨h1, h2⟩ := fnd_some h
  have hl := hit_len h1 h2
  have hp := (hit_prefix h2).length_le
  cases l with
  | nil => simp at hp; simp [hp] at hl
  | cons c l =>
    unfold tl
    rw [List.length_cons]
    show (match fnd (c :: l) allG with | some (g, a) => T g a ++ tlF T l.length ((c :: l).drop a.length) | none => c :: tlF T l.length l) = _
    rw [h]
    simp only
    congr 1
    exact tlF_fuel T _ _ _ (Nat.le_refl _) (by rw [List.length_drop, List.length_cons]; omega)
/-- by the length of a text -/
theorem by_length {p : Bs → Prop} (h : ∀ l, (∀ r, r.length < l.length → p r) → p l) : ∀ l, p l := fun l => by
  generalize hn : l.length = n
  induction n using Nat.strongRecOn generalizing l with
  | _ n ih => exact h l fun r hr => ih r.length (by omega) r rfl
def TG (g : Gl) (_ : Bs) : Bs := bl g.1
def TA (g : Gl) (a : Bs) : Bs := if g.2.1 = ⟨#[]⟩ then a else 96 :: bl g.2.1
theorem firstG_of_none {s : ByteArray} (h : findG s allG = none) : (firstG s).2.size = 0 := by unfold firstG; rw [h]; rfl
theorem turn_tl (T : Gl → ByteArray → ByteArray) (T' : Gl → Bs → Bs) (hT : ∀ g a, bl (T g a) = T' g (bl a)) : ∀ (n : Nat) (s : ByteArray), s.size = n → turnL T s = tl T' (bl s) := by
  intro n
  induction n using Nat.strongRecOn with
  | _ n ih =>
    intro s hs
    by_cases h0 : s.size = 0
    · rw [turnL_nil T s h0]
      have : bl s = [] := List.eq_nil_of_length_eq_zero (by rw [bl_length]; exact h0)
      rw [this]; rfl
    · rcases firstG_spec s with ⟨h1, h2⟩ | ⟨h1, h2, h3, h4, h5, h6⟩
      · have hz : (firstG s).2.size = 0 := by rw [h2]; rfl
        rw [turnL_one T s h0 hz, ih _ (by rw [ByteArray.size_extract]; omega) _ rfl, bl_extract]
        have hf : fnd (bl s) allG = none := by rw [fnd_of, h1]; rfl
        show bl (s.extract 0 1) ++ _ = _
        rw [bl_take]
        cases hl : bl s with
        | nil => exact absurd (by rw [← bl_length, hl]; rfl) h0
        | cons c l =>
          rw [hl] at hf
          rw [tl_none T' c l hf]; rfl
      · have hz : (firstG s).2.size ≠ 0 := by omega
        rw [turnL_glyph T s h0 hz, ih _ (by rw [ByteArray.size_extract]; omega) _ rfl, bl_extract]
        have hf : fnd (bl s) allG = some ((firstG s).1, bl (firstG s).2) := by rw [fnd_of, h2]; rfl
        rw [tl_hit T' _ _ _ hf, bl_length]
        congr 1
        exact hT _ _
theorem turnG (s : ByteArray) : turnL toG s = tl TG (bl s) := turn_tl toG TG (fun _ _ => rfl) _ s rfl
theorem turnA (s : ByteArray) : turnL toA s = tl TA (bl s) := turn_tl toA TA (fun g a => by
  unfold toA TA
  split
  · rfl
  · rw [bl_append]; rfl) _ s rfl
end Go.Proofs.Ytophclimlepjoaa
