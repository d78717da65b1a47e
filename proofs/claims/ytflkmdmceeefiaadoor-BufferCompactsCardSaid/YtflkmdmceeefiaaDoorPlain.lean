/-
  Plain lists: pieces of a text, and what parts of them are. No program.
-/
namespace Go.Dia

def PcOk (x : Nat × Nat) : Prop := x.1 + x.2 ≤ 1099511627776
abbrev Pc := { x : Nat × Nat // PcOk x }

/-- the pieces that are not empty -/
def full (ps : List Pc) : List Pc := ps.filter fun x => x.1.2 != 0
theorem full_take_succ (ps : List Pc) (k : Nat) (h : k < ps.length) : full (ps.take (k + 1)) = if ps[k].1.2 = 0 then full (ps.take k) else full (ps.take k) ++ [ps[k]] := by
  rw [List.take_succ_eq_append_getElem h]
  unfold full
  rw [List.filter_append]
  split <;> simp_all
theorem full_prefix (ps : List Pc) (k : Nat) : full (ps.take k) <+: full ps := by
  unfold full
  obtain ⟨t, ht⟩ := List.take_prefix k ps
  exact ⟨t.filter _, by rw [← List.filter_append, ht]⟩

/-- how many bytes some pieces have -/
def total (ps : List Pc) : Nat := (ps.map fun x => x.1.2).sum
theorem total_nil : total [] = 0 := rfl
theorem total_cons (x : Pc) (l : List Pc) : total (x :: l) = x.1.2 + total l := by simp [total]
theorem total_append (a b : List Pc) : total (a ++ b) = total a + total b := by simp [total]
theorem total_full (ps : List Pc) : total (full ps) = total ps := by
  induction ps with
  | nil => rfl
  | cons x l ih =>
    unfold full total at *
    rw [List.filter_cons]
    split
    · simp [ih]
    · simp_all
theorem total_snoc (ps : List Pc) (x : Pc) : total (ps ++ [x]) = total ps + x.1.2 := by simp [total]
theorem total_le (ps : List Pc) : total ps ≤ 1099511627776 * ps.length := by
  induction ps with
  | nil => simp [total]
  | cons x l ih =>
    have h := x.2
    unfold PcOk at h
    rw [total_cons, List.length_cons]
    omega

/-- a piece's part -/
def cutPc (x : Pc) (lo hi : Nat) : Pc := ⟨(x.1.1 + min lo x.1.2, min hi x.1.2 - min lo x.1.2), by have h := x.2; unfold PcOk at *; simp only; omega⟩
/-- what 'part' adds at one piece, 'at' places ahead of it -/
def stepPc (a n : Int) (x : Pc) : List Pc := if max a 0 < min (a + n) x.1.2 then [cutPc x (max a 0).toNat (min (a + n) x.1.2).toNat] else []
def partL (a n : Int) : List Pc → List Pc
  | [] => []
  | x :: l => stepPc a n x ++ partL (a - x.1.2) n l
theorem partL_append (a n : Int) (l m : List Pc) : partL a n (l ++ m) = partL a n l ++ partL (a - total l) n m := by
  induction l generalizing a with
  | nil => simp [partL, total_nil]
  | cons x l ih =>
    rw [List.cons_append, partL, partL, ih, total_cons, List.append_assoc]
    congr 3
    omega
theorem partL_snoc (a n : Int) (l : List Pc) (x : Pc) : partL a n (l ++ [x]) = partL a n l ++ stepPc (a - total l) n x := by
  rw [partL_append]; simp [partL]
theorem partL_full (a n : Int) (l : List Pc) : partL a n (full l) = partL a n l := by
  induction l generalizing a with
  | nil => rfl
  | cons x l ih =>
    unfold full at *
    rw [List.filter_cons]
    split
    · rw [partL, partL, ih]
    · rename_i h
      have h0 : x.1.2 = 0 := by simpa using h
      rw [ih, partL]
      have : stepPc a n x = [] := by unfold stepPc; rw [h0, if_neg (by omega)]
      rw [this, h0]; simp
theorem stepPc_length (a n : Int) (x : Pc) : (stepPc a n x).length ≤ 1 := by unfold stepPc; split <;> simp
theorem partL_length (a n : Int) (l : List Pc) : (partL a n l).length ≤ l.length := by
  induction l generalizing a with
  | nil => simp [partL]
  | cons x l ih => have := ih (a - x.1.2); have := stepPc_length a n x; simp only [partL, List.length_append, List.length_cons]; omega
/-- every part is not empty -/
theorem partL_pos (a n : Int) (l : List Pc) : ∀ x ∈ partL a n l, 0 < x.1.2 := by
  induction l generalizing a with
  | nil => simp [partL]
  | cons y l ih =>
    intro x hx
    rw [partL, List.mem_append] at hx
    rcases hx with hx | hx
    · unfold stepPc at hx
      split at hx
      · rename_i h
        simp only [List.mem_singleton] at hx
        subst hx
        simp only [cutPc]
        omega
      · simp at hx
    · exact ih _ x hx
theorem full_of_pos (l : List Pc) (h : ∀ x ∈ l, 0 < x.1.2) : full l = l := by
  unfold full
  rw [List.filter_eq_self]
  intro x hx
  have := h x hx
  simp; omega
theorem full_part (a n : Int) (l : List Pc) : full (partL a n l) = partL a n l := full_of_pos _ (partL_pos a n l)

/-- the text -/
def textOf (laid : List UInt8) (ps : List Pc) : List UInt8 := ps.flatMap fun x => (laid.drop x.1.1).take x.1.2
def Valid (n : Nat) (ps : List Pc) : Prop := ∀ x ∈ ps, x.1.1 + x.1.2 ≤ n
theorem textOf_cons (laid : List UInt8) (x : Pc) (l : List Pc) : textOf laid (x :: l) = (laid.drop x.1.1).take x.1.2 ++ textOf laid l := by simp [textOf]
theorem textOf_append (laid : List UInt8) (a b : List Pc) : textOf laid (a ++ b) = textOf laid a ++ textOf laid b := by simp [textOf]
theorem textOf_length (laid : List UInt8) (ps : List Pc) (h : Valid laid.length ps) : (textOf laid ps).length = total ps := by
  induction ps with
  | nil => rfl
  | cons x l ih =>
    rw [textOf_cons, total_cons, List.length_append, ih (fun y hy => h y (List.mem_cons_of_mem _ hy))]
    have := h x List.mem_cons_self
    simp; omega
theorem textOf_more (laid more : List UInt8) (ps : List Pc) (h : Valid laid.length ps) : textOf (laid ++ more) ps = textOf laid ps := by
  induction ps with
  | nil => rfl
  | cons x l ih =>
    have := h x List.mem_cons_self
    rw [textOf_cons, textOf_cons, ih (fun y hy => h y (List.mem_cons_of_mem _ hy)), List.drop_append_of_le_length (by omega), List.take_append_of_le_length (by simp; omega)]
theorem stepPc_valid {m : Nat} (a n : Int) (x : Pc) (h : x.1.1 + x.1.2 ≤ m) : Valid m (stepPc a n x) := by
  intro y hy
  unfold stepPc at hy
  split at hy
  · simp only [List.mem_singleton] at hy
    subst hy
    simp only [cutPc]
    omega
  · simp at hy
theorem partL_valid {m : Nat} (a n : Int) (l : List Pc) (h : Valid m l) : Valid m (partL a n l) := by
  induction l generalizing a with
  | nil => intro y hy; simp [partL] at hy
  | cons x l ih =>
    intro y hy
    rw [partL, List.mem_append] at hy
    rcases hy with hy | hy
    · exact stepPc_valid a n x (h x List.mem_cons_self) y hy
    · exact ih _ (fun z hz => h z (List.mem_cons_of_mem _ hz)) y hy
theorem textOf_step (laid : List UInt8) (a n : Int) (x : Pc) (h : x.1.1 + x.1.2 ≤ laid.length) :
    textOf laid (stepPc a n x) = (((laid.drop x.1.1).take x.1.2).take (a + n).toNat).drop a.toNat := by
  unfold stepPc
  split
  · rename_i hc
    rw [textOf_cons]
    simp only [textOf, List.flatMap_nil, List.append_nil, cutPc]
    apply List.ext_getElem
    · simp; omega
    · intro i h1 h2
      simp only [List.getElem_take, List.getElem_drop]
      congr 1
      simp at h1
      omega
  · rename_i hc
    have : ((((laid.drop x.1.1).take x.1.2).take (a + n).toNat).drop a.toNat) = [] := by
      apply List.drop_eq_nil_of_le
      simp; omega
    rw [this]; rfl
theorem textOf_part (laid : List UInt8) (a n : Int) (ps : List Pc) (h : Valid laid.length ps) :
    textOf laid (partL a n ps) = ((textOf laid ps).take (a + n).toNat).drop a.toNat := by
  induction ps generalizing a with
  | nil => simp [partL, textOf]
  | cons x l ih =>
    have hx := h x List.mem_cons_self
    rw [partL, textOf_append, textOf_cons, ih _ (fun y hy => h y (List.mem_cons_of_mem _ hy)), textOf_step laid a n x hx, List.take_append, List.drop_append]
    have hl : ((laid.drop x.1.1).take x.1.2).length = x.1.2 := by simp; omega
    congr 1
    rw [hl]
    by_cases hc : (a + n).toNat ≤ x.1.2
    · rw [show (a - x.1.2 + n).toNat = 0 by omega, show (a + n).toNat - x.1.2 = 0 by omega]; simp
    · rw [show (a - x.1.2 + n).toNat = (a + n).toNat - x.1.2 by omega]
      congr 1
      rw [List.length_take, hl]; omega

theorem full_cons (x : Pc) (l : List Pc) : full (x :: l) = if x.1.2 = 0 then full l else x :: full l := by
  unfold full; rw [List.filter_cons]; by_cases h : x.1.2 = 0 <;> simp [h]
theorem full_append (a b : List Pc) : full (a ++ b) = full a ++ full b := by simp [full]
theorem full_length_total (l : List Pc) : (full l).length ≤ total l := by
  induction l with
  | nil => simp [full]
  | cons x l ih => rw [full_cons, total_cons]; split <;> (try simp only [List.length_cons]) <;> omega
theorem full_zero (l : List Pc) : (full l).length = 0 ↔ total l = 0 := by
  induction l with
  | nil => simp [full, total]
  | cons x l ih => rw [full_cons, total_cons]; split <;> simp_all
theorem parts_count (a n b m : Int) (l : List Pc) (hab : a + n ≤ b) : (partL a n l).length + (partL b m l).length ≤ (full l).length + (if 0 < a + n then 1 else 0) := by
  induction l generalizing a b with
  | nil => simp [partL]
  | cons x l ih =>
    have h1 := ih (a - x.1.2) (b - x.1.2) (by omega)
    rw [partL, partL, full_cons, List.length_append, List.length_append]
    have h2 := stepPc_length a n x
    have h3 := stepPc_length b m x
    by_cases hx : x.1.2 = 0
    · have e1 : (stepPc a n x).length = 0 := by unfold stepPc; rw [if_neg (by omega)]; rfl
      have e2 : (stepPc b m x).length = 0 := by unfold stepPc; rw [if_neg (by omega)]; rfl
      rw [if_pos hx]
      split at h1 <;> split <;> omega
    · rw [if_neg hx, List.length_cons]
      by_cases ha : 0 < a + n
      · rw [if_pos ha]
        by_cases hb : b < x.1.2
        · rw [if_neg (by omega)] at h1; omega
        · have e2 : (stepPc b m x).length = 0 := by unfold stepPc; rw [if_neg (by omega)]; rfl
          split at h1 <;> omega
      · have e1 : (stepPc a n x).length = 0 := by unfold stepPc; rw [if_neg (by omega)]; rfl
        rw [if_neg ha]
        rw [if_neg (by omega)] at h1
        omega
end Go.Dia
