/- The methods of a buffer with the number of its pieces carried along; two buffers side by side. -/
import Derived.Test.YtflkmdmceeefiaaDoorLaw3
namespace Go.Proofs.YtflkmdmceeefiaaDoor
open Go.RowKit Go.Shelf Go.Dia

/-- as At, and the buffer has so many pieces that are not empty -/
structure AtC (w0 w : World) (B : Nat) (t : ByteArray) (m c : Nat) : Prop where
  b : Below w0.heap.size w0 w
  f : w0.heap.size ≤ B
  t : ∃ laid ps, IsBuf w B laid ps ∧ textOf laid ps = t.data.toList ∧ laid.length ≤ m ∧ (full ps).length = c
theorem AtC.at {w0 w : World} {B m c : Nat} {t : ByteArray} (h : AtC w0 w B t m c) : At w0 w B t m := by
  obtain ⟨l, p, h1, h2, h3, h4⟩ := h.t; exact ⟨h.b, h.f, l, p, h1, h2, h3⟩
theorem At.cnt {w0 w : World} {B m : Nat} {t : ByteArray} (h : At w0 w B t m) : ∃ c, AtC w0 w B t m c := by
  obtain ⟨l, p, h1, h2, h3⟩ := h.t; exact ⟨_, h.b, h.f, l, p, h1, h2, h3, rfl⟩
theorem AtC.step {w0 w w' : World} {B m c : Nat} {t : ByteArray} (h : AtC w0 w B t m c) (hb : Below w.heap.size w w') : AtC w0 w' B t m c := by
  obtain ⟨l, p, h1, h2, h3, h4⟩ := h.t; exact ⟨h.b.trans (hb.mono h.b.size), h.f, l, p, h1.below hb, h2, h3, h4⟩
theorem AtC.le {w0 w : World} {B m c : Nat} {t : ByteArray} (h : AtC w0 w B t m c) : c ≤ t.size ∧ (c = 0 ↔ t.size = 0) := by
  obtain ⟨l, p, ⟨_, _, _, _, _, _, _, hv, _, ht⟩, h2, h3, h4⟩ := h.t
  have e := textOf_length l p hv
  rw [h2] at e
  have e1 : t.data.toList.length = t.size := Array.length_toList
  have h5 := full_length_total p
  have h6 := full_zero p
  exact ⟨by omega, by rw [← h4, h6]; omega⟩
theorem AtC.other {w0 w W' : World} {A B m c k : Nat} {t u : ByteArray} (h : AtC w0 w B t m c) (hA : At w0 w A u k) (hne : A ≠ B) (hg : w.grownBy W' (some A)) : AtC w0 W' B t m c := by
  obtain ⟨l, p, h1, h2, h3, h4⟩ := h.t
  obtain ⟨_, _, ⟨_, _, h5, _⟩, _⟩ := hA.t
  exact ⟨h.b.grown hg h.b.size (fun k hk => by cases hk; exact hA.f), h.f, l, p, h1.other h5 hne hg, h2, h3, h4⟩
theorem At.other {w0 w W' : World} {A B m k : Nat} {t u : ByteArray} (h : At w0 w B t m) (hA : At w0 w A u k) (hne : A ≠ B) (hg : w.grownBy W' (some A)) : At w0 W' B t m := by
  obtain ⟨c, hc⟩ := h.cnt; exact (hc.other hA hne hg).at

theorem cPieces (w0 w : World) (B m c : Nat) (t : ByteArray) (h : AtC w0 w B t m c) :
    Calls Tryd.prog 20 #[.pointer (some ⟨B, 0, none⟩)] w fun e W' => e = .returned (.int .i64 (c : Int)) ∧ Below w.heap.size w W' ∧ AtC w0 W' B t m c := by
  obtain ⟨l, p, h1, h2, h3, h4⟩ := h.t
  exact (pieces_any w B l p h1).mono fun _ _ ⟨h6, h7⟩ => ⟨by rw [← h4]; exact h6, h7, h.step h7⟩
theorem whole_count (m : Nat) (h : m ≤ 4000) : (full [whole m h]).length = min 1 m := by
  rw [full_cons]
  by_cases h0 : (whole m h).1.2 = 0
  · rw [if_pos h0]
    have h1 : m = 0 := h0
    subst h1
    rfl
  · rw [if_neg h0]
    have h1 : m ≠ 0 := h0
    simp only [full, List.filter_nil, List.length_cons, List.length_nil]
    omega
theorem cCompact (w0 w : World) (B m : Nat) (t : ByteArray) (h : At w0 w B t m) :
    Calls Tryd.prog 21 #[.pointer (some ⟨B, 0, none⟩)] w fun e W' => e = .returned (.tuple #[]) ∧ w.grownBy W' (some B) ∧ AtC w0 W' B t 4000 (min 1 t.size) := by
  obtain ⟨l, p, h1, h2, h3, h4, h5⟩ := h.t.open
  refine (compact_any w B l p h1).mono fun _ _ ⟨h6, h7, c, hc, h8, h9⟩ => ⟨h6, h7, h.b.grown h7 h.b.size (fun k hk => by cases hk; exact h.f), h.f, textOf l p, _, h9, ?_, ?_, ?_⟩
  · have e1 : (textOf l p).length = c := by rw [h2, h8, h4]; simp
    simp [textOf, whole]
    rw [List.take_of_length_le (by simpa [textOf] using Nat.le_of_eq e1)]
    exact h2
  · rw [h2]; have := h.t.size; simpa using this
  · rw [whole_count]; omega
theorem spliced_count (L m : Nat) (hL : L + m ≤ 1099511627776) (ps : List Pc) (at_ n : Int) (k3 : 0 ≤ n) : (full (spliced L m hL ps at_ n)).length ≤ (full ps).length + 2 := by
  have h := parts_count 0 at_ (at_ + n) ((total ps : Int) - at_ - n) ps (by omega)
  unfold spliced
  rw [full_append, full_cons, full_part, full_part, List.length_append]
  split at h <;> (split <;> (try rw [List.length_cons])) <;> omega
theorem cSplice (w0 w : World) (B m c : Nat) (t : ByteArray) (h : AtC w0 w B t m c) (hm : m ≤ 1000000) (at_ n : Int) (s : ByteArray) (hs : s.size ≤ 4010) (a0 a1 : Addr) (hv : Env w0 a0 a1) :
    Calls Tryd.prog 15 #[.pointer (some ⟨B, 0, none⟩), .int .i64 at_, .int .i64 n, .string s] w fun e W' => ∃ c', c' ≤ c + 2 ∧ e = .returned (.int .i64 (spl t at_ n s).2) ∧ w.grownBy W' (some B) ∧ AtC w0 W' B (spl t at_ n s).1 (m + 4010) c' := by
  obtain ⟨l, p, h1, k2, k3, hcnt⟩ := h.t
  have hval : Valid l.length p := by obtain ⟨_, _, _, _, _, _, _, hv, _, ht⟩ := h1; exact hv
  have h4 : total p = t.size := by
    have := textOf_length l p hval
    rw [k2] at this
    have e1 : t.data.toList.length = t.size := Array.length_toList
    omega
  have hb0 := h.b
  have hE := hv.below hb0
  unfold spl
  split
  · rename_i hb
    exact (splice_bad w B l p h1 at_ n s a0 a1 hE.v hE.h0 hE.h1 (by rw [h4]; exact hb)).mono fun _ _ ⟨h6, h7⟩ => ⟨c, by omega, h6, Below.grow h7 _, hb0.trans (h7.mono hb0.size), h.f, l, p, h1.below h7, k2, by omega, hcnt⟩
  · rename_i hb
    obtain ⟨c1, c2, c3, c4⟩ := bad_iff hb
    split
    · rename_i hf
      exact (splice_full w B l p h1 at_ n s a0 a1 hE.v hE.h0 hE.h1 c1 (by omega) c3 (by omega) (by omega) (by omega)).mono fun _ _ ⟨h6, h7⟩ => ⟨c, by omega, h6, Below.grow h7 _, hb0.trans (h7.mono hb0.size), h.f, l, p, h1.below h7, k2, by omega, hcnt⟩
    · rename_i hf
      refine (splice_ok w B l p h1 at_ n s c1 (by omega) c3 (by omega) (by omega) (by omega)).mono fun _ _ ⟨h6, h7, h8⟩ => ⟨_, ?_, h6, h7, hb0.grown h7 hb0.size (fun k hk => by cases hk; exact h.f), h.f, _, _, h8, ?_, by simp; omega, rfl⟩
      · have := spliced_count l.length s.size (by omega) p at_ n c3; omega
      · have e1 : s.data.toList.length = s.size := by simp
        have := spliced_text l s.data.toList (by omega) p at_ n hval
        simp only [e1] at this
        rw [this, k2, put_toList]
theorem cSpliceE (w0 w : World) (B m c : Nat) (t : ByteArray) (h : AtC w0 w B t m c) (hm : m ≤ 1000000) (at_ n : Int) (s : ByteArray) (hs : s.size ≤ 4010) (a0 a1 : Addr) (hv : Env w0 a0 a1) (t' : ByteArray) (d : Int) (hx : spl t at_ n s = (t', d)) (v : Value) (l : List Spl) (hO : OwnActs w v l) :
    Calls Tryd.prog 15 #[.pointer (some ⟨B, 0, none⟩), .int .i64 at_, .int .i64 n, .string s] w fun e W' => ∃ c', c' ≤ c + 2 ∧ e = .returned (.int .i64 d) ∧ AtC w0 W' B t' (m + 4010) c' ∧ OwnActs W' v l ∧ w.grownBy W' (some B) :=
  (cSplice w0 w B m c t h hm at_ n s hs a0 a1 hv).mono fun _ _ ⟨c', h0, h1, h2, h3⟩ => by rw [hx] at h1 h3; exact ⟨c', h0, h1, h3, hO.at h.at h2, h2⟩
end Go.Proofs.YtflkmdmceeefiaaDoor
