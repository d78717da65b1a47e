/- The methods of a buffer by its text alone. -/
import Derived.Test.YtflkmdmceeefiaaDoorCompact
import Derived.Test.YtflkmdmceeefiaaDoorNils
namespace Go.Proofs.YtflkmdmceeefiaaDoor
open Go.RowKit Go.Shelf Go.Dia

/-- block B is a buffer of this text, of so many bytes laid down at most -/
def IsT (W : World) (B : Nat) (t : ByteArray) (m : Nat) : Prop := ∃ laid ps, IsBuf W B laid ps ∧ textOf laid ps = t.data.toList ∧ laid.length ≤ m

theorem IsT.below {W W' : World} {B m : Nat} {t : ByteArray} (h : IsT W B t m) (hb : Below W.heap.size W W') : IsT W' B t m := by
  obtain ⟨l, p, h1, h2⟩ := h; exact ⟨l, p, h1.below hb, h2⟩
theorem IsT.lt {W : World} {B m : Nat} {t : ByteArray} (h : IsT W B t m) : B < W.heap.size := by obtain ⟨l, p, h1, h2⟩ := h; exact h1.lt
theorem IsT.mono {W : World} {B m k : Nat} {t : ByteArray} (h : IsT W B t m) (hk : m ≤ k) : IsT W B t k := by
  obtain ⟨l, p, h1, h2, h3⟩ := h; exact ⟨l, p, h1, h2, by omega⟩
theorem IsT.size {W : World} {B m : Nat} {t : ByteArray} (h : IsT W B t m) : t.size ≤ 4000 := by
  obtain ⟨l, p, ⟨_, _, _, _, _, _, _, hv, _, ht⟩, h2, h3⟩ := h
  have := textOf_length l p hv
  rw [h2] at this
  have e : t.data.toList.length = t.size := by simp
  omega
theorem IsT.other {W W' : World} {A B m k : Nat} {t u : ByteArray} (h : IsT W B t m) (hA : IsT W A u k) (hne : A ≠ B) (hg : W.grownBy W' (some A)) : IsT W' B t m := by
  obtain ⟨l, p, h1, h2⟩ := h
  obtain ⟨l', p', ⟨vl, vp, h4, _⟩, _⟩ := hA
  exact ⟨l, p, h1.other h4 hne hg, h2⟩
theorem IsT.open {W : World} {B m : Nat} {t : ByteArray} (h : IsT W B t m) : ∃ laid ps, IsBuf W B laid ps ∧ textOf laid ps = t.data.toList ∧ laid.length ≤ m ∧ total ps = t.size ∧ (⟨(textOf laid ps).toArray⟩ : ByteArray) = t := by
  obtain ⟨l, p, h0, h2, h3⟩ := h
  have h0' := h0
  obtain ⟨_, _, _, _, _, _, _, hv, _, ht⟩ := h0'
  have := textOf_length l p hv
  rw [h2] at this
  have e : t.data.toList.length = t.size := by simp
  refine ⟨l, p, h0, h2, h3, by omega, ?_⟩
  rw [h2]

theorem tNew (w : World) (s : ByteArray) (hs : s.size ≤ 4000) :
    Calls Tryd.prog 12 #[.string s] w fun e W' => e = .returned (.tuple #[.pointer (some ⟨w.heap.size, 0, none⟩), .int .i64 0]) ∧ Below w.heap.size w W' ∧ IsT W' w.heap.size s 4000 :=
  (new_ok w s hs).mono fun e W' ⟨h1, h2, h3⟩ => ⟨h1, h2, _, _, h3, by simp [textOf, whole, List.take_of_length_le], by simpa using hs⟩
theorem tText (w : World) (B m : Nat) (t : ByteArray) (h : IsT w B t m) :
    Calls Tryd.prog 16 #[.pointer (some ⟨B, 0, none⟩)] w fun e W' => e = .returned (.string t) ∧ Below w.heap.size w W' := by
  obtain ⟨l, p, h1, h2, h3, h4, h5⟩ := h.open
  have := text_any w B l p h1
  rwa [h5] at this
theorem tLen (w : World) (B m : Nat) (t : ByteArray) (h : IsT w B t m) :
    Calls Tryd.prog 17 #[.pointer (some ⟨B, 0, none⟩)] w fun e W' => e = .returned (.int .i64 (t.size : Int)) ∧ Below w.heap.size w W' := by
  obtain ⟨l, p, h1, h2, h3, h4, h5⟩ := h.open
  have := len_any w B l p h1
  rwa [h4] at this
/-- a splice's answer -/
def spl (t : ByteArray) (at_ n : Int) (s : ByteArray) : ByteArray × Int :=
  if Bad t.size at_ n then (t, 10) else if 4000 < (t.size : Int) - n + s.size then (t, 11) else (put t at_ n s, 0)
theorem put_toList (t : ByteArray) (at_ n : Int) (s : ByteArray) : (put t at_ n s).data.toList = t.data.toList.take at_.toNat ++ s.data.toList ++ t.data.toList.drop (at_ + n).toNat := by
  unfold put
  simp [ByteArray.data_append, ByteArray.data_extract, List.extract_eq_take_drop, List.take_of_length_le]
theorem bad_iff {size at_ n : Int} (h : ¬ Bad size at_ n) : 0 ≤ at_ ∧ at_ ≤ size ∧ 0 ≤ n ∧ n ≤ size - at_ := by unfold Bad at h; omega
theorem tSplice (w : World) (B m : Nat) (t : ByteArray) (h : IsT w B t m) (hm : m ≤ 1000000) (at_ n : Int) (s : ByteArray) (hs : s.size ≤ 4010) (a0 a1 : Addr) (hv : Vars w a0 a1) (h2 : a0.block < w.heap.size) (h3 : a1.block < w.heap.size) :
    Calls Tryd.prog 15 #[.pointer (some ⟨B, 0, none⟩), .int .i64 at_, .int .i64 n, .string s] w fun e W' => e = .returned (.int .i64 (spl t at_ n s).2) ∧ w.grownBy W' (some B) ∧ IsT W' B (spl t at_ n s).1 (m + 4010) := by
  obtain ⟨l, p, h1, k2, k3, h4, h5⟩ := h.open
  unfold spl
  split
  · rename_i hb
    exact (splice_bad w B l p h1 at_ n s a0 a1 hv h2 h3 (by rw [h4]; exact hb)).mono fun e W' ⟨h6, h7⟩ => ⟨h6, Below.grow h7 _, (h.below h7).mono (by omega)⟩
  · rename_i hb
    obtain ⟨c1, c2, c3, c4⟩ := bad_iff hb
    split
    · rename_i hf
      exact (splice_full w B l p h1 at_ n s a0 a1 hv h2 h3 c1 (by omega) c3 (by omega) (by omega) (by omega)).mono fun e W' ⟨h6, h7⟩ => ⟨h6, Below.grow h7 _, (h.below h7).mono (by omega)⟩
    · rename_i hf
      refine (splice_ok w B l p h1 at_ n s c1 (by omega) c3 (by omega) (by omega) (by omega)).mono fun e W' ⟨h6, h7, h8⟩ => ⟨h6, h7, _, _, h8, ?_, by simp; omega⟩
      have hval : Valid l.length p := by obtain ⟨_, _, _, _, _, _, _, hv, _, ht⟩ := h1; exact hv
      have e1 : s.data.toList.length = s.size := by simp
      have := spliced_text l s.data.toList (by omega) p at_ n hval
      simp only [e1] at this
      rw [this, k2, put_toList]
theorem tRefSplice (w : World) (t : ByteArray) (at_ n : Int) (s : ByteArray) (ht : t.size ≤ 4000) (hs : s.size ≤ 4010) :
    Calls Tryd.prog 14 #[.string t, .int .i64 at_, .int .i64 n, .string s] w fun e W' => e = .returned (.tuple #[.string (spl t at_ n s).1, .int .i64 (spl t at_ n s).2]) ∧ Below w.heap.size w W' := by
  unfold spl
  split
  · rename_i hb
    exact (refSplice_bad w t at_ n s ht hb).mono fun e W' ⟨h6, h7⟩ => ⟨h6, h7 ▸ Below.refl _ _⟩
  · rename_i hb
    split
    · rename_i hf
      exact (refSplice_full w t at_ n s ht hs hb hf).mono fun e W' ⟨h6, h7⟩ => ⟨h6, h7 ▸ Below.refl _ _⟩
    · rename_i hf
      exact refSplice_ok w t at_ n s ht hs hb (by omega)
/-- a read's answer -/
def rd (t : ByteArray) (at_ n : Int) : ByteArray × Int := if Bad t.size at_ n then (⟨#[]⟩, 10) else (t.extract at_.toNat (at_ + n).toNat, 0)
theorem tRead (w : World) (B m : Nat) (t : ByteArray) (h : IsT w B t m) (at_ n : Int) (a0 a1 : Addr) (hv : Vars w a0 a1) (h2 : a0.block < w.heap.size) (h3 : a1.block < w.heap.size) :
    Calls Tryd.prog 18 #[.pointer (some ⟨B, 0, none⟩), .int .i64 at_, .int .i64 n] w fun e W' => e = .returned (.tuple #[.string (rd t at_ n).1, .int .i64 (rd t at_ n).2]) ∧ Below w.heap.size w W' := by
  obtain ⟨l, p, h1, k2, k3, h4, h5⟩ := h.open
  unfold rd
  split
  · rename_i hb
    exact read_bad w B l p h1 at_ n a0 a1 hv h2 h3 (by rw [h4]; exact hb)
  · rename_i hb
    obtain ⟨c1, c2, c3, c4⟩ := bad_iff hb
    have := read_ok w B l p h1 at_ n c1 (by omega) c3 (by omega)
    have e : (⟨(readOf (textOf l p) at_ n).toArray⟩ : ByteArray) = t.extract at_.toNat (at_ + n).toNat := by
      apply ByteArray.ext
      apply Array.toList_inj.1
      rw [k2]
      simp [readOf, ByteArray.data_extract, List.extract_eq_take_drop, List.drop_take]
    rwa [e] at this
theorem tRefRead (w : World) (t : ByteArray) (at_ n : Int) (ht : t.size ≤ 4000) :
    Calls Tryd.prog 19 #[.string t, .int .i64 at_, .int .i64 n] w fun e W' => e = .returned (.tuple #[.string (rd t at_ n).1, .int .i64 (rd t at_ n).2]) ∧ W' = w := by
  unfold rd
  split
  · rename_i hb; exact refRead_bad w t at_ n ht hb
  · rename_i hb; exact refRead_ok w t at_ n ht hb
end Go.Proofs.YtflkmdmceeefiaaDoor
