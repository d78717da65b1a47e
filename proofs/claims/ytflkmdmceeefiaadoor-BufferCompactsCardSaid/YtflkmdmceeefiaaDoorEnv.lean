/- The methods, with the two error values carried along; the known splice. -/
import Derived.Test.YtflkmdmceeefiaaDoorT
namespace Go.Proofs.YtflkmdmceeefiaaDoor
open Go.RowKit Go.Shelf Go.Dia

/-- the two error values lie where they were laid -/
structure Env (w : World) (a0 a1 : Addr) : Prop where
  v : Vars w a0 a1
  h0 : a0.block < w.heap.size
  h1 : a1.block < w.heap.size
theorem Env.two {w : World} {a0 a1 : Addr} (h : Env w a0 a1) : 2 ≤ w.heap.size := World.block_lt_of_cell? w _ h.v.c1
theorem Env.below {w w' : World} {a0 a1 : Addr} (h : Env w a0 a1) (hb : Below w.heap.size w w') : Env w' a0 a1 :=
  ⟨h.v.below hb h.two h.h0 h.h1, Nat.lt_of_lt_of_le h.h0 hb.size, Nat.lt_of_lt_of_le h.h1 hb.size⟩

/-- the world w, seen from w0: nothing that was there has turned, and block B, made since, is a buffer of text t -/
structure At (w0 w : World) (B : Nat) (t : ByteArray) (m : Nat) : Prop where
  b : Below w0.heap.size w0 w
  f : w0.heap.size ≤ B
  t : IsT w B t m
theorem At.step {w0 w w' : World} {B m : Nat} {t : ByteArray} (h : At w0 w B t m) (hb : Below w.heap.size w w') : At w0 w' B t m :=
  ⟨h.b.trans (hb.mono h.b.size), h.f, h.t.below hb⟩

theorem aNew (w0 w : World) (h : Below w0.heap.size w0 w) (s : ByteArray) (hs : s.size ≤ 4000) :
    Calls Tryd.prog 12 #[.string s] w fun e W' => ∃ B, w.heap.size = B ∧ e = .returned (.tuple #[.pointer (some ⟨B, 0, none⟩), .int .i64 0]) ∧ Below w.heap.size w W' ∧ At w0 W' B s 4000 :=
  (tNew w s hs).mono fun _ _ ⟨h1, h2, h3⟩ => ⟨_, rfl, h1, h2, h.trans (h2.mono h.size), h.size, h3⟩
theorem aNewFull (w0 w : World) (h : Below w0.heap.size w0 w) (a0 a1 : Addr) (hv : Env w0 a0 a1) (s : ByteArray) (hs : 4000 < s.size) :
    Calls Tryd.prog 12 #[.string s] w fun e W' => e = .returned (.tuple #[.pointer none, .int .i64 11]) ∧ Below w0.heap.size w0 W' :=
  (new_full w s hs a0 a1 (hv.below h).v).mono fun _ _ ⟨h1, h2⟩ => ⟨h1, h2 ▸ h⟩
theorem aText (w0 w : World) (B m : Nat) (t : ByteArray) (h : At w0 w B t m) :
    Calls Tryd.prog 16 #[.pointer (some ⟨B, 0, none⟩)] w fun e W' => e = .returned (.string t) ∧ Below w.heap.size w W' ∧ At w0 W' B t m :=
  (tText w B m t h.t).mono fun _ _ ⟨h1, h2⟩ => ⟨h1, h2, h.step h2⟩
theorem aLen (w0 w : World) (B m : Nat) (t : ByteArray) (h : At w0 w B t m) :
    Calls Tryd.prog 17 #[.pointer (some ⟨B, 0, none⟩)] w fun e W' => e = .returned (.int .i64 (t.size : Int)) ∧ Below w.heap.size w W' ∧ At w0 W' B t m :=
  (tLen w B m t h.t).mono fun _ _ ⟨h1, h2⟩ => ⟨h1, h2, h.step h2⟩
theorem aSplice (w0 w : World) (B m : Nat) (t : ByteArray) (h : At w0 w B t m) (hm : m ≤ 1000000) (at_ n : Int) (s : ByteArray) (hs : s.size ≤ 4010) (a0 a1 : Addr) (hv : Env w0 a0 a1) :
    Calls Tryd.prog 15 #[.pointer (some ⟨B, 0, none⟩), .int .i64 at_, .int .i64 n, .string s] w fun e W' => e = .returned (.int .i64 (spl t at_ n s).2) ∧ w.grownBy W' (some B) ∧ At w0 W' B (spl t at_ n s).1 (m + 4010) :=
  (tSplice w B m t h.t hm at_ n s hs a0 a1 (hv.below h.b).v (hv.below h.b).h0 (hv.below h.b).h1).mono fun _ _ ⟨h1, h2, h3⟩ => ⟨h1, h2, h.b.grown h2 h.b.size (fun k hk => by cases hk; exact h.f), h.f, h3⟩
theorem aRead (w0 w : World) (B m : Nat) (t : ByteArray) (h : At w0 w B t m) (at_ n : Int) (a0 a1 : Addr) (hv : Env w0 a0 a1) :
    Calls Tryd.prog 18 #[.pointer (some ⟨B, 0, none⟩), .int .i64 at_, .int .i64 n] w fun e W' => e = .returned (.tuple #[.string (rd t at_ n).1, .int .i64 (rd t at_ n).2]) ∧ Below w.heap.size w W' ∧ At w0 W' B t m :=
  (tRead w B m t h.t at_ n a0 a1 (hv.below h.b).v (hv.below h.b).h0 (hv.below h.b).h1).mono fun _ _ ⟨h1, h2⟩ => ⟨h1, h2, h.step h2⟩
theorem aPieces (w0 w : World) (B m : Nat) (t : ByteArray) (h : At w0 w B t m) :
    Calls Tryd.prog 20 #[.pointer (some ⟨B, 0, none⟩)] w fun e W' => ∃ c : Nat, e = .returned (.int .i64 (c : Int)) ∧ (c = 0 ↔ t.size = 0) ∧ c ≤ 4000 ∧ Below w.heap.size w W' ∧ At w0 W' B t m := by
  obtain ⟨l, p, h1, h2, h3, h4, h5⟩ := h.t.open
  have := h.t.size
  exact (pieces_any w B l p h1).mono fun _ _ ⟨h6, h7⟩ => ⟨_, h6, by rw [full_zero, h4], by have := full_length_total p; omega, h7, h.step h7⟩
theorem aCompact (w0 w : World) (B m : Nat) (t : ByteArray) (h : At w0 w B t m) :
    Calls Tryd.prog 21 #[.pointer (some ⟨B, 0, none⟩)] w fun e W' => e = .returned (.tuple #[]) ∧ w.grownBy W' (some B) ∧ At w0 W' B t 4000 := by
  obtain ⟨l, p, h1, h2, h3, h4, h5⟩ := h.t.open
  refine (compact_any w B l p h1).mono fun _ _ ⟨h6, h7, c, hc, h8, h9⟩ => ⟨h6, h7, h.b.grown h7 h.b.size (fun k hk => by cases hk; exact h.f), h.f, textOf l p, _, h9, ?_, ?_⟩
  · have e1 : (textOf l p).length = c := by rw [h2, h8, h4]; simp
    simp [textOf, whole]
    rw [List.take_of_length_le (by simpa [textOf] using Nat.le_of_eq e1)]
    exact h2
  · rw [h2]; have := h.t.size; simpa using this

theorem aSpliceE (w0 w : World) (B m : Nat) (t : ByteArray) (h : At w0 w B t m) (hm : m ≤ 1000000) (at_ n : Int) (s : ByteArray) (hs : s.size ≤ 4010) (a0 a1 : Addr) (hv : Env w0 a0 a1) (t' : ByteArray) (c : Int) (hx : spl t at_ n s = (t', c)) :
    Calls Tryd.prog 15 #[.pointer (some ⟨B, 0, none⟩), .int .i64 at_, .int .i64 n, .string s] w fun e W' => e = .returned (.int .i64 c) ∧ At w0 W' B t' (m + 4010) :=
  (aSplice w0 w B m t h hm at_ n s hs a0 a1 hv).mono fun _ _ ⟨h1, _, h3⟩ => by rw [hx] at h1 h3; exact ⟨h1, h3⟩
theorem aReadE (w0 w : World) (B m : Nat) (t : ByteArray) (h : At w0 w B t m) (at_ n : Int) (a0 a1 : Addr) (hv : Env w0 a0 a1) (x : ByteArray) (c : Int) (hx : rd t at_ n = (x, c)) :
    Calls Tryd.prog 18 #[.pointer (some ⟨B, 0, none⟩), .int .i64 at_, .int .i64 n] w fun e W' => e = .returned (.tuple #[.string x, .int .i64 c]) ∧ At w0 W' B t m :=
  (aRead w0 w B m t h at_ n a0 a1 hv).mono fun _ _ ⟨h1, _, h3⟩ => by rw [hx] at h1; exact ⟨h1, h3⟩

set_option maxRecDepth 100000 in
set_option maxHeartbeats 4000000 in
theorem shown_any (w0 : World) (a0 a1 : Addr) (hv : Env w0 a0 a1) : Calls Tryd.prog 10 #[] w0 fun e W' => e = .returned (.bool true) ∧ Below w0.heap.size w0 W' := by
  have E1 : Hid (spl ⟨#[97, 98, 99, 100, 101, 102]⟩ 2 3 ⟨#[120, 121]⟩ = (⟨#[97, 98, 120, 121, 102]⟩, 0)) := hid (by decide +kernel)
  have E2 : Hid (spl ⟨#[97, 98, 120, 121, 102]⟩ 6 0 ⟨#[]⟩ = (⟨#[97, 98, 120, 121, 102]⟩, 10)) := hid (by decide +kernel)
  have E3 : Hid (rd ⟨#[97, 98, 120, 121, 102]⟩ 1 3 = (⟨#[98, 120, 121]⟩, 0)) := hid (by decide +kernel)
  go_enter Tryd.func10, Tryd.ntmps10
  go_wp2_with (first | (go_at_call 12; refine (aNew w0 _ (Below.refl _ _) _ (by decide)).mono ?_; rintro e w1 ⟨B, hB, rfl, h1, hA1⟩; clear hB h1) | (go_at_call_of 15 (Value.int .i64 2); refine (aSpliceE w0 _ B _ _ hA1 (by omega) 2 3 _ (by decide) a0 a1 hv _ _ E1.out).mono ?_; rintro e w2 ⟨rfl, hA2⟩; clear hA1) | (go_at_call 18; refine (aReadE w0 _ B _ _ hA2 1 3 a0 a1 hv _ _ E3.out).mono ?_; rintro e w3 ⟨rfl, hA3⟩; clear hA2) | (go_at_call_of 15 (Value.int .i64 6); refine (aSpliceE w0 _ B _ _ hA3 (by omega) 6 0 _ (by decide) a0 a1 hv _ _ E2.out).mono ?_; rintro e w4 ⟨rfl, hA4⟩; clear hA3) | (go_at_call 16; refine (aText w0 _ B _ _ hA4).mono ?_; rintro e w5 ⟨rfl, h5, hA5⟩; clear hA4 h5) | (go_at_call 17; refine (aLen w0 _ B _ _ hA5).mono ?_; rintro e w6 ⟨rfl, h6, hA6⟩; clear hA5 h6) | (go_at_call 20; refine (aPieces w0 _ B _ _ hA6).mono ?_; rintro e w7 ⟨c, rfl, hc0, hc4, h7, hA7⟩; clear hA6 h7))
  have hc1 : (1 : Int) ≤ (c : Int) := by
    have : c ≠ 0 := fun e => absurd (hc0.1 e) (by decide)
    omega
  go_ret
  exact ⟨by simp [hc1], hA7.b⟩
end Go.Proofs.YtflkmdmceeefiaaDoor
