/- The walk of the law BufferSplices. -/
import Derived.Test.YtflkmdmceeefiaaDoorFew
import Derived.Test.YtflkmdmceeefiaaDoorEnv
namespace Go.Proofs.YtflkmdmceeefiaaDoor
open Go.RowKit Go.Shelf Go.Dia

theorem OwnActs.at {w0 w W' : World} {B m : Nat} {t : ByteArray} {v : Value} {l : List Spl} (h : OwnActs w v l) (hA : At w0 w B t m) (hg : w.grownBy W' (some B)) : OwnActs W' v l := by
  obtain ⟨_, _, ⟨_, _, h4, _⟩, _⟩ := hA.t
  exact h.buf h4 hg
theorem spliceE (w0 w : World) (B m : Nat) (t : ByteArray) (h : At w0 w B t m) (hm : m ≤ 1000000) (at_ n : Int) (s : ByteArray) (hs : s.size ≤ 4010) (a0 a1 : Addr) (hv : Env w0 a0 a1) (t' : ByteArray) (c : Int) (hx : spl t at_ n s = (t', c)) (v : Value) (l : List Spl) (hO : OwnActs w v l) :
    Calls Tryd.prog 15 #[.pointer (some ⟨B, 0, none⟩), .int .i64 at_, .int .i64 n, .string s] w fun e W' => e = .returned (.int .i64 c) ∧ At w0 W' B t' (m + 4010) ∧ OwnActs W' v l ∧ w.grownBy W' (some B) :=
  (aSplice w0 w B m t h hm at_ n s hs a0 a1 hv).mono fun _ _ ⟨h1, h2, h3⟩ => by rw [hx] at h1 h3; exact ⟨h1, h3, hO.at h h2, h2⟩
theorem refSpliceE (w : World) (t : ByteArray) (at_ n : Int) (s : ByteArray) (ht : t.size ≤ 4000) (hs : s.size ≤ 4010) (t' : ByteArray) (c : Int) (hx : spl t at_ n s = (t', c)) :
    Calls Tryd.prog 14 #[.string t, .int .i64 at_, .int .i64 n, .string s] w fun e W' => e = .returned (.tuple #[.string t', .int .i64 c]) ∧ Below w.heap.size w W' :=
  (tRefSplice w t at_ n s ht hs).mono fun _ _ ⟨h1, h2⟩ => by rw [hx] at h1; exact ⟨h1, h2⟩
theorem fewL_le (l : List Spl) (n : Nat) : (fewL l n).length ≤ n := by simp [fewL]; omega
theorem fewL_size (l : List Spl) (n j : Nat) (h : j < (fewL l n).length) : (fewL l n)[j].2.2.size ≤ 4010 := by simp [fewL, cutB_size]
theorem blk_three {W : World} {X : Nat} {t : TypeId} {x y z : Value} (h : Blk W X t #[x, y, z]) : W.cell? ⟨X, 0, none⟩ = some x ∧ W.cell? ⟨X, 1, none⟩ = some y ∧ W.cell? ⟨X, 2, none⟩ = some z := ⟨h.cell 0, h.cell 1, h.cell 2⟩

set_option maxRecDepth 100000 in
set_option maxHeartbeats 4000000 in
theorem splices_long (w0 : World) (a0 a1 : Addr) (hv : Env w0 a0 a1) (s : ByteArray) (hs : s.size ≤ maxLen) (v : Value) (hl : 4000 < s.size) :
    Calls Tryd.prog 3 #[.string s, v] w0 fun e W' => e = .returned (.bool true) ∧ Below w0.heap.size w0 W' := by
  have hcs : Hid (4000 < (cutB s).size) := hid (by unfold cutB; simp; omega)
  go_enter Tryd.func3, Tryd.ntmps3
  go_wp2_with (first | (go_at_call 10; refine (shown_any w0 a0 a1 hv).mono ?_; rintro e w1 ⟨rfl, h1⟩) | (go_at_call 11; refine (cut_any _ s hs).mono ?_; rintro e w2 ⟨rfl, rfl⟩; have hcs' := hcs.out) | (go_at_call 12; refine (aNewFull w0 _ h1 a0 a1 hv _ hcs').mono ?_; rintro e w3 ⟨rfl, h3⟩))
  go_ret
  exact ⟨rfl, h3⟩

set_option maxRecDepth 100000 in
set_option maxHeartbeats 4000000 in
theorem splices_short (w0 : World) (a0 a1 : Addr) (hv : Env w0 a0 a1) (s : ByteArray) (hs : s.size ≤ 4000) (v : Value) (l : List Spl) (hI : IsActs w0 v l) :
    Calls Tryd.prog 3 #[.string s, v] w0 fun e W' => e = .returned (.bool true) ∧ Below w0.heap.size w0 W' := by
  have hcs : Hid (cutB s = s) := hid (cutB_self s (by omega))
  have hsm : s.size ≤ maxLen := by unfold maxLen; omega
  obtain ⟨F, hF⟩ : ∃ F, fewL l 40 = F := ⟨_, rfl⟩
  have HFS : Hid (∀ j (h : j < F.length), F[j].2.2.size ≤ 4010) := hid (by subst hF; exact fewL_size l 40)
  have hFl : F.length ≤ 40 := by subst hF; exact fewL_le l 40
  have HF := hid hF
  clear hF
  go_enter Tryd.func3, Tryd.ntmps3
  go_wp2_with (first | (go_at_call 10; refine (shown_any w0 a0 a1 hv).mono ?_; rintro e w1 ⟨rfl, h1⟩) | (go_at_call 11; refine (cut_any _ s hsm).mono ?_; rw [hcs.out]; rintro e w2 ⟨rfl, rfl⟩) | (go_at_call 12; refine (aNew w0 _ h1 _ hs).mono ?_; rintro e w3 ⟨B, hBe, rfl, h3, hA3⟩; clear hBe) | (go_at_call 13; refine (few_any _ _ l 40 (by omega) ((hI.below h1).below h3)).mono ?_; rw [HF.out]; rintro e w4 ⟨v4, rfl, hO4, h4⟩; have hA4 := hA3.step h4; obtain ⟨a4, c4, rfl⟩ := OwnActs.sl hO4))
  have hO4' : OwnActs w4 (.slice a4 F.length c4) F := hO4
  clear hO4 hI hA3
  go_loopw [0, 8] (fun x i wr => ∃ (k : Nat) (t : ByteArray), k ≤ F.length ∧ i = .int .i64 k ∧ x = .string t ∧ At w0 wr B t (4000 + 4010 * k) ∧ OwnActs wr (.slice a4 F.length c4) F) (fun _ i _ => F.length - (intOf i).toNat)
  case atStart => exact ⟨0, s, Nat.zero_le _, rfl, rfl, hA4, hO4'⟩
  case round =>
    obtain ⟨k, t, hk, rfl, rfl, hA, hO⟩ := hrel
    by_cases hlt : k < F.length
    · obtain ⟨gb, rfl, cA, cB, cC⟩ := hO.get k hlt
      have hxs := HFS.out k hlt
      obtain ⟨xa, hxa⟩ : ∃ xa, F[k].1 = xa := ⟨_, rfl⟩
      obtain ⟨xn, hxn⟩ : ∃ xn, F[k].2.1 = xn := ⟨_, rfl⟩
      obtain ⟨xs, hxs'⟩ : ∃ xs, F[k].2.2 = xs := ⟨_, rfl⟩
      rw [hxa] at cA; rw [hxn] at cB; rw [hxs'] at cC hxs
      clear hxa hxn hxs'
      obtain ⟨t', c, hsp⟩ : ∃ t' c, spl t xa xn xs = (t', c) := ⟨_, _, rfl⟩
      have HSP := hid hsp
      clear hsp
      have htz := hA.t.size
      have bX := Blk.new wr 31 #[.int .i64 xa, .int .i64 xn, .string xs]
      have g0 : Below wr.heap.size wr (wr.alloc (.cells #[.int .i64 xa, .int .i64 xn, .string xs] 31)) := grownBy.below (World.grownBy_alloc _ _ _)
      have hA1 := hA.step g0
      have hO1 := hO.below g0
      have hne : wr.heap.size ≠ B := by have := hA.t.lt; omega
      obtain ⟨x0, x1, x2⟩ := blk_three bX
      go_wp2_with (first | (go_at_call 14; refine (refSpliceE _ t xa xn xs htz hxs t' c HSP.out).mono ?_; rintro e w5 ⟨rfl, h5⟩; have hA5 := hA1.step h5; have hO5 := hO1.below h5; have bX5 := bX.below h5 bX.lt; obtain ⟨y0, y1, y2⟩ := blk_three bX5) | (go_at_call 15; refine (spliceE w0 _ B _ t hA5 (by omega) xa xn xs hxs a0 a1 hv t' c HSP.out _ _ hO5).mono ?_; rintro e w6 ⟨rfl, hA6, hO6, h6⟩; clear hA5 hO5) | (go_at_call 16; refine (aText w0 _ B _ _ hA6).mono ?_; rintro e w7 ⟨rfl, h7, hA7⟩; have hO7 := hO6.below h7) | (go_at_call 17; refine (aLen w0 _ B _ _ hA7).mono ?_; rintro e w8 ⟨rfl, h8, hA8⟩; have hO8 := hO7.below h8))
      go_roundw
      case rel => exact ⟨k + 1, t', by omega, by go_num, rfl, by rw [show 4000 + 4010 * (k + 1) = 4000 + 4010 * k + 4010 by omega]; exact hA8, hO8⟩
      case measure => simp [intOf]; omega
    · obtain rfl : k = F.length := by omega
      go_wp2
      go_ret
      exact ⟨rfl, hA.b⟩
end Go.Proofs.YtflkmdmceeefiaaDoor
