/- The walk of the law BufferReads. -/
import Derived.Test.YtflkmdmceeefiaaDoorLaw3
namespace Go.Proofs.YtflkmdmceeefiaaDoor
open Go.RowKit Go.Shelf Go.Dia

theorem refReadE (w : World) (t : ByteArray) (at_ n : Int) (ht : t.size ≤ 4000) (y : ByteArray) (c : Int) (hx : rd t at_ n = (y, c)) :
    Calls Tryd.prog 19 #[.string t, .int .i64 at_, .int .i64 n] w fun e W' => e = .returned (.tuple #[.string y, .int .i64 c]) ∧ W' = w :=
  (tRefRead w t at_ n ht).mono fun _ _ ⟨h1, h2⟩ => by rw [hx] at h1; exact ⟨h1, h2⟩

set_option maxRecDepth 100000 in
set_option maxHeartbeats 4000000 in
theorem reads_long (w0 : World) (a0 a1 : Addr) (hv : Env w0 a0 a1) (s : ByteArray) (hs : s.size ≤ maxLen) (v : Value) (hl : 4000 < s.size) (at_ n : Int) :
    Calls Tryd.prog 4 #[.string s, v, .int .i64 at_, .int .i64 n] w0 fun e W' => e = .returned (.bool true) ∧ Below w0.heap.size w0 W' := by
  have hcs : Hid (4000 < (cutB s).size) := hid (by unfold cutB; simp; omega)
  go_enter Tryd.func4, Tryd.ntmps4
  go_wp2_with (first | (go_at_call 10; refine (shown_any w0 a0 a1 hv).mono ?_; rintro e w1 ⟨rfl, h1⟩) | (go_at_call 11; refine (cut_any _ s hs).mono ?_; rintro e w2 ⟨rfl, rfl⟩; have hcs' := hcs.out) | (go_at_call 12; refine (aNewFull w0 _ h1 a0 a1 hv _ hcs').mono ?_; rintro e w3 ⟨rfl, h3⟩))
  go_ret
  exact ⟨rfl, h3⟩

set_option maxRecDepth 100000 in
set_option maxHeartbeats 4000000 in
theorem reads_short (w0 : World) (a0 a1 : Addr) (hv : Env w0 a0 a1) (s : ByteArray) (hs : s.size ≤ 4000) (v : Value) (l : List Spl) (hI : IsActs w0 v l) (at_ n : Int) :
    Calls Tryd.prog 4 #[.string s, v, .int .i64 at_, .int .i64 n] w0 fun e W' => e = .returned (.bool true) ∧ Below w0.heap.size w0 W' := by
  have hcs : Hid (cutB s = s) := hid (cutB_self s (by omega))
  have hsm : s.size ≤ maxLen := by unfold maxLen; omega
  obtain ⟨F, hF⟩ : ∃ F, fewL l 40 = F := ⟨_, rfl⟩
  have HFS : Hid (∀ j (h : j < F.length), F[j].2.2.size ≤ 4010) := hid (by subst hF; exact fewL_size l 40)
  have hFl : F.length ≤ 40 := by subst hF; exact fewL_le l 40
  have HF := hid hF
  clear hF
  go_enter Tryd.func4, Tryd.ntmps4
  go_wp2_with (first | (go_at_call 10; refine (shown_any w0 a0 a1 hv).mono ?_; rintro e w1 ⟨rfl, h1⟩) | (go_at_call 11; refine (cut_any _ s hsm).mono ?_; rw [hcs.out]; rintro e w2 ⟨rfl, rfl⟩) | (go_at_call 12; refine (aNew w0 _ h1 _ hs).mono ?_; rintro e w3 ⟨B, hBe, rfl, h3, hA3⟩; clear hBe) | (go_at_call 13; refine (few_any _ _ l 40 (by omega) ((hI.below h1).below h3)).mono ?_; rw [HF.out]; rintro e w4 ⟨v4, rfl, hO4, h4⟩; have hA4 := hA3.step h4; obtain ⟨a4, c4, rfl⟩ := OwnActs.sl hO4))
  have hO4' : OwnActs w4 (.slice a4 F.length c4) F := hO4
  clear hO4 hI hA3
  go_loopw [0, 12] (fun x i wr => ∃ (k : Nat) (t : ByteArray), k ≤ F.length ∧ i = .int .i64 k ∧ x = .string t ∧ At w0 wr B t (4000 + 4010 * k) ∧ OwnActs wr (.slice a4 F.length c4) F) (fun _ i _ => F.length - (intOf i).toNat)
  case atStart => exact ⟨0, s, Nat.zero_le _, rfl, rfl, hA4, hO4'⟩
  case round =>
    obtain ⟨k, t, hk, rfl, rfl, hA, hO⟩ := hrel
    by_cases hlt : k < F.length
    · obtain ⟨gb, rfl, cA, cB, cC⟩ := hO.get k hlt
      have hxs := HFS.out k hlt
      obtain ⟨xa, hxa⟩ : ∃ xa, F[k].1 = xa := ⟨_, rfl⟩
      obtain ⟨xn, hxn⟩ : ∃ xn, F[k].2.1 = xn := ⟨_, rfl⟩
      obtain ⟨xs, hxs'⟩ : ∃ xs, F[k].2.2 = xs := ⟨_, rfl⟩
      have HG : Hid (∀ (W : World), OwnActs W (.slice (some ⟨gb, 0, none⟩) F.length c4) F → W.cell? ⟨gb, k * 3, none⟩ = some (.int .i64 xa) ∧ W.cell? ⟨gb, k * 3 + 1, none⟩ = some (.int .i64 xn) ∧ W.cell? ⟨gb, k * 3 + 2, none⟩ = some (.string xs)) := hid fun W hW => by
        obtain ⟨b', e, r1, r2, r3⟩ := hW.get k hlt
        obtain rfl : gb = b' := by simpa using e
        exact ⟨by rw [← hxa]; exact r1, by rw [← hxn]; exact r2, by rw [← hxs']; exact r3⟩
      rw [hxs'] at hxs
      clear hxa hxn hxs' cA cB cC
      obtain ⟨t', c, hsp⟩ : ∃ t' c, spl t xa xn xs = (t', c) := ⟨_, _, rfl⟩
      have HSP := hid hsp
      clear hsp
      have htz := hA.t.size
      have dA : At w0 wr.drew B t (4000 + 4010 * k) := hA.step (Below.drew (Below.refl _ _))
      have dO : OwnActs wr.drew (.slice (some ⟨gb, 0, none⟩) F.length c4) F := hO
      obtain ⟨x0, x1, x2⟩ := HG.out _ dO
      go_wp2
      refine wp_region_still_tail 16 (by kernel_rfl) (by kernel_rfl) ?_
      simp only [List.take_succ_cons, List.take_zero, List.drop_succ_cons, List.drop_zero]
      change wpStill _ _ wr.drew _ _ _
      repeat still_step
      try refine wpStill_nil ?_
      change wpList _ _ _ _ _ wr.drew
      clear x0 x1 x2
      go_wp2_with (go_at_call 15; refine (spliceE w0 _ B _ t dA (by omega) xa xn xs hxs a0 a1 hv t' c HSP.out _ _ dO).mono ?_; rintro e w6 ⟨rfl, hA6, hO6, h6⟩)
      have eA : At w0 w6.drew B t' (4000 + 4010 * k + 4010) := hA6.step (Below.drew (Below.refl _ _))
      have eO : OwnActs w6.drew (.slice (some ⟨gb, 0, none⟩) F.length c4) F := hO6
      obtain ⟨x0, x1, x2⟩ := HG.out _ hO6
      go_region_held3 (fun w' => w'.cell? ⟨gb, k * 3, none⟩ = some (.int .i64 xa) ∧ w'.cell? ⟨gb, k * 3 + 1, none⟩ = some (.int .i64 xn) ∧ w'.cell? ⟨gb, k * 3 + 2, none⟩ = some (.string xs)) (go_keep) (first | (go_at_call 14; refine (refSpliceE _ t xa xn xs htz hxs t' c HSP.out).mono ?_; rintro e w7 ⟨rfl, h7⟩; have hA7 := eA.step h7; have hO7 := eO.below h7; obtain ⟨z0, z1, z2⟩ := HG.out _ hO7))
      all_goals go_wp2
      go_roundw
      case rel => exact ⟨k + 1, t', by omega, by go_num, rfl, by rw [show 4000 + 4010 * (k + 1) = 4000 + 4010 * k + 4010 by omega]; exact hA7, hO7⟩
      case measure => simp [intOf]; omega
    · obtain rfl : k = F.length := by omega
      have htz := hA.t.size
      obtain ⟨y, c, hrd⟩ : ∃ y c, rd t at_ n = (y, c) := ⟨_, _, rfl⟩
      have hR := tRefRead
      have HR : Hid (rd t at_ n = (y, c)) := hid hrd
      clear hrd hR
      go_wp2_with (first | (go_at_call 18; refine (aReadE w0 _ B _ t hA at_ n a0 a1 hv y c HR.out).mono ?_; rintro e w8 ⟨rfl, hA8⟩) | (go_at_call 19; refine (refReadE _ t at_ n htz y c HR.out).mono ?_; rintro e w9 ⟨rfl, rfl⟩))
      go_ret
      exact ⟨rfl, hA8.b⟩

theorem reads_walk (w0 : World) (a0 a1 : Addr) (hv : Env w0 a0 a1) (s : ByteArray) (hs : s.size ≤ maxLen) (v : Value) (l : List Spl) (hI : IsActs w0 v l) (at_ n : Int) :
    Calls Tryd.prog 4 #[.string s, v, .int .i64 at_, .int .i64 n] w0 fun e W' => e = .returned (.bool true) ∧ Below w0.heap.size w0 W' := by
  by_cases h : s.size ≤ 4000
  · exact reads_short w0 a0 a1 hv s h v l hI at_ n
  · exact reads_long w0 a0 a1 hv s hs v (by omega) at_ n
end Go.Proofs.YtflkmdmceeefiaaDoor
