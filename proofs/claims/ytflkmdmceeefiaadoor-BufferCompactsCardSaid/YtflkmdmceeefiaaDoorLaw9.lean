/- The walk of the law BufferCompacts. -/
import Derived.Test.YtflkmdmceeefiaaDoorCnt
namespace Go.Proofs.YtflkmdmceeefiaaDoor
open Go.RowKit Go.Shelf Go.Dia

set_option maxRecDepth 100000 in
set_option maxHeartbeats 4000000 in
theorem compacts_long (w0 : World) (a0 a1 : Addr) (hv : Env w0 a0 a1) (s : ByteArray) (hs : s.size ≤ maxLen) (v : Value) (hl : 4000 < s.size) :
    Calls Tryd.prog 9 #[.string s, v] w0 fun e W' => e = .returned (.bool true) ∧ Below w0.heap.size w0 W' := by
  have hcs : Hid (4000 < (cutB s).size) := hid (by unfold cutB; simp; omega)
  go_enter Tryd.func9, Tryd.ntmps9
  go_wp2_with (first | (go_at_call 10; refine (shown_any w0 a0 a1 hv).mono ?_; rintro e w1 ⟨rfl, h1⟩) | (go_at_call 11; refine (cut_any _ s hs).mono ?_; rintro e w2 ⟨rfl, rfl⟩; have hcs' := hcs.out) | (go_at_call 12; first | (refine (aNewFull w0 _ h3 a0 a1 hv _ hcs').mono ?_; rintro e w4 ⟨rfl, h4⟩) | (refine (aNewFull w0 _ h1 a0 a1 hv _ hcs').mono ?_; rintro e w3 ⟨rfl, h3⟩)))
  go_ret
  exact ⟨rfl, h4⟩

set_option maxRecDepth 100000 in
set_option maxHeartbeats 4000000 in
theorem compacts_short (w0 : World) (a0 a1 : Addr) (hv : Env w0 a0 a1) (s : ByteArray) (hs : s.size ≤ 4000) (v : Value) (l : List Spl) (hI : IsActs w0 v l) :
    Calls Tryd.prog 9 #[.string s, v] w0 fun e W' => e = .returned (.bool true) ∧ Below w0.heap.size w0 W' := by
  have hcs : Hid (cutB s = s) := hid (cutB_self s (by omega))
  have hsm : s.size ≤ maxLen := by unfold maxLen; omega
  obtain ⟨F, hF⟩ : ∃ F, fewL l 20 = F := ⟨_, rfl⟩
  have HFS : Hid (∀ j (h : j < F.length), F[j].2.2.size ≤ 4010) := hid (by subst hF; exact fewL_size l 20)
  have hFl : F.length ≤ 20 := by subst hF; exact fewL_le l 20
  have HF := hid hF
  clear hF
  go_enter Tryd.func9, Tryd.ntmps9
  go_wp2_with (first | (go_at_call 10; refine (shown_any w0 a0 a1 hv).mono ?_; rintro e w1 ⟨rfl, h1⟩) | (go_at_call 11; refine (cut_any _ s hsm).mono ?_; rw [hcs.out]; rintro e w2 ⟨rfl, rfl⟩) | (go_at_call 12; first | (refine (aNew w0 _ hA3.b _ hs).mono ?_; rintro e w4 ⟨B, hBe, rfl, h4, hB4⟩; have hA4 := hA3.step h4; have hAB : A ≠ B := (by have := hA3.t.lt; omega); clear hBe hA3) | (refine (aNew w0 _ h1 _ hs).mono ?_; rintro e w3 ⟨A, hAe, rfl, h3, hA3⟩; clear hAe)) | (go_at_call 13; refine (few_any _ _ l 20 (by omega) (((hI.below h1).below h3).below h4)).mono ?_; rw [HF.out]; rintro e w5 ⟨v4, rfl, hO5, h5⟩; have hA5 := hA4.step h5; have hB5 := hB4.step h5; obtain ⟨a4, c4, rfl⟩ := OwnActs.sl hO5))
  have hO5' : OwnActs w5 (.slice a4 F.length c4) F := hO5
  clear hO5 hI hA4 hB4
  go_loopw [10] (fun i wr => ∃ (k : Nat) (t : ByteArray), k ≤ F.length ∧ i = .int .i64 k ∧ At w0 wr A t (4000 + 4010 * k) ∧ At w0 wr B t (4000 + 4010 * k) ∧ OwnActs wr (.slice a4 F.length c4) F) (fun i _ => F.length - (intOf i).toNat)
  case atStart => exact ⟨0, s, Nat.zero_le _, rfl, hA5, hB5, hO5'⟩
  case round =>
    obtain ⟨k, t, hk, rfl, hA, hB, hO⟩ := hrel
    by_cases hlt : k < F.length
    · obtain ⟨gb, rfl, cA, cB, cC⟩ := hO.get k hlt
      have hxs := HFS.out k hlt
      obtain ⟨xa, hxa⟩ : ∃ xa, F[k].1 = xa := ⟨_, rfl⟩
      obtain ⟨xn, hxn⟩ : ∃ xn, F[k].2.1 = xn := ⟨_, rfl⟩
      obtain ⟨xs, hxs'⟩ : ∃ xs, F[k].2.2 = xs := ⟨_, rfl⟩
      have HG : Hid (∀ (W : World), OwnActs W (.slice (some ⟨gb, 0, none⟩) F.length c4) F → W.cell? ⟨gb, k * 3, none⟩ = some (.int .i64 xa) ∧ W.cell? ⟨gb, k * 3 + 1, none⟩ = some (.int .i64 xn) ∧ W.cell? ⟨gb, k * 3 + 2, none⟩ = some (.string xs)) := hid fun W hW => by
        obtain ⟨b', e, r1, r2, r3⟩ := hW.get k hlt
        obtain rfl : gb = b' := by simpa using e
        exact ⟨by rw [← hxa]; exact r1, by rw [← hxn]; exact r2, by rw [← hxs']; exact r3⟩
      rw [hxs'] at hxs
      clear hxa hxn hxs' cA cB cC
      obtain ⟨t', d, hsp⟩ : ∃ t' d, spl t xa xn xs = (t', d) := ⟨_, _, rfl⟩
      have HSP := hid hsp
      clear hsp
      have dA : At w0 wr.drew A t (4000 + 4010 * k) := hA.step (Below.drew (Below.refl _ _))
      have dB : At w0 wr.drew B t (4000 + 4010 * k) := hB.step (Below.drew (Below.refl _ _))
      have dO : OwnActs wr.drew (.slice (some ⟨gb, 0, none⟩) F.length c4) F := hO
      obtain ⟨x0, x1, x2⟩ := HG.out _ dO
      go_wp2
      refine wp_region_still_tail 16 (by kernel_rfl) (by kernel_rfl) ?_
      simp only [List.take_succ_cons, List.take_zero, List.drop_succ_cons, List.drop_zero]
      change wpStill _ _ wr.drew _ _ _
      repeat still_step
      try refine wpStill_nil ?_
      change wpList _ _ _ _ _ wr.drew
      clear x0 x1 x2
      go_wp2_with (go_at_call 15; refine (spliceE w0 _ A _ t dA (by omega) xa xn xs hxs a0 a1 hv t' d HSP.out _ _ dO).mono ?_; rintro e w6 ⟨rfl, hA6, hO6, h6⟩)
      have hB6 := dB.other dA hAB h6
      have eA : At w0 w6.drew A t' (4000 + 4010 * k + 4010) := hA6.step (Below.drew (Below.refl _ _))
      have eB : At w0 w6.drew B t (4000 + 4010 * k) := hB6.step (Below.drew (Below.refl _ _))
      have eO : OwnActs w6.drew (.slice (some ⟨gb, 0, none⟩) F.length c4) F := hO6
      obtain ⟨x0, x1, x2⟩ := HG.out _ eO
      refine wp_region_still_tail 16 (by kernel_rfl) (by kernel_rfl) ?_
      simp only [List.take_succ_cons, List.take_zero, List.drop_succ_cons, List.drop_zero]
      change wpStill _ _ w6.drew _ _ _
      repeat still_step
      try refine wpStill_nil ?_
      change wpList _ _ _ _ _ w6.drew
      clear x0 x1 x2
      have hBA : B ≠ A := fun e => hAB e.symm
      have hmin : ((min 1 t'.size : Nat) : Int) ≤ 1 := by omega
      go_wp2_with (first | (go_at_call 15; refine (spliceE w0 _ B _ t eB (by omega) xa xn xs hxs a0 a1 hv t' d HSP.out _ _ eO).mono ?_; rintro e w7 ⟨rfl, hB7, hO7, h7⟩; have hA7 := eA.other eB hBA h7) | (go_at_call 21; refine (cCompact w0 _ B _ t' hB7).mono ?_; rintro e w8 ⟨rfl, h8, hC8⟩; have hA8 := hA7.other hB7 hBA h8; have hO8 := hO7.at hB7 h8) | (go_at_call 16; first | (refine (aText w0 _ B _ t' hC9.at).mono ?_; rintro e w10 ⟨rfl, h10, hB10⟩; have hC10 := hC9.step h10; have hA10 := hA9.step h10; have hO10 := hO9.below h10) | (refine (aText w0 _ A _ t' hA8).mono ?_; rintro e w9 ⟨rfl, h9, hA9⟩; have hC9 := hC8.step h9; have hO9 := hO8.below h9)) | (go_at_call 20; obtain ⟨mn, hmn⟩ : ∃ mn, min 1 t'.size = mn := ⟨_, rfl⟩; rw [hmn] at hC10 hmin; clear hmn; refine (cPieces w0 _ B _ _ t' hC10).mono ?_; rintro e w11 ⟨rfl, h11, hC11⟩; have hA11 := hA10.step h11; have hO11 := hO10.below h11))
      go_roundw
      case rel =>
        refine ⟨k + 1, t', by omega, by go_num, by rw [show 4000 + 4010 * (k + 1) = 4000 + 4010 * k + 4010 by omega]; exact hA11, ⟨hC11.b, hC11.f, hC11.at.t.mono (by omega)⟩, hO11⟩
      case measure => simp [intOf]; omega
    · obtain rfl : k = F.length := by omega
      have htz := hA.t.size
      go_wp2_with (go_at_call 17; first | (refine (aLen w0 _ B _ t hB6).mono ?_; rintro e w7 ⟨rfl, h7, hB7⟩) | (refine (aLen w0 _ A _ t hA).mono ?_; rintro e w6 ⟨rfl, h6, hA6⟩; have hB6 := hB.step h6))
      go_ret
      exact ⟨by simp, hB7.b⟩

theorem compacts_walk (w0 : World) (a0 a1 : Addr) (hv : Env w0 a0 a1) (s : ByteArray) (hs : s.size ≤ maxLen) (v : Value) (l : List Spl) (hI : IsActs w0 v l) :
    Calls Tryd.prog 9 #[.string s, v] w0 fun e W' => e = .returned (.bool true) ∧ Below w0.heap.size w0 W' := by
  by_cases h : s.size ≤ 4000
  · exact compacts_short w0 a0 a1 hv s h v l hI
  · exact compacts_long w0 a0 a1 hv s hs v (by omega)
end Go.Proofs.YtflkmdmceeefiaaDoor
