/- The walk of the law BufferPieces. -/
import Derived.Test.YtflkmdmceeefiaaDoorCnt
namespace Go.Proofs.YtflkmdmceeefiaaDoor
open Go.RowKit Go.Shelf Go.Dia

set_option maxRecDepth 100000 in
set_option maxHeartbeats 4000000 in
theorem pieces_long (w0 : World) (a0 a1 : Addr) (hv : Env w0 a0 a1) (s : ByteArray) (hs : s.size ≤ maxLen) (v : Value) (hl : 4000 < s.size) :
    Calls Tryd.prog 7 #[.string s, v] w0 fun e W' => e = .returned (.bool true) ∧ Below w0.heap.size w0 W' := by
  have hcs : Hid (4000 < (cutB s).size) := hid (by unfold cutB; simp; omega)
  go_enter Tryd.func7, Tryd.ntmps7
  go_wp2_with (first | (go_at_call 10; refine (shown_any w0 a0 a1 hv).mono ?_; rintro e w1 ⟨rfl, h1⟩) | (go_at_call 11; refine (cut_any _ s hs).mono ?_; rintro e w2 ⟨rfl, rfl⟩; have hcs' := hcs.out) | (go_at_call 12; refine (aNewFull w0 _ h1 a0 a1 hv _ hcs').mono ?_; rintro e w3 ⟨rfl, h3⟩))
  go_ret
  exact ⟨rfl, h3⟩

set_option maxRecDepth 100000 in
set_option maxHeartbeats 4000000 in
theorem pieces_short (w0 : World) (a0 a1 : Addr) (hv : Env w0 a0 a1) (s : ByteArray) (hs : s.size ≤ 4000) (v : Value) (l : List Spl) (hI : IsActs w0 v l) :
    Calls Tryd.prog 7 #[.string s, v] w0 fun e W' => e = .returned (.bool true) ∧ Below w0.heap.size w0 W' := by
  have hcs : Hid (cutB s = s) := hid (cutB_self s (by omega))
  have hsm : s.size ≤ maxLen := by unfold maxLen; omega
  obtain ⟨F, hF⟩ : ∃ F, fewL l 40 = F := ⟨_, rfl⟩
  have HFS : Hid (∀ j (h : j < F.length), F[j].2.2.size ≤ 4010) := hid (by subst hF; exact fewL_size l 40)
  have hFl : F.length ≤ 40 := by subst hF; exact fewL_le l 40
  have HF := hid hF
  clear hF
  go_enter Tryd.func7, Tryd.ntmps7
  go_wp2_with (first | (go_at_call 10; refine (shown_any w0 a0 a1 hv).mono ?_; rintro e w1 ⟨rfl, h1⟩) | (go_at_call 11; refine (cut_any _ s hsm).mono ?_; rw [hcs.out]; rintro e w2 ⟨rfl, rfl⟩) | (go_at_call 12; refine (aNew w0 _ h1 _ hs).mono ?_; rintro e w3 ⟨B, hBe, rfl, h3, hA3⟩; clear hBe) | (go_at_call 13; refine (few_any _ _ l 40 (by omega) ((hI.below h1).below h3)).mono ?_; rw [HF.out]; rintro e w4 ⟨v4, rfl, hO4, h4⟩; have hA4 := hA3.step h4; obtain ⟨a4, c4, rfl⟩ := OwnActs.sl hO4))
  have hO4' : OwnActs w4 (.slice a4 F.length c4) F := hO4
  clear hO4 hI hA3
  obtain ⟨cn, hC4⟩ := hA4.cnt
  go_loopw [8] (fun i wr => ∃ (k : Nat) (t : ByteArray) (c : Nat), k ≤ F.length ∧ i = .int .i64 k ∧ AtC w0 wr B t (4000 + 4010 * k) c ∧ OwnActs wr (.slice a4 F.length c4) F) (fun i _ => F.length - (intOf i).toNat)
  case atStart => exact ⟨0, s, cn, Nat.zero_le _, rfl, hC4, hO4'⟩
  case round =>
    obtain ⟨k, t, c, hk, rfl, hA, hO⟩ := hrel
    by_cases hlt : k < F.length
    · obtain ⟨gb, rfl, cA, cB, cC⟩ := hO.get k hlt
      have hxs := HFS.out k hlt
      obtain ⟨xa, hxa⟩ : ∃ xa, F[k].1 = xa := ⟨_, rfl⟩
      obtain ⟨xn, hxn⟩ : ∃ xn, F[k].2.1 = xn := ⟨_, rfl⟩
      obtain ⟨xs, hxs'⟩ : ∃ xs, F[k].2.2 = xs := ⟨_, rfl⟩
      have HG : Hid (∀ (W : World), OwnActs W (.slice (some ⟨gb, 0, none⟩) F.length c4) F → W.cell? ⟨gb, k * 3, none⟩ = some (.int .i64 xa) ∧ W.cell? ⟨gb, k * 3 + 1, none⟩ = some (.int .i64 xn) ∧ W.cell? ⟨gb, k * 3 + 2, none⟩ = some (.string xs)) := hid fun W hW => by
        obtain ⟨b', e, r1, r2, r3⟩ := hW.get k hlt
        obtain rfl : gb = b' := by simpa using e
        exact ⟨by rw [← hxa]; exact r1, by rw [← hxn]; exact r2, by rw [← hxs']; exact r3⟩
      rw [hxs'] at hxs
      clear hxa hxn hxs' cA cB cC
      obtain ⟨t', d, hsp⟩ : ∃ t' d, spl t xa xn xs = (t', d) := ⟨_, _, rfl⟩
      have HSP := hid hsp
      clear hsp
      have htz := hA.at.t.size
      have hc0 := hA.le.1
      go_wp2_with (go_at_call 20; refine (cPieces w0 _ B _ _ t hA).mono ?_; rintro e w5 ⟨rfl, h5, hA5⟩; have hO5 := hO.below h5)
      have dA : AtC w0 w5.drew B t (4000 + 4010 * k) c := hA5.step (Below.drew (Below.refl _ _))
      have dO : OwnActs w5.drew (.slice (some ⟨gb, 0, none⟩) F.length c4) F := hO5
      obtain ⟨x0, x1, x2⟩ := HG.out _ dO
      refine wp_region_still_tail 16 (by kernel_rfl) (by kernel_rfl) ?_
      simp only [List.take_succ_cons, List.take_zero, List.drop_succ_cons, List.drop_zero]
      change wpStill _ _ w5.drew _ _ _
      repeat still_step
      try refine wpStill_nil ?_
      change wpList _ _ _ _ _ w5.drew
      clear x0 x1 x2
      go_wp2_with (first | (go_at_call 15; refine (cSpliceE w0 _ B _ c t dA (by omega) xa xn xs hxs a0 a1 hv t' d HSP.out _ _ dO).mono ?_; rintro e w6 ⟨c', hcc, rfl, hA6, hO6, h6⟩; have hl6 := hA6.le.1; have ht6 := hA6.at.t.size; have hdec : ((c' : Int) == 0) = ((t'.size : Int) == 0) := (by have := hA6.le.2; rw [Bool.eq_iff_iff]; simp only [beq_iff_eq]; constructor <;> intro _ <;> omega)) | (go_at_call 20; refine (cPieces w0 _ B _ _ t' hA6).mono ?_; rintro e w7 ⟨rfl, h7, hA7⟩; have hO7 := hO6.below h7) | (go_at_call 17; first | (refine (aLen w0 _ B _ t' hA8).mono ?_; rintro e w9 ⟨rfl, h9, hA9⟩; have hO9 := hO8.below h9) | (refine (aLen w0 _ B _ t' hA7.at).mono ?_; rintro e w8 ⟨rfl, h8, hA8⟩; have hC8 := hA7.step h8; have hO8 := hO7.below h8)))
      go_roundw
      case rel => exact ⟨k + 1, t', c', by omega, by go_num, by rw [show 4000 + 4010 * (k + 1) = 4000 + 4010 * k + 4010 by omega]; exact hC8.step h9, hO9⟩
      case measure => simp [intOf]; omega
    · obtain rfl : k = F.length := by omega
      have htz := hA.at.t.size
      go_wp2_with (first | (go_at_call 16; first | (refine (aText w0 _ B _ t hC9.at).mono ?_; rintro e w10 ⟨rfl, h10, hA10⟩; have hC10 := hC9.step h10) | (refine (aText w0 _ B _ t hA.at).mono ?_; rintro e w8 ⟨rfl, h8, hA8⟩)) | (go_at_call 21; refine (cCompact w0 _ B _ t hA8).mono ?_; rintro e w9 ⟨rfl, h9, hC9⟩) | (go_at_call 20; refine (cPieces w0 _ B _ _ t hC10).mono ?_; rintro e w11 ⟨rfl, h11, hC11⟩))
      go_ret
      exact ⟨by simp; omega, hC11.b⟩

theorem pieces_walk (w0 : World) (a0 a1 : Addr) (hv : Env w0 a0 a1) (s : ByteArray) (hs : s.size ≤ maxLen) (v : Value) (l : List Spl) (hI : IsActs w0 v l) :
    Calls Tryd.prog 7 #[.string s, v] w0 fun e W' => e = .returned (.bool true) ∧ Below w0.heap.size w0 W' := by
  by_cases h : s.size ≤ 4000
  · exact pieces_short w0 a0 a1 hv s h v l hI
  · exact pieces_long w0 a0 a1 hv s hs v (by omega)
end Go.Proofs.YtflkmdmceeefiaaDoor
