/- The walk of the law BufferParts. -/
import Derived.Test.YtflkmdmceeefiaaDoorLaw3
namespace Go.Proofs.YtflkmdmceeefiaaDoor
open Go.RowKit Go.Shelf Go.Dia

theorem cut_two (t : ByteArray) (at_ : Int) (h0 : 0 ≤ at_) (h1 : at_ ≤ (t.size : Int)) : ∃ x y, rd t 0 at_ = (x, 0) ∧ rd t at_ ((t.size : Int) - at_) = (y, 0) ∧ x ++ y = t := by
  refine ⟨t.extract 0 at_.toNat, t.extract at_.toNat t.size, ?_, ?_, ?_⟩
  · unfold rd; rw [if_neg (by unfold Bad; omega)]; simp
  · unfold rd; rw [if_neg (by unfold Bad; omega), show at_ + ((t.size : Int) - at_) = (t.size : Int) by omega]; simp
  · have : at_.toNat ≤ t.size := by omega
    apply ByteArray.ext
    apply Array.toList_inj.1
    simp

set_option maxRecDepth 100000 in
set_option maxHeartbeats 4000000 in
theorem parts_long (w0 : World) (a0 a1 : Addr) (hv : Env w0 a0 a1) (s : ByteArray) (hs : s.size ≤ maxLen) (v : Value) (hl : 4000 < s.size) (at_ : Int) :
    Calls Tryd.prog 6 #[.string s, v, .int .i64 at_] w0 fun e W' => e = .returned (.bool true) ∧ Below w0.heap.size w0 W' := by
  have hcs : Hid (4000 < (cutB s).size) := hid (by unfold cutB; simp; omega)
  go_enter Tryd.func6, Tryd.ntmps6
  go_wp2_with (first | (go_at_call 10; refine (shown_any w0 a0 a1 hv).mono ?_; rintro e w1 ⟨rfl, h1⟩) | (go_at_call 11; refine (cut_any _ s hs).mono ?_; rintro e w2 ⟨rfl, rfl⟩; have hcs' := hcs.out) | (go_at_call 12; refine (aNewFull w0 _ h1 a0 a1 hv _ hcs').mono ?_; rintro e w3 ⟨rfl, h3⟩))
  go_ret
  exact ⟨rfl, h3⟩

set_option maxRecDepth 100000 in
set_option maxHeartbeats 4000000 in
theorem parts_short (w0 : World) (a0 a1 : Addr) (hv : Env w0 a0 a1) (s : ByteArray) (hs : s.size ≤ 4000) (v : Value) (l : List Spl) (hI : IsActs w0 v l) (at_ : Int) :
    Calls Tryd.prog 6 #[.string s, v, .int .i64 at_] w0 fun e W' => e = .returned (.bool true) ∧ Below w0.heap.size w0 W' := by
  have hcs : Hid (cutB s = s) := hid (cutB_self s (by omega))
  have hsm : s.size ≤ maxLen := by unfold maxLen; omega
  obtain ⟨F, hF⟩ : ∃ F, fewL l 20 = F := ⟨_, rfl⟩
  have HFS : Hid (∀ j (h : j < F.length), F[j].2.2.size ≤ 4010) := hid (by subst hF; exact fewL_size l 20)
  have hFl : F.length ≤ 20 := by subst hF; exact fewL_le l 20
  have HF := hid hF
  clear hF
  go_enter Tryd.func6, Tryd.ntmps6
  go_wp2_with (first | (go_at_call 10; refine (shown_any w0 a0 a1 hv).mono ?_; rintro e w1 ⟨rfl, h1⟩) | (go_at_call 11; refine (cut_any _ s hsm).mono ?_; rw [hcs.out]; rintro e w2 ⟨rfl, rfl⟩) | (go_at_call 12; refine (aNew w0 _ h1 _ hs).mono ?_; rintro e w3 ⟨B, hBe, rfl, h3, hA3⟩; clear hBe) | (go_at_call 13; refine (few_any _ _ l 20 (by omega) ((hI.below h1).below h3)).mono ?_; rw [HF.out]; rintro e w4 ⟨v4, rfl, hO4, h4⟩; have hA4 := hA3.step h4; obtain ⟨a4, c4, rfl⟩ := OwnActs.sl hO4))
  have hO4' : OwnActs w4 (.slice a4 F.length c4) F := hO4
  clear hO4 hI hA3
  go_loopw [10] (fun i wr => ∃ (k : Nat) (t : ByteArray), k ≤ F.length ∧ i = .int .i64 k ∧ At w0 wr B t (4000 + 4010 * k) ∧ OwnActs wr (.slice a4 F.length c4) F) (fun i _ => F.length - (intOf i).toNat)
  case atStart => exact ⟨0, s, Nat.zero_le _, rfl, hA4, hO4'⟩
  case round =>
    obtain ⟨k, t, hk, rfl, hA, hO⟩ := hrel
    by_cases hlt : k < F.length
    · obtain ⟨gb, rfl, cA, cB, cC⟩ := hO.get k hlt
      have hxs := HFS.out k hlt
      obtain ⟨xa, hxa⟩ : ∃ xa, F[k].1 = xa := ⟨_, rfl⟩
      obtain ⟨xn, hxn⟩ : ∃ xn, F[k].2.1 = xn := ⟨_, rfl⟩
      obtain ⟨xs, hxs'⟩ : ∃ xs, F[k].2.2 = xs := ⟨_, rfl⟩
      rw [hxa] at cA; rw [hxn] at cB; rw [hxs'] at cC hxs
      clear hxa hxn hxs'
      obtain ⟨t', c, hsp⟩ : ∃ t' c, spl t xa xn xs = (t', c) := ⟨_, _, rfl⟩
      have HSP := hid hsp
      clear hsp
      have htz := hA.t.size
      have dA : At w0 wr.drew B t (4000 + 4010 * k) := hA.step (Below.drew (Below.refl _ _))
      have dO : OwnActs wr.drew (.slice (some ⟨gb, 0, none⟩) F.length c4) F := hO
      have x0 : wr.drew.cell? ⟨gb, k * 3, none⟩ = some (.int .i64 xa) := cA
      have x1 : wr.drew.cell? ⟨gb, k * 3 + 1, none⟩ = some (.int .i64 xn) := cB
      have x2 : wr.drew.cell? ⟨gb, k * 3 + 2, none⟩ = some (.string xs) := cC
      go_wp2
      refine wp_region_still_tail 16 (by kernel_rfl) (by kernel_rfl) ?_
      simp only [List.take_succ_cons, List.take_zero, List.drop_succ_cons, List.drop_zero]
      change wpStill _ _ wr.drew _ _ _
      repeat still_step
      try refine wpStill_nil ?_
      change wpList _ _ _ _ _ wr.drew
      clear x0 x1 x2
      go_wp2_with (go_at_call 15; refine (spliceE w0 _ B _ t dA (by omega) xa xn xs hxs a0 a1 hv t' c HSP.out _ _ dO).mono ?_; rintro e w6 ⟨rfl, hA6, hO6, h6⟩)
      go_roundw
      case rel => exact ⟨k + 1, t', by omega, by go_num, by rw [show 4000 + 4010 * (k + 1) = 4000 + 4010 * k + 4010 by omega]; exact hA6, hO6⟩
      case measure => simp [intOf]; omega
    · obtain rfl : k = F.length := by omega
      have htz := hA.t.size
      by_cases hbad : at_ < 0 ∨ (t.size : Int) < at_
      · have HR : Hid (rd t at_ 0 = (⟨#[]⟩, 10)) := hid (by unfold rd; rw [if_pos (by unfold Bad; omega)])
        go_wp2_with (first | (go_at_call 17; refine (aLen w0 _ B _ t hA).mono ?_; rintro e w7 ⟨rfl, h7, hA7⟩) | (go_at_call 18; refine (aReadE w0 _ B _ t hA7 at_ 0 a0 a1 hv _ _ HR.out).mono ?_; rintro e w8 ⟨rfl, hA8⟩))
        all_goals first | (go_ret; exact ⟨rfl, hA8.b⟩) | (exfalso; simp at *; omega)
      · obtain ⟨g1, g2⟩ : 0 ≤ at_ ∧ at_ ≤ (t.size : Int) := by omega
        clear hbad
        obtain ⟨x, y, hx, hy, hxy⟩ := cut_two t at_ g1 g2
        have hsz : x.size + y.size ≤ 4000 := by rw [← ByteArray.size_append, hxy]; exact htz
        have hsx : x.size ≤ 4000 := by omega
        have hsy : y.size ≤ 4000 := by omega
        have HX := hid hx
        have HY := hid hy
        clear hx hy
        go_wp2_with (first | (go_at_call 17; refine (aLen w0 _ B _ t hA).mono ?_; rintro e w7 ⟨rfl, h7, hA7⟩) | (go_at_call_of 18 (Value.int .i64 0); refine (aReadE w0 _ B _ t hA7 0 at_ a0 a1 hv _ _ HX.out).mono ?_; rintro e w8 ⟨rfl, hA8⟩) | (go_at_call_of 18 (Value.int .i64 ((t.size : Int) - at_)); refine (aReadE w0 _ B _ t hA8 at_ _ a0 a1 hv _ _ HY.out).mono ?_; rintro e w9 ⟨rfl, hA9⟩) | (go_at_call 16; refine (aText w0 _ B _ t hA9).mono ?_; rintro e w10 ⟨rfl, h10, hA10⟩))
        go_ret
        exact ⟨rfl, hA10.b⟩

theorem parts_walk (w0 : World) (a0 a1 : Addr) (hv : Env w0 a0 a1) (s : ByteArray) (hs : s.size ≤ maxLen) (v : Value) (l : List Spl) (hI : IsActs w0 v l) (at_ : Int) :
    Calls Tryd.prog 6 #[.string s, v, .int .i64 at_] w0 fun e W' => e = .returned (.bool true) ∧ Below w0.heap.size w0 W' := by
  by_cases h : s.size ≤ 4000
  · exact parts_short w0 a0 a1 hv s h v l hI at_
  · exact parts_long w0 a0 a1 hv s hs v (by omega) at_
end Go.Proofs.YtflkmdmceeefiaaDoor
