/- GlyphLetters: the walk. -/
import Derived.Test.YtophclimlepjoaaLies
import Derived.BigQuiet
import Derived.Deep.QuietTactic
import Derived.Deep.RegionWith
namespace Go.Proofs.Ytophclimlepjoaa
open Go.RowKit Go.Shelf Go.Dia Go.Maps

set_option maxRecDepth 100000 in
set_option maxHeartbeats 8000000 in
theorem law8 (w : World) (i k : Int) : Calls Try.prog 8 #[.int .i64 i, .int .i64 k] w fun e W' => e = .returned (.bool true) ∧ Below w.heap.size w W' := by
  have K9 := hid shown9
  have K16 := hid all_lies
  by_cases hi0 : i < 0
  · go_enter Try.func8, Try.ntmps8
    go_wp2_with (first | (go_at_call 9; refine (K9.out _).mono ?_; rintro e w1 ⟨rfl, b1⟩) | (go_at_call 16; refine (K16.out _).mono ?_; rintro e w2 ⟨⟨g, c, rfl, hl⟩, b2⟩; have HL := hid hl; clear hl))
    go_ret
    exact ⟨rfl, below_seq b1 (Nat.le_refl _) b2⟩
  by_cases hk0 : k < 0
  · go_enter Try.func8, Try.ntmps8
    go_wp2_with (first | (go_at_call 9; refine (K9.out _).mono ?_; rintro e w1 ⟨rfl, b1⟩) | (go_at_call 16; refine (K16.out _).mono ?_; rintro e w2 ⟨⟨g, c, rfl, hl⟩, b2⟩; have HL := hid hl; clear hl))
    go_ret
    exact ⟨rfl, below_seq b1 (Nat.le_refl _) b2⟩
  by_cases hi1 : 38 ≤ i
  · go_enter Try.func8, Try.ntmps8
    go_wp2_with (first | (go_at_call 9; refine (K9.out _).mono ?_; rintro e w1 ⟨rfl, b1⟩) | (go_at_call 16; refine (K16.out _).mono ?_; rintro e w2 ⟨⟨g, c, rfl, hl⟩, b2⟩; have HL := hid hl; clear hl))
    go_ret
    exact ⟨rfl, below_seq b1 (Nat.le_refl _) b2⟩
  by_cases hk1 : 38 ≤ k
  · go_enter Try.func8, Try.ntmps8
    go_wp2_with (first | (go_at_call 9; refine (K9.out _).mono ?_; rintro e w1 ⟨rfl, b1⟩) | (go_at_call 16; refine (K16.out _).mono ?_; rintro e w2 ⟨⟨g, c, rfl, hl⟩, b2⟩; have HL := hid hl; clear hl))
    go_ret
    exact ⟨rfl, below_seq b1 (Nat.le_refl _) b2⟩
  by_cases hik : i = k
  · subst hik
    go_enter Try.func8, Try.ntmps8
    go_wp2_with (first | (go_at_call 9; refine (K9.out _).mono ?_; rintro e w1 ⟨rfl, b1⟩) | (go_at_call 16; refine (K16.out _).mono ?_; rintro e w2 ⟨⟨g, c, rfl, hl⟩, b2⟩; have HL := hid hl; clear hl))
    go_ret
    exact ⟨rfl, below_seq b1 (Nat.le_refl _) b2⟩
  obtain ⟨m, rfl⟩ := Int.eq_ofNat_of_zero_le (Int.not_lt.1 hi0)
  obtain ⟨n, rfl⟩ := Int.eq_ofNat_of_zero_le (Int.not_lt.1 hk0)
  have hm : m < allG.length := by rw [allG_length]; omega
  have hn : n < allG.length := by rw [allG_length]; omega
  have hne : m ≠ n := by omega
  have j1 : (0 : Int) ≤ (m : Int) := by omega
  have j2 : (m : Int) < 38 := by omega
  have j3 : (0 : Int) ≤ (n : Int) := by omega
  have j4 : (n : Int) < 38 := by omega
  have T := text_apart hm hn hne
  have R := hid (letter_apart hm hn hne)
  have g1 := List.getElem_mem hm
  have g2 := List.getElem_mem hn
  have D1 := hid (fun W => digraph11 W allG[m].1 (allG_sizes _ g1))
  have D2 := hid (fun W => digraph11 W allG[n].1 (allG_sizes _ g2))
  rw [dig_self g1] at D1
  rw [dig_self g2] at D2
  have L1 := hid (fun W g (h : Lies W g) => h m hm)
  have L2 := hid (fun W g (h : Lies W g) => h n hn)
  obtain ⟨x, hx⟩ : ∃ x, allG[m] = x := ⟨_, rfl⟩
  obtain ⟨y, hy⟩ : ∃ y, allG[n] = y := ⟨_, rfl⟩
  rw [hx] at T R D1 L1
  rw [hy] at T R D2 L2
  clear hx hy g1 g2
  obtain ⟨xa, xb, xc⟩ := x
  obtain ⟨ya, yb, yc⟩ := y
  simp only at T R D1 D2 L1 L2
  have T' : (xa.toList == ya.toList) = false := by
    rw [beq_eq_false_iff_ne]; exact fun e => T (toList_inj e)
  have hbe : ((m : Int) == (n : Int)) = false := by rw [beq_eq_false_iff_ne]; omega
  clear hm hn hne hi0 hk0 hi1 hk1 T
  by_cases hxb : xb = ⟨#[]⟩
  · rw [if_pos hxb] at D1
    obtain ⟨d, hd⟩ : ∃ d, (if yb = ⟨#[]⟩ then ((⟨#[]⟩ : ByteArray), false) else (tick ++ yb, true)) = d := ⟨_, rfl⟩
    rw [hd] at D2
    clear hd R
    obtain ⟨d1, d2⟩ := d
    simp only at D1 D2
    go_enter Try.func8, Try.ntmps8
    go_wp2_with (first | (go_at_call 9; refine (K9.out _).mono ?_; rintro e w1 ⟨rfl, b1⟩; have HB := hid b1; clear b1) | (go_at_call 16; refine (K16.out _).mono ?_; rintro e w2 ⟨⟨g, c, rfl, hl⟩, b2⟩; have HB := hid (below_seq HB.out (Nat.le_refl _) b2); clear b2; have HL := hid hl; have c1 := L1.out _ _ hl; clear hl) | (go_at_call_of 11 (Value.string xa); refine (D1.out _).mono ?_; rintro e w3 ⟨rfl, b3⟩; have HL3 := hid (HL.out.keep b3); have HB := hid (below_seq HB.out (Nat.le_refl _) b3); clear b3; have c2 := L2.out _ _ HL3.out) | (go_at_call_of 11 (Value.string ya); refine (D2.out _).mono ?_; rintro e w4 ⟨rfl, b4⟩; have HL4 := hid (HL3.out.keep b4); have HB := hid (below_seq HB.out (Nat.le_refl _) b4); clear b4; have c3 := L1.out _ _ HL4.out; have c4 := L2.out _ _ HL4.out))
    go_quiet (fail)
    go_wp2
    go_ret
    exact ⟨rfl, below_seq HB.out (Nat.le_refl _) (grownBy.below (drewN_grown _ _ none))⟩
  · rw [if_neg hxb] at D1
    have R' := R.out hxb
    clear R hxb
    obtain ⟨d, hd⟩ : ∃ d, tick ++ xb = d := ⟨_, rfl⟩
    rw [hd] at D1 R'
    clear hd
    by_cases hyb : yb = ⟨#[]⟩
    · rw [if_pos hyb] at D2
      clear hyb R'
      simp only at D1 D2
      go_enter Try.func8, Try.ntmps8
      go_wp2_with (first | (go_at_call 9; refine (K9.out _).mono ?_; rintro e w1 ⟨rfl, b1⟩; have HB := hid b1; clear b1) | (go_at_call 16; refine (K16.out _).mono ?_; rintro e w2 ⟨⟨g, c, rfl, hl⟩, b2⟩; have HB := hid (below_seq HB.out (Nat.le_refl _) b2); clear b2; have HL := hid hl; have c1 := L1.out _ _ hl; clear hl) | (go_at_call_of 11 (Value.string xa); refine (D1.out _).mono ?_; rintro e w3 ⟨rfl, b3⟩; have HL3 := hid (HL.out.keep b3); have HB := hid (below_seq HB.out (Nat.le_refl _) b3); clear b3; have c2 := L2.out _ _ HL3.out) | (go_at_call_of 11 (Value.string ya); refine (D2.out _).mono ?_; rintro e w4 ⟨rfl, b4⟩; have HL4 := hid (HL3.out.keep b4); have HB := hid (below_seq HB.out (Nat.le_refl _) b4); clear b4; have c3 := L1.out _ _ HL4.out; have c4 := L2.out _ _ HL4.out))
      go_quiet (fail)
      go_wp2
      go_ret
      exact ⟨rfl, below_seq HB.out (Nat.le_refl _) (grownBy.below (drewN_grown _ _ none))⟩
    · rw [if_neg hyb] at D2
      clear hyb
      obtain ⟨d', hd'⟩ : ∃ d, tick ++ yb = d := ⟨_, rfl⟩
      rw [hd'] at D2 R'
      clear hd'
      have T2 : (d.toList == d'.toList) = false := by rw [beq_eq_false_iff_ne]; exact fun e => R' (toList_inj e)
      clear R'
      simp only at D1 D2
      go_enter Try.func8, Try.ntmps8
      go_wp2_with (first | (go_at_call 9; refine (K9.out _).mono ?_; rintro e w1 ⟨rfl, b1⟩; have HB := hid b1; clear b1) | (go_at_call 16; refine (K16.out _).mono ?_; rintro e w2 ⟨⟨g, c, rfl, hl⟩, b2⟩; have HB := hid (below_seq HB.out (Nat.le_refl _) b2); clear b2; have HL := hid hl; have c1 := L1.out _ _ hl; clear hl) | (go_at_call_of 11 (Value.string xa); refine (D1.out _).mono ?_; rintro e w3 ⟨rfl, b3⟩; have HL3 := hid (HL.out.keep b3); have HB := hid (below_seq HB.out (Nat.le_refl _) b3); clear b3; have c2 := L2.out _ _ HL3.out) | (go_at_call_of 11 (Value.string ya); refine (D2.out _).mono ?_; rintro e w4 ⟨rfl, b4⟩; have HL4 := hid (HL3.out.keep b4); have HB := hid (below_seq HB.out (Nat.le_refl _) b4); clear b4; have c3 := L1.out _ _ HL4.out; have c4 := L2.out _ _ HL4.out))
      go_quiet (fail)
      go_wp2
      go_ret
      exact ⟨rfl, below_seq HB.out (Nat.le_refl _) (grownBy.below (drewN_grown _ _ none))⟩
end Go.Proofs.Ytophclimlepjoaa
