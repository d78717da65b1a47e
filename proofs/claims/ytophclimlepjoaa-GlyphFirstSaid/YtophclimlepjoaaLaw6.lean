/- GlyphFirst: the walk. -/
import Derived.Test.YtophclimlepjoaaLies
import Derived.BigQuiet
import Derived.Deep.QuietTactic
import Derived.Deep.RegionWith
namespace Go.Proofs.Ytophclimlepjoaa
open Go.RowKit Go.Shelf Go.Dia Go.Maps

set_option maxRecDepth 100000 in
set_option maxHeartbeats 1500000 in
theorem law6 (w : World) (s : ByteArray) (hs : s.size ≤ maxLen) : Calls Try.prog 6 #[.string s] w fun e W' => e = .returned (.bool true) ∧ Below w.heap.size w W' := by
  have hsc := cutB_size s
  have K9 := hid shown9
  have K10 := hid (fun W => cut10 W s hs)
  have K16 := hid all_lies
  obtain ⟨y, hy⟩ : ∃ y, cutB s = y := ⟨_, rfl⟩
  rw [hy] at K10 hsc
  clear hy
  go_enter Try.func6, Try.ntmps6
  go_wp2_with (first | (go_at_call 9; refine (K9.out _).mono ?_; rintro e w1 ⟨rfl, b1⟩) | (go_at_call 10; refine (K10.out _).mono ?_; rintro e w2 ⟨rfl, rfl⟩) | (go_at_call 16; refine (K16.out _).mono ?_; rintro e w3 ⟨⟨g, c, rfl, hl⟩, b3⟩; have HL := hid hl; clear hl))
  go_loopw [5] (fun i wr => ∃ k : Nat, k ≤ 38 ∧ i = .int .i64 k ∧ Lies wr g ∧ Below w.heap.size w wr) (fun i _ => 38 - (intOf i).toNat)
  case atStart => exact ⟨0, Nat.zero_le _, rfl, HL.out, below_seq b1 (Nat.le_refl _) b3⟩
  case round =>
    obtain ⟨k, hk, rfl, hl, hb⟩ := hrel
    by_cases hlt : k < 38
    · have hm : k < allG.length := hlt
      have j1 : (0 : Int) ≤ (k : Int) := by omega
      have j2 : (k : Int) < 38 := by omega
      have g1 := List.getElem_mem hm
      have hsz := allG_size1 _ g1
      have hfs := fact_size _ g1
      have F1 := hid (fun W => first13 W (allG[k].1 ++ y))
      rw [first_text g1] at F1
      have C1 := hid (fun W => class18 W allG[k].1 (allG_sizes _ g1))
      rw [of_self g1] at C1
      have D1 := hid (fun W => digraph11 W allG[k].1 (allG_sizes _ g1))
      rw [dig_self g1] at D1
      have FD := hid (fun h => first_dig g1 h y)
      have hc := fact_class _ g1
      have L1 := hid (fun W g (h : Lies W g) => h k hm)
      obtain ⟨x, hx⟩ : ∃ x, allG[k] = x := ⟨_, rfl⟩
      rw [hx] at hsz hfs F1 C1 D1 FD hc L1
      clear hx g1
      obtain ⟨xa, xb, xc⟩ := x
      simp only at hsz hfs F1 C1 D1 FD hc L1
      have q1 : ¬ 9223372036854775807 < xa.size + y.size := by omega
      have c0 := L1.out _ _ hl
      have H0 := hid hl
      have HB := hid hb
      clear hl hb
      by_cases hxb : xb = ⟨#[]⟩
      · rw [if_pos hxb] at D1
        simp only at D1
        have z1 : xa.size = 1 := by rw [← bl_length]; exact hfs.1.1 hxb
        have F2 := hid (fun W => first13 W (⟨#[]⟩ ++ y))
        obtain ⟨f1, hf1⟩ : ∃ f1, (firstG (⟨#[]⟩ ++ y)).1.1 = f1 := ⟨_, rfl⟩
        obtain ⟨f2, hf2⟩ : ∃ f2, ((firstG (⟨#[]⟩ ++ y)).2.size : Int) = f2 := ⟨_, rfl⟩
        rw [hf1, hf2] at F2
        clear hf1 hf2 FD hfs hsz
        go_wp2_with (first | (go_at_call_of 13 (Value.string (xa ++ y)); refine (F1.out _).mono ?_; rintro e w4 ⟨rfl, b4⟩; have H4 := hid (H0.out.keep b4); have HB4 := hid (below_seq HB.out (Nat.le_refl _) b4); have c4 := L1.out _ _ H4.out; clear b4) | (go_at_call 13; refine (F2.out _).mono ?_; rintro e w7 ⟨rfl, b7⟩; have H7 := hid (H6.out.keep b7); have HB7 := hid (below_seq HB6.out (Nat.le_refl _) b7); have c7 := L1.out _ _ H7.out; clear b7) | (go_at_call 18; refine (C1.out _).mono ?_; rintro e w5 ⟨rfl, b5⟩; have H5 := hid (H4.out.keep b5); have HB5 := hid (below_seq HB4.out (Nat.le_refl _) b5); have c5 := L1.out _ _ H5.out; clear b5) | (go_at_call 11; refine (D1.out _).mono ?_; rintro e w6 ⟨rfl, b6⟩; have H6 := hid (H5.out.keep b6); have HB6 := hid (below_seq HB5.out (Nat.le_refl _) b6); have c6 := L1.out _ _ H6.out; clear b6))
        go_roundw
        case rel => exact ⟨k + 1, by omega, by go_num, H7.out, HB7.out⟩
        case measure => simp [intOf]; omega
      · rw [if_neg hxb] at D1
        simp only at D1
        have z1 : xa.size ≠ 1 := by rw [← bl_length]; exact fun e => hxb (hfs.1.2 e)
        have z2 : (tick ++ xb).size = 2 := by rw [ByteArray.size_append]; have := hfs.2 hxb; rw [bl_length] at this; rw [this]; rfl
        have F2 := hid (fun W => first13 W (tick ++ xb ++ y))
        rw [FD.out hxb] at F2
        obtain ⟨d, hd⟩ : ∃ d, tick ++ xb = d := ⟨_, rfl⟩
        simp only [hd] at F2 z2 D1
        rw [z2] at F2
        have z3 : ¬ ((xa.size : Int) = 1) := by omega
        have q2 : ¬ 9223372036854775807 < d.size + y.size := by omega
        clear hd FD hfs
        go_wp2_with (first | (go_at_call_of 13 (Value.string (xa ++ y)); refine (F1.out _).mono ?_; rintro e w4 ⟨rfl, b4⟩; have H4 := hid (H0.out.keep b4); have HB4 := hid (below_seq HB.out (Nat.le_refl _) b4); have c4 := L1.out _ _ H4.out; clear b4) | (go_at_call 13; refine (F2.out _).mono ?_; rintro e w7 ⟨rfl, b7⟩; have H7 := hid (H6.out.keep b7); have HB7 := hid (below_seq HB6.out (Nat.le_refl _) b7); have c7 := L1.out _ _ H7.out; clear b7) | (go_at_call 18; refine (C1.out _).mono ?_; rintro e w5 ⟨rfl, b5⟩; have H5 := hid (H4.out.keep b5); have HB5 := hid (below_seq HB4.out (Nat.le_refl _) b5); have c5 := L1.out _ _ H5.out; clear b5) | (go_at_call 11; refine (D1.out _).mono ?_; rintro e w6 ⟨rfl, b6⟩; have H6 := hid (H5.out.keep b6); have HB6 := hid (below_seq HB5.out (Nat.le_refl _) b6); have c6 := L1.out _ _ H6.out; clear b6))
        go_roundw
        case rel => exact ⟨k + 1, by omega, by go_num, H7.out, HB7.out⟩
        case measure => simp [intOf]; omega
    · obtain rfl : k = 38 := by omega
      go_wp2
      go_ret
      exact ⟨rfl, hb⟩
end Go.Proofs.Ytophclimlepjoaa
