/- GlyphTells: the walk. -/
import Derived.Test.YtophclimlepjoaaShown
import Derived.Test.YtophclimlepjoaaPlainA
import Derived.Test.YtophclimlepjoaaRefA
namespace Go.Proofs.Ytophclimlepjoaa
open Go.RowKit Go.Shelf Go.Dia Go.Maps

theorem cutB_size (s : ByteArray) : (cutB s).size ≤ 300 := by unfold cutB; rw [ByteArray.size_extract]; omega
theorem below_seq {N : Nat} {a b c : World} (h : Below N a b) (hn : N ≤ a.heap.size) (k : Below b.heap.size b c) : Below N a c := h.trans (k.mono (Nat.le_trans hn h.size))

set_option maxRecDepth 100000 in
set_option maxHeartbeats 8000000 in
theorem law3 (w : World) (g s : ByteArray) (hg : g.size ≤ maxLen) (hs : s.size ≤ maxLen) : Calls Try.prog 3 #[.string g, .string s] w fun e W' => e = .returned (.bool true) ∧ Below w.heap.size w W' := by
  have hgc := cutB_size g
  have hsc := cutB_size s
  have K9 := hid shown9
  have K10 := hid (fun W => cut10 W g hg)
  have K10' := hid (fun W => cut10 W s hs)
  obtain ⟨x, hx⟩ : ∃ x, cutB g = x := ⟨_, rfl⟩
  obtain ⟨y, hy⟩ : ∃ y, cutB s = y := ⟨_, rfl⟩
  rw [hx] at K10 hgc
  rw [hy] at K10' hsc
  clear hx hy
  have hm : x.size ≤ maxLen := by unfold maxLen; omega
  have K11 := hid (fun W => digraph11 W x hm)
  have K12 := hid (fun W => digraph12 W x)
  have K13 := hid (fun W => first13 W y)
  have K14 := hid (fun W => first14 W y)
  have K18 := hid (fun W => class18 W x hm)
  have K19 := hid (fun W => class19 W x)
  rw [dig_eq] at K11
  rw [class_eq] at K18
  rw [firstR_eq] at K14
  have K16 := hid all16
  have K17 := hid all17
  obtain ⟨d, hd⟩ : ∃ d, digR x = d := ⟨_, rfl⟩
  rw [hd] at K11 K12
  obtain ⟨f1, hf1⟩ : ∃ f1, (firstG y).1.1 = f1 := ⟨_, rfl⟩
  obtain ⟨f2, hf2⟩ : ∃ f2, ((firstG y).2.size : Int) = f2 := ⟨_, rfl⟩
  rw [hf1, hf2] at K13 K14
  obtain ⟨cl, hcl⟩ : ∃ cl, classR x = cl := ⟨_, rfl⟩
  rw [hcl] at K18 K19
  clear hd hf1 hf2 hcl
  obtain ⟨d1, d2⟩ := d
  simp only at K11 K12
  go_enter Try.func3, Try.ntmps3
  go_wp2_with (first | (go_at_call 9; refine (K9.out _).mono ?_; rintro e w1 ⟨rfl, b1⟩) | (go_at_call 10; first | (refine (K10'.out _).mono ?_; rintro e w2 ⟨rfl, rfl⟩) | (refine (K10.out _).mono ?_; rintro e w2 ⟨rfl, rfl⟩)) | (go_at_call 11; refine (K11.out _).mono ?_; rintro e w3 ⟨rfl, b3⟩) | (go_at_call 12; refine (K12.out _).mono ?_; rintro e w4 ⟨rfl, b4⟩) | (go_at_call 13; refine (K13.out _).mono ?_; rintro e w5 ⟨rfl, b5⟩) | (go_at_call 14; refine (K14.out _).mono ?_; rintro e w6 ⟨rfl, b6⟩) | (go_at_call 16; refine (K16.out _).mono ?_; rintro e w7 ⟨v7, rfl, o7, b7⟩) | (go_at_call 17; refine (K17.out _).mono ?_; rintro e w8 ⟨v8, rfl, o8, b8⟩; have t7 := strs_of_own (l := texts allG) (o7.kept (Go.Dia.Below.grow b8 none) (by cases v7.ownBlock <;> simp)) (by decide); have t8 := strs_of_own (l := texts allG) o8 (by decide)) | (go_at_call 15; refine (texts15 _ v7 v8 (texts allG) (by decide) t7 t8).mono ?_; rintro e w9 ⟨rfl, b9⟩) | (go_at_call 18; refine (K18.out _).mono ?_; rintro e wA ⟨rfl, bA⟩) | (go_at_call 19; refine (K19.out _).mono ?_; rintro e wB ⟨rfl, bB⟩))
  go_ret
  refine ⟨rfl, ?_⟩
  have n := Nat.le_refl w.heap.size
  exact below_seq (below_seq (below_seq (below_seq (below_seq (below_seq (below_seq (below_seq (below_seq b1 n b3) n b4) n b5) n b6) n b7) n b8) n b9) n bA) n bB
end Go.Proofs.Ytophclimlepjoaa
