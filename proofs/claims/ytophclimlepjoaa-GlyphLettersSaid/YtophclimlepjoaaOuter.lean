/- the exported functions: Class, Digraph, First, Glyphs, Ascii. -/
import Derived.Test.YtophclimlepjoaaTurn
namespace Go.Proofs.Ytophclimlepjoaa
open Go.RowKit Go.Shelf Go.Dia Go.Maps

def gluB (l : List UInt8) : ByteArray := ⟨l.toArray⟩
theorem fresh_tab (w : World) : TabAt (w.alloc (.cells #[.int .u32 0, .int .i32 0, .int .u32 0, .slice none 0 0, .map none] 53)) w.heap.size (w.heap.size + 1) := .inl ⟨Blk.new w 53 _, by simp, Nat.lt_succ_self _⟩
theorem below_fresh {w W' : World} (h : (w.alloc (.cells #[.int .u32 0, .int .i32 0, .int .u32 0, .slice none 0 0, .map none] 53)).grownBy W' (some w.heap.size)) : Below w.heap.size w W' :=
  ((Below.refl _ w).alloc (Nat.le_refl _) _).trans (grown_below h (by simp))

set_option maxHeartbeats 1000000 in
theorem glyphs20 (w : World) (s : ByteArray) (hs : s.size ≤ 100000) : Calls Try.prog 20 #[.string s] w fun e W' => e = .returned (.string (gluB (turnL toG s))) ∧ Below w.heap.size w W' := by
  have H := hid (turn30 w s hs)
  go_enter Try.func20, Try.ntmps20
  go_wp2_with (go_at_call 29; refine H.out.mono ?_; rintro e w' ⟨rfl, hb⟩)
  go_ret
  exact ⟨rfl, hb⟩
set_option maxHeartbeats 1000000 in
theorem ascii22 (w : World) (s : ByteArray) (hs : s.size ≤ 100000) : Calls Try.prog 22 #[.string s] w fun e W' => e = .returned (.string (gluB (turnL toA s))) ∧ Below w.heap.size w W' := by
  have H := hid (turn31 w s hs)
  go_enter Try.func22, Try.ntmps22
  go_wp2_with (go_at_call 29; refine H.out.mono ?_; rintro e w' ⟨rfl, hb⟩)
  go_ret
  exact ⟨rfl, hb⟩
theorem field36 (a b c : Value) (w : World) : (Instr.field 36 (.agg #[a, b, c]) 2).run Try.prog w = .ok c w := by
  simp [Instr.field, asAgg, part, Result.andThen]
set_option maxRecDepth 100000 in
set_option maxHeartbeats 1000000 in
theorem class18 (w : World) (s : ByteArray) (hs : s.size ≤ maxLen) : Calls Try.prog 18 #[.string s] w fun e W' => e = .returned (.int .i64 (ofG s).2.2) ∧ Below w.heap.size w W' := by
  have H := hid (of_any _ w.heap.size (w.heap.size + 1) s hs (fresh_tab w))
  obtain ⟨g, hg⟩ : ∃ g, ofG s = g := ⟨_, rfl⟩
  rw [hg] at H ⊢
  clear hg
  obtain ⟨ga, gb, gc⟩ := g
  unfold glV at H
  simp only at H
  have hf := field36
  go_enter Try.func18, Try.ntmps18
  go_wp2_with (go_at_call 24; refine H.out.mono ?_; rintro e w' ⟨rfl, _, hg⟩; have HG := hid hg; clear hg)
  go_ret
  exact ⟨rfl, below_fresh HG.out⟩
def digL (s : ByteArray) : ByteArray × Bool := if (ofG s).2.1 = ⟨#[]⟩ then (⟨#[]⟩, false) else (tick ++ (ofG s).2.1, true)
theorem atR_mem (k : ByteArray) : ∀ r, atR r k = zeroG ∨ atR r k ∈ r
  | [] => .inl rfl
  | g :: r => by
    unfold atR
    split
    · exact .inr (by simp)
    · rcases atR_mem k r with h | h
      · exact .inl h
      · exact .inr (List.mem_cons_of_mem _ h)
theorem ofG_letter (s : ByteArray) : (ofG s).2.1.size ≤ 1 := by
  rcases atR_mem s allG.reverse with h | h
  · unfold ofG; rw [h]; decide
  · exact (allG_size1 _ (List.mem_reverse.1 h)).2.2
set_option maxRecDepth 100000 in
set_option maxHeartbeats 4000000 in
theorem digraph11 (w : World) (s : ByteArray) (hs : s.size ≤ maxLen) : Calls Try.prog 11 #[.string s] w fun e W' => e = .returned (.tuple #[.string (digL s).1, .bool (digL s).2]) ∧ Below w.heap.size w W' := by
  have H := hid (of_any _ w.heap.size (w.heap.size + 1) s hs (fresh_tab w))
  obtain ⟨g, hg⟩ : ∃ g, ofG s = g := ⟨_, rfl⟩
  have hl := ofG_letter s
  have HD := hid (show digL s = if g.2.1 = ⟨#[]⟩ then (⟨#[]⟩, false) else (tick ++ g.2.1, true) by unfold digL; rw [hg])
  rw [hg] at H hl
  clear hg
  obtain ⟨ga, gb, gc⟩ := g
  unfold glV at H
  simp only at H hl HD
  by_cases hb : gb = ⟨#[]⟩
  · subst hb
    go_enter Try.func11, Try.ntmps11
    go_wp2_with (go_at_call 24; refine H.out.mono ?_; rintro e w' ⟨rfl, _, hg⟩; have HG := hid hg; clear hg)
    all_goals
      go_ret2
      have := HG.out.size
      have := below_fresh HG.out
      exact ⟨by rw [HD.out, if_pos (by trivial)]; rfl, (this.alloc this.size _).alloc (Nat.le_trans this.size (by simp)) _⟩
  · have h0 : ¬ gb.toList = [] := fun e => hb (empty_of_toList e)
    have h1 : (gb.toList == []) = false := by simpa using h0
    have h2 : ¬ 9223372036854775807 < 1 + gb.size := by omega
    go_enter Try.func11, Try.ntmps11
    go_wp2_with (go_at_call 24; refine H.out.mono ?_; rintro e w' ⟨rfl, _, hg⟩; have HG := hid hg; clear hg)
    all_goals
      go_ret2
      have := below_fresh HG.out
      exact ⟨by rw [HD.out, if_neg hb]; rfl, (this.alloc this.size _).alloc (Nat.le_trans this.size (by simp)) _⟩
set_option maxRecDepth 100000 in
set_option maxHeartbeats 4000000 in
theorem first13 (w : World) (s : ByteArray) : Calls Try.prog 13 #[.string s] w fun e W' => e = .returned (.tuple #[.string (firstG s).1.1, .int .i64 ((firstG s).2.size : Int)]) ∧ Below w.heap.size w W' := by
  have HR : Blk ((w.alloc (.cells #[.int .u32 0, .int .i32 0, .int .u32 0, .slice none 0 0, .map none] 53)).alloc (.cells #[.string s, .pointer (some ⟨w.heap.size, 0, none⟩), .pointer none, .slice none 0 0] 67)) (w.heap.size + 1) 67 #[.string s, .pointer (some ⟨w.heap.size, 0, none⟩), .pointer none, .slice none 0 0] := by
    have := Blk.new (w.alloc (.cells #[.int .u32 0, .int .i32 0, .int .u32 0, .slice none 0 0, .map none] 53)) 67 #[.string s, .pointer (some ⟨w.heap.size, 0, none⟩), .pointer none, .slice none 0 0]
    rwa [World.size_alloc] at this
  have H := hid (first26 _ _ _ _ _ _ _ HR ((fresh_tab w).kept (World.grownBy_alloc _ _ none)))
  obtain ⟨fg, hfg⟩ : ∃ fg, firstG s = fg := ⟨_, rfl⟩
  rw [hfg] at H ⊢
  clear hfg HR
  obtain ⟨⟨ga, gb, gc⟩, ra⟩ := fg
  unfold glV at H
  simp only at H
  go_enter Try.func13, Try.ntmps13
  go_wp2_with (go_at_call 26; refine H.out.mono ?_; rintro e w' ⟨rfl, _, hg⟩; have HG := hid hg; clear hg)
  go_ret2
  have hb : Below w.heap.size w w' := (((Below.refl _ w).alloc (Nat.le_refl _) _).alloc (by simp) _).trans (grown_below HG.out (by simp; omega))
  exact ⟨rfl, hb.alloc hb.size _⟩
end Go.Proofs.Ytophclimlepjoaa
