/- Compact. -/
import Derived.Test.YtflkmdmceeefiaaDoorNew
namespace Go.Proofs.YtflkmdmceeefiaaDoor
open Go.RowKit Go.Shelf Go.Dia

set_option maxHeartbeats 2000000 in
set_option maxRecDepth 100000 in
theorem compact_any (w : World) (B : Nat) (laid : List UInt8) (ps : List Pc) (h : IsBuf w B laid ps) :
    Calls Tryd.prog 21 #[.pointer (some ⟨B, 0, none⟩)] w fun e W' => e = .returned (.tuple #[]) ∧ w.grownBy W' (some B) ∧
      ∃ m, ∃ hm : m ≤ 4000, m = total ps ∧ IsBuf W' B (textOf laid ps) [whole m hm] := by
  have htx := text_any w B laid ps h
  obtain ⟨vl, vp, hB, hl, hp, hlne, hpne, hval, hlen, htot⟩ := h
  have hTL : (⟨(textOf laid ps).toArray⟩ : ByteArray).size = total ps := by
    have := textOf_length laid ps hval
    simpa [ByteArray.size] using this
  generalize hs : (⟨(textOf laid ps).toArray⟩ : ByteArray) = s at htx hTL
  have hs' : Hid (s.data.toList = textOf laid ps) := hid (by rw [← hs])
  have hs4 : s.size ≤ 4000 := by omega
  have hTL' : Hid (s.size = total ps) := hid hTL
  have htx' := hid htx
  clear hs hTL htx
  go_enter Tryd.func21, Tryd.ntmps21
  go_wp2_with (first | (go_at_call 16; refine htx'.out.mono ?_; rintro e w1 ⟨rfl, hb⟩; have hB1 := hB.below hb hB.lt; have fr1 := hB1.frozen 0; have c1 := hB1.cell 0) | (go_at_call 23; refine (lay_any _ B _ _ [] s (hB1.set 0 (.slice none 0 0)) (isBytes_nil _) (by simp; omega)).mono ?_; rintro e w5 ⟨rfl, vl', hvl', hB', hl', hg⟩; have hB6 := hB'.alloc (.cells #[.int .i64 0, .int .i64 s.size] 54); have fr6 := hB6.frozen 1; have c6 := hB6.cell 1))
  go_end0
  have hB7 := hB6.set 1 (.slice (some ⟨w5.heap.size, 0, none⟩) 1 1)
  have g0 := Lib.grownBy_setCell w1 B 0 (.slice none 0 0)
  have g1 := World.grownBy_alloc w5 (.cells #[.int .i64 0, .int .i64 s.size] 54) none
  have gS := Lib.grownBy_setCell (w5.alloc (.cells #[.int .i64 0, .int .i64 s.size] 54)) B 1 (.slice (some ⟨w5.heap.size, 0, none⟩) 1 1)
  have hp : IsPcs (w5.alloc (.cells #[.int .i64 0, .int .i64 s.size] 54)) (.slice (some ⟨w5.heap.size, 0, none⟩) 1 1) [whole s.size hs4] := isPcs_one _ (Blk.new _ _ _)
  have gall : w.grownBy _ (some B) := grownBy.trans (Below.grow hb (some B)) (grownBy.trans g0 (grownBy.trans hg (grownBy.trans (Below.grow (grownBy.below g1) (some B)) gS)))
  have hl2 := own_kept (own_below hl' (grownBy.below g1)) hB6 (by decide) gS
  refine ⟨rfl, gall, s.size, hs4, hTL'.out, vl', _, hB7, ?_, own_kept hp hB6 (by decide) gS, hvl', by simp, ?_, by simp, by simp [total, whole]; omega⟩
  · rw [← hs'.out]; exact hl2
  · rw [← hs'.out]
    intro x hx
    simp at hx
    subst hx
    simp [whole]
end Go.Proofs.YtflkmdmceeefiaaDoor
