/- New, at both ways. -/
import Derived.Test.YtflkmdmceeefiaaDoorSplice
namespace Go.Proofs.YtflkmdmceeefiaaDoor
open Go.RowKit Go.Shelf Go.Dia

/-- one piece: all that was laid down -/
def whole (n : Nat) (h : n ≤ 4000) : Pc := ⟨(0, n), by unfold PcOk; simp; omega⟩

theorem isBytes_nil (W : World) : IsBytes W (.slice none 0 0) [] := ⟨by simp [Lib.byteCells], .inl ⟨rfl, rfl⟩⟩

theorem grownBy.fresh {w W' : World} (h : w.grownBy W' (some w.heap.size)) : Below w.heap.size w W' := ⟨h.os, h.tape, h.output, h.size, fun k hk => h.block k hk (by simp; omega)⟩

set_option maxHeartbeats 2000000 in
set_option maxRecDepth 100000 in
theorem new_ok (w : World) (s : ByteArray) (hs : s.size ≤ 4000) :
    Calls Tryd.prog 12 #[.string s] w fun e W' => e = .returned (.tuple #[.pointer (some ⟨w.heap.size, 0, none⟩), .int .i64 0]) ∧ Below w.heap.size w W' ∧
      IsBuf W' w.heap.size s.data.toList [whole s.size hs] := by
  have hB0 : Blk (w.alloc (.cells #[.slice none 0 0, .slice none 0 0] 52)) w.heap.size 52 #[.slice none 0 0, .slice none 0 0] := Blk.new _ _ _
  have hlay := lay_any _ w.heap.size _ _ [] s hB0 (isBytes_nil _) (by simp; omega)
  go_enter Tryd.func12, Tryd.ntmps12
  go_wp2_with (go_at_call 23; refine hlay.mono ?_; rintro e w5 ⟨rfl, vl', hvl', hB', hl', hg⟩; have hB6 := hB'.alloc (.cells #[.int .i64 0, .int .i64 s.size] 54); have fr6 := hB6.frozen 1; have c6 := hB6.cell 1)
  go_ret2
  have hB7 := hB6.set 1 (.slice (some ⟨w5.heap.size, 0, none⟩) 1 1)
  have g0 := World.grownBy_alloc w (.cells #[.slice none 0 0, .slice none 0 0] 52) (some w.heap.size)
  have g1 := World.grownBy_alloc w5 (.cells #[.int .i64 0, .int .i64 s.size] 54) none
  have gS := Lib.grownBy_setCell (w5.alloc (.cells #[.int .i64 0, .int .i64 s.size] 54)) w.heap.size 1 (.slice (some ⟨w5.heap.size, 0, none⟩) 1 1)
  have hp : IsPcs (w5.alloc (.cells #[.int .i64 0, .int .i64 s.size] 54)) (.slice (some ⟨w5.heap.size, 0, none⟩) 1 1) [whole s.size hs] := isPcs_one _ (Blk.new _ _ _)
  have gall : w.grownBy _ (some w.heap.size) := grownBy.trans g0 (grownBy.trans hg (grownBy.trans (Below.grow (grownBy.below g1) (some w.heap.size)) gS))
  refine ⟨rfl, ?_, vl', _, hB7, own_kept (own_below hl' (grownBy.below g1)) hB6 (by decide) gS, own_kept hp hB6 (by decide) gS, hvl', by simp, ?_, by simp, by simp [total, whole]; omega⟩
  · exact grownBy.fresh gall
  · intro x hx
    simp at hx
    subst hx
    simp [whole]

set_option maxHeartbeats 2000000 in
theorem new_full (w : World) (s : ByteArray) (hs : 4000 < s.size) (a0 a1 : Addr) (hv : Vars w a0 a1) :
    Calls Tryd.prog 12 #[.string s] w fun e W' => e = .returned (.tuple #[.pointer none, .int .i64 11]) ∧ W' = w := by
  have c0 := hv.c0
  go_enter Tryd.func12, Tryd.ntmps12
  go_wp2_with (go_at_call 22; refine (told_full a0 a1 _ hv).mono ?_; rintro e w3 ⟨rfl, rfl⟩)
  go_ret2
  simp
end Go.Proofs.YtflkmdmceeefiaaDoor
