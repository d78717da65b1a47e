/- The walk of the law BufferNone: every method at a nil buffer. -/
import Derived.Test.YtflkmdmceeefiaaDoorNils
import Derived.Test.YtflkmdmceeefiaaDoorEnv
namespace Go.Proofs.YtflkmdmceeefiaaDoor
open Go.RowKit Go.Shelf Go.Dia

set_option maxRecDepth 100000 in
set_option maxHeartbeats 4000000 in
theorem none_walk (w0 : World) (a0 a1 : Addr) (hv : Env w0 a0 a1) (at_ n : Int) (s : ByteArray) (hs : s.size ≤ maxLen) :
    Calls Tryd.prog 8 #[.int .i64 at_, .int .i64 n, .string s] w0 fun e W' => e = .returned (.bool true) ∧ Below w0.heap.size w0 W' := by
  go_enter Tryd.func8, Tryd.ntmps8
  go_wp2_with (first | (go_at_call 10; refine (shown_any w0 a0 a1 hv).mono ?_; rintro e w1 ⟨rfl, h1⟩) | (go_at_call 18; refine (read_nil _ at_ n).mono ?_; rintro e w2 ⟨rfl, rfl⟩) | (go_at_call 21; refine (compact_nil _).mono ?_; rintro e w3 ⟨rfl, rfl⟩) | (go_at_call 11; refine (cut_any _ s hs).mono ?_; rintro e w4 ⟨rfl, rfl⟩) | (go_at_call 15; refine (splice_nil _ at_ n _).mono ?_; rintro e w5 ⟨rfl, rfl⟩) | (go_at_call 17; refine (len_nil _).mono ?_; rintro e w6 ⟨rfl, rfl⟩) | (go_at_call 16; refine (text_nil _).mono ?_; rintro e w7 ⟨rfl, rfl⟩) | (go_at_call 20; refine (pieces_nil _).mono ?_; rintro e w8 ⟨rfl, rfl⟩))
  go_ret
  exact ⟨rfl, h1⟩
end Go.Proofs.YtflkmdmceeefiaaDoor
