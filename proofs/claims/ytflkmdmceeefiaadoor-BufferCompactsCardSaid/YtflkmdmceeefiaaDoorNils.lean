/- Every method at a nil buffer; Cut; the reference Splice and Read. -/
import Derived.Test.YtflkmdmceeefiaaDoorBuf
namespace Go.Proofs.YtflkmdmceeefiaaDoor
open Go.RowKit Go.Shelf Go.Dia

theorem splice_nil (w : World) (at_ n : Int) (s : ByteArray) : Calls Tryd.prog 15 #[.pointer none, .int .i64 at_, .int .i64 n, .string s] w fun e W' => e = .returned (.int .i64 1) ∧ W' = w := by
  go_enter Tryd.func15, Tryd.ntmps15
  go_wp2
  go_ret
  simp
theorem text_nil (w : World) : Calls Tryd.prog 16 #[.pointer none] w fun e W' => e = .returned (.string ⟨#[]⟩) ∧ W' = w := by
  go_enter Tryd.func16, Tryd.ntmps16
  go_wp2
  go_ret
  exact ⟨rfl, rfl⟩
theorem len_nil (w : World) : Calls Tryd.prog 17 #[.pointer none] w fun e W' => e = .returned (.int .i64 0) ∧ W' = w := by
  go_enter Tryd.func17, Tryd.ntmps17
  go_wp2
  go_ret
  simp
theorem read_nil (w : World) (at_ n : Int) : Calls Tryd.prog 18 #[.pointer none, .int .i64 at_, .int .i64 n] w fun e W' => e = .returned (.tuple #[.string ⟨#[]⟩, .int .i64 1]) ∧ W' = w := by
  go_enter Tryd.func18, Tryd.ntmps18
  go_wp2
  go_ret2
  exact ⟨rfl, rfl⟩
theorem pieces_nil (w : World) : Calls Tryd.prog 20 #[.pointer none] w fun e W' => e = .returned (.int .i64 0) ∧ W' = w := by
  go_enter Tryd.func20, Tryd.ntmps20
  go_wp2
  go_ret
  simp
theorem compact_nil (w : World) : Calls Tryd.prog 21 #[.pointer none] w fun e W' => e = .returned (.tuple #[]) ∧ W' = w := by
  go_enter Tryd.func21, Tryd.ntmps21
  go_wp2
  refine bodyPost_ret (results_none rfl _ _ _) rfl ?_
  exact ⟨rfl, rfl⟩

/-- the first four thousand and ten bytes -/
def cutB (s : ByteArray) : ByteArray := s.extract 0 (min (s.size : Int) 4010).toNat
theorem cutB_size (s : ByteArray) : (cutB s).size ≤ 4010 := by unfold cutB; simp; omega
theorem cutB_self (s : ByteArray) (h : s.size ≤ 4010) : cutB s = s := by
  unfold cutB
  have : (min (s.size : Int) 4010).toNat = s.size := by omega
  rw [this]
  apply ByteArray.ext
  simp
set_option maxHeartbeats 1000000 in
theorem cut_any (w : World) (s : ByteArray) (hs : s.size ≤ maxLen) : Calls Tryd.prog 11 #[.string s] w fun e W' => e = .returned (.string (cutB s)) ∧ W' = w := by
  unfold maxLen at hs
  go_enter Tryd.func11, Tryd.ntmps11
  go_wp2
  go_ret
  exact ⟨rfl, rfl⟩

instance (size at_ n : Int) : Decidable (Bad size at_ n) := by unfold Bad; infer_instance

/-- the document's splice -/
def put (t : ByteArray) (at_ n : Int) (s : ByteArray) : ByteArray := t.extract 0 at_.toNat ++ s ++ t.extract (at_ + n).toNat t.size
set_option maxHeartbeats 1000000 in
theorem refSplice_bad (w : World) (t : ByteArray) (at_ n : Int) (s : ByteArray) (ht : t.size ≤ 4000) (hb : Bad t.size at_ n) : Calls Tryd.prog 14 #[.string t, .int .i64 at_, .int .i64 n, .string s] w fun e W' => e = .returned (.tuple #[.string t, .int .i64 10]) ∧ W' = w := by
  unfold Bad at hb
  go_enter Tryd.func14, Tryd.ntmps14
  go_wp2
  all_goals first | (go_ret2; first | (refine ⟨?_, rfl⟩; simp) | exact ⟨rfl, rfl⟩) | (exfalso; simp at *; omega)
set_option maxHeartbeats 1000000 in
theorem refSplice_full (w : World) (t : ByteArray) (at_ n : Int) (s : ByteArray) (ht : t.size ≤ 4000) (hs : s.size ≤ 4010) (hb : ¬ Bad t.size at_ n) (hf : 4000 < (t.size : Int) - n + s.size) : Calls Tryd.prog 14 #[.string t, .int .i64 at_, .int .i64 n, .string s] w fun e W' => e = .returned (.tuple #[.string t, .int .i64 11]) ∧ W' = w := by
  unfold Bad at hb
  go_enter Tryd.func14, Tryd.ntmps14
  go_wp2
  go_ret2
  simp
set_option maxRecDepth 100000 in
set_option maxHeartbeats 1000000 in
theorem refSplice_ok (w : World) (t : ByteArray) (at_ n : Int) (s : ByteArray) (ht : t.size ≤ 4000) (hs : s.size ≤ 4010) (hb : ¬ Bad t.size at_ n) (hf : (t.size : Int) - n + s.size ≤ 4000) : Calls Tryd.prog 14 #[.string t, .int .i64 at_, .int .i64 n, .string s] w fun e W' => e = .returned (.tuple #[.string (put t at_ n s), .int .i64 0]) ∧ Below w.heap.size w W' := by
  have hc : 0 ≤ at_ ∧ at_ ≤ t.size ∧ 0 ≤ n ∧ n ≤ t.size - at_ := by unfold Bad at hb; omega
  obtain ⟨k1, k2, k3, k4⟩ := hc
  clear hb
  go_enter Tryd.func14, Tryd.ntmps14
  go_wp2
  have e1 : IntKind.i64.wrap (at_ + n) = at_ + n := IntWalk.i64_in _ (by omega)
  go_region_with (fail)
  all_goals (go_wp2; simp [Act.put]; go_ret2; exact ⟨rfl, below_undrew (Below.refl _ _)⟩)
set_option maxHeartbeats 1000000 in
theorem refRead_bad (w : World) (t : ByteArray) (at_ n : Int) (ht : t.size ≤ 4000) (hb : Bad t.size at_ n) : Calls Tryd.prog 19 #[.string t, .int .i64 at_, .int .i64 n] w fun e W' => e = .returned (.tuple #[.string ⟨#[]⟩, .int .i64 10]) ∧ W' = w := by
  unfold Bad at hb
  go_enter Tryd.func19, Tryd.ntmps19
  go_wp2
  all_goals first | (go_ret2; first | (refine ⟨?_, rfl⟩; simp) | exact ⟨rfl, rfl⟩) | (exfalso; simp at *; omega)
set_option maxRecDepth 100000 in
set_option maxHeartbeats 1000000 in
theorem refRead_ok (w : World) (t : ByteArray) (at_ n : Int) (ht : t.size ≤ 4000) (hb : ¬ Bad t.size at_ n) : Calls Tryd.prog 19 #[.string t, .int .i64 at_, .int .i64 n] w fun e W' => e = .returned (.tuple #[.string (t.extract at_.toNat (at_ + n).toNat), .int .i64 0]) ∧ W' = w := by
  have hc : 0 ≤ at_ ∧ at_ ≤ t.size ∧ 0 ≤ n ∧ n ≤ t.size - at_ := by unfold Bad at hb; omega
  obtain ⟨k1, k2, k3, k4⟩ := hc
  clear hb
  have z1 : 0 ≤ at_ + n := by omega
  have z2 : at_ ≤ at_ + n := by omega
  have z3 : at_ + n ≤ (t.size : Int) := by omega
  go_enter Tryd.func19, Tryd.ntmps19
  go_wp2
  go_ret2
  exact ⟨rfl, rfl⟩
end Go.Proofs.YtflkmdmceeefiaaDoor
