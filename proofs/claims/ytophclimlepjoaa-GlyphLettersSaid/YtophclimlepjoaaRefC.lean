/- the reference's Class and Digraph. -/
import Derived.Test.YtophclimlepjoaaRef
import Derived.BigQuiet
import Derived.Deep.QuietTactic
namespace Go.Proofs.Ytophclimlepjoaa
open Go.RowKit Go.Shelf Go.Dia Go.Maps

theorem tab_cells {W : World} {g : Nat} (h : Blk W g 58 (glCells allG).toArray) (k : Nat) (hk : k < allG.length) :
    W.cell? ⟨g, k * 3, none⟩ = some (.string allG[k].1) ∧ W.cell? ⟨g, k * 3 + 1, none⟩ = some (.string allG[k].2.1) ∧ W.cell? ⟨g, k * 3 + 2, none⟩ = some (.int .i64 allG[k].2.2) := by
  obtain ⟨k1, k2, k3⟩ := glCells_get allG k hk
  exact ⟨(h.cell _).trans (by simpa using k1), (h.cell _).trans (by simpa using k2), (h.cell _).trans (by simpa using k3)⟩
/-- the first that p holds of -/
def findP (p : Gl → Bool) : List Gl → Option Gl
  | [] => none
  | g :: r => if p g = true then some g else findP p r
theorem findP_none {p : Gl → Bool} {l : List Gl} (r : List Gl) (h : findP p l = none) : findP p (l ++ r) = findP p r := by
  induction l with
  | nil => rfl
  | cons g l ih =>
    unfold findP at h
    split at h
    · cases h
    · rename_i hg
      rw [List.cons_append]
      show (if p g = true then some g else findP p (l ++ r)) = _
      rw [if_neg hg]; exact ih h
theorem findP_hit {p : Gl → Bool} (k : Nat) (hk : k < allG.length) (h : findP p (allG.take k) = none) (ha : p allG[k] = true) : findP p allG = some allG[k] := by
  have e : allG = allG.take k ++ (allG[k] :: allG.drop (k + 1)) := by rw [← List.drop_eq_getElem_cons hk, List.take_append_drop]
  have e2 : findP p allG = findP p (allG[k] :: allG.drop (k + 1)) := (congrArg (findP p) e).trans (findP_none _ h)
  rw [e2]
  show (if p allG[k] = true then some allG[k] else _) = _
  rw [if_pos ha]
theorem findP_miss {p : Gl → Bool} (k : Nat) (hk : k < allG.length) (h : findP p (allG.take k) = none) (ha : p allG[k] = false) : findP p (allG.take (k + 1)) = none := by
  rw [List.take_succ_eq_append_getElem hk, findP_none _ h]
  show (if p allG[k] = true then some allG[k] else none) = none
  rw [if_neg (by simp [ha])]
def isText (s : ByteArray) (g : Gl) : Bool := g.1.toList == s.toList
def isDig (s : ByteArray) (g : Gl) : Bool := (g.1.toList == s.toList) && !(g.2.1.toList == [])
def classR (s : ByteArray) : Int := match findP (isText s) allG with | some g => g.2.2 | none => 0
def digR (s : ByteArray) : ByteArray × Bool := match findP (isDig s) allG with | some g => (tick ++ g.2.1, true) | none => (⟨#[]⟩, false)

set_option maxRecDepth 100000 in
set_option maxHeartbeats 4000000 in
theorem class19 (w : World) (s : ByteArray) : Calls Try.prog 19 #[.string s] w fun e W' => e = .returned (.int .i64 (classR s)) ∧ Below w.heap.size w W' := by
  have H := hid (table25 w)
  go_enter Try.func19, Try.ntmps19
  go_wp2_with (go_at_call 25; refine H.out.mono ?_; rintro e W ⟨g, rfl, hB, _, hbl⟩; have HT := hid (tab_cells hB); have HB := hid hbl; clear hB hbl)
  go_loopw [4] (fun i wr => ∃ k : Nat, k ≤ 38 ∧ i = .int .i64 k ∧ findP (isText s) (allG.take k) = none ∧ wr = W) (fun i _ => 38 - (intOf i).toNat)
  case atStart => exact ⟨0, Nat.zero_le _, rfl, rfl, rfl⟩
  case round =>
    obtain ⟨k, hk, rfl, hf, rfl⟩ := hrel
    by_cases hlt : k < 38
    · obtain ⟨h1, h2, h3⟩ := HT.out k hlt
      have HH := hid (findP_hit (p := isText s) k hlt hf)
      have HM := hid (findP_miss (p := isText s) k hlt hf)
      obtain ⟨x, hx⟩ : ∃ x, allG[k] = x := ⟨_, rfl⟩
      rw [hx] at h1 h2 h3 HH HM
      clear hx hf
      obtain ⟨xa, xb, xc⟩ := x
      simp only at h1 h2 h3
      cases he : (xa.toList == s.toList) with
      | true =>
        go_wp2
        go_ret
        exact ⟨by unfold classR; rw [HH.out he]; rfl, HB.out⟩
      | false =>
        go_wp2
        go_roundw
        case rel => exact ⟨k + 1, by omega, by go_num, HM.out he, by first | rfl | trivial⟩
        case measure => simp [intOf]; omega
    · obtain rfl : k = 38 := by omega
      go_wp2
      go_ret
      have hf' : findP (isText s) allG = none := hf
      exact ⟨by unfold classR; rw [hf']; rfl, HB.out⟩

set_option maxRecDepth 100000 in
set_option maxHeartbeats 4000000 in
theorem digraph12 (w : World) (s : ByteArray) : Calls Try.prog 12 #[.string s] w fun e W' => e = .returned (.tuple #[.string (digR s).1, .bool (digR s).2]) ∧ Below w.heap.size w W' := by
  have H := hid (table25 w)
  go_enter Try.func12, Try.ntmps12
  go_wp2_with (go_at_call 25; refine H.out.mono ?_; rintro e W ⟨g, rfl, hB, _, hbl⟩; have HT := hid (tab_cells hB); have HB := hid hbl; clear hB hbl)
  go_loopw [5] (fun i wr => ∃ k : Nat, k ≤ 38 ∧ i = .int .i64 k ∧ findP (isDig s) (allG.take k) = none ∧ wr = W) (fun i _ => 38 - (intOf i).toNat)
  case atStart => exact ⟨0, Nat.zero_le _, rfl, rfl, rfl⟩
  case round =>
    obtain ⟨k, hk, rfl, hf, rfl⟩ := hrel
    by_cases hlt : k < 38
    · obtain ⟨h1, h2, h3⟩ := HT.out k hlt
      have HH := hid (findP_hit (p := isDig s) k hlt hf)
      have HM := hid (findP_miss (p := isDig s) k hlt hf)
      have hz := (allG_size1 _ (List.getElem_mem (l := allG) (n := k) hlt)).2.2
      obtain ⟨x, hx⟩ : ∃ x, allG[k] = x := ⟨_, rfl⟩
      rw [hx] at h1 h2 h3 HH HM hz
      clear hx hf
      obtain ⟨xa, xb, xc⟩ := x
      simp only at h1 h2 h3 hz
      have h9 : ¬ 9223372036854775807 < 1 + xb.size := by omega
      cases he : (xa.toList == s.toList) with
      | true =>
        cases he2 : (xb.toList == []) with
        | true =>
          have HD : Hid (isDig s (xa, xb, xc) = false) := hid (by unfold isDig; simp only; rw [he2, Bool.not_true, Bool.and_false])
          go_wp2
          go_roundw
          case rel => exact ⟨k + 1, by omega, by go_num, HM.out HD.out, by first | rfl | trivial⟩
          case measure => simp [intOf]; omega
        | false =>
          have HD : Hid (isDig s (xa, xb, xc) = true) := hid (by unfold isDig; simp only; rw [he, he2]; rfl)
          go_wp2
          go_ret2
          exact ⟨by unfold digR; rw [HH.out HD.out]; rfl, HB.out⟩
      | false =>
        have HD : Hid (isDig s (xa, xb, xc) = false) := hid (by unfold isDig; simp only; rw [he, Bool.false_and])
        go_wp2
        go_roundw
        case rel => exact ⟨k + 1, by omega, by go_num, HM.out HD.out, by first | rfl | trivial⟩
        case measure => simp [intOf]; omega
    · obtain rfl : k = 38 := by omega
      go_wp2
      go_ret2
      have hf' : findP (isDig s) allG = none := hf
      exact ⟨by unfold digR; rw [hf']; rfl, HB.out⟩
end Go.Proofs.Ytophclimlepjoaa
