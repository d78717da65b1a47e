/- the reference's First. -/
import Derived.Test.YtophclimlepjoaaRefC
namespace Go.Proofs.Ytophclimlepjoaa
open Go.RowKit Go.Shelf Go.Dia Go.Maps

def firstR (s : ByteArray) : ByteArray × Int := match findG s allG with | some (g, _) => (g.1, if hasP s g.1 = true then (g.1.size : Int) else 2) | none => (⟨#[]⟩, 0)

set_option maxRecDepth 100000 in
set_option maxHeartbeats 8000000 in
theorem first14 (w : World) (s : ByteArray) : Calls Try.prog 14 #[.string s] w fun e W' => e = .returned (.tuple #[.string (firstR s).1, .int .i64 (firstR s).2]) ∧ Below w.heap.size w W' := by
  have H := hid (table25 w)
  go_enter Try.func14, Try.ntmps14
  go_wp2_with (go_at_call 25; refine H.out.mono ?_; rintro e W ⟨g, rfl, hB, _, hbl⟩; have HT := hid (tab_cells hB); have HB := hid hbl; clear hB hbl)
  go_loopw [5] (fun i wr => ∃ k : Nat, k ≤ 38 ∧ i = .int .i64 k ∧ findG s (allG.take k) = none ∧ wr = W) (fun i _ => 38 - (intOf i).toNat)
  case atStart => exact ⟨0, Nat.zero_le _, rfl, rfl, rfl⟩
  case round =>
    obtain ⟨k, hk, rfl, hf, rfl⟩ := hrel
    by_cases hlt : k < 38
    · obtain ⟨h1, h2, h3⟩ := HT.out k hlt
      have HH := hid (fun a => findG_hit s k hlt hf a)
      have HM := hid (findG_miss s k hlt hf)
      have hz := (allG_size1 _ (List.getElem_mem (l := allG) (n := k) hlt)).2.2
      obtain ⟨x, hx⟩ : ∃ x, allG[k] = x := ⟨_, rfl⟩
      rw [hx] at h1 h2 h3 HH HM hz
      clear hx hf
      obtain ⟨xa, xb, xc⟩ := x
      simp only at h1 h2 h3 hz
      have h9 : ¬ 9223372036854775807 < 1 + xb.size := by omega
      have B27 := hid (begins27 s)
      have j0 : (k : Int) < 38 := by omega
      cases p1 : hasP s xa with
      | true =>
        go_wp2_with (go_at_call 27; refine (B27.out _ _).mono ?_; rintro e w' ⟨rfl, rfl⟩; rw [p1])
        go_quiet (fail)
        go_wp2
        go_ret2
        refine ⟨?_, HB.out.trans (grownBy.below (drewN_grown _ _ none) |>.mono HB.out.size)⟩
        unfold firstR
        rw [HH.out xa (by unfold hitG; rw [if_pos p1])]
        simp only [p1, if_true]
        rfl
      | false =>
        cases he : (xb.toList == []) with
        | true =>
          have hb : xb = ⟨#[]⟩ := empty_of_toList (by simpa using he)
          have HD : Hid (hitG s (xa, xb, xc) = none) := hid (by unfold hitG; rw [if_neg (by simp [p1]), if_neg (fun h => h.1 hb)])
          go_wp2_with (go_at_call 27; refine (B27.out _ _).mono ?_; rintro e w' ⟨rfl, rfl⟩; rw [p1])
          go_roundw
          case rel => exact ⟨k + 1, by omega, by go_num, HM.out HD.out, by first | rfl | trivial⟩
          case measure => simp [intOf]; omega
        | false =>
          have hb : ¬ xb = ⟨#[]⟩ := fun e => by rw [e, ByteArray.toList_eq] at he; simp at he
          cases p2 : hasP s (tick ++ xb) with
          | true =>
            have p2' : hasP s (⟨#[96]⟩ ++ xb) = true := p2
            have HD : Hid (hitG s (xa, xb, xc) = some (tick ++ xb)) := hid (by unfold hitG; rw [if_neg (by simp [p1]), if_pos ⟨hb, p2⟩])
            go_wp2_with (go_at_call 27; refine (B27.out _ _).mono ?_; rintro e w' ⟨rfl, rfl⟩; first | rw [p1] | rw [p2'])
            go_ret2
            refine ⟨?_, HB.out⟩
            unfold firstR
            rw [HH.out _ HD.out]
            simp only [p1]
            rfl
          | false =>
            have p2' : hasP s (⟨#[96]⟩ ++ xb) = false := p2
            have HD : Hid (hitG s (xa, xb, xc) = none) := hid (by unfold hitG; rw [if_neg (by simp [p1]), if_neg (fun h => by rw [p2] at h; cases h.2)])
            go_wp2_with (go_at_call 27; refine (B27.out _ _).mono ?_; rintro e w' ⟨rfl, rfl⟩; first | rw [p1] | rw [p2'])
            go_roundw
            case rel => exact ⟨k + 1, by omega, by go_num, HM.out HD.out, by first | rfl | trivial⟩
            case measure => simp [intOf]; omega
    · obtain rfl : k = 38 := by omega
      go_wp2
      go_ret2
      have hf' : findG s allG = none := hf
      exact ⟨by unfold firstR; rw [hf']; rfl, HB.out⟩
end Go.Proofs.Ytophclimlepjoaa
