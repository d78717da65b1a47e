/- typed: lists of glyphs with letters. -/
import Derived.Test.YtophclimlepjoaaMk
import Derived.StillTail
import Derived.Deep.RegionHeld3
import Derived.Deep.AppendLies
namespace Go.Proofs.Ytophclimlepjoaa
open Go.RowKit Go.Shelf Go.Dia

def typedL (c : Int) (l : List (ByteArray × ByteArray)) : List Gl := l.map fun s => (s.1, s.2, c)
set_option maxRecDepth 100000 in
set_option maxHeartbeats 4000000 in
theorem typed_any (w : World) (c : Int) (b cap : Nat) (l : List (ByteArray × ByteArray)) (hl : l.length ≤ 100) (hb : b < w.heap.size) (hc : ∀ j (h : j < l.length), w.cell? ⟨b, j * 2, none⟩ = some (.string l[j].1) ∧ w.cell? ⟨b, j * 2 + 1, none⟩ = some (.string l[j].2)) :
    Calls Try.prog 41 #[.int .i64 c, .slice (some ⟨b, 0, none⟩) (l.length * 2) cap] w fun e W' => ∃ v, e = .returned v ∧ W'.ownsRow w.heap.size 36 3 v l.length (glCells (typedL c l)) ∧ Below w.heap.size w W' := by
  obtain ⟨i0, hi, hz0, hz1, hz2⟩ := info_parts infoGl
  have HC := hid hc
  clear hc
  obtain ⟨nn, hnn⟩ : ∃ nn, l.length * 2 = nn := ⟨_, rfl⟩
  rw [hnn]
  have HN : Hid (l.length * 2 = nn) := hid hnn
  have hn1 : nn ≤ l.length * 2 := by omega
  have hn2 : l.length * 2 ≤ nn := by omega
  clear hnn
  go_enter Try.func41, Try.ntmps41
  go_wp2
  go_loopw [5, 6] (fun v i wr => ∃ k : Nat, k ≤ l.length ∧ i = .int .i64 (((k * 2 : Nat)) : Int) ∧ wr.ownsRow w.heap.size 36 3 v k (glCells (typedL c (l.take k))) ∧ Below w.heap.size w wr) (fun _ i _ => nn - (intOf i).toNat)
  case atStart => exact ⟨0, Nat.zero_le _, rfl, World.ownsRow_nil _ _ _ _, Below.refl _ _⟩
  case round =>
    obtain ⟨k, hk, rfl, hv, hbl⟩ := hrel
    by_cases h1 : k < l.length
    · obtain ⟨cA0, cB0⟩ := HC.out k h1
      have cA : wr.drew.cell? ⟨b, k * 2, none⟩ = _ := (hbl.cell (p := ⟨b, k * 2, none⟩) hb).trans cA0
      have cB : wr.drew.cell? ⟨b, k * 2 + 1, none⟩ = _ := (hbl.cell (p := ⟨b, k * 2 + 1, none⟩) hb).trans cB0
      obtain ⟨s, hs⟩ : ∃ s, l[k].1 = s := ⟨_, rfl⟩
      obtain ⟨t, ht⟩ : ∃ t, l[k].2 = t := ⟨_, rfl⟩
      have HS : Hid (glCells (typedL c (l.take (k + 1))) = glCells (typedL c (l.take k)) ++ [.string s, .string t, .int .i64 c]) := hid (by unfold typedL glCells; rw [List.take_succ_eq_append_getElem h1, List.map_append, List.flatMap_append]; simp only [List.map_cons, List.map_nil, List.flatMap_cons, List.flatMap_nil, hs, ht, List.append_nil])
      rw [hs] at cA
      rw [ht] at cB
      clear hs ht cA0 cB0
      have hws := hbl.size
      have hlt1 : k * 2 < nn := by omega
      have hlt2 : k * 2 + 1 < nn := by omega
      have B0 : Below w.heap.size wr (wr.alloc (.cells #[.string s, .string t, .int .i64 c] 36)).drew := ((Below.refl _ _).alloc hws _).drew
      have hvd : (wr.alloc (.cells #[.string s, .string t, .int .i64 c] 36)).drew.ownsRow w.heap.size 36 3 u5 k (glCells (typedL c (l.take k))) := hv.alloc _
      have dA : wr.cell? ⟨b, k * 2, none⟩ = some (.string s) := cA
      have dB : wr.cell? ⟨b, k * 2 + 1, none⟩ = some (.string t) := cB
      have gA := (B0.cell (p := ⟨b, k * 2, none⟩) hb).trans dA
      have gB := (B0.cell (p := ⟨b, k * 2 + 1, none⟩) hb).trans dB
      have wfar : ∀ W1 : World, (wr.alloc (.cells #[.string s, .string t, .int .i64 c] 36)).drew.grownBy W1 u5.ownBlock → Below w.heap.size wr W1 := fun W1 hg => B0.grown hg (Nat.le_trans hws B0.size) (fun k hk => (hvd.lt k hk).1)
      have wfar := hid wfar
      have j0 : (0 : Int) ≤ (k : Int) * 2 := by omega
      have j1 : (k : Int) * 2 < (nn : Int) := by omega
      have j2 : (0 : Int) ≤ (k : Int) * 2 + 1 := by omega
      have j3 : (k : Int) * 2 + 1 < (nn : Int) := by omega
      have j4 : IntKind.i64.wrap ((k : Int) * 2 + 1) = (k : Int) * 2 + 1 := IntWalk.i64_in _ (by omega)
      have i1 : ((k : Int) * 2).toNat = k * 2 := by omega
      have i2 : ((k : Int) * 2 + 1).toNat = k * 2 + 1 := by omega
      go_wp2
      go_region_held3 (fun w' => w'.cell? ⟨b, k * 2, none⟩ = some (.string s) ∧ w'.cell? ⟨b, k * 2 + 1, none⟩ = some (.string t)) (go_keep) (first | (refine step_append_lies _ rfl _ _ 50 rfl w.heap.size 36 i0 (.agg #[.string ⟨#[]⟩, .string ⟨#[]⟩, .int .i64 0]) 3 40 Try.underlying50 hi hz0 hz1 hz2 rfl (by decide) _ _ _ rfl hvd ⟨_, 0, none⟩ 1 1 [.string s, .string t, .int .i64 c] rfl rfl (cells_new _ _ _) (by simp [Value.oneCell']) (by decide) (by unfold maxLen; omega) (by omega) (by simp; omega) _ rfl ?_; intro g' cap' w1 hown' hgrow hat hlt'; have hB1 := wfar.out w1 hgrow; have eA := (hB1.cell (p := ⟨b, k * 2, none⟩) hb).trans dA; have eB := (hB1.cell (p := ⟨b, k * 2 + 1, none⟩) hb).trans dB))
      go_wp2
      go_roundw
      case rel => exact ⟨k + 1, by omega, by go_num, by rw [HS.out]; exact hown', hbl.trans hB1⟩
      case measure => simp [intOf]; omega
    · obtain rfl : k = l.length := by omega
      have j1 : ¬ ((l.length : Int) * 2 + 1 < (nn : Int)) := by omega
      go_wp2
      go_ret
      exact ⟨_, rfl, by rw [List.take_length] at hv; exact hv, hbl⟩
end Go.Proofs.Ytophclimlepjoaa
