/- plain and typed: lists of glyphs. -/
import Derived.Test.YtophclimlepjoaaBase
import Derived.Test.YtophclimlepjoaaProg
namespace Go.Proofs.Ytophclimlepjoaa
open Go.RowKit Go.Shelf Go.Dia

/-- a glyph: its text, its letter, its class -/
abbrev Gl := ByteArray × ByteArray × Int
def glCells (l : List Gl) : List Value := l.flatMap fun x => [.string x.1, .string x.2.1, .int .i64 x.2.2]
theorem glCells_length (l : List Gl) : (glCells l).length = l.length * 3 := by
  induction l with
  | nil => rfl
  | cons x l ih => simp only [glCells, List.flatMap_cons, List.length_append, List.length_cons, List.length_nil] at ih ⊢; omega
theorem glCells_append (a b : List Gl) : glCells (a ++ b) = glCells a ++ glCells b := by simp [glCells]
theorem infoGl : (Try.prog.info? 36).map (fun i => (i.zero, i.size, i.bytes)) = some (some (.agg #[.string ⟨#[]⟩, .string ⟨#[]⟩, .int .i64 0]), 3, 40) := by kernel_rfl

def plainL (c : Int) (l : List ByteArray) : List Gl := l.map fun s => (s, ⟨#[]⟩, c)
set_option maxRecDepth 100000 in
set_option maxHeartbeats 4000000 in
theorem plain_any (w : World) (c : Int) (b cap : Nat) (l : List ByteArray) (hl : l.length ≤ 100) (hb : b < w.heap.size) (hc : ∀ j (h : j < l.length), w.cell? ⟨b, j, none⟩ = some (.string l[j])) :
    Calls Try.prog 40 #[.int .i64 c, .slice (some ⟨b, 0, none⟩) l.length cap] w fun e W' => ∃ v, e = .returned v ∧ W'.ownsRow w.heap.size 36 3 v l.length (glCells (plainL c l)) ∧ Below w.heap.size w W' := by
  obtain ⟨i0, hi, hz0, hz1, hz2⟩ := info_parts infoGl
  have HC := hid hc
  clear hc
  go_enter Try.func40, Try.ntmps40
  go_wp2
  go_loopw [5, 10] (fun v i wr => ∃ k : Nat, k ≤ l.length ∧ i = .int .i64 k ∧ wr.ownsRow w.heap.size 36 3 v k (glCells (plainL c (l.take k))) ∧ Below w.heap.size w wr) (fun _ i _ => l.length - (intOf i).toNat)
  case atStart => exact ⟨0, Nat.zero_le _, rfl, World.ownsRow_nil _ _ _ _, Below.refl _ _⟩
  case round =>
    obtain ⟨k, hk, rfl, hv, hbl⟩ := hrel
    by_cases h1 : k < l.length
    · have cA := (hbl.cell (p := ⟨b, k, none⟩) hb).trans (HC.out k h1)
      obtain ⟨s, hs⟩ : ∃ s, l[k] = s := ⟨_, rfl⟩
      have HS : Hid (glCells (plainL c (l.take (k + 1))) = glCells (plainL c (l.take k)) ++ [.string s, .string ⟨#[]⟩, .int .i64 c]) := hid (by rw [List.take_succ_eq_append_getElem h1, hs]; simp [plainL, glCells])
      rw [hs] at cA
      clear hs
      have hws := hbl.size
      go_wp2_with (at_builtin; refine wpList_append_own _ rfl _ _ 50 rfl w.heap.size 36 i0 (.agg #[.string ⟨#[]⟩, .string ⟨#[]⟩, .int .i64 0]) 3 40 Try.underlying50 hi hz0 hz1 hz2 rfl (by decide) _ _ _ rfl (hv.alloc _) ⟨wr.heap.size, 0, none⟩ 1 1 [.string s, .string ⟨#[]⟩, .int .i64 c] rfl rfl (cells_new _ _ _) (by simp [Value.oneCell']) (by unfold maxLen; omega) (by omega) (by simp; omega) ?_; intro v' w1 hown' hgrow _)
      have hb1 := ((Below.refl w.heap.size wr).alloc hws (.cells #[.string s, .string ⟨#[]⟩, .int .i64 c] 36)).grown hgrow (by simp; omega) (fun k hk => (hv.lt k hk).1)
      go_roundw
      case rel => exact ⟨k + 1, by omega, by go_num, by rw [HS.out]; exact hown', hbl.trans hb1⟩
      case measure => simp [intOf]; omega
    · obtain rfl : k = l.length := by omega
      go_wp2
      go_ret
      exact ⟨_, rfl, by rw [List.take_length] at hv; exact hv, hbl⟩
end Go.Proofs.Ytophclimlepjoaa
