/- the reference's All and Texts. -/
import Derived.Test.YtophclimlepjoaaRefC
namespace Go.Proofs.Ytophclimlepjoaa
open Go.RowKit Go.Shelf Go.Dia Go.Maps

theorem texts_length : (texts allG).length = 38 := rfl
theorem row_ne {W : World} {N e size n q : Nat} {v : Value} {xs : List Value} {t : TypeId} {cs : Array Value} (h : W.ownsRow N e size v n xs) (hq : Blk W q t cs) (ht : t ≠ e) : some q ≠ v.ownBlock := fun he => by
  rcases h.2 with ⟨rfl, _⟩ | ⟨g, cap, cur, rfl, _, hg, _⟩
  · cases he
  · have : q = g := by simpa [Value.ownBlock] using he
    subst this
    have := hq.symm.trans hg; simp at this; exact ht this.2
set_option maxRecDepth 100000 in
set_option maxHeartbeats 4000000 in
theorem all17 (w : World) : Calls Try.prog 17 #[] w fun e W' => ∃ v, e = .returned v ∧ W'.ownsRow w.heap.size 9 1 v 38 (strCells (texts allG)) ∧ Below w.heap.size w W' := by
  obtain ⟨i0, hi, hz0, hz1, hz2⟩ := info_parts infoStr
  have H := hid (table25 w)
  go_enter Try.func17, Try.ntmps17
  go_wp2_with (go_at_call 25; refine H.out.mono ?_; rintro e W ⟨g, rfl, hB, _, hbl⟩; have HT := hid hB; have HB := hid hbl; have hws := hbl.size; clear hB hbl)
  go_loopw [1, 3] (fun v i wr => ∃ k : Nat, k ≤ 38 ∧ i = .int .i64 k ∧ wr.ownsRow w.heap.size 9 1 v k (strCells ((texts allG).take k)) ∧ Below w.heap.size w wr ∧ Blk wr g 58 (glCells allG).toArray) (fun _ i _ => 38 - (intOf i).toNat)
  case atStart => exact ⟨0, Nat.zero_le _, rfl, World.ownsRow_nil _ _ _ _, HB.out, HT.out⟩
  case round =>
    obtain ⟨k, hk, rfl, hv, hbl, hB⟩ := hrel
    by_cases hlt : k < 38
    · obtain ⟨h1, h2, h3⟩ := tab_cells hB k hlt
      have HS : Hid (strCells ((texts allG).take (k + 1)) = strCells ((texts allG).take k) ++ [.string allG[k].1]) := hid (by rw [List.take_succ_eq_append_getElem (by rw [texts_length]; exact hlt)]; simp [strCells, texts]; rfl)
      obtain ⟨x, hx⟩ : ∃ x, allG[k] = x := ⟨_, rfl⟩
      rw [hx] at h1 h2 h3 HS
      clear hx
      obtain ⟨xa, xb, xc⟩ := x
      simp only at h1 h2 h3
      have hws' := hbl.size
      have HBl := hid hbl
      have HBk := hid hB
      clear hbl hB
      go_wp2_with (at_builtin; refine wpList_append_lies _ rfl _ _ 29 rfl w.heap.size 9 i0 (.string ⟨#[]⟩) 1 16 Try.underlying29 hi hz0 hz1 hz2 rfl (by decide) _ _ _ rfl (hv.alloc _) ⟨wr.heap.size, 0, none⟩ 1 1 [.string xa] rfl rfl (cells_new _ _ _) (by simp [Value.oneCell']) (by decide) (by unfold maxLen; omega) (by omega) (by simp; omega) _ rfl ?_; intro g' cap' w1 hown' hgrow _ _)
      go_roundw
      case rel => exact ⟨k + 1, by omega, by go_num, by rw [HS.out]; exact hown', ((HBl.out.alloc hws' _).grown hgrow (by simp; omega) (fun j hj => (hv.lt j hj).1)), (HBk.out.alloc _).kept hgrow (row_ne hv HBk.out (by decide))⟩
      case measure => simp [intOf]; omega
    · obtain rfl : k = 38 := by omega
      go_wp2
      go_ret
      exact ⟨_, rfl, hv, hbl⟩

/-- a row of strings that can be read -/
def Strs (W : World) (v : Value) (l : List ByteArray) : Prop := ∃ g c, v = .slice (some ⟨g, 0, none⟩) l.length c ∧ ∀ j (h : j < l.length), W.cell? ⟨g, j, none⟩ = some (.string l[j])
theorem strs_of_own {W : World} {N : Nat} {v : Value} {l : List ByteArray} (h : W.ownsRow N 9 1 v l.length (strCells l)) (hl : l ≠ []) : Strs W v l := by
  obtain ⟨g, c, rfl, _, _⟩ := h.form (List.length_pos_iff.2 hl)
  refine ⟨g, c, rfl, fun j hj => (h.cellAt j (by omega)).trans ?_⟩
  simp [strCells, hj]
set_option maxRecDepth 100000 in
set_option maxHeartbeats 4000000 in
theorem texts15 (w : World) (v u : Value) (l : List ByteArray) (hl : l.length ≤ 1000) (h1 : Strs w v l) (h2 : Strs w u l) : Calls Try.prog 15 #[v, u] w fun e W' => e = .returned (.bool true) ∧ Below w.heap.size w W' := by
  obtain ⟨g1, c1, rfl, k1⟩ := h1
  obtain ⟨g2, c2, rfl, k2⟩ := h2
  have HK1 := hid k1
  have HK2 := hid k2
  clear k1 k2
  obtain ⟨n, hn⟩ : ∃ n, l.length = n := ⟨_, rfl⟩
  rw [hn] at hl ⊢
  have HN := hid hn
  clear hn
  go_enter Try.func15, Try.ntmps15
  go_wp2
  go_loopw [5] (fun i wr => ∃ k : Nat, k ≤ n ∧ i = .int .i64 k ∧ Below w.heap.size w wr ∧ ∀ a, wr.cell? a = w.cell? a) (fun i _ => n - (intOf i).toNat)
  case atStart => exact ⟨0, Nat.zero_le _, rfl, Below.refl _ _, fun _ => rfl⟩
  case round =>
    obtain ⟨k, hk, rfl, hb, hc⟩ := hrel
    by_cases hlt : k < n
    · have hlt' : k < l.length := by rw [HN.out]; exact hlt
      have q1 : wr.cell? ⟨g1, k, none⟩ = _ := (hc _).trans (HK1.out k hlt')
      have q2 : wr.cell? ⟨g2, k, none⟩ = _ := (hc _).trans (HK2.out k hlt')
      obtain ⟨x, hx⟩ : ∃ x, l[k] = x := ⟨_, rfl⟩
      rw [hx] at q1 q2
      have HC := hid hc
      have j1 : (0 : Int) ≤ (k : Int) := by omega
      have j2 : (k : Int) < (n : Int) := by omega
      clear hx hc
      go_wp2
      go_quiet (fail)
      go_wp2
      go_roundw
      case rel => exact ⟨k + 1, by omega, by go_num, hb.trans (grownBy.below (drewN_grown _ _ none) |>.mono hb.size), fun a => HC.out a⟩
      case measure => simp [intOf]; omega
    · obtain rfl : k = n := by omega
      go_wp2
      go_ret
      exact ⟨rfl, hb⟩
end Go.Proofs.Ytophclimlepjoaa
