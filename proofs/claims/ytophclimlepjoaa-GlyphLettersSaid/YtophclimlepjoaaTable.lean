/- fill: a table that is fresh, or filled; of; all. -/
import Derived.Test.YtophclimlepjoaaFill
namespace Go.Proofs.Ytophclimlepjoaa
open Go.RowKit Go.Shelf Go.Dia Go.Maps

theorem own_mono {W : World} {a b e size n : Nat} {v : Value} {xs : List Value} (h : W.ownsRow a e size v n xs) (hb : b ≤ a) : W.ownsRow b e size v n xs := by
  refine ⟨h.1, ?_⟩
  rcases h.2 with h | ⟨g, cap, cur, hv, hg, r⟩
  · exact .inl h
  · exact .inr ⟨g, cap, cur, hv, by omega, r⟩
def Fresh (W : World) (b : Nat) : Prop := Blk W b 53 #[.int .u32 0, .int .i32 0, .int .u32 0, .slice none 0 0, .map none]
/-- a filled table: its slice v, its map's block B, both made at n0 or behind it -/
def FullAt (W : World) (b n0 : Nat) (v : Value) (B : Nat) : Prop :=
  Blk W b 53 #[.int .u32 1, .int .i32 0, .int .u32 0, v, .map (some B)] ∧ W.ownsRow n0 36 3 v 38 (glCells allG) ∧ W.ownsMap Try.prog 9 glElem B 38 (mapR allG.reverse) ∧ n0 ≤ B ∧ b < n0
theorem FullAt.kept {W W' : World} {b n0 : Nat} {v : Value} {B : Nat} {row : Option Nat} (h : FullAt W b n0 v B) (hg : W.grownBy W' row) (hb : some b ≠ row) (hB : some B ≠ row) (hv : v.ownBlock ≠ row ∨ row = none) : FullAt W' b n0 v B :=
  ⟨h.1.kept hg hb, h.2.1.kept hg (by rcases hv with hv | rfl; exact .inr hv; cases v.ownBlock <;> simp), h.2.2.1.kept hg hB, h.2.2.2⟩
theorem FullAt.below {W W' : World} {b n0 : Nat} {v : Value} {B : Nat} (h : FullAt W b n0 v B) (hg : W.grownBy W' none) : FullAt W' b n0 v B := h.kept hg (by simp) (by simp) (.inr rfl)
theorem FullAt.alloc {W : World} {b n0 : Nat} {v : Value} {B : Nat} (h : FullAt W b n0 v B) (o : Obj) : FullAt (W.alloc o) b n0 v B := h.below (World.grownBy_alloc W o _)
theorem FullAt.drew {W : World} {b n0 : Nat} {v : Value} {B : Nat} (h : FullAt W b n0 v B) : FullAt W.drew b n0 v B := h
def TabAt (W : World) (b n0 : Nat) : Prop := (Fresh W b ∧ n0 ≤ W.heap.size ∧ b < n0) ∨ ∃ v B, FullAt W b n0 v B
theorem TabAt.kept {W W' : World} {b n0 : Nat} (h : TabAt W b n0) (hg : W.grownBy W' none) : TabAt W' b n0 := by
  rcases h with ⟨h1, h2, h3⟩ | ⟨v, B, h⟩
  · exact .inl ⟨Blk.kept h1 hg (by simp), Nat.le_trans h2 hg.size, h3⟩
  · exact .inr ⟨v, B, h.below hg⟩
theorem TabAt.lt {W : World} {b n0 : Nat} (h : TabAt W b n0) : b < W.heap.size := by
  rcases h with ⟨h1, _⟩ | ⟨v, B, h⟩
  · exact Blk.lt h1
  · exact h.1.lt

theorem allG_length : allG.length = 38 := rfl

set_option maxRecDepth 100000 in
set_option maxHeartbeats 4000000 in
theorem fill_fresh (W : World) (b n0 : Nat) (h : Fresh W b) (hn0 : n0 ≤ W.heap.size) (hb : b < n0) :
    Calls Try.prog 32 #[.pointer (some ⟨b, 0, none⟩)] W fun e W' => e = .returned (.pointer (some ⟨b, 0, none⟩)) ∧ (∃ v B, FullAt W' b n0 v B ∧ ∀ k, v.ownBlock = some k → W.heap.size ≤ k) ∧ W.grownBy W' (some b) := by
  have h1 : Blk (W.alloc (.cells #[.pointer (some ⟨b, 0, none⟩)] 37)) b 53 #[.int .u32 0, .int .i32 0, .int .u32 0, .slice none 0 0, .map none] := Blk.alloc h _
  have hx : Blk (W.alloc (.cells #[.pointer (some ⟨b, 0, none⟩)] 37)) W.heap.size 37 #[.pointer (some ⟨b, 0, none⟩)] := Blk.new _ _ _
  have hlt := Blk.lt h
  have hne : W.heap.size ≠ b := by omega
  have g1 : W.grownBy (W.alloc (.cells #[.pointer (some ⟨b, 0, none⟩)] 37)) (some b) := World.grownBy_alloc _ _ _
  have HF : Hid (Calls Try.prog 37 #[.pointer (some ⟨b, 0, none⟩), .func (.func 38) #[] #[.pointer (some ⟨W.heap.size, 0, none⟩)]] (W.alloc (.cells #[.pointer (some ⟨b, 0, none⟩)] 37)) fun e w' => e = .returned (.tuple #[]) ∧ (∃ v B, FullAt w' b n0 v B ∧ ∀ k, v.ownBlock = some k → W.heap.size ≤ k) ∧ W.grownBy w' (some b) ∧ w'.cell? ⟨W.heap.size, 0, none⟩ = some (.pointer (some ⟨b, 0, none⟩))) := by
    generalize W.alloc (.cells #[.pointer (some ⟨b, 0, none⟩)] 37) = W1 at h1 hx g1
    have h2 : Blk (W1.setCell ⟨b, 1, none⟩ (.int .i32 1)) b 53 #[.int .u32 0, .int .i32 1, .int .u32 0, .slice none 0 0, .map none] := h1.set 1 _
    have hx2 : Blk (W1.setCell ⟨b, 1, none⟩ (.int .i32 1)) W.heap.size 37 #[.pointer (some ⟨b, 0, none⟩)] := hx.other hne _
    have gs := grown_set W1 b 1 (.int .i32 1)
    have hs1 := g1.size
    refine hid ((do_first b _ W1 (h1.cell 0) (h1.cell 1) (h1.frozen 1) (fun W' => ∃ v B, Tab (W1.setCell ⟨b, 1, none⟩ (.int .i32 1)) W' b 0 1 allG v B) ((fill1 _ b W.heap.size 0 1 h2 (hx2.cell 0) hx2.lt hne).mono ?_)).mono ?_)
    · rintro e W' ⟨rfl, v, B, hT⟩
      exact ⟨rfl, ⟨v, B, hT⟩, hT.1.cell 0, hT.1.cell 1, hT.1.frozen 0, hT.1.frozen 1⟩
    · rintro e W' ⟨rfl, W2, ⟨v, B, hT⟩, rfl⟩
      obtain ⟨t1, t2, t3, t4, t5, t6⟩ := hT
      have ga := grown_set W2.drew b 0 (.int .u32 1)
      have gb := grown_set (W2.drew.setCell ⟨b, 0, none⟩ (.int .u32 1)) b 1 (.int .i32 0)
      have gab := (grown_drew (World.grownBy.refl W2 (some b))).trans (ga.trans gb)
      have hnb : v.ownBlock ≠ some b := fun e => by have := (t2.lt b e).1; omega
      have hg1 := gs.size
      refine ⟨rfl, ⟨v, B, ⟨((Blk.drew t1).set 0 _).set 1 _, ?_, ?_, by omega, hb⟩, fun k hk => by have := (t2.lt k hk).1; omega⟩, (g1.trans (gs.trans t6)).trans gab, ?_⟩
      · exact own_mono (t2.kept gab (.inr hnb)) (by omega)
      · exact t3.kept gab (by simp; omega)
      · rw [gab.cell_far ⟨W.heap.size, 0, none⟩ (by have := t6.size; have := hx2.lt; show W.heap.size < _; omega) (by simp [hne]), t6.cell_far ⟨W.heap.size, 0, none⟩ hx2.lt (by simp [hne])]
        exact hx2.cell 0
  clear h1 hx g1
  go_enter Try.func32, Try.ntmps32
  go_wp2_with (go_at_call 37; refine HF.out.mono ?_; rintro e w1 ⟨rfl, hfull, hgr, hcell⟩)
  go_ret
  exact ⟨rfl, hfull, hgr⟩

set_option maxRecDepth 100000 in
set_option maxHeartbeats 4000000 in
theorem fill_full (W : World) (b n0 : Nat) (v : Value) (B : Nat) (h : FullAt W b n0 v B) :
    Calls Try.prog 32 #[.pointer (some ⟨b, 0, none⟩)] W fun e W' => e = .returned (.pointer (some ⟨b, 0, none⟩)) ∧ FullAt W' b n0 v B ∧ W.grownBy W' none := by
  have h1 := (h.alloc (.cells #[.pointer (some ⟨b, 0, none⟩)] 37)).1.cell 0
  have HF := hid (do_done ⟨b, 0, none⟩ 1 (by decide) (.func (.func 38) #[] #[.pointer (some ⟨W.heap.size, 0, none⟩)]) _ h1)
  have HE := hid h
  clear h h1
  go_enter Try.func32, Try.ntmps32
  go_wp2_with (go_at_call 37; refine HF.out.mono ?_; rintro e w1 ⟨rfl, rfl⟩)
  go_ret
  exact ⟨rfl, HE.out.alloc _, World.grownBy_alloc _ _ _⟩
theorem fill_any (W : World) (b n0 : Nat) (h : TabAt W b n0) :
    Calls Try.prog 32 #[.pointer (some ⟨b, 0, none⟩)] W fun e W' => e = .returned (.pointer (some ⟨b, 0, none⟩)) ∧ (∃ v B, FullAt W' b n0 v B ∧ (FullAt W b n0 v B ∨ ∀ k, v.ownBlock = some k → W.heap.size ≤ k)) ∧ W.grownBy W' (some b) := by
  rcases h with ⟨h1, h2, h3⟩ | ⟨v, B, h⟩
  · exact (fill_fresh W b n0 h1 h2 h3).mono fun e W' ⟨h1, ⟨v, B, h2, h3⟩, h4⟩ => ⟨h1, ⟨v, B, h2, .inr h3⟩, h4⟩
  · exact (fill_full W b n0 v B h).mono fun e W' ⟨h1, h2, h3⟩ => ⟨h1, ⟨v, B, h2, .inl h⟩, ⟨h3.os, h3.tape, h3.output, h3.size, fun k hk _ => h3.block k hk (by simp)⟩⟩
/-- behind a block that was laid (at n): the table's slice does not lie in it -/
theorem fill_after (W : World) (b n0 : Nat) (o : Obj) (h : TabAt W b n0) :
    Calls Try.prog 32 #[.pointer (some ⟨b, 0, none⟩)] (W.alloc o) fun e W' => e = .returned (.pointer (some ⟨b, 0, none⟩)) ∧ (∃ v B, FullAt W' b n0 v B ∧ v.ownBlock ≠ some W.heap.size) ∧ (W.alloc o).grownBy W' (some b) := by
  rcases h with ⟨h1, h2, h3⟩ | ⟨v, B, h⟩
  · exact (fill_fresh (W.alloc o) b n0 (Blk.alloc h1 _) (by simp; omega) h3).mono fun e W' ⟨h1, ⟨v, B, h2, h3⟩, h4⟩ => ⟨h1, ⟨v, B, h2, fun e => by have := h3 _ e; rw [World.size_alloc] at this; omega⟩, h4⟩
  · exact (fill_full (W.alloc o) b n0 v B (h.alloc o)).mono fun e W' ⟨h1, h2, h3⟩ => ⟨h1, ⟨v, B, h2, fun e => by have := (h.2.1.lt _ e).2; omega⟩, ⟨h3.os, h3.tape, h3.output, h3.size, fun k hk _ => h3.block k hk (by simp)⟩⟩

theorem allG_sizes : ∀ x ∈ allG, x.1.size ≤ maxLen := by decide
theorem law_zero36 (w : World) : (zeroValue 36).run Try.prog w = .ok (glV zeroG) w := by kernel_rfl
/-- a text's glyph -/
def ofG (s : ByteArray) : Gl := atR allG.reverse s
set_option maxRecDepth 100000 in
set_option maxHeartbeats 4000000 in
theorem of_any (W : World) (b n0 : Nat) (s : ByteArray) (hs : s.size ≤ maxLen) (h : TabAt W b n0) :
    Calls Try.prog 24 #[.pointer (some ⟨b, 0, none⟩), .string s] W fun e W' => e = .returned (glV (ofG s)) ∧ (∃ v B, FullAt W' b n0 v B) ∧ W.grownBy W' (some b) := by
  have hz : (zeroValue 36).run Try.prog W = .ok (glV zeroG) W := law_zero36 W
  have hlt := h.lt
  have HF := hid (fill_after W b n0 (.cells #[.string ⟨#[]⟩, .string ⟨#[]⟩, .int .i64 0] 36) h)
  go_enter Try.func24, Try.ntmps24
  go_wp2_with (first | (go_at_call 32; refine HF.out.mono ?_; rintro e w1 ⟨rfl, ⟨v, B, hT, hvW⟩, hgr⟩; have c4 : w1.cell? ⟨b, 4, none⟩ = some (.map (some B)) := hT.1.cell 4; obtain ⟨vv, pp, hrun, hR⟩ := hT.2.2.1.lookup law9 Try.underlying51 (law_zero36 _) (glElem_mk zeroG) (Go.WideMaps.keyOf_string_mk Try.underlying9 hs); rw [mapR_at] at hR; obtain ⟨⟨ga, gb, gc⟩, rfl, he⟩ := glElem_inv hR; unfold glV at hrun; simp only at hrun; have HE := hid he; clear he hR; have HT := hid hT; clear hT; have hB : Blk w1 W.heap.size 36 #[.string ⟨#[]⟩, .string ⟨#[]⟩, .int .i64 0] := (Blk.new W _ _).kept hgr (by simp; omega); have HGR := hid hgr; clear hgr; have k0 := hB.cell 0; have k1 := hB.cell 1; have k2 := hB.cell 2; have z0 := hB.frozen 0; have z1 := hB.frozen 1; have z2 := hB.frozen 2))
  have B3 : Blk (((w1.setCell ⟨W.heap.size, 0, none⟩ (.string ga)).setCell ⟨W.heap.size, 1, none⟩ (.string gb)).setCell ⟨W.heap.size, 2, none⟩ (.int .i64 gc)) W.heap.size 36 #[.string ga, .string gb, .int .i64 gc] := ((hB.set 0 _).set 1 _).set 2 _
  refine bodyPost_ret (results_cell_row rfl _ _ W.heap.size 36 #[.string ga, .string gb, .int .i64 gc] (0, 0) _ rfl B3 Try.underlying36 rfl (by kernel_rfl)) rfl ?_
  have he : atR allG.reverse s = (ga, gb, gc) := by have := HE.out; simpa using congrArg Prod.fst this
  have gs := ((grown_set w1 W.heap.size 0 (.string ga)).trans (grown_set _ W.heap.size 1 (.string gb))).trans (grown_set _ W.heap.size 2 (.int .i64 gc))
  have hfr : Blk w1 W.heap.size 36 _ := hB
  refine ⟨?_, ⟨v, B, HT.out.kept gs (by simp; omega) ?_ (.inl ?_)⟩, ?_⟩
  · unfold ofG glV; rw [he]
  · intro e
    obtain rfl : B = W.heap.size := by simpa using e
    obtain ⟨es, clock, h1, _⟩ := HT.out.2.2.1
    rw [show w1.heap[W.heap.size]? = _ from hB] at h1; cases h1
  · exact hvW
  · exact ((World.grownBy_alloc W _ (some b)).trans HGR.out).andThen gs (fun j hj => by cases hj; exact .inl (Nat.le_refl _))
end Go.Proofs.Ytophclimlepjoaa
