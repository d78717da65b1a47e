/- size and Pieces, of a buffer whose pieces lie in memory. -/
import Derived.Test.YtflkmdmceeefiaaDoorIter
namespace Go.Proofs.YtflkmdmceeefiaaDoor
open Go.RowKit Go.Shelf Go.Dia
attribute [local go_sem] Oper.semAt_some

set_option maxRecDepth 100000 in
set_option maxHeartbeats 4000000 in
theorem size_in (F : Fence) (n : Nat) (h25 : F.fn 25) (h29 : F.fn 29) (h34 : F.fn 34) (hro : F.round = none) (hn : 3 ≤ n) (w : World) (b Bb cap : Nat) (ps : List Pc) (hlen : ps.length ≤ 1048576) (hb : b < w.heap.size) (hBb : Bb < w.heap.size)
    (hcb : w.cell? ⟨Bb, 1, none⟩ = some (.slice (some ⟨b, 0, none⟩) ps.length cap))
    (hc : ∀ j (h : j < ps.length), w.cell? ⟨b, j * 2, none⟩ = some (.int .i64 (ps[j].1.1 : Int)) ∧ w.cell? ⟨b, j * 2 + 1, none⟩ = some (.int .i64 (ps[j].1.2 : Int))) :
    CallsIn F n Tryd.prog 25 #[.pointer (some ⟨Bb, 0, none⟩)] w fun e W' => e = .returned (.int .i64 (total ps : Int)) ∧ Below w.heap.size w W' := by
  have h1 : 1 ≤ n := by omega
  refine callsIn_of_wp_marks Tryd.func25 rfl h25 ?_ hro
  simp only [Tryd.ntmps25, List.size_toArray, List.length_cons, List.length_nil, Nat.reduceAdd, Nat.reduceSub, Array.replicate_succ, Array.replicate_zero, List.push_toArray, List.append_toArray, List.nil_append, List.cons_append]
  gi_wp2_with (gi_at_call 29; refine (all_in F (n - 1) h29 hro _ _).mono ?_; rintro e w' ⟨rfl, rfl⟩)
  have bN := Blk.new w 3 #[.int .i64 0]
  have bP := Blk.new (w.alloc (.cells #[.int .i64 0] 3)) 64 #[.pointer (some ⟨Bb, 0, none⟩)]
  rw [World.size_alloc] at bP
  have hB0 : Below w.heap.size w ((w.alloc (.cells #[.int .i64 0] 3)).alloc (.cells #[.pointer (some ⟨Bb, 0, none⟩)] 64)) := ((Below.refl _ w).alloc (Nat.le_refl _) _).alloc (by simp) _
  have hsz : ((w.alloc (.cells #[.int .i64 0] 3)).alloc (.cells #[.pointer (some ⟨Bb, 0, none⟩)] 64)).heap.size = w.heap.size + 2 := by simp
  have bN' := bN.alloc (.cells #[.pointer (some ⟨Bb, 0, none⟩)] 64)
  obtain ⟨W0, hW0⟩ : ∃ W0, (w.alloc (.cells #[.int .i64 0] 3)).alloc (.cells #[.pointer (some ⟨Bb, 0, none⟩)] 64) = W0 := ⟨_, rfl⟩
  rw [hW0] at bN' bP hB0 hsz ⊢
  clear hW0 bN
  refine wpIn_rangeFunc_ownH hro h1 (gf := 34) (lb := #[.pointer (some ⟨w.heap.size + 1, 0, none⟩)]) rfl h34 (enters_of Tryd.func34 (by kernel_rfl) rfl)
    (all_stops F (n - 1) h34 hro (by omega) (w.heap.size + 1) w.heap.size b Bb cap ps (by omega) hb hBb W0 (by omega) (by omega) (bP.cell 0)
      ((hB0.cell (p := ⟨Bb, 1, none⟩) hBb).trans hcb) (fun j h => ⟨(hB0.cell (p := ⟨b, j * 2, none⟩) hb).trans (hc j h).1, (hB0.cell (p := ⟨b, j * 2 + 1, none⟩) hb).trans (hc j h).2⟩)) belowK_t (belowK_b (by omega)) (Below.refl _ _) (fun _ => rfl)
    (fun pre W => Blk W w.heap.size 3 #[.int .i64 (total pre : Int)] ∧ Below w.heap.size w W)
    (fun _ _ _ => False)
    (OwnFrom.and (Own.from (blk_own _ _ _) _) (ownFrom_below (Nat.le_refl _) (by omega)))
    (fun _ _ _ _ _ hs _ _ => hs)
    ⟨bN', hB0⟩
    (fun x a' W => ∃ Bx, w.heap.size < Bx ∧ Blk W Bx 54 #[.int .i64 (x.1.1 : Int), .int .i64 (x.1.2 : Int)] ∧ a' = { tmps := #[.pointer (some ⟨Bb, 0, none⟩), undef, .int .i64 0, .pointer (some ⟨w.heap.size, 0, none⟩), .pointer (some ⟨Bx, 0, none⟩), .pointer (some ⟨Bb, 0, none⟩), .func (.func 34) #[] #[.pointer (some ⟨w.heap.size + 1, 0, none⟩)], .agg #[.int .i64 (x.1.1 : Int), .int .i64 (x.1.2 : Int)], undef, undef, undef, undef, undef], defers := [] })
    (fun x a' _ X Y row hs hg hr => by obtain ⟨Bx, h1, h2, h3⟩ := hs; exact ⟨Bx, h1, blk_own Bx 54 (fun (_ : Unit) => #[Value.int .i64 (x.1.1 : Int), .int .i64 (x.1.2 : Int)]) () X Y row h2 hg (fun r e => (hr r e).2), h3⟩)
    ?assign ?body ?done ?stop
  case assign =>
    rintro l pre x W K ⟨b1, hB1⟩ hK
    gi_wp2
    exact hK _ _ ((KeepsOthers.alloc _ _).from _) ((Below.refl _ W).alloc hB1.size _) ⟨b1.alloc _, hB1.alloc hB1.size _⟩ ⟨W.heap.size, b1.lt, Blk.new W 54 _, rfl⟩
  case body =>
    rintro l pre x a' W hl ⟨r, hr⟩ ⟨b1, hB1⟩ ⟨Bx, hBx, bX, rfl⟩ hlt
    have c1 := b1.cell 0
    have f1 := b1.frozen 0
    have c2 := bX.cell 1
    have htl := total_le pre
    have hx2 : x.1.2 ≤ 1099511627776 := by have := x.2; unfold PcOk at this; omega
    have hpl : pre.length ≤ 1048576 := by omega
    gi_wp2
    exact ⟨(KeepsOthers.setCell _ _ _).from _, (Below.refl _ W).setCell (p := ⟨w.heap.size, 0, none⟩) (Nat.le_refl _) _, by have := b1.set 0 (.int .i64 (total (pre ++ [x]) : Int)); rw [total_snoc] at this ⊢; simpa using this, hB1.setCell (p := ⟨w.heap.size, 0, none⟩) (Nat.le_refl _) _⟩
  case done =>
    rintro D zs W hD rfl ⟨b1, hB1⟩ hK
    have c1 := b1.cell 0
    gi_wp2
    refine ⟨by simp, .inl ⟨_, _, rfl, run_takeDeferred hK, ?_⟩⟩
    exact ⟨_, results_tmp rfl _ _ _, by rw [total_full]; rfl, hB1.trans (belowK_b (w := w) (Nat.le_refl _) W D _ _ (by omega) hK rfl rfl)⟩
  case stop =>
    rintro D c pre W _ _ h _
    exact h.elim

set_option maxRecDepth 100000 in
set_option maxHeartbeats 4000000 in
theorem pieces_in (F : Fence) (n : Nat) (h20 : F.fn 20) (h29 : F.fn 29) (h34 : F.fn 34) (hro : F.round = none) (hn : 3 ≤ n) (w : World) (b Bb cap : Nat) (ps : List Pc) (hlen : ps.length ≤ 1048576) (hb : b < w.heap.size) (hBb : Bb < w.heap.size)
    (hcb : w.cell? ⟨Bb, 1, none⟩ = some (.slice (some ⟨b, 0, none⟩) ps.length cap))
    (hc : ∀ j (h : j < ps.length), w.cell? ⟨b, j * 2, none⟩ = some (.int .i64 (ps[j].1.1 : Int)) ∧ w.cell? ⟨b, j * 2 + 1, none⟩ = some (.int .i64 (ps[j].1.2 : Int))) :
    CallsIn F n Tryd.prog 20 #[.pointer (some ⟨Bb, 0, none⟩)] w fun e W' => e = .returned (.int .i64 ((full ps).length : Int)) ∧ Below w.heap.size w W' := by
  have h1 : 1 ≤ n := by omega
  refine callsIn_of_wp_marks Tryd.func20 rfl h20 ?_ hro
  simp only [Tryd.ntmps20, List.size_toArray, List.length_cons, List.length_nil, Nat.reduceAdd, Nat.reduceSub, Array.replicate_succ, Array.replicate_zero, List.push_toArray, List.append_toArray, List.nil_append, List.cons_append]
  gi_wp2_with (gi_at_call 29; refine (all_in F (n - 1) h29 hro _ _).mono ?_; rintro e w' ⟨rfl, rfl⟩)
  have bN := Blk.new w 3 #[.int .i64 0]
  have bP := Blk.new (w.alloc (.cells #[.int .i64 0] 3)) 64 #[.pointer (some ⟨Bb, 0, none⟩)]
  rw [World.size_alloc] at bP
  have hB0 : Below w.heap.size w ((w.alloc (.cells #[.int .i64 0] 3)).alloc (.cells #[.pointer (some ⟨Bb, 0, none⟩)] 64)) := ((Below.refl _ w).alloc (Nat.le_refl _) _).alloc (by simp) _
  have hsz : ((w.alloc (.cells #[.int .i64 0] 3)).alloc (.cells #[.pointer (some ⟨Bb, 0, none⟩)] 64)).heap.size = w.heap.size + 2 := by simp
  have bN' := bN.alloc (.cells #[.pointer (some ⟨Bb, 0, none⟩)] 64)
  obtain ⟨W0, hW0⟩ : ∃ W0, (w.alloc (.cells #[.int .i64 0] 3)).alloc (.cells #[.pointer (some ⟨Bb, 0, none⟩)] 64) = W0 := ⟨_, rfl⟩
  rw [hW0] at bN' bP hB0 hsz ⊢
  clear hW0 bN
  refine wpIn_rangeFunc_ownH hro h1 (gf := 34) (lb := #[.pointer (some ⟨w.heap.size + 1, 0, none⟩)]) rfl h34 (enters_of Tryd.func34 (by kernel_rfl) rfl)
    (all_stops F (n - 1) h34 hro (by omega) (w.heap.size + 1) w.heap.size b Bb cap ps (by omega) hb hBb W0 (by omega) (by omega) (bP.cell 0)
      ((hB0.cell (p := ⟨Bb, 1, none⟩) hBb).trans hcb) (fun j h => ⟨(hB0.cell (p := ⟨b, j * 2, none⟩) hb).trans (hc j h).1, (hB0.cell (p := ⟨b, j * 2 + 1, none⟩) hb).trans (hc j h).2⟩)) belowK_t (belowK_b (by omega)) (Below.refl _ _) (fun _ => rfl)
    (fun pre W => Blk W w.heap.size 3 #[.int .i64 (pre.length : Int)] ∧ Below w.heap.size w W)
    (fun _ _ _ => False)
    (OwnFrom.and (Own.from (blk_own _ _ _) _) (ownFrom_below (Nat.le_refl _) (by omega)))
    (fun _ _ _ _ _ hs _ _ => hs)
    ⟨bN', hB0⟩
    (fun x a' _ => ∃ t, a' = { tmps := #[.pointer (some ⟨Bb, 0, none⟩), undef, .int .i64 0, .pointer (some ⟨w.heap.size, 0, none⟩), .pointer (some ⟨Bb, 0, none⟩), .bool false, .pointer (some ⟨Bb, 0, none⟩), .pointer (some ⟨Bb, 0, none⟩), .pointer (some ⟨Bb, 0, none⟩), .func (.func 34) #[] #[.pointer (some ⟨w.heap.size + 1, 0, none⟩)], t, undef, undef, undef], defers := [] })
    (fun x a' _ X Y row hs hg hr => hs)
    ?assign ?body ?done ?stop
  case assign =>
    rintro l pre x W K ⟨b1, hB1⟩ hK
    gi_wp2
    exact hK _ _ (KeepsFrom.refl _ _) (Below.refl _ _) ⟨b1, hB1⟩ ⟨.agg #[.int .i64 (x.1.1 : Int), .int .i64 (x.1.2 : Int)], by simp⟩
  case body =>
    rintro l pre x a' W hl ⟨r, hr⟩ ⟨b1, hB1⟩ ⟨t, rfl⟩ hlt
    have c1 := b1.cell 0
    have f1 := b1.frozen 0
    have hpl : pre.length ≤ 1048576 := by omega
    gi_wp2
    exact ⟨(KeepsOthers.setCell _ _ _).from _, (Below.refl _ W).setCell (p := ⟨w.heap.size, 0, none⟩) (Nat.le_refl _) _, by have := b1.set 0 (.int .i64 ((pre ++ [x]).length : Int)); simpa using this, hB1.setCell (p := ⟨w.heap.size, 0, none⟩) (Nat.le_refl _) _⟩
  case done =>
    rintro D zs W hD rfl ⟨b1, hB1⟩ hK
    have c1 := b1.cell 0
    gi_wp2
    refine ⟨by simp, .inl ⟨_, _, rfl, run_takeDeferred hK, ?_⟩⟩
    exact ⟨_, results_tmp rfl _ _ _, rfl, hB1.trans (belowK_b (w := w) (Nat.le_refl _) W D _ _ (by omega) hK rfl rfl)⟩
  case stop =>
    rintro D c pre W _ _ h _
    exact h.elim
end Go.Proofs.YtflkmdmceeefiaaDoor
