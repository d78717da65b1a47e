/- part, of a buffer whose pieces lie in memory. -/
import Derived.Test.YtflkmdmceeefiaaDoorSize
import Derived.Sort.QuietIn
import Derived.Deep.QuietTactic
import Derived.BigQuiet
namespace Go.Proofs.YtflkmdmceeefiaaDoor
open Go.RowKit Go.Shelf Go.Dia
attribute [local go_sem] Oper.semAt_some

theorem infoPc : (Tryd.prog.info? 54).map (fun i => (i.zero, i.size, i.bytes)) = some (some (.agg #[.int .i64 0, .int .i64 0]), 2, 16) := by kernel_rfl

set_option maxRecDepth 100000 in
set_option maxHeartbeats 4000000 in
theorem part_in (F : Fence) (n : Nat) (h26 : F.fn 26) (h29 : F.fn 29) (h34 : F.fn 34) (hro : F.round = none) (hn : 3 ≤ n) (w : World) (b Bb cap : Nat) (ps : List Pc) (hlen : ps.length ≤ 1048576) (hb : b < w.heap.size) (hBb : Bb < w.heap.size)
    (hcb : w.cell? ⟨Bb, 1, none⟩ = some (.slice (some ⟨b, 0, none⟩) ps.length cap))
    (hc : ∀ j (h : j < ps.length), w.cell? ⟨b, j * 2, none⟩ = some (.int .i64 (ps[j].1.1 : Int)) ∧ w.cell? ⟨b, j * 2 + 1, none⟩ = some (.int .i64 (ps[j].1.2 : Int)))
    (at_ m : Int) (ha0 : 0 ≤ at_) (ha1 : at_ ≤ 1099511627776) (hm0 : 0 ≤ m) (hm1 : m ≤ 1099511627776) :
    CallsIn F n Tryd.prog 26 #[.pointer (some ⟨Bb, 0, none⟩), .int .i64 at_, .int .i64 m] w fun e W' => ∃ v, e = .returned v ∧ W'.ownsRow w.heap.size 54 2 v (partL at_ m ps).length (cellsOf (partL at_ m ps)) ∧ Below w.heap.size w W' := by
  have h1 : 1 ≤ n := by omega
  obtain ⟨i0, hi, hz0, hz1, hz2⟩ := info_parts infoPc
  refine callsIn_of_wp_marks Tryd.func26 rfl h26 ?_ hro
  simp only [Tryd.ntmps26, List.size_toArray, List.length_cons, List.length_nil, Nat.reduceAdd, Nat.reduceSub, Array.replicate_succ, Array.replicate_zero, List.push_toArray, List.append_toArray, List.nil_append, List.cons_append]
  gi_wp2_with (gi_at_call 29; refine (all_in F (n - 1) h29 hro _ _).mono ?_; rintro e w' ⟨rfl, rfl⟩)
  have bA := (((Blk.new w 3 #[.int .i64 at_]).alloc (.cells #[.int .i64 m] 3)).alloc (.cells #[.slice none 0 0] 48)).alloc (.cells #[.pointer (some ⟨Bb, 0, none⟩)] 64)
  have bM := ((Blk.new (w.alloc (.cells #[.int .i64 at_] 3)) 3 #[.int .i64 m]).alloc (.cells #[.slice none 0 0] 48)).alloc (.cells #[.pointer (some ⟨Bb, 0, none⟩)] 64)
  have bO := (Blk.new ((w.alloc (.cells #[.int .i64 at_] 3)).alloc (.cells #[.int .i64 m] 3)) 48 #[.slice none 0 0]).alloc (.cells #[.pointer (some ⟨Bb, 0, none⟩)] 64)
  have bP := Blk.new (((w.alloc (.cells #[.int .i64 at_] 3)).alloc (.cells #[.int .i64 m] 3)).alloc (.cells #[.slice none 0 0] 48)) 64 #[.pointer (some ⟨Bb, 0, none⟩)]
  simp only [World.size_alloc] at bM bO bP
  have hB0 : Below w.heap.size w ((((w.alloc (.cells #[.int .i64 at_] 3)).alloc (.cells #[.int .i64 m] 3)).alloc (.cells #[.slice none 0 0] 48)).alloc (.cells #[.pointer (some ⟨Bb, 0, none⟩)] 64)) :=
    ((((Below.refl _ w).alloc (Nat.le_refl _) _).alloc (by simp) _).alloc (by simp; omega) _).alloc (by simp; omega) _
  have hsz : ((((w.alloc (.cells #[.int .i64 at_] 3)).alloc (.cells #[.int .i64 m] 3)).alloc (.cells #[.slice none 0 0] 48)).alloc (.cells #[.pointer (some ⟨Bb, 0, none⟩)] 64)).heap.size = w.heap.size + 4 := by simp
  obtain ⟨W0, hW0⟩ : ∃ W0, (((w.alloc (.cells #[.int .i64 at_] 3)).alloc (.cells #[.int .i64 m] 3)).alloc (.cells #[.slice none 0 0] 48)).alloc (.cells #[.pointer (some ⟨Bb, 0, none⟩)] 64) = W0 := ⟨_, rfl⟩
  rw [hW0] at bA bM bO bP hB0 hsz ⊢
  have hsz1 : W0.heap.size ≤ w.heap.size + 4 := by omega
  have hsz2 : w.heap.size + 4 ≤ W0.heap.size := by omega
  clear hW0 hsz
  refine wpIn_rangeFunc_ownH hro h1 (gf := 34) (lb := #[.pointer (some ⟨w.heap.size + 1 + 1 + 1, 0, none⟩)]) rfl h34 (enters_of Tryd.func34 (by kernel_rfl) rfl)
    (all_stops F (n - 1) h34 hro (by omega) (w.heap.size + 1 + 1 + 1) w.heap.size b Bb cap ps (by omega) hb hBb W0 (by omega) (by omega) (bP.cell 0)
      ((hB0.cell (p := ⟨Bb, 1, none⟩) hBb).trans hcb) (fun j h => ⟨(hB0.cell (p := ⟨b, j * 2, none⟩) hb).trans (hc j h).1, (hB0.cell (p := ⟨b, j * 2 + 1, none⟩) hb).trans (hc j h).2⟩)) belowK_t (belowK_b (by omega)) (Below.refl _ _) (fun _ => rfl)
    (fun pre W => ((∃ v, Boxed W (w.heap.size + 1 + 1) 48 v ∧ W.ownsRow w.heap.size 54 2 v (partL at_ m pre).length (cellsOf (partL at_ m pre)) ∧ True) ∧ (Blk W w.heap.size 3 #[.int .i64 (at_ - total pre)] ∧ Blk W (w.heap.size + 1) 3 #[.int .i64 m])) ∧ Below w.heap.size w W)
    (fun _ _ _ => False)
    (OwnFrom.and (OwnFrom.and (Own.from (holdsRow_own w.heap.size (w.heap.size + 1 + 1) 48 54 2 (fun pre => (partL at_ m pre).length) (fun pre => cellsOf (partL at_ m pre)) (fun _ _ => True)) _) (OwnFrom.and (Own.from (blk_own _ _ _) _) (Own.from (blk_own _ _ _) _))) (ownFrom_below (Nat.le_refl _) (by omega)))
    (fun _ _ _ _ _ hs _ _ => hs)
    ⟨⟨⟨.slice none 0 0, bO, World.ownsRow_nil _ _ _ _, trivial⟩, by simpa [total_nil] using bA, bM⟩, hB0⟩
    (fun x a' W => ∃ Bx v0, w.heap.size + 1 + 1 < Bx ∧ v0.ownBlock ≠ some Bx ∧ Boxed W (w.heap.size + 1 + 1) 48 v0 ∧ Blk W Bx 54 #[.int .i64 (x.1.1 : Int), .int .i64 (x.1.2 : Int)] ∧ a' = { tmps := #[.pointer (some ⟨Bb, 0, none⟩), .int .i64 at_, .int .i64 m, undef, .pointer (some ⟨w.heap.size, 0, none⟩), .pointer (some ⟨w.heap.size + 1, 0, none⟩), .slice none 0 0, .pointer (some ⟨w.heap.size + 1 + 1, 0, none⟩), .pointer (some ⟨Bx, 0, none⟩), undef, undef, .pointer (some ⟨Bb, 0, none⟩), .func (.func 34) #[] #[.pointer (some ⟨w.heap.size + 1 + 1 + 1, 0, none⟩)], .agg #[.int .i64 (x.1.1 : Int), .int .i64 (x.1.2 : Int)], undef, undef, undef, undef, undef, undef, undef, undef, undef, undef, undef, undef, undef, undef, undef, undef, undef, undef, undef, undef, undef, undef, undef, undef, undef, undef, undef], defers := [] })
    (fun x a' _ X Y row hs hg hr => by obtain ⟨Bx, v0, h1, h0, hb, h2, h3⟩ := hs; exact ⟨Bx, v0, h1, h0, boxed_own (w.heap.size + 1 + 1) 48 (fun (_ : Unit) => v0) () X Y row hb hg (fun r e => (hr r e).2), blk_own Bx 54 (fun (_ : Unit) => #[Value.int .i64 (x.1.1 : Int), .int .i64 (x.1.2 : Int)]) () X Y row h2 hg (fun r e => (hr r e).2), h3⟩)
    ?assign ?body ?done ?stop
  case assign =>
    rintro l pre x W K ⟨⟨⟨v, bv, hv, _⟩, b1, b2⟩, hB1⟩ hK
    gi_wp2
    exact hK _ _ ((KeepsOthers.alloc _ _).from _) ((Below.refl _ W).alloc hB1.size _) ⟨⟨⟨v, bv.alloc _, hv.alloc _, trivial⟩, b1.alloc _, b2.alloc _⟩, hB1.alloc hB1.size _⟩ ⟨W.heap.size, v, bv.lt, fun e => by have := (hv.lt _ e).2; omega, bv.alloc _, Blk.new W 54 _, rfl⟩
  case body =>
    rintro l pre x a' W hl ⟨r, hr⟩ ⟨⟨⟨v, bv, hv, _⟩, b1, b2⟩, hB1⟩ ⟨Bx, v0, hBx, hv0, bv0, bX, rfl⟩ hlt
    obtain rfl : v = v0 := by have := bv.cell.symm.trans bv0.cell; simpa using this
    clear bv0
    have cA := b1.cell 0
    have fA := b1.frozen 0
    have cM := b2.cell 0
    have cO := bv.cell
    have fO := bv.frozen
    have cX0 := bX.cell 0
    have cX1 := bX.cell 1
    have htl := total_le pre
    have hx2 : x.1.1 + x.1.2 ≤ 1099511627776 := x.2
    have hpl : pre.length ≤ 1048576 := by omega
    gi_wp2
    refine wpIn_region_quiet_round hro (by kernel_rfl) (by kernel_rfl) (by kernel_rfl) ?_
    repeat (gi_big_quiet_step (fail))
    refine wpQuietIn_nil ?_
    intro _ hw'
    obtain ⟨nq, hw''⟩ := hw'
    subst hw''
    have eL : (if at_ - (total pre : Int) < 0 then 0 else at_ - (total pre : Int)) = max (at_ - total pre) 0 := by split <;> omega
    have eH : (if (x.1.2 : Int) < at_ - (total pre : Int) + m then (x.1.2 : Int) else at_ - (total pre : Int) + m) = min (at_ - total pre + m) x.1.2 := by split <;> omega
    rw [eL, eH]
    clear eL eH
    obtain ⟨lo, hlo⟩ : ∃ lo, max (at_ - total pre) 0 = lo := ⟨_, rfl⟩
    obtain ⟨hi', hhi⟩ : ∃ hi', min (at_ - total pre + m) (x.1.2 : Int) = hi' := ⟨_, rfl⟩
    have HST : Hid (partL at_ m (pre ++ [x]) = partL at_ m pre ++ if lo < hi' then [cutPc x lo.toNat hi'.toNat] else []) := hid (by rw [partL_snoc, stepPc, hlo, hhi])
    have hlo0 : 0 ≤ lo := by omega
    have hhi0 : hi' ≤ x.1.2 := by omega
    have hpl2 := partL_length at_ m pre
    have HTOT : Hid (at_ - ((total (pre ++ [x]) : Nat) : Int) = at_ - total pre - x.1.2) := hid (by rw [total_snoc]; omega)
    rw [hlo, hhi]
    clear hlo hhi
    have hKW : KeepsFrom W0.heap.size W (W.drewN nq) := ⟨Nat.le_refl _, fun _ _ _ h _ => h⟩
    have hBW : Below w.heap.size W (W.drewN nq) := ⟨rfl, rfl, rfl, Nat.le_refl _, fun _ _ => rfl⟩
    have b1' : Blk (W.drewN nq) w.heap.size 3 #[.int .i64 (at_ - total pre)] := b1
    have bv' : Boxed (W.drewN nq) (w.heap.size + 1 + 1) 48 v := bv
    have b2' : Blk (W.drewN nq) (w.heap.size + 1) 3 #[.int .i64 m] := b2
    have hv' : (W.drewN nq).ownsRow w.heap.size 54 2 v (partL at_ m pre).length (cellsOf (partL at_ m pre)) := hv
    have bX' : Blk (W.drewN nq) Bx 54 #[.int .i64 (x.1.1 : Int), .int .i64 (x.1.2 : Int)] := bX
    obtain ⟨W1, hW1⟩ : ∃ W1, W.drewN nq = W1 := ⟨_, rfl⟩
    rw [hW1] at hKW hBW b1' bv' b2' hv' bX' ⊢
    have hB1' := hB1.trans hBW
    clear hW1 b1 bv b2 hv bX cA fA cM cO fO cX0 cX1 hB1
    have cA := b1'.cell 0
    have fA := b1'.frozen 0
    have cO := bv'.cell
    have fO := bv'.frozen
    have cX0 := bX'.cell 0
    have cX1 := bX'.cell 1
    have hW1s := hB1'.size
    by_cases hlt2 : lo < hi'
    · rw [if_pos hlt2] at HST
      gi_wp2_with (gi_at_builtin; refine wpListIn_append_own _ rfl _ _ 48 rfl w.heap.size 54 i0 (.agg #[.int .i64 0, .int .i64 0]) 2 16 Tryd.underlying48 hi hz0 hz1 hz2 rfl (by decide) _ _ _ rfl (hv'.alloc _) ⟨W1.heap.size, 0, none⟩ 1 1 [.int .i64 (x.1.1 + lo), .int .i64 (hi' - lo)] rfl rfl (cell_two_new _ _ _ _) (by simp [Value.oneCell']) (by unfold maxLen; omega) (by omega) (by simp; omega) ?_; intro v' w1 hown' hgrow _; obtain ⟨g', cap', rfl⟩ := ownsRow_succ hown'; obtain ⟨hv1, hv2, hr2, hk2, hb2⟩ := bv'.appended (by decide) hv' hW1s (by omega) hown' hgrow; have hc1 := hv1.cell; have hf1 := hv1.frozen; have bA2 := ((b1'.alloc _).kept hgrow (Boxed.not_row b1' (by decide) hv')).other (j := 0) (show w.heap.size ≠ w.heap.size + 1 + 1 by omega) (.slice (some ⟨g', 0, none⟩) ((partL at_ m pre).length + 1) cap'); have bM2 := ((b2'.alloc _).kept hgrow (Boxed.not_row b2' (by decide) hv')).other (j := 0) (show w.heap.size + 1 ≠ w.heap.size + 1 + 1 by omega) (.slice (some ⟨g', 0, none⟩) ((partL at_ m pre).length + 1) cap'); have bX2 := ((bX'.alloc _).kept hgrow (Ne.symm hv0)).other (j := 0) (show Bx ≠ w.heap.size + 1 + 1 by omega) (.slice (some ⟨g', 0, none⟩) ((partL at_ m pre).length + 1) cap'); have cA2 := bA2.cell 0; have fA2 := bA2.frozen 0; have cX2 := bX2.cell 1)
      have hrr := hr2.kept (grownBy_setCell' _ w.heap.size (.int .i64 (at_ - total pre - x.1.2))) (by right; exact (Boxed.not_row bA2 (by decide) hr2).symm)
      refine ⟨hKW.trans ((hk2.trans (KeepsOthers.setCell _ _ _)).from _), hBW.trans (hb2.setCell (p := ⟨w.heap.size, 0, none⟩) (Nat.le_refl _) _),
        ⟨⟨⟨_, Blk.other hv2 (by omega) _, ?_⟩, by rw [HTOT.out]; exact bA2.set 0 _, bM2.other (by omega) _⟩, hB1'.trans (hb2.setCell (p := ⟨w.heap.size, 0, none⟩) (Nat.le_refl _) _)⟩⟩
      rw [HST.out, cellsOf_append, List.length_append]
      have e1 : cellsOf [cutPc x lo.toNat hi'.toNat] = [.int .i64 (x.1.1 + lo), .int .i64 (hi' - lo)] := by
        simp only [cellsOf, cutPc]
        congr 3 <;> omega
      rw [e1, List.length_singleton]
      exact ⟨hrr, trivial⟩
    · rw [if_neg hlt2, List.append_nil] at HST
      gi_wp2
      exact ⟨hKW.trans ((KeepsOthers.setCell _ _ _).from _), hBW.setCell (p := ⟨w.heap.size, 0, none⟩) (Nat.le_refl _) _,
        ⟨⟨⟨v, Blk.other bv' (by omega) _, by rw [HST.out]; exact hv'.kept (grownBy_setCell' _ _ _) (by right; exact (Boxed.not_row b1' (by decide) hv').symm)⟩, by rw [HTOT.out]; exact b1'.set 0 _, b2'.other (by omega) _⟩, hB1'.setCell (p := ⟨w.heap.size, 0, none⟩) (Nat.le_refl _) _⟩⟩
  case done =>
    rintro D zs W hD rfl ⟨⟨⟨v, bv, hv, _⟩, b1, b2⟩, hB1⟩ hK
    have c1 := bv.cell
    gi_wp2
    refine ⟨by simp, .inl ⟨_, _, rfl, run_takeDeferred hK, ?_⟩⟩
    rw [partL_full] at hv
    exact ⟨_, results_tmp rfl _ _ _, v, rfl, ownsRow_putObj hv _ hK rfl, hB1.trans (belowK_b (w := w) (Nat.le_refl _) W D _ _ (by omega) hK rfl rfl)⟩
  case stop =>
    rintro D c pre W _ _ h _
    exact h.elim
end Go.Proofs.YtflkmdmceeefiaaDoor
