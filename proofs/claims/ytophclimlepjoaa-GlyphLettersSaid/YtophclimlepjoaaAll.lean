/- the iterator over a table yields the 38 glyphs, in order; the statement that ranges over it. -/
import Derived.Test.YtophclimlepjoaaTable
namespace Go.Proofs.Ytophclimlepjoaa
open Go.RowKit Go.Shelf Go.Dia Go.Maps
attribute [local go_sem] Oper.semAt_some

set_option maxRecDepth 100000 in
set_option maxHeartbeats 4000000 in
theorem all34 (n : Nat) (hn : 1 ≤ n) (l Bp b n0 : Nat) (W : World) (hBp : W.cell? ⟨Bp, 0, none⟩ = some (.pointer (some ⟨b, 0, none⟩))) (hT : TabAt W b n0)
    (J : Value → Nat → Nat → World → Prop) (Jx : World → Prop) (hJF : ∀ v B k X, J v B k X → FullAt X b n0 v B) (hJal : ∀ v B k X o, J v B k X → J v B k (X.alloc o))
    (hJ0 : ∀ v B Y, W.grownBy Y (some b) → FullAt Y b n0 v B → (FullAt W b n0 v B ∨ ∀ k, v.ownBlock = some k → W.heap.size ≤ k) → J v B 0 Y)
    (hY : ∀ v B k (hk : k < allG.length) X, J v B k X → YieldAt Fence.wide (n - 1) Try.prog l #[glV allG[k]] X fun e Y => (e = .returned (.bool true) ∧ J v B (k + 1) Y) ∨ (e = .returned (.bool false) ∧ Jx Y)) :
    CallsIn Fence.wide n Try.prog 34 #[.func (.yield l) #[] #[], .pointer (some ⟨Bp, 0, none⟩)] W fun e Y => (∃ v, e = .returned v) ∧ ((∃ v B, J v B 38 Y) ∨ Jx Y) := by
  have HF := hid (fill_any W b n0 hT)
  have h32 : Fence.wide.fn 32 := trivial
  refine callsIn_of_wp Try.func34 rfl trivial ?_ rfl
  simp only [Try.ntmps34, List.size_toArray, List.length_cons, List.length_nil, Nat.reduceAdd, Nat.reduceSub, Array.replicate_succ, Array.replicate_zero, List.push_toArray, List.append_toArray, List.nil_append, List.cons_append]
  gi_wp2
  refine wpIn_scope_straight ?_
  refine wpIn_seq (wpIn_label ?_)
  gi_wp2_with (gi_at_call 32; refine (callsIn_wide.2 HF.out).mono ?_; rintro e W1 ⟨rfl, ⟨v, B, hF, hor⟩, hgr⟩; obtain ⟨g, cap, rfl, _, _⟩ := hF.2.1.form (by decide); have c3 := hF.1.cell 3; have HJ0 := hid (hJ0 _ _ _ hgr hF hor); clear hgr hF hor)
  clear HF
  gi_loopw [11, 4, 12, 13, 14, 15, 16, 17, 18, 19] (fun i _ _ _ _ _ _ _ _ _ wr => ∃ k : Nat, k ≤ 38 ∧ i = .int .i64 k ∧ J (.slice (some ⟨g, 0, none⟩) 38 cap) B k wr)
    (fun i _ _ _ _ _ _ _ _ _ _ => 38 - (intOf i).toNat)
  case atStart => exact ⟨0, Nat.zero_le _, rfl, HJ0.out⟩
  case round =>
    obtain ⟨k, hk, rfl, hJs⟩ := hrel
    by_cases hlt : k < 38
    · have hk' : k < allG.length := hlt
      have hF := hJF _ _ _ _ hJs
      obtain ⟨k1, k2, k3⟩ := glCells_get allG k hk'
      have hlen := glCells_length allG
      rw [allG_length] at hlen
      have h1 := (hF.2.1.cellAt (k * 3) (by omega)).trans k1
      have h2 := (hF.2.1.cellAt (k * 3 + 1) (by omega)).trans k2
      have h3 := (hF.2.1.cellAt (k * 3 + 2) (by omega)).trans k3
      obtain ⟨x, hx⟩ : ∃ x, allG[k] = x := ⟨_, rfl⟩
      have hJ2 := hJal _ _ _ _ (.cells #[.string x.1, .string x.2.1, .int .i64 x.2.2] 36) hJs
      obtain ⟨fn, tmps, assign, body, hy, hR⟩ := hY _ _ k hk' _ hJ2
      rw [hx] at h1 h2 h3 hy
      unfold glV at hy
      clear hx hF k1 k2 k3 hlen
      gi_wp2
      refine hR.mono ?_
      rintro e W3 (⟨rfl, hJ3⟩ | ⟨rfl, hJx3⟩)
      · gi_wp2
        go_roundw
        case rel => exact ⟨k + 1, by omega, by go_num, hJ3⟩
        case measure => simp [intOf]; omega
      · gi_wp2
        rw [Exit.noGoto_normal]
        go_end0
        exact ⟨⟨_, rfl⟩, .inr hJx3⟩
    · obtain rfl : k = 38 := by omega
      gi_wp2
      rw [Exit.noGoto_normal]
      go_end0
      exact ⟨⟨_, rfl⟩, .inl ⟨_, _, hJs⟩⟩

theorem grown_any {a c : World} (h : a.grownBy c none) (row : Option Nat) : a.grownBy c row := ⟨h.os, h.tape, h.output, h.size, fun i hi _ => h.block i hi (by simp)⟩
theorem TabAt.back {w W : World} {b n0 : Nat} {v : Value} {B : Nat} (h : TabAt w b n0) (hg : w.grownBy W none) (hF : FullAt W b n0 v B) : FullAt w b n0 v B := by
  rcases h with ⟨h1, _⟩ | ⟨v', B', h⟩
  · have h2 := (Blk.kept h1 hg (by simp)).cell 0
    have h3 := hF.1.cell 0
    rw [h2] at h3
    simp at h3
  · have h2 := h.below hg
    obtain rfl : v' = v := by have e := h2.1.cell 3; rw [hF.1.cell 3] at e; simpa using e.symm
    obtain rfl : B' = B := by have e := h2.1.cell 4; rw [hF.1.cell 4] at e; simpa using e.symm
    exact h
/-- what is said of a world abides the book-keeping of a loop -/
structure Books (N : Nat) (I : World → Prop) : Prop where
  alloc : ∀ X o, I X → I (X.alloc o)
  put : ∀ X l r r', N ≤ l → I X → X.heap[l]? = some (.loop r) → I (X.putObj l (.loop r'))
/-- how a round's body may be left -/
def roundQ (I : World → Prop) (Ix : Code → World → Prop) (X : World) : Exit → Act → World → Prop
  | .normal, _, Y => KeepsOthers X Y ∧ I Y
  | .ret, _, Y => KeepsOthers X Y ∧ Ix .ret Y
  | .exit id, _, Y => KeepsOthers X Y ∧ Ix (.exit id) Y
  | .goto t, _, Y => KeepsOthers X Y ∧ Ix (.goto t) Y
  | _, _, _ => False
theorem not_loop_cells {W : World} {l : Nat} {r : Loop} {B : Nat} {t : TypeId} {cs : Array Value} (h : Blk W B t cs) (hl : W.heap[l]? = some (.loop r)) : B ≠ l := fun e => by
  subst e; rw [show W.heap[B]? = _ from h] at hl; cases hl
theorem Blk.books {W : World} {l : Nat} {r r' : Loop} {B : Nat} {t : TypeId} {cs : Array Value} (h : Blk W B t cs) (hl : W.heap[l]? = some (.loop r)) : Blk (W.putObj l (.loop r')) B t cs :=
  Blk.kept h (grownBy_putObj' W l _) (by have := not_loop_cells h hl; simpa using this)
theorem own_books {W : World} {l : Nat} {r r' : Loop} {base e size n : Nat} {v : Value} {xs : List Value} (h : W.ownsRow base e size v n xs) (hl : W.heap[l]? = some (.loop r)) : (W.putObj l (.loop r')).ownsRow base e size v n xs :=
  h.kept (grownBy_putObj' W l _) (by
    rcases h.2 with ⟨rfl, _⟩ | ⟨g, cap, cur, rfl, _, hg, _⟩
    · exact .inl rfl
    · right; intro e; have : g = l := by simpa [Value.ownBlock] using e
      subst this; rw [hg] at hl; cases hl)
theorem FullAt.books {W : World} {l : Nat} {r r' : Loop} {b n0 : Nat} {v : Value} {B : Nat} (h : FullAt W b n0 v B) (hl : W.heap[l]? = some (.loop r)) : FullAt (W.putObj l (.loop r')) b n0 v B :=
  ⟨Blk.books h.1 hl, own_books h.2.1 hl, h.2.2.1.kept (grownBy_putObj' W l _) (by
    obtain ⟨es, c, hb, _⟩ := h.2.2.1
    intro e; have : B = l := by simpa using e
    subst this; rw [hb] at hl; cases hl), h.2.2.2⟩

set_option maxHeartbeats 1000000 in
/-- 'for g := range t.all() { .. }' -/
theorem range_glyphs {g : Operand} {p : Tmp} {assign body : Code} {Q : Exit → Act → World → Prop} {a : Act} {w : World} (n : Nat) (hn : 3 ≤ n) (Bp b n0 : Nat)
    (hg : a.eval g = .func (.func 34) #[] #[.pointer (some ⟨Bp, 0, none⟩)]) (hBp : w.cell? ⟨Bp, 0, none⟩ = some (.pointer (some ⟨b, 0, none⟩))) (hT : TabAt w b n0)
    (I : Value → Nat → Nat → World → Prop) (Ix : Code → World → Prop) (hIF : ∀ v B k X, I v B k X → FullAt X b n0 v B) (hIb : ∀ v B k, Books w.heap.size (I v B k))
    (hIx : ∀ c X l r r', w.heap.size ≤ l → Ix c X → X.heap[l]? = some (.loop r) → Ix c (X.putObj l (.loop r')))
    (h0 : ∀ v B Y, w.grownBy Y (some b) → FullAt Y b n0 v B → (FullAt w b n0 v B ∨ ∀ k, v.ownBlock = some k → w.heap.size ≤ k) → I v B 0 Y)
    (hround : ∀ l v B k (hk : k < allG.length) X r, w.heap.size ≤ l → X.heap[l]? = some (.loop r) → I v B k X →
      assign.wpIn (Fence.wide.inRound l) (n - 2) Try.prog (Exit.then (fun a₁ X₁ => KeepsOthers X X₁ ∧ ∀ r', body.wpIn (Fence.wide.inRound l) (n - 2) Try.prog (roundQ (I v B (k + 1)) Ix (X₁.putObj l (.loop r'))) a₁ (X₁.putObj l (.loop r'))) (fun _ _ _ => False))
        { tmps := a.tmps.setIfInBounds p (glV allG[k]), defers := [] } X)
    (hdone : ∀ D v B X, w.heap.size ≤ D → I v B 38 X → X.heap[D]? = some (.deferred (some [])) → Q .normal { a with defers := { target := .collected D, args := #[] } :: a.defers } X)
    (hstop : ∀ D c X, w.heap.size ≤ D → Ix c X → X.heap[D]? = some (.deferred (some [])) → c.wpIn Fence.wide n Try.prog Q { a with defers := { target := .collected D, args := #[] } :: a.defers } X) :
    (Code.rangeFunc g #[p] assign body).wpIn Fence.wide n Try.prog Q a w := by
  refine wpIn_rangeFunc ?_
  intro fn hfn
  obtain ⟨rc, hrc⟩ : ∃ rc : LoopState → Option Code → Loop, rc = fun st pe => { state := st, pending := pe, fn, tmps := a.tmps, params := #[p], assign, body, defers := w.heap.size } := ⟨_, rfl⟩
  have hen := run_enterLoop_outer (P := Try.prog) (w := w) fn a.tmps #[p] assign body
  have hlast : ((w.alloc (.deferred (some []))).alloc (.loop (rc .ready none))).heap[w.heap.size + 1]? = some (.loop (rc .ready none)) := by
    have := World.alloc_heap_new (w.alloc (.deferred (some []))) (.loop (rc .ready none)); rwa [World.size_alloc] at this
  have hdef : ((w.alloc (.deferred (some []))).alloc (.loop (rc .ready none))).heap[w.heap.size]? = some (.deferred (some [])) :=
    (Below.heap_alloc _ _ _ (by simp)).trans (World.alloc_heap_new w _)
  have hgw : w.grownBy ((w.alloc (.deferred (some []))).alloc (.loop (rc .ready none))) none := (World.grownBy_alloc w _ _).trans (World.grownBy_alloc _ _ _)
  have hsz : ((w.alloc (.deferred (some []))).alloc (.loop (rc .ready none))).heap.size = w.heap.size + 2 := by simp
  have hen : (Instr.enterLoop fn a.tmps #[p] assign body Fence.wide.round).run Try.prog w = .ok (w.heap.size + 1, [{ target := .collected w.heap.size, args := #[] }]) ((w.alloc (.deferred (some []))).alloc (.loop (rc .ready none))) := by rw [hrc]; exact hen
  generalize (w.alloc (.deferred (some []))).alloc (.loop (rc .ready none)) = W1 at *
  refine ⟨w.heap.size + 1, [{ target := .collected w.heap.size, args := #[] }], W1, { target := .fn (.func 34) #[.pointer (some ⟨Bp, 0, none⟩)], args := #[.func (.yield (w.heap.size + 1)) #[] #[]] }, W1, 34,
    #[.func (.yield (w.heap.size + 1)) #[] #[], .pointer (some ⟨Bp, 0, none⟩)], W1, hen, ?_, fun _ _ => trivial, ?_, fun _ => by omega, ?_⟩
  · simp only [resolve, hg]
    simp [go_sem]
  · simp [invoke, go_sem]
  · refine (all34 (n - 1) (by omega) (w.heap.size + 1) Bp b n0 W1 ((hgw.cell hBp (by simp))) (hT.kept hgw)
      (fun v B k X => I v B k X ∧ X.heap[w.heap.size + 1]? = some (.loop (rc .ready none)) ∧ X.heap[w.heap.size]? = some (.deferred (some [])))
      (fun X => ∃ c, Ix c X ∧ X.heap[w.heap.size + 1]? = some (.loop (rc .done (some c))) ∧ X.heap[w.heap.size]? = some (.deferred (some [])))
      (fun v B k X h => hIF v B k X h.1) ?_ ?_ ?_).mono ?_
    · rintro v B k X o ⟨h1, h2, h3⟩
      exact ⟨(hIb v B k).alloc X o h1, (Below.heap_alloc _ _ _ (Array.getElem?_eq_some_iff.1 h2).1).trans h2, (Below.heap_alloc _ _ _ (Array.getElem?_eq_some_iff.1 h3).1).trans h3⟩
    · rintro v B Y hgY hF hor
      have hb := hT.lt
      refine ⟨h0 v B Y ((grown_any hgw _).trans hgY) hF ?_, (hgY.block _ (by omega) (by simp; omega)).trans hlast, (hgY.block _ (by omega) (by simp; omega)).trans hdef⟩
      rcases hor with h | h
      · exact .inl (hT.back hgw h)
      · exact .inr fun k hk => by have := h k hk; omega
    · rintro v B k hk X ⟨hi, hl, hd⟩
      have hb := hT.lt
      have hy := run_yield (P := Try.prog) (args := #[glV allG[k]]) hl (by rw [hrc]; rfl)
      rw [show n - 1 - 1 = n - 2 by omega]
      refine ⟨fn, a.tmps.setIfInBounds p (glV allG[k]), assign, body, by rw [hrc] at hy; simpa using hy, roundIn_of_wpIn trivial (wpIn_mono (hround _ v B k hk X _ (by omega) hl hi) ?_)⟩
      rintro e a₁ X₁ hq
      cases e with
      | normal =>
        obtain ⟨hk1, hbody⟩ := hq
        have hl1 := hk1.same _ _ hl rfl
        have hd1 := hk1.same _ _ hd rfl
        have hlt1 := (Array.getElem?_eq_some_iff.1 hl1).1
        refine ⟨_, run_beginRound hl1 (by rw [hrc]), wpIn_mono (hbody { rc .ready none with state := .busy }) ?_⟩
        have hl2 : (X₁.putObj (w.heap.size + 1) (.loop { rc .ready none with state := .busy })).heap[w.heap.size + 1]? = some (.loop { rc .ready none with state := .busy }) := World.putObj_heap_same hlt1
        have hd2 : (X₁.putObj (w.heap.size + 1) (.loop { rc .ready none with state := .busy })).heap[w.heap.size]? = some (.deferred (some [])) := (World.putObj_heap_other (by omega)).trans hd1
        have close : ∀ (j : Option Code) (Y : World), KeepsOthers (X₁.putObj (w.heap.size + 1) (.loop { rc .ready none with state := .busy })) Y →
            Y.heap[w.heap.size + 1]? = some (.loop { rc .ready none with state := .busy }) ∧ (Instr.endRound (w.heap.size + 1) j).run Try.prog Y = .ok (.bool j.isNone) (Y.putObj (w.heap.size + 1) (.loop (rc (if j.isNone then .ready else .done) j))) ∧
            (Y.putObj (w.heap.size + 1) (.loop (rc (if j.isNone then .ready else .done) j))).heap[w.heap.size + 1]? = some (.loop (rc (if j.isNone then .ready else .done) j)) ∧
            (Y.putObj (w.heap.size + 1) (.loop (rc (if j.isNone then .ready else .done) j))).heap[w.heap.size]? = some (.deferred (some [])) := fun j Y hY => by
          have hl3 := hY.same _ _ hl2 rfl
          have hr := run_endRound (P := Try.prog) j hl3
          refine ⟨hl3, ?_, World.putObj_heap_same (Array.getElem?_eq_some_iff.1 hl3).1, (World.putObj_heap_other (by omega)).trans (hY.same _ _ hd2 rfl)⟩
          rw [hr, hrc]
        rintro e3 a3 Y h3
        cases e3 with
        | normal => obtain ⟨c0, c1, c2, c3⟩ := close none Y h3.1; exact ⟨_, _, c1, .inl ⟨rfl, (hIb v B (k + 1)).put _ _ _ _ (by omega) h3.2 c0, c2, c3⟩⟩
        | ret => obtain ⟨c0, c1, c2, c3⟩ := close (some .ret) Y h3.1; exact ⟨_, _, c1, .inr ⟨rfl, .ret, hIx _ _ _ _ _ (by omega) h3.2 c0, c2, c3⟩⟩
        | exit id => obtain ⟨c0, c1, c2, c3⟩ := close (some (.exit id)) Y h3.1; exact ⟨_, _, c1, .inr ⟨rfl, .exit id, hIx _ _ _ _ _ (by omega) h3.2 c0, c2, c3⟩⟩
        | goto t => obtain ⟨c0, c1, c2, c3⟩ := close (some (.goto t)) Y h3.1; exact ⟨_, _, c1, .inr ⟨rfl, .goto t, hIx _ _ _ _ _ (by omega) h3.2 c0, c2, c3⟩⟩
        | panic ch => exact h3.elim
        | outgrown => exact h3.elim
      | ret => exact hq.elim
      | exit id => exact hq.elim
      | goto t => exact hq.elim
      | panic ch => exact hq.elim
      | outgrown => exact hq.elim
    · rintro e X ⟨⟨u, rfl⟩, ⟨v, B, hi, hl, hd⟩ | ⟨c, hi, hl, hd⟩⟩
      · refine ⟨none, _, ?_, hdone w.heap.size v B _ (Nat.le_refl _) ((hIb v B 38).put X (w.heap.size + 1) _ { rc .ready none with state := .exhausted } (by omega) hi hl) ((World.putObj_heap_other (by omega)).trans hd)⟩
        have := run_endLoop (P := Try.prog) hl (by rw [hrc]; simp)
        rw [hrc] at this ⊢
        exact this
      · refine ⟨some c, _, ?_, hstop w.heap.size c _ (Nat.le_refl _) (hIx c X (w.heap.size + 1) _ { rc .done (some c) with state := .exhausted } (by omega) hi hl) ((World.putObj_heap_other (by omega)).trans hd)⟩
        have := run_endLoop (P := Try.prog) hl (by rw [hrc]; simp)
        rw [hrc] at this ⊢
        exact this
end Go.Proofs.Ytophclimlepjoaa
