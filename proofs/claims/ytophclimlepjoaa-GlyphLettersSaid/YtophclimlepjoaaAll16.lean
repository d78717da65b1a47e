/- All: the texts of the 38 glyphs. -/
import Derived.Test.YtophclimlepjoaaAll
import Derived.Maps.OwnIn
namespace Go.Proofs.Ytophclimlepjoaa
open Go.RowKit Go.Shelf Go.Dia Go.Maps
attribute [local go_sem] Oper.semAt_some

theorem all28 (w : World) (p : Option Addr) : Calls Try.prog 28 #[.pointer p] w fun e w' => e = .returned (.func (.func 34) #[] #[.pointer (some ⟨w.heap.size, 0, none⟩)]) ∧ w' = w.alloc (.cells #[.pointer p] 37) := by
  go_enter Try.func28, Try.ntmps28
  go_wp2
  go_ret
  exact ⟨rfl, rfl⟩
theorem loop_alloc {X : World} {l : Nat} {r : Loop} (h : X.heap[l]? = some (.loop r)) (o : Obj) : (X.alloc o).heap[l]? = some (.loop r) := (Below.heap_alloc _ _ _ (Array.getElem?_eq_some_iff.1 h).1).trans h
/-- what turns a row of cells alone keeps the records -/
theorem keeps_row {W W' : World} {base e size n : Nat} {v : Value} {xs : List Value} (h : W.ownsRow base e size v n xs) (hg : W.grownBy W' v.ownBlock) : KeepsOthers W W' :=
  ⟨hg.size, fun k o hk ho => (hg.block k (Array.getElem?_eq_some_iff.1 hk).1 (fun e => by
    rcases h.2 with ⟨rfl, _⟩ | ⟨g, cap, cur, rfl, _, hgc, _⟩
    · cases e
    · have : k = g := by simpa [Value.ownBlock] using e
      subst this; rw [hgc] at hk; cases hk; simp [Obj.isCells] at ho)).trans hk⟩
def texts (l : List Gl) : List ByteArray := l.map (·.1)
def strCells (l : List ByteArray) : List Value := l.map Value.string
theorem infoStr : (Try.prog.info? 9).map (fun i => (i.zero, i.size, i.bytes)) = some (some (.string ⟨#[]⟩), 1, 16) := by kernel_rfl

set_option maxRecDepth 100000 in
set_option maxHeartbeats 4000000 in
theorem all16 (w : World) : Calls Try.prog 16 #[] w fun e W' => ∃ v, e = .returned v ∧ W'.ownsRow w.heap.size 9 1 v 38 (strCells (texts allG)) ∧ Below w.heap.size w W' := by
  obtain ⟨i0, hi, hz0, hz1, hz2⟩ := info_parts infoStr
  refine callsIn_wide.1 (?_ : CallsIn Fence.wide 5 Try.prog 16 #[] w _)
  have h28 : Fence.wide.fn 28 := trivial
  refine callsIn_of_wp_marks Try.func16 rfl trivial ?_ rfl
  simp only [Try.ntmps16, List.size_toArray, List.length_nil, Nat.reduceSub, Array.replicate_succ, Array.replicate_zero, List.push_toArray, List.append_toArray, List.nil_append, List.cons_append]
  gi_wp2_with (gi_at_call 28; refine (callsIn_wide.2 (all28 _ _)).mono ?_; rintro e w' ⟨rfl, rfl⟩)
  have hsz : (((w.alloc (.cells #[.slice none 0 0] 29)).alloc (.cells #[.int .u32 0, .int .i32 0, .int .u32 0, .slice none 0 0, .map none] 53)).alloc (.cells #[.pointer (some ⟨w.heap.size + 1, 0, none⟩)] 37)).heap.size = w.heap.size + 3 := by simp
  have bO : Blk (((w.alloc (.cells #[.slice none 0 0] 29)).alloc (.cells #[.int .u32 0, .int .i32 0, .int .u32 0, .slice none 0 0, .map none] 53)).alloc (.cells #[.pointer (some ⟨w.heap.size + 1, 0, none⟩)] 37)) w.heap.size 29 #[.slice none 0 0] := ((Blk.new w _ _).alloc _).alloc _
  have bT : Fresh (((w.alloc (.cells #[.slice none 0 0] 29)).alloc (.cells #[.int .u32 0, .int .i32 0, .int .u32 0, .slice none 0 0, .map none] 53)).alloc (.cells #[.pointer (some ⟨w.heap.size + 1, 0, none⟩)] 37)) (w.heap.size + 1) := by
    have := (Blk.new (w.alloc (.cells #[.slice none 0 0] 29)) 53 #[.int .u32 0, .int .i32 0, .int .u32 0, .slice none 0 0, .map none]).alloc (.cells #[.pointer (some ⟨w.heap.size + 1, 0, none⟩)] 37)
    rwa [World.size_alloc] at this
  have bP : Blk (((w.alloc (.cells #[.slice none 0 0] 29)).alloc (.cells #[.int .u32 0, .int .i32 0, .int .u32 0, .slice none 0 0, .map none] 53)).alloc (.cells #[.pointer (some ⟨w.heap.size + 1, 0, none⟩)] 37)) (w.heap.size + 1 + 1) 37 #[.pointer (some ⟨w.heap.size + 1, 0, none⟩)] := by
    have := Blk.new ((w.alloc (.cells #[.slice none 0 0] 29)).alloc (.cells #[.int .u32 0, .int .i32 0, .int .u32 0, .slice none 0 0, .map none] 53)) 37 #[.pointer (some ⟨w.heap.size + 1, 0, none⟩)]
    rwa [World.size_alloc, World.size_alloc] at this
  have hB0 : Below w.heap.size w (((w.alloc (.cells #[.slice none 0 0] 29)).alloc (.cells #[.int .u32 0, .int .i32 0, .int .u32 0, .slice none 0 0, .map none] 53)).alloc (.cells #[.pointer (some ⟨w.heap.size + 1, 0, none⟩)] 37)) := (((Below.refl _ w).alloc (Nat.le_refl _) _).alloc (by simp) _).alloc (by simp; omega) _
  generalize ((w.alloc (.cells #[.slice none 0 0] 29)).alloc (.cells #[.int .u32 0, .int .i32 0, .int .u32 0, .slice none 0 0, .map none] 53)).alloc (.cells #[.pointer (some ⟨w.heap.size + 1, 0, none⟩)] 37) = W0 at *
  refine range_glyphs 5 (by omega) (w.heap.size + 1 + 1) (w.heap.size + 1) (w.heap.size + 2) rfl (bP.cell 0) (.inl ⟨bT, by omega, by omega⟩)
    (fun v B k X => FullAt X (w.heap.size + 1) (w.heap.size + 2) v B ∧ (∃ o, Blk X w.heap.size 29 #[o] ∧ X.ownsRow (w.heap.size + 2) 9 1 o k (strCells ((texts allG).take k)) ∧ (∀ j, o.ownBlock = some j → v.ownBlock ≠ some j)) ∧ Below w.heap.size w X)
    (fun _ _ => False) (fun v B k X h => h.1) ?books (fun _ _ _ _ _ _ h _ => h) ?start ?round ?done (fun _ _ _ _ h _ => h.elim)
  case books =>
    intro v B k
    refine ⟨fun X o ⟨h1, ⟨u, h2, h3, h4⟩, h5⟩ => ⟨h1.alloc o, ⟨u, h2.alloc o, h3.alloc o, h4⟩, h5.alloc h5.size o⟩, fun X l r r' hN ⟨h1, ⟨u, h2, h3, h4⟩, h5⟩ hl => ⟨h1.books hl, ⟨u, Blk.books h2 hl, own_books h3 hl, h4⟩, h5.grown (grownBy_putObj' X l _) h5.size (fun k e => by cases e; omega)⟩⟩
  case start =>
    intro v B Y hg hF _
    exact ⟨hF, ⟨_, bO.kept hg (by simp), World.ownsRow_nil _ _ _ _, fun j e => by cases e⟩, hB0.grown hg (by omega) (fun k e => by cases e; omega)⟩
  case done =>
    rintro D v B X hD ⟨h1, ⟨o, h2, h3, h4⟩, h5⟩ hK
    have c1 := h2.cell 0
    gi_wp2
    refine ⟨by simp, .inl ⟨_, _, rfl, run_takeDeferred hK, ?_⟩⟩
    have hDo : o.ownBlock ≠ some D := by
      intro e
      rcases h3.2 with ⟨rfl, _⟩ | ⟨g, cap, cur, rfl, _, hgc, _⟩
      · cases e
      · have : g = D := by simpa [Value.ownBlock] using e
        subst this; rw [hgc] at hK; cases hK
    refine ⟨_, results_tmp rfl _ _ _, o, rfl, ?_, h5.trans (belowK_b (w := w) (Nat.le_refl _) X D _ _ (by omega) hK rfl rfl)⟩
    have : (strCells ((texts allG).take 38)) = strCells (texts allG) := rfl
    rw [← this]
    exact own_mono (h3.kept (grownBy_putObj' X D _) (.inr hDo)) (by omega)
  case round =>
    rintro l v B k hk X r hl hlp ⟨h1, ⟨o, h2, h3, h4⟩, h5⟩
    obtain ⟨x, hx⟩ : ∃ x, allG[k] = x := ⟨_, rfl⟩
    have HS : Hid (strCells ((texts allG).take (k + 1)) = strCells ((texts allG).take k) ++ [.string x.1]) := hid (by rw [List.take_succ_eq_append_getElem (by simpa [texts] using hk)]; simp [strCells, texts, hx])
    rw [hx]
    clear hx
    obtain ⟨xa, xb, xc⟩ := x
    unfold glV
    gi_wp2
    refine ⟨KeepsOthers.alloc _ _, fun r' => ?_⟩
    have hlp' := loop_alloc hlp (.cells #[.string xa, .string xb, .int .i64 xc] 36)
    have bX : Blk ((X.alloc (.cells #[.string xa, .string xb, .int .i64 xc] 36)).putObj l (.loop r')) X.heap.size 36 #[.string xa, .string xb, .int .i64 xc] := Blk.books (Blk.new X _ _) hlp'
    have f1 := (h1.alloc (.cells #[.string xa, .string xb, .int .i64 xc] 36)).books (r' := r') hlp'
    have f2 := Blk.books (r' := r') (h2.alloc (.cells #[.string xa, .string xb, .int .i64 xc] 36)) hlp'
    have f3 := own_books (r' := r') (h3.alloc (.cells #[.string xa, .string xb, .int .i64 xc] 36)) hlp'
    have f5 := (h5.alloc h5.size (.cells #[.string xa, .string xb, .int .i64 xc] 36)).grown (grownBy_putObj' _ l (.loop r')) (by have := h5.size; simp; omega) (fun k e => by cases e; omega)
    generalize (X.alloc (.cells #[.string xa, .string xb, .int .i64 xc] 36)).putObj l (.loop r') = X2 at *
    have d0 := bX.cell 0
    have hk38 : k < 38 := hk
    have d1 := f2.cell 0
    have e1 := f1.2.1
    have hs5 := f5.size
    have hf2 := f2.lt
    have hb0 := f1.1.lt
    have HF := hid (And.intro f1 (And.intro f2 (And.intro f3 (And.intro f5 bX))))
    clear h1 h2 h3 h5 f1 f2 f5 e1
    gi_wp2_with (gi_at_builtin; refine wpListIn_append_own_at _ rfl _ _ 29 rfl (w.heap.size + 2) 9 i0 (.string ⟨#[]⟩) 1 16 Try.underlying29 hi hz0 hz1 hz2 rfl (by decide) _ _ _ rfl (f3.alloc _) ⟨X2.heap.size, 0, none⟩ 1 1 [.string xa] rfl rfl (cells_new _ _ _) (by simp [Value.oneCell']) (by unfold maxLen; omega) (by omega) (by simp; omega) ?_; intro o' w1 hown' hgrow hnil hat; obtain ⟨g', cap', rfl, hgb, hgl⟩ := hown'.form (by omega); have q1 : Blk w1 w.heap.size 29 #[o] := (HF.out.2.1.alloc _).kept hgrow (fun e => by have := (f3.lt _ e.symm).1; omega); have q2 := q1.cell 0; have q3 := q1.frozen 0)
    obtain ⟨f1, f2, f3', f5, bX⟩ := HF.out
    have gs := grown_set w1 w.heap.size 0 (.slice (some ⟨g', 0, none⟩) (k + 1) cap')
    have hB : o.ownBlock ≠ some B := (f1.2.2.1.alloc (.cells #[.string xa] 9)).ne_row (f3.alloc (.cells #[.string xa] 9))
    have hvr : v.ownBlock ≠ o.ownBlock ∨ o.ownBlock = none := by
      cases ho : o.ownBlock with
      | none => exact .inr rfl
      | some j => exact .inl (h4 j ho)
    have hob : ∀ j, o.ownBlock = some j → w.heap.size + 2 ≤ j := fun j e => (f3.lt j e).1
    have hvb : ∀ j, v.ownBlock = some j → w.heap.size + 2 ≤ j ∧ j < X2.heap.size := fun j e => f1.2.1.lt j e
    have hBb := f1.2.2.2.1
    refine ⟨((KeepsOthers.alloc _ _).trans (keeps_row (f3.alloc _) hgrow)).trans (KeepsOthers.setCell _ _ _), ?_, ⟨_, q1.set 0 _, ?_, ?_⟩, ?_⟩
    · refine ((f1.alloc _).kept hgrow (fun e => by have := hob _ e.symm; omega) (Ne.symm hB) hvr).kept gs (by simp) (by simp; omega) (.inl fun e => by have := (hvb _ e).1; omega)
    · rw [HS.out]
      exact hown'.kept gs (.inr (by simp [Value.ownBlock]; omega))
    · intro j e hv
      obtain rfl : g' = j := by simpa [Value.ownBlock] using e
      rcases hat with hat | hat
      · exact h4 g' (hat.symm.trans e) hv
      · have h5 := (hvb _ hv).2
        have h6 : g' = X2.heap.size + 1 := by rw [e] at hat; simpa using hat
        omega
    · exact ((f5.alloc hs5 _).grown hgrow (by simp; omega) (fun j e => by have := hob j e; omega)).setCell (p := ⟨w.heap.size, 0, none⟩) (Nat.le_refl _) _
end Go.Proofs.Ytophclimlepjoaa
