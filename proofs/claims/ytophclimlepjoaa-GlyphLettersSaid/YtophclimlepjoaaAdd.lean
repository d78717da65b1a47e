/- add: the table's slice and map grow by some glyphs. -/
import Derived.Test.YtophclimlepjoaaMk
import Derived.Maps.OwnSet
import Derived.Maps.Range
import Derived.Deep.RegionHeld3
import Derived.Deep.RegionLaw
import Derived.Deep.AppendLies
namespace Go.Proofs.Ytophclimlepjoaa
open Go.RowKit Go.Shelf Go.Dia Go.Maps

/-- a glyph as one value -/
def glV (g : Gl) : Value := .agg #[.string g.1, .string g.2.1, .int .i64 g.2.2]
/-- how a map's element reads: as the glyph itself -/
def glElem : Value → Option (DataW Gl × List MemPlace)
  | .agg cs => (match cs.toList with | [.string a, .string b, .int .i64 c] => some (.held (a, b, c), []) | _ => none)
  | _ => none
theorem glElem_mk (g : Gl) : glElem (glV g) = some (.held g, []) := rfl
theorem glElem_inv {v : Value} {z : DataW Gl × List MemPlace} (h : glElem v = some z) : ∃ g, v = glV g ∧ z = (.held g, []) := by
  unfold glElem at h
  split at h
  · rename_i cs
    split at h
    · rename_i a b c he
      refine ⟨(a, b, c), ?_, by simpa using h.symm⟩
      unfold glV
      rw [show cs = #[.string a, .string b, .int .i64 c] from by rw [← he]]
    · cases h
  · cases h
def zeroG : Gl := (⟨#[]⟩, ⟨#[]⟩, 0)
/-- the map of some glyphs, the last one first -/
def mapR : List Gl → DataW Gl
  | [] => .map []
  | g :: r => (mapR r).put (.string g.1.data.toList) (.held g)
def atR : List Gl → ByteArray → Gl
  | [], _ => zeroG
  | g :: r, k => if g.1 = k then g else atR r k
theorem mapR_isMap : ∀ r, IsMap (mapR r)
  | [] => ⟨_, rfl⟩
  | g :: r => by
    obtain ⟨es, h⟩ := mapR_isMap r
    unfold mapR; rw [h]
    exact ⟨_, rfl⟩
theorem bytes_list {a b : ByteArray} (h : a.data.toList = b.data.toList) : a = b := by
  cases a; cases b; simp at h; rw [h]
theorem mapR_at (k : ByteArray) : ∀ r, (mapR r).atKey (.string k.data.toList) (.held zeroG) = .held (atR r k)
  | [] => rfl
  | g :: r => by
    unfold mapR atR
    split
    · rename_i h; subst h
      exact atKey_put_same (k := .string g.1.data.toList) (mapR_isMap r) trivial _ _
    · rename_i h
      rw [atKey_put_other (by intro e; apply h; exact (bytes_list (by simpa using e)).symm)]
      exact mapR_at k r
theorem law9 : Keyed Try.prog 9 := string_keyed Try.underlying9

/-- a table in memory (block b): since w0 it alone has turned, and new blocks -/
def Tab (w0 W : World) (b : Nat) (d s : Int) (L : List Gl) (v : Value) (B : Nat) : Prop :=
  Blk W b 53 #[.int .u32 d, .int .i32 s, .int .u32 0, v, .map (some B)] ∧ W.ownsRow w0.heap.size 36 3 v L.length (glCells L) ∧ W.ownsMap Try.prog 9 glElem B L.length (mapR L.reverse) ∧ w0.heap.size ≤ B ∧ b < w0.heap.size ∧ w0.grownBy W (some b)

theorem _root_.Go.Dia.Blk.drew {W : World} {B : Nat} {t : TypeId} {cs : Array Value} (h : Blk W B t cs) : Blk W.drew B t cs := h
theorem _root_.Go.World.ownsMap.ne_row {W : World} {P : Program} {k : TypeId} {R : Value → Option (DataW Gl × List MemPlace)} {B n : Nat} {D : DataW Gl} {base size n' : Nat} {e : TypeId} {v : Value} {xs : List Value}
    (h : W.ownsMap P k R B n D) (ho : W.ownsRow base e size v n' xs) : v.ownBlock ≠ some B := fun e => by
  obtain ⟨es, clock, hb, _⟩ := h
  rcases ho.2 with ⟨rfl, _⟩ | ⟨g, cap, cur, rfl, _, hg, _⟩
  · cases e
  · obtain rfl : g = B := by simpa [Value.ownBlock] using e
    rw [hb] at hg; cases hg
theorem grown_set (w : World) (b i : Nat) (v : Value) : w.grownBy (w.setCell ⟨b, i, none⟩ v) (some b) :=
  ⟨rfl, rfl, rfl, by simp, fun k _ hk => Below.heap_setCell w ⟨b, i, none⟩ v k (fun e => hk (by rw [e]))⟩
theorem grown_drew {w w' : World} {row : Option Nat} (h : w.grownBy w' row) : w.grownBy w'.drew row := ⟨h.os, h.tape, h.output, h.size, h.block⟩

set_option maxRecDepth 100000 in
set_option maxHeartbeats 4000000 in
theorem add_any (w0 w : World) (b g cap B : Nat) (d s : Int) (L l : List Gl) (v : Value) (hL : L.length + l.length ≤ 1000) (hw0 : w0.heap.size ≤ w.heap.size) (hT : Tab w0 w b d s L v B) (hg : g < w.heap.size) (hgb : w0.heap.size ≤ g) (hgv : v.ownBlock ≠ some g) (hgB : g ≠ B)
    (hc : ∀ j (h : j < l.length), w.cell? ⟨g, j * 3, none⟩ = some (.string l[j].1) ∧ w.cell? ⟨g, j * 3 + 1, none⟩ = some (.string l[j].2.1) ∧ w.cell? ⟨g, j * 3 + 2, none⟩ = some (.int .i64 l[j].2.2) ∧ l[j].1.size ≤ maxLen) :
    Calls Try.prog 39 #[.pointer (some ⟨b, 0, none⟩), .slice (some ⟨g, 0, none⟩) l.length cap] w fun e W' => e = .returned (.tuple #[]) ∧ ∃ v', Tab w0 W' b d s (L ++ l) v' B ∧ W'.heap.size ≥ w.heap.size := by
  obtain ⟨i0, hi, hz0, hz1, hz2⟩ := info_parts infoGl
  have HC := hid hc
  clear hc
  obtain ⟨nn, hnn⟩ : ∃ nn, l.length = nn := ⟨_, rfl⟩
  rw [hnn]
  have HN : Hid (l.length = nn) := hid hnn
  have hn1 : nn ≤ l.length := by omega
  have hn2 : l.length ≤ nn := by omega
  clear hnn
  go_enter Try.func39, Try.ntmps39
  go_wp2
  go_loopw [8] (fun i wr => ∃ k v', k ≤ l.length ∧ i = .int .i64 k ∧ Tab w0 wr b d s (L ++ l.take k) v' B ∧ v'.ownBlock ≠ some g ∧ w.heap.size ≤ wr.heap.size ∧ (∀ j (h : j < l.length), wr.cell? ⟨g, j * 3, none⟩ = some (.string l[j].1) ∧ wr.cell? ⟨g, j * 3 + 1, none⟩ = some (.string l[j].2.1) ∧ wr.cell? ⟨g, j * 3 + 2, none⟩ = some (.int .i64 l[j].2.2) ∧ l[j].1.size ≤ maxLen)) (fun i _ => nn - (intOf i).toNat)
  case atStart => exact ⟨0, v, Nat.zero_le _, rfl, by simpa using hT, hgv, Nat.le_refl _, HC.out⟩
  case round =>
    obtain ⟨k, v', hk, rfl, hT', hgv', hws, hcr⟩ := hrel
    by_cases h1 : k < l.length
    · obtain ⟨cA, cB, cC, hsz⟩ := hcr k h1
      obtain ⟨x, hx⟩ : ∃ x, l[k] = x := ⟨_, rfl⟩
      have HS : Hid (L ++ l.take (k + 1) = (L ++ l.take k) ++ [x]) := hid (by rw [List.take_succ_eq_append_getElem h1, hx, List.append_assoc])
      rw [hx] at cA cB cC hsz
      clear hx
      obtain ⟨xa, xb, xc⟩ := x
      simp only at cA cB cC hsz
      obtain ⟨M, hM⟩ : ∃ M, L ++ l.take k = M := ⟨_, rfl⟩
      rw [hM] at hT' HS
      have HM : Hid (M.length = L.length + k) := hid (by rw [← hM]; simp; omega)
      clear hM
      obtain ⟨hb, ho, hm, hB0, hb0, hgr⟩ := hT'
      have HR := hid hcr
      clear hcr
      have hblt := hb.lt
      have HGM := hid hgr
      clear hgr
      have hkn : (k : Int) < (nn : Int) := by omega
      go_wp2
      have wfar : ∀ w1 : World, ((wr.alloc (.cells #[.string xa, .string xb, .int .i64 xc] 36)).alloc (.cells #[.string xa, .string xb, .int .i64 xc] 36)).drew.grownBy w1 v'.ownBlock → Blk w1 b 53 #[.int .u32 d, .int .i32 s, .int .u32 0, v', .map (some B)] ∧ Blk w1 wr.heap.size 36 #[.string xa, .string xb, .int .i64 xc] ∧ w1.ownsMap Try.prog 9 glElem B M.length (mapR M.reverse) ∧ w0.grownBy w1 (some b) ∧ wr.heap.size + 2 ≤ w1.heap.size ∧ wr.grownBy w1 v'.ownBlock := fun w1 hg => by
        have hne : some b ≠ v'.ownBlock := fun e => by have := (ho.lt b e.symm).1; omega
        have hnw : some wr.heap.size ≠ v'.ownBlock := fun e => by have := (ho.lt _ e.symm).2; omega
        have hnB : some B ≠ v'.ownBlock := fun e => hm.ne_row ho e.symm
        have hgg : wr.grownBy w1 v'.ownBlock := (grown_drew ((World.grownBy_alloc wr (.cells #[.string xa, .string xb, .int .i64 xc] 36) _).trans (World.grownBy_alloc _ (.cells #[.string xa, .string xb, .int .i64 xc] 36) _))).trans hg
        refine ⟨Blk.kept (Blk.drew ((hb.alloc _).alloc _)) hg hne, Blk.kept (Blk.drew ((Blk.new wr 36 #[.string xa, .string xb, .int .i64 xc]).alloc _)) hg hnw, ((hm.alloc _).alloc _).drew.kept hg hnB, HGM.out.andThen hgg fun j hj => .inl (ho.lt j hj).1, by have := hg.size; simpa using this, hgg⟩
      have wfar := hid wfar
      have O2 : ((wr.alloc (.cells #[.string xa, .string xb, .int .i64 xc] 36)).alloc (.cells #[.string xa, .string xb, .int .i64 xc] 36)).drew.ownsRow w0.heap.size 36 3 v' M.length (glCells M) := (ho.alloc _).alloc _
      have N2 : ∀ j u, [Value.string xa, .string xb, .int .i64 xc][j]? = some u → ((wr.alloc (.cells #[.string xa, .string xb, .int .i64 xc] 36)).alloc (.cells #[.string xa, .string xb, .int .i64 xc] 36)).drew.cell? ((⟨wr.heap.size + 1, 0, none⟩ : Addr).add j) = some u := by
        have h := cells_new (wr.alloc (.cells #[.string xa, .string xb, .int .i64 xc] 36)) #[.string xa, .string xb, .int .i64 xc] 36
        rw [show (wr.alloc (.cells #[.string xa, .string xb, .int .i64 xc] 36)).heap.size = wr.heap.size + 1 by simp] at h
        exact h
      have c3 : (wr.alloc (.cells #[.string xa, .string xb, .int .i64 xc] 36)).drew.cell? ⟨b, 3, none⟩ = some v' := (hb.alloc _).cell 3
      have c3' : ((wr.alloc (.cells #[.string xa, .string xb, .int .i64 xc] 36)).alloc (.cells #[.string xa, .string xb, .int .i64 xc] 36)).drew.cell? ⟨b, 3, none⟩ = some v' := ((hb.alloc _).alloc _).cell 3
      have F := hid (And.intro hB0 hb0)
      have HLT := hid hblt
      clear hb ho hm hB0 hb0
      go_region_law (first | (refine step_append_lies _ rfl _ _ 50 rfl w0.heap.size 36 i0 (.agg #[.string ⟨#[]⟩, .string ⟨#[]⟩, .int .i64 0]) 3 40 Try.underlying50 hi hz0 hz1 hz2 rfl (by decide) _ _ _ rfl O2 ⟨_, 0, none⟩ 1 1 [.string xa, .string xb, .int .i64 xc] rfl rfl N2 (by simp [Value.oneCell']) (by decide) (by unfold maxLen; have := HM.out; omega) (by have := HM.out; omega) (by simp; omega) _ rfl ?_; intro g' cap' w1 hown' hgrow hat0 hlt'; have hat : v'.ownBlock = some g' ∨ g' = ((wr.alloc (.cells #[.string xa, .string xb, .int .i64 xc] 36)).alloc (.cells #[.string xa, .string xb, .int .i64 xc] 36)).drew.heap.size := hat0; clear hat0; obtain ⟨B2, G2, M2, gr2, sz2, gg2⟩ := wfar.out w1 hgrow; have e3 := B2.cell 3; have z3 := B2.frozen 3))
      all_goals go_wp2
      all_goals
        have B3 : Blk (w1.setCell ⟨b, 3, none⟩ (.slice (some ⟨g', 0, none⟩) (M.length + 1) cap')) b 53 #[.int .u32 d, .int .i32 s, .int .u32 0, .slice (some ⟨g', 0, none⟩) (M.length + 1) cap', .map (some B)] := B2.set 3 _
        have hbw : wr.heap.size ≠ b := Nat.ne_of_gt HLT.out
        have G3 : Blk (w1.setCell ⟨b, 3, none⟩ (.slice (some ⟨g', 0, none⟩) (M.length + 1) cap')) wr.heap.size 36 #[.string xa, .string xb, .int .i64 xc] := G2.other hbw _
        have hBb : B ≠ b := by have := F.out.1; have := F.out.2; omega
        have M3 : (w1.setCell ⟨b, 3, none⟩ (.slice (some ⟨g', 0, none⟩) (M.length + 1) cap')).ownsMap Try.prog 9 glElem B M.length (mapR M.reverse) := M2.setCell hBb _
        obtain ⟨w3, hrun, M4, g4⟩ := M3.drew.update law9 Try.underlying51 (by unfold maxLen; have := HM.out; omega) (Go.WideMaps.keyOf_string_mk Try.underlying9 hsz) (glElem_mk (xa, xb, xc))
        have k4 : (w1.setCell ⟨b, 3, none⟩ (.slice (some ⟨g', 0, none⟩) (M.length + 1) cap')).drew.cell? ⟨b, 4, none⟩ = some (.map (some B)) := B3.cell 4
        have k0 : (w1.setCell ⟨b, 3, none⟩ (.slice (some ⟨g', 0, none⟩) (M.length + 1) cap')).drew.cell? ⟨wr.heap.size, 0, none⟩ = some (.string xa) := G3.cell 0
        have k1 : (w1.setCell ⟨b, 3, none⟩ (.slice (some ⟨g', 0, none⟩) (M.length + 1) cap')).drew.cell? ⟨wr.heap.size, 1, none⟩ = some (.string xb) := G3.cell 1
        have k2 : (w1.setCell ⟨b, 3, none⟩ (.slice (some ⟨g', 0, none⟩) (M.length + 1) cap')).drew.cell? ⟨wr.heap.size, 2, none⟩ = some (.int .i64 xc) := G3.cell 2
        unfold glV at hrun
        simp only at hrun
        have FF := hid (And.intro B3 (And.intro M2 (And.intro M4 (And.intro g4 (And.intro gr2 gg2)))))
        clear B3 G3 M3 M4 g4 gr2 gg2 B2 G2 M2
        go_region
        all_goals
          go_wp2
          obtain ⟨B3, M2, M4, g4, gr2, gg2⟩ := FF.out
          obtain ⟨hB0, hb0⟩ := F.out
          have hBb : B ≠ b := by omega
          have hgb' : g ≠ b := by omega
          have gs := grown_set w1 b 3 (.slice (some ⟨g', 0, none⟩) (M.length + 1) cap')
          have gd : (w1.setCell ⟨b, 3, none⟩ (.slice (some ⟨g', 0, none⟩) (M.length + 1) cap')).grownBy w3 (some B) := ⟨g4.os, g4.tape, g4.output, g4.size, g4.block⟩
          have hgw : w0.heap.size ≤ g' := (hown'.lt g' rfl).1
          have hne : Value.ownBlock (.slice (some ⟨g', 0, none⟩) (M.length + 1) cap') ≠ some B := M2.ne_row hown'
          have hnb : Value.ownBlock (.slice (some ⟨g', 0, none⟩) (M.length + 1) cap') ≠ some b := by simp [Value.ownBlock]; omega
          have S1 := gg2.size
          have S2 := gs.size
          have S3 := gd.size
          refine ⟨⟨k + 1, .slice (some ⟨g', 0, none⟩) (M.length + 1) cap', by omega, by go_num, ?_, ?_, by omega, ?_⟩, by simp [intOf]; omega⟩
          · rw [HS.out]
            refine ⟨B3.kept gd (by simp; omega), ?_, ?_, hB0, hb0, (gr2.trans gs).andThen gd (fun j hj => by cases hj; exact .inl hB0)⟩
            · rw [glCells_append, List.length_append]
              exact (hown'.kept gs (.inr hnb)).kept gd (.inr hne)
            · rw [List.length_append, List.reverse_append]
              exact M4
          · intro e
            have e : g' = g := by simpa [Value.ownBlock] using e
            rcases hat with hat | hat
            · exact hgv' (by rw [hat, e])
            · simp at hat
              omega
          · intro j hj
            have hk1 : ∀ i, w3.cell? ⟨g, i, none⟩ = wr.cell? ⟨g, i, none⟩ := fun i => by
              rw [gd.cell_far ⟨g, i, none⟩ (by show g < _; omega) (by simp [hgB]), gs.cell_far ⟨g, i, none⟩ (by show g < _; omega) (by simp; omega), gg2.cell_far ⟨g, i, none⟩ (by show g < _; omega) (Ne.symm hgv')]
            rw [hk1, hk1, hk1]
            exact HR.out j hj
    · obtain rfl : k = l.length := by omega
      have j1 : ¬ ((l.length : Int) < (nn : Int)) := by omega
      go_wp2
      go_end0
      exact ⟨rfl, ⟨v', by simpa using hT'⟩, hws⟩
end Go.Proofs.Ytophclimlepjoaa
