/- strings.Builder's WriteString and String, the builder within the reader. -/
import Derived.Test.YtophclimlepjoaaTable
import Derived.Lib.Builder
import Derived.Lib.UnsafeStr
import Derived.RegionTactic
import Derived.Deep.AppendLies
import Derived.ChangeAlike
namespace Go.Proofs.Ytophclimlepjoaa
open Go.RowKit Go.Shelf Go.Dia Go.Maps

/-- a reader in memory: what is left, its table, its builder -/
def RdAt (W : World) (N R b : Nat) (rs : ByteArray) (p v : Value) (bs : List UInt8) : Prop :=
  Blk W R 67 #[.string rs, .pointer (some ⟨b, 0, none⟩), p, v] ∧ (p = .pointer none ∨ p = .pointer (some ⟨R, 2, none⟩)) ∧ W.ownsRow N 5 1 v bs.length (Lib.byteCells bs) ∧ (bs = [] → v = .slice none 0 0)
theorem TabAt.other {W W' : World} {b n0 q : Nat} {t : TypeId} {cs : Array Value} (h : TabAt W b n0) (hq : Blk W q t cs) (ht : t ≠ 53) (ht' : t ≠ 36) (hg : W.grownBy W' (some q)) : TabAt W' b n0 := by
  have nb : ∀ {cs'}, Blk W b 53 cs' → some b ≠ some q := fun hb e => by
    have : b = q := by simpa using e
    subst this
    have := hq.symm.trans hb; simp at this; exact ht this.2
  rcases h with ⟨h1, h2, h3⟩ | ⟨v, B, h⟩
  · exact .inl ⟨Blk.kept h1 hg (nb h1), Nat.le_trans h2 hg.size, h3⟩
  · refine .inr ⟨v, B, h.kept hg (nb h.1) ?_ (.inl ?_)⟩
    · intro e
      have : B = q := by simpa using e
      subst this
      obtain ⟨es, cl, hb, _⟩ := h.2.2.1
      rw [show W.heap[B]? = _ from hq] at hb; cases hb
    · intro e
      rcases h.2.1.2 with ⟨rfl, _⟩ | ⟨g, cap, cur, rfl, _, hg', _⟩
      · cases e
      · have : g = q := by simpa [Value.ownBlock] using e
        subst this
        have := hq.symm.trans hg'; simp at this; exact ht' this.2
theorem blk_ne {W : World} {q q' : Nat} {t t' : TypeId} {cs cs' : Array Value} (h : Blk W q t cs) (h' : Blk W q' t' cs') (ht : t ≠ t') : some q ≠ some q' := fun e => by
  have : q = q' := by simpa using e
  subst this
  have := h.symm.trans h'; simp at this; exact ht this.2
theorem RdAt.row {W : World} {N R b : Nat} {rs : ByteArray} {p v : Value} {bs : List UInt8} (h : RdAt W N R b rs p v bs) : v.ownBlock ≠ some R := fun e => by
  rcases h.2.2.1.2 with ⟨rfl, _⟩ | ⟨g, cap, cur, rfl, _, hg', _⟩
  · cases e
  · have : g = R := by simpa [Value.ownBlock] using e
    subst this
    have := h.1.symm.trans hg'; simp at this

theorem sizeBuilder : (Try.prog.info? 65).map (·.size) = some 2 := by kernel_rfl
theorem infoByte : (Try.prog.info? 5).map (fun i => (i.zero, i.size, i.bytes)) = some (some (.int .u8 0), 1, 1) := by kernel_rfl
theorem liesBuilder : liesAt Try.prog Try.prog.depth 67 (4 / Try.prog.cellsOf 67) 2 65 1 = true := by kernel_rfl

set_option maxHeartbeats 1000000 in
set_option maxRecDepth 100000 in
theorem copyCheck_used (R : Nat) (w : World) (h0 : w.cell? ⟨R, 2, none⟩ = some (.pointer (some ⟨R, 2, none⟩))) :
    Calls Try.prog 43 #[.pointer (some ⟨R, 2, none⟩)] w fun e w' => e = .returned (.tuple #[]) ∧ w' = w := by
  obtain ⟨j, hj, _⟩ := Option.map_eq_some_iff.1 sizeBuilder
  go_enter Try.func43, Try.ntmps43
  go_wp2
  rw [Lib.run_neq_ptr_same w _ Try.underlying62 hj]
  go_wp2
  go_end0
  exact ⟨rfl, rfl⟩

set_option maxHeartbeats 1000000 in
set_option maxRecDepth 100000 in
theorem copyCheck_fresh (R : Nat) (w : World) (h0 : w.cell? ⟨R, 2, none⟩ = some (.pointer none)) (hsh : w.shape? R = some (67, 4)) (hfz : w.frozen? ⟨R, 2, none⟩ = false) :
    Calls Try.prog 43 #[.pointer (some ⟨R, 2, none⟩)] w fun e w' => e = .returned (.tuple #[]) ∧ w' = w.setCell ⟨R, 2, none⟩ (.pointer (some ⟨R, 2, none⟩)) := by
  obtain ⟨j, hj, hjs⟩ := Option.map_eq_some_iff.1 sizeBuilder
  go_enter Try.func43, Try.ntmps43
  go_wp2
  rw [Lib.run_to_unsafe w ⟨R, 2, none⟩ Try.underlying62 Try.underlying87 hj (by rw [hjs]; decide) hsh (show 2 < 4 by decide)]
  simp only [Result.andThen]
  rw [Oper.upon_value]
  go_wp2
  rw [run_callFunc_extern Try.func46 (by kernel_rfl) (by kernel_rfl) (by kernel_rfl) (e := Extern.AbiNoEscape.same) (by kernel_rfl)]
  rw [Lib.run_noEscape]
  simp only [Result.andThen]
  rw [Oper.upon_value]
  go_wp2
  rw [Lib.run_from_unsafe w ⟨R, 2, none⟩ Try.underlying87 Try.underlying62 hj hsh liesBuilder]
  simp only [Result.andThen]
  rw [Oper.upon_value]
  go_wp2
  go_end0
  exact ⟨rfl, rfl⟩

theorem copyCheck_any (N R b n0 : Nat) (rs : ByteArray) (p v : Value) (bs : List UInt8) (w : World) (hN : N ≤ R) (h : RdAt w N R b rs p v bs) (hT : TabAt w b n0) :
    Calls Try.prog 43 #[.pointer (some ⟨R, 2, none⟩)] w fun e w' => e = .returned (.tuple #[]) ∧ RdAt w' N R b rs (.pointer (some ⟨R, 2, none⟩)) v bs ∧ TabAt w' b n0 ∧ Below N w w' ∧ (∀ q t cs, t ≠ 67 → t ≠ 5 → Blk w q t cs → Blk w' q t cs) := by
  obtain ⟨h1, hp, h2, h3⟩ := h
  have hr := RdAt.row ⟨h1, hp, h2, h3⟩
  rcases hp with rfl | rfl
  · refine (copyCheck_fresh R w (h1.cell 2) (by simp [World.shape?, show w.heap[R]? = _ from h1]) (h1.frozen 2)).mono ?_
    rintro e w' ⟨rfl, rfl⟩
    have gs := grown_set w R 2 (.pointer (some ⟨R, 2, none⟩))
    exact ⟨rfl, ⟨h1.set 2 _, .inr rfl, h2.kept gs (.inr hr), h3⟩, hT.other h1 (by decide) (by decide) gs, (Below.refl N w).setCell (p := ⟨R, 2, none⟩) hN _, fun q t cs ht _ hq => hq.kept gs (blk_ne hq h1 ht)⟩
  · refine (copyCheck_used R w (h1.cell 2)).mono ?_
    rintro e w' ⟨rfl, rfl⟩
    exact ⟨rfl, ⟨h1, .inr rfl, h2, h3⟩, hT, Below.refl N _, fun _ _ _ _ _ h => h⟩

set_option maxHeartbeats 2000000 in
set_option maxRecDepth 100000 in
theorem write36 (N R b n0 : Nat) (rs s : ByteArray) (p v : Value) (bs : List UInt8) (w : World) (hN : N ≤ R) (h : RdAt w N R b rs p v bs) (hT : TabAt w b n0) (hs0 : s.size ≠ 0) (hlen : bs.length + s.size ≤ 1099511627776) :
    Calls Try.prog 36 #[.pointer (some ⟨R, 2, none⟩), .string s] w fun e w' => (∃ u, e = .returned u) ∧ (∃ v', RdAt w' N R b rs (.pointer (some ⟨R, 2, none⟩)) v' (bs ++ s.data.toList)) ∧ TabAt w' b n0 ∧ Below N w w' ∧ (∀ q t cs, t ≠ 67 → t ≠ 5 → Blk w q t cs → Blk w' q t cs) := by
  obtain ⟨i0, hi, hz0, hz1, hz2⟩ := info_parts infoByte
  have HC := hid (copyCheck_any N R b n0 rs p v bs w hN h hT)
  clear h hT
  go_enter Try.func36, Try.ntmps36
  go_wp2_with (go_at_call 43; refine HC.out.mono ?_)
  rintro e w1 ⟨rfl, h1, hT1, hb1, hk1⟩
  have hrow := h1.row
  obtain ⟨hbk, _, hown, h0⟩ := h1
  have c2 : w1.cell? ⟨R, 2, none⟩ = some (.pointer (some ⟨R, 2, none⟩)) := hbk.cell 2
  have c3 : w1.cell? ⟨R, 3, none⟩ = some v := hbk.cell 3
  have hRlt := hbk.lt
  go_wp2_with (at_builtin; refine Lib.wpList_append_own_string _ rfl _ _ 63 9 rfl N 5 i0 Try.underlying63 Try.underlying9 hi hz0 hz1 hz2 _ _ _ rfl hown s rfl ?c0 ?c1 ?c2 ?_)
  case c0 => unfold maxLen; omega
  case c1 => omega
  case c2 => omega
  intro v' w2 hown' hgrow _
  have hb2 : Blk w2 R 67 #[.string rs, .pointer (some ⟨b, 0, none⟩), .pointer (some ⟨R, 2, none⟩), v] := hbk.kept hgrow (Ne.symm hrow)
  have hT2 : TabAt w2 b n0 := by
    rcases hown.2 with ⟨rfl, _⟩ | ⟨g, cap, cur, rfl, _, hg', _⟩
    · exact hT1.kept hgrow
    · exact hT1.other (q := g) (t := 5) (cs := cur) hg' (by decide) (by decide) hgrow
  have hk2 : ∀ q t cs, t ≠ 67 → t ≠ 5 → Blk w q t cs → Blk w2 q t cs := fun q t cs ht ht' hq => (hk1 q t cs ht ht' hq).kept hgrow (by
    rcases hown.2 with ⟨rfl, _⟩ | ⟨g, cap, cur, rfl, _, hg', _⟩
    · simp [Value.ownBlock]
    · exact blk_ne (t' := 5) (cs' := cur) (hk1 q t cs ht ht' hq) hg' ht')
  have HK2 := hid hk2
  clear hk1 hk2
  have d2 : w2.cell? ⟨R, 2, none⟩ = some (.pointer (some ⟨R, 2, none⟩)) := hb2.cell 2
  have d3 : w2.cell? ⟨R, 3, none⟩ = some v := hb2.cell 3
  have f3 := hb2.frozen 3
  have hB2 : Below N w w2 := hb1.grown hgrow (by omega) (fun k hk => (hown.lt k hk).1)
  obtain ⟨g, cap, rfl, hgN, _⟩ := hown'.form (by omega)
  have HF := hid (And.intro hb2 (And.intro hT2 (And.intro hB2 hown')))
  clear hb2 hT2 hB2 hT1 hb1 hown
  go_wp2
  go_ret2
  obtain ⟨hb2, hT2, hB2, hown'⟩ := HF.out
  have gs := grown_set w2 R 3 (.slice (some ⟨g, 0, none⟩) (bs.length + s.size) cap)
  have hgR : (Value.slice (some ⟨g, 0, none⟩) (bs.length + s.size) cap).ownBlock ≠ some R := fun e => by
    have : g = R := by simpa [Value.ownBlock] using e
    subst this
    rcases hown'.2 with ⟨h, _⟩ | ⟨g', cap', cur, hv, _, hg', _⟩
    · cases h
    · obtain ⟨rfl, rfl⟩ : g = g' ∧ cap = cap' := by simpa using hv
      have := hb2.symm.trans hg'; simp at this
  refine ⟨⟨_, rfl⟩, ⟨_, hb2.set 3 _, .inr rfl, ?_, ?_⟩, hT2.other hb2 (by decide) (by decide) gs, hB2.setCell (p := ⟨R, 3, none⟩) hN _, fun q t cs ht ht' hq => (HK2.out q t cs ht ht' hq).kept gs (blk_ne (HK2.out q t cs ht ht' hq) hb2 ht)⟩
  · have hl : (bs ++ s.data.toList).length = bs.length + s.size := by rw [List.length_append, Array.length_toList]; rfl
    rw [hl, Lib.byteCells_append, ← Lib.strCells_eq]
    exact hown'.kept gs (.inr hgR)
  · intro e
    have : s.data.toList = [] := (List.append_eq_nil_iff.1 e).2
    exact absurd (by have h := congrArg List.length this; rw [Array.length_toList] at h; exact h) hs0

set_option maxHeartbeats 2000000 in
set_option maxRecDepth 100000 in
theorem string35 (N R b : Nat) (rs : ByteArray) (p v : Value) (bs : List UInt8) (w : World) (h : RdAt w N R b rs p v bs) :
    Calls Try.prog 35 #[.pointer (some ⟨R, 2, none⟩)] w fun e w' => e = .returned (.string ⟨bs.toArray⟩) ∧ Below N w w' := by
  obtain ⟨hbk, _, hown, h0⟩ := h
  by_cases hb : bs = []
  · subst hb
    obtain rfl := h0 rfl
    have hUS : ∀ (W : World) (q : Option Addr), (Builtin.unsafeString_ #[85, 3] 9 #[.pointer q, .int .i64 0]).run Try.prog W = .ok (.string .empty) W := fun W q => Lib.run_unsafeString_none W _ _ _ q
    have c3 : w.drew.cell? ⟨R, 3, none⟩ = some (.slice none 0 0) := hbk.cell 3
    have hSD : (Builtin.unsafeSliceData_ #[63] 85 #[.slice none 0 0]).run Try.prog w.drew = .ok (.pointer none) w.drew := rfl
    go_enter Try.func35, Try.ntmps35
    go_wp2
    go_region
    all_goals (go_wp2; go_ret; exact ⟨rfl, Below.drew (Below.refl N w)⟩)
  · have hl0 : bs.length ≠ 0 := by simpa using hb
    obtain ⟨g, cap, cur, rfl, hbg, hg, hnc, hcm, hcs, htake⟩ : ∃ g cap cur, v = .slice (some ⟨g, 0, none⟩) bs.length cap ∧ N ≤ g ∧ w.heap[g]? = some (.cells cur 5 (0, 0)) ∧ bs.length ≤ cap ∧ cap ≤ maxLen ∧ cur.size = cap * 1 ∧ cur.toList.take (bs.length * 1) = Lib.byteCells bs := by
      rcases hown.2 with ⟨_, hz⟩ | ⟨g, cap, cur, hv, r⟩
      · exact absurd hz hl0
      · exact ⟨g, cap, cur, hv, r⟩
    have c3 : w.drew.cell? ⟨R, 3, none⟩ = some (.slice (some ⟨g, 0, none⟩) bs.length cap) := hbk.cell 3
    have hSD : (Builtin.unsafeSliceData_ #[63] 85 #[.slice (some ⟨g, 0, none⟩) bs.length cap]).run Try.prog w.drew = .ok (.pointer (some ⟨g, 0, none⟩)) w.drew := Lib.run_unsafeSliceData_row _ _ _ _ _ _ (by omega)
    have hUS : (Builtin.unsafeString_ #[85, 3] 9 #[.pointer (some ⟨g, 0, none⟩), .int .i64 bs.length]).run Try.prog w.drew = .ok (.string ⟨bs.toArray⟩) (w.drew.freeze ⟨g, 0, none⟩ bs.length) := by
      refine Lib.run_unsafeString_row w.drew 85 3 9 5 Try.underlying85 (by kernel_rfl) g cur.size (by have hg' : w.drew.heap[g]? = some (.cells cur 5 (0, 0)) := hg; simp [World.shape?, hg']) bs hb (by omega) (by unfold maxLen at hcm; omega) ?_
      intro j x hx
      exact hown.cells (g := g) rfl j (.int .u8 x.toNat) (by simp [Lib.byteCells, hx])
    have HN := hid hbg
    clear hown hg hcs htake hbg
    go_enter Try.func35, Try.ntmps35
    go_wp2
    go_region
    all_goals (go_wp2; go_ret; exact ⟨rfl, Lib.below_freeze (Below.drew (Below.refl N w)) (p := ⟨g, 0, none⟩) HN.out _⟩)
end Go.Proofs.Ytophclimlepjoaa
