/- bytes: the text of some pieces. -/
import Derived.Test.YtflkmdmceeefiaaDoorIter
import Derived.Test.YtflkmdmceeefiaaDoorBld
import Derived.Test.YtflkmdmceeefiaaDoorShelf
import Derived.StillTailTactics
import Derived.BigQuiet
namespace Go.Proofs.YtflkmdmceeefiaaDoor
open Go.RowKit Go.Shelf Go.Dia

theorem isBuilder_alloc {B b : Nat} {bs : List Value} {w : World} (h : Lib.IsBuilder 69 5 B b bs w) (o : Obj) : Lib.IsBuilder 69 5 B b bs (w.alloc o) := by
  have f : ∀ p, Lib.BuilderAt 69 5 B b p bs w → Lib.BuilderAt 69 5 B b p bs (w.alloc o) := by
    rintro p ⟨hB, v, hb, hown, hne⟩
    exact ⟨hB, v, Blk.alloc hb o, hown.alloc o, hne⟩
  exact h.imp (f _) (f _)

/-- the value holds the bytes, from a row's head on -/
def IsBytes (W : World) (v : Value) (l : List UInt8) : Prop := W.ownsRow 0 5 1 v l.length (Lib.byteCells l)

theorem IsBytes.form {W : World} {v : Value} {l : List UInt8} (h : IsBytes W v l) (hnn : v ≠ .slice none 0 0) :
    ∃ g cap, v = .slice (some ⟨g, 0, none⟩) l.length cap ∧ g < W.heap.size ∧ l.length ≤ cap ∧ cap ≤ maxLen ∧ ∀ j (h : j < l.length), W.cell? ⟨g, j, none⟩ = some (.int .u8 l[j].toNat) := by
  obtain ⟨_, ⟨rfl, h0⟩ | ⟨g, cap, cur, rfl, _, hg, hn, hm, hs, ht⟩⟩ := h
  · exact absurd rfl hnn
  · refine ⟨g, cap, rfl, (Array.getElem?_eq_some_iff.1 hg).1, hn, hm, fun j hj => ?_⟩
    have hc : (Lib.byteCells l)[j]? = some (.int .u8 l[j].toNat) := by simp [Lib.byteCells, hj]
    rw [← ht, List.getElem?_take, if_pos (by omega), Array.getElem?_toList] at hc
    simp only [World.cell?, hg]
    exact hc

set_option maxRecDepth 100000 in
set_option maxHeartbeats 4000000 in
theorem bytes_row (w : World) (Bb g cap b capb : Nat) (laid : List UInt8) (ps : List Pc) (hBb : Bb < w.heap.size) (hg : g < w.heap.size) (hb : b < w.heap.size)
    (hcap : laid.length ≤ cap)
    (hcb : w.cell? ⟨Bb, 0, none⟩ = some (.slice (some ⟨g, 0, none⟩) laid.length cap))
    (hcg : ∀ j (h : j < laid.length), w.cell? ⟨g, j, none⟩ = some (.int .u8 laid[j].toNat))
    (hc : ∀ j (h : j < ps.length), w.cell? ⟨b, j * 2, none⟩ = some (.int .i64 (ps[j].1.1 : Int)) ∧ w.cell? ⟨b, j * 2 + 1, none⟩ = some (.int .i64 (ps[j].1.2 : Int)))
    (hlen : ps.length ≤ 1048576) (hv : Valid laid.length ps) (htot : total ps ≤ 1099511627776) :
    Calls Tryd.prog 28 #[.pointer (some ⟨Bb, 0, none⟩), .slice (some ⟨b, 0, none⟩) ps.length capb] w fun e W' => e = .returned (.string ⟨(textOf laid ps).toArray⟩) ∧ Below w.heap.size w W' := by
  go_enter Tryd.func28, Tryd.ntmps28
  go_wp2
  go_loopw [10] (fun i wr => ∃ k : Nat, k ≤ ps.length ∧ i = .int .i64 k ∧ Lib.IsBuilder 69 5 w.heap.size w.heap.size (Lib.byteCells (textOf laid (ps.take k))) wr ∧ Below w.heap.size w wr)
    (fun i _ => ps.length - (intOf i).toNat)
  case atStart => exact ⟨0, Nat.zero_le _, rfl, Lib.fresh_isBuilder 69 5 w, (Below.refl _ w).alloc (Nat.le_refl _) _⟩
  case round =>
    obtain ⟨k, hk, rfl, hI, hB⟩ := hrel
    by_cases hlt : k < ps.length
    · have h1 := (hB.cell (p := ⟨b, k * 2, none⟩) hb).trans (hc k hlt).1
      have h2 := (hB.cell (p := ⟨b, k * 2 + 1, none⟩) hb).trans (hc k hlt).2
      have h3 := (hB.cell (p := ⟨Bb, 0, none⟩) hBb).trans hcb
      have hvx := hv _ (List.getElem_mem hlt)
      have hwz := hB.size
      have hpo : ps[k].1.1 + ps[k].1.2 ≤ 1099511627776 := ps[k].2
      have HG : Hid (∀ j (h : j < laid.length), wr.cell? ⟨g, j, none⟩ = some (.int .u8 laid[j].toNat)) := hid fun j h => (hB.cell (p := ⟨g, j, none⟩) hg).trans (hcg j h)
      have HT : Hid (textOf laid (ps.take (k + 1)) = textOf laid (ps.take k) ++ (laid.drop ps[k].1.1).take ps[k].1.2) := hid (by rw [List.take_succ_eq_append_getElem hlt, textOf_append, textOf_cons]; simp [textOf])
      have HL : Hid ((textOf laid (ps.take k)).length ≤ 1099511627776) := hid (by
        rw [textOf_length _ _ (fun y hy => hv y (List.mem_of_mem_take hy))]
        have h4 : total (ps.take k) + total (ps.drop k) = total ps := by rw [← total_append, List.take_append_drop]
        omega)
      obtain ⟨fr, hfr⟩ : ∃ fr, ps[k].1.1 = fr := ⟨_, rfl⟩
      obtain ⟨nn, hnn⟩ : ∃ nn, ps[k].1.2 = nn := ⟨_, rfl⟩
      rw [hfr] at h1 hvx HT hpo
      rw [hnn] at h2 hvx HT hpo
      clear hfr hnn
      have hmx : maxLen ≤ 9223372036854775807 := by unfold maxLen; omega
      go_wp2
      have bX := Blk.new wr 54 #[.int .i64 (fr : Int), .int .i64 (nn : Int)]
      have hB1 := hB.alloc (w := wr) hwz (.cells #[.int .i64 (fr : Int), .int .i64 (nn : Int)] 54)
      have hI1 : Lib.IsBuilder 69 5 w.heap.size w.heap.size (Lib.byteCells (textOf laid (ps.take k))) (wr.alloc (.cells #[.int .i64 (fr : Int), .int .i64 (nn : Int)] 54)) := isBuilder_alloc hI _
      have h3' := (hB1.cell (p := ⟨Bb, 0, none⟩) hBb).trans hcb
      have HG' : Hid (∀ j (h : j < laid.length), (wr.alloc (.cells #[.int .i64 (fr : Int), .int .i64 (nn : Int)] 54)).cell? ⟨g, j, none⟩ = some (.int .u8 laid[j].toNat)) := hid fun j h => (hB1.cell (p := ⟨g, j, none⟩) hg).trans (hcg j h)
      have hsz1 : wr.heap.size < (wr.alloc (.cells #[.int .i64 (fr : Int), .int .i64 (nn : Int)] 54)).heap.size := by simp
      clear h1 h2 h3 HG hI
      obtain ⟨xb, hxb⟩ : ∃ xb, wr.heap.size = xb := ⟨_, rfl⟩
      obtain ⟨W1, hW1⟩ : ∃ W1, wr.alloc (.cells #[.int .i64 (fr : Int), .int .i64 (nn : Int)] 54) = W1 := ⟨_, rfl⟩
      rw [hW1] at bX hB1 hI1 h3' HG' hsz1 ⊢
      rw [hxb] at bX hsz1 hwz ⊢
      clear hW1 hxb hB
      have cX0 : W1.drew.cell? ⟨xb, 0, none⟩ = some (.int .i64 (fr : Int)) := bX.cell 0
      have cX1 : W1.drew.cell? ⟨xb, 1, none⟩ = some (.int .i64 (nn : Int)) := bX.cell 1
      have h3d : W1.drew.cell? ⟨Bb, 0, none⟩ = some (.slice (some ⟨g, 0, none⟩) laid.length cap) := h3'
      refine wp_region_still_tail 17 (by kernel_rfl) (by kernel_rfl) ?_
      simp only [List.take_succ_cons, List.take_zero, List.drop_succ_cons, List.drop_zero]
      have hI2 : Lib.IsBuilder 69 5 w.heap.size w.heap.size (Lib.byteCells (textOf laid (ps.take k))) W1.drew := hI1.imp (fun h => h) (fun h => h)
      have hwd : w.heap.size ≤ W1.drew.heap.size := by show _ ≤ W1.heap.size; omega
      by_cases hn0 : nn = 0
      · subst hn0
        have HC : Hid (∀ j u, (Lib.byteCells ((laid.drop fr).take 0))[j]? = some u → W1.drew.cell? ((⟨g, 0, none⟩ : Addr).add j) = some u) := hid fun j u hj => by simp [Lib.byteCells] at hj
        have HN : Hid ((Lib.byteCells ((laid.drop fr).take 0)).length = 0) := hid (by simp [Lib.byteCells])
        have hone : ∀ u ∈ Lib.byteCells ((laid.drop fr).take 0), u.oneCell' = true := by intro u hu; simp [Lib.byteCells] at hu
        have hw1 : IntKind.i64.wrap (fr : Int) = fr := IntWalk.i64_in _ (by omega)
        have hfc : (fr : Int) ≤ (cap : Int) := by omega
        have hf0 : (0 : Int) ≤ (fr : Int) := by omega
        change wpStill _ _ W1.drew _ _ _
        repeat still_step
        try refine wpStill_nil ?_
        change wpList _ _ _ _ _ W1.drew
        clear hw1 hfc hf0
        go_wp2_with (go_at_call 32; refine (write_any w.heap.size w.heap.size _ ⟨g, 0, none⟩ 0 0 (Lib.byteCells ((laid.drop fr).take 0)) _ hI2 HN.out HC.out hone hg (by have := HL.out; rw [Lib.byteCells_length]; omega) hwd).mono ?_; rintro e w1 ⟨rfl, hbd, hbl⟩)
        go_roundw
        case rel => exact ⟨k + 1, by omega, by go_num, by rw [HT.out, Lib.byteCells_append]; exact .inr hbd, hB1.drew.trans hbl⟩
        case measure => simp [intOf]; omega
      · have HC : Hid (∀ j u, (Lib.byteCells ((laid.drop fr).take nn))[j]? = some u → W1.drew.cell? ((⟨g, fr, none⟩ : Addr).add j) = some u) := hid fun j u hj => by
          have hadd : (⟨g, fr, none⟩ : Addr).add j = ⟨g, fr + j, none⟩ := by unfold Addr.add; split <;> simp_all
          rw [hadd]
          simp only [Lib.byteCells, List.getElem?_map, List.getElem?_take, List.getElem?_drop] at hj
          split at hj
          · have hlt2 : fr + j < laid.length := by omega
            rw [List.getElem?_eq_getElem hlt2] at hj
            simp only [Option.map_some, Option.some.injEq] at hj
            rw [← hj]
            exact HG'.out (fr + j) hlt2
          · cases hj
        have HN : Hid ((Lib.byteCells ((laid.drop fr).take nn)).length = nn) := hid (by rw [Lib.byteCells_length, List.length_take, List.length_drop]; omega)
        have hone : ∀ u ∈ Lib.byteCells ((laid.drop fr).take nn), u.oneCell' = true := by intro u hu; simp only [Lib.byteCells, List.mem_map] at hu; obtain ⟨y, _, rfl⟩ := hu; rfl
        have hw1 : IntKind.i64.wrap ((fr : Int) + (nn : Int)) = (fr : Int) + nn := IntWalk.i64_in _ (by omega)
        have hfc : (fr : Int) + nn ≤ (cap : Int) := by omega
        have hf0 : (0 : Int) ≤ (fr : Int) + nn := by omega
        have hf1 : (fr : Int) ≤ (fr : Int) + nn := by omega
        have hf2 : ((fr : Int) + nn).toNat = fr + nn := by omega
        change wpStill _ _ W1.drew _ _ _
        repeat still_step
        try refine wpStill_nil ?_
        change wpList _ _ _ _ _ W1.drew
        clear hw1 hfc hf0 hf1 hf2
        go_wp2_with (go_at_call 32; refine (write_any w.heap.size w.heap.size _ ⟨g, fr, none⟩ nn nn (Lib.byteCells ((laid.drop fr).take nn)) _ hI2 HN.out HC.out hone hg (by have := HL.out; rw [Lib.byteCells_length]; omega) hwd).mono ?_; rintro e w1 ⟨rfl, hbd, hbl⟩)
        go_roundw
        case rel => exact ⟨k + 1, by omega, by go_num, by rw [HT.out, Lib.byteCells_append]; exact .inr hbd, hB1.drew.trans hbl⟩
        case measure => simp [intOf]; omega
    · obtain rfl : k = ps.length := by omega
      rw [List.take_length] at hI
      have hwz := hB.size
      go_wp2_with (go_at_call 33; refine (Tryd.Builder_String_any w.heap.size w.heap.size (textOf laid ps) _ hI hwz).mono ?_; rintro e w1 ⟨rfl, hbl⟩)
      go_ret
      exact ⟨rfl, hB.trans hbl⟩

set_option maxRecDepth 100000 in
set_option maxHeartbeats 4000000 in
theorem bytes_nil (w : World) (Bb : Nat) :
    Calls Tryd.prog 28 #[.pointer (some ⟨Bb, 0, none⟩), .slice none 0 0] w fun e W' => e = .returned (.string ⟨(#[] : Array UInt8)⟩) ∧ Below w.heap.size w W' := by
  go_enter Tryd.func28, Tryd.ntmps28
  go_wp2
  go_loopw [10] (fun i wr => i = .int .i64 0 ∧ Lib.IsBuilder 69 5 w.heap.size w.heap.size (Lib.byteCells []) wr ∧ Below w.heap.size w wr) (fun _ _ => 0)
  case atStart => exact ⟨rfl, Lib.fresh_isBuilder 69 5 w, (Below.refl _ w).alloc (Nat.le_refl _) _⟩
  case round =>
    obtain ⟨rfl, hI, hB⟩ := hrel
    have hwz := hB.size
    go_wp2_with (go_at_call 33; refine (Tryd.Builder_String_any w.heap.size w.heap.size [] _ hI hwz).mono ?_; rintro e w1 ⟨rfl, hbl⟩)
    go_ret
    exact ⟨rfl, hB.trans hbl⟩

/-- the bytes of some pieces, nil or not -/
theorem bytes_any (w : World) (Bb : Nat) (vl vp : Value) (laid : List UInt8) (ps : List Pc) (hBb : Bb < w.heap.size) (hcb : w.cell? ⟨Bb, 0, none⟩ = some vl) (hl : IsBytes w vl laid) (hp : IsPcs w vp ps)
    (hnn : vl ≠ .slice none 0 0) (hlen : ps.length ≤ 1048576) (hv : Valid laid.length ps) (htot : total ps ≤ 1099511627776) :
    Calls Tryd.prog 28 #[.pointer (some ⟨Bb, 0, none⟩), vp] w fun e W' => e = .returned (.string ⟨(textOf laid ps).toArray⟩) ∧ Below w.heap.size w W' := by
  rcases hp.form with ⟨rfl, rfl⟩ | ⟨b, capb, rfl, hb, _, _, hc⟩
  · exact bytes_nil w Bb
  · obtain ⟨g, cap, rfl, hg, hgc, _, hcg⟩ := hl.form hnn
    exact bytes_row w Bb g cap b capb laid ps hBb hg hb hgc hcb hcg hc hlen hv htot
end Go.Proofs.YtflkmdmceeefiaaDoor
