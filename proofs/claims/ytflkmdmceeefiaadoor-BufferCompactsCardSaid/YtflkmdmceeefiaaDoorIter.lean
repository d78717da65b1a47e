/- The iterator over the pieces that are not empty yields just those, in order. -/
import Derived.Test.YtflkmdmceeefiaaDoorBase
import Derived.Test.YtflkmdmceeefiaaDoorPlain
import Derived.Test.YtflkmdmceeefiaaDoorProg
namespace Go.Proofs.YtflkmdmceeefiaaDoor
open Go.RowKit Go.Shelf Go.Dia
attribute [local go_sem] Oper.semAt_some

set_option maxRecDepth 100000 in
set_option maxHeartbeats 2000000 in
theorem all1_in (F : Fence) (n : Nat) (h34 : F.fn 34) (hro : F.round = none) (hn : 1 ≤ n) (l Bp n₀ b Bb cap : Nat) (ps : List Pc) (hlen : ps.length ≤ 1099511627776) (hb : b < n₀) (J Jx : List Pc → World → Prop)
    (W : World) (hn₀ : n₀ ≤ W.heap.size) (hJal : ∀ pre A o, J pre A → J pre (A.alloc o))
    (hY : ∀ pre x W, J pre W → pre.length < ps.length → YieldAt F (n - 1) Tryd.prog l #[.agg #[.int .i64 (x.1.1 : Int), .int .i64 (x.1.2 : Int)]] W fun e W' =>
      (e = .returned (.bool true) ∧ J (pre ++ [x]) W' ∧ Below n₀ W W') ∨ (e = .returned (.bool false) ∧ Jx (pre ++ [x]) W'))
    (hBp : W.cell? ⟨Bp, 0, none⟩ = some (.pointer (some ⟨Bb, 0, none⟩))) (hBb : W.cell? ⟨Bb, 1, none⟩ = some (.slice (some ⟨b, 0, none⟩) ps.length cap))
    (hc : ∀ j (h : j < ps.length), W.cell? ⟨b, j * 2, none⟩ = some (.int .i64 (ps[j].1.1 : Int)) ∧ W.cell? ⟨b, j * 2 + 1, none⟩ = some (.int .i64 (ps[j].1.2 : Int))) (h0 : J [] W) :
    CallsIn F n Tryd.prog 34 #[.func (.yield l) #[] #[], .pointer (some ⟨Bp, 0, none⟩)] W fun e W' => (∃ v, e = .returned v) ∧
      ((∃ ys, ys = full ps ∧ J ys W') ∨ (∃ pre, pre <+: full ps ∧ Jx pre W')) := by
  refine callsIn_of_wp Tryd.func34 rfl h34 ?_ hro
  simp only [Tryd.ntmps34, List.size_toArray, List.length_cons, List.length_nil, Nat.reduceAdd, Nat.reduceSub, Array.replicate_succ, Array.replicate_zero, List.push_toArray, List.append_toArray, List.nil_append, List.cons_append]
  gi_wp2
  refine wpIn_scope_straight ?_
  refine wpIn_seq (wpIn_label ?_)
  gi_wp2
  gi_loopw [10, 4, 12, 13, 14, 15, 16, 17, 18, 19, 20, 21, 22, 23, 24, 25] (fun i _ _ _ _ _ _ _ _ _ _ _ _ _ _ _ wr => ∃ k : Nat, k ≤ ps.length ∧ i = .int .i64 k ∧ J (full (ps.take k)) wr ∧ Below n₀ W wr)
    (fun i _ _ _ _ _ _ _ _ _ _ _ _ _ _ _ _ => ps.length - (intOf i).toNat)
  case atStart => exact ⟨0, Nat.zero_le _, rfl, h0, Below.refl _ _⟩
  case round =>
    obtain ⟨k, hk, rfl, hJs, hnx⟩ := hrel
    by_cases hlt : k < ps.length
    · have h1 := (hnx.cell (p := ⟨b, k * 2, none⟩) hb).trans (hc k hlt).1
      have h2 := (hnx.cell (p := ⟨b, k * 2 + 1, none⟩) hb).trans (hc k hlt).2
      have hJ2 := hJal _ _ (.cells #[.int .i64 (ps[k].1.1 : Int), .int .i64 (ps[k].1.2 : Int)] 54) hJs
      have hB2 : Below n₀ wr (wr.alloc (.cells #[.int .i64 (ps[k].1.1 : Int), .int .i64 (ps[k].1.2 : Int)] 54)) := (Below.refl _ _).alloc (by have := hnx.size; omega) _
      have hfl : (full (ps.take k)).length ≤ k := Nat.le_trans (List.length_filter_le _ _) (by rw [List.length_take]; omega)
      by_cases hz : ps[k].1.2 = 0
      · have hz' : (ps[k].1.2 : Int) = 0 := by omega
        have HF : Hid (full (ps.take (k + 1)) = full (ps.take k)) := hid (by rw [full_take_succ ps k hlt, if_pos hz])
        rw [hz'] at h2 hJ2 hB2
        clear hz hz'
        gi_wp2
        refine ⟨fun _ h => (by cases h), ?_⟩
        gi_wp2
        go_roundw
        case rel => exact ⟨k + 1, by omega, by go_num, by rw [HF.out]; exact hJ2, hnx.trans hB2⟩
        case measure => simp [intOf]; omega
      · have hz' : (ps[k].1.2 : Int) ≠ 0 := by omega
        have hz2 : (((ps[k].1.2 : Int)) == 0) = false := by simpa using hz
        have HF : Hid (full (ps.take (k + 1)) = full (ps.take k) ++ [ps[k]]) := hid (by rw [full_take_succ ps k hlt, if_neg hz])
        have HP : Hid (full (ps.take k) ++ [ps[k]] <+: full ps) := by
          have h3 := full_prefix ps (k + 1)
          rw [HF.out] at h3; exact h3
        obtain ⟨fn, tmps, assign, body, hy, hR⟩ := hY _ ps[k] _ hJ2 (by omega)
        gi_wp2
        refine hR.mono ?_
        rintro e W3 (⟨rfl, hJ3, hk3⟩ | ⟨rfl, hJx3⟩)
        · gi_wp2
          go_roundw
          case rel => exact ⟨k + 1, by omega, by go_num, by rw [HF.out]; exact hJ3, (hnx.trans hB2).trans hk3⟩
          case measure => simp [intOf]; omega
        · gi_wp2
          rw [Exit.noGoto_normal]
          go_end0
          exact ⟨⟨_, rfl⟩, .inr ⟨_, HP.out, hJx3⟩⟩
    · obtain rfl : k = ps.length := by omega
      gi_wp2
      rw [Exit.noGoto_normal]
      go_end0
      exact ⟨⟨_, rfl⟩, .inl ⟨_, rfl, by simpa using hJs⟩⟩

/-- the cells of some pieces -/
def cellsOf : List Pc → List Value
  | [] => []
  | x :: l => .int .i64 (x.1.1 : Int) :: .int .i64 (x.1.2 : Int) :: cellsOf l
theorem cellsOf_length (ps : List Pc) : (cellsOf ps).length = ps.length * 2 := by
  induction ps with
  | nil => rfl
  | cons x l ih => simp [cellsOf, ih]; omega
theorem cellsOf_append (a b : List Pc) : cellsOf (a ++ b) = cellsOf a ++ cellsOf b := by
  induction a with
  | nil => rfl
  | cons x l ih => simp [cellsOf, ih]
theorem cellsOf_get (ps : List Pc) : ∀ j (h : j < ps.length), (cellsOf ps)[j * 2]? = some (.int .i64 (ps[j].1.1 : Int)) ∧ (cellsOf ps)[j * 2 + 1]? = some (.int .i64 (ps[j].1.2 : Int)) := by
  induction ps with
  | nil => intro j h; simp at h
  | cons x l ih =>
    intro j h
    cases j with
    | zero => simp [cellsOf]
    | succ j =>
      have := ih j (by simpa using h)
      rw [show (j + 1) * 2 = j * 2 + 1 + 1 by omega]
      simpa [cellsOf] using this

/-- the value holds the pieces -/
def IsPcs (W : World) (v : Value) (ps : List Pc) : Prop := W.ownsRow 0 54 2 v ps.length (cellsOf ps)
theorem IsPcs.form {W : World} {v : Value} {ps : List Pc} (h : IsPcs W v ps) : (v = .slice none 0 0 ∧ ps = []) ∨
    ∃ b cap, v = .slice (some ⟨b, 0, none⟩) ps.length cap ∧ b < W.heap.size ∧ ps.length ≤ cap ∧ cap ≤ maxLen ∧
      ∀ j (h : j < ps.length), W.cell? ⟨b, j * 2, none⟩ = some (.int .i64 (ps[j].1.1 : Int)) ∧ W.cell? ⟨b, j * 2 + 1, none⟩ = some (.int .i64 (ps[j].1.2 : Int)) := by
  obtain ⟨_, ⟨rfl, h0⟩ | ⟨g, cap, cur, rfl, _, hg, hn, hm, hs, ht⟩⟩ := h
  · exact .inl ⟨rfl, List.eq_nil_of_length_eq_zero h0⟩
  · refine .inr ⟨g, cap, rfl, (Array.getElem?_eq_some_iff.1 hg).1, hn, hm, fun j hj => ?_⟩
    have hc := cellsOf_get ps j hj
    have hl := cellsOf_length ps
    rw [← ht] at hc
    rw [List.getElem?_take, List.getElem?_take, if_pos (by omega), if_pos (by omega)] at hc
    simp only [Array.getElem?_toList] at hc
    exact ⟨by simp only [World.cell?, hg]; exact hc.1, by simp only [World.cell?, hg]; exact hc.2⟩

set_option maxHeartbeats 1000000 in
theorem all_in (F : Fence) (n : Nat) (h : F.fn 29) (hro : F.round = none) (p : Option Addr) (w : World) :
    CallsIn F n Tryd.prog 29 #[.pointer p] w fun e w' => e = .returned (.func (.func 34) #[] #[.pointer (some ⟨w.heap.size, 0, none⟩)]) ∧ w' = w.alloc (.cells #[.pointer p] 64) := by
  refine callsIn_of_wp Tryd.func29 rfl h ?_ hro
  simp only [Tryd.ntmps29, List.size_toArray, List.length_cons, List.length_nil, Nat.reduceAdd, Nat.reduceSub, Array.replicate_succ, Array.replicate_zero, List.push_toArray, List.append_toArray, List.nil_append, List.cons_append]
  gi_wp2
  go_ret
  exact ⟨rfl, rfl⟩

/-- the iterator's contract: 'n₀': the heap's size when the buffer is read -/
theorem all_stops (F : Fence) (n : Nat) (h34 : F.fn 34) (hro : F.round = none) (hn : 1 ≤ n) (Bp n₀ b Bb cap : Nat) (ps : List Pc) (hlen : ps.length ≤ 1099511627776) (hb : b < n₀) (hBb : Bb < n₀) (w : World) (hBp : Bp < w.heap.size) (hn₀ : n₀ ≤ w.heap.size)
    (hcp : w.cell? ⟨Bp, 0, none⟩ = some (.pointer (some ⟨Bb, 0, none⟩))) (hcb : w.cell? ⟨Bb, 1, none⟩ = some (.slice (some ⟨b, 0, none⟩) ps.length cap))
    (hc : ∀ j (h : j < ps.length), w.cell? ⟨b, j * 2, none⟩ = some (.int .i64 (ps[j].1.1 : Int)) ∧ w.cell? ⟨b, j * 2 + 1, none⟩ = some (.int .i64 (ps[j].1.2 : Int))) :
    SeqStopsK F n Tryd.prog 34 #[.pointer (some ⟨Bp, 0, none⟩)] (fun x : Pc => #[Value.agg #[.int .i64 (x.1.1 : Int), .int .i64 (x.1.2 : Int)]]) (Below n₀) (fun ys => ys = full ps) (fun pre => pre <+: full ps) ps.length w := fun l J Jx W hW hJ _ hY h0 =>
  all1_in F n h34 hro hn l Bp n₀ b Bb cap ps hlen hb J Jx W (Nat.le_trans hn₀ hW.size) (fun pre A o h => hJ pre A _ none h (World.grownBy_alloc A o none) (fun r e => by cases e)) hY
    ((hW.cell (p := ⟨Bp, 0, none⟩) hBp).trans hcp) ((hW.cell (p := ⟨Bb, 1, none⟩) (by show Bb < _; omega)).trans hcb)
    (fun j h => ⟨(hW.cell (p := ⟨b, j * 2, none⟩) (by show b < _; omega)).trans (hc j h).1, (hW.cell (p := ⟨b, j * 2 + 1, none⟩) (by show b < _; omega)).trans (hc j h).2⟩) h0

end Go.Proofs.YtflkmdmceeefiaaDoor
