/- slices.Concat of slices of pieces. -/
import Derived.Test.YtflkmdmceeefiaaDoorLay
import Derived.Laws.AppendOwnNone
namespace Go.Proofs.YtflkmdmceeefiaaDoor
open Go.RowKit Go.Shelf Go.Dia

theorem infoPc' : (Tryd.prog.info? 54).map (fun i => (i.zero, i.size, i.bytes)) = some (some (.agg #[.int .i64 0, .int .i64 0]), 2, 16) := by kernel_rfl

/-- append(s, make([]E, n)...) at a nil slice -/
theorem run_append_make (w : World) (ty : TypeId) (n : Nat) (h0 : 0 < n) (hn : n ≤ 1099511627776) :
    ∃ cap cells, (Builtin.append_ #[48, 3] ty #[.slice none 0 0, .int .i64 (n : Int)]).run Tryd.prog w = .ok (.slice (some ⟨w.heap.size, 0, none⟩) n cap) (w.drew.alloc (.cells cells 54)) ∧ n ≤ cap ∧ cap ≤ maxLen ∧ cells.size = cap * 2 := by
  obtain ⟨i, hi, hz0, hz1, hz2⟩ := info_parts infoPc'
  have hn' : n ≠ 0 := by omega
  have h63' : ¬ (9223372036854775807 < (n : Int)) := by omega
  have h48' : ¬ (281474976710656 < Builtin.nextslicecap n 0 * i.bytes) := by rw [nextslicecap_zero h0, hz2]; omega
  have hw : IntKind.i64.wrap (n : Int) = n := by rw [IntKind.wrap_i64]; omega
  have hneg : ¬ ((n : Int) < 0) := by omega
  have hbig : ¬ (281474976710656 < (n : Int) * 16) := by omega
  have hn2 : ¬ (n * 2 = 0) := by omega
  refine ⟨grownCap w n 0 54, Builtin.zeroCells #[.int .i64 0, .int .i64 0] n ++ Builtin.zeroCells #[.int .i64 0, .int .i64 0] (grownCap w n 0 54 - n), ?_, grownCap_ge w n 0 54, grownCap_le_maxLen w n 0 54 (by unfold maxLen; omega), ?_⟩
  · simp [Builtin.append_, run_underlying Tryd.underlying48, run_underlying Tryd.underlying3, sizeOf, typeInfo, zeroValue, hi, hz0, hz1, hz2, hn', h63', Question.forced, run_firstCells_none, newRow, grownCap, hw, hneg, hbig, asInt, asIntOf, hn2, Value.cells]
    intro h
    rw [hz2] at h48'
    omega
  · have := grownCap_ge w n 0 54
    rw [Array.size_append, size_zeroCells, size_zeroCells]
    simp
    omega

theorem wpList_append_make {w : World} {ops : Array Oper} {rest : List Oper} {o : Oper} {a : Act} {Q : Exit → Act → World → Prop} (hgd : o.guard = none) (s x : Operand)
    (ho : o.op = .call { callee := .builtin .append, args := #[s, x], argTypes := #[48, 3] }) (n : Nat) (h0 : 0 < n) (hn : n ≤ 1099511627776) (hs : a.eval s = .slice none 0 0) (hx : a.eval x = .int .i64 (n : Int))
    (h : ∀ cap cells, n ≤ cap → cap ≤ maxLen → Hid (cells.size = cap * 2) → wpList Tryd.prog ops Q rest (a.put o.dst (.slice (some ⟨w.heap.size, 0, none⟩) n cap)) (w.alloc (.cells cells 54)).drew) : wpList Tryd.prog ops Q (o :: rest) a w := by
  refine wpList_plain hgd fun K hK => ?_
  obtain ⟨cap, cells, hrun, h1, h2, h3⟩ := run_append_make w o.type n h0 hn
  unfold Oper.wp
  simp [execOp, ho, resolve, invoke, builtin, hs, hx, hrun, Result.andThen]
  exact hK _ _ (h cap cells h1 h2 (hid h3))

set_option maxRecDepth 100000 in
set_option maxHeartbeats 4000000 in
/-- slices.Grow(nil, n) -/
theorem grow_any (w : World) (n : Nat) (hn : n ≤ 1099511627776) :
    Calls Tryd.prog 31 #[.slice none 0 0, .int .i64 (n : Int)] w fun e W' => ∃ v, e = .returned v ∧ W'.ownsRow w.heap.size 54 2 v 0 [] ∧ Below w.heap.size w W' := by
  by_cases h0 : n = 0
  · subst h0
    go_enter Tryd.func31, Tryd.ntmps31
    go_wp2
    go_ret
    exact ⟨_, rfl, World.ownsRow_nil _ _ _ _, Below.refl _ _⟩
  · have h1 : (0 : Int) < (n : Int) := by omega
    go_enter Tryd.func31, Tryd.ntmps31
    go_wp2_with (at_builtin; refine wpList_append_make rfl _ _ rfl n (by omega) hn rfl rfl ?_; intro cap cells hc1 hc2 HC)
    go_ret
    refine ⟨_, rfl, ⟨rfl, .inr ⟨w.heap.size, cap, cells, rfl, Nat.le_refl _, World.alloc_heap_new w _, Nat.zero_le _, hc2, HC.out, by simp⟩⟩, ((Below.refl _ w).alloc (Nat.le_refl _) _).drew⟩

theorem cellsOf_one (ps : List Pc) : ∀ u ∈ cellsOf ps, u.oneCell' = true := by
  induction ps with
  | nil => simp [cellsOf]
  | cons x l ih => intro u hu; simp only [cellsOf, List.mem_cons] at hu; rcases hu with rfl | rfl | hu <;> first | rfl | exact ih u hu

/-- how many pieces some lists have -/
def flat (pss : List (List Pc)) : List Pc := pss.flatten
theorem flat_take_succ (pss : List (List Pc)) (k : Nat) (h : k < pss.length) : flat (pss.take (k + 1)) = flat (pss.take k) ++ pss[k] := by
  unfold flat; rw [List.take_succ_eq_append_getElem h, List.flatten_append]; simp
theorem flat_take_le (pss : List (List Pc)) (k : Nat) : (flat (pss.take k)).length ≤ (flat pss).length := by
  unfold flat
  conv => rhs; rw [← List.take_append_drop k pss, List.flatten_append, List.length_append]
  omega

set_option maxRecDepth 100000 in
set_option maxHeartbeats 4000000 in
/-- slices.Concat -/
theorem concat_any (w : World) (g cap : Nat) (vs : List Value) (pss : List (List Pc)) (hl : vs.length = pss.length) (hg : g < w.heap.size) (hcap : vs.length ≤ 1000)
    (hcells : ∀ j (h : j < vs.length), w.cell? ⟨g, j, none⟩ = some vs[j]) (hp : ∀ j (h : j < vs.length), IsPcs w vs[j] (pss[j]'(hl ▸ h))) (htot : (flat pss).length ≤ 1048576) :
    Calls Tryd.prog 27 #[.slice (some ⟨g, 0, none⟩) vs.length cap] w fun e W' => ∃ v, e = .returned v ∧ W'.ownsRow w.heap.size 54 2 v (flat pss).length (cellsOf (flat pss)) ∧ Below w.heap.size w W' := by
  obtain ⟨i0, hi, hz0, hz1, hz2⟩ := info_parts infoPc'
  obtain ⟨n, hn⟩ : ∃ n, vs.length = n := ⟨_, rfl⟩
  have HN : Hid (vs.length = n) := hid hn
  have HP : Hid (∀ k, k < n → ∃ a c, ∃ hk : k < pss.length, w.cell? ⟨g, k, none⟩ = some (.slice a pss[k].length c) ∧ IsPcs w (.slice a pss[k].length c) pss[k]) := hid fun k hk => by
    have h1 : k < vs.length := by omega
    have h2 := hp k h1
    have h3 := hcells k h1
    rcases h2.form with ⟨e1, e2⟩ | ⟨b, c, e1, _⟩
    · rw [e1] at h2 h3
      exact ⟨none, 0, by omega, by rw [h3, e2]; rfl, by rw [show (pss[k]).length = 0 by rw [e2]; rfl]; exact h2⟩
    · rw [e1] at h2 h3
      exact ⟨_, c, by omega, h3, h2⟩
  rw [hn]
  rw [hn] at hcap
  clear hn hcells hp
  have HL : Hid (n = pss.length) := hid (by rw [← HN.out, hl])
  clear hl HN
  go_enter Tryd.func27, Tryd.ntmps27
  go_wp2
  go_loop [3, 11] (fun s i => ∃ k : Nat, k ≤ n ∧ i = .int .i64 k ∧ s = .int .i64 ((flat (pss.take k)).length : Int)) (fun _ i => n - (intOf i).toNat)
  case atStart => exact ⟨0, Nat.zero_le _, rfl, rfl⟩
  case round =>
    obtain ⟨k, hk, rfl, rfl⟩ := hrel
    by_cases hlt : k < n
    · obtain ⟨a, c, hkl, hcell, _⟩ := HP.out k hlt
      have hts : Hid (((flat (pss.take (k + 1))).length : Int) = ((flat (pss.take k)).length : Int) + (pss[k].length : Int)) := hid (by rw [flat_take_succ pss k hkl]; simp)
      have h4 := flat_take_le pss (k + 1)
      have h5 : (flat (pss.take k)).length + pss[k].length ≤ 1048576 := by have := hts.out; omega
      clear h4
      go_wp2
      go_round
      case rel => exact ⟨k + 1, by omega, by go_num, by rw [hts.out]⟩
      case measure => simp [intOf]; omega
    · obtain rfl : k = n := by omega
      have HT : Hid (pss.take k = pss) := hid (by rw [HL.out, List.take_length])
      have h6 := flat_take_le pss k
      go_wp2_with (go_at_call 31; refine (grow_any _ _ (by omega)).mono ?_; rintro e w1 ⟨v1, rfl, hv1, hb1⟩)
      go_loopw [6, 27] (fun v i wr => ∃ j : Nat, j ≤ k ∧ i = .int .i64 j ∧ wr.ownsRow w.heap.size 54 2 v (flat (pss.take j)).length (cellsOf (flat (pss.take j))) ∧ Below w.heap.size w wr) (fun _ i _ => k - (intOf i).toNat)
      case atStart => exact ⟨0, Nat.zero_le _, rfl, hv1, hb1⟩
      case round =>
        obtain ⟨j, hj, rfl, hv, hb⟩ := hrel
        by_cases hlt2 : j < k
        · obtain ⟨a, c, hkl, hcell, hpc⟩ := HP.out j hlt2
          have hts : Hid (flat (pss.take (j + 1)) = flat (pss.take j) ++ pss[j]) := hid (flat_take_succ pss j hkl)
          have h4 := flat_take_le pss (j + 1)
          have h5 : (flat (pss.take j)).length + pss[j].length ≤ 1048576 := by have := congrArg List.length hts.out; rw [List.length_append] at this; omega
          clear h4 h6
          have hcell2 := (hb.cell (p := ⟨g, j, none⟩) hg).trans hcell
          have hwz := hb.size
          rcases hpc.form with ⟨e1, e2⟩ | ⟨b, c2, e1, hbb, _, _, _⟩
          · rw [e1] at hcell2
            have HS : Hid (flat (pss.take (j + 1)) = flat (pss.take j)) := hid (by rw [hts.out, e2, List.append_nil])
            clear e1 e2 hpc hcell hts h5
            go_wp2_with (at_builtin; refine wpList_append_own_none rfl _ _ 48 rfl w.heap.size 54 i0 2 Tryd.underlying48 hi _ _ _ rfl hv rfl ?_)
            go_roundw
            case rel => exact ⟨j + 1, by omega, by go_num, by rw [HS.out]; exact hv, hb⟩
            case measure => simp [intOf]; omega
          · rw [e1] at hcell2 hpc
            have HC : Hid (∀ i u, (cellsOf pss[j])[i]? = some u → wr.cell? ((⟨b, 0, none⟩ : Addr).add i) = some u) := hid fun i u hu => by
              have h7 := World.ownsRow.cells hpc (g := b) rfl i u hu
              have hadd : ((⟨b, 0, none⟩ : Addr).add i).block = b := by unfold Addr.add; split <;> rfl
              exact (hb.cell (by rw [hadd]; exact hbb)).trans h7
            have HO : Hid (∀ u ∈ cellsOf pss[j], u.oneCell' = true) := hid (cellsOf_one _)
            have HE : Hid ((cellsOf pss[j]).length = pss[j].length * 2) := hid (cellsOf_length _)
            clear e1 hpc hcell hbb
            go_wp2_with (at_builtin; refine wpList_append_own _ rfl _ _ 48 rfl w.heap.size 54 i0 (.agg #[.int .i64 0, .int .i64 0]) 2 16 Tryd.underlying48 hi hz0 hz1 hz2 rfl (by decide) _ _ _ rfl hv ⟨b, 0, none⟩ pss[j].length c2 (cellsOf pss[j]) rfl HE.out HC.out HO.out (by unfold maxLen; omega) (by omega) (by omega) ?_; intro v' w2 hown' hgrow _)
            have hb2 := hb.grown hgrow hwz (fun k hk => (hv.lt k hk).1)
            go_roundw
            case rel => exact ⟨j + 1, by omega, by go_num, by rw [hts.out, cellsOf_append, List.length_append]; exact hown', hb2⟩
            case measure => simp [intOf]; omega
        · obtain rfl : j = k := by omega
          go_wp2
          go_ret
          exact ⟨_, rfl, by have := hv; rw [HT.out] at this; exact this, hb⟩
end Go.Proofs.YtflkmdmceeefiaaDoor
