/- lay: bytes are laid down behind those that are there. -/
import Derived.Test.YtflkmdmceeefiaaDoorBytes
import Derived.Laws.CopyOwn
import Derived.Lib.BufferWrite
namespace Go.Proofs.YtflkmdmceeefiaaDoor
open Go.RowKit Go.Shelf Go.Dia

theorem grownBy_setRow (w : World) (g : Nat) (cs : Array Value) : w.grownBy (w.setRow g cs) (some g) :=
  ⟨rfl, rfl, rfl, by simp, fun k _ hk => setRow_other w g k cs (fun e => hk (by rw [e]))⟩

/-- the built-in copy of a slice of bytes into a row -/
theorem run_copy_bytes (w : World) (g off n c : Nat) (cur : List Value) (vl : Value) (laid : List UInt8) (hg : Blk w g 5 cur.toArray) (hl : IsBytes w vl laid) (hfit : off + laid.length ≤ cur.length) (hn : laid.length ≤ n) :
    ∃ w2, (Builtin.copy_ #[47, 47] 3 #[.slice (some ⟨g, off, none⟩) n c, vl]).run Tryd.prog w = .ok (.int .i64 laid.length) w2 ∧ Blk w2 g 5 (splice cur off (Lib.byteCells laid)).toArray ∧ w.grownBy w2 (some g) ∧ w2.heap.size = w.heap.size := by
  have hsz : (Tryd.prog.info? 5).map (·.size) = some 1 := by kernel_rfl
  by_cases h0 : laid.length = 0
  · have hl0 : laid = [] := List.eq_nil_of_length_eq_zero h0
    subst hl0
    obtain ⟨sp, cs, rfl⟩ : ∃ sp cs, vl = .slice sp 0 cs := by
      obtain ⟨_, ⟨rfl, _⟩ | ⟨g, cap, cur, rfl, _⟩⟩ := hl
      · exact ⟨_, _, rfl⟩
      · exact ⟨_, _, rfl⟩
    refine ⟨w, run_copy_none (P := Tryd.prog) w 47 47 3 5 (some ⟨g, off, none⟩) sp n c 0 cs Tryd.underlying47 hsz (by simp), ?_, ⟨rfl, rfl, rfl, Nat.le_refl _, fun _ _ _ => rfl⟩, rfl⟩
    simpa [splice, Lib.byteCells] using hg
  · have hnn : vl ≠ .slice none 0 0 := by
      rintro rfl
      obtain ⟨_, ⟨_, h⟩ | ⟨g, cap, cur, h, _⟩⟩ := hl
      · exact h0 h
      · cases h
    obtain ⟨g2, cap, rfl, hg2, hgc, hgm, hcg⟩ := hl.form hnn
    have hr := run_copy_row (P := Tryd.prog) w 47 47 3 5 g off n c ⟨g2, 0, none⟩ laid.length cap cur.toArray 5 (Lib.byteCells laid) Tryd.underlying47 hsz hg (by rw [Lib.byteCells_length]; exact (Nat.min_eq_left hn).symm)
      (fun j v hv => by
        have hadd : (⟨g2, 0, none⟩ : Addr).add j = ⟨g2, j, none⟩ := by unfold Addr.add; split <;> simp_all
        have hj : j < laid.length := by have := (List.getElem?_eq_some_iff.1 hv).1; rwa [Lib.byteCells_length] at this
        have e : v = .int .u8 laid[j].toNat := by simp [Lib.byteCells, hj] at hv; exact hv.symm
        rw [hadd, e]; exact hcg j hj) (by rw [Lib.byteCells_length]; simpa using hfit)
      (by intro u hu; simp only [Lib.byteCells, List.mem_map] at hu; obtain ⟨y, _, rfl⟩ := hu; rfl)
    refine ⟨_, by rw [hr, Lib.byteCells_length]; rfl, ?_, grownBy_setRow _ _ _, by simp⟩
    have := setRow_heap w g cur.toArray (cur.take off ++ Lib.byteCells laid ++ cur.drop (off + (Lib.byteCells laid).length)).toArray 5 (0, 0) hg
    unfold Blk
    simpa [splice, Lib.byteCells_length] using this

/-- .. of a string -/
theorem run_copy_str (w : World) (g off n c : Nat) (cur : List Value) (s : ByteArray) (hg : Blk w g 5 cur.toArray) (hfit : off + s.size ≤ cur.length) (hn : s.size ≤ n) :
    ∃ w2, (Builtin.copy_ #[47, 9] 3 #[.slice (some ⟨g, off, none⟩) n c, .string s]).run Tryd.prog w = .ok (.int .i64 s.size) w2 ∧ Blk w2 g 5 (splice cur off (Lib.byteCells s.data.toList)).toArray ∧ w.grownBy w2 (some g) ∧ w2.heap.size = w.heap.size := by
  have hsz : (Tryd.prog.info? 5).map (·.size) = some 1 := by kernel_rfl
  have hr := Lib.run_copy_row_string (P := Tryd.prog) w 47 9 3 5 g off n c s cur.toArray 5 Tryd.underlying47 hsz hg hn (by simpa using hfit)
  refine ⟨_, by rw [hr]; rfl, ?_, grownBy_setRow _ _ _, by simp⟩
  have := setRow_heap w g cur.toArray (cur.take off ++ Lib.byteCells s.data.toList ++ cur.drop (off + s.size)).toArray 5 (0, 0) hg
  unfold Blk
  have hs : (Lib.byteCells s.data.toList).length = s.size := by rw [Lib.byteCells_length]; rfl
  simpa [splice, hs] using this

theorem isBytes_blk {W : World} {g n : Nat} {l : List UInt8} (h : Blk W g 5 (Lib.byteCells l).toArray) (hn : l.length = n) (hm : n ≤ maxLen) : IsBytes W (.slice (some ⟨g, 0, none⟩) n n) l := by
  subst hn
  exact ⟨by rw [Lib.byteCells_length]; omega, .inr ⟨g, l.length, (Lib.byteCells l).toArray, rfl, Nat.zero_le _, h, Nat.le_refl _, hm, by simp [Lib.byteCells_length], by simp [List.take_of_length_le, Lib.byteCells_length]⟩⟩

set_option maxRecDepth 100000 in
set_option maxHeartbeats 4000000 in
theorem lay_empty (w : World) (B : Nat) (vl vp : Value) (laid : List UInt8) (hB : Blk w B 52 #[vl, vp]) (hl : IsBytes w vl laid) (hlen : laid.length + 0 ≤ 1099511627776) :
    Calls Tryd.prog 23 #[.pointer (some ⟨B, 0, none⟩), .string ByteArray.empty] w fun e W' => e = .returned (.agg #[.int .i64 laid.length, .int .i64 0]) ∧
      ∃ vl', vl' ≠ .slice none 0 0 ∧ Blk W' B 52 #[vl', vp] ∧ IsBytes W' vl' laid ∧ w.grownBy W' (some B) := by
  obtain ⟨i0, hi, hz0, hz1, hz2⟩ := info_parts infoByte
  obtain ⟨a0, cap0, rfl⟩ : ∃ a0 cap0, vl = .slice a0 laid.length cap0 := by
    obtain ⟨_, ⟨rfl, h⟩ | ⟨g, cap, cur, rfl, _⟩⟩ := hl
    · exact ⟨none, 0, by rw [h]⟩
    · exact ⟨_, _, rfl⟩
  have hBlt := hB.lt
  have c0 := hB.cell 0
  obtain ⟨L, hL⟩ : ∃ L, laid.length = L := ⟨_, rfl⟩
  have HL : Hid (laid.length = L) := hid hL
  rw [hL] at hlen
  rw [hL] at c0 hl hB ⊢
  have hl1 := (hl.alloc (.cells #[.int .i64 0, .int .i64 0] 54)).alloc (.cells (madeCells (Value.cells (.int .u8 0)) (L * 1)) 5)
  clear hL
  have hmk := fun (W : World) => run_make (P := Tryd.prog) W 47 5 i0 (.int .u8 0) Tryd.underlying47 hi hz0 .i64 .i64 (L : Int) (L : Int) (by omega) (Int.le_refl _) (by rw [hz2]; omega) (by omega)
  rw [hz1, show (L : Int).toNat = L by omega] at hmk
  have hMs := size_madeCells (Value.cells (.int .u8 0)) (L * 1)
  obtain ⟨M, hM⟩ : ∃ M : List Value, madeCells (Value.cells (.int .u8 0)) (L * 1) = M.toArray := ⟨_, (Array.toArray_toList).symm⟩
  rw [hM] at hMs hl1
  simp only [hM] at hmk
  have HM : Hid (M.length = L) := hid (by simpa using hMs)
  clear hM hMs
  have bR1 := Blk.new w 54 #[.int .i64 0, .int .i64 0]
  have b1 := Blk.new (w.alloc (.cells #[.int .i64 0, .int .i64 0] 54)) 5 M.toArray
  have hB1 := (hB.alloc (.cells #[.int .i64 0, .int .i64 0] 54)).alloc (.cells M.toArray 5)
  rw [World.size_alloc] at b1
  have hW : Below w.heap.size w ((w.alloc (.cells #[.int .i64 0, .int .i64 0] 54)).alloc (.cells M.toArray 5)) := ((Below.refl _ w).alloc (Nat.le_refl _) _).alloc (by simp) _
  obtain ⟨w2, hc1, b2, g2, z2⟩ := run_copy_bytes _ (w.heap.size + 1) 0 L L M (.slice a0 L cap0) laid b1 (by rw [IsBytes, HL.out]; rw [HL.out] at hl1; exact hl1) (by rw [HM.out, HL.out]; omega) (by rw [HL.out]; omega)
  rw [HL.out] at hc1
  have hB2 := hB1.kept g2 (by simp; omega)
  have bR2 := (bR1.alloc (.cells M.toArray 5)).kept g2 (by simp)
  have hsl : (splice M 0 (Lib.byteCells laid)).length = L := by rw [length_splice _ _ _ (by rw [HM.out, Lib.byteCells_length, HL.out]; omega), HM.out]
  obtain ⟨w3, hc2, b3, g3, z3⟩ := run_copy_str w2 (w.heap.size + 1) 0 0 0 (splice M 0 (Lib.byteCells laid)) ByteArray.empty b2 (by rw [hsl]; exact Nat.zero_le _) (Nat.le_refl _)
  have hB3 := hB2.kept g3 (by simp; omega)
  have bR3 := bR2.kept g3 (by simp)
  have HW3 : Hid (w.grownBy w3 none) := hid ⟨g3.os.trans (g2.os.trans hW.os), g3.tape.trans (g2.tape.trans hW.tape), g3.output.trans (g2.output.trans hW.output), Nat.le_trans hW.size (Nat.le_trans g2.size g3.size), fun k hk _ => (g3.block k (by have := g2.size; simp at this; omega) (by simp; omega)).trans ((g2.block k (by simp; omega) (by simp; omega)).trans (hW.block k hk))⟩
  have HB3 : Hid (splice (splice M 0 (Lib.byteCells laid)) 0 (Lib.byteCells (ByteArray.empty : ByteArray).data.toList) = Lib.byteCells laid) := hid (by
    unfold splice; simp only [List.take_zero, List.nil_append, Nat.zero_add, Lib.byteCells_length, HL.out]
    have e1 : Lib.byteCells (ByteArray.empty).data.toList = [] := rfl
    have e2 : M.drop L = [] := List.drop_eq_nil_of_le (by rw [HM.out]; omega)
    rw [e1, e2]; simp)
  have cB0 := hB3.cell 0
  have fB0 := hB3.frozen 0
  have cR0 := bR3.cell 0
  have cR1 := bR3.cell 1
  have fR0 := bR3.frozen 0
  have fR1 := bR3.frozen 1
  have cB0' := hB1.cell 0
  have cB2 := hB2.cell 0
  clear hsl z2 z3 g2 g3 hW
  go_enter Tryd.func23, Tryd.ntmps23
  go_wp2
  have r4 := (bR3.other (j := 0) (show w.heap.size ≠ B by omega) (.slice (some ⟨w.heap.size + 1, 0, none⟩) L L)).set 0 (.int .i64 (L : Int))
  have q0 := r4.cell 0
  have q1 := (r4.set 1 (.int .i64 0)).cell 1
  refine bodyPost_ret (v := .agg #[.int .i64 (L : Int), .int .i64 0]) (by simp at q0 q1; simp [results, Tryd.results23, go_sem, q0, q1]) rfl ⟨rfl, .slice (some ⟨w.heap.size + 1, 0, none⟩) L L, (by intro h; cases h), ((hB3.set 0 _).other (by omega) _).other (by omega) _, ?_, ?_⟩
  · have b4 := ((b3.other (j := 0) (show w.heap.size + 1 ≠ B by omega) (.slice (some ⟨w.heap.size + 1, 0, none⟩) L L)).other (j := 0) (show w.heap.size + 1 ≠ w.heap.size by omega) (.int .i64 (L : Int))).other (j := 1) (show w.heap.size + 1 ≠ w.heap.size by omega) (.int .i64 0)
    rw [HB3.out] at b4
    exact isBytes_blk b4 HL.out (by unfold maxLen; omega)
  · have h4 : w.grownBy w3 (some B) := ⟨HW3.out.os, HW3.out.tape, HW3.out.output, HW3.out.size, fun k hk _ => HW3.out.block k hk (by simp)⟩
    exact ⟨h4.os, h4.tape, h4.output, by simp [World.setCell]; exact h4.size, fun k hk hr => by
      rw [Below.heap_setCell _ _ _ _ (by show k ≠ w.heap.size; omega), Below.heap_setCell _ _ _ _ (by show k ≠ w.heap.size; omega), Below.heap_setCell _ _ _ _ (by show k ≠ B; intro e; exact hr (by rw [e]))]
      exact h4.block k hk hr⟩

set_option maxRecDepth 100000 in
set_option maxHeartbeats 4000000 in
theorem lay_some (w : World) (B : Nat) (vl vp : Value) (laid : List UInt8) (s : ByteArray) (hs : s ≠ ByteArray.empty) (hB : Blk w B 52 #[vl, vp]) (hl : IsBytes w vl laid) (hlen : laid.length + s.size ≤ 1099511627776) :
    Calls Tryd.prog 23 #[.pointer (some ⟨B, 0, none⟩), .string s] w fun e W' => e = .returned (.agg #[.int .i64 laid.length, .int .i64 s.size]) ∧
      ∃ vl', vl' ≠ .slice none 0 0 ∧ Blk W' B 52 #[vl', vp] ∧ IsBytes W' vl' (laid ++ s.data.toList) ∧ w.grownBy W' (some B) := by
  obtain ⟨i0, hi, hz0, hz1, hz2⟩ := info_parts infoByte
  obtain ⟨a0, cap0, rfl⟩ : ∃ a0 cap0, vl = .slice a0 laid.length cap0 := by
    obtain ⟨_, ⟨rfl, h⟩ | ⟨g, cap, cur, rfl, _⟩⟩ := hl
    · exact ⟨none, 0, by rw [h]⟩
    · exact ⟨_, _, rfl⟩
  have hBlt := hB.lt
  have c0 := hB.cell 0
  obtain ⟨L, hL⟩ : ∃ L, laid.length = L := ⟨_, rfl⟩
  have HL : Hid (laid.length = L) := hid hL
  rw [hL] at hlen
  rw [hL] at c0 hl hB ⊢
  have hl1 := (hl.alloc (.cells #[.int .i64 0, .int .i64 0] 54)).alloc (.cells (madeCells (Value.cells (.int .u8 0)) ((L + s.size) * 1)) 5)
  clear hL
  have hmk := fun (W : World) => run_make (P := Tryd.prog) W 47 5 i0 (.int .u8 0) Tryd.underlying47 hi hz0 .i64 .i64 ((L : Int) + s.size) ((L : Int) + s.size) (by omega) (Int.le_refl _) (by rw [hz2]; omega) (by omega)
  rw [hz1, show ((L : Int) + s.size).toNat = (L + s.size) by omega] at hmk
  have hMs := size_madeCells (Value.cells (.int .u8 0)) ((L + s.size) * 1)
  obtain ⟨M, hM⟩ : ∃ M : List Value, madeCells (Value.cells (.int .u8 0)) ((L + s.size) * 1) = M.toArray := ⟨_, (Array.toArray_toList).symm⟩
  rw [hM] at hMs hl1
  simp only [hM] at hmk
  have HM : Hid (M.length = (L + s.size)) := hid (by simpa using hMs)
  clear hM hMs
  have bR1 := Blk.new w 54 #[.int .i64 0, .int .i64 0]
  have b1 := Blk.new (w.alloc (.cells #[.int .i64 0, .int .i64 0] 54)) 5 M.toArray
  have hB1 := (hB.alloc (.cells #[.int .i64 0, .int .i64 0] 54)).alloc (.cells M.toArray 5)
  rw [World.size_alloc] at b1
  have hW : Below w.heap.size w ((w.alloc (.cells #[.int .i64 0, .int .i64 0] 54)).alloc (.cells M.toArray 5)) := ((Below.refl _ w).alloc (Nat.le_refl _) _).alloc (by simp) _
  obtain ⟨w2, hc1, b2, g2, z2⟩ := run_copy_bytes _ (w.heap.size + 1) 0 (L + s.size) (L + s.size) M (.slice a0 L cap0) laid b1 (by rw [IsBytes, HL.out]; rw [HL.out] at hl1; exact hl1) (by rw [HM.out, HL.out]; omega) (by rw [HL.out]; omega)
  rw [HL.out] at hc1
  have hB2 := hB1.kept g2 (by simp; omega)
  have bR2 := (bR1.alloc (.cells M.toArray 5)).kept g2 (by simp)
  have hsl : (splice M 0 (Lib.byteCells laid)).length = (L + s.size) := by rw [length_splice _ _ _ (by rw [HM.out, Lib.byteCells_length, HL.out]; omega), HM.out]
  obtain ⟨w3, hc2, b3, g3, z3⟩ := run_copy_str w2 (w.heap.size + 1) L s.size s.size (splice M 0 (Lib.byteCells laid)) s b2 (by rw [hsl]; exact Nat.le_refl _) (Nat.le_refl _)
  have hB3 := hB2.kept g3 (by simp; omega)
  have bR3 := bR2.kept g3 (by simp)
  have HW3 : Hid (w.grownBy w3 none) := hid ⟨g3.os.trans (g2.os.trans hW.os), g3.tape.trans (g2.tape.trans hW.tape), g3.output.trans (g2.output.trans hW.output), Nat.le_trans hW.size (Nat.le_trans g2.size g3.size), fun k hk _ => (g3.block k (by have := g2.size; simp at this; omega) (by simp; omega)).trans ((g2.block k (by simp; omega) (by simp; omega)).trans (hW.block k hk))⟩
  have HB3 : Hid (splice (splice M 0 (Lib.byteCells laid)) L (Lib.byteCells (s : ByteArray).data.toList) = Lib.byteCells (laid ++ s.data.toList)) := hid (by
    unfold splice; simp only [List.take_zero, List.nil_append, Nat.zero_add, Lib.byteCells_length, HL.out]
    have e1 : (Lib.byteCells laid).length = L := by rw [Lib.byteCells_length, HL.out]
    have e3 : s.data.toList.length = s.size := rfl
    rw [e3, List.take_append_of_le_length (by omega), List.take_of_length_le (by omega), Lib.byteCells_append, List.drop_eq_nil_of_le (by rw [List.length_append, List.length_drop, HM.out]; omega), List.append_nil])
  have cB0 := hB3.cell 0
  have fB0 := hB3.frozen 0
  have cR0 := bR3.cell 0
  have cR1 := bR3.cell 1
  have fR0 := bR3.frozen 0
  have fR1 := bR3.frozen 1
  have cB0' := hB1.cell 0
  have cB2 := hB2.cell 0
  clear hsl z2 z3 g2 g3 hW
  go_enter Tryd.func23, Tryd.ntmps23
  go_wp2
  have r4 := (bR3.other (j := 0) (show w.heap.size ≠ B by omega) (.slice (some ⟨w.heap.size + 1, 0, none⟩) (L + s.size) (L + s.size))).set 0 (.int .i64 (L : Int))
  have q0 := r4.cell 0
  have q1 := (r4.set 1 (.int .i64 (s.size : Int))).cell 1
  refine bodyPost_ret (v := .agg #[.int .i64 (L : Int), .int .i64 (s.size : Int)]) (by simp at q0 q1; simp [results, Tryd.results23, go_sem, q0, q1]) rfl ⟨rfl, .slice (some ⟨w.heap.size + 1, 0, none⟩) (L + s.size) (L + s.size), (by intro h; cases h), ((hB3.set 0 _).other (by omega) _).other (by omega) _, ?_, ?_⟩
  · have b4 := ((b3.other (j := 0) (show w.heap.size + 1 ≠ B by omega) (.slice (some ⟨w.heap.size + 1, 0, none⟩) (L + s.size) (L + s.size))).other (j := 0) (show w.heap.size + 1 ≠ w.heap.size by omega) (.int .i64 (L : Int))).other (j := 1) (show w.heap.size + 1 ≠ w.heap.size by omega) (.int .i64 (s.size : Int))
    rw [HB3.out] at b4
    exact isBytes_blk b4 (by rw [List.length_append, HL.out]; rfl) (by unfold maxLen; omega)
  · have h4 : w.grownBy w3 (some B) := ⟨HW3.out.os, HW3.out.tape, HW3.out.output, HW3.out.size, fun k hk _ => HW3.out.block k hk (by simp)⟩
    exact ⟨h4.os, h4.tape, h4.output, by simp [World.setCell]; exact h4.size, fun k hk hr => by
      rw [Below.heap_setCell _ _ _ _ (by show k ≠ w.heap.size; omega), Below.heap_setCell _ _ _ _ (by show k ≠ w.heap.size; omega), Below.heap_setCell _ _ _ _ (by show k ≠ B; intro e; exact hr (by rw [e]))]
      exact h4.block k hk hr⟩

theorem lay_any (w : World) (B : Nat) (vl vp : Value) (laid : List UInt8) (s : ByteArray) (hB : Blk w B 52 #[vl, vp]) (hl : IsBytes w vl laid) (hlen : laid.length + s.size ≤ 1099511627776) :
    Calls Tryd.prog 23 #[.pointer (some ⟨B, 0, none⟩), .string s] w fun e W' => e = .returned (.agg #[.int .i64 laid.length, .int .i64 s.size]) ∧
      ∃ vl', vl' ≠ .slice none 0 0 ∧ Blk W' B 52 #[vl', vp] ∧ IsBytes W' vl' (laid ++ s.data.toList) ∧ w.grownBy W' (some B) := by
  by_cases hs : s = ByteArray.empty
  · subst hs
    have e1 : (ByteArray.empty).data.toList = [] := rfl
    have e2 : (ByteArray.empty).size = 0 := rfl
    rw [e1, List.append_nil, e2]
    rw [e2] at hlen
    exact lay_empty w B vl vp laid hB hl hlen
  · exact lay_some w B vl vp laid s hs hB hl hlen
end Go.Proofs.YtflkmdmceeefiaaDoor
