/- Splice, at each of its three ways. -/
import Derived.Test.YtflkmdmceeefiaaDoorBuf
namespace Go.Proofs.YtflkmdmceeefiaaDoor
open Go.RowKit Go.Shelf Go.Dia

set_option maxHeartbeats 2000000 in
theorem splice_bad (w : World) (B : Nat) (laid : List UInt8) (ps : List Pc) (h : IsBuf w B laid ps) (at_ n : Int) (s : ByteArray) (a0 a1 : Addr) (hv : Vars w a0 a1) (h2 : a0.block < w.heap.size) (h3 : a1.block < w.heap.size) (hbad : Bad (total ps) at_ n) :
    Calls Tryd.prog 15 #[.pointer (some ⟨B, 0, none⟩), .int .i64 at_, .int .i64 n, .string s] w fun e W' => e = .returned (.int .i64 10) ∧ Below w.heap.size w W' := by
  have hlt := World.block_lt_of_cell? w _ hv.c1
  have hlt' : 2 ≤ w.heap.size := hlt
  go_enter Tryd.func15, Tryd.ntmps15
  go_wp2_with (first | (go_at_call 24; refine (checked_bad _ B laid ps h at_ n a0 a1 hv hbad).mono ?_; rintro e w1 ⟨rfl, hb⟩) | (go_at_call 22; refine (told_range a0 a1 _ (hv.below hb hlt' h2 h3)).mono ?_; rintro e w2 ⟨rfl, rfl⟩))
  go_ret
  exact ⟨rfl, hb⟩

set_option maxHeartbeats 2000000 in
theorem splice_full (w : World) (B : Nat) (laid : List UInt8) (ps : List Pc) (h : IsBuf w B laid ps) (at_ n : Int) (s : ByteArray) (a0 a1 : Addr) (hv : Vars w a0 a1) (h2 : a0.block < w.heap.size) (h3 : a1.block < w.heap.size)
    (k1 : 0 ≤ at_) (k2 : at_ ≤ (total ps : Int)) (k3 : 0 ≤ n) (k4 : n ≤ (total ps : Int) - at_) (hfull : 4000 < (total ps : Int) - n + s.size) (hs : s.size ≤ 1099511627776) :
    Calls Tryd.prog 15 #[.pointer (some ⟨B, 0, none⟩), .int .i64 at_, .int .i64 n, .string s] w fun e W' => e = .returned (.int .i64 11) ∧ Below w.heap.size w W' := by
  have hlt := World.block_lt_of_cell? w _ hv.c1
  have hlt' : 2 ≤ w.heap.size := hlt
  have ht : total ps ≤ 4000 := by obtain ⟨_, _, _, _, _, _, _, _, _, h⟩ := h; exact h
  go_enter Tryd.func15, Tryd.ntmps15
  go_wp2_with (first | (go_at_call 24; refine (checked_ok _ B laid ps h at_ n k1 k2 k3 k4).mono ?_; rintro e w1 ⟨rfl, hb⟩) | (go_at_call 25; refine (size_any _ B laid ps (h.below hb)).mono ?_; rintro e w2 ⟨rfl, hb2⟩; have hb3 := below_trans' hb hb2; have c0 := (hv.below hb3 hlt' h2 h3).c0) | (go_at_call 22; refine (told_full a0 a1 _ (hv.below hb3 hlt' h2 h3)).mono ?_; rintro e w3 ⟨rfl, rfl⟩))
  go_ret
  exact ⟨rfl, hb3⟩

theorem IsPcs.sl {W : World} {v : Value} {ps : List Pc} (h : IsPcs W v ps) : ∃ a c, v = .slice a ps.length c := by
  rcases h.form with ⟨rfl, h0⟩ | ⟨b, cap, rfl, _⟩
  · exact ⟨none, 0, by rw [h0]; rfl⟩
  · exact ⟨_, _, rfl⟩

theorem IsPcs.sl3 {W : World} {v : Value} {ps : List Pc} (h : IsPcs W v ps) : ∃ a k c, v = .slice a k c := by
  obtain ⟨a, c, e⟩ := h.sl
  exact ⟨a, _, c, e⟩

theorem isPcs_one {W : World} {g : Nat} (pc : Pc) (h : Blk W g 54 #[.int .i64 pc.1.1, .int .i64 pc.1.2]) : IsPcs W (.slice (some ⟨g, 0, none⟩) 1 1) [pc] :=
  ⟨by simp [cellsOf], .inr ⟨g, 1, #[.int .i64 pc.1.1, .int .i64 pc.1.2], rfl, Nat.zero_le _, h, Nat.le_refl _, by decide, by simp, by simp [cellsOf]⟩⟩

theorem concat3 (w : World) (v1 v3 : Value) (p1 p3 : List Pc) (pc : Pc) (h1 : IsPcs w v1 p1) (h3 : IsPcs w v3 p3) (hl : p1.length + p3.length ≤ 1000000) :
    Calls Tryd.prog 27 #[.slice (some ⟨w.heap.size + 1, 0, none⟩) 3 3] ((w.alloc (.cells #[.int .i64 pc.1.1, .int .i64 pc.1.2] 54)).alloc (.cells #[v1, .slice (some ⟨w.heap.size, 0, none⟩) 1 1, v3] 48)) fun e W' =>
      ∃ v, e = .returned v ∧ IsPcs W' v (p1 ++ pc :: p3) ∧ v ≠ .slice none 0 0 ∧ Below w.heap.size w W' := by
  have g1 : Below w.heap.size w (w.alloc (.cells #[.int .i64 pc.1.1, .int .i64 pc.1.2] 54)) := grownBy.below (World.grownBy_alloc _ _ _)
  have g2 : Below (w.alloc (.cells #[.int .i64 pc.1.1, .int .i64 pc.1.2] 54)).heap.size (w.alloc (.cells #[.int .i64 pc.1.1, .int .i64 pc.1.2] 54)) ((w.alloc (.cells #[.int .i64 pc.1.1, .int .i64 pc.1.2] 54)).alloc (.cells #[v1, .slice (some ⟨w.heap.size, 0, none⟩) 1 1, v3] 48)) := grownBy.below (World.grownBy_alloc _ _ _)
  have g3 := below_trans' g1 g2
  have k1 := own_below h1 g3
  have k3 := own_below h3 g3
  have b1 : Blk (w.alloc (.cells #[.int .i64 pc.1.1, .int .i64 pc.1.2] 54)) w.heap.size 54 #[.int .i64 pc.1.1, .int .i64 pc.1.2] := Blk.new _ _ _
  have k2 := own_below (isPcs_one pc b1) g2
  have b2 : Blk ((w.alloc (.cells #[.int .i64 pc.1.1, .int .i64 pc.1.2] 54)).alloc (.cells #[v1, .slice (some ⟨w.heap.size, 0, none⟩) 1 1, v3] 48)) (w.heap.size + 1) 48 #[v1, .slice (some ⟨w.heap.size, 0, none⟩) 1 1, v3] := by
    have := Blk.new (w.alloc (.cells #[.int .i64 pc.1.1, .int .i64 pc.1.2] 54)) 48 #[v1, .slice (some ⟨w.heap.size, 0, none⟩) 1 1, v3]
    simpa using this
  refine (concat_any _ (w.heap.size + 1) 3 [v1, .slice (some ⟨w.heap.size, 0, none⟩) 1 1, v3] [p1, [pc], p3] rfl b2.lt (by simp) ?_ ?_ (by simp [flat]; omega)).mono ?_
  · intro j hj
    rw [b2.cell]
    have : j = 0 ∨ j = 1 ∨ j = 2 := by simp at hj; omega
    rcases this with rfl | rfl | rfl <;> rfl
  · intro j hj
    have : j = 0 ∨ j = 1 ∨ j = 2 := by simp at hj; omega
    rcases this with rfl | rfl | rfl
    · exact k1
    · exact k2
    · exact k3
  · rintro e W' ⟨v, rfl, hv, hb⟩
    have e1 : flat [p1, [pc], p3] = p1 ++ pc :: p3 := by simp [flat]
    rw [e1] at hv
    have hv' : IsPcs W' v (p1 ++ pc :: p3) := IsPcs.of_own hv
    refine ⟨v, rfl, hv', ?_, below_trans' g3 hb⟩
    rintro rfl
    obtain ⟨a, c, hh⟩ := hv'.sl
    simp at hh

/-- the pieces behind a splice -/
def spliced (L m : Nat) (hL : L + m ≤ 1099511627776) (ps : List Pc) (at_ n : Int) : List Pc :=
  partL 0 at_ ps ++ (⟨(L, m), hL⟩ : Pc) :: partL (at_ + n) ((total ps : Int) - at_ - n) ps

theorem total_part (laid : List UInt8) (a n : Int) (ps : List Pc) (h : Valid laid.length ps) (h0 : 0 ≤ a) (h1 : 0 ≤ n) (h2 : a + n ≤ (total ps : Int)) : (total (partL a n ps) : Int) = n := by
  rw [← textOf_length laid _ (partL_valid a n ps h), textOf_part _ _ _ _ h, List.length_drop, List.length_take, textOf_length _ _ h]
  omega

theorem spliced_text (laid s : List UInt8) (hL : laid.length + s.length ≤ 1099511627776) (ps : List Pc) (at_ n : Int) (h : Valid laid.length ps) :
    textOf (laid ++ s) (spliced laid.length s.length hL ps at_ n) = (textOf laid ps).take at_.toNat ++ s ++ (textOf laid ps).drop (at_ + n).toNat := by
  have ht := textOf_length laid ps h
  unfold spliced
  rw [textOf_append, textOf_cons, textOf_more _ _ _ (partL_valid _ _ _ h), textOf_more _ _ _ (partL_valid _ _ _ h), textOf_part _ _ _ _ h, textOf_part _ _ _ _ h]
  have e1 : (textOf laid ps).take (at_ + n + ((total ps : Int) - at_ - n)).toNat = textOf laid ps := List.take_of_length_le (by omega)
  rw [e1]
  simp

theorem spliced_total (laid : List UInt8) (m : Nat) (hL : laid.length + m ≤ 1099511627776) (ps : List Pc) (at_ n : Int) (h : Valid laid.length ps)
    (k1 : 0 ≤ at_) (k2 : at_ ≤ (total ps : Int)) (k3 : 0 ≤ n) (k4 : n ≤ (total ps : Int) - at_) :
    (total (spliced laid.length m hL ps at_ n) : Int) = (total ps : Int) - n + m := by
  have e1 := total_part laid 0 at_ ps h (by omega) k1 (by omega)
  have e2 := total_part laid (at_ + n) ((total ps : Int) - at_ - n) ps h (by omega) (by omega) (by omega)
  unfold spliced
  rw [total_append, total_cons]
  simp only
  omega

theorem spliced_length (L m : Nat) (hL : L + m ≤ 1099511627776) (ps : List Pc) (at_ n : Int) (k3 : 0 ≤ n) (ht : total ps ≤ 4000) : (spliced L m hL ps at_ n).length ≤ 4002 := by
  have h := parts_count 0 at_ (at_ + n) ((total ps : Int) - at_ - n) ps (by omega)
  have h2 := full_length_total ps
  unfold spliced
  rw [List.length_append, List.length_cons]
  split at h <;> omega

theorem spliced_valid (laid : List UInt8) (m : Nat) (hL : laid.length + m ≤ 1099511627776) (ps : List Pc) (at_ n : Int) (h : Valid laid.length ps) : Valid (laid.length + m) (spliced laid.length m hL ps at_ n) := by
  intro x hx
  unfold spliced at hx
  simp only [List.mem_append, List.mem_cons] at hx
  rcases hx with hx | rfl | hx
  · have := partL_valid _ _ _ h x hx; omega
  · simp
  · have := partL_valid _ _ _ h x hx; omega

set_option maxHeartbeats 4000000 in
set_option maxRecDepth 100000 in
theorem splice_ok (w : World) (B : Nat) (laid : List UInt8) (ps : List Pc) (h : IsBuf w B laid ps) (at_ n : Int) (s : ByteArray)
    (k1 : 0 ≤ at_) (k2 : at_ ≤ (total ps : Int)) (k3 : 0 ≤ n) (k4 : n ≤ (total ps : Int) - at_) (hfit : (total ps : Int) - n + s.size ≤ 4000) (hL : laid.length + s.size ≤ 1099511627776) :
    Calls Tryd.prog 15 #[.pointer (some ⟨B, 0, none⟩), .int .i64 at_, .int .i64 n, .string s] w fun e W' => e = .returned (.int .i64 0) ∧ w.grownBy W' (some B) ∧
      IsBuf W' B (laid ++ s.data.toList) (spliced laid.length s.size hL ps at_ n) := by
  have hps : ps.length ≤ 16384 ∧ total ps ≤ 4000 ∧ Valid laid.length ps := by obtain ⟨_, _, _, _, _, _, _, h5, h6, h7⟩ := h; exact ⟨h6, h7, h5⟩
  obtain ⟨hpl, hpt, hpv⟩ := hps
  have e1 : IntKind.i64.wrap (at_ + n) = at_ + n := IntWalk.i64_in _ (by omega)
  have e2 : IntKind.i64.wrap ((total ps : Int) - at_) = (total ps : Int) - at_ := IntWalk.i64_in _ (by omega)
  have e3 : IntKind.i64.wrap ((total ps : Int) - at_ - n) = (total ps : Int) - at_ - n := IntWalk.i64_in _ (by omega)
  go_enter Tryd.func15, Tryd.ntmps15
  go_wp2_with (first | (go_at_call 24; refine (checked_ok _ B laid ps h at_ n k1 k2 k3 k4).mono ?_; rintro e w1 ⟨rfl, hb⟩) | (go_at_call 25; refine (size_any _ B laid ps (h.below hb)).mono ?_; rintro e w2 ⟨rfl, hb2⟩))
  have hb3 := below_trans' hb hb2
  have hI := (h.below hb3).drew
  go_region_with (first | (go_at_call_of 26 (Value.int .i64 0); refine (part_any _ B laid ps hI 0 at_ (by omega) (by omega) k1 (by omega)).mono ?_; rintro e w3 ⟨vh, rfl, hvh, hb4⟩; obtain ⟨ah, kh', ch, rfl⟩ := hvh.sl3; have hI2 := hI.below hb4) | (go_at_call_of 26 (Value.int .i64 (at_ + n)); refine (part_any _ B laid ps hI2 (at_ + n) ((total ps : Int) - at_ - n) (by omega) (by omega) (by omega) (by omega)).mono ?_; rintro e w4 ⟨vt, rfl, hvt, hb5⟩; obtain ⟨at', kt', ct, rfl⟩ := hvt.sl3; have hI3 := hI2.below hb5))
  obtain ⟨vl, vp, hB, hl, hp, hlne, hpne, hval, hlen, htot⟩ := hI3
  have hpl1 := partL_length 0 at_ ps
  have hpl2 := partL_length (at_ + n) ((total ps : Int) - at_ - n) ps
  have hpp : (partL 0 at_ ps).length + (partL (at_ + n) ((total ps : Int) - at_ - n) ps).length ≤ 1000000 := by omega
  have hvh' := own_below hvh hb5
  clear hpl1 hpl2 e1 e2 e3
  go_wp2_with (first | (go_at_call 23; refine (lay_any _ B vl vp laid s hB hl hL).mono ?_; rintro e w5 ⟨rfl, vl', hvl', hB', hl', hg⟩; have kh := own_kept hvh' hB (by decide) hg; have kt := own_kept hvt hB (by decide) hg) | (go_at_call 27; refine (concat3 w5 _ _ _ _ ⟨(laid.length, s.size), hL⟩ kh kt hpp).mono ?_; rintro e w6 ⟨v, rfl, hv, hvne, hb6⟩; obtain ⟨av, kv, cv, rfl⟩ := hv.sl3; have hB6 := hB'.below hb6 hB'.lt; have fr6 := hB6.frozen 1; have c6 := hB6.cell 1))
  go_ret
  have hB7 := hB6.set 1 (.slice av kv cv)
  have gS : w6.grownBy (w6.setCell ⟨B, 1, none⟩ (.slice av kv cv)) (some B) := Lib.grownBy_setCell _ _ _ _
  refine ⟨rfl, ?_, vl', _, hB7, own_kept (own_below hl' hb6) hB6 (by decide) gS, own_kept hv hB6 (by decide) gS, hvl', hvne, ?_, ?_, ?_⟩
  · exact grownBy.trans (Below.grow (below_trans' hb3 (below_undrew (below_trans' hb4 hb5))) _) (grownBy.trans hg (grownBy.trans (Below.grow hb6 _) gS))
  · have := spliced_valid laid s.size hL ps at_ n hpv
    simpa [Valid] using this
  · have := spliced_length laid.length s.size hL ps at_ n k3 hpt; omega
  · have := spliced_total laid s.size hL ps at_ n hpv k1 k2 k3 k4; omega
end Go.Proofs.YtflkmdmceeefiaaDoor
