/- A buffer in memory; Len, Text, checked, Read. -/
import Derived.Test.YtflkmdmceeefiaaDoorPart
import Derived.Test.YtflkmdmceeefiaaDoorConcat
import Derived.Test.YtflkmdmceeefiaaDoorErrs
import Derived.Deep.RegionWith
namespace Go.Proofs.YtflkmdmceeefiaaDoor
open Go.RowKit Go.Shelf Go.Dia

/-- block B is a buffer: these bytes laid down, these pieces -/
def IsBuf (W : World) (B : Nat) (laid : List UInt8) (ps : List Pc) : Prop :=
  ∃ vl vp, Blk W B 52 #[vl, vp] ∧ IsBytes W vl laid ∧ IsPcs W vp ps ∧ vl ≠ .slice none 0 0 ∧ vp ≠ .slice none 0 0 ∧ Valid laid.length ps ∧ ps.length ≤ 16384 ∧ total ps ≤ 4000

theorem own_kept {W W' : World} {B : Nat} {e size n : Nat} {v : Value} {xs : List Value} {cs : Array Value} (h : W.ownsRow 0 e size v n xs) (hB : Blk W B 52 cs) (hne : (52 : Nat) ≠ e) (hg : W.grownBy W' (some B)) : W'.ownsRow 0 e size v n xs := by
  refine h.kept hg ?_
  rcases h.2 with ⟨rfl, _⟩ | ⟨g, cap, cur, rfl, _, hgb, _⟩
  · exact .inl rfl
  · refine .inr fun e' => ?_
    obtain rfl : g = B := by simpa [Value.ownBlock] using e'
    rw [show W.heap[g]? = _ from hB] at hgb
    simp at hgb
    exact hne hgb.2
theorem own_below {W W' : World} {e size n : Nat} {v : Value} {xs : List Value} (h : W.ownsRow 0 e size v n xs) (hb : Below W.heap.size W W') : W'.ownsRow 0 e size v n xs :=
  h.kept (Below.grow hb none) (by cases v.ownBlock <;> simp)
/-- a buffer stays one where nothing that was there has turned .. -/
theorem IsBuf.below {W W' : World} {B : Nat} {laid : List UInt8} {ps : List Pc} (h : IsBuf W B laid ps) (hb : Below W.heap.size W W') : IsBuf W' B laid ps := by
  obtain ⟨vl, vp, h1, h2, h3, h4⟩ := h
  exact ⟨vl, vp, h1.below hb h1.lt, own_below h2 hb, own_below h3 hb, h4⟩
/-- .. and where another buffer has -/
theorem IsBuf.other {W W' : World} {A B : Nat} {laid : List UInt8} {ps : List Pc} {cs : Array Value} (h : IsBuf W B laid ps) (hA : Blk W A 52 cs) (hne : A ≠ B) (hg : W.grownBy W' (some A)) : IsBuf W' B laid ps := by
  obtain ⟨vl, vp, h1, h2, h3, h4⟩ := h
  exact ⟨vl, vp, h1.kept hg (by simp; omega), own_kept h2 hA (by decide) hg, own_kept h3 hA (by decide) hg, h4⟩
theorem IsBuf.lt {W : World} {B : Nat} {laid : List UInt8} {ps : List Pc} (h : IsBuf W B laid ps) : B < W.heap.size := by obtain ⟨vl, vp, h1, _⟩ := h; exact h1.lt

theorem IsPcs.of_own {W : World} {base : Nat} {v : Value} {ps : List Pc} (h : W.ownsRow base 54 2 v ps.length (cellsOf ps)) : IsPcs W v ps := by
  refine ⟨h.1, ?_⟩
  rcases h.2 with h | ⟨g, cap, cur, hv, _, r⟩
  · exact .inl h
  · exact .inr ⟨g, cap, cur, hv, Nat.zero_le _, r⟩

theorem below_undrew {w w1 : World} (h : Below w.drew.heap.size w.drew w1) : Below w.heap.size w w1 := ⟨h.os, h.tape, h.output, h.size, h.block⟩
theorem IsBuf.drew {W : World} {B : Nat} {laid : List UInt8} {ps : List Pc} (h : IsBuf W B laid ps) : IsBuf W.drew B laid ps := h
theorem below_trans' {a b c : World} (h : Below a.heap.size a b) (k : Below b.heap.size b c) : Below a.heap.size a c := h.trans (k.mono h.size)

theorem size_any (w : World) (B : Nat) (laid : List UInt8) (ps : List Pc) (h : IsBuf w B laid ps) :
    Calls Tryd.prog 25 #[.pointer (some ⟨B, 0, none⟩)] w fun e W' => e = .returned (.int .i64 (total ps : Int)) ∧ Below w.heap.size w W' := by
  obtain ⟨vl, vp, h1, _, h3, _, h5, _, h6, _⟩ := h
  rcases h3.form with ⟨rfl, _⟩ | ⟨b, cap, rfl, hb, _, _, hc⟩
  · exact absurd rfl h5
  · exact callsIn_wide.1 (size_in Fence.wide 3 trivial trivial trivial rfl (by omega) w b B cap ps (by omega) hb h1.lt (h1.cell 1) hc)
theorem pieces_any (w : World) (B : Nat) (laid : List UInt8) (ps : List Pc) (h : IsBuf w B laid ps) :
    Calls Tryd.prog 20 #[.pointer (some ⟨B, 0, none⟩)] w fun e W' => e = .returned (.int .i64 ((full ps).length : Int)) ∧ Below w.heap.size w W' := by
  obtain ⟨vl, vp, h1, _, h3, _, h5, _, h6, _⟩ := h
  rcases h3.form with ⟨rfl, _⟩ | ⟨b, cap, rfl, hb, _, _, hc⟩
  · exact absurd rfl h5
  · exact callsIn_wide.1 (pieces_in Fence.wide 3 trivial trivial trivial rfl (by omega) w b B cap ps (by omega) hb h1.lt (h1.cell 1) hc)
theorem part_any (w : World) (B : Nat) (laid : List UInt8) (ps : List Pc) (h : IsBuf w B laid ps) (at_ m : Int) (ha0 : 0 ≤ at_) (ha1 : at_ ≤ 1099511627776) (hm0 : 0 ≤ m) (hm1 : m ≤ 1099511627776) :
    Calls Tryd.prog 26 #[.pointer (some ⟨B, 0, none⟩), .int .i64 at_, .int .i64 m] w fun e W' => ∃ v, e = .returned v ∧ IsPcs W' v (partL at_ m ps) ∧ Below w.heap.size w W' := by
  obtain ⟨vl, vp, h1, _, h3, _, h5, _, h6, _⟩ := h
  rcases h3.form with ⟨rfl, _⟩ | ⟨b, cap, rfl, hb, _, _, hc⟩
  · exact absurd rfl h5
  · exact (callsIn_wide.1 (part_in Fence.wide 3 trivial trivial trivial rfl (by omega) w b B cap ps (by omega) hb h1.lt (h1.cell 1) hc at_ m ha0 ha1 hm0 hm1)).mono fun e W' ⟨v, h1, h2, h3⟩ => ⟨v, h1, .of_own h2, h3⟩

set_option maxHeartbeats 1000000 in
theorem len_any (w : World) (B : Nat) (laid : List UInt8) (ps : List Pc) (h : IsBuf w B laid ps) :
    Calls Tryd.prog 17 #[.pointer (some ⟨B, 0, none⟩)] w fun e W' => e = .returned (.int .i64 (total ps : Int)) ∧ Below w.heap.size w W' := by
  go_enter Tryd.func17, Tryd.ntmps17
  go_wp2_with (go_at_call 25; refine (size_any _ B laid ps h).mono ?_; rintro e w1 ⟨rfl, hb⟩)
  go_ret
  exact ⟨rfl, hb⟩

set_option maxHeartbeats 1000000 in
theorem text_any (w : World) (B : Nat) (laid : List UInt8) (ps : List Pc) (h : IsBuf w B laid ps) :
    Calls Tryd.prog 16 #[.pointer (some ⟨B, 0, none⟩)] w fun e W' => e = .returned (.string ⟨(textOf laid ps).toArray⟩) ∧ Below w.heap.size w W' := by
  obtain ⟨vl, vp, h1, h2, h3, h4, h5, hv, h6, h7⟩ := h
  have hlt := h1.lt
  have c1 := h1.cell 1
  have hcall := bytes_any w.drew B vl vp laid ps hlt (h1.cell 0) h2 h3 h4 (by omega) hv (by omega)
  go_enter Tryd.func16, Tryd.ntmps16
  go_wp2
  go_region_with (go_at_call 28; refine hcall.mono ?_; rintro e w1 ⟨rfl, hb⟩)
  all_goals (go_wp2; simp [Act.put]; go_ret; exact ⟨rfl, below_undrew hb⟩)

set_option maxHeartbeats 1000000 in
theorem checked_ok (w : World) (B : Nat) (laid : List UInt8) (ps : List Pc) (h : IsBuf w B laid ps) (at_ n : Int) (h1 : 0 ≤ at_) (h2 : at_ ≤ (total ps : Int)) (h3 : 0 ≤ n) (h4 : n ≤ (total ps : Int) - at_) :
    Calls Tryd.prog 24 #[.pointer (some ⟨B, 0, none⟩), .int .i64 at_, .int .i64 n] w fun e W' => e = .returned .nilIface ∧ Below w.heap.size w W' := by
  have ht : total ps ≤ 4000 := by obtain ⟨_, _, _, _, _, _, _, _, _, h⟩ := h; exact h
  go_enter Tryd.func24, Tryd.ntmps24
  go_wp2_with (go_at_call 25; refine (size_any _ B laid ps h).mono ?_; rintro e w1 ⟨rfl, hb⟩)
  go_ret
  exact ⟨rfl, hb⟩

def Bad (size at_ n : Int) : Prop := at_ < 0 ∨ size < at_ ∨ n < 0 ∨ size - at_ < n
set_option maxHeartbeats 1000000 in
theorem checked_bad (w : World) (B : Nat) (laid : List UInt8) (ps : List Pc) (h : IsBuf w B laid ps) (at_ n : Int) (a0 a1 : Addr) (hv : Vars w a0 a1) (hbad : Bad (total ps) at_ n) :
    Calls Tryd.prog 24 #[.pointer (some ⟨B, 0, none⟩), .int .i64 at_, .int .i64 n] w fun e W' => e = .returned (.iface 91 (.pointer (some a1))) ∧ Below w.heap.size w W' := by
  have ht : total ps ≤ 4000 := by obtain ⟨_, _, _, _, _, _, _, _, _, h⟩ := h; exact h
  have c1 := hv.c1
  have hlt := World.block_lt_of_cell? w _ c1
  have HC : ∀ w1, Below w.heap.size w w1 → w1.cell? ⟨1, 0, none⟩ = some (.iface 91 (.pointer (some a1))) := fun w1 hb => (hb.cell (p := ⟨1, 0, none⟩) hlt).trans c1
  have HC := hid HC
  clear c1 hv hlt
  unfold Bad at hbad
  by_cases k1 : at_ < 0
  · clear hbad
    go_enter Tryd.func24, Tryd.ntmps24
    go_wp2_with (go_at_call 25; refine (size_any _ B laid ps h).mono ?_; rintro e w1 ⟨rfl, hb⟩; have c1 := HC.out w1 hb)
    go_ret
    exact ⟨rfl, hb⟩
  · by_cases k2 : (total ps : Int) < at_
    · clear hbad
      go_enter Tryd.func24, Tryd.ntmps24
      go_wp2_with (go_at_call 25; refine (size_any _ B laid ps h).mono ?_; rintro e w1 ⟨rfl, hb⟩; have c1 := HC.out w1 hb)
      go_ret
      exact ⟨rfl, hb⟩
    · by_cases k3 : n < 0
      · clear hbad
        go_enter Tryd.func24, Tryd.ntmps24
        go_wp2_with (go_at_call 25; refine (size_any _ B laid ps h).mono ?_; rintro e w1 ⟨rfl, hb⟩; have c1 := HC.out w1 hb)
        go_ret
        exact ⟨rfl, hb⟩
      · have k4 : (total ps : Int) - at_ < n := by omega
        clear hbad
        go_enter Tryd.func24, Tryd.ntmps24
        go_wp2_with (go_at_call 25; refine (size_any _ B laid ps h).mono ?_; rintro e w1 ⟨rfl, hb⟩; have c1 := HC.out w1 hb)
        go_ret
        exact ⟨rfl, hb⟩

theorem bytes_buf (w : World) (B : Nat) (laid : List UInt8) (ps qs : List Pc) (v : Value) (h : IsBuf w B laid ps) (hp : IsPcs w v qs) (hv : Valid laid.length qs) (hl : qs.length ≤ 1048576) (ht : total qs ≤ 1099511627776) :
    Calls Tryd.prog 28 #[.pointer (some ⟨B, 0, none⟩), v] w fun e W' => e = .returned (.string ⟨(textOf laid qs).toArray⟩) ∧ Below w.heap.size w W' := by
  obtain ⟨vl, vp, h1, h2, h3, h4, _⟩ := h
  exact bytes_any w B vl v laid qs h1.lt (h1.cell 0) h2 hp h4 hl hv ht

theorem total_part_le (a n : Int) (l : List Pc) : total (partL a n l) ≤ total l := by
  induction l generalizing a with
  | nil => simp [partL]
  | cons x l ih =>
    have h := ih (a - x.1.2)
    rw [partL, total_append, total_cons]
    have : total (stepPc a n x) ≤ x.1.2 := by
      unfold stepPc
      split
      · simp only [total, cutPc, List.map_cons, List.map_nil, List.sum_cons, List.sum_nil]; omega
      · simp [total]
    omega

/-- what is read -/
def readOf (t : List UInt8) (at_ n : Int) : List UInt8 := (t.take (at_ + n).toNat).drop at_.toNat

set_option maxHeartbeats 2000000 in
set_option maxRecDepth 100000 in
theorem read_ok (w : World) (B : Nat) (laid : List UInt8) (ps : List Pc) (h : IsBuf w B laid ps) (at_ n : Int) (h1 : 0 ≤ at_) (h2 : at_ ≤ (total ps : Int)) (h3 : 0 ≤ n) (h4 : n ≤ (total ps : Int) - at_) :
    Calls Tryd.prog 18 #[.pointer (some ⟨B, 0, none⟩), .int .i64 at_, .int .i64 n] w fun e W' => e = .returned (.tuple #[.string ⟨(readOf (textOf laid ps) at_ n).toArray⟩, .int .i64 0]) ∧ Below w.heap.size w W' := by
  have hps : ps.length ≤ 16384 ∧ total ps ≤ 4000 ∧ Valid laid.length ps := by obtain ⟨_, _, _, _, _, _, _, h5, h6, h7⟩ := h; exact ⟨h6, h7, h5⟩
  obtain ⟨hpl, hpt, hpv⟩ := hps
  have HT : Hid (textOf laid (partL at_ n ps) = readOf (textOf laid ps) at_ n) := hid (by rw [textOf_part _ _ _ _ hpv]; rfl)
  have hq1 := partL_length at_ n ps
  have hq2 := total_part_le at_ n ps
  have hq3 : Valid laid.length (partL at_ n ps) := partL_valid at_ n ps hpv
  go_enter Tryd.func18, Tryd.ntmps18
  go_wp2_with (go_at_call 24; refine (checked_ok _ B laid ps h at_ n h1 h2 h3 h4).mono ?_; rintro e w1 ⟨rfl, hb⟩)
  have hI := (h.below hb).drew
  go_region_with (first | (go_at_call 26; refine (part_any _ B laid ps hI at_ n h1 (by omega) h3 (by omega)).mono ?_; rintro e w2 ⟨v, rfl, hv, hb2⟩; have hI2 := hI.below hb2) | (go_at_call 28; refine (bytes_buf _ B laid ps (partL at_ n ps) _ hI2 hv hq3 (by omega) (by omega)).mono ?_; rintro e w3 ⟨rfl, hb3⟩))
  all_goals (go_wp2; simp [Act.put]; go_ret2; exact ⟨by rw [HT.out]; rfl, below_trans' hb (below_trans' (below_undrew hb2) hb3)⟩)

set_option maxHeartbeats 2000000 in
theorem read_bad (w : World) (B : Nat) (laid : List UInt8) (ps : List Pc) (h : IsBuf w B laid ps) (at_ n : Int) (a0 a1 : Addr) (hv : Vars w a0 a1) (h2 : a0.block < w.heap.size) (h3 : a1.block < w.heap.size) (hbad : Bad (total ps) at_ n) :
    Calls Tryd.prog 18 #[.pointer (some ⟨B, 0, none⟩), .int .i64 at_, .int .i64 n] w fun e W' => e = .returned (.tuple #[.string ⟨(#[] : Array UInt8)⟩, .int .i64 10]) ∧ Below w.heap.size w W' := by
  have hlt := World.block_lt_of_cell? w _ hv.c1
  have hlt' : 2 ≤ w.heap.size := hlt
  go_enter Tryd.func18, Tryd.ntmps18
  go_wp2_with (first | (go_at_call 24; refine (checked_bad _ B laid ps h at_ n a0 a1 hv hbad).mono ?_; rintro e w1 ⟨rfl, hb⟩) | (go_at_call 22; refine (told_range a0 a1 _ (hv.below hb hlt' h2 h3)).mono ?_; rintro e w2 ⟨rfl, rfl⟩))
  go_ret2
  exact ⟨rfl, hb⟩
end Go.Proofs.YtflkmdmceeefiaaDoor
