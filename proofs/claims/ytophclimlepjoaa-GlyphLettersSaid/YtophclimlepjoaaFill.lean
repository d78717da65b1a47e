/- fill$1 lays the 38 glyphs. -/
import Derived.Test.YtophclimlepjoaaAdd
import Derived.Test.YtophclimlepjoaaTyped
import Derived.Test.YtophclimlepjoaaSlow
namespace Go.Proofs.Ytophclimlepjoaa
open Go.RowKit Go.Shelf Go.Dia Go.Maps

theorem glCells_get (l : List Gl) (j : Nat) (h : j < l.length) : (glCells l)[j * 3]? = some (.string l[j].1) ∧ (glCells l)[j * 3 + 1]? = some (.string l[j].2.1) ∧ (glCells l)[j * 3 + 2]? = some (.int .i64 l[j].2.2) := by
  induction l generalizing j with
  | nil => simp at h
  | cons x l ih =>
    have e : glCells (x :: l) = .string x.1 :: .string x.2.1 :: .int .i64 x.2.2 :: glCells l := by simp [glCells]
    rw [e]
    cases j with
    | zero => simp
    | succ j =>
      have := ih j (by simpa using h)
      simpa [Nat.succ_mul] using this
theorem Tab.below {w0 w1 w : World} {b : Nat} {d s : Int} {L : List Gl} {v : Value} {B : Nat} (h : Tab w0 w1 b d s L v B) (hb : Below w1.heap.size w1 w) : Tab w0 w b d s L v B := by
  obtain ⟨h1, h2, h3, h4, h5, h6⟩ := h
  have hg := Go.Dia.Below.grow hb none
  exact ⟨h1.below hb h1.lt, h2.kept hg (by cases v.ownBlock <;> simp), h3.kept hg (by simp), h4, h5, h6.andThen hg (by simp)⟩
/-- some glyphs of a row of their own are added -/
theorem add_own (w0 w1 w : World) (b B n1 : Nat) (d s : Int) (L l : List Gl) (v a : Value) (hL : L.length + l.length ≤ 1000) (hl : l ≠ []) (hT : Tab w0 w1 b d s L v B) (hb : Below w1.heap.size w1 w) (hn : w1.heap.size ≤ n1)
    (ho : w.ownsRow n1 36 3 a l.length (glCells l)) (hz : ∀ x ∈ l, x.1.size ≤ maxLen) :
    Calls Try.prog 39 #[.pointer (some ⟨b, 0, none⟩), a] w fun e W' => e = .returned (.tuple #[]) ∧ ∃ v', Tab w0 W' b d s (L ++ l) v' B := by
  obtain ⟨g, cap, rfl, hg, hlt⟩ := ho.form (List.length_pos_iff.2 hl)
  have hT' := hT.below hb
  have hw := hT.2.2.2.2.2.size
  refine (add_any w0 w b g cap B d s L l v hL (Nat.le_trans hw hb.size) hT' hlt (by omega) ?_ ?_ ?_).mono ?_
  · intro e
    have := (hT.2.1.lt g e).2
    omega
  · intro e
    have := hT.2.2.1.lt
    omega
  · intro j hj
    obtain ⟨k1, k2, k3⟩ := glCells_get l j hj
    have hlen := glCells_length l
    exact ⟨(ho.cellAt (j * 3) (by omega)).trans k1, (ho.cellAt (j * 3 + 1) (by omega)).trans k2, (ho.cellAt (j * 3 + 2) (by omega)).trans k3, hz _ (List.getElem_mem hj)⟩
  · rintro e W' ⟨h1, v', h2, _⟩
    exact ⟨h1, v', h2⟩

theorem addr_add (b j : Nat) : (⟨b, 0, none⟩ : Addr).add j = ⟨b, j, none⟩ := by unfold Addr.add; split <;> simp_all
theorem pair_get (l : List (ByteArray × ByteArray)) (j : Nat) (h : j < l.length) : (l.flatMap fun x => [Value.string x.1, Value.string x.2])[j * 2]? = some (.string l[j].1) ∧ (l.flatMap fun x => [Value.string x.1, Value.string x.2])[j * 2 + 1]? = some (.string l[j].2) := by
  induction l generalizing j with
  | nil => simp at h
  | cons x l ih =>
    rw [List.flatMap_cons]
    cases j with
    | zero => simp
    | succ j =>
      have := ih j (by simpa using h)
      simpa [Nat.succ_mul] using this
theorem plain_new (W : World) (c : Int) (b n : Nat) (l : List ByteArray) (hl : l.length ≤ 100) (hb : b < W.heap.size) (hn : l.length = n) (hc : ∀ j v, (l.map Value.string)[j]? = some v → W.cell? ((⟨b, 0, none⟩ : Addr).add j) = some v) :
    Calls Try.prog 40 #[.int .i64 c, .slice (some ⟨b, 0, none⟩) n n] W fun e W' => ∃ v, e = .returned v ∧ W'.ownsRow W.heap.size 36 3 v l.length (glCells (plainL c l)) ∧ Below W.heap.size W W' := by
  subst hn
  refine plain_any W c b _ l hl hb fun j h => ?_
  have := hc j (.string l[j]) (by simp [h])
  rwa [addr_add] at this
theorem typed_new (W : World) (c : Int) (b n : Nat) (l : List (ByteArray × ByteArray)) (hl : l.length ≤ 100) (hb : b < W.heap.size) (hn : l.length * 2 = n) (hc : ∀ j v, (l.flatMap fun x => [Value.string x.1, Value.string x.2])[j]? = some v → W.cell? ((⟨b, 0, none⟩ : Addr).add j) = some v) :
    Calls Try.prog 41 #[.int .i64 c, .slice (some ⟨b, 0, none⟩) n n] W fun e W' => ∃ v, e = .returned v ∧ W'.ownsRow W.heap.size 36 3 v l.length (glCells (typedL c l)) ∧ Below W.heap.size W W' := by
  subst hn
  refine typed_any W c b _ l hl hb fun j h => ?_
  obtain ⟨h1, h2⟩ := pair_get l j h
  have h1 := hc _ _ h1
  have h2 := hc _ _ h2
  rw [addr_add] at h1 h2
  exact ⟨h1, h2⟩

theorem Tab.box {w0 W : World} {b : Nat} {d s : Int} {L : List Gl} {v x : Value} {B Bp : Nat} (h : Tab w0 W b d s L v B) (hb : Bp ≠ b) (hc : w0.cell? ⟨Bp, 0, none⟩ = some x) (hlt : Bp < w0.heap.size) : W.cell? ⟨Bp, 0, none⟩ = some x := by
  rw [h.2.2.2.2.2.cell_far ⟨Bp, 0, none⟩ hlt (by simp [hb])]; exact hc
theorem Tab.start {w0 : World} {b : Nat} {d s : Int} (h : Blk w0 b 53 #[.int .u32 d, .int .i32 s, .int .u32 0, .slice none 0 0, .map none]) :
    Tab w0 ((w0.setCell ⟨b, 4, none⟩ (.map (some w0.heap.size))).alloc (.map #[] 0)) b d s [] (.slice none 0 0) w0.heap.size := by
  have hlt := h.lt
  have hm := World.ownsMap_made (w0.setCell ⟨b, 4, none⟩ (.map (some w0.heap.size))) Try.prog 9 glElem
  rw [show (w0.setCell ⟨b, 4, none⟩ (.map (some w0.heap.size))).heap.size = w0.heap.size by simp] at hm
  exact ⟨(h.set 4 _).alloc _, World.ownsRow_nil _ _ _ _, hm, Nat.le_refl _, hlt, (grown_set _ b 4 _).trans (World.grownBy_alloc _ _ _)⟩

def part0 : List ByteArray := [⟨#[43]⟩, ⟨#[45]⟩]
def part1 : List (ByteArray × ByteArray) := [(⟨#[195, 151]⟩, ⟨#[120]⟩), (⟨#[195, 183]⟩, ⟨#[100]⟩), (⟨#[226, 140, 136]⟩, ⟨#[117]⟩), (⟨#[226, 140, 138]⟩, ⟨#[110]⟩)]
def part2 : List ByteArray := [⟨#[124]⟩, ⟨#[61]⟩]
def part3 : List (ByteArray × ByteArray) := [(⟨#[226, 137, 160]⟩, ⟨#[113]⟩)]
def part4 : List ByteArray := [⟨#[60]⟩, ⟨#[62]⟩]
def part5 : List (ByteArray × ByteArray) := [(⟨#[226, 137, 164]⟩, ⟨#[108]⟩), (⟨#[226, 137, 165]⟩, ⟨#[103]⟩), (⟨#[226, 136, 167]⟩, ⟨#[97]⟩), (⟨#[226, 136, 168]⟩, ⟨#[111]⟩)]
def part6 : List ByteArray := [⟨#[126]⟩]
def part7 : List (ByteArray × ByteArray) := [(⟨#[226, 141, 180]⟩, ⟨#[114]⟩), (⟨#[226, 141, 179]⟩, ⟨#[105]⟩)]
def part8 : List ByteArray := [⟨#[44]⟩]
def part9 : List (ByteArray × ByteArray) := [(⟨#[226, 140, 189]⟩, ⟨#[116]⟩), (⟨#[226, 134, 145]⟩, ⟨#[107]⟩), (⟨#[226, 134, 147]⟩, ⟨#[106]⟩), (⟨#[226, 137, 162]⟩, ⟨#[109]⟩)]
def part10 : List ByteArray := [⟨#[47]⟩, ⟨#[92]⟩]
def part11 : List (ByteArray × ByteArray) := [(⟨#[194, 168]⟩, ⟨#[101]⟩), (⟨#[226, 141, 168]⟩, ⟨#[99]⟩)]
def part12 : List (ByteArray × ByteArray) := [(⟨#[226, 134, 144]⟩, ⟨#[115]⟩), (⟨#[226, 139, 132]⟩, ⟨#[122]⟩)]
def part13 : List ByteArray := [⟨#[58]⟩, ⟨#[123]⟩, ⟨#[125]⟩, ⟨#[40]⟩, ⟨#[41]⟩]
def part14 : List (ByteArray × ByteArray) := [(⟨#[226, 141, 186]⟩, ⟨#[112]⟩), (⟨#[226, 141, 181]⟩, ⟨#[119]⟩)]
def part15 : List (ByteArray × ByteArray) := [(⟨#[194, 175]⟩, ⟨#[104]⟩)]
def part16 : List (ByteArray × ByteArray) := [(⟨#[226, 141, 157]⟩, ⟨#[98]⟩)]
/-- all glyphs -/
def allG : List Gl := [] ++ plainL 1 part0 ++ typedL 1 part1 ++ plainL 1 part2 ++ typedL 1 part3 ++ plainL 1 part4 ++ typedL 1 part5 ++ plainL 1 part6 ++ typedL 1 part7 ++ plainL 1 part8 ++ typedL 1 part9 ++ plainL 2 part10 ++ typedL 2 part11 ++ typedL 3 part12 ++ plainL 3 part13 ++ typedL 4 part14 ++ typedL 5 part15 ++ typedL 6 part16

set_option maxRecDepth 100000 in
set_option maxHeartbeats 8000000 in
theorem fill1 (w0 : World) (b Bp : Nat) (d s : Int) (hT : Blk w0 b 53 #[.int .u32 d, .int .i32 s, .int .u32 0, .slice none 0 0, .map none]) (hB : w0.cell? ⟨Bp, 0, none⟩ = some (.pointer (some ⟨b, 0, none⟩))) (hBp : Bp < w0.heap.size) (hne : Bp ≠ b) :
    Calls Try.prog 38 #[.pointer (some ⟨Bp, 0, none⟩)] w0 fun e W' => e = .returned (.tuple #[]) ∧ ∃ v B, Tab w0 W' b d s allG v B := by
  have hmm := @run_makeMap Try.prog
  have c0 := hT.cell 0
  have c1 := hT.cell 1
  have c2 := hT.cell 2
  have c3 := hT.cell 3
  have c4 := hT.cell 4
  have hlt := hT.lt
  have f4 := hT.frozen 4
  have T0 := hid (Tab.start hT)
  clear hT
  go_enter Try.func38, Try.ntmps38
  go_wp2
  generalize (w0.setCell ⟨b, 4, none⟩ (.map (some w0.heap.size))).alloc (.map #[] 0) = W0 at T0 ⊢
  have hsz0 := hid T0.out.2.2.2.2.2.size
  have hbx0 := T0.out.box hne hB hBp
  go_region_held3 (fun w' => w'.cell? ⟨Bp, 0, none⟩ = some (.pointer (some ⟨b, 0, none⟩))) (go_keep) (first | (go_at_call 40; refine Calls.mono (plain_new _ 1 _ _ part0 (by decide) (by simp) rfl (fun j u h => cells_new W0 _ _ j u h)) ?_; rintro e V0 ⟨a0, rfl, hown0, hbl0⟩; have hby0 : V0.cell? ⟨Bp, 0, none⟩ = some (.pointer (some ⟨b, 0, none⟩)) := (hbl0.cell (p := ⟨Bp, 0, none⟩) (by have := hsz0.out; simp; omega)).trans ((World.cell?_alloc_past (w := W0) _ Bp 0 (by have := hsz0.out; omega)).trans hbx0)) | (go_at_call 39; refine Calls.mono (add_own w0 W0 V0 b _ _ d s _ (plainL 1 part0) _ _ (by decide) (by decide) T0.out ((((Below.refl _ W0).alloc (Nat.le_refl _) _).drew).trans (hbl0.mono (by simp))) (by simp) hown0 (by decide)) ?_; rintro e W1 ⟨rfl, v0, T1⟩; have hbx1 := T1.box hne hB hBp))
  have T1 := hid T1
  have hsz1 := hid T1.out.2.2.2.2.2.size
  clear hown0 hbl0 hby0 T0 hbx0 hsz0
  go_wp2
  have hbx1 := T1.out.box hne hB hBp
  go_region_held3 (fun w' => w'.cell? ⟨Bp, 0, none⟩ = some (.pointer (some ⟨b, 0, none⟩))) (go_keep) (first | (go_at_call 41; refine Calls.mono (typed_new _ 1 _ _ part1 (by decide) (by simp) rfl (fun j u h => cells_new W1 _ _ j u h)) ?_; rintro e V1 ⟨a1, rfl, hown1, hbl1⟩; have hby1 : V1.cell? ⟨Bp, 0, none⟩ = some (.pointer (some ⟨b, 0, none⟩)) := (hbl1.cell (p := ⟨Bp, 0, none⟩) (by have := hsz1.out; simp; omega)).trans ((World.cell?_alloc_past (w := W1) _ Bp 0 (by have := hsz1.out; omega)).trans hbx1)) | (go_at_call 39; refine Calls.mono (add_own w0 W1 V1 b _ _ d s _ (typedL 1 part1) _ _ (by decide) (by decide) T1.out ((((Below.refl _ W1).alloc (Nat.le_refl _) _).drew).trans (hbl1.mono (by simp))) (by simp) hown1 (by decide)) ?_; rintro e W2 ⟨rfl, v1, T2⟩; have hbx2 := T2.box hne hB hBp))
  have T2 := hid T2
  have hsz2 := hid T2.out.2.2.2.2.2.size
  clear hown1 hbl1 hby1 T1 hbx1 hsz1
  go_wp2
  have hbx2 := T2.out.box hne hB hBp
  go_region_held3 (fun w' => w'.cell? ⟨Bp, 0, none⟩ = some (.pointer (some ⟨b, 0, none⟩))) (go_keep) (first | (go_at_call 40; refine Calls.mono (plain_new _ 1 _ _ part2 (by decide) (by simp) rfl (fun j u h => cells_new W2 _ _ j u h)) ?_; rintro e V2 ⟨a2, rfl, hown2, hbl2⟩; have hby2 : V2.cell? ⟨Bp, 0, none⟩ = some (.pointer (some ⟨b, 0, none⟩)) := (hbl2.cell (p := ⟨Bp, 0, none⟩) (by have := hsz2.out; simp; omega)).trans ((World.cell?_alloc_past (w := W2) _ Bp 0 (by have := hsz2.out; omega)).trans hbx2)) | (go_at_call 39; refine Calls.mono (add_own w0 W2 V2 b _ _ d s _ (plainL 1 part2) _ _ (by decide) (by decide) T2.out ((((Below.refl _ W2).alloc (Nat.le_refl _) _).drew).trans (hbl2.mono (by simp))) (by simp) hown2 (by decide)) ?_; rintro e W3 ⟨rfl, v2, T3⟩; have hbx3 := T3.box hne hB hBp))
  have T3 := hid T3
  have hsz3 := hid T3.out.2.2.2.2.2.size
  clear hown2 hbl2 hby2 T2 hbx2 hsz2
  go_wp2
  have hbx3 := T3.out.box hne hB hBp
  go_region_held3 (fun w' => w'.cell? ⟨Bp, 0, none⟩ = some (.pointer (some ⟨b, 0, none⟩))) (go_keep) (first | (go_at_call 41; refine Calls.mono (typed_new _ 1 _ _ part3 (by decide) (by simp) rfl (fun j u h => cells_new W3 _ _ j u h)) ?_; rintro e V3 ⟨a3, rfl, hown3, hbl3⟩; have hby3 : V3.cell? ⟨Bp, 0, none⟩ = some (.pointer (some ⟨b, 0, none⟩)) := (hbl3.cell (p := ⟨Bp, 0, none⟩) (by have := hsz3.out; simp; omega)).trans ((World.cell?_alloc_past (w := W3) _ Bp 0 (by have := hsz3.out; omega)).trans hbx3)) | (go_at_call 39; refine Calls.mono (add_own w0 W3 V3 b _ _ d s _ (typedL 1 part3) _ _ (by decide) (by decide) T3.out ((((Below.refl _ W3).alloc (Nat.le_refl _) _).drew).trans (hbl3.mono (by simp))) (by simp) hown3 (by decide)) ?_; rintro e W4 ⟨rfl, v3, T4⟩; have hbx4 := T4.box hne hB hBp))
  have T4 := hid T4
  have hsz4 := hid T4.out.2.2.2.2.2.size
  clear hown3 hbl3 hby3 T3 hbx3 hsz3
  go_wp2
  have hbx4 := T4.out.box hne hB hBp
  go_region_held3 (fun w' => w'.cell? ⟨Bp, 0, none⟩ = some (.pointer (some ⟨b, 0, none⟩))) (go_keep) (first | (go_at_call 40; refine Calls.mono (plain_new _ 1 _ _ part4 (by decide) (by simp) rfl (fun j u h => cells_new W4 _ _ j u h)) ?_; rintro e V4 ⟨a4, rfl, hown4, hbl4⟩; have hby4 : V4.cell? ⟨Bp, 0, none⟩ = some (.pointer (some ⟨b, 0, none⟩)) := (hbl4.cell (p := ⟨Bp, 0, none⟩) (by have := hsz4.out; simp; omega)).trans ((World.cell?_alloc_past (w := W4) _ Bp 0 (by have := hsz4.out; omega)).trans hbx4)) | (go_at_call 39; refine Calls.mono (add_own w0 W4 V4 b _ _ d s _ (plainL 1 part4) _ _ (by decide) (by decide) T4.out ((((Below.refl _ W4).alloc (Nat.le_refl _) _).drew).trans (hbl4.mono (by simp))) (by simp) hown4 (by decide)) ?_; rintro e W5 ⟨rfl, v4, T5⟩; have hbx5 := T5.box hne hB hBp))
  have T5 := hid T5
  have hsz5 := hid T5.out.2.2.2.2.2.size
  clear hown4 hbl4 hby4 T4 hbx4 hsz4
  go_wp2
  have hbx5 := T5.out.box hne hB hBp
  go_region_held3 (fun w' => w'.cell? ⟨Bp, 0, none⟩ = some (.pointer (some ⟨b, 0, none⟩))) (go_keep) (first | (go_at_call 41; refine Calls.mono (typed_new _ 1 _ _ part5 (by decide) (by simp) rfl (fun j u h => cells_new W5 _ _ j u h)) ?_; rintro e V5 ⟨a5, rfl, hown5, hbl5⟩; have hby5 : V5.cell? ⟨Bp, 0, none⟩ = some (.pointer (some ⟨b, 0, none⟩)) := (hbl5.cell (p := ⟨Bp, 0, none⟩) (by have := hsz5.out; simp; omega)).trans ((World.cell?_alloc_past (w := W5) _ Bp 0 (by have := hsz5.out; omega)).trans hbx5)) | (go_at_call 39; refine Calls.mono (add_own w0 W5 V5 b _ _ d s _ (typedL 1 part5) _ _ (by decide) (by decide) T5.out ((((Below.refl _ W5).alloc (Nat.le_refl _) _).drew).trans (hbl5.mono (by simp))) (by simp) hown5 (by decide)) ?_; rintro e W6 ⟨rfl, v5, T6⟩; have hbx6 := T6.box hne hB hBp))
  have T6 := hid T6
  have hsz6 := hid T6.out.2.2.2.2.2.size
  clear hown5 hbl5 hby5 T5 hbx5 hsz5
  go_wp2
  have hbx6 := T6.out.box hne hB hBp
  go_region_held3 (fun w' => w'.cell? ⟨Bp, 0, none⟩ = some (.pointer (some ⟨b, 0, none⟩))) (go_keep) (first | (go_at_call 40; refine Calls.mono (plain_new _ 1 _ _ part6 (by decide) (by simp) rfl (fun j u h => cells_new W6 _ _ j u h)) ?_; rintro e V6 ⟨a6, rfl, hown6, hbl6⟩; have hby6 : V6.cell? ⟨Bp, 0, none⟩ = some (.pointer (some ⟨b, 0, none⟩)) := (hbl6.cell (p := ⟨Bp, 0, none⟩) (by have := hsz6.out; simp; omega)).trans ((World.cell?_alloc_past (w := W6) _ Bp 0 (by have := hsz6.out; omega)).trans hbx6)) | (go_at_call 39; refine Calls.mono (add_own w0 W6 V6 b _ _ d s _ (plainL 1 part6) _ _ (by decide) (by decide) T6.out ((((Below.refl _ W6).alloc (Nat.le_refl _) _).drew).trans (hbl6.mono (by simp))) (by simp) hown6 (by decide)) ?_; rintro e W7 ⟨rfl, v6, T7⟩; have hbx7 := T7.box hne hB hBp))
  have T7 := hid T7
  have hsz7 := hid T7.out.2.2.2.2.2.size
  clear hown6 hbl6 hby6 T6 hbx6 hsz6
  go_wp2
  have hbx7 := T7.out.box hne hB hBp
  go_region_held3 (fun w' => w'.cell? ⟨Bp, 0, none⟩ = some (.pointer (some ⟨b, 0, none⟩))) (go_keep) (first | (go_at_call 41; refine Calls.mono (typed_new _ 1 _ _ part7 (by decide) (by simp) rfl (fun j u h => cells_new W7 _ _ j u h)) ?_; rintro e V7 ⟨a7, rfl, hown7, hbl7⟩; have hby7 : V7.cell? ⟨Bp, 0, none⟩ = some (.pointer (some ⟨b, 0, none⟩)) := (hbl7.cell (p := ⟨Bp, 0, none⟩) (by have := hsz7.out; simp; omega)).trans ((World.cell?_alloc_past (w := W7) _ Bp 0 (by have := hsz7.out; omega)).trans hbx7)) | (go_at_call 39; refine Calls.mono (add_own w0 W7 V7 b _ _ d s _ (typedL 1 part7) _ _ (by decide) (by decide) T7.out ((((Below.refl _ W7).alloc (Nat.le_refl _) _).drew).trans (hbl7.mono (by simp))) (by simp) hown7 (by decide)) ?_; rintro e W8 ⟨rfl, v7, T8⟩; have hbx8 := T8.box hne hB hBp))
  have T8 := hid T8
  have hsz8 := hid T8.out.2.2.2.2.2.size
  clear hown7 hbl7 hby7 T7 hbx7 hsz7
  go_wp2
  have hbx8 := T8.out.box hne hB hBp
  go_region_held3 (fun w' => w'.cell? ⟨Bp, 0, none⟩ = some (.pointer (some ⟨b, 0, none⟩))) (go_keep) (first | (go_at_call 40; refine Calls.mono (plain_new _ 1 _ _ part8 (by decide) (by simp) rfl (fun j u h => cells_new W8 _ _ j u h)) ?_; rintro e V8 ⟨a8, rfl, hown8, hbl8⟩; have hby8 : V8.cell? ⟨Bp, 0, none⟩ = some (.pointer (some ⟨b, 0, none⟩)) := (hbl8.cell (p := ⟨Bp, 0, none⟩) (by have := hsz8.out; simp; omega)).trans ((World.cell?_alloc_past (w := W8) _ Bp 0 (by have := hsz8.out; omega)).trans hbx8)) | (go_at_call 39; refine Calls.mono (add_own w0 W8 V8 b _ _ d s _ (plainL 1 part8) _ _ (by decide) (by decide) T8.out ((((Below.refl _ W8).alloc (Nat.le_refl _) _).drew).trans (hbl8.mono (by simp))) (by simp) hown8 (by decide)) ?_; rintro e W9 ⟨rfl, v8, T9⟩; have hbx9 := T9.box hne hB hBp))
  have T9 := hid T9
  have hsz9 := hid T9.out.2.2.2.2.2.size
  clear hown8 hbl8 hby8 T8 hbx8 hsz8
  go_wp2
  have hbx9 := T9.out.box hne hB hBp
  go_region_held3 (fun w' => w'.cell? ⟨Bp, 0, none⟩ = some (.pointer (some ⟨b, 0, none⟩))) (go_keep) (first | (go_at_call 41; refine Calls.mono (typed_new _ 1 _ _ part9 (by decide) (by simp) rfl (fun j u h => cells_new W9 _ _ j u h)) ?_; rintro e V9 ⟨a9, rfl, hown9, hbl9⟩; have hby9 : V9.cell? ⟨Bp, 0, none⟩ = some (.pointer (some ⟨b, 0, none⟩)) := (hbl9.cell (p := ⟨Bp, 0, none⟩) (by have := hsz9.out; simp; omega)).trans ((World.cell?_alloc_past (w := W9) _ Bp 0 (by have := hsz9.out; omega)).trans hbx9)) | (go_at_call 39; refine Calls.mono (add_own w0 W9 V9 b _ _ d s _ (typedL 1 part9) _ _ (by decide) (by decide) T9.out ((((Below.refl _ W9).alloc (Nat.le_refl _) _).drew).trans (hbl9.mono (by simp))) (by simp) hown9 (by decide)) ?_; rintro e W10 ⟨rfl, v9, T10⟩; have hbx10 := T10.box hne hB hBp))
  have T10 := hid T10
  have hsz10 := hid T10.out.2.2.2.2.2.size
  clear hown9 hbl9 hby9 T9 hbx9 hsz9
  go_wp2
  have hbx10 := T10.out.box hne hB hBp
  go_region_held3 (fun w' => w'.cell? ⟨Bp, 0, none⟩ = some (.pointer (some ⟨b, 0, none⟩))) (go_keep) (first | (go_at_call 40; refine Calls.mono (plain_new _ 2 _ _ part10 (by decide) (by simp) rfl (fun j u h => cells_new W10 _ _ j u h)) ?_; rintro e V10 ⟨a10, rfl, hown10, hbl10⟩; have hby10 : V10.cell? ⟨Bp, 0, none⟩ = some (.pointer (some ⟨b, 0, none⟩)) := (hbl10.cell (p := ⟨Bp, 0, none⟩) (by have := hsz10.out; simp; omega)).trans ((World.cell?_alloc_past (w := W10) _ Bp 0 (by have := hsz10.out; omega)).trans hbx10)) | (go_at_call 39; refine Calls.mono (add_own w0 W10 V10 b _ _ d s _ (plainL 2 part10) _ _ (by decide) (by decide) T10.out ((((Below.refl _ W10).alloc (Nat.le_refl _) _).drew).trans (hbl10.mono (by simp))) (by simp) hown10 (by decide)) ?_; rintro e W11 ⟨rfl, v10, T11⟩; have hbx11 := T11.box hne hB hBp))
  have T11 := hid T11
  have hsz11 := hid T11.out.2.2.2.2.2.size
  clear hown10 hbl10 hby10 T10 hbx10 hsz10
  go_wp2
  have hbx11 := T11.out.box hne hB hBp
  go_region_held3 (fun w' => w'.cell? ⟨Bp, 0, none⟩ = some (.pointer (some ⟨b, 0, none⟩))) (go_keep) (first | (go_at_call 41; refine Calls.mono (typed_new _ 2 _ _ part11 (by decide) (by simp) rfl (fun j u h => cells_new W11 _ _ j u h)) ?_; rintro e V11 ⟨a11, rfl, hown11, hbl11⟩; have hby11 : V11.cell? ⟨Bp, 0, none⟩ = some (.pointer (some ⟨b, 0, none⟩)) := (hbl11.cell (p := ⟨Bp, 0, none⟩) (by have := hsz11.out; simp; omega)).trans ((World.cell?_alloc_past (w := W11) _ Bp 0 (by have := hsz11.out; omega)).trans hbx11)) | (go_at_call 39; refine Calls.mono (add_own w0 W11 V11 b _ _ d s _ (typedL 2 part11) _ _ (by decide) (by decide) T11.out ((((Below.refl _ W11).alloc (Nat.le_refl _) _).drew).trans (hbl11.mono (by simp))) (by simp) hown11 (by decide)) ?_; rintro e W12 ⟨rfl, v11, T12⟩; have hbx12 := T12.box hne hB hBp))
  have T12 := hid T12
  have hsz12 := hid T12.out.2.2.2.2.2.size
  clear hown11 hbl11 hby11 T11 hbx11 hsz11
  go_wp2
  have hbx12 := T12.out.box hne hB hBp
  go_region_held3 (fun w' => w'.cell? ⟨Bp, 0, none⟩ = some (.pointer (some ⟨b, 0, none⟩))) (go_keep) (first | (go_at_call 41; refine Calls.mono (typed_new _ 3 _ _ part12 (by decide) (by simp) rfl (fun j u h => cells_new W12 _ _ j u h)) ?_; rintro e V12 ⟨a12, rfl, hown12, hbl12⟩; have hby12 : V12.cell? ⟨Bp, 0, none⟩ = some (.pointer (some ⟨b, 0, none⟩)) := (hbl12.cell (p := ⟨Bp, 0, none⟩) (by have := hsz12.out; simp; omega)).trans ((World.cell?_alloc_past (w := W12) _ Bp 0 (by have := hsz12.out; omega)).trans hbx12)) | (go_at_call 39; refine Calls.mono (add_own w0 W12 V12 b _ _ d s _ (typedL 3 part12) _ _ (by decide) (by decide) T12.out ((((Below.refl _ W12).alloc (Nat.le_refl _) _).drew).trans (hbl12.mono (by simp))) (by simp) hown12 (by decide)) ?_; rintro e W13 ⟨rfl, v12, T13⟩; have hbx13 := T13.box hne hB hBp))
  have T13 := hid T13
  have hsz13 := hid T13.out.2.2.2.2.2.size
  clear hown12 hbl12 hby12 T12 hbx12 hsz12
  go_wp2
  have hbx13 := T13.out.box hne hB hBp
  go_region_held3 (fun w' => w'.cell? ⟨Bp, 0, none⟩ = some (.pointer (some ⟨b, 0, none⟩))) (go_keep) (first | (go_at_call 40; refine Calls.mono (plain_new _ 3 _ _ part13 (by decide) (by simp) rfl (fun j u h => cells_new W13 _ _ j u h)) ?_; rintro e V13 ⟨a13, rfl, hown13, hbl13⟩; have hby13 : V13.cell? ⟨Bp, 0, none⟩ = some (.pointer (some ⟨b, 0, none⟩)) := (hbl13.cell (p := ⟨Bp, 0, none⟩) (by have := hsz13.out; simp; omega)).trans ((World.cell?_alloc_past (w := W13) _ Bp 0 (by have := hsz13.out; omega)).trans hbx13)) | (go_at_call 39; refine Calls.mono (add_own w0 W13 V13 b _ _ d s _ (plainL 3 part13) _ _ (by decide) (by decide) T13.out ((((Below.refl _ W13).alloc (Nat.le_refl _) _).drew).trans (hbl13.mono (by simp))) (by simp) hown13 (by decide)) ?_; rintro e W14 ⟨rfl, v13, T14⟩; have hbx14 := T14.box hne hB hBp))
  have T14 := hid T14
  have hsz14 := hid T14.out.2.2.2.2.2.size
  clear hown13 hbl13 hby13 T13 hbx13 hsz13
  go_wp2
  have hbx14 := T14.out.box hne hB hBp
  go_region_held3 (fun w' => w'.cell? ⟨Bp, 0, none⟩ = some (.pointer (some ⟨b, 0, none⟩))) (go_keep) (first | (go_at_call 41; refine Calls.mono (typed_new _ 4 _ _ part14 (by decide) (by simp) rfl (fun j u h => cells_new W14 _ _ j u h)) ?_; rintro e V14 ⟨a14, rfl, hown14, hbl14⟩; have hby14 : V14.cell? ⟨Bp, 0, none⟩ = some (.pointer (some ⟨b, 0, none⟩)) := (hbl14.cell (p := ⟨Bp, 0, none⟩) (by have := hsz14.out; simp; omega)).trans ((World.cell?_alloc_past (w := W14) _ Bp 0 (by have := hsz14.out; omega)).trans hbx14)) | (go_at_call 39; refine Calls.mono (add_own w0 W14 V14 b _ _ d s _ (typedL 4 part14) _ _ (by decide) (by decide) T14.out ((((Below.refl _ W14).alloc (Nat.le_refl _) _).drew).trans (hbl14.mono (by simp))) (by simp) hown14 (by decide)) ?_; rintro e W15 ⟨rfl, v14, T15⟩; have hbx15 := T15.box hne hB hBp))
  have T15 := hid T15
  have hsz15 := hid T15.out.2.2.2.2.2.size
  clear hown14 hbl14 hby14 T14 hbx14 hsz14
  go_wp2
  have hbx15 := T15.out.box hne hB hBp
  go_region_held3 (fun w' => w'.cell? ⟨Bp, 0, none⟩ = some (.pointer (some ⟨b, 0, none⟩))) (go_keep) (first | (go_at_call 41; refine Calls.mono (typed_new _ 5 _ _ part15 (by decide) (by simp) rfl (fun j u h => cells_new W15 _ _ j u h)) ?_; rintro e V15 ⟨a15, rfl, hown15, hbl15⟩; have hby15 : V15.cell? ⟨Bp, 0, none⟩ = some (.pointer (some ⟨b, 0, none⟩)) := (hbl15.cell (p := ⟨Bp, 0, none⟩) (by have := hsz15.out; simp; omega)).trans ((World.cell?_alloc_past (w := W15) _ Bp 0 (by have := hsz15.out; omega)).trans hbx15)) | (go_at_call 39; refine Calls.mono (add_own w0 W15 V15 b _ _ d s _ (typedL 5 part15) _ _ (by decide) (by decide) T15.out ((((Below.refl _ W15).alloc (Nat.le_refl _) _).drew).trans (hbl15.mono (by simp))) (by simp) hown15 (by decide)) ?_; rintro e W16 ⟨rfl, v15, T16⟩; have hbx16 := T16.box hne hB hBp))
  have T16 := hid T16
  have hsz16 := hid T16.out.2.2.2.2.2.size
  clear hown15 hbl15 hby15 T15 hbx15 hsz15
  go_wp2
  have hbx16 := T16.out.box hne hB hBp
  go_region_held3 (fun w' => w'.cell? ⟨Bp, 0, none⟩ = some (.pointer (some ⟨b, 0, none⟩))) (go_keep) (first | (go_at_call 41; refine Calls.mono (typed_new _ 6 _ _ part16 (by decide) (by simp) rfl (fun j u h => cells_new W16 _ _ j u h)) ?_; rintro e V16 ⟨a16, rfl, hown16, hbl16⟩; have hby16 : V16.cell? ⟨Bp, 0, none⟩ = some (.pointer (some ⟨b, 0, none⟩)) := (hbl16.cell (p := ⟨Bp, 0, none⟩) (by have := hsz16.out; simp; omega)).trans ((World.cell?_alloc_past (w := W16) _ Bp 0 (by have := hsz16.out; omega)).trans hbx16)) | (go_at_call 39; refine Calls.mono (add_own w0 W16 V16 b _ _ d s _ (typedL 6 part16) _ _ (by decide) (by decide) T16.out ((((Below.refl _ W16).alloc (Nat.le_refl _) _).drew).trans (hbl16.mono (by simp))) (by simp) hown16 (by decide)) ?_; rintro e W17 ⟨rfl, v16, T17⟩; have hbx17 := T17.box hne hB hBp))
  have T17 := hid T17
  have hsz17 := hid T17.out.2.2.2.2.2.size
  clear hown16 hbl16 hby16 T16 hbx16 hsz16
  go_wp2
  go_end0
  exact ⟨rfl, _, _, T17.out⟩
end Go.Proofs.Ytophclimlepjoaa
