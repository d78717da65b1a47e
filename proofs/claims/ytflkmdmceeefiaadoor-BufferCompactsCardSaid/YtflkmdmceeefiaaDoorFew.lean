/- Few: the first so many splices; splices that lie in memory. -/
import Derived.Test.YtflkmdmceeefiaaDoorNils
import Derived.Deep.RegionHeld3
import Derived.Deep.AppendLies
namespace Go.Proofs.YtflkmdmceeefiaaDoor
open Go.RowKit Go.Shelf Go.Dia

/-- splices -/
abbrev Spl := Int × Int × ByteArray
def actCells (l : List Spl) : List Value := l.flatMap fun x => [.int .i64 x.1, .int .i64 x.2.1, .string x.2.2]
theorem actCells_length (l : List Spl) : (actCells l).length = l.length * 3 := by
  induction l with
  | nil => rfl
  | cons x l ih => simp only [actCells, List.flatMap_cons, List.length_append, List.length_cons, List.length_nil] at ih ⊢; omega
theorem actCells_append (a b : List Spl) : actCells (a ++ b) = actCells a ++ actCells b := by simp [actCells]
def fewL (l : List Spl) (n : Nat) : List Spl := (l.take n).map fun x => (x.1, x.2.1, cutB x.2.2)
theorem fewL_succ (l : List Spl) (k : Nat) (h : k < l.length) : fewL l (k + 1) = fewL l k ++ [(l[k].1, l[k].2.1, cutB l[k].2.2)] := by
  unfold fewL; rw [List.take_succ_eq_append_getElem h, List.map_append]; rfl
theorem fewL_length (l : List Spl) (k : Nat) (h : k ≤ l.length) : (fewL l k).length = k := by simp [fewL]; omega
theorem own_mono {W : World} {a b e size n : Nat} {v : Value} {xs : List Value} (h : W.ownsRow a e size v n xs) (hb : b ≤ a) : W.ownsRow b e size v n xs := by
  refine ⟨h.1, ?_⟩
  rcases h.2 with h | ⟨g, cap, cur, hv, hg, r⟩
  · exact .inl h
  · exact .inr ⟨g, cap, cur, hv, by omega, r⟩
theorem infoAct : (Tryd.prog.info? 31).map (fun i => (i.zero, i.size, i.bytes)) = some (some (.agg #[.int .i64 0, .int .i64 0, .string ⟨#[]⟩]), 3, 32) := by kernel_rfl

set_option maxRecDepth 100000 in
set_option maxHeartbeats 4000000 in
theorem few_some (w : World) (b off cap : Nat) (l : List Spl) (n : Nat) (hn : n ≤ 40) (hb : b < w.heap.size)
    (hc : ∀ j (h : j < l.length), w.cell? ⟨b, off + j * 3, none⟩ = some (.int .i64 l[j].1) ∧ w.cell? ⟨b, off + j * 3 + 1, none⟩ = some (.int .i64 l[j].2.1) ∧ w.cell? ⟨b, off + j * 3 + 2, none⟩ = some (.string l[j].2.2) ∧ l[j].2.2.size ≤ maxLen) :
    Calls Tryd.prog 13 #[.slice (some ⟨b, off, none⟩) l.length cap, .int .i64 n] w fun e W' => ∃ v, e = .returned v ∧ W'.ownsRow 0 31 3 v (fewL l n).length (actCells (fewL l n)) ∧ Below w.heap.size w W' := by
  obtain ⟨i0, hi, hz0, hz1, hz2⟩ := info_parts infoAct
  have HC := hid hc
  clear hc
  go_enter Tryd.func13, Tryd.ntmps13
  go_wp2
  go_loopw [5, 6] (fun v i wr => ∃ k : Nat, k ≤ n ∧ k ≤ l.length ∧ i = .int .i64 k ∧ wr.ownsRow w.heap.size 31 3 v (fewL l k).length (actCells (fewL l k)) ∧ Below w.heap.size w wr) (fun _ i _ => n - (intOf i).toNat)
  case atStart => exact ⟨0, Nat.zero_le _, Nat.zero_le _, rfl, World.ownsRow_nil _ _ _ _, Below.refl _ _⟩
  case round =>
    obtain ⟨k, hk, hkl, rfl, hv, hbl⟩ := hrel
    by_cases h1 : k < l.length
    · by_cases h2 : k < n
      · obtain ⟨cA, cB, cC, hsz⟩ := HC.out k h1
        obtain ⟨xa, hxa⟩ : ∃ xa, l[k].1 = xa := ⟨_, rfl⟩
        obtain ⟨xn, hxn⟩ : ∃ xn, l[k].2.1 = xn := ⟨_, rfl⟩
        obtain ⟨xs, hxs⟩ : ∃ xs, l[k].2.2 = xs := ⟨_, rfl⟩
        have HS : Hid (fewL l (k + 1) = fewL l k ++ [(xa, xn, cutB xs)]) := hid (by rw [fewL_succ l k h1, hxa, hxn, hxs])
        have HLN : Hid ((fewL l k).length = k) := hid (fewL_length l k hkl)
        rw [hxa] at cA; rw [hxn] at cB; rw [hxs] at cC hsz
        clear hxa hxn hxs
        have dA : wr.cell? ⟨b, off + k * 3, none⟩ = some (.int .i64 xa) := (hbl.cell (p := ⟨b, off + k * 3, none⟩) hb).trans cA
        have dB : wr.cell? ⟨b, off + k * 3 + 1, none⟩ = some (.int .i64 xn) := (hbl.cell (p := ⟨b, off + k * 3 + 1, none⟩) hb).trans cB
        have dC : wr.cell? ⟨b, off + k * 3 + 2, none⟩ = some (.string xs) := (hbl.cell (p := ⟨b, off + k * 3 + 2, none⟩) hb).trans cC
        clear cA cB cC
        rw [HLN.out] at hv
        have hws := hbl.size
        have hk40 : k ≤ 40 := by omega
        go_wp2
        have B0 : Below w.heap.size wr (wr.alloc (.cells #[.int .i64 xa, .int .i64 xn, .string (cutB xs)] 31)).drew := ((Below.refl _ _).alloc hws _).drew
        have hvd : (wr.alloc (.cells #[.int .i64 xa, .int .i64 xn, .string (cutB xs)] 31)).drew.ownsRow w.heap.size 31 3 u5 k (actCells (fewL l k)) := hv.alloc _
        have gA := (B0.cell (p := ⟨b, off + k * 3, none⟩) hb).trans dA
        have gB := (B0.cell (p := ⟨b, off + k * 3 + 1, none⟩) hb).trans dB
        have gC := (B0.cell (p := ⟨b, off + k * 3 + 2, none⟩) hb).trans dC
        have wfar : ∀ W1 : World, (wr.alloc (.cells #[.int .i64 xa, .int .i64 xn, .string (cutB xs)] 31)).drew.grownBy W1 u5.ownBlock → Below w.heap.size wr W1 := fun W1 hg => B0.grown hg (Nat.le_trans hws B0.size) (fun k hk => (hvd.lt k hk).1)
        have wfar := hid wfar
        go_region_held3 (fun w' => w'.cell? ⟨b, off + k * 3, none⟩ = some (.int .i64 xa) ∧ w'.cell? ⟨b, off + k * 3 + 1, none⟩ = some (.int .i64 xn) ∧ w'.cell? ⟨b, off + k * 3 + 2, none⟩ = some (.string xs)) (go_keep) (first | (go_at_call 11; refine (cut_any _ _ hsz).mono ?_; rintro e w1 ⟨rfl, rfl⟩) | (refine step_append_lies _ rfl _ _ 22 rfl w.heap.size 31 i0 (.agg #[.int .i64 0, .int .i64 0, .string ⟨#[]⟩]) 3 32 Tryd.underlying22 hi hz0 hz1 hz2 rfl (by decide) _ _ _ rfl hvd ⟨_, 0, none⟩ 1 1 [.int .i64 xa, .int .i64 xn, .string (cutB xs)] rfl rfl (cells_new _ _ _) (by simp [Value.oneCell']) (by decide) (by unfold maxLen; omega) (by omega) (by simp; omega) _ rfl ?_; intro g' cap' w1 hown' hgrow hat hlt'; have hB1 := wfar.out w1 hgrow; have eA := (hB1.cell (p := ⟨b, off + k * 3, none⟩) hb).trans dA; have eB := (hB1.cell (p := ⟨b, off + k * 3 + 1, none⟩) hb).trans dB; have eC := (hB1.cell (p := ⟨b, off + k * 3 + 2, none⟩) hb).trans dC))
        go_wp2
        go_roundw
        case rel => exact ⟨k + 1, by omega, by omega, by go_num, by rw [HS.out, actCells_append, List.length_append, HLN.out]; exact hown', hbl.trans hB1⟩
        case measure => simp [intOf]; omega
      · obtain rfl : k = n := by omega
        go_wp2
        go_ret
        exact ⟨_, rfl, own_mono hv (Nat.zero_le _), hbl⟩
    · obtain rfl : k = l.length := by omega
      have HF : Hid (fewL l l.length = fewL l n) := hid (by unfold fewL; rw [List.take_of_length_le (Nat.le_refl _), List.take_of_length_le hk])
      go_wp2
      go_ret
      exact ⟨_, rfl, by rw [← HF.out]; exact own_mono hv (Nat.zero_le _), hbl⟩

set_option maxHeartbeats 1000000 in
theorem few_none (w : World) (a : Option Addr) (cap : Nat) (n : Nat) :
    Calls Tryd.prog 13 #[.slice a 0 cap, .int .i64 n] w fun e W' => ∃ v, e = .returned v ∧ W'.ownsRow 0 31 3 v (fewL [] n).length (actCells (fewL [] n)) ∧ Below w.heap.size w W' := by
  have HF : Hid (fewL [] n = []) := hid (by simp [fewL])
  go_enter Tryd.func13, Tryd.ntmps13
  go_wp2
  go_loopw [5, 6] (fun v i wr => i = .int .i64 0 ∧ v = .slice none 0 0 ∧ wr = w) (fun _ i _ => 0)
  case atStart => exact ⟨rfl, rfl, rfl⟩
  case round =>
    obtain ⟨rfl, rfl, rfl⟩ := hrel
    go_wp2
    go_ret
    exact ⟨_, rfl, by rw [HF.out]; exact World.ownsRow_nil _ _ _ _, Below.refl _ _⟩

/-- a value that reads as some splices -/
def IsActs (W : World) (v : Value) (l : List Spl) : Prop := ∃ a cap, v = .slice a l.length cap ∧ (∀ b, a.map (·.block) = some b → l ≠ [] → b < W.heap.size) ∧
  ∀ j (h : j < l.length), ∃ b off, a = some ⟨b, off, none⟩ ∧ W.cell? ⟨b, off + j * 3, none⟩ = some (.int .i64 l[j].1) ∧ W.cell? ⟨b, off + j * 3 + 1, none⟩ = some (.int .i64 l[j].2.1) ∧ W.cell? ⟨b, off + j * 3 + 2, none⟩ = some (.string l[j].2.2) ∧ l[j].2.2.size ≤ maxLen
theorem few_any (w : World) (v : Value) (l : List Spl) (n : Nat) (hn : n ≤ 40) (h : IsActs w v l) :
    Calls Tryd.prog 13 #[v, .int .i64 n] w fun e W' => ∃ v, e = .returned v ∧ W'.ownsRow 0 31 3 v (fewL l n).length (actCells (fewL l n)) ∧ Below w.heap.size w W' := by
  obtain ⟨a, cap, rfl, hlt, hc⟩ := h
  by_cases h0 : l = []
  · subst h0; exact few_none w a cap n
  · have hp : 0 < l.length := List.length_pos_iff.2 h0
    obtain ⟨b, off, rfl, _⟩ := hc 0 hp
    refine few_some w b off cap l n hn (hlt b rfl h0) fun j hj => ?_
    obtain ⟨b', off', e, r⟩ := hc j hj
    obtain ⟨rfl, rfl⟩ : b = b' ∧ off = off' := by simpa using e
    exact r
theorem IsActs.below {W W' : World} {v : Value} {l : List Spl} (h : IsActs W v l) (hb : Below W.heap.size W W') : IsActs W' v l := by
  obtain ⟨a, cap, rfl, hlt, hc⟩ := h
  refine ⟨a, cap, rfl, fun b h1 h2 => Nat.lt_of_lt_of_le (hlt b h1 h2) hb.size, fun j hj => ?_⟩
  obtain ⟨b, off, rfl, r1, r2, r3, r4⟩ := hc j hj
  have hbl := hlt b rfl (List.ne_nil_of_length_pos (by omega))
  exact ⟨b, off, rfl, (hb.cell (p := ⟨b, _, none⟩) hbl).trans r1, (hb.cell (p := ⟨b, _, none⟩) hbl).trans r2, (hb.cell (p := ⟨b, _, none⟩) hbl).trans r3, r4⟩

/-- what Few gives is held apart from every buffer -/
def OwnActs (W : World) (v : Value) (l : List Spl) : Prop := W.ownsRow 0 31 3 v l.length (actCells l)
theorem OwnActs.sl {W : World} {v : Value} {l : List Spl} (h : OwnActs W v l) : ∃ a c, v = .slice a l.length c := by
  rcases h.2 with ⟨rfl, h0⟩ | ⟨g, cap, cur, rfl, _⟩
  · exact ⟨none, 0, by rw [h0]⟩
  · exact ⟨_, _, rfl⟩
theorem actCells_get (l : List Spl) (j : Nat) (h : j < l.length) : (actCells l)[j * 3]? = some (.int .i64 l[j].1) ∧ (actCells l)[j * 3 + 1]? = some (.int .i64 l[j].2.1) ∧ (actCells l)[j * 3 + 2]? = some (.string l[j].2.2) := by
  induction l generalizing j with
  | nil => simp at h
  | cons x l ih =>
    have e : actCells (x :: l) = .int .i64 x.1 :: .int .i64 x.2.1 :: .string x.2.2 :: actCells l := by simp [actCells]
    rw [e]
    cases j with
    | zero => simp
    | succ j =>
      have := ih j (by simpa using h)
      simpa [Nat.succ_mul] using this
/-- a round reads one -/
theorem OwnActs.get {W : World} {a : Option Addr} {c n : Nat} {l : List Spl} (h : OwnActs W (.slice a n c) l) (j : Nat) (hj : j < l.length) :
    ∃ b, a = some ⟨b, 0, none⟩ ∧ W.cell? ⟨b, j * 3, none⟩ = some (.int .i64 l[j].1) ∧ W.cell? ⟨b, j * 3 + 1, none⟩ = some (.int .i64 l[j].2.1) ∧ W.cell? ⟨b, j * 3 + 2, none⟩ = some (.string l[j].2.2) := by
  obtain ⟨h1, h2, h3⟩ := actCells_get l j hj
  rcases h.2 with ⟨_, h0⟩ | ⟨g, cap, cur, hv, _, r⟩
  · omega
  · obtain ⟨rfl, rfl, rfl⟩ : a = some ⟨g, 0, none⟩ ∧ n = l.length ∧ c = cap := by simpa using hv
    have hk := fun i u hu => World.ownsRow.cells h (g := g) rfl i u hu
    have hadd : ∀ i, (⟨g, 0, none⟩ : Addr).add i = ⟨g, i, none⟩ := fun i => by unfold Addr.add; split <;> simp_all
    refine ⟨g, rfl, ?_, ?_, ?_⟩
    · have := hk _ _ h1; rwa [hadd] at this
    · have := hk _ _ h2; rwa [hadd] at this
    · have := hk _ _ h3; rwa [hadd] at this
theorem OwnActs.below {W W' : World} {v : Value} {l : List Spl} (h : OwnActs W v l) (hb : Below W.heap.size W W') : OwnActs W' v l := own_below h hb
theorem OwnActs.buf {W W' : World} {v : Value} {l : List Spl} {B : Nat} {cs : Array Value} (h : OwnActs W v l) (hB : Blk W B 52 cs) (hg : W.grownBy W' (some B)) : OwnActs W' v l := own_kept h hB (by decide) hg
end Go.Proofs.YtflkmdmceeefiaaDoor
