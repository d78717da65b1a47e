/- the reference's Glyphs and Ascii. -/
import Derived.Test.YtophclimlepjoaaRefF
import Derived.Laws.IdiomStrings
import Derived.Laws.BytesArg
import Derived.Lib.AppendStr
namespace Go.Proofs.Ytophclimlepjoaa
open Go.RowKit Go.Shelf Go.Dia Go.Maps

/-- a text is turned step by step: what a step writes, how much it takes -/
def runF (st : ByteArray → List UInt8 × Nat) : Nat → ByteArray → List UInt8
  | 0, _ => []
  | n + 1, rs => if rs.size = 0 then [] else (st rs).1 ++ runF st n (rs.extract (st rs).2 rs.size)
theorem runF_fuel {st : ByteArray → List UInt8 × Nat} (hst : ∀ rs, rs.size ≠ 0 → 1 ≤ (st rs).2) : ∀ (m n : Nat) (rs : ByteArray), rs.size ≤ m → m ≤ n → runF st n rs = runF st m rs
  | 0, 0, _, _, _ => rfl
  | 0, n + 1, rs, h, _ => by unfold runF; rw [if_pos (by omega)]
  | m + 1, 0, _, _, h => by omega
  | m + 1, n + 1, rs, h, hn => by
    unfold runF
    by_cases h0 : rs.size = 0
    · rw [if_pos h0, if_pos h0]
    · have h1 := hst rs h0
      rw [if_neg h0, if_neg h0, runF_fuel hst m n _ (by rw [ByteArray.size_extract]; omega) (by omega)]
def runS (st : ByteArray → List UInt8 × Nat) (rs : ByteArray) : List UInt8 := runF st rs.size rs
theorem runS_nil (st : ByteArray → List UInt8 × Nat) (rs : ByteArray) (h : rs.size = 0) : runS st rs = [] := by
  unfold runS; rw [h]; rfl
theorem runS_step {st : ByteArray → List UInt8 × Nat} (hst : ∀ rs, rs.size ≠ 0 → 1 ≤ (st rs).2) (rs : ByteArray) (h : rs.size ≠ 0) : runS st rs = (st rs).1 ++ runS st (rs.extract (st rs).2 rs.size) := by
  have h1 := hst rs h
  unfold runS
  obtain ⟨n, hn⟩ : ∃ n, rs.size = n + 1 := ⟨rs.size - 1, by omega⟩
  rw [hn]
  show (if rs.size = 0 then [] else _) = _
  rw [if_neg h, hn]
  congr 1
  exact runF_fuel hst _ n _ (Nat.le_refl _) (by rw [ByteArray.size_extract]; omega)
def byte0 (rs : ByteArray) : UInt8 := rs.data.getD 0 0
def stG (rs : ByteArray) : List UInt8 × Nat := if (firstR rs).2 = 2 ∧ byte0 rs = 96 then ((firstR rs).1.data.toList, 2) else ([byte0 rs], 1)
def stA (rs : ByteArray) : List UInt8 × Nat := if 0 < (firstR rs).2 ∧ (digR (firstR rs).1).2 = true then ((digR (firstR rs).1).1.data.toList, (firstR rs).2.toNat) else ([byte0 rs], 1)
theorem stG_pos (rs : ByteArray) (_ : rs.size ≠ 0) : 1 ≤ (stG rs).2 := by
  unfold stG; split <;> simp
theorem stA_pos (rs : ByteArray) (_ : rs.size ≠ 0) : 1 ≤ (stA rs).2 := by
  unfold stA; split
  · rename_i h; simp only; omega
  · simp
theorem hitG_letter {s a : ByteArray} {g : Gl} (hg : g ∈ allG) (h : hitG s g = some a) : (if hasP s g.1 = true then g.1.size else 2) = a.size := by
  have hz := allG_size1 g hg
  unfold hitG at h
  split at h
  · rename_i h1; cases h; rw [if_pos h1]
  · rename_i h1
    rw [if_neg h1]
    split at h
    · rename_i h2
      cases h
      have : g.2.1.size ≠ 0 := fun e => h2.1 (empty_of_toList (by rw [ByteArray.toList_eq]; exact List.eq_nil_of_length_eq_zero (by rw [Array.length_toList]; exact e)))
      rw [ByteArray.size_append]
      show 2 = 1 + _
      omega
    · cases h
/-- the program's First and the reference's -/
theorem firstR_eq (s : ByteArray) : firstR s = ((firstG s).1.1, ((firstG s).2.size : Int)) := by
  rcases firstG_spec s with ⟨h1, h2⟩ | ⟨h1, h2, h3, _⟩
  · unfold firstR; rw [h1, h2]; rfl
  · unfold firstR
    rw [h2]
    have := hitG_letter h1 h3
    simp only
    rw [← this]
    split <;> rfl
theorem firstR_le (s : ByteArray) : 0 ≤ (firstR s).2 ∧ (firstR s).2 ≤ s.size ∧ (firstR s).1.size ≤ 3 ∧ (firstR s).2 ≤ 3 := by
  rw [firstR_eq]
  rcases firstG_spec s with ⟨h1, h2⟩ | ⟨h1, h2, h3, h4, h5, h6⟩
  · rw [h2]; exact ⟨by simp, by show ((0 : Nat) : Int) ≤ _; omega, by decide, by decide⟩
  · have := allG_size1 _ h1
    simp only
    omega
theorem byte0_extract (s : ByteArray) (k : Nat) (h : k < s.size) : byte0 (s.extract k s.size) = s[k] := by
  have h2 : k < s.data.size := h
  have hk : 0 < (s.extract k s.size).size := by rw [ByteArray.size_extract]; omega
  have hk' : 0 < (s.extract k s.size).data.size := hk
  unfold byte0
  rw [Array.getD_eq_getD_getElem?, Array.getElem?_eq_getElem hk']
  show (s.extract k s.size)[0] = s[k]
  have := ByteArray.getElem_extract (b := s) (start := k) (stop := s.size) (i := 0) (h := hk)
  simpa using this
/-- one step of a round -/
theorem runS_round {st : ByteArray → List UInt8 × Nat} (hst : ∀ rs, rs.size ≠ 0 → 1 ≤ (st rs).2) (s : ByteArray) (k m : Nat) (bs out : List UInt8) (hk : k < s.size) (h : st (s.extract k s.size) = (out, m)) (hL : bs ++ runS st (s.extract k s.size) = runS st s) :
    (bs ++ out) ++ runS st (s.extract (k + m) s.size) = runS st s := by
  have hz : (s.extract k s.size).size ≠ 0 := by rw [ByteArray.size_extract]; omega
  rw [← hL, runS_step hst _ hz, h, List.append_assoc]
  congr 3
  refine ByteArray.ext ?_
  rw [ByteArray.data_extract, ByteArray.data_extract, ByteArray.data_extract, Array.extract_extract, ByteArray.size_extract]
  congr 1 <;> omega
theorem own_below {W W' : World} {N e size n : Nat} {v : Value} {xs : List Value} (h : W.ownsRow N e size v n xs) (hb : Below W.heap.size W W') : W'.ownsRow N e size v n xs :=
  h.kept (Go.Dia.Below.grow hb none) (by cases v.ownBlock <;> simp)
theorem conv_own (W : World) (N : Nat) (v : Value) (bs : List UInt8) (h : W.ownsRow N 5 1 v bs.length (Lib.byteCells bs)) :
    ∃ a c, v = .slice a bs.length c ∧ (convert 63 9 (.slice a bs.length c)).run Try.prog W = .ok (.string ⟨bs.toArray⟩) W := by
  rcases h.2 with ⟨rfl, h0⟩ | ⟨g, cap, cur, rfl, _⟩
  · have : bs = [] := List.eq_nil_of_length_eq_zero h0
    subst this
    exact ⟨none, 0, rfl, run_convert_bytes_nil W 63 5 Try.underlying63 Try.underlying5 0 0 9 Try.underlying9⟩
  · refine ⟨_, _, rfl, run_convert_bytes_back W 63 9 5 _ cap bs Try.underlying63 Try.underlying5 Try.underlying9 fun j hj => ?_⟩
    exact h.cells (g := g) rfl j _ (by simp [Lib.byteCells, hj])

set_option maxRecDepth 100000 in
set_option maxHeartbeats 8000000 in
theorem glyphs21 (w : World) (s : ByteArray) (hs : s.size ≤ 100000) : Calls Try.prog 21 #[.string s] w fun e W' => e = .returned (.string (gluB (runS stG s))) ∧ Below w.heap.size w W' := by
  obtain ⟨i0, hi, hz0, hz1, hz2⟩ := info_parts infoByte
  go_enter Try.func21, Try.ntmps21
  go_wp2
  go_loopw [3, 4] (fun v i wr => ∃ (k : Nat) (bs : List UInt8), k ≤ s.size ∧ i = .int .i64 k ∧ wr.ownsRow w.heap.size 5 1 v bs.length (Lib.byteCells bs) ∧ Below w.heap.size w wr ∧ bs ++ runS stG (s.extract k s.size) = runS stG s ∧ bs.length + 3 * (s.size - k) ≤ 3 * s.size) (fun _ i _ => s.size - (intOf i).toNat)
  case atStart => exact ⟨0, [], Nat.zero_le _, rfl, World.ownsRow_nil _ _ _ _, Below.refl _ _, by simp, by simp⟩
  case round =>
    obtain ⟨k, bs, hk, rfl, hv, hbl, hL, hn⟩ := hrel
    by_cases hlt : k < s.size
    · have hkz : (k : Int) < (s.size : Int) := by omega
      have H14 := hid (first14 wr (s.extract k s.size))
      obtain ⟨fr, hfr⟩ : ∃ fr, firstR (s.extract k s.size) = fr := ⟨_, rfl⟩
      rw [hfr] at H14
      have HL := hid hL
      have HN := hid hn
      have HB := hid hbl
      have hs0 := hbl.size
      clear hL hn hbl
      have hle := firstR_le (s.extract k s.size)
      rw [hfr, ByteArray.size_extract] at hle
      have hbsz : bs.length ≤ 300000 := by have := HN.out; omega
      obtain ⟨fa, fn⟩ := fr
      simp only at hle H14
      obtain ⟨c, hc⟩ : ∃ c, s[k] = c := ⟨_, rfl⟩
      have hb0 : byte0 (s.extract k s.size) = c := by rw [← hc]; exact byte0_extract s k hlt
      have HST := hid (show stG (s.extract k s.size) = if fn = 2 ∧ c = 96 then (fa.data.toList, 2) else ([c], 1) by unfold stG; rw [hfr, hb0])
      have hrz : (s.extract k s.size).size ≠ 0 := by rw [ByteArray.size_extract]; omega
      have HRS := hid hrz
      clear hfr hb0 hrz
      by_cases c1 : fn = 2
      · subst c1
        by_cases c2 : c = 96
        · subst c2
          go_wp2_with (first | (go_at_call 14; refine H14.out.mono ?_; rintro e W1 ⟨rfl, hb1⟩; have hv1 := own_below hv hb1; have hs1 := hb1.size; have HB1 := hid hb1; clear hb1) | (at_builtin; refine Lib.wpList_append_own_string _ rfl _ _ 63 9 rfl w.heap.size 5 i0 Try.underlying63 Try.underlying9 hi hz0 hz1 hz2 _ _ _ rfl hv1 _ rfl (by unfold maxLen; omega) (by omega) (by omega) ?_; intro v' w1 hown' hgrow _) | (at_builtin; refine wpList_append_own _ rfl _ _ 63 rfl w.heap.size 5 i0 (.int .u8 0) 1 1 Try.underlying63 hi hz0 hz1 hz2 rfl (by decide) _ _ _ rfl (hv1.alloc _) ⟨W1.heap.size, 0, none⟩ 1 1 [.int .u8 c.toNat] rfl rfl (cells_new _ _ _) (by simp [Value.oneCell']) (by unfold maxLen; omega) (by omega) (by simp; omega) ?_; intro v' w1 hown' hgrow _))
          go_roundw
          case rel => exact ⟨k + 2, bs ++ fa.data.toList, by omega, by go_num, by rw [List.length_append, Lib.byteCells_append, ← Lib.strCells_eq]; exact hown', HB.out.trans ((HB1.out.mono hs0).grown hgrow (Nat.le_trans hs0 hs1) (fun j hj => (hv1.lt j hj).1)), runS_round stG_pos s k 2 bs _ hlt (by rw [HST.out, if_pos (by simp)]) HL.out, by rw [List.length_append]; have h1 := HN.out; have h3 : fa.data.toList.length ≤ 3 := (by rw [Array.length_toList]; exact hle.2.2.1); omega⟩
          case measure => simp [intOf]; omega
        · have c3 : ¬ (c.toNat : Int) = 96 := fun e => c2 (UInt8.toNat_inj.1 (by show c.toNat = 96; omega))
          go_wp2_with (first | (go_at_call 14; refine H14.out.mono ?_; rintro e W1 ⟨rfl, hb1⟩; have hv1 := own_below hv hb1; have hs1 := hb1.size; have HB1 := hid hb1; clear hb1) | (at_builtin; refine Lib.wpList_append_own_string _ rfl _ _ 63 9 rfl w.heap.size 5 i0 Try.underlying63 Try.underlying9 hi hz0 hz1 hz2 _ _ _ rfl hv1 _ rfl (by unfold maxLen; omega) (by omega) (by omega) ?_; intro v' w1 hown' hgrow _) | (at_builtin; refine wpList_append_own _ rfl _ _ 63 rfl w.heap.size 5 i0 (.int .u8 0) 1 1 Try.underlying63 hi hz0 hz1 hz2 rfl (by decide) _ _ _ rfl (hv1.alloc _) ⟨W1.heap.size, 0, none⟩ 1 1 [.int .u8 c.toNat] rfl rfl (cells_new _ _ _) (by simp [Value.oneCell']) (by unfold maxLen; omega) (by omega) (by simp; omega) ?_; intro v' w1 hown' hgrow _))
          go_roundw
          case rel => exact ⟨k + 1, bs ++ [c], by omega, by go_num, by rw [List.length_append, Lib.byteCells_append]; exact hown', HB.out.trans ((((Below.refl _ W1).alloc (Nat.le_refl _) _).mono (Nat.le_trans hs0 hs1) |> (HB1.out.mono hs0).trans).grown hgrow (by simp; omega) (fun j hj => (hv1.lt j hj).1)), runS_round stG_pos s k 1 bs _ hlt (by rw [HST.out, if_neg (fun h => c2 h.2)]) HL.out, by rw [List.length_append]; have h1 := HN.out; simp; omega⟩
          case measure => simp [intOf]; omega
      · go_wp2_with (first | (go_at_call 14; refine H14.out.mono ?_; rintro e W1 ⟨rfl, hb1⟩; have hv1 := own_below hv hb1; have hs1 := hb1.size; have HB1 := hid hb1; clear hb1) | (at_builtin; refine Lib.wpList_append_own_string _ rfl _ _ 63 9 rfl w.heap.size 5 i0 Try.underlying63 Try.underlying9 hi hz0 hz1 hz2 _ _ _ rfl hv1 _ rfl (by unfold maxLen; omega) (by omega) (by omega) ?_; intro v' w1 hown' hgrow _) | (at_builtin; refine wpList_append_own _ rfl _ _ 63 rfl w.heap.size 5 i0 (.int .u8 0) 1 1 Try.underlying63 hi hz0 hz1 hz2 rfl (by decide) _ _ _ rfl (hv1.alloc _) ⟨W1.heap.size, 0, none⟩ 1 1 [.int .u8 c.toNat] rfl rfl (cells_new _ _ _) (by simp [Value.oneCell']) (by unfold maxLen; omega) (by omega) (by simp; omega) ?_; intro v' w1 hown' hgrow _))
        go_roundw
        case rel => exact ⟨k + 1, bs ++ [c], by omega, by go_num, by rw [List.length_append, Lib.byteCells_append]; exact hown', HB.out.trans ((((Below.refl _ W1).alloc (Nat.le_refl _) _).mono (Nat.le_trans hs0 hs1) |> (HB1.out.mono hs0).trans).grown hgrow (by simp; omega) (fun j hj => (hv1.lt j hj).1)), runS_round stG_pos s k 1 bs _ hlt (by rw [HST.out, if_neg (fun h => c1 h.1)]) HL.out, by rw [List.length_append]; have h1 := HN.out; simp; omega⟩
        case measure => simp [intOf]; omega
    · obtain rfl : k = s.size := by omega
      obtain ⟨a, c, rfl, hcv⟩ := conv_own _ _ _ _ hv
      have hk0 : ¬ ((s.size : Int) < (s.size : Int)) := by omega
      go_wp2
      go_ret
      refine ⟨?_, hbl⟩
      rw [← hL, runS_nil _ _ (by rw [ByteArray.size_extract]; omega), List.append_nil]
      rfl
theorem findP_some {p : Gl → Bool} {l : List Gl} {g : Gl} (h : findP p l = some g) : g ∈ l ∧ p g = true := by
  induction l with
  | nil => cases h
  | cons x l ih =>
    unfold findP at h
    split at h
    · rename_i hx; cases h; exact ⟨by simp, hx⟩
    · obtain ⟨h1, h2⟩ := ih h; exact ⟨List.mem_cons_of_mem _ h1, h2⟩
theorem digR_size (s : ByteArray) : (digR s).1.size ≤ 2 := by
  unfold digR
  cases h : findP (isDig s) allG with
  | none => decide
  | some g =>
    have := allG_size1 g (findP_some h).1
    simp only
    rw [ByteArray.size_append]; show 1 + _ ≤ 2; omega
set_option maxRecDepth 100000 in
set_option maxHeartbeats 8000000 in
theorem ascii23 (w : World) (s : ByteArray) (hs : s.size ≤ 100000) : Calls Try.prog 23 #[.string s] w fun e W' => e = .returned (.string (gluB (runS stA s))) ∧ Below w.heap.size w W' := by
  obtain ⟨i0, hi, hz0, hz1, hz2⟩ := info_parts infoByte
  go_enter Try.func23, Try.ntmps23
  go_wp2
  go_loopw [3, 4] (fun v i wr => ∃ (k : Nat) (bs : List UInt8), k ≤ s.size ∧ i = .int .i64 k ∧ wr.ownsRow w.heap.size 5 1 v bs.length (Lib.byteCells bs) ∧ Below w.heap.size w wr ∧ bs ++ runS stA (s.extract k s.size) = runS stA s ∧ bs.length + 3 * (s.size - k) ≤ 3 * s.size) (fun _ i _ => s.size - (intOf i).toNat)
  case atStart => exact ⟨0, [], Nat.zero_le _, rfl, World.ownsRow_nil _ _ _ _, Below.refl _ _, by simp, by simp⟩
  case round =>
    obtain ⟨k, bs, hk, rfl, hv, hbl, hL, hn⟩ := hrel
    by_cases hlt : k < s.size
    · have hkz : (k : Int) < (s.size : Int) := by omega
      have H14 := hid (first14 wr (s.extract k s.size))
      obtain ⟨fr, hfr⟩ : ∃ fr, firstR (s.extract k s.size) = fr := ⟨_, rfl⟩
      rw [hfr] at H14
      have HL := hid hL
      have HN := hid hn
      have HB := hid hbl
      have hs0 := hbl.size
      clear hL hn hbl
      have hle := firstR_le (s.extract k s.size)
      rw [hfr, ByteArray.size_extract] at hle
      have hbsz : bs.length ≤ 300000 := by have := HN.out; omega
      obtain ⟨fa, fn⟩ := fr
      simp only at hle H14
      obtain ⟨fm, rfl⟩ : ∃ fm : Nat, fn = (fm : Int) := ⟨fn.toNat, by omega⟩
      obtain ⟨dd, hdd⟩ : ∃ dd, digR fa = dd := ⟨_, rfl⟩
      have H12 := hid (fun W => digraph12 W fa)
      have hds := digR_size fa
      rw [hdd] at H12 hds
      obtain ⟨c, hc⟩ : ∃ c, s[k] = c := ⟨_, rfl⟩
      have hb0 : byte0 (s.extract k s.size) = c := by rw [← hc]; exact byte0_extract s k hlt
      have HST := hid (show stA (s.extract k s.size) = if 0 < (fm : Int) ∧ dd.2 = true then (dd.1.data.toList, ((fm : Int)).toNat) else ([c], 1) by unfold stA; rw [hfr, hb0]; simp only; rw [hdd])
      obtain ⟨da, dk⟩ := dd
      simp only at H12 HST hds
      have hrz : (s.extract k s.size).size ≠ 0 := by rw [ByteArray.size_extract]; omega
      clear hfr hb0 hrz hdd
      by_cases c1 : 0 < fm
      · have c1' : (0 : Int) < (fm : Int) := by omega
        cases dk with
        | true =>
          go_wp2_with (first | (go_at_call 14; refine H14.out.mono ?_; rintro e W1 ⟨rfl, hb1⟩; have hv1 := own_below hv hb1; have hs1 := hb1.size; have HB1 := hid hb1; clear hb1) | (go_at_call 12; refine (H12.out _).mono ?_; rintro e W2 ⟨rfl, hb2⟩; have hv2 := own_below hv1 hb2; have hs2 := hb2.size; have HB2 := hid hb2; clear hb2) | (at_builtin; refine Lib.wpList_append_own_string _ rfl _ _ 63 9 rfl w.heap.size 5 i0 Try.underlying63 Try.underlying9 hi hz0 hz1 hz2 _ _ _ rfl hv2 _ rfl (by unfold maxLen; omega) (by omega) (by omega) ?_; intro v' w1 hown' hgrow _) | (at_builtin; refine wpList_append_own _ rfl _ _ 63 rfl w.heap.size 5 i0 (.int .u8 0) 1 1 Try.underlying63 hi hz0 hz1 hz2 rfl (by decide) _ _ _ rfl (hv2.alloc _) ⟨W2.heap.size, 0, none⟩ 1 1 [.int .u8 c.toNat] rfl rfl (cells_new _ _ _) (by simp [Value.oneCell']) (by unfold maxLen; omega) (by omega) (by simp; omega) ?_; intro v' w1 hown' hgrow _))
          go_roundw
          case rel => exact ⟨k + fm, bs ++ da.data.toList, by omega, by go_num, by rw [List.length_append, Lib.byteCells_append, ← Lib.strCells_eq]; exact hown', (HB.out.trans (HB1.out.mono hs0)).trans ((HB2.out.mono (Nat.le_trans hs0 hs1)).grown hgrow (Nat.le_trans hs0 (Nat.le_trans hs1 hs2)) (fun j hj => (hv2.lt j hj).1)), runS_round stA_pos s k fm bs _ hlt (by rw [HST.out, if_pos ⟨c1', by simp⟩, Int.toNat_natCast]) HL.out, by rw [List.length_append]; have h1 := HN.out; have h3 : da.data.toList.length ≤ 2 := (by rw [Array.length_toList]; exact hds); omega⟩
          case measure => simp [intOf]; omega
        | false =>
          go_wp2_with (first | (go_at_call 14; refine H14.out.mono ?_; rintro e W1 ⟨rfl, hb1⟩; have hv1 := own_below hv hb1; have hs1 := hb1.size; have HB1 := hid hb1; clear hb1) | (go_at_call 12; refine (H12.out _).mono ?_; rintro e W2 ⟨rfl, hb2⟩; have hv2 := own_below hv1 hb2; have hs2 := hb2.size; have HB2 := hid hb2; clear hb2) | (at_builtin; refine Lib.wpList_append_own_string _ rfl _ _ 63 9 rfl w.heap.size 5 i0 Try.underlying63 Try.underlying9 hi hz0 hz1 hz2 _ _ _ rfl hv2 _ rfl (by unfold maxLen; omega) (by omega) (by omega) ?_; intro v' w1 hown' hgrow _) | (at_builtin; refine wpList_append_own _ rfl _ _ 63 rfl w.heap.size 5 i0 (.int .u8 0) 1 1 Try.underlying63 hi hz0 hz1 hz2 rfl (by decide) _ _ _ rfl (hv2.alloc _) ⟨W2.heap.size, 0, none⟩ 1 1 [.int .u8 c.toNat] rfl rfl (cells_new _ _ _) (by simp [Value.oneCell']) (by unfold maxLen; omega) (by omega) (by simp; omega) ?_; intro v' w1 hown' hgrow _))
          go_roundw
          case rel => exact ⟨k + 1, bs ++ [c], by omega, by go_num, by rw [List.length_append, Lib.byteCells_append]; exact hown', (HB.out.trans (HB1.out.mono hs0)).trans ((((Below.refl _ W2).alloc (Nat.le_refl _) _).mono (Nat.le_trans hs0 (Nat.le_trans hs1 hs2)) |> (HB2.out.mono (Nat.le_trans hs0 hs1)).trans).grown hgrow (by simp; omega) (fun j hj => (hv2.lt j hj).1)), runS_round stA_pos s k 1 bs _ hlt (by rw [HST.out, if_neg (fun h => by cases h.2)]) HL.out, by rw [List.length_append]; have h1 := HN.out; simp; omega⟩
          case measure => simp [intOf]; omega
      · obtain rfl : fm = 0 := by omega
        go_wp2_with (first | (go_at_call 14; refine H14.out.mono ?_; rintro e W1 ⟨rfl, hb1⟩; have hv1 := own_below hv hb1; have hs1 := hb1.size; have HB1 := hid hb1; clear hb1) | (go_at_call 12; refine (H12.out _).mono ?_; rintro e W2 ⟨rfl, hb2⟩; have hv2 := own_below hv1 hb2; have hs2 := hb2.size; have HB2 := hid hb2; clear hb2) | (at_builtin; refine Lib.wpList_append_own_string _ rfl _ _ 63 9 rfl w.heap.size 5 i0 Try.underlying63 Try.underlying9 hi hz0 hz1 hz2 _ _ _ rfl hv2 _ rfl (by unfold maxLen; omega) (by omega) (by omega) ?_; intro v' w1 hown' hgrow _) | (at_builtin; refine wpList_append_own _ rfl _ _ 63 rfl w.heap.size 5 i0 (.int .u8 0) 1 1 Try.underlying63 hi hz0 hz1 hz2 rfl (by decide) _ _ _ rfl (hv2.alloc _) ⟨W2.heap.size, 0, none⟩ 1 1 [.int .u8 c.toNat] rfl rfl (cells_new _ _ _) (by simp [Value.oneCell']) (by unfold maxLen; omega) (by omega) (by simp; omega) ?_; intro v' w1 hown' hgrow _))
        go_roundw
        case rel => exact ⟨k + 1, bs ++ [c], by omega, by go_num, by rw [List.length_append, Lib.byteCells_append]; exact hown', (HB.out.trans (HB1.out.mono hs0)).trans ((((Below.refl _ W2).alloc (Nat.le_refl _) _).mono (Nat.le_trans hs0 (Nat.le_trans hs1 hs2)) |> (HB2.out.mono (Nat.le_trans hs0 hs1)).trans).grown hgrow (by simp; omega) (fun j hj => (hv2.lt j hj).1)), runS_round stA_pos s k 1 bs _ hlt (by rw [HST.out, if_neg (fun h => absurd h.1 (by decide))]) HL.out, by rw [List.length_append]; have h1 := HN.out; simp; omega⟩
        case measure => simp [intOf]; omega
    · obtain rfl : k = s.size := by omega
      obtain ⟨a, c, rfl, hcv⟩ := conv_own _ _ _ _ hv
      have hk0 : ¬ ((s.size : Int) < (s.size : Int)) := by omega
      go_wp2
      go_ret
      refine ⟨?_, hbl⟩
      rw [← hL, runS_nil _ _ (by rw [ByteArray.size_extract]; omega), List.append_nil]
      rfl
end Go.Proofs.Ytophclimlepjoaa
