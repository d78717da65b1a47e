/- turn: a text, glyph by glyph. -/
import Derived.Test.YtophclimlepjoaaTurnP
import Derived.Test.YtophclimlepjoaaBld
import Derived.ScopeJumps
import Derived.Deep.RegionHeld3
namespace Go.Proofs.Ytophclimlepjoaa
open Go.RowKit Go.Shelf Go.Dia Go.Maps

/-- a scope with one label that is jumped back to: what stands behind the label is walked once -/
theorem wp_scope_label {P : Program} {Q : Exit → Act → World → Prop} {a : Act} {w : World} {c rest : Code} (l : Nat) (J : Act → World → Prop) (μ : Act → World → Nat) (hf : findLabel c l = some (.seq .skip rest))
    (pass : ∀ a w, J a w → rest.wp P (Exit.jump l (fun a' w' => J a' w' ∧ μ a' w' < μ a w) Q) a w)
    (first : (∀ a w, J a w → rest.wp P (Exit.jump l J Q) a w) → c.wp P (Exit.jump l J Q) a w) : (Code.scope c).wp P Q a w :=
  wp_scope_jumps l J μ hf (first fun a w hJ => Code.wp_mono (fun e a' w' h => by cases e <;> first | exact h | exact ⟨h.1, h.2.1⟩) (pass a w hJ)) fun a w hJ => wp_seq (wp_skip (pass a w hJ))
theorem grown_below {w w' : World} {b : Nat} (h : w.grownBy w' (some b)) (hb : b < w.heap.size) : Below b w w' := ⟨h.os, h.tape, h.output, h.size, fun k hk => h.block k (by omega) (by simp; omega)⟩
/-- how much is left -/
theorem RdAt.kept {W W' : World} {N R b : Nat} {rs : ByteArray} {p v : Value} {bs : List UInt8} {q : Nat} {t : TypeId} {cs : Array Value} (h : RdAt W N R b rs p v bs) (hq : Blk W q t cs) (ht : t ≠ 67) (ht' : t ≠ 5) (hg : W.grownBy W' (some q)) : RdAt W' N R b rs p v bs := by
  obtain ⟨h1, h2, h3, h4⟩ := h
  refine ⟨h1.kept hg (fun e => ?_), h2, h3.kept hg (.inr fun e => ?_), h4⟩
  · have : R = q := by simpa using e
    subst this
    have := hq.symm.trans h1; simp at this; exact ht this.2
  · rcases h3.2 with ⟨rfl, _⟩ | ⟨g, cap, cur, rfl, _, hg', _⟩
    · cases e
    · have : g = q := by simpa [Value.ownBlock] using e
      subst this
      have := hq.symm.trans hg'; simp at this; exact ht' this.2
theorem RdAt.grow {W W' : World} {N R b : Nat} {rs : ByteArray} {p v : Value} {bs : List UInt8} (h : RdAt W N R b rs p v bs) (hg : W.grownBy W' none) : RdAt W' N R b rs p v bs :=
  ⟨h.1.kept hg (by simp), h.2.1, h.2.2.1.kept hg (by cases v.ownBlock <;> simp), h.2.2.2⟩
theorem RdAt.alloc {W : World} {N R b : Nat} {rs : ByteArray} {p v : Value} {bs : List UInt8} (h : RdAt W N R b rs p v bs) (o : Obj) : RdAt (W.alloc o) N R b rs p v bs := h.grow (World.grownBy_alloc W o none)
theorem turn_kept {W W' : World} {N R b n0 : Nat} {rs : ByteArray} {p v : Value} {bs : List UInt8} (h : RdAt W N R b rs p v bs) (hT : TabAt W b n0) (hg : W.grownBy W' (some b)) : RdAt W' N R b rs p v bs := by
  rcases hT with ⟨h1, _⟩ | ⟨v', B, h1, _⟩
  · exact h.kept (t := 53) h1 (by decide) (by decide) hg
  · exact h.kept h1 (by decide) (by decide) hg
theorem toG_size (g : Gl) (a : ByteArray) (hg : g ∈ allG) (_ : 1 ≤ a.size) (_ : a.size ≤ 3) : (toG g a).size ≠ 0 ∧ (toG g a).size ≤ 3 := by
  have := allG_size1 g hg
  unfold toG; omega
theorem toA_size (g : Gl) (a : ByteArray) (hg : g ∈ allG) (h1 : 1 ≤ a.size) (h3 : a.size ≤ 3) : (toA g a).size ≠ 0 ∧ (toA g a).size ≤ 3 := by
  have := allG_size1 g hg
  unfold toA
  split
  · omega
  · rw [ByteArray.size_append]; show 1 + _ ≠ 0 ∧ 1 + _ ≤ 3; omega
/-- between two rounds -/
def TurnI (T : Gl → ByteArray → ByteArray) (s : ByteArray) (w W : World) : Prop :=
  ∃ (rs : ByteArray) (p v : Value) (bs : List UInt8), RdAt W w.heap.size (w.heap.size + 1) w.heap.size rs p v bs ∧ TabAt W w.heap.size (w.heap.size + 1) ∧ Below w.heap.size w W ∧ w.heap.size + 2 ≤ W.heap.size ∧ bs ++ turnL T rs = turnL T s ∧ bs.length + 3 * rs.size ≤ 3 * s.size
theorem turn_tail (T : Gl → ByteArray → ByteArray) (s : ByteArray) (w W : World) (rs rs' : ByteArray) (p v : Value) (bs out : List UInt8) (hR : RdAt W w.heap.size (w.heap.size + 1) w.heap.size rs p v (bs ++ out)) (hT : TabAt W w.heap.size (w.heap.size + 1)) (hB : Below w.heap.size w W) (hsz : w.heap.size + 2 ≤ W.heap.size)
    (hL : bs ++ turnL T rs = turnL T s) (hn : bs.length + 3 * rs.size ≤ 3 * s.size) (e : turnL T rs = out ++ turnL T rs') (hl : out.length + 3 * rs'.size ≤ 3 * rs.size) : TurnI T s w (W.setCell ⟨w.heap.size + 1, 0, none⟩ (.string rs')) := by
  have gs := grown_set W (w.heap.size + 1) 0 (.string rs')
  refine ⟨rs', p, v, bs ++ out, ⟨hR.1.set 0 _, hR.2.1, hR.2.2.1.kept gs (.inr hR.row), hR.2.2.2⟩, hT.other hR.1 (by decide) (by decide) gs, hB.setCell (p := ⟨w.heap.size + 1, 0, none⟩) (Nat.le_succ _) _, Nat.le_trans hsz gs.size, ?_, ?_⟩
  · rw [List.append_assoc, ← e, hL]
  · rw [List.length_append]; omega
def restSize (R : Nat) (_ : Act) (W : World) : Nat := match W.cell? ⟨R, 0, none⟩ with | some (.string rs) => rs.size | _ => 0
theorem restSize_eq {R : Nat} {a : Act} {W : World} {rs : ByteArray} (h : W.cell? ⟨R, 0, none⟩ = some (.string rs)) : restSize R a W = rs.size := by
  unfold restSize; rw [h]
theorem rest_set (W : World) (R : Nat) (x : ByteArray) (a : Act) (rs' : ByteArray) (h : W.cell? ⟨R, 0, none⟩ = some (.string x)) : restSize R a (W.setCell ⟨R, 0, none⟩ (.string rs')) = rs'.size :=
  restSize_eq (World.cell?_setCell_same W _ _ h)


def TurnG (s : ByteArray) (w : World) (a : Act) (W : World) : Prop :=
  (∃ u6 u7 u8 u9 u10 u11 u12 u13 u14 u15 u16 u17 u18 u19 u20 u21 u22 u23 u24 u25 u26 u27 u28 u29 u30 u31 u32 u33 u34 u35 u36 u37 u38 u39 u40 u41 u42 u43 u44 u45 u46 u47 u48 u49 u50 u51 u52 u53 u54 u55 u56 u57 u58 u59 u60 u61 : Value, a = { tmps := #[.string s, .func (.func 30) #[] #[], undef, undef, .string ⟨#[]⟩, .pointer (some ⟨w.heap.size + 1, 0, none⟩), u6, u7, u8, u9, u10, u11, u12, u13, u14, u15, u16, u17, u18, u19, u20, u21, u22, u23, u24, u25, u26, u27, u28, u29, u30, u31, u32, u33, u34, u35, u36, u37, u38, u39, u40, u41, u42, u43, u44, u45, u46, u47, u48, u49, u50, u51, u52, u53, u54, u55, u56, u57, u58, u59, u60, u61], defers := [] }) ∧ TurnI toG s w W

set_option maxRecDepth 100000 in
set_option maxHeartbeats 8000000 in
theorem turn30 (w : World) (s : ByteArray) (hs : s.size ≤ 100000) :
    Calls Try.prog 29 #[.string s, .func (.func 30) #[] #[]] w fun e W' => e = .returned (.string ⟨(turnL toG s).toArray⟩) ∧ Below w.heap.size w W' := by
  go_enter Try.func29, Try.ntmps29
  go_wp2
  refine wp_scope_label 0 (TurnG s w) (restSize (w.heap.size + 1)) rfl ?_ ?_
  · rintro a W ⟨⟨u6, u7, u8, u9, u10, u11, u12, u13, u14, u15, u16, u17, u18, u19, u20, u21, u22, u23, u24, u25, u26, u27, u28, u29, u30, u31, u32, u33, u34, u35, u36, u37, u38, u39, u40, u41, u42, u43, u44, u45, u46, u47, u48, u49, u50, u51, u52, u53, u54, u55, u56, u57, u58, u59, u60, u61, rfl⟩, rs, p, v, bs, hR, hT, hB, hsz, hL, hn⟩
    have HI := hid (And.intro hR (And.intro hT (And.intro hB (And.intro hsz (And.intro hL hn)))))
    have r0 : W.cell? ⟨w.heap.size + 1, 0, none⟩ = some (.string rs) := hR.1.cell 0
    clear hR hT hB hsz hL hn
    by_cases he : rs = ⟨#[]⟩
    · subst he
      obtain ⟨hR, hT, hB, hsz, hL, hn⟩ := HI.out
      have hsc := hid (string35 _ _ _ _ _ _ _ _ hR)
      have hL' : turnL toG s = bs := by rw [← hL, turnL_nil _ _ rfl, List.append_nil]
      have HB := hid hB
      have HL := hid hL'
      clear hR hT hB hsz hL hn HI hL'
      go_wp2_with (go_at_call 35; refine hsc.out.mono ?_; rintro e w1 ⟨rfl, hbl⟩)
      simp only [Exit.jump]
      go_ret
      exact ⟨by rw [HL.out]; rfl, HB.out.trans hbl⟩
    · have he0 : ¬ rs.toList = [] := fun e => he (empty_of_toList e)
      have he1 : (rs.toList == []) = false := by simpa using he0
      obtain ⟨hR, hT, hB, hsz, hL, hn⟩ := HI.out
      have hrn : rs.size ≠ 0 := fun e => he (empty_of_toList (by rw [ByteArray.toList_eq]; exact List.eq_nil_of_length_eq_zero (by rw [Array.length_toList]; exact e)))
      have HF := hid (first26 W _ _ _ _ _ _ hR.1 hT)
      obtain ⟨fg, hfg⟩ : ∃ fg, firstG rs = fg := ⟨_, rfl⟩
      have HS := hid (firstG_spec rs)
      have HO := hid (turnL_one toG rs hrn)
      have HG := hid (turnL_glyph toG rs hrn)
      rw [hfg] at HF HS HO HG
      obtain ⟨⟨ga, gb, gc⟩, ra⟩ := fg
      unfold glV at HF
      simp only at HF HS HO HG
      have HFG := hid hfg
      clear hR hT hB hsz hL hn hfg
      have hrn1 : (1 : Int) ≤ (rs.size : Int) := by omega
      have hx1 : (rs.extract 0 1).size = 1 := by rw [ByteArray.size_extract]; omega
      by_cases hra : ra = ⟨#[]⟩
      · subst hra
        go_wp2_with (first | (go_at_call 26; refine HF.out.mono ?_; rintro e W1 ⟨rfl, hT1, hg1⟩; have hR1 := hid ((turn_kept HI.out.1 HI.out.2.1 hg1).alloc (.cells #[.string ga, .string gb, .int .i64 gc] 36)); have hc1 : (W1.alloc (.cells #[.string ga, .string gb, .int .i64 gc] 36)).cell? ⟨w.heap.size + 1, 0, none⟩ = some (.string rs) := hR1.out.1.cell 0; have hT1 := hid (hT1.kept (World.grownBy_alloc W1 (.cells #[.string ga, .string gb, .int .i64 gc] 36) none)); have hg1 := hid hg1) | (go_at_call 36; refine (write36 _ _ _ _ _ _ _ _ _ _ (Nat.le_succ _) hR1.out hT1.out (by omega) (by have := HI.out.2.2.2.2.2; omega)).mono ?_; rintro e W2 ⟨⟨uu, rfl⟩, ⟨v2, hR2⟩, hT2, hB2, _⟩; have hc2 : W2.cell? ⟨w.heap.size + 1, 0, none⟩ = some (.string rs) := hR2.1.cell 0; have hf2 := hR2.1.frozen 0; have HR2 := hid hR2; clear hR2))
        go_step3
        obtain ⟨hR, hT, hB, hsz, hL, hn⟩ := HI.out
        have hBW : Below w.heap.size W W2 := ((grown_below hg1.out hT.lt).alloc (by have := hg1.out.size; omega) _).trans hB2
        have e1 := HO.out rfl
        refine ⟨rfl, ⟨⟨_, _, _, _, _, _, _, _, _, _, _, _, _, _, _, _, _, _, _, _, _, _, _, _, _, _, _, _, _, _, _, _, _, _, _, _, _, _, _, _, _, _, _, _, _, _, _, _, _, _, _, _, _, _, _, _, rfl⟩, turn_tail toG s w W2 rs _ _ v2 bs _ HR2.out hT2 (hB.trans hBW) (Nat.le_trans hsz hBW.size) hL hn e1 (by rw [Array.length_toList, ByteArray.size_extract]; have : (rs.extract 0 1).data.size = 1 := hx1; omega)⟩, ?_⟩
        rw [rest_set _ _ _ _ _ hc2, restSize_eq r0, ByteArray.size_extract]
        omega
      · have hra0 : ¬ ra.toList = [] := fun e => hra (empty_of_toList e)
        have hra1 : (ra.toList == []) = false := by simpa using hra0
        have hra2 : ra.toList.isEmpty = false := by simpa using hra0
        have hrz : ra.size ≠ 0 := fun e => hra (empty_of_toList (by rw [ByteArray.toList_eq]; exact List.eq_nil_of_length_eq_zero (by rw [Array.length_toList]; exact e)))
        obtain ⟨hmem, _, hhit, ha1, ha3, har⟩ : (ga, gb, gc) ∈ allG ∧ findG rs allG = some ((ga, gb, gc), ra) ∧ hitG rs (ga, gb, gc) = some ra ∧ 1 ≤ ra.size ∧ ra.size ≤ 3 ∧ ra.size ≤ rs.size := by
          rcases HS.out with ⟨_, h⟩ | h
          · exact absurd (congrArg Prod.snd h) hra
          · exact h
        obtain ⟨ht1, ht3⟩ := toG_size (ga, gb, gc) ra hmem ha1 ha3
        have har' : (ra.size : Int) ≤ (rs.size : Int) := by omega
        have hra4 : ¬ (rs.size : Int) < (ra.size : Int) := by omega
        have hgb := (allG_size1 _ hmem).2.2
        have HM := hid hhit
        clear hhit hmem
        go_wp2_with (first | (go_at_call 26; refine HF.out.mono ?_; rintro e W1 ⟨rfl, hT1, hg1⟩; have hR1 := hid ((turn_kept HI.out.1 HI.out.2.1 hg1).alloc (.cells #[.string ga, .string gb, .int .i64 gc] 36)); have hG1 : Blk (W1.alloc (.cells #[.string ga, .string gb, .int .i64 gc] 36)) W1.heap.size 36 #[.string ga, .string gb, .int .i64 gc] := Blk.new _ _ _; have hT1 := hid (hT1.kept (World.grownBy_alloc W1 (.cells #[.string ga, .string gb, .int .i64 gc] 36) none)); have hg1 := hid hg1))
        have hG1 := hid hG1
        have q0 := hG1.out.cell 0
        have q1 := hG1.out.cell 1
        have q2 := hG1.out.cell 2
        have hBX : Hid (Below w.heap.size W (W1.alloc (.cells #[.string ga, .string gb, .int .i64 gc] 36))) := hid ((grown_below hg1.out HI.out.2.1.lt).alloc (by have := hg1.out.size; have := HI.out.2.1.lt; omega) _)
        generalize hX : W1.alloc (.cells #[.string ga, .string gb, .int .i64 gc] 36) = X1 at hR1 hG1 hT1 q0 q1 q2 hBX ⊢
        go_region_held3 (fun w' => w'.cell? ⟨W1.heap.size, 0, none⟩ = some (.string ga) ∧ w'.cell? ⟨W1.heap.size, 1, none⟩ = some (.string gb) ∧ w'.cell? ⟨W1.heap.size, 2, none⟩ = some (.int .i64 gc)) (go_keep) (first | (go_at_call 30; refine Calls.mono (to30 _ (ga, gb, gc) ra) ?_; rintro e V ⟨rfl, hbl⟩; have gV : X1.grownBy V none := ⟨hbl.os, hbl.tape, hbl.output, hbl.size, fun k hk _ => hbl.block k hk⟩; have hRV := hid (hR1.out.grow gV); have hTV := hid (hT1.out.kept gV); have hGV := hid (hG1.out.kept gV (by simp)); have v0 := hGV.out.cell 0; have v1 := hGV.out.cell 1; have v2 := hGV.out.cell 2; have hBV := hid gV; clear gV hbl) | (go_at_call 36; refine Calls.mono (write36 _ _ _ _ _ _ _ _ _ _ (Nat.le_succ _) hRV.out hTV.out ht1 (by have := HI.out.2.2.2.2.2; omega)) ?_; rintro e W2 ⟨⟨uu, rfl⟩, ⟨v2', hR2⟩, hT2, hB2, hk2⟩; have HG2 := hk2 _ 36 _ (by decide) (by decide) hGV.out; have y0 := HG2.cell 0; have y1 := HG2.cell 1; have y2 := HG2.cell 2; have hc2 : W2.cell? ⟨w.heap.size + 1, 0, none⟩ = some (.string rs) := hR2.1.cell 0; have hf2 := hR2.1.frozen 0; have HR2 := hid hR2; clear hR2 hk2 HG2))
        go_wp2
        go_step3
        obtain ⟨hR, hT, hB, hsz, hL, hn⟩ := HI.out
        have hBW : Below w.heap.size W W2 := (hBX.out.trans ⟨hBV.out.os, hBV.out.tape, hBV.out.output, hBV.out.size, fun k hk => hBV.out.block k (by have := hBX.out.size; have := hT.lt; omega) (by simp)⟩).trans hB2
        have e1 := HG.out hrz
        refine ⟨rfl, ⟨⟨_, _, _, _, _, _, _, _, _, _, _, _, _, _, _, _, _, _, _, _, _, _, _, _, _, _, _, _, _, _, _, _, _, _, _, _, _, _, _, _, _, _, _, _, _, _, _, _, _, _, _, _, _, _, _, _, rfl⟩, turn_tail toG s w W2 rs _ _ v2' bs _ HR2.out hT2 (hB.trans hBW) (Nat.le_trans hsz hBW.size) hL hn e1 (by rw [Array.length_toList, ByteArray.size_extract]; have : (toG (ga, gb, gc) ra).data.size ≤ 3 := ht3; omega)⟩, ?_⟩
        rw [rest_set _ _ _ _ _ hc2, restSize_eq r0, ByteArray.size_extract]
        omega
  · intro hrest
    go_wp2
    go_step3
    rename_i K hK
    refine hK _ _ (hrest _ _ ?_)
    refine ⟨⟨_, _, _, _, _, _, _, _, _, _, _, _, _, _, _, _, _, _, _, _, _, _, _, _, _, _, _, _, _, _, _, _, _, _, _, _, _, _, _, _, _, _, _, _, _, _, _, _, _, _, _, _, _, _, _, _, rfl⟩, s, .pointer none, .slice none 0 0, [], ⟨?_, .inl rfl, World.ownsRow_nil _ _ _ _, fun _ => rfl⟩, .inl ⟨(Blk.new w 53 _).alloc _, by simp, Nat.lt_succ_self _⟩, ((Below.refl _ w).alloc (Nat.le_refl _) _).alloc (by simp) _, by simp, rfl, by simp⟩
    have := Blk.new (w.alloc (.cells #[.int .u32 0, .int .i32 0, .int .u32 0, .slice none 0 0, .map none] 53)) 67 #[.string s, .pointer (some ⟨w.heap.size, 0, none⟩), .pointer none, .slice none 0 0]
    rwa [World.size_alloc] at this


def TurnA (s : ByteArray) (w : World) (a : Act) (W : World) : Prop :=
  (∃ u6 u7 u8 u9 u10 u11 u12 u13 u14 u15 u16 u17 u18 u19 u20 u21 u22 u23 u24 u25 u26 u27 u28 u29 u30 u31 u32 u33 u34 u35 u36 u37 u38 u39 u40 u41 u42 u43 u44 u45 u46 u47 u48 u49 u50 u51 u52 u53 u54 u55 u56 u57 u58 u59 u60 u61 : Value, a = { tmps := #[.string s, .func (.func 31) #[] #[], undef, undef, .string ⟨#[]⟩, .pointer (some ⟨w.heap.size + 1, 0, none⟩), u6, u7, u8, u9, u10, u11, u12, u13, u14, u15, u16, u17, u18, u19, u20, u21, u22, u23, u24, u25, u26, u27, u28, u29, u30, u31, u32, u33, u34, u35, u36, u37, u38, u39, u40, u41, u42, u43, u44, u45, u46, u47, u48, u49, u50, u51, u52, u53, u54, u55, u56, u57, u58, u59, u60, u61], defers := [] }) ∧ TurnI toA s w W

set_option maxRecDepth 100000 in
set_option maxHeartbeats 8000000 in
theorem turn31 (w : World) (s : ByteArray) (hs : s.size ≤ 100000) :
    Calls Try.prog 29 #[.string s, .func (.func 31) #[] #[]] w fun e W' => e = .returned (.string ⟨(turnL toA s).toArray⟩) ∧ Below w.heap.size w W' := by
  go_enter Try.func29, Try.ntmps29
  go_wp2
  refine wp_scope_label 0 (TurnA s w) (restSize (w.heap.size + 1)) rfl ?_ ?_
  · rintro a W ⟨⟨u6, u7, u8, u9, u10, u11, u12, u13, u14, u15, u16, u17, u18, u19, u20, u21, u22, u23, u24, u25, u26, u27, u28, u29, u30, u31, u32, u33, u34, u35, u36, u37, u38, u39, u40, u41, u42, u43, u44, u45, u46, u47, u48, u49, u50, u51, u52, u53, u54, u55, u56, u57, u58, u59, u60, u61, rfl⟩, rs, p, v, bs, hR, hT, hB, hsz, hL, hn⟩
    have HI := hid (And.intro hR (And.intro hT (And.intro hB (And.intro hsz (And.intro hL hn)))))
    have r0 : W.cell? ⟨w.heap.size + 1, 0, none⟩ = some (.string rs) := hR.1.cell 0
    clear hR hT hB hsz hL hn
    by_cases he : rs = ⟨#[]⟩
    · subst he
      obtain ⟨hR, hT, hB, hsz, hL, hn⟩ := HI.out
      have hsc := hid (string35 _ _ _ _ _ _ _ _ hR)
      have hL' : turnL toA s = bs := by rw [← hL, turnL_nil _ _ rfl, List.append_nil]
      have HB := hid hB
      have HL := hid hL'
      clear hR hT hB hsz hL hn HI hL'
      go_wp2_with (go_at_call 35; refine hsc.out.mono ?_; rintro e w1 ⟨rfl, hbl⟩)
      simp only [Exit.jump]
      go_ret
      exact ⟨by rw [HL.out]; rfl, HB.out.trans hbl⟩
    · have he0 : ¬ rs.toList = [] := fun e => he (empty_of_toList e)
      have he1 : (rs.toList == []) = false := by simpa using he0
      obtain ⟨hR, hT, hB, hsz, hL, hn⟩ := HI.out
      have hrn : rs.size ≠ 0 := fun e => he (empty_of_toList (by rw [ByteArray.toList_eq]; exact List.eq_nil_of_length_eq_zero (by rw [Array.length_toList]; exact e)))
      have HF := hid (first26 W _ _ _ _ _ _ hR.1 hT)
      obtain ⟨fg, hfg⟩ : ∃ fg, firstG rs = fg := ⟨_, rfl⟩
      have HS := hid (firstG_spec rs)
      have HO := hid (turnL_one toA rs hrn)
      have HG := hid (turnL_glyph toA rs hrn)
      rw [hfg] at HF HS HO HG
      obtain ⟨⟨ga, gb, gc⟩, ra⟩ := fg
      unfold glV at HF
      simp only at HF HS HO HG
      have HFG := hid hfg
      clear hR hT hB hsz hL hn hfg
      have hrn1 : (1 : Int) ≤ (rs.size : Int) := by omega
      have hx1 : (rs.extract 0 1).size = 1 := by rw [ByteArray.size_extract]; omega
      by_cases hra : ra = ⟨#[]⟩
      · subst hra
        go_wp2_with (first | (go_at_call 26; refine HF.out.mono ?_; rintro e W1 ⟨rfl, hT1, hg1⟩; have hR1 := hid ((turn_kept HI.out.1 HI.out.2.1 hg1).alloc (.cells #[.string ga, .string gb, .int .i64 gc] 36)); have hc1 : (W1.alloc (.cells #[.string ga, .string gb, .int .i64 gc] 36)).cell? ⟨w.heap.size + 1, 0, none⟩ = some (.string rs) := hR1.out.1.cell 0; have hT1 := hid (hT1.kept (World.grownBy_alloc W1 (.cells #[.string ga, .string gb, .int .i64 gc] 36) none)); have hg1 := hid hg1) | (go_at_call 36; refine (write36 _ _ _ _ _ _ _ _ _ _ (Nat.le_succ _) hR1.out hT1.out (by omega) (by have := HI.out.2.2.2.2.2; omega)).mono ?_; rintro e W2 ⟨⟨uu, rfl⟩, ⟨v2, hR2⟩, hT2, hB2, _⟩; have hc2 : W2.cell? ⟨w.heap.size + 1, 0, none⟩ = some (.string rs) := hR2.1.cell 0; have hf2 := hR2.1.frozen 0; have HR2 := hid hR2; clear hR2))
        go_step3
        obtain ⟨hR, hT, hB, hsz, hL, hn⟩ := HI.out
        have hBW : Below w.heap.size W W2 := ((grown_below hg1.out hT.lt).alloc (by have := hg1.out.size; omega) _).trans hB2
        have e1 := HO.out rfl
        refine ⟨rfl, ⟨⟨_, _, _, _, _, _, _, _, _, _, _, _, _, _, _, _, _, _, _, _, _, _, _, _, _, _, _, _, _, _, _, _, _, _, _, _, _, _, _, _, _, _, _, _, _, _, _, _, _, _, _, _, _, _, _, _, rfl⟩, turn_tail toA s w W2 rs _ _ v2 bs _ HR2.out hT2 (hB.trans hBW) (Nat.le_trans hsz hBW.size) hL hn e1 (by rw [Array.length_toList, ByteArray.size_extract]; have : (rs.extract 0 1).data.size = 1 := hx1; omega)⟩, ?_⟩
        rw [rest_set _ _ _ _ _ hc2, restSize_eq r0, ByteArray.size_extract]
        omega
      · have hra0 : ¬ ra.toList = [] := fun e => hra (empty_of_toList e)
        have hra1 : (ra.toList == []) = false := by simpa using hra0
        have hra2 : ra.toList.isEmpty = false := by simpa using hra0
        have hrz : ra.size ≠ 0 := fun e => hra (empty_of_toList (by rw [ByteArray.toList_eq]; exact List.eq_nil_of_length_eq_zero (by rw [Array.length_toList]; exact e)))
        obtain ⟨hmem, _, hhit, ha1, ha3, har⟩ : (ga, gb, gc) ∈ allG ∧ findG rs allG = some ((ga, gb, gc), ra) ∧ hitG rs (ga, gb, gc) = some ra ∧ 1 ≤ ra.size ∧ ra.size ≤ 3 ∧ ra.size ≤ rs.size := by
          rcases HS.out with ⟨_, h⟩ | h
          · exact absurd (congrArg Prod.snd h) hra
          · exact h
        obtain ⟨ht1, ht3⟩ := toA_size (ga, gb, gc) ra hmem ha1 ha3
        have har' : (ra.size : Int) ≤ (rs.size : Int) := by omega
        have hra4 : ¬ (rs.size : Int) < (ra.size : Int) := by omega
        have hgb := (allG_size1 _ hmem).2.2
        have HM := hid hhit
        clear hhit hmem
        go_wp2_with (first | (go_at_call 26; refine HF.out.mono ?_; rintro e W1 ⟨rfl, hT1, hg1⟩; have hR1 := hid ((turn_kept HI.out.1 HI.out.2.1 hg1).alloc (.cells #[.string ga, .string gb, .int .i64 gc] 36)); have hG1 : Blk (W1.alloc (.cells #[.string ga, .string gb, .int .i64 gc] 36)) W1.heap.size 36 #[.string ga, .string gb, .int .i64 gc] := Blk.new _ _ _; have hT1 := hid (hT1.kept (World.grownBy_alloc W1 (.cells #[.string ga, .string gb, .int .i64 gc] 36) none)); have hg1 := hid hg1))
        have hG1 := hid hG1
        have q0 := hG1.out.cell 0
        have q1 := hG1.out.cell 1
        have q2 := hG1.out.cell 2
        have hBX : Hid (Below w.heap.size W (W1.alloc (.cells #[.string ga, .string gb, .int .i64 gc] 36))) := hid ((grown_below hg1.out HI.out.2.1.lt).alloc (by have := hg1.out.size; have := HI.out.2.1.lt; omega) _)
        generalize hX : W1.alloc (.cells #[.string ga, .string gb, .int .i64 gc] 36) = X1 at hR1 hG1 hT1 q0 q1 q2 hBX ⊢
        go_region_held3 (fun w' => w'.cell? ⟨W1.heap.size, 0, none⟩ = some (.string ga) ∧ w'.cell? ⟨W1.heap.size, 1, none⟩ = some (.string gb) ∧ w'.cell? ⟨W1.heap.size, 2, none⟩ = some (.int .i64 gc)) (go_keep) (first | (go_at_call 31; refine Calls.mono (to31 _ (ga, gb, gc) ra (by simp only; omega)) ?_; rintro e V ⟨rfl, hbl⟩; have gV : X1.grownBy V none := ⟨hbl.os, hbl.tape, hbl.output, hbl.size, fun k hk _ => hbl.block k hk⟩; have hRV := hid (hR1.out.grow gV); have hTV := hid (hT1.out.kept gV); have hGV := hid (hG1.out.kept gV (by simp)); have v0 := hGV.out.cell 0; have v1 := hGV.out.cell 1; have v2 := hGV.out.cell 2; have hBV := hid gV; clear gV hbl) | (go_at_call 36; refine Calls.mono (write36 _ _ _ _ _ _ _ _ _ _ (Nat.le_succ _) hRV.out hTV.out ht1 (by have := HI.out.2.2.2.2.2; omega)) ?_; rintro e W2 ⟨⟨uu, rfl⟩, ⟨v2', hR2⟩, hT2, hB2, hk2⟩; have HG2 := hk2 _ 36 _ (by decide) (by decide) hGV.out; have y0 := HG2.cell 0; have y1 := HG2.cell 1; have y2 := HG2.cell 2; have hc2 : W2.cell? ⟨w.heap.size + 1, 0, none⟩ = some (.string rs) := hR2.1.cell 0; have hf2 := hR2.1.frozen 0; have HR2 := hid hR2; clear hR2 hk2 HG2))
        go_wp2
        go_step3
        obtain ⟨hR, hT, hB, hsz, hL, hn⟩ := HI.out
        have hBW : Below w.heap.size W W2 := (hBX.out.trans ⟨hBV.out.os, hBV.out.tape, hBV.out.output, hBV.out.size, fun k hk => hBV.out.block k (by have := hBX.out.size; have := hT.lt; omega) (by simp)⟩).trans hB2
        have e1 := HG.out hrz
        refine ⟨rfl, ⟨⟨_, _, _, _, _, _, _, _, _, _, _, _, _, _, _, _, _, _, _, _, _, _, _, _, _, _, _, _, _, _, _, _, _, _, _, _, _, _, _, _, _, _, _, _, _, _, _, _, _, _, _, _, _, _, _, _, rfl⟩, turn_tail toA s w W2 rs _ _ v2' bs _ HR2.out hT2 (hB.trans hBW) (Nat.le_trans hsz hBW.size) hL hn e1 (by rw [Array.length_toList, ByteArray.size_extract]; have : (toA (ga, gb, gc) ra).data.size ≤ 3 := ht3; omega)⟩, ?_⟩
        rw [rest_set _ _ _ _ _ hc2, restSize_eq r0, ByteArray.size_extract]
        omega
  · intro hrest
    go_wp2
    go_step3
    rename_i K hK
    refine hK _ _ (hrest _ _ ?_)
    refine ⟨⟨_, _, _, _, _, _, _, _, _, _, _, _, _, _, _, _, _, _, _, _, _, _, _, _, _, _, _, _, _, _, _, _, _, _, _, _, _, _, _, _, _, _, _, _, _, _, _, _, _, _, _, _, _, _, _, _, rfl⟩, s, .pointer none, .slice none 0 0, [], ⟨?_, .inl rfl, World.ownsRow_nil _ _ _ _, fun _ => rfl⟩, .inl ⟨(Blk.new w 53 _).alloc _, by simp, Nat.lt_succ_self _⟩, ((Below.refl _ w).alloc (Nat.le_refl _) _).alloc (by simp) _, by simp, rfl, by simp⟩
    have := Blk.new (w.alloc (.cells #[.int .u32 0, .int .i32 0, .int .u32 0, .slice none 0 0, .map none] 53)) 67 #[.string s, .pointer (some ⟨w.heap.size, 0, none⟩), .pointer none, .slice none 0 0]
    rwa [World.size_alloc] at this

end Go.Proofs.Ytophclimlepjoaa
