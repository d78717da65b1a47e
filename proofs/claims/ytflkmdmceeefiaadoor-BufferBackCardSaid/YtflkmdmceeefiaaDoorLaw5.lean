/- The walk of the law BufferBack. -/
import Derived.Test.YtflkmdmceeefiaaDoorLaw3
namespace Go.Proofs.YtflkmdmceeefiaaDoor
open Go.RowKit Go.Shelf Go.Dia

theorem bytes_ext {a b : ByteArray} (h : a.data.toList = b.data.toList) : a = b := ByteArray.ext (Array.toList_inj.1 h)
theorem put_size (t : ByteArray) (at_ n : Int) (x : ByteArray) (h : ¬ Bad t.size at_ n) : ((put t at_ n x).size : Int) = (t.size : Int) - n + x.size := by
  obtain ⟨c1, c2, c3, c4⟩ := bad_iff h
  have e := congrArg List.length (put_toList t at_ n x)
  simp at e
  omega
/-- a splice taken back -/
theorem back_plain (t : ByteArray) (at_ n : Int) (x : ByteArray) (ht : t.size ≤ 4000) (h : ¬ Bad t.size at_ n) (hf : ¬ 4000 < (t.size : Int) - n + x.size) :
    ∃ y t', rd t at_ n = (y, 0) ∧ y.size ≤ 4010 ∧ spl t at_ n x = (t', 0) ∧ rd t' at_ x.size = (x, 0) ∧ spl t' at_ x.size y = (t, 0) := by
  have hps := put_size t at_ n x h
  obtain ⟨c1, c2, c3, c4⟩ := bad_iff h
  have hb2 : ¬ Bad (put t at_ n x).size at_ x.size := by unfold Bad; omega
  have hl := put_toList t at_ n x
  have hts : t.data.toList.length = t.size := by simp
  have hxs : x.data.toList.length = x.size := by simp
  have hy : (t.extract at_.toNat (at_ + n).toNat).data.toList = (t.data.toList.take (at_ + n).toNat).drop at_.toNat := by
    simp [ByteArray.data_extract, List.extract_eq_take_drop, List.drop_take]
  have hyl := congrArg List.length hy
  simp only [List.length_drop, List.length_take, hts] at hyl
  have hys : (t.extract at_.toNat (at_ + n).toNat).data.toList.length = (t.extract at_.toNat (at_ + n).toNat).size := Array.length_toList
  rw [hys] at hyl
  refine ⟨t.extract at_.toNat (at_ + n).toNat, put t at_ n x, by unfold rd; rw [if_neg h], by omega, by unfold spl; rw [if_neg h, if_neg hf], ?_, ?_⟩
  · unfold rd
    rw [if_neg hb2]
    congr 1
    apply bytes_ext
    have e1 : ((put t at_ n x).extract at_.toNat (at_ + (x.size : Int)).toNat).data.toList = ((put t at_ n x).data.toList.take (at_ + (x.size : Int)).toNat).drop at_.toNat := by
      simp [ByteArray.data_extract, List.extract_eq_take_drop, List.drop_take]
    rw [e1, hl, List.append_assoc]
    have e2 : (at_ + (x.size : Int)).toNat = at_.toNat + x.data.toList.length := by omega
    have e3 : (t.data.toList.take at_.toNat).length = at_.toNat := by rw [List.length_take]; omega
    rw [e2, List.take_append, e3, List.take_of_length_le (by omega), List.drop_append, e3]
    simp
  · unfold spl
    rw [if_neg hb2, if_neg (by omega)]
    congr 1
    apply bytes_ext
    rw [put_toList, hl, hy]
    have e3 : (t.data.toList.take at_.toNat).length = at_.toNat := by rw [List.length_take]; omega
    have e2 : (at_ + (x.size : Int)).toNat = at_.toNat + x.data.toList.length := by omega
    have e4 : (t.data.toList.take at_.toNat ++ x.data.toList).length = at_.toNat + x.data.toList.length := by rw [List.length_append, e3]
    have f1 : (t.data.toList.take at_.toNat ++ x.data.toList ++ t.data.toList.drop (at_ + n).toNat).take at_.toNat = t.data.toList.take at_.toNat := by
      rw [List.append_assoc]; exact List.take_left' e3
    rw [f1, e2, ← e4, List.drop_left]
    have e5 : t.data.toList.take at_.toNat = (t.data.toList.take (at_ + n).toNat).take at_.toNat := by rw [List.take_take]; congr 1; omega
    rw [e5, List.take_append_drop, List.take_append_drop]

theorem spl_bad {t : ByteArray} {at_ n : Int} (x : ByteArray) (h : Bad t.size at_ n) : spl t at_ n x = (t, 10) := by unfold spl; rw [if_pos h]
theorem rd_bad {t : ByteArray} {at_ n : Int} (h : Bad t.size at_ n) : rd t at_ n = (⟨#[]⟩, 10) := by unfold rd; rw [if_pos h]
theorem spl_full {t : ByteArray} {at_ n : Int} {x : ByteArray} (h : ¬ Bad t.size at_ n) (hf : 4000 < (t.size : Int) - n + x.size) : spl t at_ n x = (t, 11) := by unfold spl; rw [if_neg h, if_pos hf]

set_option maxRecDepth 100000 in
set_option maxHeartbeats 4000000 in
theorem back_long (w0 : World) (a0 a1 : Addr) (hv : Env w0 a0 a1) (s : ByteArray) (hs : s.size ≤ maxLen) (at_ n : Int) (x : ByteArray) (hx : x.size ≤ maxLen) (hl : 4000 < s.size) :
    Calls Tryd.prog 5 #[.string s, .int .i64 at_, .int .i64 n, .string x] w0 fun e W' => e = .returned (.bool true) ∧ Below w0.heap.size w0 W' := by
  have hcs : Hid (4000 < (cutB s).size) := hid (by unfold cutB; simp; omega)
  go_enter Tryd.func5, Tryd.ntmps5
  go_wp2_with (first | (go_at_call 10; refine (shown_any w0 a0 a1 hv).mono ?_; rintro e w1 ⟨rfl, h1⟩) | (go_at_call_of 11 (Value.string s); refine (cut_any _ s hs).mono ?_; rintro e w2 ⟨rfl, rfl⟩) | (go_at_call_of 11 (Value.string x); refine (cut_any _ x hx).mono ?_; rintro e w2 ⟨rfl, rfl⟩; have hcs' := hcs.out) | (go_at_call 12; refine (aNewFull w0 _ h1 a0 a1 hv _ hcs').mono ?_; rintro e w3 ⟨rfl, h3⟩))
  go_ret
  exact ⟨rfl, h3⟩

set_option maxRecDepth 100000 in
set_option maxHeartbeats 4000000 in
theorem back_short (w0 : World) (a0 a1 : Addr) (hv : Env w0 a0 a1) (s : ByteArray) (hs : s.size ≤ 4000) (at_ n : Int) (x : ByteArray) (hx : x.size ≤ maxLen) :
    Calls Tryd.prog 5 #[.string s, .int .i64 at_, .int .i64 n, .string x] w0 fun e W' => e = .returned (.bool true) ∧ Below w0.heap.size w0 W' := by
  have hcs : Hid (cutB s = s) := hid (cutB_self s (by omega))
  have hsm : s.size ≤ maxLen := by unfold maxLen; omega
  have hc10 := cutB_size x
  obtain ⟨cx, hcx⟩ : ∃ cx, cutB x = cx := ⟨_, rfl⟩
  have HCX := hid hcx
  rw [hcx] at hc10
  clear hcx
  by_cases hbad : Bad s.size at_ n
  · have HS := hid (spl_bad cx hbad)
    have HR := hid (rd_bad hbad)
    clear hbad
    go_enter Tryd.func5, Tryd.ntmps5
    go_wp2_with (first | (go_at_call 10; refine (shown_any w0 a0 a1 hv).mono ?_; rintro e w1 ⟨rfl, h1⟩) | (go_at_call_of 11 (Value.string s); refine (cut_any _ s hsm).mono ?_; rw [hcs.out]; rintro e w2 ⟨rfl, rfl⟩) | (go_at_call_of 11 (Value.string x); refine (cut_any _ x hx).mono ?_; rw [HCX.out]; rintro e w2 ⟨rfl, rfl⟩) | (go_at_call 12; refine (aNew w0 _ h1 _ hs).mono ?_; rintro e w3 ⟨B, hBe, rfl, h3, hA3⟩; clear hBe) | (go_at_call 18; refine (aReadE w0 _ B _ s hA3 at_ n a0 a1 hv _ _ HR.out).mono ?_; rintro e w4 ⟨rfl, hA4⟩) | (go_at_call 15; refine (aSpliceE w0 _ B _ s hA4 (by omega) at_ n cx hc10 a0 a1 hv _ _ HS.out).mono ?_; rintro e w5 ⟨rfl, hA5⟩) | (go_at_call 16; refine (aText w0 _ B _ s hA5).mono ?_; rintro e w6 ⟨rfl, h6, hA6⟩))
    go_ret
    exact ⟨rfl, hA6.b⟩
  · by_cases hf : 4000 < (s.size : Int) - n + cx.size
    · have HS := hid (spl_full hbad hf)
      obtain ⟨y, c, hrd⟩ : ∃ y c, rd s at_ n = (y, c) := ⟨_, _, rfl⟩
      have HR := hid hrd
      clear hbad hrd hf
      go_enter Tryd.func5, Tryd.ntmps5
      go_wp2_with (first | (go_at_call 10; refine (shown_any w0 a0 a1 hv).mono ?_; rintro e w1 ⟨rfl, h1⟩) | (go_at_call_of 11 (Value.string s); refine (cut_any _ s hsm).mono ?_; rw [hcs.out]; rintro e w2 ⟨rfl, rfl⟩) | (go_at_call_of 11 (Value.string x); refine (cut_any _ x hx).mono ?_; rw [HCX.out]; rintro e w2 ⟨rfl, rfl⟩) | (go_at_call 12; refine (aNew w0 _ h1 _ hs).mono ?_; rintro e w3 ⟨B, hBe, rfl, h3, hA3⟩; clear hBe) | (go_at_call 18; refine (aReadE w0 _ B _ s hA3 at_ n a0 a1 hv _ _ HR.out).mono ?_; rintro e w4 ⟨rfl, hA4⟩) | (go_at_call 15; refine (aSpliceE w0 _ B _ s hA4 (by omega) at_ n cx hc10 a0 a1 hv _ _ HS.out).mono ?_; rintro e w5 ⟨rfl, hA5⟩) | (go_at_call 16; refine (aText w0 _ B _ s hA5).mono ?_; rintro e w6 ⟨rfl, h6, hA6⟩))
      go_ret
      exact ⟨rfl, hA6.b⟩
    · obtain ⟨y, t', e1, hy, e2, e3, e4⟩ := back_plain s at_ n cx hs hbad hf
      have E1 := hid e1
      have E2 := hid e2
      have E3 := hid e3
      have E4 := hid e4
      clear hbad hf e1 e2 e3 e4
      go_enter Tryd.func5, Tryd.ntmps5
      go_wp2_with (first | (go_at_call 10; refine (shown_any w0 a0 a1 hv).mono ?_; rintro e w1 ⟨rfl, h1⟩) | (go_at_call_of 11 (Value.string s); refine (cut_any _ s hsm).mono ?_; rw [hcs.out]; rintro e w2 ⟨rfl, rfl⟩) | (go_at_call_of 11 (Value.string x); refine (cut_any _ x hx).mono ?_; rw [HCX.out]; rintro e w2 ⟨rfl, rfl⟩) | (go_at_call 12; refine (aNew w0 _ h1 _ hs).mono ?_; rintro e w3 ⟨B, hBe, rfl, h3, hA3⟩; clear hBe) | (go_at_call_of 18 (Value.int .i64 n); refine (aReadE w0 _ B _ s hA3 at_ n a0 a1 hv _ _ E1.out).mono ?_; rintro e w4 ⟨rfl, hA4⟩) | (go_at_call_of 15 (Value.string cx); refine (aSpliceE w0 _ B _ s hA4 (by omega) at_ n cx hc10 a0 a1 hv _ _ E2.out).mono ?_; rintro e w5 ⟨rfl, hA5⟩) | (go_at_call 18; refine (aReadE w0 _ B _ t' hA5 at_ cx.size a0 a1 hv _ _ E3.out).mono ?_; rintro e w6 ⟨rfl, hA6⟩) | (go_at_call_of 15 (Value.string y); refine (aSpliceE w0 _ B _ t' hA6 (by omega) at_ cx.size y hy a0 a1 hv _ _ E4.out).mono ?_; rintro e w7 ⟨rfl, hA7⟩) | (go_at_call 16; refine (aText w0 _ B _ s hA7).mono ?_; rintro e w8 ⟨rfl, h8, hA8⟩))
      go_ret
      exact ⟨rfl, hA8.b⟩
theorem back_walk (w0 : World) (a0 a1 : Addr) (hv : Env w0 a0 a1) (s : ByteArray) (hs : s.size ≤ maxLen) (at_ n : Int) (x : ByteArray) (hx : x.size ≤ maxLen) :
    Calls Tryd.prog 5 #[.string s, .int .i64 at_, .int .i64 n, .string x] w0 fun e W' => e = .returned (.bool true) ∧ Below w0.heap.size w0 W' := by
  by_cases h : s.size ≤ 4000
  · exact back_short w0 a0 a1 hv s h at_ n x hx
  · exact back_long w0 a0 a1 hv s hs at_ n x hx (by omega)
end Go.Proofs.YtflkmdmceeefiaaDoor
