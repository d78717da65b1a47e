/- errors.Is at the two error values, and told. -/
import Derived.Test.YtflkmdmceeefiaaDoorBase
import Derived.Test.YtflkmdmceeefiaaDoorProg
import Derived.LaidEql
import Derived.Stop.Asserts
namespace Go.Proofs.YtflkmdmceeefiaaDoor
open Go.RowKit Go.Dia

theorem isTypeOf (v : Value) (w : World) : (Extern.ReflectliteType.typeOf #[.iface 91 v]).run Tryd.prog w = .ok (.iface 79 (.agg #[.pointer (some ⟨2, 91, none⟩)])) w := by kernel_rfl
def cmpFn : Array Value → Sem Value := Extern.ReflectliteType.method fun t => do Extern.Rtype.noPackHeld "Comparable" t; pure (.bool (← typeInfo t).comparable)
theorem isComparable (w : World) : (cmpFn #[.agg #[.pointer (some ⟨2, 91, none⟩)]]).run Tryd.prog w = .ok (.bool true) w := by kernel_rfl
theorem isMethodComparable (v : Value) (w : World) : (Go.method (125 + Made.depth) 79 v "Comparable").run Tryd.prog w = .ok (58, v) w := by kernel_rfl
theorem isComp : (Tryd.prog.info? 91).map (·.comparable) = some true := by kernel_rfl
theorem isSize : (Tryd.prog.info? 114).map (·.size) = some 1 := by kernel_rfl
theorem noIsE (v : Value) (xT : TypeId) (w : World) : (Instr.typeAssert (.iface 91 v) xT 81 true).run Tryd.prog w = .ok (.tuple #[.nilIface, .bool false]) w := run_typeAssert_lacksB Tryd.underlying81 (by kernel_rfl) (by kernel_rfl) v xT w
theorem noUnwrapE (v : Value) (xT : TypeId) (w : World) : (Instr.typeAssert (.iface 91 v) xT 84 true).run Tryd.prog w = .ok (.tuple #[.nilIface, .bool false]) w := run_typeAssert_lacksB Tryd.underlying84 (by kernel_rfl) (by kernel_rfl) v xT w
theorem noUnwrapsE (v : Value) (xT : TypeId) (w : World) : (Instr.typeAssert (.iface 91 v) xT 86 true).run Tryd.prog w = .ok (.tuple #[.nilIface, .bool false]) w := run_typeAssert_lacksB Tryd.underlying86 (by kernel_rfl) (by kernel_rfl) v xT w

set_option maxHeartbeats 1000000 in
theorem is_same (a : Addr) (w : World) :
    Calls Tryd.prog 30 #[.iface 91 (.pointer (some a)), .iface 91 (.pointer (some a))] w fun e w' => e = .returned (.bool true) ∧ w = w' := by
  obtain ⟨i, hi, hcmp⟩ := Option.map_eq_some_iff.1 isComp
  obtain ⟨j, hj, hjs⟩ := Option.map_eq_some_iff.1 isSize
  have h8 := @run_callFunc_extern Tryd.prog 35 _ Extern.ReflectliteType.typeOf Tryd.func35 (by kernel_rfl) (by kernel_rfl) (by kernel_rfl) (by kernel_rfl)
  have h32 := @run_callFunc_extern Tryd.prog 58 _ cmpFn Tryd.func58 (by kernel_rfl) (by kernel_rfl) (by kernel_rfl) (by kernel_rfl)
  have tT := isTypeOf
  have cT := isComparable
  have mR := isMethodComparable
  rw [show 125 + Made.depth = 225 from rfl] at mR
  have heq := run_eql_iface_ptr_same (P := Tryd.prog) w a Tryd.underlying46 Tryd.underlying91 hi hcmp hj
  go_enter Tryd.func30, Tryd.ntmps30
  go_wp2
  refine wp_loop_rounds 1 ?_
  rw [rounds_succ]
  go_wp2
  go_ret
  exact ⟨rfl, rfl⟩

set_option maxHeartbeats 1000000 in
theorem is_other (a b : Addr) (ca cb : Array Value) (ta tb : TypeId) (w : World) (hne : a ≠ b) (ha : w.heap[a.block]? = some (.cells ca ta (0, 0))) (hb : w.heap[b.block]? = some (.cells cb tb (0, 0))) :
    Calls Tryd.prog 30 #[.iface 91 (.pointer (some a)), .iface 91 (.pointer (some b))] w fun e w' => e = .returned (.bool false) ∧ w = w' := by
  obtain ⟨i, hi, hcmp⟩ := Option.map_eq_some_iff.1 isComp
  obtain ⟨j, hj, hjs⟩ := Option.map_eq_some_iff.1 isSize
  have h8 := @run_callFunc_extern Tryd.prog 35 _ Extern.ReflectliteType.typeOf Tryd.func35 (by kernel_rfl) (by kernel_rfl) (by kernel_rfl) (by kernel_rfl)
  have h32 := @run_callFunc_extern Tryd.prog 58 _ cmpFn Tryd.func58 (by kernel_rfl) (by kernel_rfl) (by kernel_rfl) (by kernel_rfl)
  have tT := isTypeOf
  have cT := isComparable
  have mR := isMethodComparable
  rw [show 125 + Made.depth = 225 from rfl] at mR
  have nE := noIsE
  have uE := noUnwrapE
  have vE := noUnwrapsE
  have heq := run_eql_iface_ptr_other (P := Tryd.prog) w Tryd.underlying46 Tryd.underlying91 hi hcmp hj (by rw [hjs]; decide) hne ha hb
  go_enter Tryd.func30, Tryd.ntmps30
  go_wp2
  refine wp_loop_rounds 1 ?_
  rw [rounds_succ]
  go_wp2
  go_ret
  exact ⟨rfl, rfl⟩

/-- what the two variables hold -/
structure Vars (W : World) (a0 a1 : Addr) : Prop where
  c0 : W.cell? ⟨0, 0, none⟩ = some (.iface 91 (.pointer (some a0)))
  c1 : W.cell? ⟨1, 0, none⟩ = some (.iface 91 (.pointer (some a1)))
  ne : a0 ≠ a1
  r0 : ∃ ca ta, W.heap[a0.block]? = some (.cells ca ta (0, 0))
  r1 : ∃ ca ta, W.heap[a1.block]? = some (.cells ca ta (0, 0))
theorem Vars.below {W W' : World} {a0 a1 : Addr} {n : Nat} (h : Vars W a0 a1) (hb : Below n W W') (h2 : 2 ≤ n) (h3 : a0.block < n) (h4 : a1.block < n) : Vars W' a0 a1 :=
  ⟨(hb.cell (p := ⟨0, 0, none⟩) (by show 0 < n; omega)).trans h.c0, (hb.cell (p := ⟨1, 0, none⟩) (by show 1 < n; omega)).trans h.c1, h.ne,
    let ⟨ca, ta, e⟩ := h.r0; ⟨ca, ta, (hb.block _ h3).trans e⟩, let ⟨ca, ta, e⟩ := h.r1; ⟨ca, ta, (hb.block _ h4).trans e⟩⟩

set_option maxHeartbeats 1000000 in
/-- told(errRange) -/
theorem told_range (a0 a1 : Addr) (w : World) (h : Vars w a0 a1) :
    Calls Tryd.prog 22 #[.iface 91 (.pointer (some a1))] w fun e w' => e = .returned (.int .i64 10) ∧ w = w' := by
  have c1 := h.c1
  go_enter Tryd.func22, Tryd.ntmps22
  go_wp2_with (go_at_call 30; refine (is_same a1 _).mono ?_; rintro e w' ⟨rfl, rfl⟩)
  go_ret
  exact ⟨rfl, rfl⟩
set_option maxHeartbeats 1000000 in
/-- told(errFull) -/
theorem told_full (a0 a1 : Addr) (w : World) (h : Vars w a0 a1) :
    Calls Tryd.prog 22 #[.iface 91 (.pointer (some a0))] w fun e w' => e = .returned (.int .i64 11) ∧ w = w' := by
  have c1 := h.c1
  have c0 := h.c0
  have hne := h.ne
  obtain ⟨ca, ta, r0⟩ := h.r0
  obtain ⟨cb, tb, r1⟩ := h.r1
  have H0 : Hid (w.heap[a0.block]? = some (.cells ca ta (0, 0))) := hid r0
  have H1 : Hid (w.heap[a1.block]? = some (.cells cb tb (0, 0))) := hid r1
  clear r0 r1 h
  go_enter Tryd.func22, Tryd.ntmps22
  go_wp2_with fail
  refine (is_other a0 a1 ca cb ta tb _ hne H0.out H1.out).mono ?_
  rintro e w' ⟨rfl, rfl⟩
  go_wp2_with fail
  refine (is_same a0 _).mono ?_
  rintro e w' ⟨rfl, rfl⟩
  go_wp2
  go_ret
  exact ⟨rfl, rfl⟩
end Go.Proofs.YtflkmdmceeefiaaDoor
