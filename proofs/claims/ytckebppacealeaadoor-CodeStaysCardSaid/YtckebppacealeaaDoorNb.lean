/- errors.Is of a *Spot that wraps a Code, against a Code. Conditions: the Spot's cell of its error holds a Code. -/
import Derived.Test.YtckebppacealeaaDoorProg
import Derived.WalkKit
import Derived.Stop.Asserts
import Derived.LaidEql
import Derived.RowKitTokens
import Derived.Lib.IfaceEq
set_option linter.unusedVariables false
namespace Go.Proofs.YtckebppacealeaaDoor.Nb
open Go Go.RowKit Go.Extern.Stop Go.Stop Go.Extern

theorem typeOfCode (v : Value) (w : World) : (ReflectliteType.typeOf #[.iface 46 v]).run Tryd.prog w = .ok (.iface 130 (.agg #[.pointer (some ⟨1, 46, none⟩)])) w := by kernel_rfl
theorem methodComparable (h : Value) (w : World) : (Go.method 290 130 (.agg #[h]) "Comparable").run Tryd.prog w = .ok (116, .agg #[h]) w := by kernel_rfl
theorem comparableCode (w : World) : ((ReflectliteType.method fun t => do Rtype.noPackHeld "Comparable" t; (fun a : TypeInfo => Value.bool a.comparable) <$> typeInfo t) #[.agg #[.pointer (some ⟨1, 46, none⟩)]]).run Tryd.prog w = .ok (.bool true) w := by kernel_rfl
theorem methodUnwrap (h : Value) (w : World) : (Go.method 290 67 h "Unwrap").run Tryd.prog w = .ok (110, h) w := by kernel_rfl
theorem noIsS (v : Value) (xT : TypeId) (w : World) : (Instr.typeAssert (.iface 67 v) xT 143 true).run Tryd.prog w = .ok (.tuple #[.nilIface, .bool false]) w := run_typeAssert_lacksB Tryd.underlying143 (by kernel_rfl) (by kernel_rfl) v xT w
theorem noIsC (v : Value) (xT : TypeId) (w : World) : (Instr.typeAssert (.iface 46 v) xT 143 true).run Tryd.prog w = .ok (.tuple #[.nilIface, .bool false]) w := run_typeAssert_lacksB Tryd.underlying143 (by kernel_rfl) (by kernel_rfl) v xT w
theorem hasU (v : Value) (xT : TypeId) (w : World) : (Instr.typeAssert (.iface 67 v) xT 137 true).run Tryd.prog w = .ok (.tuple #[.iface 67 v, .bool true]) w := run_typeAssert_hasB Tryd.underlying137 (by kernel_rfl) v xT w
theorem noU (v : Value) (xT : TypeId) (w : World) : (Instr.typeAssert (.iface 46 v) xT 137 true).run Tryd.prog w = .ok (.tuple #[.nilIface, .bool false]) w := run_typeAssert_lacksB Tryd.underlying137 (by kernel_rfl) (by kernel_rfl) v xT w
theorem noUs (v : Value) (xT : TypeId) (w : World) : (Instr.typeAssert (.iface 46 v) xT 139 true).run Tryd.prog w = .ok (.tuple #[.nilIface, .bool false]) w := run_typeAssert_lacksB Tryd.underlying139 (by kernel_rfl) (by kernel_rfl) v xT w
/-- (*Spot).Unwrap. -/
theorem unwrap_any (b : Nat) (v : Value) (w : World) (hv : w.cell? ⟨b, 1, none⟩ = some v) :
    Calls Tryd.prog 110 #[.pointer (some ⟨b, 0, none⟩)] w fun e w' => e = .returned v ∧ w' = w := by
  go_enter Tryd.func110, Tryd.ntmps110
  go_wp2
  go_ret
  exact ⟨rfl, rfl⟩
theorem eq_code {w : World} (a b : Int) : (Go.binOp .eql 29 (.iface 46 (.int .i64 a)) (.iface 46 (.int .i64 b))).run Tryd.prog w = .ok (.bool (a == b)) w := Go.Lib.run_eql_iface_int w a b Tryd.underlying29 (by kernel_rfl) Tryd.underlying46
theorem eq_spot {w : World} (p : Value) (b : Int) : (Go.binOp .eql 29 (.iface 67 p) (.iface 46 (.int .i64 b))).run Tryd.prog w = .ok (.bool false) w := by
  kernel_rfl
set_option maxRecDepth 100000 in
set_option maxHeartbeats 1000000 in
theorem is_any (b : Nat) (c d : Int) (w : World) (hv : w.cell? ⟨b, 1, none⟩ = some (.iface 46 (.int .i64 d))) :
    Calls Tryd.prog 60 #[.iface 67 (.pointer (some ⟨b, 0, none⟩)), .iface 46 (.int .i64 c), .bool true] w fun e w' => e = .returned (.bool (d == c)) ∧ w' = w := by
  have he := @eq_code
  have hs := @eq_spot
  have mU := methodUnwrap
  have aI := noIsS
  have aJ := noIsC
  have aU := hasU
  have aV := noU
  have aW := noUs
  go_enter Tryd.func60, Tryd.ntmps60
  go_wp2
  refine wp_loop_rounds 2 ?_
  rw [rounds_succ]
  go_wp2_with (go_at_call 110; refine (unwrap_any b _ _ hv).mono ?_; rintro e w' ⟨rfl, rfl⟩)
  by_cases h : d = c
  · have h_1 : (d == c) = true := beq_iff_eq.mpr h
    rw [rounds_succ]
    go_wp2
    go_ret
    exact ⟨by rw [h_1]; rfl, rfl⟩
  · have h_1 : (d == c) = false := beq_eq_false_iff_ne.mpr h
    rw [rounds_succ]
    go_wp2
    go_ret
    exact ⟨by rw [h_1]; rfl, rfl⟩
set_option maxRecDepth 100000 in
set_option maxHeartbeats 1000000 in
theorem Is_any (b : Nat) (c d : Int) (w : World) (hv : w.cell? ⟨b, 1, none⟩ = some (.iface 46 (.int .i64 d))) :
    Calls Tryd.prog 40 #[.iface 67 (.pointer (some ⟨b, 0, none⟩)), .iface 46 (.int .i64 c)] w fun e w' => e = .returned (.bool (d == c)) ∧ w' = w := by
  have hT := @run_callFunc_extern Tryd.prog 59 _ ReflectliteType.typeOf Tryd.func59 (by kernel_rfl) (by kernel_rfl) (by kernel_rfl) (by kernel_rfl)
  have hC := @run_callFunc_extern Tryd.prog 116 _ (ReflectliteType.method fun t => do Rtype.noPackHeld "Comparable" t; pure (.bool (← typeInfo t).comparable)) Tryd.func116 (by kernel_rfl) (by kernel_rfl) (by kernel_rfl) (by kernel_rfl)
  have tO := typeOfCode
  have mC := methodComparable
  have cC := comparableCode
  go_enter Tryd.func40, Tryd.ntmps40
  go_wp2_with (go_at_call 60; refine (is_any b c d _ hv).mono ?_; rintro e w' ⟨rfl, rfl⟩)
  go_ret
  exact ⟨rfl, rfl⟩
end Go.Proofs.YtckebppacealeaaDoor.Nb
