/- A key of the table's map (a struct of two integers) reads as one string literal, and unlike keys read unlike. Conditions: the integers are of their kind. -/
import Derived.Test.YtaedbjjjdafabaaPInternFullx1
import Derived.Maps.OwnSet
import Derived.Maps.OwnOps
import Derived.DeepKeys4
namespace Go.Proofs.Ytaedbjjjdafabaa.Tb
open Go.RowKit Go.Proofs.YtaedbjjjdafabaaW.PrintWords Go.Proofs.YtaedbjjjdafabaaW.PrintLast Go.Proofs.YtaedbjjjdafabaaW.PrintMore Go.Proofs.YtaedbjjjdafabaaW.PrintWords.Kd Go.Maps
open Go.WideMaps (KeyLaw)
theorem info36 : (Try.prog.info? 36).map (fun i => (i.zero, i.size, i.bytes)) = some (some (.slice none 0 0), 1, 24) := by kernel_rfl
theorem info40 : (Try.prog.info? 40).map (fun i => (i.zero, i.size, i.bytes)) = some (some (.agg #[.int .i64 0, .int .i64 0]), 2, 16) := by kernel_rfl
theorem laidOut : laidOutB Try.prog = true := by kernel_rfl
theorem row40 : (40 : TypeId) < Try.prog.types.size := of_decide_eq_true (by kernel_rfl)
theorem law40 : Keyed Try.prog 40 := Keyed.of_law (deep_law_laid laidOut (m := 2) (by omega) row40 (by kernel_rfl) (by kernel_rfl))
theorem key40 : Try.prog.keyType 40 = true := by kernel_rfl
theorem cells40 : Try.prog.cellsOf 40 = 2 := by kernel_rfl
theorem cells3 : Try.prog.cellsOf 3 = 1 := by kernel_rfl
theorem cells2 : Try.prog.cellsOf 2 = 1 := by kernel_rfl
theorem sizes : ∃ m, Try.prog.types.size = m + 1 := ⟨Try.prog.types.size - 1, by have h : (40 : Nat) < Try.prog.types.size := row40; omega⟩
theorem keyOf_two {P : Program} {k e e' : TypeId} {fs : Array Field} (hk : P.keyType k = true) (hu : P.underlying k = some (.struct fs)) (hfs : ∃ f g, fs = #[f, g] ∧ f.name ≠ "_" ∧ g.name ≠ "_" ∧ f.type = e ∧ g.type = e' ∧ f.offset = 0 ∧ g.offset = 1)
    (he : P.underlying e = some (.int .i64)) (he' : P.underlying e' = some (.int .i64)) (hc : P.cellsOf k = 2) (hce : P.cellsOf e = 1) (hce' : P.cellsOf e' = 1) (hm : ∃ m, P.types.size = m + 1) {a b : Int} (ha : (Lit.int .i64 a).wf = true) (hb : (Lit.int .i64 b).wf = true) :
    keyOf P k (.agg #[.int .i64 a, .int .i64 b]) = some (.string (keyBytes [.int .i64 a, .int .i64 b])) := by
  obtain ⟨m, hm⟩ := hm
  obtain ⟨f, g, rfl, h1, h2, h3, h4, h5, h6⟩ := hfs
  simp [keyOf, hu, hk, Value.formed, hc, Value.cells, Program.keyLits, hce, hce', hm, he, he', ha, hb, h1, h2, h3, h4, h5, h6]
def KL (a b : Int) : Lit := .string (keyBytes [.int .i64 a, .int .i64 b])
theorem keyOf40 {a b : Int} (ha : (Lit.int .i64 a).wf = true) (hb : (Lit.int .i64 b).wf = true) : keyOf Try.prog 40 (.agg #[.int .i64 a, .int .i64 b]) = some (KL a b) :=
  keyOf_two key40 Try.underlying40 ⟨_, _, rfl, by decide, by decide, rfl, rfl, rfl, rfl⟩ Try.underlying3 Try.underlying2 cells40 cells3 cells2 sizes ha hb
theorem KL_inj {a b c d : Int} (ha : (Lit.int .i64 a).wf = true) (hb : (Lit.int .i64 b).wf = true) (hc : (Lit.int .i64 c).wf = true) (hd : (Lit.int .i64 d).wf = true) (h : KL a b = KL c d) : a = c ∧ b = d := by
  have := law40.inj (keyOf40 ha hb) (h ▸ keyOf40 hc hd)
  simpa using this
end Go.Proofs.Ytaedbjjjdafabaa.Tb
