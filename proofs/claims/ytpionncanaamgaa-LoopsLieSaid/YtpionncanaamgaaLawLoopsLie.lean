-- Laid by a program of this session (wip/pp/patch.py over the kit's print).
import Derived.Test.YtpionncanaamgaaRows
import Derived.Test.YtpionncanaamgaaPLoopsLiex11
import Derived.Test.YtpionncanaamgaaPureLoopsLie
import Derived.WalkKit
import Derived.ProofKit
import Derived.OpenShut
import Derived.ShutString
import Derived.ChangeOld
import Derived.Below
import Derived.SizedLaws
import Derived.Test.YtpionncanaamgaaV0
import Derived.Test.YtpionncanaamgaaOpens
namespace Go.Proofs.Ytpionncanaamgaa.loopsLie
open Go.ChangeShapes Go.WideShapes Go.ChangeAt Go.RowKit
open Go.ChangeMaps (open_string shut_string)
set_option linter.unusedVariables false
theorem own : ownKnob Try.prog.godebug = none := by kernel_rfl
theorem laidOut : laidOutB Try.prog = true := by kernel_rfl
def IsRow (k : IntKind) (w : World) (a : Option Addr) (len cap : Nat) (zs : List Int) : Prop :=
  (a = none ∧ len = 0 ∧ cap = 0 ∧ zs = []) ∨
  ∃ x, a = some x ∧ len ≤ cap ∧ cap ≤ maxLen ∧ zs.length = cap ∧ (∀ i, i < zs.length → w.cell? (x.add i) = some (.int k (zs.getD i 0))) ∧ ∀ n ∈ zs, (Lit.int k n).wf = true
open Go.Proofs.Ytpionncanaamgaa.PLoopsLie Go.Proofs.Ytpionncanaamgaa.Opens Go.Proofs.YtpionncanaamgaaW.PrintWords
theorem op3 : Opens Try.prog 3 (Kd.int .i64) := opens_int Try.underlying3
theorem op22 : Opens Try.prog 22 (Kd.slice 3 (Kd.int .i64)) := opens_slice Try.underlying22 (by kernel_rfl) op3
theorem op62 : Opens Try.prog 62 k62 := opens_struct (g := fun p => ⟨p.1, p.2⟩) Try.underlying62 (by kernel_rfl) (fun _ => rfl) (opens_pair (by rfl) (by kernel_rfl) op3 (opens_last (by rfl) (by kernel_rfl) op22))
theorem op49 : Opens Try.prog 49 (Kd.slice 62 k62) := opens_slice Try.underlying49 (by kernel_rfl) op62
theorem op2 : Opens Try.prog 2 (Kd.int .i64) := opens_int Try.underlying2
theorem op64 : Opens Try.prog 64 k64 := opens_struct (g := fun p => ⟨p.1, p.2.1, p.2.2.1, p.2.2.2.1, p.2.2.2.2⟩) Try.underlying64 (by kernel_rfl) (fun _ => rfl) (opens_pair (by rfl) (by kernel_rfl) op3 (opens_pair (by rfl) (by kernel_rfl) op3 (opens_pair (by rfl) (by kernel_rfl) op22 (opens_pair (by rfl) (by kernel_rfl) op2 (opens_last (by rfl) (by kernel_rfl) op3)))))
theorem op50 : Opens Try.prog 50 (Kd.slice 64 k64) := opens_slice Try.underlying50 (by kernel_rfl) op64
theorem op47 : Opens Try.prog 47 k47 := opens_struct (g := fun p => ⟨p.1, p.2.1, p.2.2⟩) Try.underlying47 (by kernel_rfl) (fun _ => rfl) (opens_pair (by rfl) (by kernel_rfl) op3 (opens_pair (by rfl) (by kernel_rfl) op3 (opens_last (by rfl) (by kernel_rfl) op22)))
theorem op52 : Opens Try.prog 52 k52 := opens_struct (g := fun p => ⟨p.1, p.2.1, p.2.2⟩) Try.underlying52 (by kernel_rfl) (fun _ => rfl) (opens_pair (by rfl) (by kernel_rfl) op49 (opens_pair (by rfl) (by kernel_rfl) op50 (opens_last (by rfl) (by kernel_rfl) op47)))
theorem op23 : Opens Try.prog 23 (Kd.slice 52 k52) := opens_slice Try.underlying23 (by kernel_rfl) op52
theorem op25 : Opens Try.prog 25 k25 := opens_struct (g := fun p => ⟨p.1, p.2.1, p.2.2.1, p.2.2.2⟩) Try.underlying25 (by kernel_rfl) (fun _ => rfl) (opens_pair (by rfl) (by kernel_rfl) op3 (opens_pair (by rfl) (by kernel_rfl) op3 (opens_pair (by rfl) (by kernel_rfl) op22 (opens_last (by rfl) (by kernel_rfl) op23))))
set_option maxRecDepth 100000 in
theorem lifted (os : Os) (started : os.Started) (H : Type) (enc : TypeId × Value → H) :
    ReturnsInHanded {} Try.checked os 8 .any (Rows.loopsLieSpec.pre6 enc Try.prog Try.f8 Rows.loopsLieRow.domain false) (Rows.loopsLieSpec.post enc Try.prog Try.f8 false true false false) := by
  refine returnsInHanded_of_change_sized (C := Try.checked) own started (by kernel_rfl) Try.func8
    (ChangeSpec.witness6 (enc := enc) (C := Try.checked) false ⟨#[], #[.agg #[.int .i64 0, .int .i64 0, .slice none 0 0, .slice none 0 0]], []⟩ 8 (by kernel_rfl) (by kernel_rfl) (by kernel_rfl) (by kernel_rfl)) ?_
  intro W base args ds gs before hval0 hW hcnd hsz0 _
  have hsz : (DataW.weightsEach Try.prog (Try.f8.params.toList ++ Rows.loopsLieSpec.plain.varTypes Try.prog) (ds ++ gs)).all (· ≤ reachBytes) = true := hsz0
  have hval : ∀ (j : Nat) t v, Try.f8.params[j]? = some t → args[j]? = some v → Value.okWide Try.prog W .any base t v := hval0
  have hW' := hW
  obtain ⟨p, q, hA0, hV, rfl, hfz, hnd⟩ := hW
  have hA : DataW.TrodAll enc Try.prog W 0 (fun _ => true) true Try.f8.params.toList args.toList ds p := hA0
  rw [Try.params8] at hA hval hsz
  obtain ⟨v0, vs0, d0, ds0, p0, q0, hargs, rfl, rfl, h0, r0⟩ := trodAll_cons hA
  obtain ⟨rfl, rfl, rfl⟩ := trodAll_nil r0
  obtain rfl : args = #[v0] := by cases args; simp_all
  obtain ⟨rfl, rfl⟩ := trodVars_none hV
  obtain ⟨cs0, rfl, _⟩ := okWide_struct Try.underlying25 (hval 0 25 v0 rfl rfl)
  have k0 := h0
  have lt0 : ∀ x ∈ p0, x.block < W.heap.size := by obtain ⟨m, hm⟩ := k0; exact DataW.trod_lt m _ _ _ hm
  obtain ⟨fuel0, hf0⟩ := h0
  obtain ⟨x0, hK0⟩ := op25 H enc W _ _ _ _ _ hf0
  obtain ⟨A0_2, c0_2, A0_3, c0_3, he0, hc0_2, hr0_2, hc0_3, hr0_3⟩ := k25_open hK0
  obtain rfl : cs0 = #[.int .i64 x0.f0, .int .i64 x0.f1, .slice A0_2 x0.f2.length c0_2, .slice A0_3 x0.f3.length c0_3] := by
    apply Array.toList_inj.mp
    exact he0
  clear hA0 hval0 hsz0 hsz
  refine (PLoopsLie.fettlelaw07_LoopsLie.walk Pure.LoopsLie x0.f0 x0.f1 A0_2 c0_2 x0.f2 A0_3 c0_3 x0.f3 W hr0_2 hc0_2 hr0_3 hc0_3).mono fun e W' ⟨he, bel⟩ => ?_
  subst he
  exact ⟨_, rfl, _, _, _, [], _, [], hW', trodAll_mk1 (shut_bool Try.underlying4 _), (trodAll_cons_mk (Below.trod laidOut (by kernel_rfl) (of_decide_eq_true (by kernel_rfl)) k0 bel lt0) trodAll_mk0), rfl, bel.frame _, fun h => by cases h⟩
theorem over : Rows.loopsLieRow.holds Try.pinned (OpenSpec.ofChange Rows.loopsLieSpec) :=
  OpenClaim.holds_of_wide 8 Try.f8 rfl rfl rfl rfl rfl rfl rfl ⟨rfl, rfl, rfl, rfl, rfl⟩ rfl rfl rfl rfl rfl (by kernel_rfl) Try.func8 (by kernel_rfl)
    (of_decide_eq_true (by kernel_rfl)) (by unfold Func.isWrapper; first | (rw [if_pos (by decide +kernel)]; kernel_rfl) | (rw [if_neg (by decide +kernel)]; exact ⟨rfl, rfl⟩))
    (fun os started H enc _ => lifted os started H enc)
theorem proved : Rows.LoopsLieSaid := over
#print axioms proved
end Go.Proofs.Ytpionncanaamgaa.loopsLie
namespace Go.Proofs.Ytpionncanaamgaa
/-- The row, under a short name, for the claim. -/
theorem loopsLie_holds : Rows.LoopsLieSaid := loopsLie.proved
end Go.Proofs.Ytpionncanaamgaa
