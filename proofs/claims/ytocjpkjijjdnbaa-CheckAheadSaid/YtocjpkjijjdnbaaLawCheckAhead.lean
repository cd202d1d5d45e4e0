-- Laid by a program of this session (wip/pp/patch.py over the kit's print).
import Derived.Test.YtocjpkjijjdnbaaRows
import Derived.Test.YtocjpkjijjdnbaaPCheckAheadx4
import Derived.Test.YtocjpkjijjdnbaaPureCheckAhead
import Derived.WalkKit
import Derived.ProofKit
import Derived.OpenShut
import Derived.ShutString
import Derived.ChangeOld
import Derived.Below
import Derived.SizedLaws
import Derived.Test.YtocjpkjijjdnbaaV0
import Derived.Test.YtocjpkjijjdnbaaOpens
namespace Go.Proofs.Ytocjpkjijjdnbaa.checkAhead
open Go.ChangeShapes Go.WideShapes Go.ChangeAt Go.RowKit
open Go.ChangeMaps (open_string shut_string)
set_option linter.unusedVariables false
theorem own : ownKnob Try.prog.godebug = none := by kernel_rfl
theorem laidOut : laidOutB Try.prog = true := by kernel_rfl
def IsRow (k : IntKind) (w : World) (a : Option Addr) (len cap : Nat) (zs : List Int) : Prop :=
  (a = none ∧ len = 0 ∧ cap = 0 ∧ zs = []) ∨
  ∃ x, a = some x ∧ len ≤ cap ∧ cap ≤ maxLen ∧ zs.length = cap ∧ (∀ i, i < zs.length → w.cell? (x.add i) = some (.int k (zs.getD i 0))) ∧ ∀ n ∈ zs, (Lit.int k n).wf = true
open Go.Proofs.Ytocjpkjijjdnbaa.PCheckAhead Go.Proofs.Ytocjpkjijjdnbaa.Opens Go.Proofs.YtocjpkjijjdnbaaW.PrintWords
theorem op3 : Opens Try.prog 3 (Kd.int .i64) := opens_int Try.underlying3
theorem op22 : Opens Try.prog 22 (Kd.slice 3 (Kd.int .i64)) := opens_slice Try.underlying22 (by kernel_rfl) op3
theorem op52 : Opens Try.prog 52 k52 := opens_struct (g := fun p => ⟨p.1, p.2⟩) Try.underlying52 (by kernel_rfl) (fun _ => rfl) (opens_pair (by rfl) (by kernel_rfl) op3 (opens_last (by rfl) (by kernel_rfl) op22))
theorem op38 : Opens Try.prog 38 (Kd.slice 52 k52) := opens_slice Try.underlying38 (by kernel_rfl) op52
theorem op2 : Opens Try.prog 2 (Kd.int .i64) := opens_int Try.underlying2
theorem op45 : Opens Try.prog 45 k45 := opens_struct (g := fun p => ⟨p.1, p.2.1, p.2.2.1, p.2.2.2.1, p.2.2.2.2⟩) Try.underlying45 (by kernel_rfl) (fun _ => rfl) (opens_pair (by rfl) (by kernel_rfl) op3 (opens_pair (by rfl) (by kernel_rfl) op3 (opens_pair (by rfl) (by kernel_rfl) op22 (opens_pair (by rfl) (by kernel_rfl) op2 (opens_last (by rfl) (by kernel_rfl) op3)))))
theorem op39 : Opens Try.prog 39 (Kd.slice 45 k45) := opens_slice Try.underlying39 (by kernel_rfl) op45
theorem op41 : Opens Try.prog 41 k41 := opens_struct (g := fun p => ⟨p.1, p.2.1, p.2.2⟩) Try.underlying41 (by kernel_rfl) (fun _ => rfl) (opens_pair (by rfl) (by kernel_rfl) op3 (opens_pair (by rfl) (by kernel_rfl) op3 (opens_last (by rfl) (by kernel_rfl) op22)))
theorem op43 : Opens Try.prog 43 k43 := opens_struct (g := fun p => ⟨p.1, p.2.1, p.2.2⟩) Try.underlying43 (by kernel_rfl) (fun _ => rfl) (opens_pair (by rfl) (by kernel_rfl) op38 (opens_pair (by rfl) (by kernel_rfl) op39 (opens_last (by rfl) (by kernel_rfl) op41)))
theorem op23 : Opens Try.prog 23 (Kd.slice 43 k43) := opens_slice Try.underlying23 (by kernel_rfl) op43
theorem op25 : Opens Try.prog 25 k25 := opens_struct (g := fun p => ⟨p.1, p.2.1, p.2.2.1, p.2.2.2⟩) Try.underlying25 (by kernel_rfl) (fun _ => rfl) (opens_pair (by rfl) (by kernel_rfl) op3 (opens_pair (by rfl) (by kernel_rfl) op3 (opens_pair (by rfl) (by kernel_rfl) op22 (opens_last (by rfl) (by kernel_rfl) op23))))
set_option maxRecDepth 100000 in
theorem lifted (os : Os) (started : os.Started) (H : Type) (enc : TypeId × Value → H) :
    ReturnsInHanded {} Try.checked os 3 .any (Rows.checkAheadSpec.pre6 enc Try.prog Try.f3 Rows.checkAheadRow.domain false) (Rows.checkAheadSpec.post enc Try.prog Try.f3 false true false false) := by
  refine returnsInHanded_of_change_sized (C := Try.checked) own started (by kernel_rfl) Try.func3
    (ChangeSpec.witness6 (enc := enc) (C := Try.checked) false ⟨#[], #[.agg #[.int .i64 0, .int .i64 0, .slice none 0 0, .slice none 0 0]], []⟩ 8 (by kernel_rfl) (by kernel_rfl) (by kernel_rfl) (by kernel_rfl)) ?_
  intro W base args ds gs before hval0 hW hcnd hsz0 _
  have hsz : (DataW.weightsEach Try.prog (Try.f3.params.toList ++ Rows.checkAheadSpec.plain.varTypes Try.prog) (ds ++ gs)).all (· ≤ reachBytes) = true := hsz0
  have hval : ∀ (j : Nat) t v, Try.f3.params[j]? = some t → args[j]? = some v → Value.okWide Try.prog W .any base t v := hval0
  have hW' := hW
  obtain ⟨p, q, hA0, hV, rfl, hfz, hnd⟩ := hW
  have hA : DataW.TrodAll enc Try.prog W 0 (fun _ => true) true Try.f3.params.toList args.toList ds p := hA0
  rw [Try.params3] at hA hval hsz
  obtain ⟨v0, vs0, d0, ds0, p0, q0, hargs, rfl, rfl, h0, r0⟩ := trodAll_cons hA
  obtain ⟨rfl, rfl, rfl⟩ := trodAll_nil r0
  obtain rfl : args = #[v0] := by cases args; simp_all
  obtain ⟨rfl, rfl⟩ := trodVars_none hV
  obtain ⟨cs0, rfl, _⟩ := okWide_struct Try.underlying25 (hval 0 25 v0 rfl rfl)
  have k0 := h0
  have lt0 : ∀ x ∈ p0, x.block < W.heap.size := by obtain ⟨m, hm⟩ := k0; exact DataW.trod_lt m _ _ _ hm
  obtain ⟨fuel0, hf0⟩ := h0
  obtain ⟨x0, hK0⟩ := op25 H enc W _ _ _ _ _ hf0
  obtain ⟨A0_2, c0_2, A0_3, c0_3, he0, hc0_2, hr0_2, hc0_3, hr0_3⟩ := k25_open hK0
  obtain rfl : cs0 = #[.int .i64 x0.f0, .int .i64 x0.f1, .slice A0_2 x0.f2.length c0_2, .slice A0_3 x0.f3.length c0_3] := by
    apply Array.toList_inj.mp
    exact he0
  clear hA0 hval0 hsz0 hsz
  refine (PCheckAhead.fettlelaw02_CheckAhead.walk Pure.CheckAhead x0.f0 x0.f1 A0_2 c0_2 x0.f2 A0_3 c0_3 x0.f3 W hr0_2 hc0_2 hr0_3 hc0_3).mono fun e W' ⟨he, bel⟩ => ?_
  subst he
  exact ⟨_, rfl, _, _, _, [], _, [], hW', trodAll_mk1 (shut_bool Try.underlying4 _), (trodAll_cons_mk (Below.trod laidOut (by kernel_rfl) (of_decide_eq_true (by kernel_rfl)) k0 bel lt0) trodAll_mk0), rfl, bel.frame _, fun h => by cases h⟩
theorem over : Rows.checkAheadRow.holds Try.pinned (OpenSpec.ofChange Rows.checkAheadSpec) :=
  OpenClaim.holds_of_wide 3 Try.f3 rfl rfl rfl rfl rfl rfl rfl ⟨rfl, rfl, rfl, rfl, rfl⟩ rfl rfl rfl rfl rfl (by kernel_rfl) Try.func3 (by kernel_rfl)
    (of_decide_eq_true (by kernel_rfl)) (by unfold Func.isWrapper; first | (rw [if_pos (by decide +kernel)]; kernel_rfl) | (rw [if_neg (by decide +kernel)]; exact ⟨rfl, rfl⟩))
    (fun os started H enc _ => lifted os started H enc)
theorem proved : Rows.CheckAheadSaid := over
#print axioms proved
end Go.Proofs.Ytocjpkjijjdnbaa.checkAhead
namespace Go.Proofs.Ytocjpkjijjdnbaa
/-- The row, under a short name, for the claim. -/
theorem checkAhead_holds : Rows.CheckAheadSaid := checkAhead.proved
end Go.Proofs.Ytocjpkjijjdnbaa
