/- What came in as data reads as the seat's kinds say: functions and modules. Conditions: none. -/
import Derived.Test.YtocjpkjijjdnbaaPCheckStaysx0
import Derived.Test.YtocjpkjijjdnbaaOpens
namespace Go.Proofs.Ytocjpkjijjdnbaa.Lo
open Go.Proofs.Ytocjpkjijjdnbaa.PCheckStays Go.Proofs.Ytocjpkjijjdnbaa.Opens Go.Proofs.YtocjpkjijjdnbaaW.PrintWords
theorem opInt : Opens Try.prog 3 (Kd.int .i64) := opens_int Try.underlying3
theorem opInts : Opens Try.prog 22 (Kd.slice 3 (Kd.int .i64)) := opens_slice Try.underlying22 (by kernel_rfl) opInt
theorem opPhi : Opens Try.prog 52 k52 := opens_struct (g := fun p => ⟨p.1, p.2⟩) Try.underlying52 (by kernel_rfl) (fun _ => rfl) (opens_pair (by rfl) (by kernel_rfl) opInt (opens_last (by rfl) (by kernel_rfl) opInts))
theorem opPhis : Opens Try.prog 38 (Kd.slice 52 k52) := opens_slice Try.underlying38 (by kernel_rfl) opPhi
theorem opInt64 : Opens Try.prog 2 (Kd.int .i64) := opens_int Try.underlying2
theorem opInstr : Opens Try.prog 45 k45 := opens_struct (g := fun p => ⟨p.1, p.2.1, p.2.2.1, p.2.2.2.1, p.2.2.2.2⟩) Try.underlying45 (by kernel_rfl) (fun _ => rfl) (opens_pair (by rfl) (by kernel_rfl) opInt (opens_pair (by rfl) (by kernel_rfl) opInt (opens_pair (by rfl) (by kernel_rfl) opInts (opens_pair (by rfl) (by kernel_rfl) opInt64 (opens_last (by rfl) (by kernel_rfl) opInt)))))
theorem opInstrs : Opens Try.prog 39 (Kd.slice 45 k45) := opens_slice Try.underlying39 (by kernel_rfl) opInstr
theorem opTerm : Opens Try.prog 41 k41 := opens_struct (g := fun p => ⟨p.1, p.2.1, p.2.2⟩) Try.underlying41 (by kernel_rfl) (fun _ => rfl) (opens_pair (by rfl) (by kernel_rfl) opInt (opens_pair (by rfl) (by kernel_rfl) opInt (opens_last (by rfl) (by kernel_rfl) opInts)))
theorem opBlock : Opens Try.prog 43 k43 := opens_struct (g := fun p => ⟨p.1, p.2.1, p.2.2⟩) Try.underlying43 (by kernel_rfl) (fun _ => rfl) (opens_pair (by rfl) (by kernel_rfl) opPhis (opens_pair (by rfl) (by kernel_rfl) opInstrs (opens_last (by rfl) (by kernel_rfl) opTerm)))
theorem opBlocks : Opens Try.prog 23 (Kd.slice 43 k43) := opens_slice Try.underlying23 (by kernel_rfl) opBlock
theorem opFunc : Opens Try.prog 25 k25 := opens_struct (g := fun p => ⟨p.1, p.2.1, p.2.2.1, p.2.2.2⟩) Try.underlying25 (by kernel_rfl) (fun _ => rfl) (opens_pair (by rfl) (by kernel_rfl) opInt (opens_pair (by rfl) (by kernel_rfl) opInt (opens_pair (by rfl) (by kernel_rfl) opInts (opens_last (by rfl) (by kernel_rfl) opBlocks))))
theorem opFuncs : Opens Try.prog 28 (Kd.slice 25 k25) := opens_slice Try.underlying28 (by kernel_rfl) opFunc
theorem opModule : Opens Try.prog 30 (Kd.iso (Kd.slice 25 k25) (fun x : List S25 => x)) := opens_struct (g := fun p => p) Try.underlying30 (by kernel_rfl) (fun _ => rfl) (opens_last (by rfl) (by kernel_rfl) opFuncs)
theorem openModule {W : World} {x : List S25} {cs : List Value} (h : (Kd.iso (Kd.slice 25 k25) (fun x : List S25 => x)).K W x cs) : ∃ A c, cs = [.slice A x.length c] ∧ x.length ≤ c ∧ Kd.C k25 W A x.length x := h
end Go.Proofs.Ytocjpkjijjdnbaa.Lo
