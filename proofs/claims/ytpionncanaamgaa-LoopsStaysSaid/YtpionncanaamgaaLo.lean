/- What came in as data reads as the seat's kinds say: functions and modules. Conditions: none. -/
import Derived.Test.YtpionncanaamgaaPLoopsStaysx0
import Derived.Test.YtpionncanaamgaaOpens
namespace Go.Proofs.Ytpionncanaamgaa.Lo
open Go.Proofs.Ytpionncanaamgaa.PLoopsStays Go.Proofs.Ytpionncanaamgaa.Opens Go.Proofs.YtpionncanaamgaaW.PrintWords
theorem opInt : Opens Try.prog 3 (Kd.int .i64) := opens_int Try.underlying3
theorem opInts : Opens Try.prog 22 (Kd.slice 3 (Kd.int .i64)) := opens_slice Try.underlying22 (by kernel_rfl) opInt
theorem opPhi : Opens Try.prog 62 k62 := opens_struct (g := fun p => ⟨p.1, p.2⟩) Try.underlying62 (by kernel_rfl) (fun _ => rfl) (opens_pair (by rfl) (by kernel_rfl) opInt (opens_last (by rfl) (by kernel_rfl) opInts))
theorem opPhis : Opens Try.prog 49 (Kd.slice 62 k62) := opens_slice Try.underlying49 (by kernel_rfl) opPhi
theorem opInt64 : Opens Try.prog 2 (Kd.int .i64) := opens_int Try.underlying2
theorem opInstr : Opens Try.prog 64 k64 := opens_struct (g := fun p => ⟨p.1, p.2.1, p.2.2.1, p.2.2.2.1, p.2.2.2.2⟩) Try.underlying64 (by kernel_rfl) (fun _ => rfl) (opens_pair (by rfl) (by kernel_rfl) opInt (opens_pair (by rfl) (by kernel_rfl) opInt (opens_pair (by rfl) (by kernel_rfl) opInts (opens_pair (by rfl) (by kernel_rfl) opInt64 (opens_last (by rfl) (by kernel_rfl) opInt)))))
theorem opInstrs : Opens Try.prog 50 (Kd.slice 64 k64) := opens_slice Try.underlying50 (by kernel_rfl) opInstr
theorem opTerm : Opens Try.prog 47 k47 := opens_struct (g := fun p => ⟨p.1, p.2.1, p.2.2⟩) Try.underlying47 (by kernel_rfl) (fun _ => rfl) (opens_pair (by rfl) (by kernel_rfl) opInt (opens_pair (by rfl) (by kernel_rfl) opInt (opens_last (by rfl) (by kernel_rfl) opInts)))
theorem opBlock : Opens Try.prog 52 k52 := opens_struct (g := fun p => ⟨p.1, p.2.1, p.2.2⟩) Try.underlying52 (by kernel_rfl) (fun _ => rfl) (opens_pair (by rfl) (by kernel_rfl) opPhis (opens_pair (by rfl) (by kernel_rfl) opInstrs (opens_last (by rfl) (by kernel_rfl) opTerm)))
theorem opBlocks : Opens Try.prog 23 (Kd.slice 52 k52) := opens_slice Try.underlying23 (by kernel_rfl) opBlock
theorem opFunc : Opens Try.prog 25 k25 := opens_struct (g := fun p => ⟨p.1, p.2.1, p.2.2.1, p.2.2.2⟩) Try.underlying25 (by kernel_rfl) (fun _ => rfl) (opens_pair (by rfl) (by kernel_rfl) opInt (opens_pair (by rfl) (by kernel_rfl) opInt (opens_pair (by rfl) (by kernel_rfl) opInts (opens_last (by rfl) (by kernel_rfl) opBlocks))))
theorem opFuncs : Opens Try.prog 54 (Kd.slice 25 k25) := opens_slice Try.underlying54 (by kernel_rfl) opFunc
theorem opModule : Opens Try.prog 56 (Kd.iso (Kd.slice 25 k25) (fun x : List S25 => x)) := opens_struct (g := fun p => p) Try.underlying56 (by kernel_rfl) (fun _ => rfl) (opens_last (by rfl) (by kernel_rfl) opFuncs)
theorem openModule {W : World} {x : List S25} {cs : List Value} (h : (Kd.iso (Kd.slice 25 k25) (fun x : List S25 => x)).K W x cs) : ∃ A c, cs = [.slice A x.length c] ∧ x.length ≤ c ∧ Kd.C k25 W A x.length x := h
end Go.Proofs.Ytpionncanaamgaa.Lo
