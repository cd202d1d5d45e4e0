/- What came in as data reads as the seat's kinds say: functions and modules. Conditions: none. -/
import Derived.Test.YtocjpkjijjdnbaaDoorPCheckMorex0
import Derived.Test.YtocjpkjijjdnbaaDoorOpens
namespace Go.Proofs.YtocjpkjijjdnbaaDoor.Lo
open Go.Proofs.YtocjpkjijjdnbaaDoor.PCheckMore Go.Proofs.YtocjpkjijjdnbaaDoor.Opens Go.Proofs.YtocjpkjijjdnbaaDoorW.PrintWords
theorem opInt : Opens Tryd.prog 3 (Kd.int .i64) := opens_int Tryd.underlying3
theorem opInts : Opens Tryd.prog 31 (Kd.slice 3 (Kd.int .i64)) := opens_slice Tryd.underlying31 (by kernel_rfl) opInt
theorem opPhi : Opens Tryd.prog 48 k48 := opens_struct (g := fun p => ⟨p.1, p.2⟩) Tryd.underlying48 (by kernel_rfl) (fun _ => rfl) (opens_pair (by rfl) (by kernel_rfl) opInt (opens_last (by rfl) (by kernel_rfl) opInts))
theorem opPhis : Opens Tryd.prog 39 (Kd.slice 48 k48) := opens_slice Tryd.underlying39 (by kernel_rfl) opPhi
theorem opInt64 : Opens Tryd.prog 2 (Kd.int .i64) := opens_int Tryd.underlying2
theorem opInstr : Opens Tryd.prog 46 k46 := opens_struct (g := fun p => ⟨p.1, p.2.1, p.2.2.1, p.2.2.2.1, p.2.2.2.2⟩) Tryd.underlying46 (by kernel_rfl) (fun _ => rfl) (opens_pair (by rfl) (by kernel_rfl) opInt (opens_pair (by rfl) (by kernel_rfl) opInt (opens_pair (by rfl) (by kernel_rfl) opInts (opens_pair (by rfl) (by kernel_rfl) opInt64 (opens_last (by rfl) (by kernel_rfl) opInt)))))
theorem opInstrs : Opens Tryd.prog 40 (Kd.slice 46 k46) := opens_slice Tryd.underlying40 (by kernel_rfl) opInstr
theorem opTerm : Opens Tryd.prog 42 k42 := opens_struct (g := fun p => ⟨p.1, p.2.1, p.2.2⟩) Tryd.underlying42 (by kernel_rfl) (fun _ => rfl) (opens_pair (by rfl) (by kernel_rfl) opInt (opens_pair (by rfl) (by kernel_rfl) opInt (opens_last (by rfl) (by kernel_rfl) opInts)))
theorem opBlock : Opens Tryd.prog 44 k44 := opens_struct (g := fun p => ⟨p.1, p.2.1, p.2.2⟩) Tryd.underlying44 (by kernel_rfl) (fun _ => rfl) (opens_pair (by rfl) (by kernel_rfl) opPhis (opens_pair (by rfl) (by kernel_rfl) opInstrs (opens_last (by rfl) (by kernel_rfl) opTerm)))
theorem opBlocks : Opens Tryd.prog 32 (Kd.slice 44 k44) := opens_slice Tryd.underlying32 (by kernel_rfl) opBlock
theorem opFunc : Opens Tryd.prog 34 k34 := opens_struct (g := fun p => ⟨p.1, p.2.1, p.2.2.1, p.2.2.2⟩) Tryd.underlying34 (by kernel_rfl) (fun _ => rfl) (opens_pair (by rfl) (by kernel_rfl) opInt (opens_pair (by rfl) (by kernel_rfl) opInt (opens_pair (by rfl) (by kernel_rfl) opInts (opens_last (by rfl) (by kernel_rfl) opBlocks))))
theorem opFuncs : Opens Tryd.prog 22 (Kd.slice 34 k34) := opens_slice Tryd.underlying22 (by kernel_rfl) opFunc
theorem opModule : Opens Tryd.prog 24 (Kd.iso (Kd.slice 34 k34) (fun x : List S34 => x)) := opens_struct (g := fun p => p) Tryd.underlying24 (by kernel_rfl) (fun _ => rfl) (opens_last (by rfl) (by kernel_rfl) opFuncs)
theorem openModule {W : World} {x : List S34} {cs : List Value} (h : (Kd.iso (Kd.slice 34 k34) (fun x : List S34 => x)).K W x cs) : ∃ A c, cs = [.slice A x.length c] ∧ x.length ≤ c ∧ Kd.C k34 W A x.length x := h
end Go.Proofs.YtocjpkjijjdnbaaDoor.Lo
