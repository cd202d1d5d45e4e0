/- Bytes that came in as data. Conditions: none. -/
import Derived.Test.YtckebppacealeaaDoorLr
import Derived.Test.YtckebppacealeaaDoorRe
namespace Go.Proofs.YtckebppacealeaaDoor.Lr
open Go.Proofs.YtckebppacealeaaDoor.PCodeUnlike Go.Proofs.YtckebppacealeaaDoor.Opens Go.Proofs.YtckebppacealeaaDoorW.PrintWords Go.RowKit Go.Proofs.YtckebppacealeaaDoor.Rk
def byteR : Kd Int where
  sz := 1
  E := []
  K := fun _ x cs => cs = [.int .u8 x] ∧ Byte x
  M := fun _ _ _ x cs => cs = [.int .u8 x] ∧ Byte x
  K_len := fun h => by rw [h.1]; rfl
  K_one := fun h u hu => by rw [h.1] at hu; rw [List.mem_singleton.1 hu]; rfl
  K_below := fun _ h => h
  K_of_M := fun h => h
  M_mono := fun _ h => h
  M_bound := fun h => h
  M_move := fun _ h => h
  M_lower := fun _ h => h
theorem opens_byteR {P : Program} {t : TypeId} (ht : P.underlying t = some (.int .u8)) : Opens P t byteR := by
  intro H enc W spare held fuel cs x h
  cases fuel with
  | zero => simp [DataW.trod] at h
  | succ fuel =>
    unfold DataW.trod at h
    simp only [ht] at h
    split at h <;> simp_all
    rename_i k _ n he
    subst he
    have hw := h.1.2
    refine ⟨n, rfl, ?_⟩
    simp [Lit.wf, IntKind.min, IntKind.max, IntKind.signed, IntKind.bits] at hw
    unfold Byte
    omega
theorem sub_byte : Sub byteR (Kd.int .u8) Byte := ⟨rfl, fun h => ⟨h.1, h.2⟩⟩
theorem opBytes : Opens Tryd.prog 27 (Kd.slice 5 byteR) := opens_slice Tryd.underlying27 (by kernel_rfl) (opens_byteR Tryd.underlying5)
theorem openBytes {W : World} {x : List Int} {cs : List Value} (h : (Kd.slice 5 byteR).K W x cs) : (∀ a ∈ x, Byte a) ∧ ∃ A c, cs = [.slice A x.length c] ∧ x.length ≤ c ∧ Kd.C (Kd.int .u8) W A x.length x :=
  ⟨((sub_slice 5 sub_byte).k h).2, ((sub_slice 5 sub_byte).k h).1⟩
end Go.Proofs.YtckebppacealeaaDoor.Lr
