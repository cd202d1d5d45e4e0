/- A fact on what lay still holds in a world that came of it by drawing and making. Mine. -/
import Derived.Test.YtpionncanaamgaaV0
namespace Go.Proofs.Ytpionncanaamgaa.Up
open Go Go.RowKit Go.Proofs.YtpionncanaamgaaW.PrintWords Go.Proofs.YtpionncanaamgaaW.PrintLast
class Up (w w' : World) : Prop where
  h : Below w.heap.size w w'
instance (w : World) : Up w w := ⟨Below.refl _ _⟩
instance (w w' : World) [h : Up w w'] : Up w w'.drew := ⟨below_drew h.h⟩
instance (w w' : World) (n : Nat) [h : Up w w'] : Up w (w'.drewN n) := ⟨pw_below_drewN h.h n⟩
instance (w w' : World) (o : Obj) [h : Up w w'] : Up w (w'.alloc o) := ⟨below_alloc h.h o⟩
section
variable {w W W' : World}
theorem bu [h : Up W W'] {g : Nat} {o : Obj} (k : W.heap[g]? = some o) : W'.heap[g]? = some o := (h.h.block g (blk_lt k)).trans k
theorem lu [h : Up W W'] (k : Below w.heap.size w W) : Below w.heap.size w W' := below_step k h.h
variable {α : Type} {d : Kd α} {e base n : Nat} {A : Option Addr} {ok : Nat → Prop} {v : Value} {xs : List α}
theorem ru [h : Up W W'] (k : d.R e W base ok v xs) : d.R e W' base ok v xs := Kd.R_below k h.h
theorem su [h : Up W W'] (k : d.S e W base ok v xs) : d.S e W' base ok v xs := Kd.S_below k h.h
theorem cu [h : Up W W'] (k : d.C W A n xs) : d.C W' A n xs := Kd.C_below k h.h
end
end Go.Proofs.Ytpionncanaamgaa.Up
