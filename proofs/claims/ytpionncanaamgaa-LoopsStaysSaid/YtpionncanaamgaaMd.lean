/- fettleref02.Copy copies a module, and what it copies lies in new rows. Conditions: a small module. -/
import Derived.Test.YtpionncanaamgaaPLoopsStaysx2
import Derived.Test.YtpionncanaamgaaLw
set_option linter.unusedVariables false
namespace Go.Proofs.Ytpionncanaamgaa.Lp
open Go.RowKit Go.Proofs.Ytpionncanaamgaa.PLoopsStays Go.Proofs.YtpionncanaamgaaW.PrintWords Go.Proofs.YtpionncanaamgaaW.PrintLast
theorem take_snoc {α : Type} (l : List α) (i : Nat) (z : α) (h : i < l.length) : l.take i ++ [l.getD i z] = l.take (i + 1) := by
  rw [List.take_succ_eq_append_getElem h, ← getD_at l i z h]
section
variable (a b : Int) (l : List Int) (B : List S52) (o1 o2 : Int) (o3 : List Int) (u : Nat) (R : Int × Int × List Int × List S52)
theorem copy_l2 (x : S52) (hx : OkB x) (out : List S52) (hu : u < 100) (ho : out.length < 1000)
    (H : Ev (fun k => fettleref02_CopyFunc.l0 k ((u + 1 : Nat) : Int) a b l B o1 o2 o3 (out ++ [x])) R) :
    ∀ (m i : Nat), x.f1.length - i = m → i ≤ x.f1.length → Ev (fun k => fettleref02_CopyFunc.l2 k (u : Int) (i : Int) a b l B o1 o2 o3 out x.f0 x.f1 x.f2.f0 x.f2.f1 x.f2.f2 x.f0 (x.f1.take i) x.f2.f0 x.f2.f1 x.f2.f2) R := by
  have hi1 := hx.ins
  intro m
  induction m with
  | zero =>
    intro i hm hi
    obtain rfl : i = x.f1.length := by omega
    rw [List.take_length]
    refine Ev.step (fun k => ?_) H
    rw [fettleref02_CopyFunc.l2, if_neg (by omega), if_pos (by omega), w64n (by omega)]
  | succ m ih =>
    intro i hm hi
    have hlt : i < x.f1.length := by omega
    have er : rd_T64 x.f1 (i : Int) = x.f1.getD i z64 := rfl
    have ha := hx.args i hlt
    refine Ev.step (fun k => ?_) (ih (i + 1) (by omega) (by omega))
    rw [fettleref02_CopyFunc.l2, if_pos (by omega), if_pos (by omega), er, Option.bind_some, if_pos (by rw [List.length_nil]; omega), if_pos (by rw [List.length_take]; omega), w64n (by omega), List.nil_append, ← take_snoc x.f1 i z64 hlt]
theorem copy_l1 (x : S52) (hx : OkB x) (out : List S52) (hu : u < 100) (ho : out.length < 1000)
    (H : Ev (fun k => fettleref02_CopyFunc.l0 k ((u + 1 : Nat) : Int) a b l B o1 o2 o3 (out ++ [x])) R) :
    ∀ (m i : Nat), x.f0.length - i = m → i ≤ x.f0.length → Ev (fun k => fettleref02_CopyFunc.l1 k (u : Int) (i : Int) a b l B o1 o2 o3 out x.f0 x.f1 x.f2.f0 x.f2.f1 x.f2.f2 (x.f0.take i) x.f2.f0 x.f2.f1 x.f2.f2) R := by
  have hi1 := hx.phis
  intro m
  induction m with
  | zero =>
    intro i hm hi
    obtain rfl : i = x.f0.length := by omega
    rw [List.take_length]
    refine Ev.step (fun k => ?_) (copy_l2 a b l B o1 o2 o3 u R x hx out hu ho H _ 0 rfl (by omega))
    rw [fettleref02_CopyFunc.l1, if_neg (by omega)]
    rfl
  | succ m ih =>
    intro i hm hi
    have hlt : i < x.f0.length := by omega
    have er : rd_T62 x.f0 (i : Int) = x.f0.getD i z62 := rfl
    have ha := hx.pargs i hlt
    refine Ev.step (fun k => ?_) (ih (i + 1) (by omega) (by omega))
    rw [fettleref02_CopyFunc.l1, if_pos (by omega), if_pos (by omega), er, Option.bind_some, if_pos (by rw [List.length_nil]; omega), if_pos (by rw [List.length_take]; omega), w64n (by omega), List.nil_append, ← take_snoc x.f0 i z62 hlt]
end
theorem copyF_ev (f : S25) (h : OkF f) : Ev (fun k => fettleref02_CopyFunc.f k f.f0 f.f1 f.f2 f.f3) (f.f0, f.f1, f.f2, f.f3) := by
  obtain ⟨a, b, l, B⟩ := f
  have hr := h.regs
  have hB := h.blocks
  dsimp only at *
  have go : ∀ (m i : Nat), B.length - i = m → i ≤ B.length → Ev (fun k => fettleref02_CopyFunc.l0 k (i : Int) a b l B a b l (B.take i)) (a, b, l, B) := by
    intro m
    induction m with
    | zero =>
      intro i hm hi
      obtain rfl : i = B.length := by omega
      rw [List.take_length]
      exact Ev.step (f := fun _ => some _) (fun k => by rw [fettleref02_CopyFunc.l0, if_neg (by omega)]) (Ev.now _)
    | succ m ih =>
      intro i hm hi
      have hlt : i < B.length := by omega
      have er : rd_T52 B (i : Int) = B.getD i z52 := rfl
      have hx : OkB (B.getD i z52) := h.each i hlt
      have ht := hx.tos
      have key := copy_l1 a b l B a b l i (a, b, l, B) (B.getD i z52) hx (B.take i) (by omega) (by rw [List.length_take]; omega) (by
        rw [take_snoc B i z52 hlt]
        exact ih (i + 1) (by omega) (by omega)) _ 0 rfl (by omega)
      refine Ev.step (fun k => ?_) key
      rw [fettleref02_CopyFunc.l0, if_pos (by omega), if_pos (by omega), er, Option.bind_some, if_pos (by rw [List.length_nil]; omega), List.nil_append]
      rfl
  refine Ev.congr (fun k => ?_) (go _ 0 rfl (by omega))
  rw [fettleref02_CopyFunc.f, Option.bind_some, if_pos (by rw [List.length_nil]; omega), List.nil_append]
  rfl
end Go.Proofs.Ytpionncanaamgaa.Lp
