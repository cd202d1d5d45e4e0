/- fettleref02.Copy copies a module, and what it copies lies in new rows. Conditions: a small module. -/
import Derived.Test.YtckebppacealeaaDoorPCodeUnlikeS9
import Derived.Test.YtckebppacealeaaDoorLp
set_option linter.unusedVariables false
namespace Go.Proofs.YtckebppacealeaaDoor.Lp
open Go.RowKit Go.Proofs.YtckebppacealeaaDoor.PCodeUnlike Go.Proofs.YtckebppacealeaaDoorW.PrintWords Go.Proofs.YtckebppacealeaaDoorW.PrintLast
theorem take_snoc {α : Type} (l : List α) (i : Nat) (z : α) (h : i < l.length) : l.take i ++ [l.getD i z] = l.take (i + 1) := by
  rw [List.take_succ_eq_append_getElem h, ← getD_at l i z h]
section
variable (a b : Int) (l : List Int) (B : List S56) (o1 o2 : Int) (o3 : List Int) (u : Nat) (R : Int × Int × List Int × List S56)
theorem copy_l2 (x : S56) (hx : OkB x) (out : List S56) (hu : u < 100) (ho : out.length < 1000)
    (H : Ev (fun k => fettleref02_CopyFunc.l0 k ((u + 1 : Nat) : Int) a b l B o1 o2 o3 (out ++ [x])) R) :
    ∀ (m i : Nat), x.f1.length - i = m → i ≤ x.f1.length → Ev (fun k => fettleref02_CopyFunc.l2 k (u : Int) (i : Int) a b l B o1 o2 o3 out x.f0 x.f1 x.f2.f0 x.f2.f1 x.f2.f2 x.f0 (x.f1.take i) x.f2.f0 x.f2.f1 x.f2.f2) R := by
  have hi1 := hx.ins
  intro m
  induction m with
  | zero =>
    intro i hm hi
    obtain rfl : i = x.f1.length := by omega
    rw [List.take_length]
    refine Ev.step (fun k => ?_) H
    rw [fettleref02_CopyFunc.l2, if_neg (by omega), if_pos (by omega), w64n (by omega)]
  | succ m ih =>
    intro i hm hi
    have hlt : i < x.f1.length := by omega
    have er : rd_T58 x.f1 (i : Int) = x.f1.getD i z58 := rfl
    have ha := hx.args i hlt
    refine Ev.step (fun k => ?_) (ih (i + 1) (by omega) (by omega))
    rw [fettleref02_CopyFunc.l2, if_pos (by omega), if_pos (by omega), er, Option.bind_some, if_pos (by rw [List.length_nil]; omega), if_pos (by rw [List.length_take]; omega), w64n (by omega), List.nil_append, ← take_snoc x.f1 i z58 hlt]
theorem copy_l1 (x : S56) (hx : OkB x) (out : List S56) (hu : u < 100) (ho : out.length < 1000)
    (H : Ev (fun k => fettleref02_CopyFunc.l0 k ((u + 1 : Nat) : Int) a b l B o1 o2 o3 (out ++ [x])) R) :
    ∀ (m i : Nat), x.f0.length - i = m → i ≤ x.f0.length → Ev (fun k => fettleref02_CopyFunc.l1 k (u : Int) (i : Int) a b l B o1 o2 o3 out x.f0 x.f1 x.f2.f0 x.f2.f1 x.f2.f2 (x.f0.take i) x.f2.f0 x.f2.f1 x.f2.f2) R := by
  have hi1 := hx.phis
  intro m
  induction m with
  | zero =>
    intro i hm hi
    obtain rfl : i = x.f0.length := by omega
    rw [List.take_length]
    refine Ev.step (fun k => ?_) (copy_l2 a b l B o1 o2 o3 u R x hx out hu ho H _ 0 rfl (by omega))
    rw [fettleref02_CopyFunc.l1, if_neg (by omega)]
    rfl
  | succ m ih =>
    intro i hm hi
    have hlt : i < x.f0.length := by omega
    have er : rd_T60 x.f0 (i : Int) = x.f0.getD i z60 := rfl
    have ha := hx.pargs i hlt
    refine Ev.step (fun k => ?_) (ih (i + 1) (by omega) (by omega))
    rw [fettleref02_CopyFunc.l1, if_pos (by omega), if_pos (by omega), er, Option.bind_some, if_pos (by rw [List.length_nil]; omega), if_pos (by rw [List.length_take]; omega), w64n (by omega), List.nil_append, ← take_snoc x.f0 i z60 hlt]
end
theorem copyF_ev (f : S50) (h : OkF f) : Ev (fun k => fettleref02_CopyFunc.f k f.f0 f.f1 f.f2 f.f3) (f.f0, f.f1, f.f2, f.f3) := by
  obtain ⟨a, b, l, B⟩ := f
  have hr := h.regs
  have hB := h.blocks
  dsimp only at *
  have go : ∀ (m i : Nat), B.length - i = m → i ≤ B.length → Ev (fun k => fettleref02_CopyFunc.l0 k (i : Int) a b l B a b l (B.take i)) (a, b, l, B) := by
    intro m
    induction m with
    | zero =>
      intro i hm hi
      obtain rfl : i = B.length := by omega
      rw [List.take_length]
      exact Ev.step (f := fun _ => some _) (fun k => by rw [fettleref02_CopyFunc.l0, if_neg (by omega)]) (Ev.now _)
    | succ m ih =>
      intro i hm hi
      have hlt : i < B.length := by omega
      have er : rd_T56 B (i : Int) = B.getD i z56 := rfl
      have hx : OkB (B.getD i z56) := h.each i hlt
      have ht := hx.tos
      have key := copy_l1 a b l B a b l i (a, b, l, B) (B.getD i z56) hx (B.take i) (by omega) (by rw [List.length_take]; omega) (by
        rw [take_snoc B i z56 hlt]
        exact ih (i + 1) (by omega) (by omega)) _ 0 rfl (by omega)
      refine Ev.step (fun k => ?_) key
      rw [fettleref02_CopyFunc.l0, if_pos (by omega), if_pos (by omega), er, Option.bind_some, if_pos (by rw [List.length_nil]; omega), List.nil_append]
      rfl
  refine Ev.congr (fun k => ?_) (go _ 0 rfl (by omega))
  rw [fettleref02_CopyFunc.f, Option.bind_some, if_pos (by rw [List.length_nil]; omega), List.nil_append]
  rfl
theorem copy_ev (M : List S50) (h : OkM M) : Ev (fun k => fettleref02_Copy.f k M) M := by
  have hn := h.n
  have go : ∀ (m i : Nat), M.length - i = m → i ≤ M.length → Ev (fun k => fettleref02_Copy.l0 k (i : Int) M (M.take i)) M := by
    intro m
    induction m with
    | zero =>
      intro i hm hi
      obtain rfl : i = M.length := by omega
      rw [List.take_length]
      exact Ev.step (f := fun _ => some _) (fun k => by rw [fettleref02_Copy.l0, if_neg (by omega)]) (Ev.now _)
    | succ m ih =>
      intro i hm hi
      have hlt : i < M.length := by omega
      have er : rd_T50 M (i : Int) = M.getD i z50 := rfl
      refine Ev.step (f := fun k => (fettleref02_CopyFunc.f k (M.getD i z50).f0 (M.getD i z50).f1 (M.getD i z50).f2 (M.getD i z50).f3).bind fun t => if (M.take i).length < 2199023255552 then (fettleref02_Copy.l0 k (wrap64 ((i : Int) + 1)) M ((M.take i) ++ [(⟨t.1, t.2.1, t.2.2.1, t.2.2.2⟩ : S50)])) else none) (fun k => by rw [fettleref02_Copy.l0, if_pos (by omega), if_pos (by omega), er]) ?_
      refine (copyF_ev _ (h.each i hlt)).bind ?_
      refine Ev.congr (fun k => ?_) (ih (i + 1) (by omega) (by omega))
      rw [if_pos (by rw [List.length_take]; omega), w64n (by omega)]
      dsimp only
      rw [take_snoc M i z50 hlt]
  exact Ev.congr (fun k => rfl) (go _ 0 rfl (by omega))
theorem copy_any {w : World} (M : List S50) (h : OkM M) (A : Option Addr) (c : Nat) (hr : Kd.C k50 w A M.length M) (hc : M.length ≤ c) :
    Calls Tryd.prog 18 #[.agg #[.slice A M.length c]] w fun e w' => (∃ v : Value, e = .returned (.agg #[v]) ∧ Kd.R k50 50 w' w.heap.size (fun _ => True) v M) ∧ Below w.heap.size w w' := by
  obtain ⟨k, hk⟩ := (copy_ev M h).rounds
  exact (fettleref02_Copy.calls k A c M M w hr hc hk).mono fun e w' ⟨v, he, hR, hb⟩ => ⟨⟨v, he, hR⟩, hb⟩
end Go.Proofs.YtckebppacealeaaDoor.Lp
