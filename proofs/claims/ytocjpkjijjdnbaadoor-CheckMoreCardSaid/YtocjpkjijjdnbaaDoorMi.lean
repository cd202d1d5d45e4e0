/- CheckMore: whatever the module, the number and the kind, the law returns true. Conditions: the number is of its kind; errors.errorType holds the handle of error. -/
import Derived.Test.YtocjpkjijjdnbaaDoorMg
import Derived.Test.YtocjpkjijjdnbaaDoorMh
import Derived.Test.YtocjpkjijjdnbaaDoorMd
import Derived.Test.YtocjpkjijjdnbaaDoorNc
namespace Go.Proofs.YtocjpkjijjdnbaaDoor.Lk
open Go.RowKit Go.Proofs.YtocjpkjijjdnbaaDoorW.PrintWords Go.Proofs.YtocjpkjijjdnbaaDoorW.PrintLast Go.Proofs.YtocjpkjijjdnbaaDoorW.PrintMore Go.Proofs.YtocjpkjijjdnbaaDoorW.PrintWords.Kd Go.Proofs.YtocjpkjijjdnbaaDoor.PCheckMore Go.Proofs.YtocjpkjijjdnbaaDoor.Lp Go.Proofs.YtocjpkjijjdnbaaDoor.Mh
attribute [local go_sem] max2_int min2_int max_two min_two max_three min_three max_four min_four
set_option linter.unusedVariables false
set_option linter.unusedSimpArgs false
variable {w w1 : World}
theorem copyS_any (M : List Fn) (h : OkM M) (A : Option Addr) (c : Nat) (hr : Kd.C k34 w A M.length M) (hc : M.length ≤ c) :
    Calls Tryd.prog 7 #[.agg #[.slice A M.length c]] w fun e w' => (∃ v : Value, e = .returned (.agg #[v]) ∧ Kd.S kX 34 w' w.heap.size (fun _ => True) v M) ∧ Below w.heap.size w w' := by
  obtain ⟨k, hk⟩ := (copy_ev M h).rounds
  exact (copyS_calls k A c M M w hr hc hk).mono fun e w' ⟨v, he, hR, hb⟩ => ⟨⟨v, he, hR⟩, hb⟩
/-- Registers appended to function n of a copy. -/
theorem more_put {W : World} {base g c : Nat} {M : List Fn} (n : Nat) (hn : n < M.length) (k : Int) (h : Kd.S kX 34 W base (fun _ => True) (.slice (some ⟨g, 0, none⟩) M.length c) M) :
    ∃ (v2 : Value) (oki : Nat → Prop), W.cell? ⟨g, n * 4 + 2, none⟩ = some v2 ∧ Kd.R (Kd.int .i64) 3 W base oki v2 (M.getD n z34).f2 ∧ (∀ j, oki j → j ≠ g) ∧
      ∀ w1 v2', W.grownBy w1 v2.ownBlock → (v2'.ownBlock = v2.ownBlock ∨ ∃ b, v2'.ownBlock = some b ∧ W.heap.size ≤ b) → Kd.R (Kd.int .i64) 3 w1 base (fun j => oki j ∨ W.heap.size ≤ j) v2' ((M.getD n z34).f2 ++ [k]) →
        w1.cell? ⟨g, n * 4 + 2, none⟩ = some v2 ∧ w1.frozen? ⟨g, n * 4 + 2, none⟩ = false ∧ Kd.S kX 34 (w1.setCell ⟨g, n * 4 + 2, none⟩ v2') base (fun _ => True) (.slice (some ⟨g, 0, none⟩) M.length c) (M.set n (more (M.getD n z34) k)) := by
  have h2 := S_mono (S_bound h) (ok' := fun j => True ∧ ¬ W.heap.size ≤ j) (fun j hj => ⟨trivial, Nat.not_le.mpr hj.2.2.1⟩)
  obtain ⟨oki, cs, hcl, hM, hcc, hfr, hoki, hH⟩ := S_elem h2 z34 (n : Int) (by omega) (by omega)
  rw [Int.toNat_natCast] at hM hcc hfr
  obtain ⟨v2, v3, rfl, g2, g3⟩ := hM
  have hlt : g < W.heap.size := World.block_lt_of_cell? W _ (hcc 2 _ rfl)
  refine ⟨v2, oki, hcc 2 _ rfl, g2, fun j hj => (hoki j hj).2, fun w1 v2' hg hat hR => ?_⟩
  have hH1 := H_grown hH hg (fun j hj => g2.1 j hj)
  have hne : v2.ownBlock ≠ some g := fun e => (hoki g (g2.1 g e)).2 rfl
  have hblk : w1.heap[g]? = W.heap[g]? := hg.block g hlt (fun e => hne e.symm)
  obtain ⟨hs, _⟩ := S_seg (okg := fun j => W.heap.size ≤ j) (okp := fun j => oki j ∨ W.heap.size ≤ j) hH1 (by omega) (by omega) (seg := [v2']) (j := 2) (show 2 + 1 ≤ 4 by omega) (x' := more (M.getD n z34) k)
    (by
      refine ⟨v2', v3, rfl, hR, ?_⟩
      exact R_mono (R_after g3 hg hat) (fun j hj => ⟨.inl hj.1, hj.2⟩)) (fun j hj => hj) (fun j hj => ⟨trivial, by omega⟩)
  refine ⟨?_, ?_, ?_⟩
  · have := hcc 2 v2 rfl
    unfold World.cell? at this ⊢
    rw [hblk]
    exact this
  · have := hfr 2
    unfold World.frozen? at this ⊢
    rw [hblk]
    exact this
  · rw [Int.toNat_natCast] at hs
    exact hs
end Go.Proofs.YtocjpkjijjdnbaaDoor.Lk
