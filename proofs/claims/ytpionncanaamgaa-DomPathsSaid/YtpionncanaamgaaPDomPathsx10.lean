-- Laid by a program of this session (wip/pp/patch.py over the kit's print).
-- mended yes
-- mended: lengths
import Derived.Test.YtpionncanaamgaaPDomPathsx0
import Derived.Test.YtpionncanaamgaaPDomPathsx5
import Derived.Test.YtpionncanaamgaaPDomPathsx7
import Derived.Test.YtpionncanaamgaaPDomPathsx9
namespace Go.Proofs.Ytpionncanaamgaa.PDomPaths
open Go.RowKit Go.Proofs.YtpionncanaamgaaW.PrintWords Go.Proofs.YtpionncanaamgaaW.PrintLast Go.Proofs.YtpionncanaamgaaW.PrintMore Go.Proofs.YtpionncanaamgaaW.PrintWords.Kd
attribute [local go_sem] max2_int min2_int max_two min_two max_three min_three max_four min_four   -- for this text's walks alone
set_option linter.unusedVariables false
set_option linter.unusedSimpArgs false

/-! ### fettlelaw06_DomPaths: function 5 -/
mutual
def fettlelaw06_DomPaths.j0 : Nat → List Int → Bool → Bool → Int → Int → List Int → List (S52) → Option (Bool)
  | 0, _, _, _, _, _, _, _ => none
  | k + 1, x1, x5, x24, x301000, x301001, x301002, x301003 => if x24 = true then (some x5) else ((dom_Dominates.f k x301000 x301001 x301002 x301003).bind fun t303 => (if (t303.length : Int) = (x301003.length : Int) then (if 0 ≤ (x301003.length : Int) then (if ((x301003.length : Int) : Int).toNat ≤ 281474976710656 then (fettlelaw06_DomPaths.l0 k x1 x5 t303 (List.replicate ((x301003.length : Int) : Int).toNat false) 0 0 x301000 x301001 x301002 x301003) else (none)) else (none)) else (some false)))
def fettlelaw06_DomPaths.l0 : Nat → List Int → Bool → List (List Bool) → List Bool → Int → Int → Int → Int → List Int → List (S52) → Option (Bool)
  | 0, _, _, _, _, _, _, _, _, _, _ => none
  | k + 1, x1, x5, x7, x8, x9, x10, x301000, x301001, x301002, x301003 => if x10 ≤ (x1.length : Int) then (fettlelaw06_DomPaths.j2 k x1 x5 x7 x8 x9 x10 (decide (x10 < 60)) x301000 x301001 x301002 x301003) else (fettlelaw06_DomPaths.j2 k x1 x5 x7 x8 x9 x10 false x301000 x301001 x301002 x301003)
def fettlelaw06_DomPaths.j2 : Nat → List Int → Bool → List (List Bool) → List Bool → Int → Int → Bool → Int → Int → List Int → List (S52) → Option (Bool)
  | 0, _, _, _, _, _, _, _, _, _, _, _ => none
  | k + 1, x1, x5, x7, x8, x9, x10, x45, x301000, x301001, x301002, x301003 => if x45 = true then (if 0 ≤ x9 then (if x9 < (x8.length : Int) then (fettlelaw06_DomPaths.l1 k x1 x5 x7 (x8.set (x9 : Int).toNat true) x9 x10 0 x301000 x301001 x301002 x301003) else (none)) else (none)) else (some x5)
def fettlelaw06_DomPaths.l1 : Nat → List Int → Bool → List (List Bool) → List Bool → Int → Int → Int → Int → Int → List Int → List (S52) → Option (Bool)
  | 0, _, _, _, _, _, _, _, _, _, _, _ => none
  | k + 1, x1, x5, x7, x8, x9, x10, x11, x301000, x301001, x301002, x301003 => if x11 < (x7.length : Int) then (if 0 ≤ x11 then (if ((rd_L11 x7 x11).length : Int) = (x7.length : Int) then (if 0 ≤ x9 then (if x9 < ((rd_L11 x7 x11).length : Int) then (if rdOf false (rd_L11 x7 x11) x9 = true then (if x11 < (x8.length : Int) then (if rdOf false x8 x11 = true then (fettlelaw06_DomPaths.l1 k x1 x5 x7 x8 x9 x10 (wrap64 (x11 + 1)) x301000 x301001 x301002 x301003) else (some false)) else (none)) else (fettlelaw06_DomPaths.l1 k x1 x5 x7 x8 x9 x10 (wrap64 (x11 + 1)) x301000 x301001 x301002 x301003)) else (none)) else (none)) else (some false)) else (none)) else ((fettleref05_Next.f k x301000 x301001 x301002 x301003 x9).bind fun t314 => (if (t314.length : Int) = 0 then (fettlelaw06_DomPaths.j4 k x1 x5 x7 x8 x10 t314 true x301000 x301001 x301002 x301003) else (fettlelaw06_DomPaths.j4 k x1 x5 x7 x8 x10 t314 (decide (x10 ≥ (x1.length : Int))) x301000 x301001 x301002 x301003)))
def fettlelaw06_DomPaths.j4 : Nat → List Int → Bool → List (List Bool) → List Bool → Int → List Int → Bool → Int → Int → List Int → List (S52) → Option (Bool)
  | 0, _, _, _, _, _, _, _, _, _, _, _ => none
  | k + 1, x1, x5, x7, x8, x10, x12, x92, x301000, x301001, x301002, x301003 => if x92 = true then (some x5) else (if 0 ≤ x10 then (if x10 < (x1.length : Int) then (if (rd x1 x10) < 0 then (if (x12.length : Int) = 0 then (none) else (if 0 ≤ (Int.tmod (wrap64 (-(wrap64 ((rd x1 x10) + 1)))) (x12.length : Int)) then (if (Int.tmod (wrap64 (-(wrap64 ((rd x1 x10) + 1)))) (x12.length : Int)) < (x12.length : Int) then (fettlelaw06_DomPaths.l0 k x1 x5 x7 x8 (rd x12 (Int.tmod (wrap64 (-(wrap64 ((rd x1 x10) + 1)))) (x12.length : Int))) (wrap64 (x10 + 1)) x301000 x301001 x301002 x301003) else (none)) else (none))) else (if (x12.length : Int) = 0 then (none) else (if 0 ≤ (Int.tmod (rd x1 x10) (x12.length : Int)) then (if (Int.tmod (rd x1 x10) (x12.length : Int)) < (x12.length : Int) then (fettlelaw06_DomPaths.l0 k x1 x5 x7 x8 (rd x12 (Int.tmod (rd x1 x10) (x12.length : Int))) (wrap64 (x10 + 1)) x301000 x301001 x301002 x301003) else (none)) else (none)))) else (none)) else (none))
end
def fettlelaw06_DomPaths.f (k : Nat) (a0_0 : Int) (a0_1 : Int) (l0_2 : List Int) (l0_3 : List (S52)) (l1 : List Int) : Option (Bool) := (fettlelaw06_up.f k).bind fun t301 => ((fettlelaw06_small.f k a0_0 a0_1 l0_2 l0_3).bind fun t302 => (if t302 = true then (fettlelaw06_DomPaths.j0 k l1 t301 ((l0_3.length : Int) == 0) a0_0 a0_1 l0_2 l0_3) else (fettlelaw06_DomPaths.j0 k l1 t301 true a0_0 a0_1 l0_2 l0_3)))
theorem fettlelaw06_DomPaths.mono_l : ∀ k, (∀ y0 y1 y2 y3 y4 y5 y6, LeO (fettlelaw06_DomPaths.j0 k y0 y1 y2 y3 y4 y5 y6) (fettlelaw06_DomPaths.j0 (k + 1) y0 y1 y2 y3 y4 y5 y6)) ∧ (∀ y0 y1 y2 y3 y4 y5 y6 y7 y8 y9, LeO (fettlelaw06_DomPaths.l0 k y0 y1 y2 y3 y4 y5 y6 y7 y8 y9) (fettlelaw06_DomPaths.l0 (k + 1) y0 y1 y2 y3 y4 y5 y6 y7 y8 y9)) ∧ (∀ y0 y1 y2 y3 y4 y5 y6 y7 y8 y9 y10, LeO (fettlelaw06_DomPaths.j2 k y0 y1 y2 y3 y4 y5 y6 y7 y8 y9 y10) (fettlelaw06_DomPaths.j2 (k + 1) y0 y1 y2 y3 y4 y5 y6 y7 y8 y9 y10)) ∧ (∀ y0 y1 y2 y3 y4 y5 y6 y7 y8 y9 y10, LeO (fettlelaw06_DomPaths.l1 k y0 y1 y2 y3 y4 y5 y6 y7 y8 y9 y10) (fettlelaw06_DomPaths.l1 (k + 1) y0 y1 y2 y3 y4 y5 y6 y7 y8 y9 y10)) ∧ (∀ y0 y1 y2 y3 y4 y5 y6 y7 y8 y9 y10, LeO (fettlelaw06_DomPaths.j4 k y0 y1 y2 y3 y4 y5 y6 y7 y8 y9 y10) (fettlelaw06_DomPaths.j4 (k + 1) y0 y1 y2 y3 y4 y5 y6 y7 y8 y9 y10))
  | 0 => ⟨fun _ _ _ _ _ _ _ r h => by simp [fettlelaw06_DomPaths.j0] at h, fun _ _ _ _ _ _ _ _ _ _ r h => by simp [fettlelaw06_DomPaths.l0] at h, fun _ _ _ _ _ _ _ _ _ _ _ r h => by simp [fettlelaw06_DomPaths.j2] at h, fun _ _ _ _ _ _ _ _ _ _ _ r h => by simp [fettlelaw06_DomPaths.l1] at h, fun _ _ _ _ _ _ _ _ _ _ _ r h => by simp [fettlelaw06_DomPaths.j4] at h⟩
  | k + 1 => by
    obtain ⟨ih0, ih1, ih2, ih3, ih4⟩ := fettlelaw06_DomPaths.mono_l k
    refine ⟨?_, ?_, ?_, ?_, ?_⟩
    · intro y0 y1 y2 y3 y4 y5 y6
      unfold fettlelaw06_DomPaths.j0
      repeat' first
      | (with_reducible exact ih0 _ _ _ _ _ _ _)
      | (with_reducible exact ih1 _ _ _ _ _ _ _ _ _ _)
      | (with_reducible exact ih2 _ _ _ _ _ _ _ _ _ _ _)
      | (with_reducible exact ih3 _ _ _ _ _ _ _ _ _ _ _)
      | (with_reducible exact ih4 _ _ _ _ _ _ _ _ _ _ _)
      | (with_reducible exact dom_Dominates.mono _ _ _ _ _)
      | (with_reducible exact fettlelaw06_small.mono _ _ _ _ _)
      | (with_reducible exact fettlelaw06_up.mono _)
      | (with_reducible exact fettleref05_Next.mono _ _ _ _ _ _)
      | (with_reducible exact LeO.refl _)
      | (with_reducible exact LeO.none _)
      | (with_reducible refine LeO.ite ?_ ?_)
      | (with_reducible refine LeO.bind ?_ (fun _ => ?_))
      | exact ih0 _ _ _ _ _ _ _
      | exact ih1 _ _ _ _ _ _ _ _ _ _
      | exact ih2 _ _ _ _ _ _ _ _ _ _ _
      | exact ih3 _ _ _ _ _ _ _ _ _ _ _
      | exact ih4 _ _ _ _ _ _ _ _ _ _ _
      | exact dom_Dominates.mono _ _ _ _ _
      | exact fettlelaw06_small.mono _ _ _ _ _
      | exact fettlelaw06_up.mono _
      | exact fettleref05_Next.mono _ _ _ _ _ _
      | exact LeO.none _
      | refine LeO.ite ?_ ?_
      | refine LeO.bind ?_ (fun _ => ?_)
    · intro y0 y1 y2 y3 y4 y5 y6 y7 y8 y9
      unfold fettlelaw06_DomPaths.l0
      repeat' first
      | (with_reducible exact ih0 _ _ _ _ _ _ _)
      | (with_reducible exact ih1 _ _ _ _ _ _ _ _ _ _)
      | (with_reducible exact ih2 _ _ _ _ _ _ _ _ _ _ _)
      | (with_reducible exact ih3 _ _ _ _ _ _ _ _ _ _ _)
      | (with_reducible exact ih4 _ _ _ _ _ _ _ _ _ _ _)
      | (with_reducible exact dom_Dominates.mono _ _ _ _ _)
      | (with_reducible exact fettlelaw06_small.mono _ _ _ _ _)
      | (with_reducible exact fettlelaw06_up.mono _)
      | (with_reducible exact fettleref05_Next.mono _ _ _ _ _ _)
      | (with_reducible exact LeO.refl _)
      | (with_reducible exact LeO.none _)
      | (with_reducible refine LeO.ite ?_ ?_)
      | (with_reducible refine LeO.bind ?_ (fun _ => ?_))
      | exact ih0 _ _ _ _ _ _ _
      | exact ih1 _ _ _ _ _ _ _ _ _ _
      | exact ih2 _ _ _ _ _ _ _ _ _ _ _
      | exact ih3 _ _ _ _ _ _ _ _ _ _ _
      | exact ih4 _ _ _ _ _ _ _ _ _ _ _
      | exact dom_Dominates.mono _ _ _ _ _
      | exact fettlelaw06_small.mono _ _ _ _ _
      | exact fettlelaw06_up.mono _
      | exact fettleref05_Next.mono _ _ _ _ _ _
      | exact LeO.none _
      | refine LeO.ite ?_ ?_
      | refine LeO.bind ?_ (fun _ => ?_)
    · intro y0 y1 y2 y3 y4 y5 y6 y7 y8 y9 y10
      unfold fettlelaw06_DomPaths.j2
      repeat' first
      | (with_reducible exact ih0 _ _ _ _ _ _ _)
      | (with_reducible exact ih1 _ _ _ _ _ _ _ _ _ _)
      | (with_reducible exact ih2 _ _ _ _ _ _ _ _ _ _ _)
      | (with_reducible exact ih3 _ _ _ _ _ _ _ _ _ _ _)
      | (with_reducible exact ih4 _ _ _ _ _ _ _ _ _ _ _)
      | (with_reducible exact dom_Dominates.mono _ _ _ _ _)
      | (with_reducible exact fettlelaw06_small.mono _ _ _ _ _)
      | (with_reducible exact fettlelaw06_up.mono _)
      | (with_reducible exact fettleref05_Next.mono _ _ _ _ _ _)
      | (with_reducible exact LeO.refl _)
      | (with_reducible exact LeO.none _)
      | (with_reducible refine LeO.ite ?_ ?_)
      | (with_reducible refine LeO.bind ?_ (fun _ => ?_))
      | exact ih0 _ _ _ _ _ _ _
      | exact ih1 _ _ _ _ _ _ _ _ _ _
      | exact ih2 _ _ _ _ _ _ _ _ _ _ _
      | exact ih3 _ _ _ _ _ _ _ _ _ _ _
      | exact ih4 _ _ _ _ _ _ _ _ _ _ _
      | exact dom_Dominates.mono _ _ _ _ _
      | exact fettlelaw06_small.mono _ _ _ _ _
      | exact fettlelaw06_up.mono _
      | exact fettleref05_Next.mono _ _ _ _ _ _
      | exact LeO.none _
      | refine LeO.ite ?_ ?_
      | refine LeO.bind ?_ (fun _ => ?_)
    · intro y0 y1 y2 y3 y4 y5 y6 y7 y8 y9 y10
      unfold fettlelaw06_DomPaths.l1
      repeat' first
      | (with_reducible exact ih0 _ _ _ _ _ _ _)
      | (with_reducible exact ih1 _ _ _ _ _ _ _ _ _ _)
      | (with_reducible exact ih2 _ _ _ _ _ _ _ _ _ _ _)
      | (with_reducible exact ih3 _ _ _ _ _ _ _ _ _ _ _)
      | (with_reducible exact ih4 _ _ _ _ _ _ _ _ _ _ _)
      | (with_reducible exact dom_Dominates.mono _ _ _ _ _)
      | (with_reducible exact fettlelaw06_small.mono _ _ _ _ _)
      | (with_reducible exact fettlelaw06_up.mono _)
      | (with_reducible exact fettleref05_Next.mono _ _ _ _ _ _)
      | (with_reducible exact LeO.refl _)
      | (with_reducible exact LeO.none _)
      | (with_reducible refine LeO.ite ?_ ?_)
      | (with_reducible refine LeO.bind ?_ (fun _ => ?_))
      | exact ih0 _ _ _ _ _ _ _
      | exact ih1 _ _ _ _ _ _ _ _ _ _
      | exact ih2 _ _ _ _ _ _ _ _ _ _ _
      | exact ih3 _ _ _ _ _ _ _ _ _ _ _
      | exact ih4 _ _ _ _ _ _ _ _ _ _ _
      | exact dom_Dominates.mono _ _ _ _ _
      | exact fettlelaw06_small.mono _ _ _ _ _
      | exact fettlelaw06_up.mono _
      | exact fettleref05_Next.mono _ _ _ _ _ _
      | exact LeO.none _
      | refine LeO.ite ?_ ?_
      | refine LeO.bind ?_ (fun _ => ?_)
    · intro y0 y1 y2 y3 y4 y5 y6 y7 y8 y9 y10
      unfold fettlelaw06_DomPaths.j4
      repeat' first
      | (with_reducible exact ih0 _ _ _ _ _ _ _)
      | (with_reducible exact ih1 _ _ _ _ _ _ _ _ _ _)
      | (with_reducible exact ih2 _ _ _ _ _ _ _ _ _ _ _)
      | (with_reducible exact ih3 _ _ _ _ _ _ _ _ _ _ _)
      | (with_reducible exact ih4 _ _ _ _ _ _ _ _ _ _ _)
      | (with_reducible exact dom_Dominates.mono _ _ _ _ _)
      | (with_reducible exact fettlelaw06_small.mono _ _ _ _ _)
      | (with_reducible exact fettlelaw06_up.mono _)
      | (with_reducible exact fettleref05_Next.mono _ _ _ _ _ _)
      | (with_reducible exact LeO.refl _)
      | (with_reducible exact LeO.none _)
      | (with_reducible refine LeO.ite ?_ ?_)
      | (with_reducible refine LeO.bind ?_ (fun _ => ?_))
      | exact ih0 _ _ _ _ _ _ _
      | exact ih1 _ _ _ _ _ _ _ _ _ _
      | exact ih2 _ _ _ _ _ _ _ _ _ _ _
      | exact ih3 _ _ _ _ _ _ _ _ _ _ _
      | exact ih4 _ _ _ _ _ _ _ _ _ _ _
      | exact dom_Dominates.mono _ _ _ _ _
      | exact fettlelaw06_small.mono _ _ _ _ _
      | exact fettlelaw06_up.mono _
      | exact fettleref05_Next.mono _ _ _ _ _ _
      | exact LeO.none _
      | refine LeO.ite ?_ ?_
      | refine LeO.bind ?_ (fun _ => ?_)
theorem fettlelaw06_DomPaths.mono : ∀ a0 a1 a2 a3 a4 k, LeO (fettlelaw06_DomPaths.f k a0 a1 a2 a3 a4) (fettlelaw06_DomPaths.f (k + 1) a0 a1 a2 a3 a4) := by
  intro a0 a1 a2 a3 a4 k
  obtain ⟨ih0, ih1, ih2, ih3, ih4⟩ := fettlelaw06_DomPaths.mono_l k
  unfold fettlelaw06_DomPaths.f
  repeat' first
      | (with_reducible exact ih0 _ _ _ _ _ _ _)
      | (with_reducible exact ih1 _ _ _ _ _ _ _ _ _ _)
      | (with_reducible exact ih2 _ _ _ _ _ _ _ _ _ _ _)
      | (with_reducible exact ih3 _ _ _ _ _ _ _ _ _ _ _)
      | (with_reducible exact ih4 _ _ _ _ _ _ _ _ _ _ _)
      | (with_reducible exact dom_Dominates.mono _ _ _ _ _)
      | (with_reducible exact fettlelaw06_small.mono _ _ _ _ _)
      | (with_reducible exact fettlelaw06_up.mono _)
      | (with_reducible exact fettleref05_Next.mono _ _ _ _ _ _)
      | (with_reducible exact LeO.refl _)
      | (with_reducible exact LeO.none _)
      | (with_reducible refine LeO.ite ?_ ?_)
      | (with_reducible refine LeO.bind ?_ (fun _ => ?_))
      | exact ih0 _ _ _ _ _ _ _
      | exact ih1 _ _ _ _ _ _ _ _ _ _
      | exact ih2 _ _ _ _ _ _ _ _ _ _ _
      | exact ih3 _ _ _ _ _ _ _ _ _ _ _
      | exact ih4 _ _ _ _ _ _ _ _ _ _ _
      | exact dom_Dominates.mono _ _ _ _ _
      | exact fettlelaw06_small.mono _ _ _ _ _
      | exact fettlelaw06_up.mono _
      | exact fettleref05_Next.mono _ _ _ _ _ _
      | exact LeO.none _
      | refine LeO.ite ?_ ?_
      | refine LeO.bind ?_ (fun _ => ?_)
set_option maxHeartbeats 8000000 in
set_option maxRecDepth 100000 in
theorem fettlelaw06_DomPaths.calls (k : Nat) (a0_0 : Int) (a0_1 : Int) (A0_2 : Option Addr) (c0_2 : Nat) (l0_2 : List Int) (A0_3 : Option Addr) (c0_3 : Nat) (l0_3 : List (S52)) (A1 : Option Addr) (c1 : Nat) (l1 : List Int) (r : Bool) (w : World) (hr0_2 : Kd.C (Kd.int .i64) w A0_2 l0_2.length l0_2) (hc0_2 : l0_2.length ≤ c0_2) (hr0_3 : Kd.C k52 w A0_3 l0_3.length l0_3) (hc0_3 : l0_3.length ≤ c0_3) (hr1 : Kd.C (Kd.int .i64) w A1 l1.length l1) (hc1 : l1.length ≤ c1) (h : fettlelaw06_DomPaths.f k a0_0 a0_1 l0_2 l0_3 l1 = some r) :
    Calls Try.prog 5 #[.agg #[.int .i64 a0_0, .int .i64 a0_1, .slice A0_2 l0_2.length c0_2, .slice A0_3 l0_3.length c0_3], .slice A1 l1.length c1] w fun e w' => e = .returned (.bool r) ∧ Below w.heap.size w w' := by
  have hu25 := Try.underlying25
  have HR0_2 := Aside0.mk hr0_2
  have HC0_2 := Aside0.mk hc0_2
  clear hr0_2 hc0_2
  have HR0_3 := Aside0.mk hr0_3
  have HC0_3 := Aside0.mk hc0_3
  clear hr0_3 hc0_3
  have HR1 := Aside0.mk hr1
  have HC1 := Aside0.mk hc1
  clear hr1 hc1
  have HB := Aside0.mk (Below.refl w.heap.size w)
  have H : ((fettlelaw06_up.f k).bind fun t301 => ((fettlelaw06_small.f k a0_0 a0_1 l0_2 l0_3).bind fun t302 => (if t302 = true then (fettlelaw06_DomPaths.j0 k l1 t301 ((l0_3.length : Int) == 0) a0_0 a0_1 l0_2 l0_3) else (fettlelaw06_DomPaths.j0 k l1 t301 true a0_0 a0_1 l0_2 l0_3)))) = some r := h
  clear h
  replace H := Option.bind_eq_some_iff.mp H
  obtain ⟨t301, A30, H⟩ := H
  replace H : ((fettlelaw06_small.f k a0_0 a0_1 l0_2 l0_3).bind fun t302 => (if t302 = true then (fettlelaw06_DomPaths.j0 k l1 t301 ((l0_3.length : Int) == 0) a0_0 a0_1 l0_2 l0_3) else (fettlelaw06_DomPaths.j0 k l1 t301 true a0_0 a0_1 l0_2 l0_3))) = some r := H
  have A3 := Aside0.mk A30
  clear A30
  replace H := Option.bind_eq_some_iff.mp H
  obtain ⟨t302, A40, H⟩ := H
  replace H : (if t302 = true then (fettlelaw06_DomPaths.j0 k l1 t301 ((l0_3.length : Int) == 0) a0_0 a0_1 l0_2 l0_3) else (fettlelaw06_DomPaths.j0 k l1 t301 true a0_0 a0_1 l0_2 l0_3)) = some r := H
  have A4 := Aside0.mk A40
  clear A40
  have HC5 := Aside0.mk H
  clear H
  go_enter Try.func5, Try.ntmps5
  go_upto_region 3 with (first | ((with_reducible refine gate_dst (N := 2) rfl ?_); (try (refine gate_guard (by rfl) ?_; dsimp only)); refine box_event ?hg (N := 2) ?hd (cs := #[.int .i64 a0_0, .int .i64 a0_1, .slice A0_2 l0_2.length c0_2, .slice A0_3 l0_3.length c0_3]) (t := 25) ?hr ?_; (case hd => rfl); (case hg => rfl); (case hr => first | (go_simp; done) | (go_simp; rfl)); intro gb300 hg w6 hbox hb; have n0_ := Aside0.mk (below_step (by repeat with_reducible first | exact HB.out | apply below_alloc | apply pw_below_drewN | apply below_drew1) hb); have n1_ := Aside0.mk (hbox); have n2_ := Aside0.mk ((by rw [hg]; exact (below_size (by repeat with_reducible first | exact HB.out | apply below_alloc | apply pw_below_drewN | apply below_drew1)) : w.heap.size ≤ gb300)); have n3_ := Aside0.mk ((by rw [hg]; exact (below_size (by repeat with_reducible first | exact HB.out | apply below_alloc | apply pw_below_drewN | apply below_drew1)) : w.heap.size ≤ gb300)); clear HB; have HB := n0_; have BK300 := n1_; have GW300 := n2_; have GE300 := n3_; clear n0_ n1_ n2_ n3_; clear hb hbox hg) | ((with_reducible refine gate_callee (f := 11) rfl ?_); refine goesL_ (some 14) rfl rfl Try.func11 (by kernel_rfl) rfl #[] rfl (by (try simp only [List.map_toArray, List.map_cons, List.map_nil]); first | done | rfl) ?_; (with_reducible refine (fettlelaw06_up.calls k  t301 _ A3.out).mono ?_); rintro e w7 ⟨rfl, hb⟩; refine ⟨_, rfl, ?_⟩; have n0_ := Aside0.mk (blk_below (g := gb300) (o := .cells #[.int .i64 a0_0, .int .i64 a0_1, .slice A0_2 l0_2.length c0_2, .slice A0_3 l0_3.length c0_3] 25 (0, 0)) (by (with_reducible repeat (first | refine blk_drewN ?_ _ | refine blk_drew ?_ | refine blk_alloc ?_ _)); exact BK300.out) hb); have n1_ := Aside0.mk (below_step (by repeat with_reducible first | exact HB.out | apply below_alloc | apply pw_below_drewN | apply below_drew1 | refine below_set ?_ GE300.out) hb); clear BK300; clear HB; have BK300 := n0_; have HB := n1_; clear n0_ n1_; (try clear hb); (try clear hb2); (try clear hk); (try clear hi); have hcz8_0 : w7.cell? ⟨gb300, 0, none⟩ = some (.int .i64 a0_0) := (blk_cell BK300.out 0).trans rfl; have hcz8_1 : w7.cell? ⟨gb300, 1, none⟩ = some (.int .i64 a0_1) := (blk_cell BK300.out 1).trans rfl; have hcz8_2 : w7.cell? ⟨gb300, 2, none⟩ = some (.slice A0_2 l0_2.length c0_2) := (blk_cell BK300.out 2).trans rfl; have hcz8_3 : w7.cell? ⟨gb300, 3, none⟩ = some (.slice A0_3 l0_3.length c0_3) := (blk_cell BK300.out 3).trans rfl; have hfz8_0 := blk_frozen BK300.out 0; have hfz8_1 := blk_frozen BK300.out 1; have hfz8_2 := blk_frozen BK300.out 2; have hfz8_3 := blk_frozen BK300.out 3) | ((with_reducible refine gate_callee (f := 12) rfl ?_); refine goesL_ (some 16) rfl rfl Try.func12 (by kernel_rfl) rfl #[.agg #[.int .i64 a0_0, .int .i64 a0_1, .slice A0_2 l0_2.length c0_2, .slice A0_3 l0_3.length c0_3]] rfl (by (try simp only [List.map_toArray, List.map_cons, List.map_nil]); first | done | rfl) ?_; (with_reducible refine (fettlelaw06_small.calls k a0_0 a0_1 (fun k_ => k_ < w.heap.size) _ _ l0_2 (fun k_ => k_ < w.heap.size) _ _ l0_3 t302 _ ?side1 ?side2 A4.out).mono ?_); (case side1 => exact Kd.V_mk HC0_2.out (Kd.F_below (Kd.C_F (Kd.heap_int .i64) HR0_2.out) (by repeat with_reducible first | exact HB.out | apply below_alloc | apply pw_below_drewN | apply below_drew1 | refine below_set ?_ GE300.out))); (case side2 => exact Kd.V_mk HC0_3.out (Kd.F_below (Kd.C_F k52_heap HR0_3.out) (by repeat with_reducible first | exact HB.out | apply below_alloc | apply pw_below_drewN | apply below_drew1 | refine below_set ?_ GE300.out))); rintro e w9 ⟨rfl, hb⟩; refine ⟨_, rfl, ?_⟩; have n0_ := Aside0.mk (blk_below (g := gb300) (o := .cells #[.int .i64 a0_0, .int .i64 a0_1, .slice A0_2 l0_2.length c0_2, .slice A0_3 l0_3.length c0_3] 25 (0, 0)) (by (with_reducible repeat (first | refine blk_drewN ?_ _ | refine blk_drew ?_ | refine blk_alloc ?_ _)); exact BK300.out) hb); have n1_ := Aside0.mk (below_step (by repeat with_reducible first | exact HB.out | apply below_alloc | apply pw_below_drewN | apply below_drew1 | refine below_set ?_ GE300.out) hb); clear BK300; clear HB; have BK300 := n0_; have HB := n1_; clear n0_ n1_; (try clear hb); (try clear hb2); (try clear hk); (try clear hi)))
  (try simp only [Act.put, List.setIfInBounds_toArray, List.set_cons_zero, List.set_cons_succ])
  go_cut [24] (fun v24 wc => ∃ (kq : Nat) (x24_4 : Bool), v24 = .bool x24_4 ∧ Aside0 (fettlelaw06_DomPaths.j0 kq l1 t301 x24_4 a0_0 a0_1 l0_2 l0_3 = some r) ∧ Aside0 (kq ≤ k) ∧ Aside0 (wc.heap[gb300]? = some (.cells #[.int .i64 a0_0, .int .i64 a0_1, (.slice A0_2 l0_2.length c0_2), (.slice A0_3 l0_3.length c0_3)] 25 (0, 0))) ∧ Aside0 (Below w.heap.size w wc))
  case first =>
    have H := HC5.out
    clear HC5
    by_cases c10 : t302 = true
    · subst c10
      have H1 : (fettlelaw06_DomPaths.j0 k l1 t301 ((l0_3.length : Int) == 0) a0_0 a0_1 l0_2 l0_3) = some r := by rw [if_pos rfl] at H; exact H
      clear H
      have H := H1
      clear H1
      have H' := Aside0.mk H
      clear H
      have hcz11_0 : w9.cell? ⟨gb300, 0, none⟩ = some (.int .i64 a0_0) := (blk_cell BK300.out 0).trans rfl
      have hcz11_1 : w9.cell? ⟨gb300, 1, none⟩ = some (.int .i64 a0_1) := (blk_cell BK300.out 1).trans rfl
      have hcz11_2 : w9.cell? ⟨gb300, 2, none⟩ = some (.slice A0_2 l0_2.length c0_2) := (blk_cell BK300.out 2).trans rfl
      have hcz11_3 : w9.cell? ⟨gb300, 3, none⟩ = some (.slice A0_3 l0_3.length c0_3) := (blk_cell BK300.out 3).trans rfl
      have hfz11_0 := blk_frozen BK300.out 0
      have hfz11_1 := blk_frozen BK300.out 1
      have hfz11_2 := blk_frozen BK300.out 2
      have hfz11_3 := blk_frozen BK300.out 3
      go_wp2
      go_meet
      case rel => exact ⟨_, (((l0_3.length : Int) == 0)), (by first | rfl | (simp; done) | (simp [*]; done)), H', ⟨by first | omega | exact Nat.le_refl _⟩, ⟨by (with_reducible repeat (first | refine blk_drewN ?_ _ | refine blk_drew ?_ | refine blk_alloc ?_ _)); exact BK300.out⟩, ⟨by repeat (first | (with_reducible first | exact HB.out | apply below_alloc | apply pw_below_drewN | apply below_drew1 | refine below_set ?_ GE300.out) | exact HB.out)⟩⟩
    replace c10 := Bool.eq_false_iff.mpr c10
    subst c10
    have H1 : (fettlelaw06_DomPaths.j0 k l1 t301 true a0_0 a0_1 l0_2 l0_3) = some r := by rw [if_neg (show ¬ (false = true) by decide)] at H; exact H
    clear H
    have H := H1
    clear H1
    have H' := Aside0.mk H
    clear H
    go_wp2
    go_meet
    case rel => exact ⟨_, (true), (by first | rfl | (simp; done) | (simp [*]; done)), H', ⟨by first | omega | exact Nat.le_refl _⟩, ⟨by (with_reducible repeat (first | refine blk_drewN ?_ _ | refine blk_drew ?_ | refine blk_alloc ?_ _)); exact BK300.out⟩, ⟨by repeat (first | (with_reducible first | exact HB.out | apply below_alloc | apply pw_below_drewN | apply below_drew1 | refine below_set ?_ GE300.out) | exact HB.out)⟩⟩
  clear HC5
  try clear c1
  try clear p2
  try clear c5
  try clear c10
  try clear c11
  try clear hcz11_0
  try clear hcz11_1
  try clear hcz11_2
  try clear hcz11_3
  try clear hcz8_0
  try clear hcz8_1
  try clear hcz8_2
  try clear hcz8_3
  try clear hfz11_0
  try clear hfz11_1
  try clear hfz11_2
  try clear hfz11_3
  try clear hfz8_0
  try clear hfz8_1
  try clear hfz8_2
  try clear hfz8_3
  obtain ⟨kq, x24_4, rfl, HA, HJ4, BK300, HB⟩ := hcut
  rcases kq with _ | kj4
  · exact absurd HA.out (by simp [fettlelaw06_DomPaths.j0])
  have H := HA.out
  clear HA
  simp only [fettlelaw06_DomPaths.j0] at H
  by_cases c12 : x24_4 = true
  · subst c12
    have H1 : (some t301) = some r := by rw [if_pos rfl] at H; exact H
    clear H
    have H := H1
    clear H1
    obtain rfl := Option.some.inj H
    go_wp2
    go_ret
    exact ⟨by first | rfl | (simp [errW_none, errW_some] <;> rfl) | (simp [*, errW_none, errW_some] <;> rfl), by repeat (first | (with_reducible first | exact HB.out | apply below_alloc | apply pw_below_drewN | apply below_drew1 | refine below_set ?_ GE300.out) | exact HB.out)⟩
  replace c12 := Bool.eq_false_iff.mpr c12
  subst c12
  have H1 : ((dom_Dominates.f kj4 a0_0 a0_1 l0_2 l0_3).bind fun t303 => (if (t303.length : Int) = (l0_3.length : Int) then (if 0 ≤ (l0_3.length : Int) then (if ((l0_3.length : Int) : Int).toNat ≤ 281474976710656 then (fettlelaw06_DomPaths.l0 kj4 l1 t301 t303 (List.replicate ((l0_3.length : Int) : Int).toNat false) 0 0 a0_0 a0_1 l0_2 l0_3) else (none)) else (none)) else (some false))) = some r := by rw [if_neg (show ¬ (false = true) by decide)] at H; exact H
  clear H
  have H := H1
  clear H1
  replace H := Option.bind_eq_some_iff.mp H
  obtain ⟨t303, A130, H⟩ := H
  replace H : (if (t303.length : Int) = (l0_3.length : Int) then (if 0 ≤ (l0_3.length : Int) then (if ((l0_3.length : Int) : Int).toNat ≤ 281474976710656 then (fettlelaw06_DomPaths.l0 kj4 l1 t301 t303 (List.replicate ((l0_3.length : Int) : Int).toNat false) 0 0 a0_0 a0_1 l0_2 l0_3) else (none)) else (none)) else (some false)) = some r := H
  have A13 := Aside0.mk A130
  clear A130
  by_cases c14 : (t303.length : Int) = (l0_3.length : Int)
  · rw [if_pos c14] at H
    have c14b0 : ((t303.length : Int) == (l0_3.length : Int)) = true := beq_iff_eq.mpr c14
    have c14b1 : ((t303.length : Int) != (l0_3.length : Int)) = false := bne_eq_false_iff_eq.mpr c14
    have c14b2 : (t303.length == l0_3.length) = true := by first | simpa using c14 | (simp at c14 ⊢; omega)
    clear c14
    by_cases c15 : 0 ≤ (l0_3.length : Int)
    rotate_left
    · rw [if_neg c15] at H
      exact absurd H (by simp)
    rw [if_pos c15] at H
    have c15b0 := eq_true c15
    have c15b1 : decide (0 ≤ (l0_3.length : Int)) = true := decide_eq_true c15
    clear c15
    by_cases c16 : ((l0_3.length : Int) : Int).toNat ≤ 281474976710656
    rotate_left
    · rw [if_neg c16] at H
      exact absurd H (by simp)
    rw [if_pos c16] at H
    have c16b0 := eq_true c16
    have c16b1 : decide (((l0_3.length : Int) : Int).toNat ≤ 281474976710656) = true := decide_eq_true c16
    clear c16
    obtain ⟨y306, hy306⟩ : ∃ y_ : List Bool, y_ = (List.replicate ((l0_3.length : Int) : Int).toNat false) := ⟨_, rfl⟩
    replace H : (fettlelaw06_DomPaths.l0 kj4 l1 t301 t303 y306 0 0 a0_0 a0_1 l0_2 l0_3) = some r := by first | (rw [hy306]; with_reducible exact H) | (have H2_ := (Option.bind_some _ _).symm.trans H; rw [hy306]; with_reducible exact H2_) | exact H
    have Ny306 := Aside0.mk hy306
    clear hy306
    have H' := Aside0.mk H
    clear H
    have hcz17_0 : wc.cell? ⟨gb300, 0, none⟩ = some (.int .i64 a0_0) := (blk_cell BK300.out 0).trans rfl
    have hcz17_1 : wc.cell? ⟨gb300, 1, none⟩ = some (.int .i64 a0_1) := (blk_cell BK300.out 1).trans rfl
    have hcz17_2 : wc.cell? ⟨gb300, 2, none⟩ = some (.slice A0_2 l0_2.length c0_2) := (blk_cell BK300.out 2).trans rfl
    have hcz17_3 : wc.cell? ⟨gb300, 3, none⟩ = some (.slice A0_3 l0_3.length c0_3) := (blk_cell BK300.out 3).trans rfl
    have hfz17_0 := blk_frozen BK300.out 0
    have hfz17_1 := blk_frozen BK300.out 1
    have hfz17_2 := blk_frozen BK300.out 2
    have hfz17_3 := blk_frozen BK300.out 3
    go_wp2_with (first | ((with_reducible refine gate_callee (f := 17) rfl ?_); refine goesL_ (some 27) rfl rfl Try.func17 (by kernel_rfl) rfl #[.agg #[.int .i64 a0_0, .int .i64 a0_1, .slice A0_2 l0_2.length c0_2, .slice A0_3 l0_3.length c0_3]] rfl (by (try simp only [List.map_toArray, List.map_cons, List.map_nil]); first | done | rfl) ?_; (with_reducible refine (dom_Dominates.calls kj4 a0_0 a0_1 _ _ l0_2 _ _ l0_3 t303 _ ?side1 ?side2 ?side3 ?side4 A13.out).mono ?_); (case side1 => repeat (first | exact (C_below HR0_2.out HB.out) | (with_reducible refine C_alloc ?_ _) | (with_reducible refine C_drewN ?_ _) | (with_reducible refine C_drew ?_))); (case side2 => exact HC0_2.out); (case side3 => repeat (first | exact (C_below HR0_3.out HB.out) | (with_reducible refine C_alloc ?_ _) | (with_reducible refine C_drewN ?_ _) | (with_reducible refine C_drew ?_))); (case side4 => exact HC0_3.out); rintro e w18 ⟨v304, rfl, ho0, hb⟩; refine ⟨_, rfl, ?_⟩; have n0_ := Aside0.mk (Kd.S_lower ho0 (below_size (by repeat with_reducible first | exact HB.out | apply below_alloc | apply pw_below_drewN | apply below_drew1 | refine below_set ?_ GE300.out))); have n1_ := Aside0.mk (blk_below (g := gb300) (o := .cells #[.int .i64 a0_0, .int .i64 a0_1, .slice A0_2 l0_2.length c0_2, .slice A0_3 l0_3.length c0_3] 25 (0, 0)) (by (with_reducible repeat (first | refine blk_drewN ?_ _ | refine blk_drew ?_ | refine blk_alloc ?_ _)); exact BK300.out) hb); have n2_ := Aside0.mk (below_step (by repeat with_reducible first | exact HB.out | apply below_alloc | apply pw_below_drewN | apply below_drew1 | refine below_set ?_ GE300.out) hb); clear BK300; clear HB; have HO305 := n0_; have BK300 := n1_; have HB := n2_; clear n0_ n1_ n2_; (try clear hb); (try clear hb2); (try clear hk); (try clear hi); (try clear ho0); obtain ⟨Ao19, co19, eo19⟩ := Kd.S_slice HO305.out; subst eo19; have hcz20_0 : w18.cell? ⟨gb300, 0, none⟩ = some (.int .i64 a0_0) := (blk_cell BK300.out 0).trans rfl; have hcz20_1 : w18.cell? ⟨gb300, 1, none⟩ = some (.int .i64 a0_1) := (blk_cell BK300.out 1).trans rfl; have hcz20_2 : w18.cell? ⟨gb300, 2, none⟩ = some (.slice A0_2 l0_2.length c0_2) := (blk_cell BK300.out 2).trans rfl; have hcz20_3 : w18.cell? ⟨gb300, 3, none⟩ = some (.slice A0_3 l0_3.length c0_3) := (blk_cell BK300.out 3).trans rfl; have hfz20_0 := blk_frozen BK300.out 0; have hfz20_1 := blk_frozen BK300.out 1; have hfz20_2 := blk_frozen BK300.out 2; have hfz20_3 := blk_frozen BK300.out 3) | ((with_reducible refine gate_dst (N := 37) rfl ?_); (try (refine gate_guard (by rfl) ?_; dsimp only)); refine Kd.R_make Kd.bool _ 4 rfl (N := 37) rfl 34 _ _ rfl (l0_3.length : Int) rfl rfl Try.underlying34 (.bool false) 1 info4 rfl (by decide) (by omega) false (ok := fun _ => True) (okp := fun _ => True) rfl (fun _ hk => hk) trivial (of_decide_eq_true (by with_reducible assumption)) (Nat.le_trans (Nat.mul_le_mul_right _ (of_decide_eq_true (by with_reducible assumption) : (l0_3.length : Int).toNat ≤ 281474976710656)) (by omega)) (Below.refl _ _) (Nat.le_refl _) ?_; intro v307 w21 ho22 hb hg_ hnew_; clear hg_ hnew_; rw [← Ny306.out] at ho22; have n0_ := Aside0.mk (Kd.S_elder' (by (with_reducible repeat (first | apply S_alloc | apply S_drewN | apply S_drew)); exact HO305.out) (R_base ho22) hb); have n1_ := Aside0.mk (Kd.R_lower ho22 (below_size (by repeat with_reducible first | exact HB.out | apply below_alloc | apply pw_below_drewN | apply below_drew1 | refine below_set ?_ GE300.out))); have n2_ := Aside0.mk (blk_below (g := gb300) (o := .cells #[.int .i64 a0_0, .int .i64 a0_1, .slice A0_2 l0_2.length c0_2, .slice A0_3 l0_3.length c0_3] 25 (0, 0)) (by (with_reducible repeat (first | refine blk_drewN ?_ _ | refine blk_drew ?_ | refine blk_alloc ?_ _)); exact BK300.out) hb); have n3_ := Aside0.mk (below_step (by repeat with_reducible first | exact HB.out | apply below_alloc | apply pw_below_drewN | apply below_drew1 | refine below_set ?_ GE300.out) hb); clear HO305; clear BK300; clear HB; have HO305 := n0_; have HO308 := n1_; have BK300 := n2_; have HB := n3_; clear n0_ n1_ n2_ n3_; clear hb ho22))
    go_loopg [9, 10] kj4 (fun kq v9 v10 w' => ∃ (x8_2 : List Bool) (x9_2 : Int) (x10_2 : Int), v9 = .int .i64 x9_2 ∧ v10 = .int .i64 x10_2 ∧ Aside0 (fettlelaw06_DomPaths.l0 kq l1 t301 t303 x8_2 x9_2 x10_2 a0_0 a0_1 l0_2 l0_3 = some r) ∧ Aside0 (kq ≤ kj4) ∧ Aside0 (Kd.S (Kd.slice 4 Kd.bool) 34 w' w.heap.size (fun k_ => some k_ ≠ (v307 : Value).ownBlock) (.slice Ao19 t303.length co19) t303) ∧ Aside0 (Kd.R Kd.bool 4 w' w.heap.size (fun _ => True) v307 x8_2) ∧ Aside0 (w'.heap[gb300]? = some (.cells #[.int .i64 a0_0, .int .i64 a0_1, (.slice A0_2 l0_2.length c0_2), (.slice A0_3 l0_3.length c0_3)] 25 (0, 0))) ∧ Aside0 (Below w.heap.size w w'))
    case atStart => exact ⟨(y306), (0), (0), (by first | rfl | (simp; done) | (simp [*]; done)), (by first | rfl | (simp; done) | (simp [*]; done)), H', ⟨Nat.le_refl _⟩, ⟨by (with_reducible repeat (first | apply S_alloc | apply S_drewN | apply S_drew)); exact S_mono HO305.out (fun _ hk => hk.2)⟩, ⟨by (with_reducible repeat (first | apply R_alloc | apply R_drewN | apply R_drew)); exact HO308.out⟩, ⟨by (with_reducible repeat (first | refine blk_drewN ?_ _ | refine blk_drew ?_ | refine blk_alloc ?_ _)); exact BK300.out⟩, ⟨by repeat (first | (with_reducible first | exact HB.out | apply below_alloc | apply pw_below_drewN | apply below_drew1 | refine below_set ?_ GE300.out) | exact HB.out)⟩⟩
    clear H'
    try clear c1
    try clear p2
    try clear c5
    try clear c10
    try clear c11
    try clear c12
    try clear c14
    try clear c14b0
    try clear c14b1
    try clear c14b2
    try clear c15
    try clear c15b0
    try clear c15b1
    try clear c16
    try clear c16b0
    try clear c16b1
    try clear c17
    try clear hcz11_0
    try clear hcz11_1
    try clear hcz11_2
    try clear hcz11_3
    try clear hcz17_0
    try clear hcz17_1
    try clear hcz17_2
    try clear hcz17_3
    try clear hcz20_0
    try clear hcz20_1
    try clear hcz20_2
    try clear hcz20_3
    try clear hcz8_0
    try clear hcz8_1
    try clear hcz8_2
    try clear hcz8_3
    try clear hfz11_0
    try clear hfz11_1
    try clear hfz11_2
    try clear hfz11_3
    try clear hfz17_0
    try clear hfz17_1
    try clear hfz17_2
    try clear hfz17_3
    try clear hfz20_0
    try clear hfz20_1
    try clear hfz20_2
    try clear hfz20_3
    try clear hfz8_0
    try clear hfz8_1
    try clear hfz8_2
    try clear hfz8_3
    try clear p2
    obtain ⟨x8_2, x9_2, x10_2, rfl, rfl, HA, HK2, HO_7, HO_8, BK300, HB⟩ := hrel
    rcases gk with _ | k2
    · exact absurd HA.out (by simp [fettlelaw06_DomPaths.l0])
    have H := HA.out
    clear HA
    simp only [fettlelaw06_DomPaths.l0] at H
    have HC23 := Aside0.mk H
    clear H
    go_upto_region 11 with (fail)
    go_cut [45] (fun v45 wc => ∃ (kq : Nat) (x45_22 : Bool), v45 = .bool x45_22 ∧ Aside0 (fettlelaw06_DomPaths.j2 kq l1 t301 t303 x8_2 x9_2 x10_2 x45_22 a0_0 a0_1 l0_2 l0_3 = some r) ∧ Aside0 (kq ≤ k2) ∧ Aside0 (Kd.S (Kd.slice 4 Kd.bool) 34 wc w.heap.size (fun k_ => some k_ ≠ (v307 : Value).ownBlock) (.slice Ao19 t303.length co19) t303) ∧ Aside0 (Kd.R Kd.bool 4 wc w.heap.size (fun _ => True) v307 x8_2) ∧ Aside0 (wc.heap[gb300]? = some (.cells #[.int .i64 a0_0, .int .i64 a0_1, (.slice A0_2 l0_2.length c0_2), (.slice A0_3 l0_3.length c0_3)] 25 (0, 0))) ∧ Aside0 (Below w.heap.size w wc))
    case first =>
      have H := HC23.out
      clear HC23
      by_cases c24 : x10_2 ≤ (l1.length : Int)
      · rw [if_pos c24] at H
        have c24b0 : decide (x10_2 ≤ (l1.length : Int)) = true := decide_eq_true c24
        clear c24
        (first | rw [c24b0] | (simp only [i64_w, i32_w]; rw [c24b0]) | skip)
        have H' := Aside0.mk H
        clear H
        go_wp2
        go_meet
        case rel => exact ⟨_, (decide (x10_2 < 60)), (by first | rfl | (simp; done) | (simp [*]; done)), H', ⟨by have := HJ4.out; have := HK2.out; first | omega | exact Nat.le_refl _⟩, ⟨by (with_reducible repeat (first | apply S_alloc | apply S_drewN | apply S_drew)); exact HO_7.out⟩, ⟨by (with_reducible repeat (first | apply R_alloc | apply R_drewN | apply R_drew)); exact HO_8.out⟩, ⟨by (with_reducible repeat (first | refine blk_drewN ?_ _ | refine blk_drew ?_ | refine blk_alloc ?_ _)); exact BK300.out⟩, ⟨by repeat (first | (with_reducible first | exact HB.out | apply below_alloc | apply pw_below_drewN | apply below_drew1 | refine below_set ?_ GE300.out) | exact HB.out)⟩⟩
      rw [if_neg c24] at H
      have c24b0 : decide (x10_2 ≤ (l1.length : Int)) = false := decide_eq_false c24
      clear c24
      (first | rw [c24b0] | (simp only [i64_w, i32_w]; rw [c24b0]) | skip)
      have H' := Aside0.mk H
      clear H
      go_wp2
      go_meet
      case rel => exact ⟨_, (false), (by first | rfl | (simp; done) | (simp [*]; done)), H', ⟨by have := HJ4.out; have := HK2.out; first | omega | exact Nat.le_refl _⟩, ⟨by (with_reducible repeat (first | apply S_alloc | apply S_drewN | apply S_drew)); exact HO_7.out⟩, ⟨by (with_reducible repeat (first | apply R_alloc | apply R_drewN | apply R_drew)); exact HO_8.out⟩, ⟨by (with_reducible repeat (first | refine blk_drewN ?_ _ | refine blk_drew ?_ | refine blk_alloc ?_ _)); exact BK300.out⟩, ⟨by repeat (first | (with_reducible first | exact HB.out | apply below_alloc | apply pw_below_drewN | apply below_drew1 | refine below_set ?_ GE300.out) | exact HB.out)⟩⟩
    clear HC23
    try clear c1
    try clear c2
    try clear p2
    try clear c5
    try clear c10
    try clear c11
    try clear c12
    try clear c14
    try clear c14b0
    try clear c14b1
    try clear c14b2
    try clear c15
    try clear c15b0
    try clear c15b1
    try clear c16
    try clear c16b0
    try clear c16b1
    try clear c17
    try clear c24
    try clear c24b0
    try clear hcz11_0
    try clear hcz11_1
    try clear hcz11_2
    try clear hcz11_3
    try clear hcz17_0
    try clear hcz17_1
    try clear hcz17_2
    try clear hcz17_3
    try clear hcz20_0
    try clear hcz20_1
    try clear hcz20_2
    try clear hcz20_3
    try clear hcz8_0
    try clear hcz8_1
    try clear hcz8_2
    try clear hcz8_3
    try clear hfz11_0
    try clear hfz11_1
    try clear hfz11_2
    try clear hfz11_3
    try clear hfz17_0
    try clear hfz17_1
    try clear hfz17_2
    try clear hfz17_3
    try clear hfz20_0
    try clear hfz20_1
    try clear hfz20_2
    try clear hfz20_3
    try clear hfz8_0
    try clear hfz8_1
    try clear hfz8_2
    try clear hfz8_3
    try clear p2
    obtain ⟨kq, x45_22, rfl, HA, HJ22, HO_7, HO_8, BK300, HB⟩ := hcut
    rcases kq with _ | kj22
    · exact absurd HA.out (by simp [fettlelaw06_DomPaths.j2])
    have H := HA.out
    clear HA
    simp only [fettlelaw06_DomPaths.j2] at H
    by_cases c25 : x45_22 = true
    · subst c25
      have H1 : (if 0 ≤ x9_2 then (if x9_2 < (x8_2.length : Int) then (fettlelaw06_DomPaths.l1 kj22 l1 t301 t303 (x8_2.set (x9_2 : Int).toNat true) x9_2 x10_2 0 a0_0 a0_1 l0_2 l0_3) else (none)) else (none)) = some r := by rw [if_pos rfl] at H; exact H
      clear H
      have H := H1
      clear H1
      by_cases c26 : 0 ≤ x9_2
      rotate_left
      · rw [if_neg c26] at H
        exact absurd H (by simp)
      rw [if_pos c26] at H
      have c26b0 : decide (0 ≤ x9_2) = true := decide_eq_true c26
      clear c26
      by_cases c27 : x9_2 < (x8_2.length : Int)
      rotate_left
      · rw [if_neg c27] at H
        exact absurd H (by simp)
      rw [if_pos c27] at H
      have c27b0 : decide (x9_2 < (x8_2.length : Int)) = true := decide_eq_true c27
      clear c27
      obtain ⟨y309, hy309⟩ : ∃ y_ : List Bool, y_ = (x8_2.set (x9_2 : Int).toNat true) := ⟨_, rfl⟩
      replace H : (fettlelaw06_DomPaths.l1 kj22 l1 t301 t303 y309 x9_2 x10_2 0 a0_0 a0_1 l0_2 l0_3) = some r := by first | (rw [hy309]; with_reducible exact H) | (have H2_ := (Option.bind_some _ _).symm.trans H; rw [hy309]; with_reducible exact H2_) | exact H
      have Ny309 := Aside0.mk hy309
      clear hy309
      have H' := Aside0.mk H
      clear H
      have p28 : 0 ≤ (x9_2 : Int) := of_decide_eq_true (by with_reducible assumption)
      have q28 : (x9_2 : Int) < ((x8_2.length : Int) : Int) := of_decide_eq_true (by with_reducible assumption)
      obtain ⟨go28, co28, eo28, gb28, gl28, cl28, HG28⟩ := Kd.R_form HO_8.out (by omega)
      (first | cases eo28 | (injection eo28 with ea_ en_ ec_; (first | subst ea_ | (injection ea_ with ea_; subst ea_)); subst ec_; clear en_))
      have GB28 := Aside0.mk gb28
      have GG28 := Aside0.mk HG28
      clear gb28 gl28 HG28
      obtain ⟨hx28_0, hf28_0⟩ := Kd.R_celln false HO_8.out (x9_2 : Int) p28 q28
      replace p28 := eq_true p28
      replace q28 := eq_true q28
      have HP29 := Kd.R_putg HO_8.out (x9_2 : Int) true
      go_wp2_with (first | ((with_reducible refine gate_store (t := 4) (p := 50) rfl ?_); refine store_event (t := 4) (p := 50) (v := ?vo_w30) (w1 := (wc.setCell ⟨go28, (x9_2 : Int).toNat, none⟩ (.bool true))) ?hg ?ho ?hn ?hr ?_; (case ho => rfl); (case hg => rfl); (case hn => rfl); (case hr => first | (go_simp; done) | (go_simp; rfl)); intro w30 hw; have hg : wc.grownBy w30 (some go28) := (by rw [hw]; exact HP29.2); have hp_ : Kd.R Kd.bool 4 w30 w.heap.size (fun _ => True) (.slice (some ⟨go28, 0, none⟩) x8_2.length co28) y309 := (by rw [hw, Ny309.out]; exact HP29.1); clear HP29; have n0_ := Aside0.mk (Kd.S_after (v := (.slice (some ⟨go28, 0, none⟩) x8_2.length co28)) (v1 := (.slice (some ⟨go28, 0, none⟩) x8_2.length co28)) (ok := (fun _ => True)) (by (with_reducible repeat (first | apply S_alloc | apply S_drewN | apply S_drew)); exact S_mono HO_7.out (fun _ hk => ⟨trivial, hk⟩)) hg (.inl rfl)); have n1_ := Aside0.mk (hp_); have n2_ := Aside0.mk (blk_grown (g := gb300) (o := .cells #[.int .i64 a0_0, .int .i64 a0_1, .slice A0_2 l0_2.length c0_2, .slice A0_3 l0_3.length c0_3] 25 (0, 0)) (by (with_reducible repeat (first | refine blk_drewN ?_ _ | refine blk_drew ?_ | refine blk_alloc ?_ _)); exact BK300.out) hg (Kd.R_ne HO_8.out BK300.out (by decide))); have n3_ := Aside0.mk ((by rw [hw]; exact below_set (HB.out) GB28.out : Below w.heap.size w w30)); clear HO_7; clear HO_8; clear BK300; clear HB; have HO_7 := n0_; have HO_8 := n1_; have BK300 := n2_; have HB := n3_; clear n0_ n1_ n2_ n3_; clear hg hw hp_))
      go_loopg [11] kj22 (fun kq v11 w' => ∃ (x11_4 : Int), v11 = .int .i64 x11_4 ∧ Aside0 (fettlelaw06_DomPaths.l1 kq l1 t301 t303 y309 x9_2 x10_2 x11_4 a0_0 a0_1 l0_2 l0_3 = some r) ∧ Aside0 (kq ≤ kj22) ∧ Aside0 (Kd.S (Kd.slice 4 Kd.bool) 34 w' w.heap.size (fun k_ => some k_ ≠ ((.slice (some ⟨go28, 0, none⟩) x8_2.length co28) : Value).ownBlock) (.slice Ao19 t303.length co19) t303) ∧ Aside0 (Kd.R Kd.bool 4 w' w.heap.size (fun _ => True) (.slice (some ⟨go28, 0, none⟩) x8_2.length co28) y309) ∧ Aside0 (w'.heap[gb300]? = some (.cells #[.int .i64 a0_0, .int .i64 a0_1, (.slice A0_2 l0_2.length c0_2), (.slice A0_3 l0_3.length c0_3)] 25 (0, 0))) ∧ Aside0 (Below w.heap.size w w'))
      case atStart => exact ⟨(0), (by first | rfl | (simp; done) | (simp [*]; done)), H', ⟨Nat.le_refl _⟩, ⟨by (with_reducible repeat (first | apply S_alloc | apply S_drewN | apply S_drew)); exact S_mono HO_7.out (fun _ hk => hk.2)⟩, ⟨by (with_reducible repeat (first | apply R_alloc | apply R_drewN | apply R_drew)); exact HO_8.out⟩, ⟨by (with_reducible repeat (first | refine blk_drewN ?_ _ | refine blk_drew ?_ | refine blk_alloc ?_ _)); exact BK300.out⟩, ⟨by repeat (first | (with_reducible first | exact HB.out | apply below_alloc | apply pw_below_drewN | apply below_drew1 | refine below_set ?_ GE300.out) | exact HB.out)⟩⟩
      clear H'
      try clear c1
      try clear c2
      try clear p2
      try clear q2
      try clear hx2
      try clear hf2
      try clear c5
      try clear c10
      try clear c11
      try clear c12
      try clear c14
      try clear c14b0
      try clear c14b1
      try clear c14b2
      try clear c15
      try clear c15b0
      try clear c15b1
      try clear c16
      try clear c16b0
      try clear c16b1
      try clear c17
      try clear c24
      try clear c24b0
      try clear c25
      try clear c26
      try clear c26b0
      try clear c27
      try clear c27b0
      try clear p28
      try clear q28
      try clear hx28
      try clear hf28
      try clear hcz11_0
      try clear hcz11_1
      try clear hcz11_2
      try clear hcz11_3
      try clear hcz17_0
      try clear hcz17_1
      try clear hcz17_2
      try clear hcz17_3
      try clear hcz20_0
      try clear hcz20_1
      try clear hcz20_2
      try clear hcz20_3
      try clear hcz8_0
      try clear hcz8_1
      try clear hcz8_2
      try clear hcz8_3
      try clear hfz11_0
      try clear hfz11_1
      try clear hfz11_2
      try clear hfz11_3
      try clear hfz17_0
      try clear hfz17_1
      try clear hfz17_2
      try clear hfz17_3
      try clear hfz20_0
      try clear hfz20_1
      try clear hfz20_2
      try clear hfz20_3
      try clear hfz8_0
      try clear hfz8_1
      try clear hfz8_2
      try clear hfz8_3
      try clear hx28_0
      try clear p2
      try clear p28
      try clear q28
      obtain ⟨x11_4, rfl, HA, HK4, HO_7, HO_8, BK300, HB⟩ := hrel
      have hl8_4 := (R_reads' HO_8.out).1
      rw [hl8_4] at HO_8
      (try simp only [hl8_4])
      (try simp only [hl8_4] at BK300)
      (try simp only [hl8_4] at HO_7)
      rcases gk with _ | k4
      · exact absurd HA.out (by simp [fettlelaw06_DomPaths.l1])
      have H := HA.out
      clear HA
      simp only [fettlelaw06_DomPaths.l1] at H
      by_cases c31 : x11_4 < (t303.length : Int)
      · rw [if_pos c31] at H
        have c31b0 : decide (x11_4 < (t303.length : Int)) = true := decide_eq_true c31
        have c31b0l := c31b0
        (try simp only [hl8_4] at c31b0l)
        clear c31
        by_cases c32 : 0 ≤ x11_4
        rotate_left
        · rw [if_neg c32] at H
          exact absurd H (by simp)
        rw [if_pos c32] at H
        have c32b0 : decide (0 ≤ x11_4) = true := decide_eq_true c32
        clear c32
        by_cases c33 : ((rd_L11 t303 x11_4).length : Int) = (t303.length : Int)
        · rw [if_pos c33] at H
          have c33b0 : (((rd_L11 t303 x11_4).length : Int) == (t303.length : Int)) = true := beq_iff_eq.mpr c33
          have c33b1 : (((rd_L11 t303 x11_4).length : Int) != (t303.length : Int)) = false := bne_eq_false_iff_eq.mpr c33
          have c33b2 : ((rd_L11 t303 x11_4).length == t303.length) = true := by first | simpa using c33 | (simp at c33 ⊢; omega)
          clear c33
          by_cases c34 : 0 ≤ x9_2
          rotate_left
          · rw [if_neg c34] at H
            exact absurd H (by simp)
          rw [if_pos c34] at H
          have c34b0 : decide (0 ≤ x9_2) = true := decide_eq_true c34
          clear c34
          by_cases c35 : x9_2 < ((rd_L11 t303 x11_4).length : Int)
          rotate_left
          · rw [if_neg c35] at H
            exact absurd H (by simp)
          rw [if_pos c35] at H
          have c35b0 : decide (x9_2 < ((rd_L11 t303 x11_4).length : Int)) = true := decide_eq_true c35
          have c35b0l := c35b0
          (try simp only [hl8_4] at c35b0l)
          clear c35
          obtain ⟨bq36, hbq36⟩ : ∃ b_ : Bool, b_ = (rdOf false (rd_L11 t303 x11_4) x9_2) := ⟨_, rfl⟩
          replace H : (if bq36 = true then (if x11_4 < (y309.length : Int) then (if rdOf false y309 x11_4 = true then (fettlelaw06_DomPaths.l1 k4 l1 t301 t303 y309 x9_2 x10_2 (wrap64 (x11_4 + 1)) a0_0 a0_1 l0_2 l0_3) else (some false)) else (none)) else (fettlelaw06_DomPaths.l1 k4 l1 t301 t303 y309 x9_2 x10_2 (wrap64 (x11_4 + 1)) a0_0 a0_1 l0_2 l0_3)) = some r := by rw [← hbq36] at H; exact H
          have Nbq36 := Aside0.mk hbq36
          clear hbq36
          by_cases c37 : bq36 = true
          · subst c37
            have H1 : (if x11_4 < (y309.length : Int) then (if rdOf false y309 x11_4 = true then (fettlelaw06_DomPaths.l1 k4 l1 t301 t303 y309 x9_2 x10_2 (wrap64 (x11_4 + 1)) a0_0 a0_1 l0_2 l0_3) else (some false)) else (none)) = some r := by rw [if_pos rfl] at H; exact H
            clear H
            have H := H1
            clear H1
            by_cases c38 : x11_4 < (y309.length : Int)
            rotate_left
            · rw [if_neg c38] at H
              exact absurd H (by simp)
            rw [if_pos c38] at H
            have c38b0 : decide (x11_4 < (y309.length : Int)) = true := decide_eq_true c38
            have c38b0l := c38b0
            (try simp only [hl8_4] at c38b0l)
            clear c38
            obtain ⟨bq39, hbq39⟩ : ∃ b_ : Bool, b_ = (rdOf false y309 x11_4) := ⟨_, rfl⟩
            replace H : (if bq39 = true then (fettlelaw06_DomPaths.l1 k4 l1 t301 t303 y309 x9_2 x10_2 (wrap64 (x11_4 + 1)) a0_0 a0_1 l0_2 l0_3) else (some false)) = some r := by rw [← hbq39] at H; exact H
            have Nbq39 := Aside0.mk hbq39
            clear hbq39
            by_cases c40 : bq39 = true
            · subst c40
              have H1 : (fettlelaw06_DomPaths.l1 k4 l1 t301 t303 y309 x9_2 x10_2 (wrap64 (x11_4 + 1)) a0_0 a0_1 l0_2 l0_3) = some r := by rw [if_pos rfl] at H; exact H
              clear H
              have H := H1
              clear H1
              have H' := Aside0.mk H
              clear H
              have p310 : 0 ≤ (x11_4 : Int) := of_decide_eq_true (by with_reducible assumption)
              have q310 : x11_4 < (t303.length : Int) := of_decide_eq_true (by with_reducible assumption)
              obtain ⟨ad310, A310_0, c310_0, e310, hx310_0, hl310_0, hi310_0⟩ := at_L11 (S_reads' HO_7.out).2.2 x11_4 p310 q310
              cases e310
              obtain ⟨ce310, hce310, hMe310, hcc310⟩ := S_get HO_7.out [] x11_4 p310 (by first | exact q310 | exact of_decide_eq_true (by with_reducible assumption) | (have e_ := (S_reads' HO_7.out).1; omega))
              obtain ⟨ve310_0, rfl, ge310_0⟩ := hMe310
              have hv310_0 := hcc310 0 _ rfl
              rw [Nat.add_zero, show ((Kd.slice 4 Kd.bool)).sz = 1 from rfl, Nat.mul_one] at hv310_0
              replace hv310_0 := Option.some.inj (hv310_0.symm.trans hx310_0)
              rw [hv310_0] at ge310_0
              have HL310_0 := Aside0.mk (show Kd.R Kd.bool 4 _ _ _ _ (rd_L11 t303 x11_4) from ge310_0)
              clear hv310_0 ge310_0
              clear hcc310 hce310
              have HR310_0 := Aside0.mk hi310_0
              have HC310_0 := Aside0.mk hl310_0
              clear hi310_0 hl310_0
              replace p310 := eq_true p310
              replace q310 := eq_true q310
              have p311 : 0 ≤ (x11_4 : Int) := of_decide_eq_true (by with_reducible assumption)
              have q311 : x11_4 < (t303.length : Int) := of_decide_eq_true (by with_reducible assumption)
              obtain ⟨ad311, A311_0, c311_0, e311, hx311_0, hl311_0, hi311_0⟩ := at_L11 (S_reads' HO_7.out).2.2 x11_4 p311 q311
              obtain rfl : ad310 = ad311 := (by injection e311)
              obtain ⟨ce311, hce311, hMe311, hcc311⟩ := S_get HO_7.out [] x11_4 p311 (by first | exact q311 | exact of_decide_eq_true (by with_reducible assumption) | (have e_ := (S_reads' HO_7.out).1; omega))
              obtain ⟨ve311_0, rfl, ge311_0⟩ := hMe311
              have hv311_0 := hcc311 0 _ rfl
              rw [Nat.add_zero, show ((Kd.slice 4 Kd.bool)).sz = 1 from rfl, Nat.mul_one] at hv311_0
              replace hv311_0 := Option.some.inj (hv311_0.symm.trans hx311_0)
              rw [hv311_0] at ge311_0
              have HL311_0 := Aside0.mk (show Kd.R Kd.bool 4 _ _ _ _ (rd_L11 t303 x11_4) from ge311_0)
              clear hv311_0 ge311_0
              clear hcc311 hce311
              have HR311_0 := Aside0.mk hi311_0
              have HC311_0 := Aside0.mk hl311_0
              clear hi311_0 hl311_0
              replace p311 := eq_true p311
              replace q311 := eq_true q311
              have ea_ := Option.some.inj (hx310_0.symm.trans hx311_0)
              injection ea_ with ea_ en_ ec_
              subst ea_
              subst ec_
              clear en_
              have p312 : 0 ≤ (x9_2 : Int) := of_decide_eq_true (by with_reducible assumption)
              have q312 : x9_2 < ((rd_L11 t303 x11_4).length : Int) := of_decide_eq_true (by with_reducible assumption)
              obtain ⟨ad312, e312, hx312_0⟩ := Kd.at_bool (by repeat with_reducible first | exact HR311_0.out | refine C_alloc ?_ _ | refine C_drewN ?_ _ | refine C_drew ?_) x9_2 p312 q312
              (try rw [← Nbq36.out] at hx312_0)
              (try rw [← Nbq39.out] at hx312_0)
              cases e312
              replace p312 := eq_true p312
              replace q312 := eq_true q312
              have p313 : 0 ≤ (x11_4 : Int) := of_decide_eq_true (by with_reducible assumption)
              have q313 : x11_4 < (y309.length : Int) := of_decide_eq_true (by with_reducible assumption)
              obtain ⟨ad313, e313, hx313_0⟩ := Kd.at_bool (R_reads' HO_8.out).2.2 x11_4 p313 q313
              (try rw [← Nbq36.out] at hx313_0)
              (try rw [← Nbq39.out] at hx313_0)
              obtain rfl : (⟨go28, 0, none⟩ : Addr) = ad313 := (by injection e313)
              (first | simp only [add_plain] at hx313_0 | simp only [add_at] at hx313_0 | simp only [Addr.add, Nat.zero_add] at hx313_0 | skip)
              replace p313 := eq_true p313
              replace q313 := eq_true q313
              go_wp2
              (try simp only [← hl8_4])
              go_roundg k4
              case measure => have := HJ4.out; have := HK2.out; have := HJ22.out; have := HK4.out; omega
              case rel => exact ⟨(wrap64 (x11_4 + 1)), (by first | rfl | (simp; done) | (simp [*]; done)), H', ⟨by have := HJ4.out; have := HK2.out; have := HJ22.out; have := HK4.out; omega⟩, ⟨by (try simp only [hl8_4]); (with_reducible repeat (first | apply S_alloc | apply S_drewN | apply S_drew)); exact HO_7.out⟩, ⟨by (try simp only [hl8_4]); (with_reducible repeat (first | apply R_alloc | apply R_drewN | apply R_drew)); exact HO_8.out⟩, ⟨by (try simp only [hl8_4]); (with_reducible repeat (first | refine blk_drewN ?_ _ | refine blk_drew ?_ | refine blk_alloc ?_ _)); exact BK300.out⟩, ⟨by repeat (first | (with_reducible first | exact HB.out | apply below_alloc | apply pw_below_drewN | apply below_drew1 | refine below_set ?_ GE300.out) | exact HB.out)⟩⟩
            replace c40 := Bool.eq_false_iff.mpr c40
            subst c40
            have H1 : (some false) = some r := by rw [if_neg (show ¬ (false = true) by decide)] at H; exact H
            clear H
            have H := H1
            clear H1
            obtain rfl := Option.some.inj H
            have p310 : 0 ≤ (x11_4 : Int) := of_decide_eq_true (by with_reducible assumption)
            have q310 : x11_4 < (t303.length : Int) := of_decide_eq_true (by with_reducible assumption)
            obtain ⟨ad310, A310_0, c310_0, e310, hx310_0, hl310_0, hi310_0⟩ := at_L11 (S_reads' HO_7.out).2.2 x11_4 p310 q310
            cases e310
            obtain ⟨ce310, hce310, hMe310, hcc310⟩ := S_get HO_7.out [] x11_4 p310 (by first | exact q310 | exact of_decide_eq_true (by with_reducible assumption) | (have e_ := (S_reads' HO_7.out).1; omega))
            obtain ⟨ve310_0, rfl, ge310_0⟩ := hMe310
            have hv310_0 := hcc310 0 _ rfl
            rw [Nat.add_zero, show ((Kd.slice 4 Kd.bool)).sz = 1 from rfl, Nat.mul_one] at hv310_0
            replace hv310_0 := Option.some.inj (hv310_0.symm.trans hx310_0)
            rw [hv310_0] at ge310_0
            have HL310_0 := Aside0.mk (show Kd.R Kd.bool 4 _ _ _ _ (rd_L11 t303 x11_4) from ge310_0)
            clear hv310_0 ge310_0
            clear hcc310 hce310
            have HR310_0 := Aside0.mk hi310_0
            have HC310_0 := Aside0.mk hl310_0
            clear hi310_0 hl310_0
            replace p310 := eq_true p310
            replace q310 := eq_true q310
            have p311 : 0 ≤ (x11_4 : Int) := of_decide_eq_true (by with_reducible assumption)
            have q311 : x11_4 < (t303.length : Int) := of_decide_eq_true (by with_reducible assumption)
            obtain ⟨ad311, A311_0, c311_0, e311, hx311_0, hl311_0, hi311_0⟩ := at_L11 (S_reads' HO_7.out).2.2 x11_4 p311 q311
            obtain rfl : ad310 = ad311 := (by injection e311)
            obtain ⟨ce311, hce311, hMe311, hcc311⟩ := S_get HO_7.out [] x11_4 p311 (by first | exact q311 | exact of_decide_eq_true (by with_reducible assumption) | (have e_ := (S_reads' HO_7.out).1; omega))
            obtain ⟨ve311_0, rfl, ge311_0⟩ := hMe311
            have hv311_0 := hcc311 0 _ rfl
            rw [Nat.add_zero, show ((Kd.slice 4 Kd.bool)).sz = 1 from rfl, Nat.mul_one] at hv311_0
            replace hv311_0 := Option.some.inj (hv311_0.symm.trans hx311_0)
            rw [hv311_0] at ge311_0
            have HL311_0 := Aside0.mk (show Kd.R Kd.bool 4 _ _ _ _ (rd_L11 t303 x11_4) from ge311_0)
            clear hv311_0 ge311_0
            clear hcc311 hce311
            have HR311_0 := Aside0.mk hi311_0
            have HC311_0 := Aside0.mk hl311_0
            clear hi311_0 hl311_0
            replace p311 := eq_true p311
            replace q311 := eq_true q311
            have ea_ := Option.some.inj (hx310_0.symm.trans hx311_0)
            injection ea_ with ea_ en_ ec_
            subst ea_
            subst ec_
            clear en_
            have p312 : 0 ≤ (x9_2 : Int) := of_decide_eq_true (by with_reducible assumption)
            have q312 : x9_2 < ((rd_L11 t303 x11_4).length : Int) := of_decide_eq_true (by with_reducible assumption)
            obtain ⟨ad312, e312, hx312_0⟩ := Kd.at_bool (by repeat with_reducible first | exact HR311_0.out | refine C_alloc ?_ _ | refine C_drewN ?_ _ | refine C_drew ?_) x9_2 p312 q312
            (try rw [← Nbq36.out] at hx312_0)
            (try rw [← Nbq39.out] at hx312_0)
            cases e312
            replace p312 := eq_true p312
            replace q312 := eq_true q312
            have p313 : 0 ≤ (x11_4 : Int) := of_decide_eq_true (by with_reducible assumption)
            have q313 : x11_4 < (y309.length : Int) := of_decide_eq_true (by with_reducible assumption)
            obtain ⟨ad313, e313, hx313_0⟩ := Kd.at_bool (R_reads' HO_8.out).2.2 x11_4 p313 q313
            (try rw [← Nbq36.out] at hx313_0)
            (try rw [← Nbq39.out] at hx313_0)
            obtain rfl : (⟨go28, 0, none⟩ : Addr) = ad313 := (by injection e313)
            (first | simp only [add_plain] at hx313_0 | simp only [add_at] at hx313_0 | simp only [Addr.add, Nat.zero_add] at hx313_0 | skip)
            replace p313 := eq_true p313
            replace q313 := eq_true q313
            go_wp2
            go_ret
            exact ⟨by first | rfl | (simp [errW_none, errW_some] <;> rfl) | (simp [*, errW_none, errW_some] <;> rfl), by repeat (first | (with_reducible first | exact HB.out | apply below_alloc | apply pw_below_drewN | apply below_drew1 | refine below_set ?_ GE300.out) | exact HB.out)⟩
          replace c37 := Bool.eq_false_iff.mpr c37
          subst c37
          have H1 : (fettlelaw06_DomPaths.l1 k4 l1 t301 t303 y309 x9_2 x10_2 (wrap64 (x11_4 + 1)) a0_0 a0_1 l0_2 l0_3) = some r := by rw [if_neg (show ¬ (false = true) by decide)] at H; exact H
          clear H
          have H := H1
          clear H1
          have H' := Aside0.mk H
          clear H
          have p310 : 0 ≤ (x11_4 : Int) := of_decide_eq_true (by with_reducible assumption)
          have q310 : x11_4 < (t303.length : Int) := of_decide_eq_true (by with_reducible assumption)
          obtain ⟨ad310, A310_0, c310_0, e310, hx310_0, hl310_0, hi310_0⟩ := at_L11 (S_reads' HO_7.out).2.2 x11_4 p310 q310
          cases e310
          obtain ⟨ce310, hce310, hMe310, hcc310⟩ := S_get HO_7.out [] x11_4 p310 (by first | exact q310 | exact of_decide_eq_true (by with_reducible assumption) | (have e_ := (S_reads' HO_7.out).1; omega))
          obtain ⟨ve310_0, rfl, ge310_0⟩ := hMe310
          have hv310_0 := hcc310 0 _ rfl
          rw [Nat.add_zero, show ((Kd.slice 4 Kd.bool)).sz = 1 from rfl, Nat.mul_one] at hv310_0
          replace hv310_0 := Option.some.inj (hv310_0.symm.trans hx310_0)
          rw [hv310_0] at ge310_0
          have HL310_0 := Aside0.mk (show Kd.R Kd.bool 4 _ _ _ _ (rd_L11 t303 x11_4) from ge310_0)
          clear hv310_0 ge310_0
          clear hcc310 hce310
          have HR310_0 := Aside0.mk hi310_0
          have HC310_0 := Aside0.mk hl310_0
          clear hi310_0 hl310_0
          replace p310 := eq_true p310
          replace q310 := eq_true q310
          have p311 : 0 ≤ (x11_4 : Int) := of_decide_eq_true (by with_reducible assumption)
          have q311 : x11_4 < (t303.length : Int) := of_decide_eq_true (by with_reducible assumption)
          obtain ⟨ad311, A311_0, c311_0, e311, hx311_0, hl311_0, hi311_0⟩ := at_L11 (S_reads' HO_7.out).2.2 x11_4 p311 q311
          obtain rfl : ad310 = ad311 := (by injection e311)
          obtain ⟨ce311, hce311, hMe311, hcc311⟩ := S_get HO_7.out [] x11_4 p311 (by first | exact q311 | exact of_decide_eq_true (by with_reducible assumption) | (have e_ := (S_reads' HO_7.out).1; omega))
          obtain ⟨ve311_0, rfl, ge311_0⟩ := hMe311
          have hv311_0 := hcc311 0 _ rfl
          rw [Nat.add_zero, show ((Kd.slice 4 Kd.bool)).sz = 1 from rfl, Nat.mul_one] at hv311_0
          replace hv311_0 := Option.some.inj (hv311_0.symm.trans hx311_0)
          rw [hv311_0] at ge311_0
          have HL311_0 := Aside0.mk (show Kd.R Kd.bool 4 _ _ _ _ (rd_L11 t303 x11_4) from ge311_0)
          clear hv311_0 ge311_0
          clear hcc311 hce311
          have HR311_0 := Aside0.mk hi311_0
          have HC311_0 := Aside0.mk hl311_0
          clear hi311_0 hl311_0
          replace p311 := eq_true p311
          replace q311 := eq_true q311
          have ea_ := Option.some.inj (hx310_0.symm.trans hx311_0)
          injection ea_ with ea_ en_ ec_
          subst ea_
          subst ec_
          clear en_
          have p312 : 0 ≤ (x9_2 : Int) := of_decide_eq_true (by with_reducible assumption)
          have q312 : x9_2 < ((rd_L11 t303 x11_4).length : Int) := of_decide_eq_true (by with_reducible assumption)
          obtain ⟨ad312, e312, hx312_0⟩ := Kd.at_bool (by repeat with_reducible first | exact HR311_0.out | refine C_alloc ?_ _ | refine C_drewN ?_ _ | refine C_drew ?_) x9_2 p312 q312
          (try rw [← Nbq36.out] at hx312_0)
          cases e312
          replace p312 := eq_true p312
          replace q312 := eq_true q312
          go_wp2
          (try simp only [← hl8_4])
          go_roundg k4
          case measure => have := HJ4.out; have := HK2.out; have := HJ22.out; have := HK4.out; omega
          case rel => exact ⟨(wrap64 (x11_4 + 1)), (by first | rfl | (simp; done) | (simp [*]; done)), H', ⟨by have := HJ4.out; have := HK2.out; have := HJ22.out; have := HK4.out; omega⟩, ⟨by (try simp only [hl8_4]); (with_reducible repeat (first | apply S_alloc | apply S_drewN | apply S_drew)); exact HO_7.out⟩, ⟨by (try simp only [hl8_4]); (with_reducible repeat (first | apply R_alloc | apply R_drewN | apply R_drew)); exact HO_8.out⟩, ⟨by (try simp only [hl8_4]); (with_reducible repeat (first | refine blk_drewN ?_ _ | refine blk_drew ?_ | refine blk_alloc ?_ _)); exact BK300.out⟩, ⟨by repeat (first | (with_reducible first | exact HB.out | apply below_alloc | apply pw_below_drewN | apply below_drew1 | refine below_set ?_ GE300.out) | exact HB.out)⟩⟩
        rw [if_neg c33] at H
        have c33b0 : (((rd_L11 t303 x11_4).length : Int) == (t303.length : Int)) = false := beq_eq_false_iff_ne.mpr c33
        have c33b1 : (((rd_L11 t303 x11_4).length : Int) != (t303.length : Int)) = true := bne_iff_ne.mpr c33
        have c33b2 : ((rd_L11 t303 x11_4).length == t303.length) = false := by first | simpa using c33 | (simp at c33 ⊢; omega)
        obtain rfl := Option.some.inj H
        have p310 : 0 ≤ (x11_4 : Int) := of_decide_eq_true (by with_reducible assumption)
        have q310 : x11_4 < (t303.length : Int) := of_decide_eq_true (by with_reducible assumption)
        obtain ⟨ad310, A310_0, c310_0, e310, hx310_0, hl310_0, hi310_0⟩ := at_L11 (S_reads' HO_7.out).2.2 x11_4 p310 q310
        cases e310
        obtain ⟨ce310, hce310, hMe310, hcc310⟩ := S_get HO_7.out [] x11_4 p310 (by first | exact q310 | exact of_decide_eq_true (by with_reducible assumption) | (have e_ := (S_reads' HO_7.out).1; omega))
        obtain ⟨ve310_0, rfl, ge310_0⟩ := hMe310
        have hv310_0 := hcc310 0 _ rfl
        rw [Nat.add_zero, show ((Kd.slice 4 Kd.bool)).sz = 1 from rfl, Nat.mul_one] at hv310_0
        replace hv310_0 := Option.some.inj (hv310_0.symm.trans hx310_0)
        rw [hv310_0] at ge310_0
        have HL310_0 := Aside0.mk (show Kd.R Kd.bool 4 _ _ _ _ (rd_L11 t303 x11_4) from ge310_0)
        clear hv310_0 ge310_0
        clear hcc310 hce310
        have HR310_0 := Aside0.mk hi310_0
        have HC310_0 := Aside0.mk hl310_0
        clear hi310_0 hl310_0
        replace p310 := eq_true p310
        replace q310 := eq_true q310
        go_wp2
        go_ret
        exact ⟨by first | rfl | (simp [errW_none, errW_some] <;> rfl) | (simp [*, errW_none, errW_some] <;> rfl), by repeat (first | (with_reducible first | exact HB.out | apply below_alloc | apply pw_below_drewN | apply below_drew1 | refine below_set ?_ GE300.out) | exact HB.out)⟩
      rw [if_neg c31] at H
      have c31b0 : decide (x11_4 < (t303.length : Int)) = false := decide_eq_false c31
      (try simp only [hl8_4] at c31b0)
      clear c31
      replace H := Option.bind_eq_some_iff.mp H
      obtain ⟨t314, A410, H⟩ := H
      replace H : (if (t314.length : Int) = 0 then (fettlelaw06_DomPaths.j4 k4 l1 t301 t303 y309 x10_2 t314 true a0_0 a0_1 l0_2 l0_3) else (fettlelaw06_DomPaths.j4 k4 l1 t301 t303 y309 x10_2 t314 (decide (x10_2 ≥ (l1.length : Int))) a0_0 a0_1 l0_2 l0_3)) = some r := H
      have A41 := Aside0.mk A410
      clear A410
      have HC42 := Aside0.mk H
      clear H
      have hcz43_0 : wr.cell? ⟨gb300, 0, none⟩ = some (.int .i64 a0_0) := (blk_cell BK300.out 0).trans rfl
      have hcz43_1 : wr.cell? ⟨gb300, 1, none⟩ = some (.int .i64 a0_1) := (blk_cell BK300.out 1).trans rfl
      have hcz43_2 : wr.cell? ⟨gb300, 2, none⟩ = some (.slice A0_2 l0_2.length c0_2) := (blk_cell BK300.out 2).trans rfl
      have hcz43_3 : wr.cell? ⟨gb300, 3, none⟩ = some (.slice A0_3 l0_3.length c0_3) := (blk_cell BK300.out 3).trans rfl
      have hfz43_0 := blk_frozen BK300.out 0
      have hfz43_1 := blk_frozen BK300.out 1
      have hfz43_2 := blk_frozen BK300.out 2
      have hfz43_3 := blk_frozen BK300.out 3
      go_upto_region 20 with (first | ((with_reducible refine gate_callee (f := 19) rfl ?_); refine goesL_ (some 83) rfl rfl Try.func19 (by kernel_rfl) rfl #[.agg #[.int .i64 a0_0, .int .i64 a0_1, .slice A0_2 l0_2.length c0_2, .slice A0_3 l0_3.length c0_3], .int .i64 x9_2] rfl (by (try simp only [List.map_toArray, List.map_cons, List.map_nil]); first | done | rfl) ?_; (with_reducible refine (fettleref05_Next.calls k4 a0_0 a0_1 _ _ l0_2 _ _ l0_3 x9_2 t314 _ ?side1 ?side2 ?side3 ?side4 A41.out).mono ?_); (case side1 => repeat (first | exact (C_below HR0_2.out HB.out) | (with_reducible refine C_alloc ?_ _) | (with_reducible refine C_drewN ?_ _) | (with_reducible refine C_drew ?_))); (case side2 => exact HC0_2.out); (case side3 => repeat (first | exact (C_below HR0_3.out HB.out) | (with_reducible refine C_alloc ?_ _) | (with_reducible refine C_drewN ?_ _) | (with_reducible refine C_drew ?_))); (case side4 => exact HC0_3.out); rintro e w44 ⟨v315, rfl, ho0, hb⟩; refine ⟨_, rfl, ?_⟩; have n0_ := Aside0.mk (Kd.S_below (by (with_reducible repeat (first | apply S_alloc | apply S_drewN | apply S_drew)); exact HO_7.out) hb); have n1_ := Aside0.mk (Kd.R_below (by (with_reducible repeat (first | apply R_alloc | apply R_drewN | apply R_drew)); exact HO_8.out) hb); have n2_ := Aside0.mk (Kd.R_lower ho0 (below_size (by repeat with_reducible first | exact HB.out | apply below_alloc | apply pw_below_drewN | apply below_drew1 | refine below_set ?_ GE300.out))); have n3_ := Aside0.mk (blk_below (g := gb300) (o := .cells #[.int .i64 a0_0, .int .i64 a0_1, .slice A0_2 l0_2.length c0_2, .slice A0_3 l0_3.length c0_3] 25 (0, 0)) (by (with_reducible repeat (first | refine blk_drewN ?_ _ | refine blk_drew ?_ | refine blk_alloc ?_ _)); exact BK300.out) hb); have n4_ := Aside0.mk (below_step (by repeat with_reducible first | exact HB.out | apply below_alloc | apply pw_below_drewN | apply below_drew1 | refine below_set ?_ GE300.out) hb); clear HO_7; clear HO_8; clear BK300; clear HB; have HO_7 := n0_; have HO_8 := n1_; have HO316 := n2_; have BK300 := n3_; have HB := n4_; clear n0_ n1_ n2_ n3_ n4_; (try clear hb); (try clear hb2); (try clear hk); (try clear hi); (try clear ho0)))
      (try simp only [Act.put, List.setIfInBounds_toArray, List.set_cons_zero, List.set_cons_succ])
      go_cut [92] (fun v92 wc => ∃ (kq : Nat) (x92_41 : Bool), v92 = .bool x92_41 ∧ Aside0 (fettlelaw06_DomPaths.j4 kq l1 t301 t303 y309 x10_2 t314 x92_41 a0_0 a0_1 l0_2 l0_3 = some r) ∧ Aside0 (kq ≤ k4) ∧ Aside0 (Kd.S (Kd.slice 4 Kd.bool) 34 wc w.heap.size (fun k_ => some k_ ≠ ((.slice (some ⟨go28, 0, none⟩) y309.length co28) : Value).ownBlock) (.slice Ao19 t303.length co19) t303) ∧ Aside0 (Kd.R Kd.bool 4 wc w.heap.size (fun _ => True) (.slice (some ⟨go28, 0, none⟩) y309.length co28) y309) ∧ Aside0 (Kd.R (Kd.int .i64) 3 wc w.heap.size (fun _ => True) v315 t314) ∧ Aside0 (wc.heap[gb300]? = some (.cells #[.int .i64 a0_0, .int .i64 a0_1, (.slice A0_2 l0_2.length c0_2), (.slice A0_3 l0_3.length c0_3)] 25 (0, 0))) ∧ Aside0 (Below w.heap.size w wc))
      case first =>
        have H := HC42.out
        clear HC42
        by_cases c45 : (t314.length : Int) = 0
        · rw [if_pos c45] at H
          have c45b0 : ((t314.length : Int) == 0) = true := beq_iff_eq.mpr c45
          have c45b1 : ((t314.length : Int) != 0) = false := bne_eq_false_iff_eq.mpr c45
          clear c45
          (first | rw [c45b0] | (simp only [i64_w, i32_w]; rw [c45b0]) | skip)
          have H' := Aside0.mk H
          clear H
          obtain ⟨Ao46, co46, eo46⟩ := Kd.R_slice HO316.out
          subst eo46
          go_wp2
          go_meet
          case rel => exact ⟨_, (true), (by first | rfl | (simp; done) | (simp [*]; done)), H', ⟨by have := HJ4.out; have := HK2.out; have := HJ22.out; have := HK4.out; first | omega | exact Nat.le_refl _⟩, ⟨by (try simp only [hl8_4]); (with_reducible repeat (first | apply S_alloc | apply S_drewN | apply S_drew)); exact HO_7.out⟩, ⟨by (try simp only [hl8_4]); (with_reducible repeat (first | apply R_alloc | apply R_drewN | apply R_drew)); exact HO_8.out⟩, ⟨by (try simp only [hl8_4]); (with_reducible repeat (first | apply R_alloc | apply R_drewN | apply R_drew)); exact HO316.out⟩, ⟨by (try simp only [hl8_4]); (with_reducible repeat (first | refine blk_drewN ?_ _ | refine blk_drew ?_ | refine blk_alloc ?_ _)); exact BK300.out⟩, ⟨by repeat (first | (with_reducible first | exact HB.out | apply below_alloc | apply pw_below_drewN | apply below_drew1 | refine below_set ?_ GE300.out) | exact HB.out)⟩⟩
        rw [if_neg c45] at H
        have c45b0 : ((t314.length : Int) == 0) = false := beq_eq_false_iff_ne.mpr c45
        have c45b1 : ((t314.length : Int) != 0) = true := bne_iff_ne.mpr c45
        have c45b2 : ¬ (t314 = []) := fun h_ => c45 (by rw [h_]; rfl)
        (first | rw [c45b0] | (simp only [i64_w, i32_w]; rw [c45b0]) | skip)
        have H' := Aside0.mk H
        clear H
        obtain ⟨Ao47, co47, eo47⟩ := Kd.R_slice HO316.out
        subst eo47
        go_wp2
        go_meet
        case rel => exact ⟨_, (decide (x10_2 ≥ (l1.length : Int))), (by first | rfl | (simp; done) | (simp [*]; done)), H', ⟨by have := HJ4.out; have := HK2.out; have := HJ22.out; have := HK4.out; first | omega | exact Nat.le_refl _⟩, ⟨by (try simp only [hl8_4]); (with_reducible repeat (first | apply S_alloc | apply S_drewN | apply S_drew)); exact HO_7.out⟩, ⟨by (try simp only [hl8_4]); (with_reducible repeat (first | apply R_alloc | apply R_drewN | apply R_drew)); exact HO_8.out⟩, ⟨by (try simp only [hl8_4]); (with_reducible repeat (first | apply R_alloc | apply R_drewN | apply R_drew)); exact HO316.out⟩, ⟨by (try simp only [hl8_4]); (with_reducible repeat (first | refine blk_drewN ?_ _ | refine blk_drew ?_ | refine blk_alloc ?_ _)); exact BK300.out⟩, ⟨by repeat (first | (with_reducible first | exact HB.out | apply below_alloc | apply pw_below_drewN | apply below_drew1 | refine below_set ?_ GE300.out) | exact HB.out)⟩⟩
      clear HC42
      try clear c1
      try clear c2
      try clear p2
      try clear q2
      try clear hx2
      try clear hf2
      try clear c3
      try clear p3
      try clear q3
      try clear hx3
      try clear c4
      try clear c5
      try clear p6
      try clear c10
      try clear c11
      try clear c12
      try clear c14
      try clear c14b0
      try clear c14b1
      try clear c14b2
      try clear c15
      try clear c15b0
      try clear c15b1
      try clear c16
      try clear c16b0
      try clear c16b1
      try clear c17
      try clear c19
      try clear c24
      try clear c24b0
      try clear c25
      try clear c26
      try clear c26b0
      try clear c27
      try clear c27b0
      try clear p28
      try clear q28
      try clear hx28
      try clear hf28
      try clear c31
      try clear c31b0
      try clear p31
      try clear q31
      try clear hx31
      try clear c32
      try clear c32b0
      try clear c33
      try clear c33b0
      try clear c33b1
      try clear c33b2
      try clear c34
      try clear c34b0
      try clear c35
      try clear c35b0
      try clear q36
      try clear c37
      try clear c38
      try clear c38b0
      try clear q39
      try clear c40
      try clear c45
      try clear c45b0
      try clear c45b1
      try clear c45b2
      try clear hcz11_0
      try clear hcz11_1
      try clear hcz11_2
      try clear hcz11_3
      try clear hcz17_0
      try clear hcz17_1
      try clear hcz17_2
      try clear hcz17_3
      try clear hcz20_0
      try clear hcz20_1
      try clear hcz20_2
      try clear hcz20_3
      try clear hcz43_0
      try clear hcz43_1
      try clear hcz43_2
      try clear hcz43_3
      try clear hcz8_0
      try clear hcz8_1
      try clear hcz8_2
      try clear hcz8_3
      try clear hfz11_0
      try clear hfz11_1
      try clear hfz11_2
      try clear hfz11_3
      try clear hfz17_0
      try clear hfz17_1
      try clear hfz17_2
      try clear hfz17_3
      try clear hfz20_0
      try clear hfz20_1
      try clear hfz20_2
      try clear hfz20_3
      try clear hfz43_0
      try clear hfz43_1
      try clear hfz43_2
      try clear hfz43_3
      try clear hfz8_0
      try clear hfz8_1
      try clear hfz8_2
      try clear hfz8_3
      try clear hx28_0
      try clear hx310_0
      try clear hx311_0
      try clear hx312_0
      try clear hx313_0
      try clear p2
      try clear p28
      try clear p310
      try clear p311
      try clear p312
      try clear p313
      try clear q2
      try clear q28
      try clear q310
      try clear q311
      try clear q312
      try clear q313
      obtain ⟨kq, x92_41, rfl, HA, HJ41, HO_7, HO_8, HO_12, BK300, HB⟩ := hcut
      rcases kq with _ | kj41
      · exact absurd HA.out (by simp [fettlelaw06_DomPaths.j4])
      have H := HA.out
      clear HA
      simp only [fettlelaw06_DomPaths.j4] at H
      by_cases c48 : x92_41 = true
      · subst c48
        have H1 : (some t301) = some r := by rw [if_pos rfl] at H; exact H
        clear H
        have H := H1
        clear H1
        obtain rfl := Option.some.inj H
        go_wp2
        go_ret
        exact ⟨by first | rfl | (simp [errW_none, errW_some] <;> rfl) | (simp [*, errW_none, errW_some] <;> rfl), by repeat (first | (with_reducible first | exact HB.out | apply below_alloc | apply pw_below_drewN | apply below_drew1 | refine below_set ?_ GE300.out) | exact HB.out)⟩
      replace c48 := Bool.eq_false_iff.mpr c48
      subst c48
      have H1 : (if 0 ≤ x10_2 then (if x10_2 < (l1.length : Int) then (if (rd l1 x10_2) < 0 then (if (t314.length : Int) = 0 then (none) else (if 0 ≤ (Int.tmod (wrap64 (-(wrap64 ((rd l1 x10_2) + 1)))) (t314.length : Int)) then (if (Int.tmod (wrap64 (-(wrap64 ((rd l1 x10_2) + 1)))) (t314.length : Int)) < (t314.length : Int) then (fettlelaw06_DomPaths.l0 kj41 l1 t301 t303 y309 (rd t314 (Int.tmod (wrap64 (-(wrap64 ((rd l1 x10_2) + 1)))) (t314.length : Int))) (wrap64 (x10_2 + 1)) a0_0 a0_1 l0_2 l0_3) else (none)) else (none))) else (if (t314.length : Int) = 0 then (none) else (if 0 ≤ (Int.tmod (rd l1 x10_2) (t314.length : Int)) then (if (Int.tmod (rd l1 x10_2) (t314.length : Int)) < (t314.length : Int) then (fettlelaw06_DomPaths.l0 kj41 l1 t301 t303 y309 (rd t314 (Int.tmod (rd l1 x10_2) (t314.length : Int))) (wrap64 (x10_2 + 1)) a0_0 a0_1 l0_2 l0_3) else (none)) else (none)))) else (none)) else (none)) = some r := by rw [if_neg (show ¬ (false = true) by decide)] at H; exact H
      clear H
      have H := H1
      clear H1
      by_cases c49 : 0 ≤ x10_2
      rotate_left
      · rw [if_neg c49] at H
        exact absurd H (by simp)
      rw [if_pos c49] at H
      have c49b0 : decide (0 ≤ x10_2) = true := decide_eq_true c49
      clear c49
      by_cases c50 : x10_2 < (l1.length : Int)
      rotate_left
      · rw [if_neg c50] at H
        exact absurd H (by simp)
      rw [if_pos c50] at H
      have c50b0 : decide (x10_2 < (l1.length : Int)) = true := decide_eq_true c50
      have c50b0l := c50b0
      (try simp only [hl8_4] at c50b0l)
      clear c50
      by_cases c51 : (rd l1 x10_2) < 0
      · rw [if_pos c51] at H
        have c51b0 : decide ((rd l1 x10_2) < 0) = true := decide_eq_true c51
        clear c51
        by_cases c52 : (t314.length : Int) = 0
        · rw [if_pos c52] at H
          exact absurd H (by simp)
        rw [if_neg c52] at H
        have c52b0 : ((t314.length : Int) == 0) = false := beq_eq_false_iff_ne.mpr c52
        have c52b1 : ((t314.length : Int) != 0) = true := bne_iff_ne.mpr c52
        have c52b2 : ¬ (t314 = []) := fun h_ => c52 (by rw [h_]; rfl)
        obtain ⟨ji53, hji53⟩ : ∃ j_ : Int, (Int.tmod (wrap64 (-(wrap64 ((rd l1 x10_2) + 1)))) (t314.length : Int)) = j_ := ⟨_, rfl⟩
        replace H : (if 0 ≤ (ji53) then (if (ji53) < (t314.length : Int) then (fettlelaw06_DomPaths.l0 kj41 l1 t301 t303 y309 (rd t314 (ji53)) (wrap64 (x10_2 + 1)) a0_0 a0_1 l0_2 l0_3) else (none)) else (none)) = some r := by first | (rw [hji53] at H; exact H) | (simp only [hji53] at H ⊢; exact H)
        by_cases c54 : 0 ≤ (ji53)
        rotate_left
        · rw [if_neg c54] at H
          exact absurd H (by simp)
        rw [if_pos c54] at H
        have c54b0 : decide (0 ≤ (ji53)) = true := decide_eq_true c54
        clear c54
        by_cases c55 : (ji53) < (t314.length : Int)
        rotate_left
        · rw [if_neg c55] at H
          exact absurd H (by simp)
        rw [if_pos c55] at H
        have c55b0 : decide ((ji53) < (t314.length : Int)) = true := decide_eq_true c55
        have c55b0l := c55b0
        (try simp only [hl8_4] at c55b0l)
        clear c55
        have H' := Aside0.mk H
        clear H
        have p317 : 0 ≤ (x10_2 : Int) := of_decide_eq_true (by with_reducible assumption)
        have q317 : x10_2 < (l1.length : Int) := of_decide_eq_true (by with_reducible assumption)
        obtain ⟨ad317, e317, hx317_0⟩ := Kd.at_int HR1.out x10_2 p317 q317
        cases e317
        replace hx317_0 := (HB.out.cell (World.block_lt_of_cell? w _ hx317_0)).trans hx317_0
        replace p317 := eq_true p317
        replace q317 := eq_true q317
        obtain ⟨Ao56, co56, eo56⟩ := Kd.R_slice HO_12.out
        subst eo56
        have p318 : 0 ≤ ((ji53) : Int) := of_decide_eq_true (by with_reducible assumption)
        have q318 : (ji53) < (t314.length : Int) := of_decide_eq_true (by with_reducible assumption)
        obtain ⟨ad318, e318, hx318_0⟩ := Kd.at_int (R_reads' HO_12.out).2.2 (ji53) p318 q318
        cases e318
        replace p318 := eq_true p318
        replace q318 := eq_true q318
        go_wp2
        (try simp only [← hl8_4])
        go_roundg kj41
        case measure => have := HJ4.out; have := HK2.out; have := HJ22.out; have := HK4.out; have := HJ41.out; omega
        case rel => exact ⟨(y309), (rd t314 (ji53)), (wrap64 (x10_2 + 1)), (by first | rfl | (simp; done) | (simp only [← hji53] <;> (first | rfl | simp)) | (simp [*]; done)), (by first | rfl | (simp; done) | (simp [*]; done)), H', ⟨by have := HJ4.out; have := HK2.out; have := HJ22.out; have := HK4.out; have := HJ41.out; omega⟩, ⟨by (try simp only [hl8_4]); (with_reducible repeat (first | apply S_alloc | apply S_drewN | apply S_drew)); exact HO_7.out⟩, ⟨by (try simp only [hl8_4]); (with_reducible repeat (first | apply R_alloc | apply R_drewN | apply R_drew)); exact HO_8.out⟩, ⟨by (try simp only [hl8_4]); (with_reducible repeat (first | refine blk_drewN ?_ _ | refine blk_drew ?_ | refine blk_alloc ?_ _)); exact BK300.out⟩, ⟨by repeat (first | (with_reducible first | exact HB.out | apply below_alloc | apply pw_below_drewN | apply below_drew1 | refine below_set ?_ GE300.out) | exact HB.out)⟩⟩
      rw [if_neg c51] at H
      have c51b0 : decide ((rd l1 x10_2) < 0) = false := decide_eq_false c51
      clear c51
      by_cases c57 : (t314.length : Int) = 0
      · rw [if_pos c57] at H
        exact absurd H (by simp)
      rw [if_neg c57] at H
      have c57b0 : ((t314.length : Int) == 0) = false := beq_eq_false_iff_ne.mpr c57
      have c57b1 : ((t314.length : Int) != 0) = true := bne_iff_ne.mpr c57
      have c57b2 : ¬ (t314 = []) := fun h_ => c57 (by rw [h_]; rfl)
      obtain ⟨ji58, hji58⟩ : ∃ j_ : Int, (Int.tmod (rd l1 x10_2) (t314.length : Int)) = j_ := ⟨_, rfl⟩
      replace H : (if 0 ≤ (ji58) then (if (ji58) < (t314.length : Int) then (fettlelaw06_DomPaths.l0 kj41 l1 t301 t303 y309 (rd t314 (ji58)) (wrap64 (x10_2 + 1)) a0_0 a0_1 l0_2 l0_3) else (none)) else (none)) = some r := by first | (rw [hji58] at H; exact H) | (simp only [hji58] at H ⊢; exact H)
      by_cases c59 : 0 ≤ (ji58)
      rotate_left
      · rw [if_neg c59] at H
        exact absurd H (by simp)
      rw [if_pos c59] at H
      have c59b0 : decide (0 ≤ (ji58)) = true := decide_eq_true c59
      clear c59
      by_cases c60 : (ji58) < (t314.length : Int)
      rotate_left
      · rw [if_neg c60] at H
        exact absurd H (by simp)
      rw [if_pos c60] at H
      have c60b0 : decide ((ji58) < (t314.length : Int)) = true := decide_eq_true c60
      have c60b0l := c60b0
      (try simp only [hl8_4] at c60b0l)
      clear c60
      have H' := Aside0.mk H
      clear H
      have p317 : 0 ≤ (x10_2 : Int) := of_decide_eq_true (by with_reducible assumption)
      have q317 : x10_2 < (l1.length : Int) := of_decide_eq_true (by with_reducible assumption)
      obtain ⟨ad317, e317, hx317_0⟩ := Kd.at_int HR1.out x10_2 p317 q317
      cases e317
      replace hx317_0 := (HB.out.cell (World.block_lt_of_cell? w _ hx317_0)).trans hx317_0
      replace p317 := eq_true p317
      replace q317 := eq_true q317
      obtain ⟨Ao61, co61, eo61⟩ := Kd.R_slice HO_12.out
      subst eo61
      have p319 : 0 ≤ ((ji58) : Int) := of_decide_eq_true (by with_reducible assumption)
      have q319 : (ji58) < (t314.length : Int) := of_decide_eq_true (by with_reducible assumption)
      obtain ⟨ad319, e319, hx319_0⟩ := Kd.at_int (R_reads' HO_12.out).2.2 (ji58) p319 q319
      cases e319
      replace p319 := eq_true p319
      replace q319 := eq_true q319
      go_wp2
      (try simp only [← hl8_4])
      go_roundg kj41
      case measure => have := HJ4.out; have := HK2.out; have := HJ22.out; have := HK4.out; have := HJ41.out; omega
      case rel => exact ⟨(y309), (rd t314 (ji58)), (wrap64 (x10_2 + 1)), (by first | rfl | (simp; done) | (simp only [← hji58] <;> (first | rfl | simp)) | (simp [*]; done)), (by first | rfl | (simp; done) | (simp [*]; done)), H', ⟨by have := HJ4.out; have := HK2.out; have := HJ22.out; have := HK4.out; have := HJ41.out; omega⟩, ⟨by (try simp only [hl8_4]); (with_reducible repeat (first | apply S_alloc | apply S_drewN | apply S_drew)); exact HO_7.out⟩, ⟨by (try simp only [hl8_4]); (with_reducible repeat (first | apply R_alloc | apply R_drewN | apply R_drew)); exact HO_8.out⟩, ⟨by (try simp only [hl8_4]); (with_reducible repeat (first | refine blk_drewN ?_ _ | refine blk_drew ?_ | refine blk_alloc ?_ _)); exact BK300.out⟩, ⟨by repeat (first | (with_reducible first | exact HB.out | apply below_alloc | apply pw_below_drewN | apply below_drew1 | refine below_set ?_ GE300.out) | exact HB.out)⟩⟩
    replace c25 := Bool.eq_false_iff.mpr c25
    subst c25
    have H1 : (some t301) = some r := by rw [if_neg (show ¬ (false = true) by decide)] at H; exact H
    clear H
    have H := H1
    clear H1
    obtain rfl := Option.some.inj H
    go_wp2
    go_ret
    exact ⟨by first | rfl | (simp [errW_none, errW_some] <;> rfl) | (simp [*, errW_none, errW_some] <;> rfl), by repeat (first | (with_reducible first | exact HB.out | apply below_alloc | apply pw_below_drewN | apply below_drew1 | refine below_set ?_ GE300.out) | exact HB.out)⟩
  rw [if_neg c14] at H
  have c14b0 : ((t303.length : Int) == (l0_3.length : Int)) = false := beq_eq_false_iff_ne.mpr c14
  have c14b1 : ((t303.length : Int) != (l0_3.length : Int)) = true := bne_iff_ne.mpr c14
  have c14b2 : (t303.length == l0_3.length) = false := by first | simpa using c14 | (simp at c14 ⊢; omega)
  obtain rfl := Option.some.inj H
  have hcz62_0 : wc.cell? ⟨gb300, 0, none⟩ = some (.int .i64 a0_0) := (blk_cell BK300.out 0).trans rfl
  have hcz62_1 : wc.cell? ⟨gb300, 1, none⟩ = some (.int .i64 a0_1) := (blk_cell BK300.out 1).trans rfl
  have hcz62_2 : wc.cell? ⟨gb300, 2, none⟩ = some (.slice A0_2 l0_2.length c0_2) := (blk_cell BK300.out 2).trans rfl
  have hcz62_3 : wc.cell? ⟨gb300, 3, none⟩ = some (.slice A0_3 l0_3.length c0_3) := (blk_cell BK300.out 3).trans rfl
  have hfz62_0 := blk_frozen BK300.out 0
  have hfz62_1 := blk_frozen BK300.out 1
  have hfz62_2 := blk_frozen BK300.out 2
  have hfz62_3 := blk_frozen BK300.out 3
  go_wp2_with (first | ((with_reducible refine gate_callee (f := 17) rfl ?_); refine goesL_ (some 27) rfl rfl Try.func17 (by kernel_rfl) rfl #[.agg #[.int .i64 a0_0, .int .i64 a0_1, .slice A0_2 l0_2.length c0_2, .slice A0_3 l0_3.length c0_3]] rfl (by (try simp only [List.map_toArray, List.map_cons, List.map_nil]); first | done | rfl) ?_; (with_reducible refine (dom_Dominates.calls kj4 a0_0 a0_1 _ _ l0_2 _ _ l0_3 t303 _ ?side1 ?side2 ?side3 ?side4 A13.out).mono ?_); (case side1 => repeat (first | exact (C_below HR0_2.out HB.out) | (with_reducible refine C_alloc ?_ _) | (with_reducible refine C_drewN ?_ _) | (with_reducible refine C_drew ?_))); (case side2 => exact HC0_2.out); (case side3 => repeat (first | exact (C_below HR0_3.out HB.out) | (with_reducible refine C_alloc ?_ _) | (with_reducible refine C_drewN ?_ _) | (with_reducible refine C_drew ?_))); (case side4 => exact HC0_3.out); rintro e w63 ⟨v304, rfl, ho0, hb⟩; refine ⟨_, rfl, ?_⟩; have n0_ := Aside0.mk (Kd.S_lower ho0 (below_size (by repeat with_reducible first | exact HB.out | apply below_alloc | apply pw_below_drewN | apply below_drew1 | refine below_set ?_ GE300.out))); have n1_ := Aside0.mk (blk_below (g := gb300) (o := .cells #[.int .i64 a0_0, .int .i64 a0_1, .slice A0_2 l0_2.length c0_2, .slice A0_3 l0_3.length c0_3] 25 (0, 0)) (by (with_reducible repeat (first | refine blk_drewN ?_ _ | refine blk_drew ?_ | refine blk_alloc ?_ _)); exact BK300.out) hb); have n2_ := Aside0.mk (below_step (by repeat with_reducible first | exact HB.out | apply below_alloc | apply pw_below_drewN | apply below_drew1 | refine below_set ?_ GE300.out) hb); clear BK300; clear HB; have HO305 := n0_; have BK300 := n1_; have HB := n2_; clear n0_ n1_ n2_; (try clear hb); (try clear hb2); (try clear hk); (try clear hi); (try clear ho0); obtain ⟨Ao64, co64, eo64⟩ := Kd.S_slice HO305.out; subst eo64; have hcz65_0 : w63.cell? ⟨gb300, 0, none⟩ = some (.int .i64 a0_0) := (blk_cell BK300.out 0).trans rfl; have hcz65_1 : w63.cell? ⟨gb300, 1, none⟩ = some (.int .i64 a0_1) := (blk_cell BK300.out 1).trans rfl; have hcz65_2 : w63.cell? ⟨gb300, 2, none⟩ = some (.slice A0_2 l0_2.length c0_2) := (blk_cell BK300.out 2).trans rfl; have hcz65_3 : w63.cell? ⟨gb300, 3, none⟩ = some (.slice A0_3 l0_3.length c0_3) := (blk_cell BK300.out 3).trans rfl; have hfz65_0 := blk_frozen BK300.out 0; have hfz65_1 := blk_frozen BK300.out 1; have hfz65_2 := blk_frozen BK300.out 2; have hfz65_3 := blk_frozen BK300.out 3))
  go_ret
  exact ⟨by first | rfl | (simp [errW_none, errW_some] <;> rfl) | (simp [*, errW_none, errW_some] <;> rfl), by repeat (first | (with_reducible first | exact HB.out | apply below_alloc | apply pw_below_drewN | apply below_drew1 | refine below_set ?_ GE300.out) | exact HB.out)⟩

/-- THE ONE PURE STATEMENT of fettlelaw06_DomPaths: yours. -/
def fettlelaw06_DomPaths.Pure : Prop := ∀ (a0_0 : Int) (a0_1 : Int) (l0_2 : List Int) (l0_3 : List (S52)) (l1 : List Int), l1.length ≤ maxLen → l1.length * 8 ≤ 140737488351232 → (∀ x ∈ l1, (Lit.int .i64 x).wf = true) → ∃ k, fettlelaw06_DomPaths.f k a0_0 a0_1 l0_2 l0_3 l1 = some true
theorem fettlelaw06_DomPaths.walk (P : fettlelaw06_DomPaths.Pure) (a0_0 : Int) (a0_1 : Int) (A0_2 : Option Addr) (c0_2 : Nat) (l0_2 : List Int) (A0_3 : Option Addr) (c0_3 : Nat) (l0_3 : List (S52)) (a1 : Option Addr) (len1 cap1 : Nat) (z1 : List Int) (w : World) (hr0_2 : Kd.C (Kd.int .i64) w A0_2 l0_2.length l0_2) (hc0_2 : l0_2.length ≤ c0_2) (hr0_3 : Kd.C k52 w A0_3 l0_3.length l0_3) (hc0_3 : l0_3.length ≤ c0_3) (w1 : (a1 = none ∧ len1 = 0 ∧ cap1 = 0 ∧ z1 = []) ∨ ∃ x, a1 = some x ∧ len1 ≤ cap1 ∧ cap1 ≤ maxLen ∧ z1.length = cap1 ∧ (∀ i, i < z1.length → w.cell? (x.add i) = some (.int .i64 (z1.getD i 0))) ∧ ∀ n ∈ z1, (Lit.int .i64 n).wf = true) (y1 : len1 * 8 ≤ 140737488351232) :
    Calls Try.prog 5 #[.agg #[.int .i64 a0_0, .int .i64 a0_1, .slice A0_2 l0_2.length c0_2, .slice A0_3 l0_3.length c0_3], .slice a1 len1 cap1] w fun e w' => e = .returned (.bool true) ∧ Below w.heap.size w w' := by
  obtain ⟨l1, rfl, hr1, hm1, hw1, hc1⟩ := ReadsInt.ofRowC w1
  obtain ⟨k, h⟩ := P a0_0 a0_1 l0_2 l0_3 l1 hm1 y1 hw1
  refine (fettlelaw06_DomPaths.calls k a0_0 a0_1 A0_2 c0_2 l0_2 A0_3 c0_3 l0_3 _ _ l1 true w hr0_2 hc0_2 hr0_3 hc0_3 (Kd.C_of_reads (d := (0 : Int)) (h1 := fun _ => rfl) hr1) hc1 h).mono ?_
  rintro e w' ⟨rfl, hd⟩
  exact ⟨rfl, hd⟩

end Go.Proofs.Ytpionncanaamgaa.PDomPaths
