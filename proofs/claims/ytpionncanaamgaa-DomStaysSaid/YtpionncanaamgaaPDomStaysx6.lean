-- Laid by a program of this session (wip/pp/patch.py over the kit's print).
-- mended yes
-- mended: lengths
import Derived.Test.YtpionncanaamgaaPDomStaysx0
import Derived.Test.YtpionncanaamgaaPDomStaysx1
import Derived.Test.YtpionncanaamgaaPDomStaysx5
import Derived.Test.YtpionncanaamgaaShort
namespace Go.Proofs.Ytpionncanaamgaa.PDomStays
open Go.Proofs.Ytpionncanaamgaa.Short Go.RowKit Go.Proofs.YtpionncanaamgaaW.PrintWords Go.Proofs.YtpionncanaamgaaW.PrintLast Go.Proofs.YtpionncanaamgaaW.PrintMore Go.Proofs.YtpionncanaamgaaW.PrintWords.Kd
attribute [local go_sem] max2_int min2_int max_two min_two max_three min_three max_four min_four   -- for this text's walks alone
set_option linter.unusedVariables false
set_option linter.unusedSimpArgs false

/-! ### dom_Frontier_a: function 13 -/
def dom_Frontier_a.f (k : Nat) (a0_0 : Int) (a0_1 : Int) (l0_2 : List Int) (l0_3 : List (S52)) : Option ((List (List Int)) × List Bool × (List (List Bool))) := (graph_Next.f k a0_0 a0_1 l0_2 l0_3).bind fun t205 => ((graph_Reached.f k a0_0 a0_1 l0_2 l0_3).bind fun t208 => ((dom_Dominates.f k a0_0 a0_1 l0_2 l0_3).bind fun t211 => (some (t205, t208, t211))))
theorem dom_Frontier_a.mono : ∀ a0 a1 a2 a3 k, LeO (dom_Frontier_a.f k a0 a1 a2 a3) (dom_Frontier_a.f (k + 1) a0 a1 a2 a3) := by
  intro a0 a1 a2 a3 k
  unfold dom_Frontier_a.f
  repeat' first
      | (with_reducible exact dom_Dominates.mono _ _ _ _ _)
      | (with_reducible exact graph_Next.mono _ _ _ _ _)
      | (with_reducible exact graph_Reached.mono _ _ _ _ _)
      | (with_reducible exact LeO.refl _)
      | (with_reducible exact LeO.none _)
      | (with_reducible refine LeO.ite ?_ ?_)
      | (with_reducible refine LeO.bind ?_ (fun _ => ?_))
      | exact dom_Dominates.mono _ _ _ _ _
      | exact graph_Next.mono _ _ _ _ _
      | exact graph_Reached.mono _ _ _ _ _
      | exact LeO.none _
      | refine LeO.ite ?_ ?_
      | refine LeO.bind ?_ (fun _ => ?_)
def dom_Frontier_a.T1 : Bool × List (List Nat × List Nat) := (true, [([], []), ([0], [0]), ([], []), ([2, 1], [2]), ([], []), ([4, 3], [4]), ([1, 5, 0, 1], [1]), ([3, 6, 0, 1, 2, 3, 6], [3]), ([5, 7, 0, 1, 2, 3, 4, 5, 6, 7], [5])])
def dom_Frontier_a.B1 : List Nat := [0, 1, 0, 7, 0, 31, 63, 127, 255]
theorem dom_Frontier_a.tab1 : rtab .any (opsOf Try.f13 1) = dom_Frontier_a.T1 := by kernel_rfl
theorem dom_Frontier_a.bits1 : waitsOk dom_Frontier_a.T1.2 dom_Frontier_a.B1 = true := by kernel_rfl

mutual
def dom_Frontier_b.l0 : Nat → List (List Int) → List Bool → List (List Bool) → List (List Int) → Int → Int → Option ((List (List Int)))
  | 0, _, _, _, _, _, _ => none
  | k + 1, x3, x4, x5, x6, x25, x26 => if x26 < x25 then (if 0 ≤ (x3.length : Int) then (if ((x3.length : Int) : Int).toNat ≤ 281474976710656 then (dom_Frontier_b.l1 k x3 x4 x5 x6 x26 (List.replicate ((x3.length : Int) : Int).toNat false) x25 x26 x3 (x3.length : Int) 0) else (none)) else (none)) else (some x6)
def dom_Frontier_b.l1 : Nat → List (List Int) → List Bool → List (List Bool) → List (List Int) → Int → List Bool → Int → Int → List (List Int) → Int → Int → Option ((List (List Int)))
  | 0, _, _, _, _, _, _, _, _, _, _, _ => none
  | k + 1, x3, x4, x5, x6, x7, x8, x25, x26, x32, x33, x34 => if x34 < x33 then (if 0 ≤ x34 then (if x34 < (x32.length : Int) then (dom_Frontier_b.l2 k x3 x4 x5 x6 x7 x8 x34 x25 x26 x32 x33 x34 (rd_L1 x32 x34) ((rd_L1 x32 x34).length : Int) 0) else (none)) else (none)) else (dom_Frontier_b.l3 k x3 x4 x5 x6 x7 x25 x26 x8 (x8.length : Int) 0)
def dom_Frontier_b.l2 : Nat → List (List Int) → List Bool → List (List Bool) → List (List Int) → Int → List Bool → Int → Int → Int → List (List Int) → Int → Int → List Int → Int → Int → Option ((List (List Int)))
  | 0, _, _, _, _, _, _, _, _, _, _, _, _, _, _, _ => none
  | k + 1, x3, x4, x5, x6, x7, x8, x9, x25, x26, x32, x33, x34, x39, x40, x41 => if x41 < x40 then (if 0 ≤ x41 then (if x41 < (x39.length : Int) then (if 0 ≤ (rd x39 x41) then (if (rd x39 x41) < (x8.length : Int) then (if rdOf false x8 (rd x39 x41) = true then (dom_Frontier_b.l2 k x3 x4 x5 x6 x7 (x8.set ((rd x39 x41) : Int).toNat true) x9 x25 x26 x32 x33 x34 x39 x40 (wrap64 (x41 + 1))) else (if 0 ≤ x7 then (if x7 < (x5.length : Int) then (if 0 ≤ x9 then (if x9 < ((rd_L11 x5 x7).length : Int) then (dom_Frontier_b.l2 k x3 x4 x5 x6 x7 (x8.set ((rd x39 x41) : Int).toNat (rdOf false (rd_L11 x5 x7) x9)) x9 x25 x26 x32 x33 x34 x39 x40 (wrap64 (x41 + 1))) else (none)) else (none)) else (none)) else (none))) else (none)) else (none)) else (none)) else (none)) else (dom_Frontier_b.l1 k x3 x4 x5 x6 x7 x8 x25 x26 x32 x33 (wrap64 (x34 + 1)))
def dom_Frontier_b.l3 : Nat → List (List Int) → List Bool → List (List Bool) → List (List Int) → Int → Int → Int → List Bool → Int → Int → Option ((List (List Int)))
  | 0, _, _, _, _, _, _, _, _, _, _ => none
  | k + 1, x3, x4, x5, x6, x7, x25, x26, x63, x64, x65 => if x65 < x64 then (if 0 ≤ x65 then (if x65 < (x63.length : Int) then (if rdOf false x63 x65 = true then (if 0 ≤ x7 then (if x7 < (x4.length : Int) then (if rdOf false x4 x7 = true then (if x7 = x65 then (if x7 < (x6.length : Int) then (if (rd_L1 x6 x7).length < 17592186044416 then (dom_Frontier_b.l3 k x3 x4 x5 (x6.set (x7 : Int).toNat ((rd_L1 x6 x7) ++ [x65])) x7 x25 x26 x63 x64 (wrap64 (x65 + 1))) else (none)) else (none)) else (if x7 < (x5.length : Int) then (if x65 < ((rd_L11 x5 x7).length : Int) then (if (rdOf false (rd_L11 x5 x7) x65 = true) then (dom_Frontier_b.l3 k x3 x4 x5 x6 x7 x25 x26 x63 x64 (wrap64 (x65 + 1))) else (if x7 < (x6.length : Int) then (if (rd_L1 x6 x7).length < 17592186044416 then (dom_Frontier_b.l3 k x3 x4 x5 (x6.set (x7 : Int).toNat ((rd_L1 x6 x7) ++ [x65])) x7 x25 x26 x63 x64 (wrap64 (x65 + 1))) else (none)) else (none))) else (none)) else (none))) else (dom_Frontier_b.l3 k x3 x4 x5 x6 x7 x25 x26 x63 x64 (wrap64 (x65 + 1)))) else (none)) else (none)) else (dom_Frontier_b.l3 k x3 x4 x5 x6 x7 x25 x26 x63 x64 (wrap64 (x65 + 1)))) else (none)) else (none)) else (dom_Frontier_b.l0 k x3 x4 x5 x6 x25 (wrap64 (x26 + 1)))
end
def dom_Frontier_b.f (k : Nat) (a0_0 : Int) (a0_1 : Int) (l0_2 : List Int) (l0_3 : List (S52)) (l1 : List (List Int)) (l2 : List Bool) (l3 : List (List Bool)) : Option ((List (List Int))) := if 0 ≤ (l1.length : Int) then (if ((l1.length : Int) : Int).toNat ≤ 11728124029610 then ((some (List.replicate ((l1.length : Int) : Int).toNat [] : List (List Int))).bind fun y214 => (dom_Frontier_b.l0 k l1 l2 l3 y214 (y214.length : Int) 0)) else (none)) else (none)
theorem dom_Frontier_b.mono_l : ∀ k, (∀ y0 y1 y2 y3 y4 y5, LeO (dom_Frontier_b.l0 k y0 y1 y2 y3 y4 y5) (dom_Frontier_b.l0 (k + 1) y0 y1 y2 y3 y4 y5)) ∧ (∀ y0 y1 y2 y3 y4 y5 y6 y7 y8 y9 y10, LeO (dom_Frontier_b.l1 k y0 y1 y2 y3 y4 y5 y6 y7 y8 y9 y10) (dom_Frontier_b.l1 (k + 1) y0 y1 y2 y3 y4 y5 y6 y7 y8 y9 y10)) ∧ (∀ y0 y1 y2 y3 y4 y5 y6 y7 y8 y9 y10 y11 y12 y13 y14, LeO (dom_Frontier_b.l2 k y0 y1 y2 y3 y4 y5 y6 y7 y8 y9 y10 y11 y12 y13 y14) (dom_Frontier_b.l2 (k + 1) y0 y1 y2 y3 y4 y5 y6 y7 y8 y9 y10 y11 y12 y13 y14)) ∧ (∀ y0 y1 y2 y3 y4 y5 y6 y7 y8 y9, LeO (dom_Frontier_b.l3 k y0 y1 y2 y3 y4 y5 y6 y7 y8 y9) (dom_Frontier_b.l3 (k + 1) y0 y1 y2 y3 y4 y5 y6 y7 y8 y9))
  | 0 => ⟨fun _ _ _ _ _ _ r h => by simp [dom_Frontier_b.l0] at h, fun _ _ _ _ _ _ _ _ _ _ _ r h => by simp [dom_Frontier_b.l1] at h, fun _ _ _ _ _ _ _ _ _ _ _ _ _ _ _ r h => by simp [dom_Frontier_b.l2] at h, fun _ _ _ _ _ _ _ _ _ _ r h => by simp [dom_Frontier_b.l3] at h⟩
  | k + 1 => by
    obtain ⟨ih0, ih1, ih2, ih3⟩ := dom_Frontier_b.mono_l k
    refine ⟨?_, ?_, ?_, ?_⟩
    · intro y0 y1 y2 y3 y4 y5
      unfold dom_Frontier_b.l0
      repeat' first
      | (with_reducible exact ih0 _ _ _ _ _ _)
      | (with_reducible exact ih1 _ _ _ _ _ _ _ _ _ _ _)
      | (with_reducible exact ih2 _ _ _ _ _ _ _ _ _ _ _ _ _ _ _)
      | (with_reducible exact ih3 _ _ _ _ _ _ _ _ _ _)
      | (with_reducible exact LeO.refl _)
      | (with_reducible exact LeO.none _)
      | (with_reducible refine LeO.ite ?_ ?_)
      | (with_reducible refine LeO.bind ?_ (fun _ => ?_))
      | exact ih0 _ _ _ _ _ _
      | exact ih1 _ _ _ _ _ _ _ _ _ _ _
      | exact ih2 _ _ _ _ _ _ _ _ _ _ _ _ _ _ _
      | exact ih3 _ _ _ _ _ _ _ _ _ _
      | exact LeO.none _
      | refine LeO.ite ?_ ?_
      | refine LeO.bind ?_ (fun _ => ?_)
    · intro y0 y1 y2 y3 y4 y5 y6 y7 y8 y9 y10
      unfold dom_Frontier_b.l1
      repeat' first
      | (with_reducible exact ih0 _ _ _ _ _ _)
      | (with_reducible exact ih1 _ _ _ _ _ _ _ _ _ _ _)
      | (with_reducible exact ih2 _ _ _ _ _ _ _ _ _ _ _ _ _ _ _)
      | (with_reducible exact ih3 _ _ _ _ _ _ _ _ _ _)
      | (with_reducible exact LeO.refl _)
      | (with_reducible exact LeO.none _)
      | (with_reducible refine LeO.ite ?_ ?_)
      | (with_reducible refine LeO.bind ?_ (fun _ => ?_))
      | exact ih0 _ _ _ _ _ _
      | exact ih1 _ _ _ _ _ _ _ _ _ _ _
      | exact ih2 _ _ _ _ _ _ _ _ _ _ _ _ _ _ _
      | exact ih3 _ _ _ _ _ _ _ _ _ _
      | exact LeO.none _
      | refine LeO.ite ?_ ?_
      | refine LeO.bind ?_ (fun _ => ?_)
    · intro y0 y1 y2 y3 y4 y5 y6 y7 y8 y9 y10 y11 y12 y13 y14
      unfold dom_Frontier_b.l2
      repeat' first
      | (with_reducible exact ih0 _ _ _ _ _ _)
      | (with_reducible exact ih1 _ _ _ _ _ _ _ _ _ _ _)
      | (with_reducible exact ih2 _ _ _ _ _ _ _ _ _ _ _ _ _ _ _)
      | (with_reducible exact ih3 _ _ _ _ _ _ _ _ _ _)
      | (with_reducible exact LeO.refl _)
      | (with_reducible exact LeO.none _)
      | (with_reducible refine LeO.ite ?_ ?_)
      | (with_reducible refine LeO.bind ?_ (fun _ => ?_))
      | exact ih0 _ _ _ _ _ _
      | exact ih1 _ _ _ _ _ _ _ _ _ _ _
      | exact ih2 _ _ _ _ _ _ _ _ _ _ _ _ _ _ _
      | exact ih3 _ _ _ _ _ _ _ _ _ _
      | exact LeO.none _
      | refine LeO.ite ?_ ?_
      | refine LeO.bind ?_ (fun _ => ?_)
    · intro y0 y1 y2 y3 y4 y5 y6 y7 y8 y9
      unfold dom_Frontier_b.l3
      repeat' first
      | (with_reducible exact ih0 _ _ _ _ _ _)
      | (with_reducible exact ih1 _ _ _ _ _ _ _ _ _ _ _)
      | (with_reducible exact ih2 _ _ _ _ _ _ _ _ _ _ _ _ _ _ _)
      | (with_reducible exact ih3 _ _ _ _ _ _ _ _ _ _)
      | (with_reducible exact LeO.refl _)
      | (with_reducible exact LeO.none _)
      | (with_reducible refine LeO.ite ?_ ?_)
      | (with_reducible refine LeO.bind ?_ (fun _ => ?_))
      | exact ih0 _ _ _ _ _ _
      | exact ih1 _ _ _ _ _ _ _ _ _ _ _
      | exact ih2 _ _ _ _ _ _ _ _ _ _ _ _ _ _ _
      | exact ih3 _ _ _ _ _ _ _ _ _ _
      | exact LeO.none _
      | refine LeO.ite ?_ ?_
      | refine LeO.bind ?_ (fun _ => ?_)
theorem dom_Frontier_b.mono : ∀ a0 a1 a2 a3 a4 a5 a6 k, LeO (dom_Frontier_b.f k a0 a1 a2 a3 a4 a5 a6) (dom_Frontier_b.f (k + 1) a0 a1 a2 a3 a4 a5 a6) := by
  intro a0 a1 a2 a3 a4 a5 a6 k
  obtain ⟨ih0, ih1, ih2, ih3⟩ := dom_Frontier_b.mono_l k
  unfold dom_Frontier_b.f
  repeat' first
      | (with_reducible exact ih0 _ _ _ _ _ _)
      | (with_reducible exact ih1 _ _ _ _ _ _ _ _ _ _ _)
      | (with_reducible exact ih2 _ _ _ _ _ _ _ _ _ _ _ _ _ _ _)
      | (with_reducible exact ih3 _ _ _ _ _ _ _ _ _ _)
      | (with_reducible exact LeO.refl _)
      | (with_reducible exact LeO.none _)
      | (with_reducible refine LeO.ite ?_ ?_)
      | (with_reducible refine LeO.bind ?_ (fun _ => ?_))
      | exact ih0 _ _ _ _ _ _
      | exact ih1 _ _ _ _ _ _ _ _ _ _ _
      | exact ih2 _ _ _ _ _ _ _ _ _ _ _ _ _ _ _
      | exact ih3 _ _ _ _ _ _ _ _ _ _
      | exact LeO.none _
      | refine LeO.ite ?_ ?_
      | refine LeO.bind ?_ (fun _ => ?_)
/-! ### dom_Frontier: function 13 -/
def dom_Frontier.f (k : Nat) (a0_0 : Int) (a0_1 : Int) (l0_2 : List Int) (l0_3 : List (S52)) : Option ((List (List Int))) := (dom_Frontier_a.f k a0_0 a0_1 l0_2 l0_3).bind fun p_ => dom_Frontier_b.f k a0_0 a0_1 l0_2 l0_3 (p_.1) (p_.2.1) (p_.2.2)
theorem dom_Frontier.mono : ∀ y0 y1 y2 y3 k, LeO (dom_Frontier.f k y0 y1 y2 y3) (dom_Frontier.f (k + 1) y0 y1 y2 y3) := by
  intro y0 y1 y2 y3 k
  unfold dom_Frontier.f
  exact LeO.bind (dom_Frontier_a.mono _ _ _ _ _) (fun _ => dom_Frontier_b.mono _ _ _ _ _ _ _ _)
theorem dom_Frontier.wrap {w wc w' : World} {e : Ending} {r : List (List Int)} (hb : Below w.heap.size w wc) (q : ∃ v0_ : Value, e = .returned (v0_) ∧ Kd.S (Kd.slice 3 (Kd.int .i64)) 22 w' wc.heap.size (fun _ => True) v0_ r ∧ Below wc.heap.size wc w') : ∃ v0_ : Value, e = .returned (v0_) ∧ Kd.S (Kd.slice 3 (Kd.int .i64)) 22 w' w.heap.size (fun _ => True) v0_ r ∧ Below w.heap.size w w' := by
  obtain ⟨v0_, he, h1, hB⟩ := q
  exact ⟨v0_, he, Kd.S_lower h1 hb.size, below_step hb hB⟩
set_option maxHeartbeats 8000000 in
set_option maxRecDepth 100000 in
theorem dom_Frontier.calls (k : Nat) (a0_0 : Int) (a0_1 : Int) (A0_2 : Option Addr) (c0_2 : Nat) (l0_2 : List Int) (A0_3 : Option Addr) (c0_3 : Nat) (l0_3 : List (S52)) (r : List (List Int)) (w : World) (hr0_2 : Kd.C (Kd.int .i64) w A0_2 l0_2.length l0_2) (hc0_2 : l0_2.length ≤ c0_2) (hr0_3 : Kd.C k52 w A0_3 l0_3.length l0_3) (hc0_3 : l0_3.length ≤ c0_3) (h : dom_Frontier.f k a0_0 a0_1 l0_2 l0_3 = some r) :
    Calls Try.prog 13 #[.agg #[.int .i64 a0_0, .int .i64 a0_1, .slice A0_2 l0_2.length c0_2, .slice A0_3 l0_3.length c0_3]] w fun e w' => ∃ v0_ : Value, e = .returned (v0_) ∧ Kd.S (Kd.slice 3 (Kd.int .i64)) 22 w' w.heap.size (fun _ => True) v0_ r ∧ Below w.heap.size w w' := by
  obtain ⟨⟨l1, l2, l3⟩, hA_, hB_⟩ := Option.bind_eq_some_iff.mp h
  clear h
  have hu25 := Try.underlying25
  have HR0_2 := Aside0.mk hr0_2
  have HC0_2 := Aside0.mk hc0_2
  clear hr0_2 hc0_2
  have HR0_3 := Aside0.mk hr0_3
  have HC0_3 := Aside0.mk hc0_3
  clear hr0_3 hc0_3
  have HB := Aside0.mk (Below.refl w.heap.size w)
  have HA_ := Aside0.mk hA_
  have HBB_ := Aside0.mk hB_
  clear hA_ hB_
  go_enter Try.func13, Try.ntmps13
  go_upto_region 1 with (first | ((with_reducible refine gate_dst (N := 1) rfl ?_); refine box_event ?hg (N := 1) ?hd (cs := #[.int .i64 a0_0, .int .i64 a0_1, .slice A0_2 l0_2.length c0_2, .slice A0_3 l0_3.length c0_3]) (t := 25) ?hr ?_; (case hd => rfl); (case hg => rfl); (case hr => first | (go_simp; done) | (go_simp; rfl)); intro gb204 hg w5 hbox hb; have n0_ := Aside0.mk (below_step (by repeat with_reducible first | exact HB.out | apply below_alloc | apply pw_below_drewN | apply below_drew1) hb); have n1_ := Aside0.mk (hbox); have n2_ := Aside0.mk ((by rw [hg]; exact (below_size (by repeat with_reducible first | exact HB.out | apply below_alloc | apply pw_below_drewN | apply below_drew1)) : w.heap.size ≤ gb204)); have n3_ := Aside0.mk ((by rw [hg]; exact (below_size (by repeat with_reducible first | exact HB.out | apply below_alloc | apply pw_below_drewN | apply below_drew1)) : w.heap.size ≤ gb204)); clear HB; have HB := n0_; have BK204 := n1_; have GW204 := n2_; have GE204 := n3_; clear n0_ n1_ n2_ n3_; clear hb hbox hg))
  go_cut [3, 4, 5] (fun v3 v4 v5 wc => Aside0 (Kd.S (Kd.slice 3 (Kd.int .i64)) 22 wc w.heap.size (fun _ => True) v3 l1 ∧ Kd.R Kd.bool 4 wc w.heap.size (fun _ => True) v4 l2 ∧ Kd.S (Kd.slice 4 Kd.bool) 34 wc w.heap.size (fun k_ => some k_ ≠ (v4 : Value).ownBlock) v5 l3 ∧ Below w.heap.size w wc))
  case first =>
    have h := HA_.out
    clear HA_ HBB_
    have H : ((graph_Next.f k a0_0 a0_1 l0_2 l0_3).bind fun t205 => ((graph_Reached.f k a0_0 a0_1 l0_2 l0_3).bind fun t208 => ((dom_Dominates.f k a0_0 a0_1 l0_2 l0_3).bind fun t211 => (some (t205, t208, t211))))) = some (l1, l2, l3) := h
    clear h
    replace H := Option.bind_eq_some_iff.mp H
    obtain ⟨t205, A20, H⟩ := H
    replace H : ((graph_Reached.f k a0_0 a0_1 l0_2 l0_3).bind fun t208 => ((dom_Dominates.f k a0_0 a0_1 l0_2 l0_3).bind fun t211 => (some (t205, t208, t211)))) = some (l1, l2, l3) := H
    have A2 := Aside0.mk A20
    clear A20
    replace H := Option.bind_eq_some_iff.mp H
    obtain ⟨t208, A30, H⟩ := H
    replace H : ((dom_Dominates.f k a0_0 a0_1 l0_2 l0_3).bind fun t211 => (some (t205, t208, t211))) = some (l1, l2, l3) := H
    have A3 := Aside0.mk A30
    clear A30
    replace H := Option.bind_eq_some_iff.mp H
    obtain ⟨t211, A40, H⟩ := H
    replace H : (some (t205, t208, t211)) = some (l1, l2, l3) := H
    have A4 := Aside0.mk A40
    clear A40
    simp only [Option.some.injEq, Prod.mk.injEq] at H
    obtain ⟨rfl, rfl, rfl⟩ := H
    have n0_ := Aside0.mk (blk_drew BK204.out)
    have n1_ := Aside0.mk (below_drew1 HB.out)
    clear BK204
    clear HB
    have BK204 := n0_
    have HB := n1_
    clear n0_ n1_
    refine start_ (n := 9) (S := fun w' => w'.cell? ⟨gb204, 0, none⟩ = some (.int .i64 a0_0) ∧ w'.cell? ⟨gb204, 1, none⟩ = some (.int .i64 a0_1) ∧ w'.cell? ⟨gb204, 2, none⟩ = some (.slice A0_2 l0_2.length c0_2) ∧ w'.cell? ⟨gb204, 3, none⟩ = some (.slice A0_3 l0_3.length c0_3)) (ds := []) #[false, false, false, false, false, false, false, false, false] (by kernel_rfl) rfl rfl ⟨(blk_cell BK204.out 0).trans rfl, (blk_cell BK204.out 1).trans rfl, (blk_cell BK204.out 2).trans rfl, (blk_cell BK204.out 3).trans rfl⟩ (fun hHeld => ?_); refine with_tabW dom_Frontier_a.tab1 dom_Frontier_a.bits1 (fun HT_ HW_ => ?_)
    generalize w5.drew = w6 at BK204 HB hHeld ⊢
    refine tk 0 15 (bt 9 1) HT_.out HW_.out hHeld rfl rfl (by rintro w' ⟨s0, s1, s2, s3⟩; go_simp; with_reducible rfl) ?_
    refine tk 2 17 (bt 9 5) HT_.out HW_.out hHeld rfl rfl (by rintro w' ⟨s0, s1, s2, s3⟩; go_simp; with_reducible rfl) ?_
    refine tk 4 19 (bt 9 21) HT_.out HW_.out hHeld rfl rfl (by rintro w' ⟨s0, s1, s2, s3⟩; go_simp; with_reducible rfl) ?_
    refine one_ (i := 1) (N := some 16) (bt 9 23) rfl rfl (one_of HT_.out (by kernel_rfl)) (by decide) (fun K hK => ?_)
    refine goes_ Try.func31 (by kernel_rfl) rfl #[.agg #[.int .i64 a0_0, .int .i64 a0_1, .slice A0_2 l0_2.length c0_2, .slice A0_3 l0_3.length c0_3]] (by rfl) rfl rfl (by (try simp only [List.map_toArray, List.map_cons, List.map_nil]); first | done | rfl) ?_
    with_reducible refine (graph_Next.calls k a0_0 a0_1 _ _ l0_2 _ _ l0_3 t205 _ ?side1 ?side2 ?side3 ?side4 A2.out).mono ?_
    (case side1 => repeat (first | exact (C_below HR0_2.out HB.out) | (with_reducible refine C_alloc ?_ _) | (with_reducible refine C_drewN ?_ _) | (with_reducible refine C_drew ?_)))
    (case side2 => exact HC0_2.out)
    (case side3 => repeat (first | exact (C_below HR0_3.out HB.out) | (with_reducible refine C_alloc ?_ _) | (with_reducible refine C_drewN ?_ _) | (with_reducible refine C_drew ?_)))
    (case side4 => exact HC0_3.out)
    rintro e w7 ⟨v206, rfl, ho0, hb⟩
    refine ⟨_, rfl, ?_⟩
    have n0_ := Aside0.mk (Kd.S_lower ho0 (below_size (by repeat with_reducible first | exact HB.out | apply below_alloc | apply pw_below_drewN | apply below_drew1 | refine below_set ?_ GE204.out)))
    have n1_ := Aside0.mk (blk_below (g := gb204) (o := .cells #[.int .i64 a0_0, .int .i64 a0_1, .slice A0_2 l0_2.length c0_2, .slice A0_3 l0_3.length c0_3] 25 (0, 0)) (by (with_reducible repeat (first | refine blk_drewN ?_ _ | refine blk_drew ?_ | refine blk_alloc ?_ _)); exact BK204.out) hb)
    have n2_ := Aside0.mk (below_step (by repeat with_reducible first | exact HB.out | apply below_alloc | apply pw_below_drewN | apply below_drew1 | refine below_set ?_ GE204.out) hb)
    clear BK204
    clear HB
    have HO207 := n0_
    have BK204 := n1_
    have HB := n2_
    clear n0_ n1_ n2_
    (try clear hb)
    (try clear hb2)
    (try clear hk)
    (try clear hi)
    (try clear ho0)
    refine hK.out _ _ ⟨(blk_cell BK204.out 0).trans rfl, (blk_cell BK204.out 1).trans rfl, (blk_cell BK204.out 2).trans rfl, (blk_cell BK204.out 3).trans rfl⟩ (fun hHeld => ?_)
    clear hK K
    refine norm_ (a' := ?_) ?_ ?_
    rotate_left
    · show Act.put _ (some 16) _ = _
      simp only [Act.put, List.setIfInBounds_toArray, List.set_cons_zero, List.set_cons_succ, i64_w, i32_w]
      rfl
    refine one_ (i := 3) (N := some 18) (bt 9 31) rfl rfl (one_of HT_.out (by kernel_rfl)) (by decide) (fun K hK => ?_)
    refine goes_ Try.func32 (by kernel_rfl) rfl #[.agg #[.int .i64 a0_0, .int .i64 a0_1, .slice A0_2 l0_2.length c0_2, .slice A0_3 l0_3.length c0_3]] (by rfl) rfl rfl (by (try simp only [List.map_toArray, List.map_cons, List.map_nil]); first | done | rfl) ?_
    with_reducible refine (graph_Reached.calls k a0_0 a0_1 _ _ l0_2 _ _ l0_3 t208 _ ?side1 ?side2 ?side3 ?side4 A3.out).mono ?_
    (case side1 => repeat (first | exact (C_below HR0_2.out HB.out) | (with_reducible refine C_alloc ?_ _) | (with_reducible refine C_drewN ?_ _) | (with_reducible refine C_drew ?_)))
    (case side2 => exact HC0_2.out)
    (case side3 => repeat (first | exact (C_below HR0_3.out HB.out) | (with_reducible refine C_alloc ?_ _) | (with_reducible refine C_drewN ?_ _) | (with_reducible refine C_drew ?_)))
    (case side4 => exact HC0_3.out)
    rintro e w8 ⟨v209, rfl, ho0, hb⟩
    refine ⟨_, rfl, ?_⟩
    have n0_ := Aside0.mk (Kd.S_below (by (with_reducible repeat (first | apply S_alloc | apply S_drewN | apply S_drew)); exact HO207.out) hb)
    have n1_ := Aside0.mk (Kd.R_lower ho0 (below_size (by repeat with_reducible first | exact HB.out | apply below_alloc | apply pw_below_drewN | apply below_drew1 | refine below_set ?_ GE204.out)))
    have n2_ := Aside0.mk (blk_below (g := gb204) (o := .cells #[.int .i64 a0_0, .int .i64 a0_1, .slice A0_2 l0_2.length c0_2, .slice A0_3 l0_3.length c0_3] 25 (0, 0)) (by (with_reducible repeat (first | refine blk_drewN ?_ _ | refine blk_drew ?_ | refine blk_alloc ?_ _)); exact BK204.out) hb)
    have n3_ := Aside0.mk (below_step (by repeat with_reducible first | exact HB.out | apply below_alloc | apply pw_below_drewN | apply below_drew1 | refine below_set ?_ GE204.out) hb)
    clear HO207
    clear BK204
    clear HB
    have HO207 := n0_
    have HO210 := n1_
    have BK204 := n2_
    have HB := n3_
    clear n0_ n1_ n2_ n3_
    (try clear hb)
    (try clear hb2)
    (try clear hk)
    (try clear hi)
    (try clear ho0)
    refine hK.out _ _ ⟨(blk_cell BK204.out 0).trans rfl, (blk_cell BK204.out 1).trans rfl, (blk_cell BK204.out 2).trans rfl, (blk_cell BK204.out 3).trans rfl⟩ (fun hHeld => ?_)
    clear hK K
    refine norm_ (a' := ?_) ?_ ?_
    rotate_left
    · show Act.put _ (some 18) _ = _
      simp only [Act.put, List.setIfInBounds_toArray, List.set_cons_zero, List.set_cons_succ, i64_w, i32_w]
      rfl
    refine one_ (i := 5) (N := some 20) (bt 9 63) rfl rfl (one_of HT_.out (by kernel_rfl)) (by decide) (fun K hK => ?_)
    refine goes_ Try.func17 (by kernel_rfl) rfl #[.agg #[.int .i64 a0_0, .int .i64 a0_1, .slice A0_2 l0_2.length c0_2, .slice A0_3 l0_3.length c0_3]] (by rfl) rfl rfl (by (try simp only [List.map_toArray, List.map_cons, List.map_nil]); first | done | rfl) ?_
    with_reducible refine (dom_Dominates.calls k a0_0 a0_1 _ _ l0_2 _ _ l0_3 t211 _ ?side1 ?side2 ?side3 ?side4 A4.out).mono ?_
    (case side1 => repeat (first | exact (C_below HR0_2.out HB.out) | (with_reducible refine C_alloc ?_ _) | (with_reducible refine C_drewN ?_ _) | (with_reducible refine C_drew ?_)))
    (case side2 => exact HC0_2.out)
    (case side3 => repeat (first | exact (C_below HR0_3.out HB.out) | (with_reducible refine C_alloc ?_ _) | (with_reducible refine C_drewN ?_ _) | (with_reducible refine C_drew ?_)))
    (case side4 => exact HC0_3.out)
    rintro e w9 ⟨v212, rfl, ho0, hb⟩
    refine ⟨_, rfl, ?_⟩
    have n0_ := Aside0.mk (Kd.S_below (by (with_reducible repeat (first | apply S_alloc | apply S_drewN | apply S_drew)); exact HO207.out) hb)
    have n1_ := Aside0.mk (Kd.R_below (by (with_reducible repeat (first | apply R_alloc | apply R_drewN | apply R_drew)); exact HO210.out) hb)
    have n2_ := Aside0.mk (Kd.S_lower (Kd.S_new' ho0 (R_lt (by (with_reducible repeat (first | apply R_alloc | apply R_drewN | apply R_drew)); exact HO210.out))) (below_size (by repeat with_reducible first | exact HB.out | apply below_alloc | apply pw_below_drewN | apply below_drew1 | refine below_set ?_ GE204.out)))
    have n3_ := Aside0.mk (blk_below (g := gb204) (o := .cells #[.int .i64 a0_0, .int .i64 a0_1, .slice A0_2 l0_2.length c0_2, .slice A0_3 l0_3.length c0_3] 25 (0, 0)) (by (with_reducible repeat (first | refine blk_drewN ?_ _ | refine blk_drew ?_ | refine blk_alloc ?_ _)); exact BK204.out) hb)
    have n4_ := Aside0.mk (below_step (by repeat with_reducible first | exact HB.out | apply below_alloc | apply pw_below_drewN | apply below_drew1 | refine below_set ?_ GE204.out) hb)
    clear HO207
    clear HO210
    clear BK204
    clear HB
    have HO207 := n0_
    have HO210 := n1_
    have HO213 := n2_
    have BK204 := n3_
    have HB := n4_
    clear n0_ n1_ n2_ n3_ n4_
    (try clear hb)
    (try clear hb2)
    (try clear hk)
    (try clear hi)
    (try clear ho0)
    refine hK.out _ _ ⟨(blk_cell BK204.out 0).trans rfl, (blk_cell BK204.out 1).trans rfl, (blk_cell BK204.out 2).trans rfl, (blk_cell BK204.out 3).trans rfl⟩ (fun hHeld => ?_)
    clear hK K
    refine norm_ (a' := ?_) ?_ ?_
    rotate_left
    · show Act.put _ (some 20) _ = _
      simp only [Act.put, List.setIfInBounds_toArray, List.set_cons_zero, List.set_cons_succ, i64_w, i32_w]
      rfl
    refine pu 6 3 (bt 9 127) HT_.out ?_
    refine pu 7 4 (bt 9 255) HT_.out ?_
    refine pu 8 5 (bt 9 511) HT_.out ?_
    refine done_ (done_of HT_.out (by kernel_rfl)) ?_
    try go_wp2
    go_meet
    case rel => exact ⟨⟨by (with_reducible repeat (first | apply S_alloc | apply S_drewN | apply S_drew)); exact HO207.out, by (with_reducible repeat (first | apply R_alloc | apply R_drewN | apply R_drew)); exact HO210.out, by (with_reducible repeat (first | apply S_alloc | apply S_drewN | apply S_drew)); exact S_mono HO213.out (fun _ hk => hk.2), by repeat (first | (with_reducible first | exact HB.out | apply below_alloc | apply pw_below_drewN | apply below_drew1 | refine below_set ?_ GE204.out) | exact HB.out)⟩⟩
  have hcut_ := hcut.out
  clear hcut HA_
  obtain ⟨hx0_, hx1_, hx2_, hBw_⟩ := hcut_
  have HBW_ := Aside0.mk hBw_
  have h := HBB_.out
  clear HBB_
  obtain ⟨A1, c1, he1_, hc1, hr1⟩ := Kd.S_reads hx0_
  subst he1_
  clear hx0_
  obtain ⟨A2, c2, he2_, hc2, hr2⟩ := Kd.R_reads hx1_
  subst he2_
  clear hx1_
  obtain ⟨A3, c3, he3_, hc3, hr3⟩ := Kd.S_reads hx2_
  subst he3_
  clear hx2_
  have hr0_2 := C_below HR0_2.out hBw_
  clear HR0_2
  have hc0_2 := HC0_2.out
  clear HC0_2
  have hr0_3 := C_below HR0_3.out hBw_
  clear HR0_3
  have hc0_3 := HC0_3.out
  clear HC0_3
  clear hBw_
  clear HB
  have HR0_2 := Aside0.mk hr0_2
  have HC0_2 := Aside0.mk hc0_2
  clear hr0_2 hc0_2
  have HR0_3 := Aside0.mk hr0_3
  have HC0_3 := Aside0.mk hc0_3
  clear hr0_3 hc0_3
  have HR1 := Aside0.mk hr1
  have HC1 := Aside0.mk hc1
  clear hr1 hc1
  have HR2 := Aside0.mk hr2
  have HC2 := Aside0.mk hc2
  clear hr2 hc2
  have HR3 := Aside0.mk hr3
  have HC3 := Aside0.mk hc3
  clear hr3 hc3
  have HB := Aside0.mk (Below.refl wc.heap.size wc)
  have H : (if 0 ≤ (l1.length : Int) then (if ((l1.length : Int) : Int).toNat ≤ 11728124029610 then ((some (List.replicate ((l1.length : Int) : Int).toNat [] : List (List Int))).bind fun y214 => (dom_Frontier_b.l0 k l1 l2 l3 y214 (y214.length : Int) 0)) else (none)) else (none)) = some r := h
  clear h
  by_cases c5 : 0 ≤ (l1.length : Int)
  rotate_left
  · rw [if_neg c5] at H
    exact absurd H (by simp)


  rw [if_pos c5] at H
  have c5b0 := eq_true c5
  have c5b1 : decide (0 ≤ (l1.length : Int)) = true := decide_eq_true c5
  clear c5
  by_cases c6 : ((l1.length : Int) : Int).toNat ≤ 11728124029610
  rotate_left
  · rw [if_neg c6] at H
    exact absurd H (by simp)
  rw [if_pos c6] at H
  have c6b0 := eq_true c6
  have c6b1 : decide (((l1.length : Int) : Int).toNat ≤ 11728124029610) = true := decide_eq_true c6
  clear c6
  obtain ⟨y214, hy214⟩ : ∃ y_ : List (List Int), y_ = (List.replicate ((l1.length : Int) : Int).toNat []) := ⟨_, rfl⟩
  replace H : (dom_Frontier_b.l0 k l1 l2 l3 y214 (y214.length : Int) 0) = some r := by first | (rw [hy214]; with_reducible exact H) | (have H2_ := (Option.bind_some _ _).symm.trans H; rw [hy214]; with_reducible exact H2_) | exact H
  have Ny214 := Aside0.mk hy214
  clear hy214
  have H' := Aside0.mk H
  clear H
  go_wp2_with (first | ((with_reducible refine gate_dst (N := 23) rfl ?_); refine Kd.S_make (Kd.slice 3 (Kd.int .i64)) _ 22 rfl (N := 23) rfl 28 _ _ rfl (l1.length : Int) rfl rfl Try.underlying28 (.slice none 0 0) 24 info22 rfl (by decide) (by omega) [] (ok := fun _ => True) (okp := fun _ => True) ⟨_, rfl, Kd.R_nil _ _ _ _ _⟩ (fun _ hk => hk) trivial (of_decide_eq_true (by with_reducible assumption)) (Nat.le_trans (Nat.mul_le_mul_right _ (of_decide_eq_true (by with_reducible assumption) : (l1.length : Int).toNat ≤ 11728124029610)) (by omega)) (Below.refl _ _) (Nat.le_refl _) ?_; intro v215 w7 ho8 hb hg_ hnew_; clear hg_ hnew_; rw [← Ny214.out] at ho8; have n0_ := Aside0.mk (Kd.S_lower ho8 (below_size (by repeat with_reducible first | exact HB.out | apply below_alloc | apply pw_below_drewN | apply below_drew1))); have n1_ := Aside0.mk (below_step (by repeat with_reducible first | exact HB.out | apply below_alloc | apply pw_below_drewN | apply below_drew1) hb); clear HB; have HO216 := n0_; have HB := n1_; clear n0_ n1_; clear hb ho8; obtain ⟨Ao9, co9, eo9⟩ := Kd.S_slice HO216.out; subst eo9))
  go_loopg [26] k (fun kq v26 w' => ∃ (x6_1 : List (List Int)) (x26_1 : Int), v26 = .int .i64 x26_1 ∧ Aside0 (dom_Frontier_b.l0 kq l1 l2 l3 x6_1 (y214.length : Int) x26_1 = some r) ∧ Aside0 (kq ≤ k) ∧ Aside0 (Kd.S (Kd.slice 3 (Kd.int .i64)) 22 w' wc.heap.size (fun _ => True) (.slice Ao9 y214.length co9) x6_1) ∧ Aside0 (Below wc.heap.size wc w'))
  case atStart => exact ⟨(y214), (0), (by first | rfl | (simp; done) | (simp [*]; done)), H', ⟨Nat.le_refl _⟩, ⟨by (with_reducible repeat (first | apply S_alloc | apply S_drewN | apply S_drew)); exact HO216.out⟩, ⟨by repeat (first | (with_reducible first | exact HB.out | apply below_alloc | apply pw_below_drewN | apply below_drew1) | exact HB.out)⟩⟩
  clear H'
  try clear c1
  try clear c2
  try clear p2
  try clear c3
  try clear c5
  try clear c5b0
  try clear c5b1
  try clear c6
  try clear c6b0
  try clear c6b1
  obtain ⟨x6_1, x26_1, rfl, HA, HK1, HO_6, HB⟩ := hrel
  have hl6_1 := (S_reads' HO_6.out).1
  rw [hl6_1] at HO_6
  (try simp only [hl6_1])
  rcases gk with _ | k1
  · exact absurd HA.out (by simp [dom_Frontier_b.l0])
  have H := HA.out
  clear HA
  simp only [dom_Frontier_b.l0] at H
  by_cases c10 : x26_1 < (y214.length : Int)
  rotate_left
  · rw [if_neg c10] at H
    have c10b0 : decide (x26_1 < (y214.length : Int)) = false := decide_eq_false c10
    (try simp only [hl6_1] at c10b0)
    clear c10
    obtain rfl := Option.some.inj H
    go_wp2
    go_ret
    exact dom_Frontier.wrap HBW_.out ⟨_, by first | rfl | (simp [errW_none, errW_some] <;> rfl) | (simp [*, errW_none, errW_some] <;> rfl), by (with_reducible repeat (first | apply S_alloc | apply S_drewN | apply S_drew)); exact HO_6.out, by repeat (first | (with_reducible first | exact HB.out | apply below_alloc | apply pw_below_drewN | apply below_drew1) | exact HB.out)⟩
  rw [if_pos c10] at H
  have c10b0 : decide (x26_1 < (y214.length : Int)) = true := decide_eq_true c10
  have c10b0l := c10b0
  (try simp only [hl6_1] at c10b0l)
  clear c10
  by_cases c11 : 0 ≤ (l1.length : Int)
  rotate_left
  · rw [if_neg c11] at H
    exact absurd H (by simp)
  rw [if_pos c11] at H
  have c11b0 := eq_true c11
  have c11b1 : decide (0 ≤ (l1.length : Int)) = true := decide_eq_true c11
  clear c11
  by_cases c12 : ((l1.length : Int) : Int).toNat ≤ 281474976710656
  rotate_left
  · rw [if_neg c12] at H
    exact absurd H (by simp)
  rw [if_pos c12] at H
  have c12b0 := eq_true c12
  have c12b1 : decide (((l1.length : Int) : Int).toNat ≤ 281474976710656) = true := decide_eq_true c12
  clear c12
  obtain ⟨y217, hy217⟩ : ∃ y_ : List Bool, y_ = (List.replicate ((l1.length : Int) : Int).toNat false) := ⟨_, rfl⟩
  replace H : (dom_Frontier_b.l1 k1 l1 l2 l3 x6_1 x26_1 y217 (y214.length : Int) x26_1 l1 (l1.length : Int) 0) = some r := by first | (rw [hy217]; with_reducible exact H) | (have H2_ := (Option.bind_some _ _).symm.trans H; rw [hy217]; with_reducible exact H2_) | exact H
  have Ny217 := Aside0.mk hy217
  clear hy217
  have H' := Aside0.mk H
  clear H
  go_wp2_with (first | ((with_reducible refine gate_dst (N := 31) rfl ?_); refine Kd.R_make Kd.bool _ 4 rfl (N := 31) rfl 34 _ _ rfl (l1.length : Int) rfl rfl Try.underlying34 (.bool false) 1 info4 rfl (by decide) (by omega) false (ok := fun _ => True) (okp := fun _ => True) rfl (fun _ hk => hk) trivial (of_decide_eq_true (by with_reducible assumption)) (Nat.le_trans (Nat.mul_le_mul_right _ (of_decide_eq_true (by with_reducible assumption) : (l1.length : Int).toNat ≤ 281474976710656)) (by omega)) (Below.refl _ _) (Nat.le_refl _) ?_; intro v218 w13 ho14 hb hg_ hnew_; clear hg_ hnew_; rw [← Ny217.out] at ho14; have n0_ := Aside0.mk (Kd.S_below (by (with_reducible repeat (first | apply S_alloc | apply S_drewN | apply S_drew)); exact HO_6.out) hb); have n1_ := Aside0.mk (Kd.R_lower ho14 (below_size (by repeat with_reducible first | exact HB.out | apply below_alloc | apply pw_below_drewN | apply below_drew1))); have n2_ := Aside0.mk (below_step (by repeat with_reducible first | exact HB.out | apply below_alloc | apply pw_below_drewN | apply below_drew1) hb); clear HO_6; clear HB; have HO_6 := n0_; have HO219 := n1_; have HB := n2_; clear n0_ n1_ n2_; clear hb ho14))
  go_loopg [34] k1 (fun kq v34 w' => ∃ (x8_2 : List Bool) (x34_2 : Int), v34 = .int .i64 x34_2 ∧ Aside0 (dom_Frontier_b.l1 kq l1 l2 l3 x6_1 x26_1 x8_2 (y214.length : Int) x26_1 l1 (l1.length : Int) x34_2 = some r) ∧ Aside0 (kq ≤ k1) ∧ Aside0 (Kd.S (Kd.slice 3 (Kd.int .i64)) 22 w' wc.heap.size (fun _ => True) (.slice Ao9 x6_1.length co9) x6_1) ∧ Aside0 (Kd.R Kd.bool 4 w' wc.heap.size (fun _ => True) v218 x8_2) ∧ Aside0 (Below wc.heap.size wc w'))
  case atStart => exact ⟨(y217), (0), (by first | rfl | (simp; done) | (simp [*]; done)), H', ⟨Nat.le_refl _⟩, ⟨by (try simp only [hl6_1]); (with_reducible repeat (first | apply S_alloc | apply S_drewN | apply S_drew)); exact HO_6.out⟩, ⟨by (try simp only [hl6_1]); (with_reducible repeat (first | apply R_alloc | apply R_drewN | apply R_drew)); exact HO219.out⟩, ⟨by repeat (first | (with_reducible first | exact HB.out | apply below_alloc | apply pw_below_drewN | apply below_drew1) | exact HB.out)⟩⟩
  clear H'
  try clear c1
  try clear c2
  try clear p2
  try clear c3
  try clear c5
  try clear c5b0
  try clear c5b1
  try clear c6
  try clear c6b0
  try clear c6b1
  try clear c10
  try clear c10b0
  try clear c11
  try clear c11b0
  try clear c11b1
  try clear c12
  try clear c12b0
  try clear c12b1
  try clear c13
  try clear p2
  obtain ⟨x8_2, x34_2, rfl, HA, HK2, HO_6, HO_8, HB⟩ := hrel
  rcases gk with _ | k2
  · exact absurd HA.out (by simp [dom_Frontier_b.l1])
  have H := HA.out
  clear HA
  simp only [dom_Frontier_b.l1] at H
  by_cases c15 : x34_2 < (l1.length : Int)
  · rw [if_pos c15] at H
    have c15b0 : decide (x34_2 < (l1.length : Int)) = true := decide_eq_true c15
    have c15b0l := c15b0
    (try simp only [hl6_1] at c15b0l)
    clear c15
    by_cases c16 : 0 ≤ x34_2
    rotate_left
    · rw [if_neg c16] at H
      exact absurd H (by simp)
    rw [if_pos c16] at H
    have c16b0 : decide (0 ≤ x34_2) = true := decide_eq_true c16
    clear c16
    by_cases c17 : x34_2 < (l1.length : Int)
    rotate_left
    · rw [if_neg c17] at H
      exact absurd H (by simp)
    rw [if_pos c17] at H
    have c17b0 : decide (x34_2 < (l1.length : Int)) = true := decide_eq_true c17
    have c17b0l := c17b0
    (try simp only [hl6_1] at c17b0l)
    clear c17
    have H' := Aside0.mk H
    clear H
    have p220 : 0 ≤ (x34_2 : Int) := of_decide_eq_true (by with_reducible assumption)
    have q220 : x34_2 < (l1.length : Int) := of_decide_eq_true (by with_reducible assumption)
    obtain ⟨ad220, A220_0, c220_0, e220, hx220_0, hl220_0, hi220_0⟩ := at_L1 HR1.out x34_2 p220 q220
    cases e220
    replace hx220_0 := (HB.out.cell (World.block_lt_of_cell? wc _ hx220_0)).trans hx220_0
    have HR220_0 := Aside0.mk hi220_0
    have HC220_0 := Aside0.mk hl220_0
    clear hi220_0 hl220_0
    replace p220 := eq_true p220
    replace q220 := eq_true q220
    go_wp2
    go_loopg [41] k2 (fun kq v41 w' => ∃ (x8_3 : List Bool) (x41_3 : Int), v41 = .int .i64 x41_3 ∧ Aside0 (dom_Frontier_b.l2 kq l1 l2 l3 x6_1 x26_1 x8_3 x34_2 (y214.length : Int) x26_1 l1 (l1.length : Int) x34_2 (rd_L1 l1 x34_2) ((rd_L1 l1 x34_2).length : Int) x41_3 = some r) ∧ Aside0 (kq ≤ k2) ∧ Aside0 (Kd.S (Kd.slice 3 (Kd.int .i64)) 22 w' wc.heap.size (fun _ => True) (.slice Ao9 x6_1.length co9) x6_1) ∧ Aside0 (Kd.R Kd.bool 4 w' wc.heap.size (fun _ => True) v218 x8_3) ∧ Aside0 (Below wc.heap.size wc w'))
    case atStart => exact ⟨(x8_2), (0), (by first | rfl | (simp; done) | (simp [*]; done)), H', ⟨Nat.le_refl _⟩, ⟨by (try simp only [hl6_1]); (with_reducible repeat (first | apply S_alloc | apply S_drewN | apply S_drew)); exact HO_6.out⟩, ⟨by (try simp only [hl6_1]); (with_reducible repeat (first | apply R_alloc | apply R_drewN | apply R_drew)); exact HO_8.out⟩, ⟨by repeat (first | (with_reducible first | exact HB.out | apply below_alloc | apply pw_below_drewN | apply below_drew1) | exact HB.out)⟩⟩
    clear H'
    try clear c1
    try clear c2
    try clear p2
    try clear q2
    try clear hx2
    try clear c3
    try clear c5
    try clear c5b0
    try clear c5b1
    try clear c6
    try clear c6b0
    try clear c6b1
    try clear c10
    try clear c10b0
    try clear c11
    try clear c11b0
    try clear c11b1
    try clear c12
    try clear c12b0
    try clear c12b1
    try clear c13
    try clear c15
    try clear c15b0
    try clear c16
    try clear c16b0
    try clear c17
    try clear c17b0
    try clear hx220_0
    try clear p2
    try clear p220
    try clear q220
    obtain ⟨x8_3, x41_3, rfl, HA, HK3, HO_6, HO_8, HB⟩ := hrel
    rcases gk with _ | k3
    · exact absurd HA.out (by simp [dom_Frontier_b.l2])
    have H := HA.out
    clear HA
    simp only [dom_Frontier_b.l2] at H
    by_cases c18 : x41_3 < ((rd_L1 l1 x34_2).length : Int)
    · rw [if_pos c18] at H
      have c18b0 : decide (x41_3 < ((rd_L1 l1 x34_2).length : Int)) = true := decide_eq_true c18
      have c18b0l := c18b0
      (try simp only [hl6_1] at c18b0l)
      clear c18
      by_cases c19 : 0 ≤ x41_3
      rotate_left
      · rw [if_neg c19] at H
        exact absurd H (by simp)
      rw [if_pos c19] at H
      have c19b0 : decide (0 ≤ x41_3) = true := decide_eq_true c19
      clear c19
      by_cases c20 : x41_3 < ((rd_L1 l1 x34_2).length : Int)
      rotate_left
      · rw [if_neg c20] at H
        exact absurd H (by simp)
      rw [if_pos c20] at H
      have c20b0 : decide (x41_3 < ((rd_L1 l1 x34_2).length : Int)) = true := decide_eq_true c20
      have c20b0l := c20b0
      (try simp only [hl6_1] at c20b0l)
      clear c20
      by_cases c21 : 0 ≤ (rd (rd_L1 l1 x34_2) x41_3)
      rotate_left
      · rw [if_neg c21] at H
        exact absurd H (by simp)
      rw [if_pos c21] at H
      have c21b0 : decide (0 ≤ (rd (rd_L1 l1 x34_2) x41_3)) = true := decide_eq_true c21
      clear c21
      by_cases c22 : (rd (rd_L1 l1 x34_2) x41_3) < (x8_3.length : Int)
      rotate_left
      · rw [if_neg c22] at H
        exact absurd H (by simp)
      rw [if_pos c22] at H
      have c22b0 : decide ((rd (rd_L1 l1 x34_2) x41_3) < (x8_3.length : Int)) = true := decide_eq_true c22
      have c22b0l := c22b0
      (try simp only [hl6_1] at c22b0l)
      clear c22
      obtain ⟨bq23, hbq23⟩ : ∃ b_ : Bool, b_ = (rdOf false x8_3 (rd (rd_L1 l1 x34_2) x41_3)) := ⟨_, rfl⟩
      replace H : (if bq23 = true then (dom_Frontier_b.l2 k3 l1 l2 l3 x6_1 x26_1 (x8_3.set ((rd (rd_L1 l1 x34_2) x41_3) : Int).toNat true) x34_2 (y214.length : Int) x26_1 l1 (l1.length : Int) x34_2 (rd_L1 l1 x34_2) ((rd_L1 l1 x34_2).length : Int) (wrap64 (x41_3 + 1))) else (if 0 ≤ x26_1 then (if x26_1 < (l3.length : Int) then (if 0 ≤ x34_2 then (if x34_2 < ((rd_L11 l3 x26_1).length : Int) then (dom_Frontier_b.l2 k3 l1 l2 l3 x6_1 x26_1 (x8_3.set ((rd (rd_L1 l1 x34_2) x41_3) : Int).toNat (rdOf false (rd_L11 l3 x26_1) x34_2)) x34_2 (y214.length : Int) x26_1 l1 (l1.length : Int) x34_2 (rd_L1 l1 x34_2) ((rd_L1 l1 x34_2).length : Int) (wrap64 (x41_3 + 1))) else (none)) else (none)) else (none)) else (none))) = some r := by rw [← hbq23] at H; exact H
      have Nbq23 := Aside0.mk hbq23
      clear hbq23
      by_cases c24 : bq23 = true
      · subst c24
        have H1 : (dom_Frontier_b.l2 k3 l1 l2 l3 x6_1 x26_1 (x8_3.set ((rd (rd_L1 l1 x34_2) x41_3) : Int).toNat true) x34_2 (y214.length : Int) x26_1 l1 (l1.length : Int) x34_2 (rd_L1 l1 x34_2) ((rd_L1 l1 x34_2).length : Int) (wrap64 (x41_3 + 1))) = some r := by rw [if_pos rfl] at H; exact H
        clear H
        have H := H1
        clear H1
        obtain ⟨y223, hy223⟩ : ∃ y_ : List Bool, y_ = (x8_3.set ((rd (rd_L1 l1 x34_2) x41_3) : Int).toNat true) := ⟨_, rfl⟩
        replace H : (dom_Frontier_b.l2 k3 l1 l2 l3 x6_1 x26_1 y223 x34_2 (y214.length : Int) x26_1 l1 (l1.length : Int) x34_2 (rd_L1 l1 x34_2) ((rd_L1 l1 x34_2).length : Int) (wrap64 (x41_3 + 1))) = some r := by first | (rw [hy223]; with_reducible exact H) | (have H2_ := (Option.bind_some _ _).symm.trans H; rw [hy223]; with_reducible exact H2_) | exact H
        have Ny223 := Aside0.mk hy223
        clear hy223
        have H' := Aside0.mk H
        clear H
        have p221 : 0 ≤ (x41_3 : Int) := of_decide_eq_true (by with_reducible assumption)
        have q221 : x41_3 < ((rd_L1 l1 x34_2).length : Int) := of_decide_eq_true (by with_reducible assumption)
        obtain ⟨ad221, e221, hx221_0⟩ := Kd.at_int HR220_0.out x41_3 p221 q221
        cases e221
        replace hx221_0 := (HB.out.cell (World.block_lt_of_cell? wc _ hx221_0)).trans hx221_0
        replace p221 := eq_true p221
        replace q221 := eq_true q221
        obtain ⟨Ao26, co26, eo26⟩ := Kd.R_slice HO_8.out
        subst eo26
        have p222 : 0 ≤ ((rd (rd_L1 l1 x34_2) x41_3) : Int) := of_decide_eq_true (by with_reducible assumption)
        have q222 : (rd (rd_L1 l1 x34_2) x41_3) < (x8_3.length : Int) := of_decide_eq_true (by with_reducible assumption)
        obtain ⟨ad222, e222, hx222_0⟩ := Kd.at_bool (R_reads' HO_8.out).2.2 (rd (rd_L1 l1 x34_2) x41_3) p222 q222
        (try rw [← Nbq23.out] at hx222_0)
        cases e222
        replace p222 := eq_true p222
        replace q222 := eq_true q222
        have p25 : 0 ≤ ((rd (rd_L1 l1 x34_2) x41_3) : Int) := of_decide_eq_true (by with_reducible assumption)
        have q25 : ((rd (rd_L1 l1 x34_2) x41_3) : Int) < ((x8_3.length : Int) : Int) := of_decide_eq_true (by with_reducible assumption)
        obtain ⟨go25, co25, eo25, gb25, gl25, cl25, HG25⟩ := Kd.R_form HO_8.out (by omega)
        (first | cases eo25 | (injection eo25 with ea_ en_ ec_; (first | subst ea_ | (injection ea_ with ea_; subst ea_)); subst ec_; clear en_))
        have GB25 := Aside0.mk gb25
        have GG25 := Aside0.mk HG25
        clear gb25 gl25 HG25
        (first | simp only [add_plain] at hx222_0 | skip)
        obtain ⟨hx25_0, hf25_0⟩ := Kd.R_celln false HO_8.out ((rd (rd_L1 l1 x34_2) x41_3) : Int) p25 q25
        replace p25 := eq_true p25
        replace q25 := eq_true q25
        have HP27 := Kd.R_putg HO_8.out ((rd (rd_L1 l1 x34_2) x41_3) : Int) true
        go_wp2_with (first | ((with_reducible refine gate_store (t := 4) (p := 60) rfl ?_); refine store_event (t := 4) (p := 60) (v := ?vo_w28) (w1 := (wr.setCell ⟨go25, ((rd (rd_L1 l1 x34_2) x41_3) : Int).toNat, none⟩ (.bool true))) ?hg ?ho ?hn ?hr ?_; (case ho => rfl); (case hg => rfl); (case hn => rfl); (case hr => first | (go_simp; done) | (go_simp; rfl)); intro w28 hw; have hg : wr.grownBy w28 (some go25) := (by rw [hw]; exact HP27.2); have hp_ : Kd.R Kd.bool 4 w28 wc.heap.size (fun _ => True) (.slice (some ⟨go25, 0, none⟩) x8_3.length co26) y223 := (by rw [hw, Ny223.out]; exact HP27.1); clear HP27; have n0_ := Aside0.mk (Kd.S_over' (v := (.slice (some ⟨go25, 0, none⟩) x8_3.length co26)) (by (with_reducible repeat (first | apply S_alloc | apply S_drewN | apply S_drew)); exact HO_6.out) (Kd.R_typed HO_8.out) (by decide) hg); have n1_ := Aside0.mk (hp_); have n2_ := Aside0.mk ((by rw [hw]; exact below_set (HB.out) GB25.out : Below wc.heap.size wc w28)); clear HO_6; clear HO_8; clear HB; have HO_6 := n0_; have HO_8 := n1_; have HB := n2_; clear n0_ n1_ n2_; clear hg hw hp_))
        go_roundg k3
        case measure => have := HK1.out; have := HK2.out; have := HK3.out; omega
        case rel => exact ⟨(y223), (wrap64 (x41_3 + 1)), (by first | rfl | (simp; done) | (simp [*]; done)), H', ⟨by have := HK1.out; have := HK2.out; have := HK3.out; omega⟩, ⟨by (try simp only [hl6_1]); (with_reducible repeat (first | apply S_alloc | apply S_drewN | apply S_drew)); exact HO_6.out⟩, ⟨by (try simp only [hl6_1]); (with_reducible repeat (first | apply R_alloc | apply R_drewN | apply R_drew)); exact HO_8.out⟩, ⟨by repeat (first | (with_reducible first | exact HB.out | apply below_alloc | apply pw_below_drewN | apply below_drew1) | exact HB.out)⟩⟩
      replace c24 := Bool.eq_false_iff.mpr c24
      subst c24
      have H1 : (if 0 ≤ x26_1 then (if x26_1 < (l3.length : Int) then (if 0 ≤ x34_2 then (if x34_2 < ((rd_L11 l3 x26_1).length : Int) then (dom_Frontier_b.l2 k3 l1 l2 l3 x6_1 x26_1 (x8_3.set ((rd (rd_L1 l1 x34_2) x41_3) : Int).toNat (rdOf false (rd_L11 l3 x26_1) x34_2)) x34_2 (y214.length : Int) x26_1 l1 (l1.length : Int) x34_2 (rd_L1 l1 x34_2) ((rd_L1 l1 x34_2).length : Int) (wrap64 (x41_3 + 1))) else (none)) else (none)) else (none)) else (none)) = some r := by rw [if_neg (show ¬ (false = true) by decide)] at H; exact H
      clear H
      have H := H1
      clear H1
      by_cases c29 : 0 ≤ x26_1
      rotate_left
      · rw [if_neg c29] at H
        exact absurd H (by simp)
      rw [if_pos c29] at H
      have c29b0 : decide (0 ≤ x26_1) = true := decide_eq_true c29
      clear c29
      by_cases c30 : x26_1 < (l3.length : Int)
      rotate_left
      · rw [if_neg c30] at H
        exact absurd H (by simp)
      rw [if_pos c30] at H
      have c30b0 : decide (x26_1 < (l3.length : Int)) = true := decide_eq_true c30
      have c30b0l := c30b0
      (try simp only [hl6_1] at c30b0l)
      clear c30
      by_cases c31 : 0 ≤ x34_2
      rotate_left
      · rw [if_neg c31] at H
        exact absurd H (by simp)
      rw [if_pos c31] at H
      have c31b0 : decide (0 ≤ x34_2) = true := decide_eq_true c31
      clear c31
      by_cases c32 : x34_2 < ((rd_L11 l3 x26_1).length : Int)
      rotate_left
      · rw [if_neg c32] at H
        exact absurd H (by simp)
      rw [if_pos c32] at H
      have c32b0 : decide (x34_2 < ((rd_L11 l3 x26_1).length : Int)) = true := decide_eq_true c32
      have c32b0l := c32b0
      (try simp only [hl6_1] at c32b0l)
      clear c32
      obtain ⟨y226, hy226⟩ : ∃ y_ : List Bool, y_ = (x8_3.set ((rd (rd_L1 l1 x34_2) x41_3) : Int).toNat (rdOf false (rd_L11 l3 x26_1) x34_2)) := ⟨_, rfl⟩
      replace H : (dom_Frontier_b.l2 k3 l1 l2 l3 x6_1 x26_1 y226 x34_2 (y214.length : Int) x26_1 l1 (l1.length : Int) x34_2 (rd_L1 l1 x34_2) ((rd_L1 l1 x34_2).length : Int) (wrap64 (x41_3 + 1))) = some r := by first | (rw [hy226]; with_reducible exact H) | (have H2_ := (Option.bind_some _ _).symm.trans H; rw [hy226]; with_reducible exact H2_) | exact H
      have Ny226 := Aside0.mk hy226
      clear hy226
      have H' := Aside0.mk H
      clear H
      have p221 : 0 ≤ (x41_3 : Int) := of_decide_eq_true (by with_reducible assumption)
      have q221 : x41_3 < ((rd_L1 l1 x34_2).length : Int) := of_decide_eq_true (by with_reducible assumption)
      obtain ⟨ad221, e221, hx221_0⟩ := Kd.at_int HR220_0.out x41_3 p221 q221
      cases e221
      replace hx221_0 := (HB.out.cell (World.block_lt_of_cell? wc _ hx221_0)).trans hx221_0
      replace p221 := eq_true p221
      replace q221 := eq_true q221
      obtain ⟨Ao34, co34, eo34⟩ := Kd.R_slice HO_8.out
      subst eo34
      have p222 : 0 ≤ ((rd (rd_L1 l1 x34_2) x41_3) : Int) := of_decide_eq_true (by with_reducible assumption)
      have q222 : (rd (rd_L1 l1 x34_2) x41_3) < (x8_3.length : Int) := of_decide_eq_true (by with_reducible assumption)
      obtain ⟨ad222, e222, hx222_0⟩ := Kd.at_bool (R_reads' HO_8.out).2.2 (rd (rd_L1 l1 x34_2) x41_3) p222 q222
      (try rw [← Nbq23.out] at hx222_0)
      cases e222
      replace p222 := eq_true p222
      replace q222 := eq_true q222
      have p224 : 0 ≤ (x26_1 : Int) := of_decide_eq_true (by with_reducible assumption)
      have q224 : x26_1 < (l3.length : Int) := of_decide_eq_true (by with_reducible assumption)
      obtain ⟨ad224, A224_0, c224_0, e224, hx224_0, hl224_0, hi224_0⟩ := at_L11 HR3.out x26_1 p224 q224
      cases e224
      replace hx224_0 := (HB.out.cell (World.block_lt_of_cell? wc _ hx224_0)).trans hx224_0
      have HR224_0 := Aside0.mk hi224_0
      have HC224_0 := Aside0.mk hl224_0
      clear hi224_0 hl224_0
      replace p224 := eq_true p224
      replace q224 := eq_true q224
      have p225 : 0 ≤ (x34_2 : Int) := of_decide_eq_true (by with_reducible assumption)
      have q225 : x34_2 < ((rd_L11 l3 x26_1).length : Int) := of_decide_eq_true (by with_reducible assumption)
      obtain ⟨ad225, e225, hx225_0⟩ := Kd.at_bool HR224_0.out x34_2 p225 q225
      (try rw [← Nbq23.out] at hx225_0)
      cases e225
      replace hx225_0 := (HB.out.cell (World.block_lt_of_cell? wc _ hx225_0)).trans hx225_0
      replace p225 := eq_true p225
      replace q225 := eq_true q225
      have p33 : 0 ≤ ((rd (rd_L1 l1 x34_2) x41_3) : Int) := of_decide_eq_true (by with_reducible assumption)
      have q33 : ((rd (rd_L1 l1 x34_2) x41_3) : Int) < ((x8_3.length : Int) : Int) := of_decide_eq_true (by with_reducible assumption)
      obtain ⟨go33, co33, eo33, gb33, gl33, cl33, HG33⟩ := Kd.R_form HO_8.out (by omega)
      (first | cases eo33 | (injection eo33 with ea_ en_ ec_; (first | subst ea_ | (injection ea_ with ea_; subst ea_)); subst ec_; clear en_))
      have GB33 := Aside0.mk gb33
      have GG33 := Aside0.mk HG33
      clear gb33 gl33 HG33
      (first | simp only [add_plain] at hx222_0 | skip)
      obtain ⟨hx33_0, hf33_0⟩ := Kd.R_celln false HO_8.out ((rd (rd_L1 l1 x34_2) x41_3) : Int) p33 q33
      replace p33 := eq_true p33
      replace q33 := eq_true q33
      have HP35 := Kd.R_putg HO_8.out ((rd (rd_L1 l1 x34_2) x41_3) : Int) (rdOf false (rd_L11 l3 x26_1) x34_2)
      go_wp2_with (first | ((with_reducible refine gate_store (t := 4) (p := 60) rfl ?_); refine store_event (t := 4) (p := 60) (v := ?vo_w36) (w1 := (wr.setCell ⟨go33, ((rd (rd_L1 l1 x34_2) x41_3) : Int).toNat, none⟩ (.bool (rdOf false (rd_L11 l3 x26_1) x34_2)))) ?hg ?ho ?hn ?hr ?_; (case ho => rfl); (case hg => rfl); (case hn => rfl); (case hr => first | (go_simp; done) | (go_simp; rfl)); intro w36 hw; have hg : wr.grownBy w36 (some go33) := (by rw [hw]; exact HP35.2); have hp_ : Kd.R Kd.bool 4 w36 wc.heap.size (fun _ => True) (.slice (some ⟨go33, 0, none⟩) x8_3.length co34) y226 := (by rw [hw, Ny226.out]; exact HP35.1); clear HP35; have n0_ := Aside0.mk (Kd.S_over' (v := (.slice (some ⟨go33, 0, none⟩) x8_3.length co34)) (by (with_reducible repeat (first | apply S_alloc | apply S_drewN | apply S_drew)); exact HO_6.out) (Kd.R_typed HO_8.out) (by decide) hg); have n1_ := Aside0.mk (hp_); have n2_ := Aside0.mk ((by rw [hw]; exact below_set (HB.out) GB33.out : Below wc.heap.size wc w36)); clear HO_6; clear HO_8; clear HB; have HO_6 := n0_; have HO_8 := n1_; have HB := n2_; clear n0_ n1_ n2_; clear hg hw hp_))
      go_roundg k3
      case measure => have := HK1.out; have := HK2.out; have := HK3.out; omega
      case rel => exact ⟨(y226), (wrap64 (x41_3 + 1)), (by first | rfl | (simp; done) | (simp [*]; done)), H', ⟨by have := HK1.out; have := HK2.out; have := HK3.out; omega⟩, ⟨by (try simp only [hl6_1]); (with_reducible repeat (first | apply S_alloc | apply S_drewN | apply S_drew)); exact HO_6.out⟩, ⟨by (try simp only [hl6_1]); (with_reducible repeat (first | apply R_alloc | apply R_drewN | apply R_drew)); exact HO_8.out⟩, ⟨by repeat (first | (with_reducible first | exact HB.out | apply below_alloc | apply pw_below_drewN | apply below_drew1) | exact HB.out)⟩⟩
    rw [if_neg c18] at H
    have c18b0 : decide (x41_3 < ((rd_L1 l1 x34_2).length : Int)) = false := decide_eq_false c18
    (try simp only [hl6_1] at c18b0)
    clear c18
    have H' := Aside0.mk H
    clear H
    go_wp2
    go_roundg k3
    case measure => have := HK1.out; have := HK2.out; have := HK3.out; omega
    case rel => exact ⟨(x8_3), (wrap64 (x34_2 + 1)), (by first | rfl | (simp; done) | (simp [*]; done)), H', ⟨by have := HK1.out; have := HK2.out; have := HK3.out; omega⟩, ⟨by (try simp only [hl6_1]); (with_reducible repeat (first | apply S_alloc | apply S_drewN | apply S_drew)); exact HO_6.out⟩, ⟨by (try simp only [hl6_1]); (with_reducible repeat (first | apply R_alloc | apply R_drewN | apply R_drew)); exact HO_8.out⟩, ⟨by repeat (first | (with_reducible first | exact HB.out | apply below_alloc | apply pw_below_drewN | apply below_drew1) | exact HB.out)⟩⟩
  rw [if_neg c15] at H
  have c15b0 : decide (x34_2 < (l1.length : Int)) = false := decide_eq_false c15
  (try simp only [hl6_1] at c15b0)
  clear c15
  have H' := Aside0.mk H
  clear H
  obtain ⟨Ao37, co37, eo37⟩ := Kd.R_slice HO_8.out
  subst eo37
  go_wp2
  go_loopg [65] k2 (fun kq v65 w' => ∃ (x6_3 : List (List Int)) (x65_3 : Int), v65 = .int .i64 x65_3 ∧ Aside0 (dom_Frontier_b.l3 kq l1 l2 l3 x6_3 x26_1 (y214.length : Int) x26_1 x8_2 (x8_2.length : Int) x65_3 = some r) ∧ Aside0 (kq ≤ k2) ∧ Aside0 (Kd.S (Kd.slice 3 (Kd.int .i64)) 22 w' wc.heap.size (fun _ => True) (.slice Ao9 x6_1.length co9) x6_3) ∧ Aside0 (Kd.R Kd.bool 4 w' wc.heap.size (fun _ => True) (.slice Ao37 x8_2.length co37) x8_2) ∧ Aside0 (Below wc.heap.size wc w'))
  case atStart => exact ⟨(x6_1), (0), (by first | rfl | (simp; done) | (simp [*]; done)), H', ⟨Nat.le_refl _⟩, ⟨by (try simp only [hl6_1]); (with_reducible repeat (first | apply S_alloc | apply S_drewN | apply S_drew)); exact HO_6.out⟩, ⟨by (try simp only [hl6_1]); (with_reducible repeat (first | apply R_alloc | apply R_drewN | apply R_drew)); exact HO_8.out⟩, ⟨by repeat (first | (with_reducible first | exact HB.out | apply below_alloc | apply pw_below_drewN | apply below_drew1) | exact HB.out)⟩⟩
  clear H'
  try clear c1
  try clear c2
  try clear p2
  try clear q2
  try clear hx2
  try clear c3
  try clear p3
  try clear q3
  try clear hx3
  try clear c5
  try clear c5b0
  try clear c5b1
  try clear c6
  try clear c6b0
  try clear c6b1
  try clear p6
  try clear c10
  try clear c10b0
  try clear c11
  try clear c11b0
  try clear c11b1
  try clear c12
  try clear c12b0
  try clear c12b1
  try clear c13
  try clear c15
  try clear c15b0
  try clear c16
  try clear c16b0
  try clear c17
  try clear c17b0
  try clear c18
  try clear c18b0
  try clear c19
  try clear c19b0
  try clear c20
  try clear c20b0
  try clear c21
  try clear c21b0
  try clear c22
  try clear c22b0
  try clear p22
  try clear q22
  try clear hx22
  try clear q23
  try clear c24
  try clear p25
  try clear q25
  try clear hx25
  try clear hf25
  try clear c29
  try clear c29b0
  try clear c30
  try clear c30b0
  try clear c31
  try clear c31b0
  try clear c32
  try clear c32b0
  try clear p33
  try clear q33
  try clear hx33
  try clear hf33
  try clear hx220_0
  try clear hx221_0
  try clear hx222_0
  try clear hx224_0
  try clear hx225_0
  try clear hx25_0
  try clear hx33_0
  try clear p2
  try clear p220
  try clear p221
  try clear p222
  try clear p224
  try clear p225
  try clear p25
  try clear p33
  try clear q2
  try clear q220
  try clear q221
  try clear q222
  try clear q224
  try clear q225
  try clear q25
  try clear q33
  obtain ⟨x6_3, x65_3, rfl, HA, HK3, HO_6, HO_63, HB⟩ := hrel
  have hl6_3 := (S_reads' HO_6.out).1
  rw [hl6_3] at HO_6
  (try simp only [hl6_3])
  (try simp only [hl6_3] at HO_63)
  rcases gk with _ | k3
  · exact absurd HA.out (by simp [dom_Frontier_b.l3])
  have H := HA.out
  clear HA
  simp only [dom_Frontier_b.l3] at H
  by_cases c38 : x65_3 < (x8_2.length : Int)
  · rw [if_pos c38] at H
    have c38b0 : decide (x65_3 < (x8_2.length : Int)) = true := decide_eq_true c38
    have c38b0l := c38b0
    (try simp only [hl6_1, hl6_3] at c38b0l)
    clear c38
    by_cases c39 : 0 ≤ x65_3
    rotate_left
    · rw [if_neg c39] at H
      exact absurd H (by simp)
    rw [if_pos c39] at H
    have c39b0 : decide (0 ≤ x65_3) = true := decide_eq_true c39
    clear c39
    by_cases c40 : x65_3 < (x8_2.length : Int)
    rotate_left
    · rw [if_neg c40] at H
      exact absurd H (by simp)
    rw [if_pos c40] at H
    have c40b0 : decide (x65_3 < (x8_2.length : Int)) = true := decide_eq_true c40
    have c40b0l := c40b0
    (try simp only [hl6_1, hl6_3] at c40b0l)
    clear c40
    obtain ⟨bq41, hbq41⟩ : ∃ b_ : Bool, b_ = (rdOf false x8_2 x65_3) := ⟨_, rfl⟩
    replace H : (if bq41 = true then (if 0 ≤ x26_1 then (if x26_1 < (l2.length : Int) then (if rdOf false l2 x26_1 = true then (if x26_1 = x65_3 then (if x26_1 < (x6_3.length : Int) then (if (rd_L1 x6_3 x26_1).length < 17592186044416 then (dom_Frontier_b.l3 k3 l1 l2 l3 (x6_3.set (x26_1 : Int).toNat ((rd_L1 x6_3 x26_1) ++ [x65_3])) x26_1 (y214.length : Int) x26_1 x8_2 (x8_2.length : Int) (wrap64 (x65_3 + 1))) else (none)) else (none)) else (if x26_1 < (l3.length : Int) then (if x65_3 < ((rd_L11 l3 x26_1).length : Int) then (if (rdOf false (rd_L11 l3 x26_1) x65_3 = true) then (dom_Frontier_b.l3 k3 l1 l2 l3 x6_3 x26_1 (y214.length : Int) x26_1 x8_2 (x8_2.length : Int) (wrap64 (x65_3 + 1))) else (if x26_1 < (x6_3.length : Int) then (if (rd_L1 x6_3 x26_1).length < 17592186044416 then (dom_Frontier_b.l3 k3 l1 l2 l3 (x6_3.set (x26_1 : Int).toNat ((rd_L1 x6_3 x26_1) ++ [x65_3])) x26_1 (y214.length : Int) x26_1 x8_2 (x8_2.length : Int) (wrap64 (x65_3 + 1))) else (none)) else (none))) else (none)) else (none))) else (dom_Frontier_b.l3 k3 l1 l2 l3 x6_3 x26_1 (y214.length : Int) x26_1 x8_2 (x8_2.length : Int) (wrap64 (x65_3 + 1)))) else (none)) else (none)) else (dom_Frontier_b.l3 k3 l1 l2 l3 x6_3 x26_1 (y214.length : Int) x26_1 x8_2 (x8_2.length : Int) (wrap64 (x65_3 + 1)))) = some r := by rw [← hbq41] at H; exact H
    have Nbq41 := Aside0.mk hbq41
    clear hbq41
    by_cases c42 : bq41 = true
    · subst c42
      have H1 : (if 0 ≤ x26_1 then (if x26_1 < (l2.length : Int) then (if rdOf false l2 x26_1 = true then (if x26_1 = x65_3 then (if x26_1 < (x6_3.length : Int) then (if (rd_L1 x6_3 x26_1).length < 17592186044416 then (dom_Frontier_b.l3 k3 l1 l2 l3 (x6_3.set (x26_1 : Int).toNat ((rd_L1 x6_3 x26_1) ++ [x65_3])) x26_1 (y214.length : Int) x26_1 x8_2 (x8_2.length : Int) (wrap64 (x65_3 + 1))) else (none)) else (none)) else (if x26_1 < (l3.length : Int) then (if x65_3 < ((rd_L11 l3 x26_1).length : Int) then (if (rdOf false (rd_L11 l3 x26_1) x65_3 = true) then (dom_Frontier_b.l3 k3 l1 l2 l3 x6_3 x26_1 (y214.length : Int) x26_1 x8_2 (x8_2.length : Int) (wrap64 (x65_3 + 1))) else (if x26_1 < (x6_3.length : Int) then (if (rd_L1 x6_3 x26_1).length < 17592186044416 then (dom_Frontier_b.l3 k3 l1 l2 l3 (x6_3.set (x26_1 : Int).toNat ((rd_L1 x6_3 x26_1) ++ [x65_3])) x26_1 (y214.length : Int) x26_1 x8_2 (x8_2.length : Int) (wrap64 (x65_3 + 1))) else (none)) else (none))) else (none)) else (none))) else (dom_Frontier_b.l3 k3 l1 l2 l3 x6_3 x26_1 (y214.length : Int) x26_1 x8_2 (x8_2.length : Int) (wrap64 (x65_3 + 1)))) else (none)) else (none)) = some r := by rw [if_pos rfl] at H; exact H
      clear H
      have H := H1
      clear H1
      by_cases c43 : 0 ≤ x26_1
      rotate_left
      · rw [if_neg c43] at H
        exact absurd H (by simp)
      rw [if_pos c43] at H
      have c43b0 : decide (0 ≤ x26_1) = true := decide_eq_true c43
      clear c43
      by_cases c44 : x26_1 < (l2.length : Int)
      rotate_left
      · rw [if_neg c44] at H
        exact absurd H (by simp)
      rw [if_pos c44] at H
      have c44b0 : decide (x26_1 < (l2.length : Int)) = true := decide_eq_true c44
      have c44b0l := c44b0
      (try simp only [hl6_1, hl6_3] at c44b0l)
      clear c44
      obtain ⟨bq45, hbq45⟩ : ∃ b_ : Bool, b_ = (rdOf false l2 x26_1) := ⟨_, rfl⟩
      replace H : (if bq45 = true then (if x26_1 = x65_3 then (if x26_1 < (x6_3.length : Int) then (if (rd_L1 x6_3 x26_1).length < 17592186044416 then (dom_Frontier_b.l3 k3 l1 l2 l3 (x6_3.set (x26_1 : Int).toNat ((rd_L1 x6_3 x26_1) ++ [x65_3])) x26_1 (y214.length : Int) x26_1 x8_2 (x8_2.length : Int) (wrap64 (x65_3 + 1))) else (none)) else (none)) else (if x26_1 < (l3.length : Int) then (if x65_3 < ((rd_L11 l3 x26_1).length : Int) then (if (rdOf false (rd_L11 l3 x26_1) x65_3 = true) then (dom_Frontier_b.l3 k3 l1 l2 l3 x6_3 x26_1 (y214.length : Int) x26_1 x8_2 (x8_2.length : Int) (wrap64 (x65_3 + 1))) else (if x26_1 < (x6_3.length : Int) then (if (rd_L1 x6_3 x26_1).length < 17592186044416 then (dom_Frontier_b.l3 k3 l1 l2 l3 (x6_3.set (x26_1 : Int).toNat ((rd_L1 x6_3 x26_1) ++ [x65_3])) x26_1 (y214.length : Int) x26_1 x8_2 (x8_2.length : Int) (wrap64 (x65_3 + 1))) else (none)) else (none))) else (none)) else (none))) else (dom_Frontier_b.l3 k3 l1 l2 l3 x6_3 x26_1 (y214.length : Int) x26_1 x8_2 (x8_2.length : Int) (wrap64 (x65_3 + 1)))) = some r := by rw [← hbq45] at H; exact H
      have Nbq45 := Aside0.mk hbq45
      clear hbq45
      by_cases c46 : bq45 = true
      · subst c46
        have H1 : (if x26_1 = x65_3 then (if x26_1 < (x6_3.length : Int) then (if (rd_L1 x6_3 x26_1).length < 17592186044416 then (dom_Frontier_b.l3 k3 l1 l2 l3 (x6_3.set (x26_1 : Int).toNat ((rd_L1 x6_3 x26_1) ++ [x65_3])) x26_1 (y214.length : Int) x26_1 x8_2 (x8_2.length : Int) (wrap64 (x65_3 + 1))) else (none)) else (none)) else (if x26_1 < (l3.length : Int) then (if x65_3 < ((rd_L11 l3 x26_1).length : Int) then (if (rdOf false (rd_L11 l3 x26_1) x65_3 = true) then (dom_Frontier_b.l3 k3 l1 l2 l3 x6_3 x26_1 (y214.length : Int) x26_1 x8_2 (x8_2.length : Int) (wrap64 (x65_3 + 1))) else (if x26_1 < (x6_3.length : Int) then (if (rd_L1 x6_3 x26_1).length < 17592186044416 then (dom_Frontier_b.l3 k3 l1 l2 l3 (x6_3.set (x26_1 : Int).toNat ((rd_L1 x6_3 x26_1) ++ [x65_3])) x26_1 (y214.length : Int) x26_1 x8_2 (x8_2.length : Int) (wrap64 (x65_3 + 1))) else (none)) else (none))) else (none)) else (none))) = some r := by rw [if_pos rfl] at H; exact H
        clear H
        have H := H1
        clear H1
        by_cases c47 : x26_1 = x65_3
        · rw [if_pos c47] at H
          have c47b0 : (x26_1 == x65_3) = true := beq_iff_eq.mpr c47
          have c47b1 : (x26_1 != x65_3) = false := bne_eq_false_iff_eq.mpr c47
          clear c47
          by_cases c48 : x26_1 < (x6_3.length : Int)
          rotate_left
          · rw [if_neg c48] at H
            exact absurd H (by simp)
          rw [if_pos c48] at H
          have c48b0 : decide (x26_1 < (x6_3.length : Int)) = true := decide_eq_true c48
          have c48b0l := c48b0
          (try simp only [hl6_1, hl6_3] at c48b0l)
          clear c48
          by_cases c49 : (rd_L1 x6_3 x26_1).length < 17592186044416
          rotate_left
          · rw [if_neg c49] at H
            exact absurd H (by simp)
          rw [if_pos c49] at H
          have LMc49 := Aside0.mk c49
          clear c49
          obtain ⟨y230, hy230⟩ : ∃ y_ : List Int, y_ = ((rd_L1 x6_3 x26_1) ++ [x65_3]) := ⟨_, rfl⟩
          replace H : (dom_Frontier_b.l3 k3 l1 l2 l3 (x6_3.set (x26_1 : Int).toNat y230) x26_1 (y214.length : Int) x26_1 x8_2 (x8_2.length : Int) (wrap64 (x65_3 + 1))) = some r := by first | (rw [hy230]; with_reducible exact H) | (have H2_ := (Option.bind_some _ _).symm.trans H; rw [hy230]; with_reducible exact H2_) | exact H
          have Ny230 := Aside0.mk hy230
          clear hy230
          obtain ⟨y233, hy233⟩ : ∃ y_ : List (List Int), y_ = (x6_3.set (x26_1 : Int).toNat y230) := ⟨_, rfl⟩
          replace H : (dom_Frontier_b.l3 k3 l1 l2 l3 y233 x26_1 (y214.length : Int) x26_1 x8_2 (x8_2.length : Int) (wrap64 (x65_3 + 1))) = some r := by first | (rw [hy233]; with_reducible exact H) | (have H2_ := (Option.bind_some _ _).symm.trans H; rw [hy233]; with_reducible exact H2_) | exact H
          have Ny233 := Aside0.mk hy233
          clear hy233
          have H' := Aside0.mk H
          clear H
          have p227 : 0 ≤ (x65_3 : Int) := of_decide_eq_true (by with_reducible assumption)
          have q227 : x65_3 < (x8_2.length : Int) := of_decide_eq_true (by with_reducible assumption)
          obtain ⟨ad227, e227, hx227_0⟩ := Kd.at_bool (R_reads' HO_63.out).2.2 x65_3 p227 q227
          (try rw [← Nbq41.out] at hx227_0)
          (try rw [← Nbq45.out] at hx227_0)
          cases e227
          replace p227 := eq_true p227
          replace q227 := eq_true q227
          have p228 : 0 ≤ (x26_1 : Int) := of_decide_eq_true (by with_reducible assumption)
          have q228 : x26_1 < (l2.length : Int) := of_decide_eq_true (by with_reducible assumption)
          obtain ⟨ad228, e228, hx228_0⟩ := Kd.at_bool HR2.out x26_1 p228 q228
          (try rw [← Nbq41.out] at hx228_0)
          (try rw [← Nbq45.out] at hx228_0)
          cases e228
          replace hx228_0 := (HB.out.cell (World.block_lt_of_cell? wc _ hx228_0)).trans hx228_0
          replace p228 := eq_true p228
          replace q228 := eq_true q228
          have p229 : 0 ≤ (x26_1 : Int) := of_decide_eq_true (by with_reducible assumption)
          have q229 : x26_1 < (x6_3.length : Int) := of_decide_eq_true (by with_reducible assumption)
          obtain ⟨ad229, A229_0, c229_0, e229, hx229_0, hl229_0, hi229_0⟩ := at_L1 (S_reads' HO_6.out).2.2 x26_1 p229 q229
          cases e229
          obtain ⟨ce229, hce229, hMe229, hcc229⟩ := S_get HO_6.out [] x26_1 p229 (by first | exact q229 | exact of_decide_eq_true (by with_reducible assumption) | (have e_ := (S_reads' HO_6.out).1; omega))
          obtain ⟨ve229_0, rfl, ge229_0⟩ := hMe229
          have hv229_0 := hcc229 0 _ rfl
          rw [Nat.add_zero, show ((Kd.slice 3 (Kd.int .i64))).sz = 1 from rfl, Nat.mul_one] at hv229_0
          replace hv229_0 := Option.some.inj (hv229_0.symm.trans hx229_0)
          rw [hv229_0] at ge229_0
          have HL229_0 := Aside0.mk (show Kd.R (Kd.int .i64) 3 _ _ _ _ (rd_L1 x6_3 x26_1) from ge229_0)
          clear hv229_0 ge229_0
          have HX229_0 := Aside0.mk hx229_0
          clear hcc229 hce229
          have HR229_0 := Aside0.mk hi229_0
          have HC229_0 := Aside0.mk hl229_0
          clear hi229_0 hl229_0
          replace p229 := eq_true p229
          replace q229 := eq_true q229
          obtain ⟨go51, co51, eo51, gb51, gl51, cl51, HG51⟩ := Kd.S_form HO_6.out (by have h_ : (x26_1 : Int) < ((x6_3.length : Int) : Int) := of_decide_eq_true (by with_reducible assumption); have h2_ : 0 ≤ (x26_1 : Int) := (of_decide_eq_true (by with_reducible assumption)); omega)
          (first | cases eo51 | (injection eo51 with ea_ en_ ec_; (first | subst ea_ | (injection ea_ with ea_; subst ea_)); subst ec_; clear en_))
          have GB51 := Aside0.mk gb51
          have GG51 := Aside0.mk HG51
          clear gb51 gl51 HG51
          (first | simp only [add_plain] at hx229_0 | skip)
          obtain ⟨oki51, ce51, hcl51, hM51, hcc51, _, _, hH51⟩ := Kd.S_elem HO_6.out [] (x26_1 : Int) (of_decide_eq_true (by with_reducible assumption)) (by have h_ : (x26_1 : Int) < ((x6_3.length : Int) : Int) := of_decide_eq_true (by with_reducible assumption); first | exact h_ | (have e_ := (S_reads' HO_6.out).1; omega) | simpa using h_)
          obtain ⟨ve51_0, rfl, ge51_0⟩ := hM51
          have hv51 := hcc51 0 _ rfl
          have hX51 := HX229_0.out
          (try simp only [add_plain] at hX51)
          (try simp only [Nat.add_zero] at hv51)
          (try rw [show ((Kd.slice 3 (Kd.int .i64))).sz = 1 from rfl, Nat.mul_one] at hv51)
          replace hv51 := Option.some.inj (hv51.symm.trans hX51)
          subst hv51
          clear hX51 hcc51 hcl51
          have UU51 := Aside0.mk (show Kd.R (Kd.int .i64) 3 _ wc.heap.size oki51 (.slice A229_0 (rd_L1 x6_3 x26_1).length c229_0) (rd_L1 x6_3 x26_1) from ge51_0)
          have HH51 := Aside0.mk hH51
          have HN51 := Aside0.mk (S_reads' HO_6.out).1
          clear hH51 ge51_0
          go_wp2_with (first | ((with_reducible refine gate_builtin (b := .append) (xs := #[.tmp 97, .tmp 99]) rfl ?_); at_builtin; refine Kd.R_append (Kd.int .i64) (w0 := wc) wc.heap.size rfl (.tmp 97) (.tmp 99) 22 3 (.int .i64 0) 8 rfl Try.underlying22 info3 rfl (by decide) (by omega) (.slice A229_0 (rd_L1 x6_3 x26_1).length c229_0) (rd_L1 x6_3 x26_1) x65_3 [.int .i64 x65_3] (fun k_ => oki51 k_ ∨ ((fun _ => True)) k_ ∧ wr.heap.size ≤ k_) (fun _ => False) rfl rfl ?aP (fun _ hk => hk.elim) ?aF ?aO ?aB ?aS ?aL ?_; (case aP => exact rfl); (case aB => exact (by repeat with_reducible first | exact HB.out | apply below_alloc | apply pw_below_drewN | apply below_drew1)); (case aF => exact (fun k_ hk => .inr ⟨trivial, hk⟩)); (case aO => exact (by (with_reducible repeat (first | apply R_alloc | apply R_drewN | apply R_drew)); exact R_mono UU51.out (fun _ hk => .inl hk))); (case aS => exact (below_size (by repeat with_reducible first | exact HB.out | apply below_alloc | apply pw_below_drewN | apply below_drew1))); (case aL => have := LMc49.out; omega); intro v231 w52 ho hb hg hat; rw [← Ny230.out] at ho; have n0_ := Aside0.mk (Kd.R_over' (v := (.slice A229_0 (rd_L1 x6_3 x26_1).length c229_0)) (by (with_reducible repeat (first | apply R_alloc | apply R_drewN | apply R_drew)); exact HO_63.out) (Kd.R_typed HL229_0.out) (by decide) hg); have n1_ := Aside0.mk (hb); have n2_ := Aside0.mk (Kd.H_grown (Kd.H_widen (by repeat (first | exact HH51.out | refine Kd.H_alloc ?_ _ | refine Kd.H_drewN ?_ _ | refine Kd.H_drew ?_))) hg (fun k_ e_ => .inl (UU51.out.1 k_ e_))); have n3_ := Aside0.mk (ho); clear HO_63; clear HB; clear HH51; clear HO_6; clear UU51; clear HL229_0; have HO_63 := n0_; have HB := n1_; have HH51 := n2_; have HO232 := n3_; clear n0_ n1_ n2_ n3_; clear ho hb hg hat; have p50 : 0 ≤ (x26_1 : Int) := of_decide_eq_true (by with_reducible assumption); have q50 : (x26_1 : Int) < ((x6_3.length : Int) : Int) := of_decide_eq_true (by with_reducible assumption); replace p50 := eq_true p50; replace q50 := eq_true q50; obtain ⟨Ao55, co55, eo55⟩ := Kd.R_slice HO232.out; subst eo55; obtain ⟨_, _, hraw53, _, _, hcc53, _⟩ := Kd.H_raw HH51.out (of_decide_eq_true (by with_reducible assumption)) (by have h_ : (x26_1 : Int) < ((x6_3.length : Int) : Int) := of_decide_eq_true (by with_reducible assumption); first | exact h_ | (have e_ := (HN51.out); omega) | simpa using h_); obtain ⟨_, hfr53⟩ := Kd.H_at HH51.out (of_decide_eq_true (by with_reducible assumption)) (by have h_ : (x26_1 : Int) < ((x6_3.length : Int) : Int) := of_decide_eq_true (by with_reducible assumption); first | exact h_ | (have e_ := (HN51.out); omega) | simpa using h_); have hx53_0 := hcc53 0 _ rfl; have hf53_0 := hfr53 0; (try simp only [Nat.add_zero] at hx53_0 hf53_0); (try rw [show ((Kd.slice 3 (Kd.int .i64))).sz = 1 from rfl, Nat.mul_one] at hx53_0); (try rw [show ((Kd.slice 3 (Kd.int .i64))).sz = 1 from rfl, Nat.mul_one] at hf53_0); have HP53 := Kd.S_seg0 HH51.out (of_decide_eq_true (by with_reducible assumption)) (by have h_ : (x26_1 : Int) < ((x6_3.length : Int) : Int) := of_decide_eq_true (by with_reducible assumption); first | exact h_ | (have e_ := (HN51.out); omega) | simpa using h_) (seg := [.slice Ao55 y230.length co55]) (j := 0) (show 1 ≤ 1 from by decide) (x' := y230) (Kd.M_row HO232.out) (fun _ hk => hk); (try simp only [show ((Kd.slice 3 (Kd.int .i64))).sz = 1 from rfl, Nat.mul_one, Nat.add_zero] at HP53); clear hcc53 hfr53) | ((with_reducible refine gate_store (t := 22) (p := 101) rfl ?_); refine store_event (t := 22) (p := 101) (v := ?vo_w54) (w1 := (w52.setCell ⟨go51, (x26_1 : Int).toNat, none⟩ (.slice Ao55 y230.length co55))) ?hg ?ho ?hn ?hr ?_; (case ho => rfl); (case hg => rfl); (case hn => rfl); (case hr => first | (go_simp; done) | (go_simp; rfl)); intro w54 hw; have hg : w52.grownBy w54 (some go51) := (by rw [hw]; exact HP53.2); have hp_ : Kd.S (Kd.slice 3 (Kd.int .i64)) 22 w54 wc.heap.size (fun _ => True) (.slice (some ⟨go51, 0, none⟩) x6_3.length co9) y233 := (by rw [hw, Ny233.out]; exact HP53.1); clear HP53; have n0_ := Aside0.mk (Kd.R_over' (v := (.slice (some ⟨go51, 0, none⟩) x6_3.length co9)) (by (with_reducible repeat (first | apply R_alloc | apply R_drewN | apply R_drew)); exact HO_63.out) (Kd.R_typed hraw53) (by decide) hg); have n1_ := Aside0.mk ((by rw [hw]; exact below_set HB.out GB51.out : Below wc.heap.size wc w54)); have n2_ := Aside0.mk (hp_); clear HO_63; clear HB; clear HO232; clear HH51; have HO_63 := n0_; have HB := n1_; have HO_6 := n2_; clear n0_ n1_ n2_; clear hg hw hp_ hraw53))
          (try simp only [← hl6_3])
          go_roundg k3
          case measure => have := HK1.out; have := HK2.out; have := HK3.out; omega
          case rel => exact ⟨(y233), (wrap64 (x65_3 + 1)), (by first | rfl | (simp; done) | (simp [*]; done)), H', ⟨by have := HK1.out; have := HK2.out; have := HK3.out; omega⟩, ⟨by (try simp only [hl6_1]); (try simp only [hl6_3]); (with_reducible repeat (first | apply S_alloc | apply S_drewN | apply S_drew)); exact HO_6.out⟩, ⟨by (try simp only [hl6_1]); (try simp only [hl6_3]); (with_reducible repeat (first | apply R_alloc | apply R_drewN | apply R_drew)); exact HO_63.out⟩, ⟨by repeat (first | (with_reducible first | exact HB.out | apply below_alloc | apply pw_below_drewN | apply below_drew1) | exact HB.out)⟩⟩
        rw [if_neg c47] at H
        have c47b0 : (x26_1 == x65_3) = false := beq_eq_false_iff_ne.mpr c47
        have c47b1 : (x26_1 != x65_3) = true := bne_iff_ne.mpr c47
        by_cases c56 : x26_1 < (l3.length : Int)
        rotate_left
        · rw [if_neg c56] at H
          exact absurd H (by simp)
        rw [if_pos c56] at H
        have c56b0 : decide (x26_1 < (l3.length : Int)) = true := decide_eq_true c56
        have c56b0l := c56b0
        (try simp only [hl6_1, hl6_3] at c56b0l)
        clear c56
        by_cases c57 : x65_3 < ((rd_L11 l3 x26_1).length : Int)
        rotate_left
        · rw [if_neg c57] at H
          exact absurd H (by simp)
        rw [if_pos c57] at H
        have c57b0 : decide (x65_3 < ((rd_L11 l3 x26_1).length : Int)) = true := decide_eq_true c57
        have c57b0l := c57b0
        (try simp only [hl6_1, hl6_3] at c57b0l)
        clear c57
        obtain ⟨bq58, hbq58⟩ : ∃ b_ : Bool, b_ = (rdOf false (rd_L11 l3 x26_1) x65_3) := ⟨_, rfl⟩
        replace H : (if (bq58 = true) then (dom_Frontier_b.l3 k3 l1 l2 l3 x6_3 x26_1 (y214.length : Int) x26_1 x8_2 (x8_2.length : Int) (wrap64 (x65_3 + 1))) else (if x26_1 < (x6_3.length : Int) then (if (rd_L1 x6_3 x26_1).length < 17592186044416 then (dom_Frontier_b.l3 k3 l1 l2 l3 (x6_3.set (x26_1 : Int).toNat ((rd_L1 x6_3 x26_1) ++ [x65_3])) x26_1 (y214.length : Int) x26_1 x8_2 (x8_2.length : Int) (wrap64 (x65_3 + 1))) else (none)) else (none))) = some r := by rw [← hbq58] at H; exact H
        have Nbq58 := Aside0.mk hbq58
        clear hbq58
        by_cases c59 : (bq58 = true)
        · subst c59
          have H1 : (dom_Frontier_b.l3 k3 l1 l2 l3 x6_3 x26_1 (y214.length : Int) x26_1 x8_2 (x8_2.length : Int) (wrap64 (x65_3 + 1))) = some r := by rw [if_pos rfl] at H; exact H
          clear H
          have H := H1
          clear H1
          have H' := Aside0.mk H
          clear H
          have p227 : 0 ≤ (x65_3 : Int) := of_decide_eq_true (by with_reducible assumption)
          have q227 : x65_3 < (x8_2.length : Int) := of_decide_eq_true (by with_reducible assumption)
          obtain ⟨ad227, e227, hx227_0⟩ := Kd.at_bool (R_reads' HO_63.out).2.2 x65_3 p227 q227
          (try rw [← Nbq41.out] at hx227_0)
          (try rw [← Nbq45.out] at hx227_0)
          (try rw [← Nbq58.out] at hx227_0)
          cases e227
          replace p227 := eq_true p227
          replace q227 := eq_true q227
          have p228 : 0 ≤ (x26_1 : Int) := of_decide_eq_true (by with_reducible assumption)
          have q228 : x26_1 < (l2.length : Int) := of_decide_eq_true (by with_reducible assumption)
          obtain ⟨ad228, e228, hx228_0⟩ := Kd.at_bool HR2.out x26_1 p228 q228
          (try rw [← Nbq41.out] at hx228_0)
          (try rw [← Nbq45.out] at hx228_0)
          (try rw [← Nbq58.out] at hx228_0)
          cases e228
          replace hx228_0 := (HB.out.cell (World.block_lt_of_cell? wc _ hx228_0)).trans hx228_0
          replace p228 := eq_true p228
          replace q228 := eq_true q228
          have p234 : 0 ≤ (x26_1 : Int) := of_decide_eq_true (by with_reducible assumption)
          have q234 : x26_1 < (l3.length : Int) := of_decide_eq_true (by with_reducible assumption)
          obtain ⟨ad234, A234_0, c234_0, e234, hx234_0, hl234_0, hi234_0⟩ := at_L11 HR3.out x26_1 p234 q234
          cases e234
          replace hx234_0 := (HB.out.cell (World.block_lt_of_cell? wc _ hx234_0)).trans hx234_0
          have HR234_0 := Aside0.mk hi234_0
          have HC234_0 := Aside0.mk hl234_0
          clear hi234_0 hl234_0
          replace p234 := eq_true p234
          replace q234 := eq_true q234
          have p235 : 0 ≤ (x65_3 : Int) := of_decide_eq_true (by with_reducible assumption)
          have q235 : x65_3 < ((rd_L11 l3 x26_1).length : Int) := of_decide_eq_true (by with_reducible assumption)
          obtain ⟨ad235, e235, hx235_0⟩ := Kd.at_bool HR234_0.out x65_3 p235 q235
          (try rw [← Nbq41.out] at hx235_0)
          (try rw [← Nbq45.out] at hx235_0)
          (try rw [← Nbq58.out] at hx235_0)
          cases e235
          replace hx235_0 := (HB.out.cell (World.block_lt_of_cell? wc _ hx235_0)).trans hx235_0
          replace p235 := eq_true p235
          replace q235 := eq_true q235
          go_wp2
          (try simp only [← hl6_3])
          go_roundg k3
          case measure => have := HK1.out; have := HK2.out; have := HK3.out; omega
          case rel => exact ⟨(x6_3), (wrap64 (x65_3 + 1)), (by first | rfl | (simp; done) | (simp [*]; done)), H', ⟨by have := HK1.out; have := HK2.out; have := HK3.out; omega⟩, ⟨by (try simp only [hl6_1]); (try simp only [hl6_3]); (with_reducible repeat (first | apply S_alloc | apply S_drewN | apply S_drew)); exact HO_6.out⟩, ⟨by (try simp only [hl6_1]); (try simp only [hl6_3]); (with_reducible repeat (first | apply R_alloc | apply R_drewN | apply R_drew)); exact HO_63.out⟩, ⟨by repeat (first | (with_reducible first | exact HB.out | apply below_alloc | apply pw_below_drewN | apply below_drew1) | exact HB.out)⟩⟩
        replace c59 := Bool.eq_false_iff.mpr c59
        subst c59
        have H1 : (if x26_1 < (x6_3.length : Int) then (if (rd_L1 x6_3 x26_1).length < 17592186044416 then (dom_Frontier_b.l3 k3 l1 l2 l3 (x6_3.set (x26_1 : Int).toNat ((rd_L1 x6_3 x26_1) ++ [x65_3])) x26_1 (y214.length : Int) x26_1 x8_2 (x8_2.length : Int) (wrap64 (x65_3 + 1))) else (none)) else (none)) = some r := by rw [if_neg (show ¬ (false = true) by decide)] at H; exact H
        clear H
        have H := H1
        clear H1
        by_cases c60 : x26_1 < (x6_3.length : Int)
        rotate_left
        · rw [if_neg c60] at H
          exact absurd H (by simp)
        rw [if_pos c60] at H
        have c60b0 : decide (x26_1 < (x6_3.length : Int)) = true := decide_eq_true c60
        have c60b0l := c60b0
        (try simp only [hl6_1, hl6_3] at c60b0l)
        clear c60
        by_cases c61 : (rd_L1 x6_3 x26_1).length < 17592186044416
        rotate_left
        · rw [if_neg c61] at H
          exact absurd H (by simp)
        rw [if_pos c61] at H
        have LMc61 := Aside0.mk c61
        clear c61
        obtain ⟨y237, hy237⟩ : ∃ y_ : List Int, y_ = ((rd_L1 x6_3 x26_1) ++ [x65_3]) := ⟨_, rfl⟩
        replace H : (dom_Frontier_b.l3 k3 l1 l2 l3 (x6_3.set (x26_1 : Int).toNat y237) x26_1 (y214.length : Int) x26_1 x8_2 (x8_2.length : Int) (wrap64 (x65_3 + 1))) = some r := by first | (rw [hy237]; with_reducible exact H) | (have H2_ := (Option.bind_some _ _).symm.trans H; rw [hy237]; with_reducible exact H2_) | exact H
        have Ny237 := Aside0.mk hy237
        clear hy237
        obtain ⟨y240, hy240⟩ : ∃ y_ : List (List Int), y_ = (x6_3.set (x26_1 : Int).toNat y237) := ⟨_, rfl⟩
        replace H : (dom_Frontier_b.l3 k3 l1 l2 l3 y240 x26_1 (y214.length : Int) x26_1 x8_2 (x8_2.length : Int) (wrap64 (x65_3 + 1))) = some r := by first | (rw [hy240]; with_reducible exact H) | (have H2_ := (Option.bind_some _ _).symm.trans H; rw [hy240]; with_reducible exact H2_) | exact H
        have Ny240 := Aside0.mk hy240
        clear hy240
        have H' := Aside0.mk H
        clear H
        have p227 : 0 ≤ (x65_3 : Int) := of_decide_eq_true (by with_reducible assumption)
        have q227 : x65_3 < (x8_2.length : Int) := of_decide_eq_true (by with_reducible assumption)
        obtain ⟨ad227, e227, hx227_0⟩ := Kd.at_bool (R_reads' HO_63.out).2.2 x65_3 p227 q227
        (try rw [← Nbq41.out] at hx227_0)
        (try rw [← Nbq45.out] at hx227_0)
        (try rw [← Nbq58.out] at hx227_0)
        cases e227
        replace p227 := eq_true p227
        replace q227 := eq_true q227
        have p228 : 0 ≤ (x26_1 : Int) := of_decide_eq_true (by with_reducible assumption)
        have q228 : x26_1 < (l2.length : Int) := of_decide_eq_true (by with_reducible assumption)
        obtain ⟨ad228, e228, hx228_0⟩ := Kd.at_bool HR2.out x26_1 p228 q228
        (try rw [← Nbq41.out] at hx228_0)
        (try rw [← Nbq45.out] at hx228_0)
        (try rw [← Nbq58.out] at hx228_0)
        cases e228
        replace hx228_0 := (HB.out.cell (World.block_lt_of_cell? wc _ hx228_0)).trans hx228_0
        replace p228 := eq_true p228
        replace q228 := eq_true q228
        have p234 : 0 ≤ (x26_1 : Int) := of_decide_eq_true (by with_reducible assumption)
        have q234 : x26_1 < (l3.length : Int) := of_decide_eq_true (by with_reducible assumption)
        obtain ⟨ad234, A234_0, c234_0, e234, hx234_0, hl234_0, hi234_0⟩ := at_L11 HR3.out x26_1 p234 q234
        cases e234
        replace hx234_0 := (HB.out.cell (World.block_lt_of_cell? wc _ hx234_0)).trans hx234_0
        have HR234_0 := Aside0.mk hi234_0
        have HC234_0 := Aside0.mk hl234_0
        clear hi234_0 hl234_0
        replace p234 := eq_true p234
        replace q234 := eq_true q234
        have p235 : 0 ≤ (x65_3 : Int) := of_decide_eq_true (by with_reducible assumption)
        have q235 : x65_3 < ((rd_L11 l3 x26_1).length : Int) := of_decide_eq_true (by with_reducible assumption)
        obtain ⟨ad235, e235, hx235_0⟩ := Kd.at_bool HR234_0.out x65_3 p235 q235
        (try rw [← Nbq41.out] at hx235_0)
        (try rw [← Nbq45.out] at hx235_0)
        (try rw [← Nbq58.out] at hx235_0)
        cases e235
        replace hx235_0 := (HB.out.cell (World.block_lt_of_cell? wc _ hx235_0)).trans hx235_0
        replace p235 := eq_true p235
        replace q235 := eq_true q235
        have p236 : 0 ≤ (x26_1 : Int) := of_decide_eq_true (by with_reducible assumption)
        have q236 : x26_1 < (x6_3.length : Int) := of_decide_eq_true (by with_reducible assumption)
        obtain ⟨ad236, A236_0, c236_0, e236, hx236_0, hl236_0, hi236_0⟩ := at_L1 (S_reads' HO_6.out).2.2 x26_1 p236 q236
        cases e236
        obtain ⟨ce236, hce236, hMe236, hcc236⟩ := S_get HO_6.out [] x26_1 p236 (by first | exact q236 | exact of_decide_eq_true (by with_reducible assumption) | (have e_ := (S_reads' HO_6.out).1; omega))
        obtain ⟨ve236_0, rfl, ge236_0⟩ := hMe236
        have hv236_0 := hcc236 0 _ rfl
        rw [Nat.add_zero, show ((Kd.slice 3 (Kd.int .i64))).sz = 1 from rfl, Nat.mul_one] at hv236_0
        replace hv236_0 := Option.some.inj (hv236_0.symm.trans hx236_0)
        rw [hv236_0] at ge236_0
        have HL236_0 := Aside0.mk (show Kd.R (Kd.int .i64) 3 _ _ _ _ (rd_L1 x6_3 x26_1) from ge236_0)
        clear hv236_0 ge236_0
        have HX236_0 := Aside0.mk hx236_0
        clear hcc236 hce236
        have HR236_0 := Aside0.mk hi236_0
        have HC236_0 := Aside0.mk hl236_0
        clear hi236_0 hl236_0
        replace p236 := eq_true p236
        replace q236 := eq_true q236
        obtain ⟨go63, co63, eo63, gb63, gl63, cl63, HG63⟩ := Kd.S_form HO_6.out (by have h_ : (x26_1 : Int) < ((x6_3.length : Int) : Int) := of_decide_eq_true (by with_reducible assumption); have h2_ : 0 ≤ (x26_1 : Int) := (of_decide_eq_true (by with_reducible assumption)); omega)
        (first | cases eo63 | (injection eo63 with ea_ en_ ec_; (first | subst ea_ | (injection ea_ with ea_; subst ea_)); subst ec_; clear en_))
        have GB63 := Aside0.mk gb63
        have GG63 := Aside0.mk HG63
        clear gb63 gl63 HG63
        (first | simp only [add_plain] at hx236_0 | skip)
        obtain ⟨oki63, ce63, hcl63, hM63, hcc63, _, _, hH63⟩ := Kd.S_elem HO_6.out [] (x26_1 : Int) (of_decide_eq_true (by with_reducible assumption)) (by have h_ : (x26_1 : Int) < ((x6_3.length : Int) : Int) := of_decide_eq_true (by with_reducible assumption); first | exact h_ | (have e_ := (S_reads' HO_6.out).1; omega) | simpa using h_)
        obtain ⟨ve63_0, rfl, ge63_0⟩ := hM63
        have hv63 := hcc63 0 _ rfl
        have hX63 := HX236_0.out
        (try simp only [add_plain] at hX63)
        (try simp only [Nat.add_zero] at hv63)
        (try rw [show ((Kd.slice 3 (Kd.int .i64))).sz = 1 from rfl, Nat.mul_one] at hv63)
        replace hv63 := Option.some.inj (hv63.symm.trans hX63)
        subst hv63
        clear hX63 hcc63 hcl63
        have UU63 := Aside0.mk (show Kd.R (Kd.int .i64) 3 _ wc.heap.size oki63 (.slice A236_0 (rd_L1 x6_3 x26_1).length c236_0) (rd_L1 x6_3 x26_1) from ge63_0)
        have HH63 := Aside0.mk hH63
        have HN63 := Aside0.mk (S_reads' HO_6.out).1
        clear hH63 ge63_0
        go_wp2_with (first | ((with_reducible refine gate_builtin (b := .append) (xs := #[.tmp 97, .tmp 99]) rfl ?_); at_builtin; refine Kd.R_append (Kd.int .i64) (w0 := wc) wc.heap.size rfl (.tmp 97) (.tmp 99) 22 3 (.int .i64 0) 8 rfl Try.underlying22 info3 rfl (by decide) (by omega) (.slice A236_0 (rd_L1 x6_3 x26_1).length c236_0) (rd_L1 x6_3 x26_1) x65_3 [.int .i64 x65_3] (fun k_ => oki63 k_ ∨ ((fun _ => True)) k_ ∧ wr.heap.size ≤ k_) (fun _ => False) rfl rfl ?aP (fun _ hk => hk.elim) ?aF ?aO ?aB ?aS ?aL ?_; (case aP => exact rfl); (case aB => exact (by repeat with_reducible first | exact HB.out | apply below_alloc | apply pw_below_drewN | apply below_drew1)); (case aF => exact (fun k_ hk => .inr ⟨trivial, hk⟩)); (case aO => exact (by (with_reducible repeat (first | apply R_alloc | apply R_drewN | apply R_drew)); exact R_mono UU63.out (fun _ hk => .inl hk))); (case aS => exact (below_size (by repeat with_reducible first | exact HB.out | apply below_alloc | apply pw_below_drewN | apply below_drew1))); (case aL => have := LMc61.out; omega); intro v238 w64 ho hb hg hat; rw [← Ny237.out] at ho; have n0_ := Aside0.mk (Kd.R_over' (v := (.slice A236_0 (rd_L1 x6_3 x26_1).length c236_0)) (by (with_reducible repeat (first | apply R_alloc | apply R_drewN | apply R_drew)); exact HO_63.out) (Kd.R_typed HL236_0.out) (by decide) hg); have n1_ := Aside0.mk (hb); have n2_ := Aside0.mk (Kd.H_grown (Kd.H_widen (by repeat (first | exact HH63.out | refine Kd.H_alloc ?_ _ | refine Kd.H_drewN ?_ _ | refine Kd.H_drew ?_))) hg (fun k_ e_ => .inl (UU63.out.1 k_ e_))); have n3_ := Aside0.mk (ho); clear HO_63; clear HB; clear HH63; clear HO_6; clear UU63; clear HL236_0; have HO_63 := n0_; have HB := n1_; have HH63 := n2_; have HO239 := n3_; clear n0_ n1_ n2_ n3_; clear ho hb hg hat; have p62 : 0 ≤ (x26_1 : Int) := of_decide_eq_true (by with_reducible assumption); have q62 : (x26_1 : Int) < ((x6_3.length : Int) : Int) := of_decide_eq_true (by with_reducible assumption); replace p62 := eq_true p62; replace q62 := eq_true q62; obtain ⟨Ao67, co67, eo67⟩ := Kd.R_slice HO239.out; subst eo67; obtain ⟨_, _, hraw65, _, _, hcc65, _⟩ := Kd.H_raw HH63.out (of_decide_eq_true (by with_reducible assumption)) (by have h_ : (x26_1 : Int) < ((x6_3.length : Int) : Int) := of_decide_eq_true (by with_reducible assumption); first | exact h_ | (have e_ := (HN63.out); omega) | simpa using h_); obtain ⟨_, hfr65⟩ := Kd.H_at HH63.out (of_decide_eq_true (by with_reducible assumption)) (by have h_ : (x26_1 : Int) < ((x6_3.length : Int) : Int) := of_decide_eq_true (by with_reducible assumption); first | exact h_ | (have e_ := (HN63.out); omega) | simpa using h_); have hx65_0 := hcc65 0 _ rfl; have hf65_0 := hfr65 0; (try simp only [Nat.add_zero] at hx65_0 hf65_0); (try rw [show ((Kd.slice 3 (Kd.int .i64))).sz = 1 from rfl, Nat.mul_one] at hx65_0); (try rw [show ((Kd.slice 3 (Kd.int .i64))).sz = 1 from rfl, Nat.mul_one] at hf65_0); have HP65 := Kd.S_seg0 HH63.out (of_decide_eq_true (by with_reducible assumption)) (by have h_ : (x26_1 : Int) < ((x6_3.length : Int) : Int) := of_decide_eq_true (by with_reducible assumption); first | exact h_ | (have e_ := (HN63.out); omega) | simpa using h_) (seg := [.slice Ao67 y237.length co67]) (j := 0) (show 1 ≤ 1 from by decide) (x' := y237) (Kd.M_row HO239.out) (fun _ hk => hk); (try simp only [show ((Kd.slice 3 (Kd.int .i64))).sz = 1 from rfl, Nat.mul_one, Nat.add_zero] at HP65); clear hcc65 hfr65) | ((with_reducible refine gate_store (t := 22) (p := 101) rfl ?_); refine store_event (t := 22) (p := 101) (v := ?vo_w66) (w1 := (w64.setCell ⟨go63, (x26_1 : Int).toNat, none⟩ (.slice Ao67 y237.length co67))) ?hg ?ho ?hn ?hr ?_; (case ho => rfl); (case hg => rfl); (case hn => rfl); (case hr => first | (go_simp; done) | (go_simp; rfl)); intro w66 hw; have hg : w64.grownBy w66 (some go63) := (by rw [hw]; exact HP65.2); have hp_ : Kd.S (Kd.slice 3 (Kd.int .i64)) 22 w66 wc.heap.size (fun _ => True) (.slice (some ⟨go63, 0, none⟩) x6_3.length co9) y240 := (by rw [hw, Ny240.out]; exact HP65.1); clear HP65; have n0_ := Aside0.mk (Kd.R_over' (v := (.slice (some ⟨go63, 0, none⟩) x6_3.length co9)) (by (with_reducible repeat (first | apply R_alloc | apply R_drewN | apply R_drew)); exact HO_63.out) (Kd.R_typed hraw65) (by decide) hg); have n1_ := Aside0.mk ((by rw [hw]; exact below_set HB.out GB63.out : Below wc.heap.size wc w66)); have n2_ := Aside0.mk (hp_); clear HO_63; clear HB; clear HO239; clear HH63; have HO_63 := n0_; have HB := n1_; have HO_6 := n2_; clear n0_ n1_ n2_; clear hg hw hp_ hraw65))
        (try simp only [← hl6_3])
        go_roundg k3
        case measure => have := HK1.out; have := HK2.out; have := HK3.out; omega
        case rel => exact ⟨(y240), (wrap64 (x65_3 + 1)), (by first | rfl | (simp; done) | (simp [*]; done)), H', ⟨by have := HK1.out; have := HK2.out; have := HK3.out; omega⟩, ⟨by (try simp only [hl6_1]); (try simp only [hl6_3]); (with_reducible repeat (first | apply S_alloc | apply S_drewN | apply S_drew)); exact HO_6.out⟩, ⟨by (try simp only [hl6_1]); (try simp only [hl6_3]); (with_reducible repeat (first | apply R_alloc | apply R_drewN | apply R_drew)); exact HO_63.out⟩, ⟨by repeat (first | (with_reducible first | exact HB.out | apply below_alloc | apply pw_below_drewN | apply below_drew1) | exact HB.out)⟩⟩
      replace c46 := Bool.eq_false_iff.mpr c46
      subst c46
      have H1 : (dom_Frontier_b.l3 k3 l1 l2 l3 x6_3 x26_1 (y214.length : Int) x26_1 x8_2 (x8_2.length : Int) (wrap64 (x65_3 + 1))) = some r := by rw [if_neg (show ¬ (false = true) by decide)] at H; exact H
      clear H
      have H := H1
      clear H1
      have H' := Aside0.mk H
      clear H
      have p227 : 0 ≤ (x65_3 : Int) := of_decide_eq_true (by with_reducible assumption)
      have q227 : x65_3 < (x8_2.length : Int) := of_decide_eq_true (by with_reducible assumption)
      obtain ⟨ad227, e227, hx227_0⟩ := Kd.at_bool (R_reads' HO_63.out).2.2 x65_3 p227 q227
      (try rw [← Nbq41.out] at hx227_0)
      (try rw [← Nbq45.out] at hx227_0)
      cases e227
      replace p227 := eq_true p227
      replace q227 := eq_true q227
      have p228 : 0 ≤ (x26_1 : Int) := of_decide_eq_true (by with_reducible assumption)
      have q228 : x26_1 < (l2.length : Int) := of_decide_eq_true (by with_reducible assumption)
      obtain ⟨ad228, e228, hx228_0⟩ := Kd.at_bool HR2.out x26_1 p228 q228
      (try rw [← Nbq41.out] at hx228_0)
      (try rw [← Nbq45.out] at hx228_0)
      cases e228
      replace hx228_0 := (HB.out.cell (World.block_lt_of_cell? wc _ hx228_0)).trans hx228_0
      replace p228 := eq_true p228
      replace q228 := eq_true q228
      go_wp2
      (try simp only [← hl6_3])
      go_roundg k3
      case measure => have := HK1.out; have := HK2.out; have := HK3.out; omega
      case rel => exact ⟨(x6_3), (wrap64 (x65_3 + 1)), (by first | rfl | (simp; done) | (simp [*]; done)), H', ⟨by have := HK1.out; have := HK2.out; have := HK3.out; omega⟩, ⟨by (try simp only [hl6_1]); (try simp only [hl6_3]); (with_reducible repeat (first | apply S_alloc | apply S_drewN | apply S_drew)); exact HO_6.out⟩, ⟨by (try simp only [hl6_1]); (try simp only [hl6_3]); (with_reducible repeat (first | apply R_alloc | apply R_drewN | apply R_drew)); exact HO_63.out⟩, ⟨by repeat (first | (with_reducible first | exact HB.out | apply below_alloc | apply pw_below_drewN | apply below_drew1) | exact HB.out)⟩⟩
    replace c42 := Bool.eq_false_iff.mpr c42
    subst c42
    have H1 : (dom_Frontier_b.l3 k3 l1 l2 l3 x6_3 x26_1 (y214.length : Int) x26_1 x8_2 (x8_2.length : Int) (wrap64 (x65_3 + 1))) = some r := by rw [if_neg (show ¬ (false = true) by decide)] at H; exact H
    clear H
    have H := H1
    clear H1
    have H' := Aside0.mk H
    clear H
    have p227 : 0 ≤ (x65_3 : Int) := of_decide_eq_true (by with_reducible assumption)
    have q227 : x65_3 < (x8_2.length : Int) := of_decide_eq_true (by with_reducible assumption)
    obtain ⟨ad227, e227, hx227_0⟩ := Kd.at_bool (R_reads' HO_63.out).2.2 x65_3 p227 q227
    (try rw [← Nbq41.out] at hx227_0)
    cases e227
    replace p227 := eq_true p227
    replace q227 := eq_true q227
    go_wp2
    (try simp only [← hl6_3])
    go_roundg k3
    case measure => have := HK1.out; have := HK2.out; have := HK3.out; omega
    case rel => exact ⟨(x6_3), (wrap64 (x65_3 + 1)), (by first | rfl | (simp; done) | (simp [*]; done)), H', ⟨by have := HK1.out; have := HK2.out; have := HK3.out; omega⟩, ⟨by (try simp only [hl6_1]); (try simp only [hl6_3]); (with_reducible repeat (first | apply S_alloc | apply S_drewN | apply S_drew)); exact HO_6.out⟩, ⟨by (try simp only [hl6_1]); (try simp only [hl6_3]); (with_reducible repeat (first | apply R_alloc | apply R_drewN | apply R_drew)); exact HO_63.out⟩, ⟨by repeat (first | (with_reducible first | exact HB.out | apply below_alloc | apply pw_below_drewN | apply below_drew1) | exact HB.out)⟩⟩
  rw [if_neg c38] at H
  have c38b0 : decide (x65_3 < (x8_2.length : Int)) = false := decide_eq_false c38
  (try simp only [hl6_1, hl6_3] at c38b0)
  clear c38
  have H' := Aside0.mk H
  clear H
  go_wp2
  (try simp only [← hl6_1, ← hl6_3])
  go_roundg k3
  case measure => have := HK1.out; have := HK2.out; have := HK3.out; omega
  case rel => exact ⟨(x6_3), (wrap64 (x26_1 + 1)), (by first | rfl | (simp; done) | (simp [*]; done)), H', ⟨by have := HK1.out; have := HK2.out; have := HK3.out; omega⟩, ⟨by (try simp only [hl6_1]); (try simp only [hl6_3]); (with_reducible repeat (first | apply S_alloc | apply S_drewN | apply S_drew)); exact HO_6.out⟩, ⟨by repeat (first | (with_reducible first | exact HB.out | apply below_alloc | apply pw_below_drewN | apply below_drew1) | exact HB.out)⟩⟩
end Go.Proofs.Ytpionncanaamgaa.PDomStays
