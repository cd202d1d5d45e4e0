/- What is amiss with a module that should be plain, as check.Plain tells it. Conditions: rows of at most 100000. -/
import Derived.Test.YtocjpkjijjdnbaaLn
namespace Go.Proofs.Ytocjpkjijjdnbaa.Lk
open Go.RowKit Go.Proofs.YtocjpkjijjdnbaaW.PrintWords Go.Proofs.YtocjpkjijjdnbaaW.PrintLast Go.Proofs.YtocjpkjijjdnbaaW.PrintMore Go.Proofs.YtocjpkjijjdnbaaW.PrintWords.Kd Go.Proofs.Ytocjpkjijjdnbaa.PCheckStays Go.Proofs.Ytocjpkjijjdnbaa.Lp
attribute [local go_sem] max2_int min2_int max_two min_two max_three min_three max_four min_four
set_option linter.unusedVariables false
set_option linter.unusedSimpArgs false
variable {w w1 : World}
def phiful (b : Bk) : Bool := decide (0 < (b.f0.length : Int))
set_option maxHeartbeats 4000000 in
theorem plain1_any (b : Bk) (A0 A1 A4 : Option Addr) (c0 c1 c4 : Nat) (w : World) :
    Calls Try.prog 18 #[.agg #[.slice A0 b.f0.length c0, .slice A1 b.f1.length c1, .int .i64 b.f2.f0, .int .i64 b.f2.f1, .slice A4 b.f2.f2.length c4]] w fun e w' => e = .returned (.bool (phiful b)) ∧ Below w.heap.size w w' := by
  unfold phiful
  go_enter Try.func18, Try.ntmps18
  go_wp2_with ((with_reducible refine gate_dst (N := 1) rfl ?_); refine box_event ?hg (N := 1) ?hd (cs := #[.slice A0 b.f0.length c0, .slice A1 b.f1.length c1, .int .i64 b.f2.f0, .int .i64 b.f2.f1, .slice A4 b.f2.f2.length c4]) (t := 43) ?hr ?_; (case hd => rfl); (case hg => rfl); (case hr => first | (go_simp; done) | (go_simp; rfl)); intro gb1 hg w2 hbox hb; have BX1 := Aside0.mk hbox; have H0 := Aside0.mk hb; have HG1 := Aside0.mk hg; have HB := Aside0.mk (Below.refl w2.heap.size w2); clear hbox hb hg; have hx1_0 : w2.cell? ⟨gb1, 0, none⟩ = some (.slice A0 b.f0.length c0) := (blk_cell BX1.out 0).trans rfl; have hx1_1 : w2.cell? ⟨gb1, 1, none⟩ = some (.slice A1 b.f1.length c1) := (blk_cell BX1.out 1).trans rfl; have hx1_2 : w2.cell? ⟨gb1, 2, none⟩ = some (.int .i64 b.f2.f0) := (blk_cell BX1.out 2).trans rfl; have hx1_3 : w2.cell? ⟨gb1, 3, none⟩ = some (.int .i64 b.f2.f1) := (blk_cell BX1.out 3).trans rfl; have hx1_4 : w2.cell? ⟨gb1, 4, none⟩ = some (.slice A4 b.f2.f2.length c4) := (blk_cell BX1.out 4).trans rfl)
  go_ret
  exact ⟨by first | rfl | (simp; done) | (simp [*]; done), H0.out⟩
set_option maxHeartbeats 4000000 in
theorem indexB_any (B : List Bk) (A : Option Addr) (c : Nat) (hr : Kd.C k43 w A B.length B) :
    Calls Try.prog 25 #[.slice A B.length c, .func (.func 18) #[] #[]] w fun e w' => (∃ r : Int, e = .returned (.int .i64 r) ∧ (0 ≤ r ↔ B.any phiful = true)) ∧ Below w.heap.size w w' := by
  have eg : ∀ args w, (callFunc 18 args).run Try.prog w = .ok (.enter 18 args) w := enters_of Try.func18 (by kernel_rfl) rfl
  have hl := hr.2.1
  have HR := Aside0.mk hr
  have HB := Aside0.mk (Below.refl w.heap.size w)
  clear hr
  go_enter Try.func25, Try.ntmps25
  go_wp2
  go_loopg [5, 8] B.length (fun gg _ s8 wr => ∃ k : Nat, k ≤ B.length ∧ B.length - k ≤ gg ∧ s8 = .int .i64 k ∧ Aside0 (∀ j : Nat, j < k → phiful (B.getD j z43) = false) ∧ Aside0 (Below w.heap.size w wr))
  case atStart => exact ⟨0, Nat.zero_le _, by omega, rfl, ⟨fun j hj => absurd hj (Nat.not_lt_zero _)⟩, HB⟩
  case round =>
    clear HB
    obtain ⟨k, hk, hg, rfl, HA, HB⟩ := hrel
    by_cases hlt : k < B.length
    · have e0 : decide ((k : Int) < (B.length : Int)) = true := decide_eq_true (by omega)
      have p0 : 0 ≤ (k : Int) := by omega
      have q0 : (k : Int) < (B.length : Int) := by omega
      obtain ⟨ad, A0, c0, A1, c1, A4, c4, ex, hx0, hx1, hx2, hx3, hx4, _⟩ := at_T43 (Kd.C_below HR.out HB.out) k p0 q0
      cases ex
      rw [Int.toNat_natCast] at hx0 hx1 hx2 hx3 hx4
      obtain ⟨x, hx⟩ : ∃ x, x = rd_T43 B (k : Int) := ⟨_, rfl⟩
      have hgx : B.getD k z43 = x := by rw [hx]; rfl
      rw [← hx] at hx0 hx1 hx2 hx3 hx4
      have HX := Aside0.mk hgx
      have HLT := Aside0.mk hlt
      have p1 := eq_true p0
      have q1 := eq_true q0
      have hcall := plain1_any x A0 A1 A4 c0 c1 c4 wr
      clear hx hgx p0 q0
      cases hq : phiful x with
      | true =>
        rw [hq] at hcall
        have HQ := Aside0.mk hq
        clear hq
        go_wp2_with (go_at_fn 18; refine hcall.mono ?_; rintro e w' ⟨rfl, hb⟩; have HB2 := Aside0.mk hb; clear hb)
        go_ret
        exact ⟨⟨k, rfl, ⟨fun _ => List.any_eq_true.mpr ⟨x, HX.out ▸ getD_mem _ _ _ HLT.out, HQ.out⟩, fun _ => Int.natCast_nonneg _⟩⟩, below_step HB.out HB2.out⟩
      | false =>
        rw [hq] at hcall
        have HQ := Aside0.mk hq
        clear hq
        go_wp2_with (go_at_fn 18; refine hcall.mono ?_; rintro e w' ⟨rfl, hb⟩; have HB2 := Aside0.mk hb; clear hb)
        go_roundg (B.length - (k + 1))
        case measure => omega
        case rel =>
          refine ⟨k + 1, by omega, by omega, by go_num, ⟨fun j hj => ?_⟩, ⟨below_step HB.out HB2.out⟩⟩
          by_cases e : j = k
          · subst e
            rw [HX.out]
            exact HQ.out
          · exact HA.out j (by omega)
    · have e0 : decide ((k : Int) < (B.length : Int)) = false := decide_eq_false (by omega)
      obtain rfl : k = B.length := by omega
      go_wp2
      go_ret
      refine ⟨⟨-1, rfl, ⟨fun h => by omega, fun h => ?_⟩⟩, HB.out⟩
      obtain ⟨x, hx, hpx⟩ := List.any_eq_true.mp h
      obtain ⟨j, hj, rfl⟩ := mem_getD z43 hx
      exact absurd (hpx.symm.trans (HA.out j hj)) (by simp)
set_option maxHeartbeats 4000000 in
theorem containsB_any (B : List Bk) (A : Option Addr) (c : Nat) (hr : Kd.C k43 w A B.length B) :
    Calls Try.prog 17 #[.slice A B.length c, .func (.func 18) #[] #[]] w fun e w' => e = .returned (.bool (B.any phiful)) ∧ Below w.heap.size w w' := by
  have hcon := indexB_any B A c hr
  clear hr
  go_enter Try.func17, Try.ntmps17
  go_wp2_with (go_at_call 25; refine hcon.mono ?_; rintro e w' ⟨⟨r, rfl, hr⟩, hb⟩; have HB := Aside0.mk hb; have HR := Aside0.mk hr; clear hb hr)
  have hd : decide (r ≥ 0) = B.any phiful := by
    have := HR.out
    cases h : B.any phiful
    · rw [h] at this
      exact decide_eq_false (fun h2 => by simpa using this.mp h2)
    · rw [h] at this
      exact decide_eq_true (this.mpr rfl)
  rw [hd]
  go_ret
  exact ⟨rfl, HB.out⟩
def plainE (m : List Fn) : Option (Int × Int) :=
  match modE m with
  | some x => some x
  | none => (List.range m.length).findSome? fun i : Nat => if (m.getD i z25).f3.any phiful = true then some ((i : Int), 6) else none
theorem plainE_A {m : List Fn} {x : Int × Int} (h : modE m = some x) : plainE m = some x := by unfold plainE; rw [h]
theorem plainE_B {m : List Fn} (h : modE m = none) : plainE m = (List.range m.length).findSome? fun i : Nat => if (m.getD i z25).f3.any phiful = true then some ((i : Int), 6) else none := by unfold plainE; rw [h]
set_option maxHeartbeats 8000000 in
set_option maxRecDepth 100000 in
theorem plain_any (m : List Fn) (Am : Option Addr) (cm : Nat) (hm : Kd.C k25 w Am m.length m) (hcm : m.length ≤ cm) (hbd : ∀ j, j < m.length → Bd (m.getD j z25).f3) :
    Calls Try.prog 12 #[.agg #[.slice Am m.length cm]] w fun e w' => (∃ v, e = .returned v ∧ IsErr w' w.heap.size (plainE m) v) ∧ Below w.heap.size w w' := by
  have HM := Aside0.mk hm
  have HCM := Aside0.mk hcm
  have HBD := Aside0.mk hbd
  clear hm hcm hbd
  have key : ∀ r, plainE m = r → Calls Try.prog 12 #[.agg #[.slice Am m.length cm]] w fun e w' => (∃ v, e = .returned v ∧ IsErr w' w.heap.size r v) ∧ Below w.heap.size w w' := by
    intro r hr
    have HV := Aside0.mk hr
    clear hr
    go_enter Try.func12, Try.ntmps12
    go_wp2_with ((with_reducible refine gate_dst (N := 1) rfl ?_); refine box_event ?hg (N := 1) ?hd (cs := #[.slice Am m.length cm]) (t := 30) ?hr ?_; (case hd => rfl); (case hg => rfl); (case hr => first | (go_simp; done) | (go_simp; rfl)); intro gb1 hg w2 hbox hb; have BX1 := Aside0.mk hbox; have H0 := Aside0.mk hb; have HG1 := Aside0.mk hg; have HB := Aside0.mk (Below.refl w2.heap.size w2); clear hbox hb hg; have hx1_0 : w2.cell? ⟨gb1, 0, none⟩ = some (.slice Am m.length cm) := (blk_cell BX1.out 0).trans rfl)
    refine (module_any (w := w2) m Am cm (Kd.C_below HM.out H0.out) HCM.out HBD.out).mono ?_
    rintro e w3 ⟨⟨v, rfl, hv⟩, hb⟩
    replace HB := Aside0.mk hb
    clear hb hx1_0
    cases hme : modE m with
    | some ac =>
      obtain rfl : r = some ac := HV.out.symm.trans (plainE_A hme)
      obtain ⟨a, c⟩ := ac
      rw [hme] at hv
      clear hme
      have HW := Aside0.mk ((IsErr.lower hv H0.out.size))
      rcases hv with ⟨rfl, rfl⟩ | ⟨_, g, _, rfl, _⟩
      all_goals
        go_wp2
        go_ret
        exact ⟨⟨_, rfl, HW.out⟩, below_step H0.out HB.out⟩
    | none =>
      rw [hme] at hv
      obtain rfl : v = .nilIface := hv
      have hv2 := HV.out
      rw [plainE_B hme] at hv2
      replace HV := Aside0.mk hv2
      clear hme hv2
      have hx1_0 := bx_cell BX1.out HB.out 0 (v := .slice Am m.length cm) rfl
      go_wp2
      clear hx1_0
      go_loopw [14] (fun v14 wr => ∃ k : Nat, k ≤ m.length ∧ v14 = .int .i64 k ∧ Aside0 (∀ j : Nat, j < k → (m.getD j z25).f3.any phiful = false) ∧ Aside0 (Below w2.heap.size w2 wr)) (fun v14 _ => m.length - (intOf v14).toNat)
      case atStart => exact ⟨0, Nat.zero_le _, rfl, ⟨fun j hj => absurd hj (Nat.not_lt_zero _)⟩, HB⟩
      case round =>
        clear HB
        obtain ⟨k, hk, rfl, HK, HB⟩ := hrel
        have hxl := HM.out.2.1
        by_cases hlt : k < m.length
        · have e0 : decide ((k : Int) < (m.length : Int)) = true := decide_eq_true (by omega)
          have p0 : 0 ≤ (k : Int) := by omega
          have q0 : (k : Int) < (m.length : Int) := by omega
          obtain ⟨ad, A2, c2, A3, c3, ex, hx0, hx1, hx2, hx3, hl2, hi2, hl3, hi3⟩ := at_T25 (Kd.C_below (Kd.C_below HM.out H0.out) HB.out) k p0 q0
          cases ex
          rw [Int.toNat_natCast] at hx0 hx1 hx2 hx3
          obtain ⟨x, hx⟩ : ∃ x, x = rd_T25 m (k : Int) := ⟨_, rfl⟩
          have hgx : m.getD k z25 = x := by rw [hx]; rfl
          rw [← hx] at hx0 hx1 hx2 hx3 hi3
          have HX := Aside0.mk hgx
          have HLT := Aside0.mk hlt
          have p1 := eq_true p0
          have q1 := eq_true q0
          have hcon := fun W (hW : Below wr.heap.size wr W) => containsB_any x.f3 A3 c3 (Kd.C_below hi3 hW)
          clear hx hgx p0 q0 hl2 hi2 hl3 hi3
          cases hq : x.f3.any phiful with
          | false =>
            rw [hq] at hcon
            have HQ := Aside0.mk hq
            clear hq
            go_wp2_with (fail)
            refine (hcon _ (below_alloc (Below.refl _ _) _)).mono ?_
            rintro e w6 ⟨rfl, hb⟩
            have HB6 := Aside0.mk (below_step (below_alloc HB.out _) hb)
            clear hb hcon
            go_wp2
            go_roundw
            case rel =>
              refine ⟨k + 1, hlt, by go_num, ⟨fun j hj => ?_⟩, HB6⟩
              by_cases e : j = k
              · subst e
                rw [HX.out]
                exact HQ.out
              · exact HK.out j (by omega)
            case measure => simp [intOf]; omega
          | true =>
            rw [hq] at hcon
            have HQ := Aside0.mk hq
            clear hq
            go_wp2_with (fail)
            refine (hcon _ (below_alloc (Below.refl _ _) _)).mono ?_
            rintro e w6 ⟨rfl, hb⟩
            have HB6 := Aside0.mk (below_step (below_alloc HB.out _) hb)
            clear hb hcon
            have hv := HV.out
            rw [range_at hlt (fun j hj => by rw [HK.out j hj]; rfl) (by rw [HX.out, HQ.out]; rfl)] at hv
            subst hv
            go_wp2
            go_ret
            exact ⟨⟨_, rfl, .inr ⟨Int.natCast_nonneg _, w6.heap.size, Nat.le_trans H0.out.size HB6.out.size, rfl, blk_new w6 _⟩⟩, below_step H0.out (below_alloc HB6.out _)⟩
        · have e0 : decide ((k : Int) < (m.length : Int)) = false := decide_eq_false (by omega)
          obtain rfl : k = m.length := by omega
          have hv := HV.out
          rw [range_no (fun j hj => by rw [HK.out j hj]; rfl)] at hv
          subst hv
          go_wp2
          go_ret
          exact ⟨⟨_, rfl, rfl⟩, below_step H0.out HB.out⟩
  exact key _ rfl
end Go.Proofs.Ytocjpkjijjdnbaa.Lk
