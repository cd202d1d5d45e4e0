/- What is amiss with a block, as the checker tells it. Conditions: the looker stands. -/
import Derived.Test.YtckebppacealeaaDoorLh
namespace Go.Proofs.YtckebppacealeaaDoor.Lk
open Go.RowKit Go.Proofs.YtckebppacealeaaDoorW.PrintWords Go.Proofs.YtckebppacealeaaDoorW.PrintLast Go.Proofs.YtckebppacealeaaDoorW.PrintMore Go.Proofs.YtckebppacealeaaDoorW.PrintWords.Kd Go.Proofs.YtckebppacealeaaDoor.PCodeUnlike
attribute [local go_sem] max2_int min2_int max_two min_two max_three min_three max_four min_four
set_option linter.unusedVariables false
set_option linter.unusedSimpArgs false
variable {w w1 : World} {bl : Nat} {m : List Fn} {f : Fn} {Am : Option Addr} {cm : Nat} {Ar : Option Addr} {cr : Nat} {Ab : Option Addr} {cb : Nat}
def blockE (m : List Fn) (f : Fn) (b : Bk) : Option Int :=
  match b.f0.findSome? (phiE f) with
  | some c => some c
  | none => match b.f1.findSome? (instrE m f) with
    | some c => some c
    | none => endE f b.f2
theorem blockE_A {b : Bk} {q : Int} (h : b.f0.findSome? (phiE f) = some q) : blockE m f b = some q := by unfold blockE; rw [h]
theorem blockE_B {b : Bk} {q : Int} (h0 : b.f0.findSome? (phiE f) = none) (h : b.f1.findSome? (instrE m f) = some q) : blockE m f b = some q := by unfold blockE; rw [h0]; dsimp only; rw [h]
theorem blockE_C {b : Bk} (h0 : b.f0.findSome? (phiE f) = none) (h : b.f1.findSome? (instrE m f) = none) : blockE m f b = endE f b.f2 := by unfold blockE; rw [h0]; dsimp only; rw [h]
set_option maxHeartbeats 8000000 in
set_option maxRecDepth 100000 in
theorem block_any (h : Lk w bl m f Am cm Ar cr Ab cb) (b : Bk) (A0 : Option Addr) (c0 : Nat) (A1 : Option Addr) (c1 : Nat) (A2 : Option Addr) (c2 : Nat) (hp : Kd.C k60 w A0 b.f0.length b.f0) (hi : Kd.C k58 w A1 b.f1.length b.f1) :
    Calls Tryd.prog 65 #[.pointer (some ⟨bl, 0, none⟩), .agg #[.slice A0 b.f0.length c0, .slice A1 b.f1.length c1, .int .i64 b.f2.f0, .int .i64 b.f2.f1, .slice A2 b.f2.f2.length c2]] w fun e w' => e = .returned (errW (blockE m f b)) ∧ Below w.heap.size w w' := by
  have HL := Aside0.mk h
  have HPA := Aside0.mk hp
  have HPB := Aside0.mk hi
  clear h hp hi
  obtain ⟨ps, xs, tm⟩ := b
  dsimp only at *
  go_enter Tryd.func65, Tryd.ntmps65
  go_wp2_with ((with_reducible refine gate_dst (N := 3) rfl ?_); refine box_event ?hg (N := 3) ?hd (cs := #[.slice A0 ps.length c0, .slice A1 xs.length c1, .int .i64 tm.f0, .int .i64 tm.f1, .slice A2 tm.f2.length c2]) (t := 56) ?hr ?_; (case hd => rfl); (case hg => rfl); (case hr => first | (go_simp; done) | (go_simp; rfl)); intro gb3 hg w2 hbox hb; have BX3 := Aside0.mk hbox; have H0 := Aside0.mk hb; have HG3 := Aside0.mk hg; have HB := Aside0.mk (Below.refl w2.heap.size w2); clear hbox hb hg; have hx3_0 : w2.cell? ⟨gb3, 0, none⟩ = some (.slice A0 ps.length c0) := (blk_cell BX3.out 0).trans rfl; have hx3_1 : w2.cell? ⟨gb3, 1, none⟩ = some (.slice A1 xs.length c1) := (blk_cell BX3.out 1).trans rfl; have hx3_2 : w2.cell? ⟨gb3, 2, none⟩ = some (.int .i64 tm.f0) := (blk_cell BX3.out 2).trans rfl; have hx3_3 : w2.cell? ⟨gb3, 3, none⟩ = some (.int .i64 tm.f1) := (blk_cell BX3.out 3).trans rfl; have hx3_4 : w2.cell? ⟨gb3, 4, none⟩ = some (.slice A2 tm.f2.length c2) := (blk_cell BX3.out 4).trans rfl)
  replace HPA := Aside0.mk (Kd.C_below HPA.out H0.out)
  replace HPB := Aside0.mk (Kd.C_below HPB.out H0.out)
  clear hx3_0 hx3_1 hx3_2 hx3_3 hx3_4
  go_loopw [14] (fun v14 wr => ∃ k : Nat, k ≤ ps.length ∧ v14 = .int .i64 k ∧ Aside0 (∀ j, j < k → phiE f (ps.getD j z60) = none) ∧ Aside0 (Below w2.heap.size w2 wr)) (fun v14 _ => ps.length - (intOf v14).toNat)
  case atStart => exact ⟨0, Nat.zero_le _, rfl, ⟨fun j hj => absurd hj (Nat.not_lt_zero _)⟩, HB⟩
  case round =>
    clear HB
    obtain ⟨k, hk, rfl, HK, HB⟩ := hrel
    have hxl := HPA.out.2.1
    by_cases hlt : k < ps.length
    · have e0 : decide ((k : Int) < (ps.length : Int)) = true := decide_eq_true (by omega)
      have p0 : 0 ≤ (k : Int) := by omega
      have q0 : (k : Int) < (ps.length : Int) := by omega
      obtain ⟨ad, A5, c5, ex, hx0, hx1, hl5, hi5⟩ := at_T60 (Kd.C_below HPA.out HB.out) k p0 q0
      cases ex
      rw [Int.toNat_natCast] at hx0 hx1
      have p1 := eq_true p0
      have q1 := eq_true q0
      have hlx := (HL.out.below H0.out).below HB.out
      have hcon := fun W (hW : Below wr.heap.size wr W) => phi_any (hlx.below hW) (rd_T60 ps k) A5 c5 (Kd.C_below hi5 hW)
      clear hlx p0 q0
      obtain ⟨x, hx⟩ : ∃ x, x = rd_T60 ps (k : Int) := ⟨_, rfl⟩
      have hgx : ps.getD k z60 = x := by rw [hx]; rfl
      rw [← hx] at hcon hx0 hx1
      have HX := Aside0.mk hgx
      clear hx hgx
      cases hq : phiE f x with
      | none =>
        have HQ := Aside0.mk hq
        rw [hq] at hcon
        clear hq
        go_wp2_with (fail)
        refine (hcon _ (by repeat (with_reducible first | exact Below.refl _ _ | apply below_alloc))).mono ?_
        rw [errW_none]
        rintro e w6 ⟨rfl, hb⟩
        have HB6 := Aside0.mk (below_step (below_alloc HB.out _) hb)
        clear hb hcon
        go_wp2
        go_roundw
        case rel =>
          refine ⟨k + 1, hlt, by go_num, ⟨fun j hj => ?_⟩, HB6⟩
          by_cases e : j = k
          · subst e
            rw [HX.out]
            exact HQ.out
          · exact HK.out j (by omega)
        case measure => simp [intOf]; omega
      | some q =>
        have HQ := Aside0.mk hq
        rw [hq] at hcon
        clear hq
        go_wp2_with (fail)
        refine (hcon _ (by repeat (with_reducible first | exact Below.refl _ _ | apply below_alloc))).mono ?_
        rw [errW_some]
        rintro e w6 ⟨rfl, hb⟩
        have HB6 := Aside0.mk (below_step (below_alloc HB.out _) hb)
        clear hb hcon
        go_wp2
        go_ret
        refine ⟨?_, below_step H0.out HB6.out⟩
        show Ending.returned (errW (some q)) = _
        rw [blockE_A (find_at (z := z60) hlt HK.out (by rw [HX.out]; exact HQ.out))]
    · have e0 : decide ((k : Int) < (ps.length : Int)) = false := decide_eq_false (by omega)
      obtain rfl : k = ps.length := by omega
      have HNO := Aside0.mk (find_no (g := phiE f) (z := z60) HK.out)
      clear hlt hk hxl HK
      have hx3_1 := bx_cell BX3.out HB.out 1 (v := .slice A1 xs.length c1) rfl
      go_wp2
      obtain ⟨wo, rfl⟩ : ∃ wo : World, wo = wr := ⟨_, rfl⟩
      clear hx3_1
      go_loopw [28] (fun v28 wr => ∃ k : Nat, k ≤ xs.length ∧ v28 = .int .i64 k ∧ Aside0 (∀ j, j < k → instrE m f (xs.getD j z58) = none) ∧ Aside0 (Below w2.heap.size w2 wr)) (fun v28 _ => xs.length - (intOf v28).toNat)
      case atStart => exact ⟨0, Nat.zero_le _, rfl, ⟨fun j hj => absurd hj (Nat.not_lt_zero _)⟩, HB⟩
      case round =>
        clear HB
        obtain ⟨k, hk, rfl, HK, HB⟩ := hrel
        have hxl := HPB.out.2.1
        by_cases hlt : k < xs.length
        · have e0 : decide ((k : Int) < (xs.length : Int)) = true := decide_eq_true (by omega)
          have p0 : 0 ≤ (k : Int) := by omega
          have q0 : (k : Int) < (xs.length : Int) := by omega
          obtain ⟨ad, A5, c5, ex, hx0, hx1, hx2, hx3, hx4, hl5, hi5⟩ := at_T58 (Kd.C_below HPB.out HB.out) k p0 q0
          cases ex
          rw [Int.toNat_natCast] at hx0 hx1 hx2 hx3 hx4
          have p1 := eq_true p0
          have q1 := eq_true q0
          have hlx := (HL.out.below H0.out).below HB.out
          have hcon := fun W (hW : Below wr.heap.size wr W) => instr_any (hlx.below hW) (rd_T58 xs k) A5 c5 (Kd.C_below hi5 hW)
          clear hlx p0 q0
          obtain ⟨x, hx⟩ : ∃ x, x = rd_T58 xs (k : Int) := ⟨_, rfl⟩
          have hgx : xs.getD k z58 = x := by rw [hx]; rfl
          rw [← hx] at hcon hx0 hx1 hx2 hx3 hx4
          have HX := Aside0.mk hgx
          clear hx hgx
          cases hq : instrE m f x with
          | none =>
            have HQ := Aside0.mk hq
            rw [hq] at hcon
            clear hq
            go_wp2_with (fail)
            refine (hcon _ (by repeat (with_reducible first | exact Below.refl _ _ | apply below_alloc))).mono ?_
            rw [errW_none]
            rintro e w6 ⟨rfl, hb⟩
            have HB6 := Aside0.mk (below_step (below_alloc HB.out _) hb)
            clear hb hcon
            go_wp2
            go_roundw
            case rel =>
              refine ⟨k + 1, hlt, by go_num, ⟨fun j hj => ?_⟩, HB6⟩
              by_cases e : j = k
              · subst e
                rw [HX.out]
                exact HQ.out
              · exact HK.out j (by omega)
            case measure => simp [intOf]; omega
          | some q =>
            have HQ := Aside0.mk hq
            rw [hq] at hcon
            clear hq
            go_wp2_with (fail)
            refine (hcon _ (by repeat (with_reducible first | exact Below.refl _ _ | apply below_alloc))).mono ?_
            rw [errW_some]
            rintro e w6 ⟨rfl, hb⟩
            have HB6 := Aside0.mk (below_step (below_alloc HB.out _) hb)
            clear hb hcon
            go_wp2
            go_ret
            refine ⟨?_, below_step H0.out HB6.out⟩
            show Ending.returned (errW (some q)) = _
            rw [blockE_B HNO.out (find_at (z := z58) hlt HK.out (by rw [HX.out]; exact HQ.out))]
        · have e0 : decide ((k : Int) < (xs.length : Int)) = false := decide_eq_false (by omega)
          obtain rfl : k = xs.length := by omega
          have HNO2 := Aside0.mk (find_no (g := instrE m f) (z := z58) HK.out)
          clear hlt hk hxl HK
          have hx3_2 := bx_cell BX3.out HB.out 2 (v := .int .i64 tm.f0) rfl
          have hx3_3 := bx_cell BX3.out HB.out 3 (v := .int .i64 tm.f1) rfl
          have hx3_4 := bx_cell BX3.out HB.out 4 (v := .slice A2 tm.f2.length c2) rfl
          go_wp2_with (fail)
          refine (end_any ((HL.out.below H0.out).below HB.out) tm A2 c2).mono ?_
          rintro e w7 ⟨rfl, hb⟩
          have HB7 := Aside0.mk (below_step HB.out hb)
          clear hb
          go_wp2
          go_ret
          refine ⟨?_, below_step H0.out HB7.out⟩
          rw [blockE_C HNO.out HNO2.out]
          rfl
end Go.Proofs.YtckebppacealeaaDoor.Lk
