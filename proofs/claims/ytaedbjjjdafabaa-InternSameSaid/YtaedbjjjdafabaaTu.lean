/- The law InternSame returns true for any numbers and any values. Conditions: the numbers are of their kind. -/
import Derived.Test.YtaedbjjjdafabaaTt
import Derived.StillTailTactics
import Derived.IntWalk
namespace Go.Proofs.Ytaedbjjjdafabaa.Tb
open Go.RowKit Go.Proofs.YtaedbjjjdafabaaW.PrintWords Go.Proofs.YtaedbjjjdafabaaW.PrintLast Go.Proofs.YtaedbjjjdafabaaW.PrintMore Go.Proofs.YtaedbjjjdafabaaW.PrintWords.Kd Go.Maps Go.Proofs.Ytaedbjjjdafabaa.PInternFull
attribute [local go_sem] max2_int min2_int max_two min_two max_three min_three max_four min_four
set_option linter.unusedVariables false
set_option linter.unusedSimpArgs false
variable {w w1 : World} {b g gt : Nat} {A : Option Addr} {n c bm m : Nat} {X : List (List (Int × Int))} {D : DataW Unit} {ok ok2 : Nat → Prop}
theorem Tab.k (h : Tab w b gt A n c bm m X D) : TabK w b (fun k => b ≤ k ∧ k < w.heap.size) gt A n c bm m X D :=
  ⟨h.blk, S_mono (S_bound h.rows) (fun k hk => ⟨hk.2.1, hk.2.2.1⟩), h.map, h.ge, h.gem, ⟨h.ge, blk_lt h.blk⟩, ⟨h.gem, h.map.lt⟩⟩
set_option maxHeartbeats 4000000 in
theorem less15 (x1 x2 y1 y2 : Int) (h : ltV (x1, x2) (y1, y2) = true) (w : World) : Calls Try.prog 15 #[.agg #[.int .i64 x1, .int .i64 x2], .agg #[.int .i64 y1, .int .i64 y2]] w fun e w' => e = .returned (.bool true) ∧ Below w.heap.size w w' := by
  have h' : x1 < y1 ∨ x1 = y1 ∧ x2 < y2 := of_decide_eq_true h
  clear h
  by_cases h1 : x1 < y1
  · have d1 := decide_eq_true h1
    clear h'
    go_enter Try.func15, Try.ntmps15
    go_wp2
    go_ret
    exact ⟨rfl, below_alloc (below_alloc (Below.refl _ _) _) _⟩
  · obtain ⟨rfl, h2⟩ := h'.resolve_left h1
    have d1 := decide_eq_false h1
    have d2 := decide_eq_true h2
    have d3 : (x1 == x1) = true := by simp
    go_enter Try.func15, Try.ntmps15
    go_wp2
    go_ret
    exact ⟨rfl, below_alloc (below_alloc (Below.refl _ _) _) _⟩
theorem find_at (h : Tab w b gt A n c bm m X D) (G : Good n X D) {v : V2} (hv : v ∈ X.flatten) (k : Nat) :
    Calls Try.prog 11 #[.pointer (some ⟨gt, 0, none⟩), .int .i64 v.1, .int .i64 v.2] (w.drewN k) fun e w' => e = .returned (.tuple #[.int .i64 (hof D v), .bool true]) ∧ ∃ k', w' = w.drewN k' := by
  have hw := (G.mem v hv).1
  refine (find_any (h.drewN k) v.1 v.2 hw.1 hw.2).mono ?_
  rintro e w' ⟨⟨r, hr, rfl⟩, ⟨⟨q, rfl⟩⟩⟩
  have e1 : hof D v = r := by unfold hof; rw [hr]
  rw [e1, (G.has v hw).2 hv]
  exact ⟨rfl, k + q, by simp [World.drewN, Nat.add_assoc]⟩
theorem rank_at {v : V2} {bo q i : Nat} {R : DataW Unit} (hm : w.ownsMap Try.prog 3 (plainElem Try.prog 3) bo q R) (hw : (Lit.int .i64 (hof D v)).wf = true) (ha : R.atKey (.int .i64 (hof D v)) (.lit (.int .i64 0)) = .lit (.int .i64 (i : Int))) :
    (Instr.lookup 41 (.map (some bo)) (.int .i64 (hof D v)) false).run Try.prog w = .ok (.int .i64 (i : Int)) w := by
  obtain ⟨r, hrun, hat, _⟩ := hm.lookup_int law3 Try.underlying41 Try.underlying3 (zero3 _) (keyOf_int_mk Try.underlying3 hw)
  rw [ha] at hat
  simp only [DataW.lit.injEq, Lit.int.injEq, true_and] at hat
  rw [hrun, ← hat]
theorem hof_wf (G : Good n X D) (hn : n ≤ 16) (hl : X.flatten.length ≤ 1000) {v : V2} (hv : v ∈ X.flatten) : (Lit.int .i64 (hof D v)).wf = true := by
  obtain ⟨d, j, hd, hdl, hj⟩ := at_mem X v hv
  rw [hof_at G hd]
  rw [G.len] at hdl
  have : j * n ≤ 1000 * 16 := Nat.mul_le_mul (by omega) hn
  exact i64_wf (by omega) (by omega)
theorem all_mem (l : List V2) (v : V2) : (∃ j, j < l.length ∧ l.getD j (0, 0) = v) ↔ v ∈ l := by
  constructor
  · rintro ⟨j, hj, rfl⟩
    rw [List.getD_eq_getElem?_getD, List.getElem?_eq_getElem hj, Option.getD_some]
    exact List.getElem_mem hj
  · intro hv
    obtain ⟨k, hk, rfl⟩ := List.mem_iff_getElem.1 hv
    exact ⟨k, hk, by rw [List.getD_eq_getElem?_getD, List.getElem?_eq_getElem hk, Option.getD_some]⟩
theorem getD_mem {l : List V2} {k : Nat} (hk : k < l.length) : l.getD k (0, 0) ∈ l := by
  rw [List.getD_eq_getElem?_getD, List.getElem?_eq_getElem hk, Option.getD_some]
  exact List.getElem_mem hk
theorem still_lookup' {P : Program} {ops : Array Oper} {w : World} {Q : Act → Prop} {o : Oper} {rest : List Oper} {a : Act} (hw : Region.wanted o (yielded ops a.tmps) = true) (m x : Operand) (t : TypeId) (c : Bool) (hop : o.op = Op.lookup t m x c) {mv xv v : Value} (hm : a.eval m = mv) (hx : a.eval x = xv)
    (hrun : (Instr.lookup t mv xv c).run P w = .ok v w) (h : wpStill P ops w Q rest (a.put o.dst v)) : wpStill P ops w Q (o :: rest) a := by
  refine wpStill_step fun K hK => ?_
  rw [if_pos hw]
  unfold Oper.still
  simp [execOp, hop, hm, hx, hrun, Result.andThen, Oper.stillUpon]
  exact hK _ h
theorem quiet_lookup' {P : Program} {ops : Array Oper} {C : World → Prop} {Q : Act → Prop} {o : Oper} {rest : List Oper} {a : Act} (hw : Region.wanted o (yielded ops a.tmps) = true) (m x : Operand) (t : TypeId) (c : Bool) (hop : o.op = Op.lookup t m x c) {mv xv v : Value} (hm : a.eval m = mv) (hx : a.eval x = xv)
    (hrun : ∀ w, C w → (Instr.lookup t mv xv c).run P w = .ok v w) (h : wpQuiet P ops C Q rest (a.put o.dst v)) : wpQuiet P ops C Q (o :: rest) a := by
  refine wpQuiet_step fun K hK => ?_
  rw [if_pos hw]
  refine ⟨v, fun w hw => ?_, hK _ h⟩
  unfold Oper.quietAt
  simp [execOp, hop, hm, hx, hrun w hw, Result.andThen, Oper.quietUpon]
theorem round_at (i F n : Nat) (hn : 0 < n) (hn6 : n ≤ 60) (hi : i < n) : (wrap64 ((i : Int) + (F : Int) % (n : Int))).tmod (n : Int) = (((i + F) % n : Nat) : Int) := by
  have h1 := Nat.mod_lt F hn
  rw [show (F : Int) % (n : Int) = ((F % n : Nat) : Int) from (Int.natCast_emod F n).symm]
  have e : wrap64 ((i : Int) + ((F % n : Nat) : Int)) = ((i + F % n : Nat) : Int) := by
    generalize F % n = u at *
    unfold wrap64
    omega
  rw [e, Int.tmod_eq_emod_of_nonneg (by omega), ← Int.natCast_emod, Nat.add_mod_mod]
theorem mem_step {Z Z' : List V2} {q : V2} {i : Nat} (f : Nat → V2) (h0 : ∀ v, v ∈ Z ↔ (∃ j, j < i ∧ f j = v) ∧ mayB v = true) (h1 : ∀ v, v ∈ Z' ↔ v ∈ Z ∨ v = (q.1, q.2) ∧ mayB v = true) (hq : q = f i) : ∀ v, v ∈ Z' ↔ (∃ j, j < i + 1 ∧ f j = v) ∧ mayB v = true := fun v => by
  rw [h1, h0]
  constructor
  · rintro (⟨⟨j, hj, e⟩, hm⟩ | ⟨e, hm⟩)
    · exact ⟨⟨j, by omega, e⟩, hm⟩
    · exact ⟨⟨i, by omega, by rw [← hq, e]⟩, hm⟩
  · rintro ⟨⟨j, hj, e⟩, hm⟩
    by_cases hji : j = i
    · subst hji
      exact .inr ⟨by rw [← e, ← hq], hm⟩
    · exact .inl ⟨⟨j, by omega, e⟩, hm⟩
theorem same_start (S : Nat) (l : List V2) (f : Nat → Nat) : ∀ v, v ∈ (List.replicate S ([] : List V2)).flatten ↔ (∃ j, j < 0 ∧ l.getD (f j) (0, 0) = v) ∧ mayB v = true := fun v => by simp
set_option maxHeartbeats 8000000 in
set_option maxRecDepth 100000 in
theorem same_any (a b : Int) (ha : -9223372036854775808 ≤ a) (ha2 : a < 9223372036854775808) (hb : -9223372036854775808 ≤ b) (hb2 : b < 9223372036854775808) (A0 : Option Addr) (c0 : Nat) (l : List V2) (from_ : Int) (hf : -9223372036854775808 ≤ from_) (hf2 : from_ < 9223372036854775808) (w : World) (hC : kVi.C w A0 l.length l) :
    Calls Try.prog 5 #[.int .i64 a, .int .i64 b, .slice A0 l.length c0, .int .i64 from_] w fun e w' => e = .returned (.bool true) ∧ Below w.heap.size w w' := by
  have HB := Aside0.mk (Below.refl w.heap.size w)
  obtain ⟨r, hr⟩ := pick_some a
  obtain ⟨r1, r2⟩ := pick_bd a r hr ha ha2
  have PA := Aside0.mk hr
  obtain ⟨S, rfl⟩ : ∃ S : Nat, r = S := ⟨r.toNat, by omega⟩
  have S1 := Aside0.mk (show 1 ≤ S by omega)
  have S2 := Aside0.mk (show S ≤ 16 by omega)
  have NS := Aside0.mk (fun w => new_any (S : Int) r1 r2 w)
  clear hr r1 r2
  obtain ⟨r, hr⟩ := pick_some b
  obtain ⟨r1, r2⟩ := pick_bd b r hr hb hb2
  have PB := Aside0.mk hr
  obtain ⟨T, rfl⟩ : ∃ T : Nat, r = T := ⟨r.toNat, by omega⟩
  have T1 := Aside0.mk (show 1 ≤ T by omega)
  have T2 := Aside0.mk (show T ≤ 16 by omega)
  have NT := Aside0.mk (fun w => new_any (T : Int) r1 r2 w)
  have HC := Aside0.mk hC
  have HF1 := Aside0.mk hf
  have HF2 := Aside0.mk hf2
  rw [Int.toNat_natCast] at NS NT
  clear hr r1 r2 ha ha2 hb hb2 hC hf hf2
  go_enter Try.func5, Try.ntmps5
  go_wp2_with (fail)
  refine (up_any _).mono ?_
  rintro e w1 ⟨rfl, hB⟩
  have HB1 := Aside0.mk hB
  clear hB
  go_wp2_with (fail)
  refine (fettlelaw10_pick.calls a S _ PA.out).mono ?_
  rintro e w2 ⟨rfl, hB⟩
  have HB2 := Aside0.mk (below_step HB1.out hB.below)
  clear hB
  go_wp2_with (fail)
  refine (NS.out _).mono ?_
  rintro e w3 ⟨⟨gs, As, cs, bs, rfl, hT⟩, hB⟩
  have HTs := Aside0.mk hT.k
  have HB3 := Aside0.mk (below_step HB2.out hB)
  have HN3 := Aside0.mk hB.size
  have HBa := Aside0.mk hB
  clear hT hB
  go_wp2_with (fail)
  refine (fettlelaw10_pick.calls b T _ PB.out).mono ?_
  rintro e w4 ⟨rfl, hB⟩
  have HTs4 := Aside0.mk (HTs.out.below hB.below)
  have HB4 := Aside0.mk (below_step HB3.out hB.below)
  have HN4 := Aside0.mk hB.below.size
  have HBb := Aside0.mk (below_step HBa.out hB.below)
  clear hB
  go_wp2_with (fail)
  refine (NT.out _).mono ?_
  rintro e w5 ⟨⟨gt, At, ct, bt, rfl, hT⟩, hB⟩
  have HTt5 := Aside0.mk (hT.k.mono (ok2 := fun k => ¬ k < w4.heap.size) (fun k hk => by omega))
  have HTs5 := Aside0.mk ((HTs4.out.below hB).mono (ok2 := fun k => k < w4.heap.size) (fun k hk => by have := HN4.out; omega))
  have HB5 := Aside0.mk (below_step HB4.out hB)
  have HBn := Aside0.mk (below_step HBb.out hB)
  have HN24 := Aside0.mk HBb.out.size
  clear hT hB
  by_cases hl0 : l.length = 0 ∨ 60 < l.length
  · rcases hl0 with hl0 | hl0
    · have d1 : ((l.length : Int) == 0) = true := by simp [hl0]
      clear hl0
      go_wp2
      go_ret
      exact ⟨rfl, HB5.out⟩
    · have d1 : ((l.length : Int) == 0) = false := beq_eq_false_iff_ne.mpr (by omega)
      have d2 : decide ((60 : Int) < (l.length : Int)) = true := decide_eq_true (by omega)
      clear hl0
      go_wp2
      go_ret
      exact ⟨rfl, HB5.out⟩
  · have d1 : ((l.length : Int) == 0) = false := beq_eq_false_iff_ne.mpr (by omega)
    have d2 : decide ((60 : Int) < (l.length : Int)) = false := decide_eq_false (by omega)
    have L0 := Aside0.mk (show 0 < l.length by omega)
    have L6 := Aside0.mk (show l.length ≤ 60 by omega)
    clear hl0
    go_upto_if 72 with (fail)
    go_cut [3] from 73 to 75 (fun v3 wx => ∃ F : Nat, v3 = .int .i64 F ∧ F < 9223372036854775808 ∧ w5 = wx)
    case first =>
      by_cases hneg : from_ < 0
      · have hf := HF1.out
        go_wp2
        go_meet
        case rel => exact ⟨(-(from_ + 1)).toNat, by rw [show ((-(from_ + 1)).toNat : Int) = -(from_ + 1) by omega], by omega, rfl⟩
      · have hf := HF2.out
        go_wp2
        go_meet
        case rel => exact ⟨from_.toNat, by rw [show (from_.toNat : Int) = from_ by omega], by omega, rfl⟩
    case rest =>
      obtain ⟨F, rfl, hF, rfl⟩ := hcut
      go_wp2_with (fail)
      go_loopw [14] (fun v wr => ∃ (i : Nat) (P : Nat → Prop) (Xs Xt : List (List V2)) (Ds Dt : DataW Unit) (ms mt : Nat), v = .int .i64 i ∧ i ≤ l.length ∧ Aside0 (TabK wr w2.heap.size P gs As S cs bs ms Xs Ds) ∧ Aside0 (TabK wr w4.heap.size (fun k => ¬ P k) gt At T ct bt mt Xt Dt) ∧ Aside0 (Good S Xs Ds) ∧ Aside0 (Good T Xt Dt) ∧ Aside0 ((∀ v, v ∈ Xs.flatten ↔ (∃ j, j < i ∧ l.getD j (0, 0) = v) ∧ mayB v = true) ∧ (∀ v, v ∈ Xt.flatten ↔ (∃ j, j < i ∧ l.getD ((j + F) % l.length) (0, 0) = v) ∧ mayB v = true)) ∧ Aside0 (Xs.flatten.length ≤ i ∧ Xt.flatten.length ≤ i ∧ ms ≤ i ∧ mt ≤ i) ∧ Aside0 (Below w2.heap.size w2 wr)) (fun v _ => l.length - (intOf v).toNat)
      case atStart => exact ⟨0, _, _, _, _, _, 0, 0, rfl, Nat.zero_le _, HTs5, HTt5, ⟨good_zero S⟩, ⟨good_zero T⟩, ⟨same_start S l (fun j => j), same_start T l (fun j => (j + F) % l.length)⟩, ⟨by simp⟩, HBn⟩
      case round =>
        obtain ⟨i, P, Xs, Xt, Ds, Dt, ms, mt, rfl, hi, Hs, Ht, Gs, Gt, HM, HL, HBr⟩ := hrel
        clear HTs5 HTt5
        by_cases hlt : i < l.length
        · have HBw := Aside0.mk (HB2.out.trans (HBr.out.mono HB2.out.size))
          obtain ⟨ad, hA0, hp0, hp1, hw⟩ := puts_at (C_below HC.out HBw.out) i hlt
          subst hA0
          have HWf := Aside0.mk hw
          clear hw
          obtain ⟨p, hp⟩ : ∃ p, p = l.getD i (0, 0) := ⟨_, rfl⟩
          rw [← hp] at hp0 hp1 HWf
          have HP := Aside0.mk hp
          clear hp
          have l6 := L6.out
          have PS := Aside0.mk (fun W' (hb : Below wr.heap.size wr W') => put_allK (Hs.out.below hb) Gs.out (Nat.le_trans HBr.out.size hb.size) p.1 p.2 HWf.out S1.out S2.out (by have := HL.out; omega) (by have := HL.out; omega))
          clear l6
          go_wp2_with (fail)
          go_still_tail 11, (by kernel_rfl)
          change wpList _ _ _ _ _ wr.drew
          have HD := Aside0.mk (below_drew (Below.refl wr.heap.size wr))
          have HQ : Aside0 (wr.drew.heap.size = wr.heap.size) := ⟨rfl⟩
          clear hp0 hp1
          generalize wr.drew = wd at HD HQ ⊢
          go_wp2_with (fail)
          refine (PS.out _ HD.out).mono ?_
          rintro e w6 ⟨⟨rv, rfl⟩, ⟨X', D', m', hT, hG, hmem, hl1, hl2⟩, hB, hFr⟩
          have Hs6 := Aside0.mk hT
          have Gs6 := Aside0.mk hG
          have HM6 := Aside0.mk hmem
          have HL6 := Aside0.mk (show X'.flatten.length ≤ i + 1 ∧ m' ≤ i + 1 by have := HL.out; omega)
          have HB6 := Aside0.mk (hB.mono (Nat.le_refl w2.heap.size))
          have HBr6 := Aside0.mk ((HBr.out.trans (HD.out.mono HBr.out.size)).trans hB)
          have Ht6 := Aside0.mk ((Ht.out.below HD.out).frame (w1 := w6) (fun k hk hn => hFr k hk hn))
          clear hT hG hmem hl1 hl2 hB hFr
          have hJ := Nat.mod_lt (i + F) L0.out
          have HBw6 := Aside0.mk (HB2.out.trans (HBr6.out.mono HB2.out.size))
          obtain ⟨ad2, hA2, hq0, hq1, hw2⟩ := puts_at (C_below HC.out HBw6.out) ((i + F) % l.length) hJ
          cases hA2
          have HWf2 := Aside0.mk hw2
          clear hw2
          obtain ⟨q, hq⟩ : ∃ q, q = l.getD ((i + F) % l.length) (0, 0) := ⟨_, rfl⟩
          rw [← hq] at hq0 hq1 HWf2
          have HQ2 := Aside0.mk hq
          obtain ⟨J, hJJ⟩ : ∃ J, J = (i + F) % l.length := ⟨_, rfl⟩
          rw [← hJJ] at hq0 hq1 hJ
          have HJJ := Aside0.mk hJJ
          clear hq hJJ
          have hE := round_at i F l.length L0.out L6.out hlt
          rw [← HJJ.out] at hE
          have HL7 := Aside0.mk (show Xt.flatten.length < 4000 ∧ mt < 100000 by have := HL.out; have := L6.out; omega)
          have PT := Aside0.mk (fun W' (hb : Below w6.heap.size w6 W') => put_allK (Ht6.out.below hb) Gt.out (Nat.le_trans (Nat.le_of_lt (Nat.lt_of_le_of_lt Ht6.out.ge (blk_lt Ht6.out.blk))) hb.size) q.1 q.2 HWf2.out T1.out T2.out HL7.out.2 HL7.out.1)
          go_wp2_with (fail)
          refine (PT.out _ (below_alloc (Below.refl _ _) _)).mono ?_
          rintro e w8 ⟨⟨rv2, rfl⟩, ⟨X2, D2, m2, hT, hG, hmem, hl1, hl2⟩, hB, hFr⟩
          have hwy : w6.heap.size < (w6.alloc (.cells #[.int .i64 q.1, .int .i64 q.2] 40)).heap.size := by show w6.heap.size < (w6.heap.push _).size; simp
          have HBy := below_alloc (Below.refl w6.heap.size w6) (.cells #[.int .i64 q.1, .int .i64 q.2] 40)
          have Hs7 := Hs6.out.below HBy
          have Ht8 := Aside0.mk hT
          have HBr8 := Aside0.mk ((HBr6.out.trans (HBy.mono HBr6.out.size)).trans (hB.mono HN24.out))
          generalize w6.alloc (.cells #[.int .i64 q.1, .int .i64 q.2] 40) = wy at hwy Hs7 Ht8 hFr
          have Hs8 := Aside0.mk (Hs7.frame (w1 := w8) (fun k hk ho => hFr k hk (fun hn => by
            rcases ho with ho | ho
            · exact hn.1 ho
            · omega)))
          have Ht9 := Aside0.mk (Ht8.out.mono (ok2 := fun k => ¬ ((P k ∨ wd.heap.size ≤ k) ∧ k < wy.heap.size)) (fun k hk hn => by
            rcases hk with hk | hk
            · rcases hn.1 with ho | ho
              · exact hk.1 ho
              · omega
            · omega))
          have Gt8 := Aside0.mk hG
          have HM8 := Aside0.mk (And.intro (mem_step (fun j => l.getD j (0, 0)) HM.out.1 HM6.out HP.out) (mem_step (fun j => l.getD ((j + F) % l.length) (0, 0)) HM.out.2 hmem HQ2.out))
          have HL8 := Aside0.mk (show X'.flatten.length ≤ i + 1 ∧ X2.flatten.length ≤ i + 1 ∧ m' ≤ i + 1 ∧ m2 ≤ i + 1 by have := HL.out; have := HL6.out; omega)
          have l6 := L6.out
          clear hwy HBy Hs7 Ht8 hT hG hmem hl1 hl2 hB hFr
          go_wp2
          go_roundw
          case rel => exact ⟨i + 1, _, X', X2, D', D2, m', m2, nat_succ i, by omega, Hs8, Ht9, Gs6, Gt8, HM8, HL8, HBr8⟩
          case measure => simp [intOf]; omega
        · obtain rfl : i = l.length := by omega
          have hp : Xs.flatten.Perm Xt.flatten := flat_perm Gs.out Gt.out (fun v => by rw [HM.out.1, HM.out.2, all_mem, round_all l F v L0.out])
          obtain ⟨Y, hY⟩ : ∃ Y, Y = sortL Xs.flatten := ⟨_, rfl⟩
          have hYt : sortL Xt.flatten = Y := by rw [hY]; exact (sort_same hp).symm
          have hYl : Y.length = Xs.flatten.length := by rw [hY, sortL_len]
          have hYl2 : Y.length = Xt.flatten.length := by rw [hYl]; exact hp.length_eq
          have hY6 : Y.length ≤ 60 := by rw [hYl]; have := HL.out; have := L6.out; omega
          have Ts := Aside0.mk Hs.out.tab
          have Tt := Aside0.mk Ht.out.tab
          have V1 := fun w1 (hb : Below wr.heap.size wr w1) => values_any (Ts.out.below hb) (by rw [← hYl]; omega) S2.out
          have V2_ := fun w1 (hb : Below wr.heap.size wr w1) => values_any (Tt.out.below hb) (by rw [← hYl2]; omega) T2.out
          have K1 := fun w1 (hb : Below wr.heap.size wr w1) => ranks_any (Ts.out.below hb) Gs.out (by rw [← hYl]; omega) S2.out
          have K2 := fun w1 (hb : Below wr.heap.size wr w1) => ranks_any (Tt.out.below hb) Gt.out (by rw [← hYl2]; omega) T2.out
          have u1 := good_unlike Gs.out
          have u2 := good_unlike Gt.out
          rw [← hY] at V1 K1 u1
          rw [hYt] at V2_ K2 u2
          rw [← hYl] at K1
          rw [← hYl2] at K2
          have ms_ : ∀ k, k < Y.length → Y.getD k (0, 0) ∈ Xs.flatten := fun k hk => by
            have := getD_mem hk
            rw [hY] at this ⊢
            exact sortL_mem.1 this
          have mt_ : ∀ k, k < Y.length → Y.getD k (0, 0) ∈ Xt.flatten := fun k hk => hp.mem_iff.1 (ms_ k hk)
          have up_ : ∀ k, 0 < k → k < Y.length → ltV (Y.getD (k - 1) (0, 0)) (Y.getD k (0, 0)) = true := fun k h0 hk => by
            rw [hY] at hk ⊢
            exact sort_up Xs.flatten Gs.out.nod k h0 hk
          have sz1 : Maps.size (rk Ds Y Y.length) = Y.length := rk_size Ds Y u1 _ (Nat.le_refl _)
          have sz2 : Maps.size (rk Dt Y Y.length) = Y.length := rk_size Dt Y u2 _ (Nat.le_refl _)
          have at1 : ∀ k, k < Y.length → (rk Ds Y Y.length).atKey (.int .i64 (hof Ds (Y.getD k (0, 0)))) (.lit (.int .i64 0)) = .lit (.int .i64 (k : Int)) := fun k hk => rk_at Ds Y u1 _ _ k hk (Nat.le_refl _)
          have at2 : ∀ k, k < Y.length → (rk Dt Y Y.length).atKey (.int .i64 (hof Dt (Y.getD k (0, 0)))) (.lit (.int .i64 0)) = .lit (.int .i64 (k : Int)) := fun k hk => rk_at Dt Y u2 _ _ k hk (Nat.le_refl _)
          have wf1_ : ∀ k, k < Y.length → (Lit.int .i64 (hof Ds (Y.getD k (0, 0)))).wf = true := fun k hk => hof_wf Gs.out S2.out (by rw [← hYl]; omega) (ms_ k hk)
          have wf2_ : ∀ k, k < Y.length → (Lit.int .i64 (hof Dt (Y.getD k (0, 0)))).wf = true := fun k hk => hof_wf Gt.out T2.out (by rw [← hYl2]; omega) (mt_ k hk)
          obtain ⟨R1, hR1⟩ : ∃ R, R = rk Ds Y Y.length := ⟨_, rfl⟩
          obtain ⟨R2, hR2⟩ : ∃ R, R = rk Dt Y Y.length := ⟨_, rfl⟩
          rw [← hR1] at K1 sz1 at1
          rw [← hR2] at K2 sz2 at2
          have HV1 := Aside0.mk V1
          have HV2 := Aside0.mk V2_
          have HK1 := Aside0.mk K1
          have HK2 := Aside0.mk K2
          have HS1 := Aside0.mk sz1
          have HS2 := Aside0.mk sz2
          have HA1 := Aside0.mk at1
          have HA2 := Aside0.mk at2
          have HW1 := Aside0.mk wf1_
          have HW2 := Aside0.mk wf2_
          have HMs := Aside0.mk ms_
          have HMt := Aside0.mk mt_
          have HUp := Aside0.mk up_
          have HY6 := Aside0.mk hY6
          clear hp hY hYt hYl hYl2 hY6 V1 V2_ K1 K2 u1 u2 ms_ mt_ up_ sz1 sz2 at1 at2 wf1_ wf2_ hR1 hR2 HM HL Hs Ht
          have HBR := Aside0.mk (HB2.out.trans (HBr.out.mono HB2.out.size))
          go_wp2_with (fail)
          refine (HV1.out _ (Below.refl _ _)).mono ?_
          rintro e w6 ⟨⟨v1, rfl, hO⟩, hB⟩
          obtain ⟨A1, c1, e1⟩ := R_slice hO
          subst e1
          have HO6 := Aside0.mk hO
          have HB6 := Aside0.mk hB
          clear hO hB
          go_wp2_with (fail)
          refine (HV2.out _ HB6.out).mono ?_
          rintro e w7 ⟨⟨v2, rfl, hO⟩, hB⟩
          obtain ⟨A2, c2, e2⟩ := R_slice hO
          subst e2
          obtain ⟨b7, hb7⟩ : ∃ b7, b7 = w6.heap.size := ⟨_, rfl⟩
          rw [← hb7] at hO
          have HP7 := Aside0.mk hO
          have HO7 := Aside0.mk (show Own w7 wr.heap.size (.slice A1 Y.length c1) Y from R_below HO6.out hB)
          have HB7 := Aside0.mk (below_then HB6.out HB6.out.size hB)
          clear hO hB hb7 HO6
          go_wp2_with (fail)
          refine (HK1.out _ HB7.out).mono ?_
          rintro e w8 ⟨⟨bp, rfl, hM, _⟩, hB⟩
          have HM8 := Aside0.mk hM
          have HO8 := Aside0.mk (show Own w8 wr.heap.size (.slice A1 Y.length c1) Y from R_below HO7.out hB)
          have HP8 := Aside0.mk (show Own w8 b7 (.slice A2 Y.length c2) Y from R_below HP7.out hB)
          have HB8 := Aside0.mk (below_then HB7.out HB7.out.size hB)
          clear hM hB HO7 HP7
          go_wp2_with (fail)
          refine (HK2.out _ HB8.out).mono ?_
          rintro e w9 ⟨⟨bq, rfl, hM, _⟩, hB⟩
          have HN9 := Aside0.mk hM
          have HM9 := Aside0.mk (HM8.out.kept (grown_of_below hB none) (by simp))
          have HO9 := Aside0.mk (show Own w9 wr.heap.size (.slice A1 Y.length c1) Y from R_below HO8.out hB)
          have HP9 := Aside0.mk (show Own w9 b7 (.slice A2 Y.length c2) Y from R_below HP8.out hB)
          have HB9 := Aside0.mk (below_then HB8.out HB8.out.size hB)
          clear hM hB HO8 HP8 HM8
          have n1 : ((Y.length : Int) != (Y.length : Int)) = false := by simp
          go_wp2_with (at_len; (with_reducible refine len_gate ?gw ?_); (case gw => first | rfl | simp [Region.wanted]); first | (refine wpList_len_own _ rfl _ 41 rfl 3 3 Try.underlying41 (plainElem Try.prog 3) bp Y.length R1 rfl HM9.out ?_; rw [HS1.out]) | (refine wpList_len_own _ rfl _ 41 rfl 3 3 Try.underlying41 (plainElem Try.prog 3) bq Y.length R2 rfl HN9.out ?_; rw [HS2.out]))
          go_loopw [20] (fun v wx => ∃ i : Nat, v = .int .i64 i ∧ i ≤ Y.length ∧ Aside0 (Below w9.heap.size w9 wx)) (fun v _ => Y.length - (intOf v).toNat)
          case atStart => exact ⟨0, rfl, Nat.zero_le _, ⟨Below.refl _ _⟩⟩
          case round =>
            obtain ⟨i, rfl, hi, HBx⟩ := hrel
            by_cases hlt2 : i < Y.length
            · obtain ⟨y, hy⟩ : ∃ y, y = Y.getD i (0, 0) := ⟨_, rfl⟩
              have HBy := Aside0.mk (below_then HB9.out HB9.out.size HBx.out)
              obtain ⟨g1, hg1, a0, a1⟩ := own_at (R_below HO9.out HBx.out) i hlt2
              obtain ⟨g2, hg2, b0, b1⟩ := own_at (R_below HP9.out HBx.out) i hlt2
              rw [← hy] at a0 a1 b0 b1
              have ms_ := HMs.out i hlt2
              have mt_ := HMt.out i hlt2
              rw [← hy] at ms_ mt_
              have F1 := Aside0.mk (fun k => find_at (Ts.out.below HBy.out) Gs.out ms_ k)
              have hy6 := HY6.out
              subst hg1
              subst hg2
              have HYy := Aside0.mk hy
              have HMt2 := Aside0.mk mt_
              clear hy ms_ mt_
              go_wp2_with (fail)
              go_quiet (exact F1.out _)
              go_wp2_with (fail)
              have HBz := Aside0.mk (pw_below_drewN HBx.out nq)
              have HBzz := Aside0.mk (pw_below_drewN HBy.out nq)
              clear a0 a1 b0 b1
              generalize wr.drewN nq = wz at HBz HBzz ⊢
              have F2 := Aside0.mk (fun k => find_at (Tt.out.below HBzz.out) Gt.out HMt2.out k)
              obtain ⟨g1', e1', a0, a1⟩ := own_at (R_below HO9.out HBz.out) i hlt2
              cases e1'
              obtain ⟨g2', e2', b0, b1⟩ := own_at (R_below HP9.out HBz.out) i hlt2
              cases e2'
              rw [← HYy.out] at a0 a1 b0 b1
              go_quiet (exact F2.out _)
              go_wp2_with (fail)
              have HBu := Aside0.mk (pw_below_drewN HBz.out nq)
              clear a0 a1 b0 b1
              generalize wz.drewN nq = wu at HBu ⊢
              obtain ⟨g1', e1', a0, a1⟩ := own_at (R_below HO9.out HBu.out) i hlt2
              cases e1'
              obtain ⟨g2', e2', b0, b1⟩ := own_at (R_below HP9.out HBu.out) i hlt2
              cases e2'
              rw [← HYy.out] at a0 a1 b0 b1
              have hr1 := rank_at (w := wu.drew) (v := y) (i := i) ((HM9.out.kept (grown_of_below HBu.out none) (by simp)).drew) (by rw [HYy.out]; exact HW1.out i hlt2) (by rw [HYy.out]; exact HA1.out i hlt2)
              have hr2 := rank_at (w := wu.drew) (v := y) (i := i) ((HN9.out.kept (grown_of_below HBu.out none) (by simp)).drew) (by rw [HYy.out]; exact HW2.out i hlt2) (by rw [HYy.out]; exact HA2.out i hlt2)
              have HR1 := Aside0.mk hr1
              have HR2 := Aside0.mk hr2
              have hk1 := fun k => rank_at (w := wu.drewN k) (v := y) (i := i) (HM9.out.kept (grown_of_below (pw_below_drewN HBu.out k) none) (by simp)) (by rw [HYy.out]; exact HW1.out i hlt2) (by rw [HYy.out]; exact HA1.out i hlt2)
              have hk2 := fun k => rank_at (w := wu.drewN k) (v := y) (i := i) (HN9.out.kept (grown_of_below (pw_below_drewN HBu.out k) none) (by simp)) (by rw [HYy.out]; exact HW2.out i hlt2) (by rw [HYy.out]; exact HA2.out i hlt2)
              have HQ1 := Aside0.mk hk1
              have HQ2 := Aside0.mk hk2
              clear hr1 hr2 hk1 hk2
              have he := eqA40 9998
              have hn := neqV
              have n2 : (y.1 == y.1) = true := by simp
              have n3 : (y.2 == y.2) = true := by simp
              have n4 : ((i : Int) != (i : Int)) = false := by simp
              by_cases hi0 : 0 < i
              · have d0 : decide ((0 : Int) < (i : Int)) = true := decide_eq_true (by omega)
                obtain ⟨g1', e1', p0, p1⟩ := own_at (R_below HO9.out HBu.out) (i - 1) (by omega)
                cases e1'
                have hup := HUp.out i hi0 hlt2
                rw [← HYy.out] at hup
                obtain ⟨z, hz⟩ : ∃ z, z = Y.getD (i - 1) (0, 0) := ⟨_, rfl⟩
                rw [← hz] at p0 p1 hup
                have HUP := Aside0.mk hup
                have s0 : (0 : Int) ≤ (i : Int) - 1 := by omega
                have s5 : (1 : Int) ≤ (i : Int) := by omega
                have s1 : (i : Int) - 1 < (Y.length : Int) := by omega
                have s2 : ((i : Int) - 1).toNat = i - 1 := by omega
                have s3 : wrap64 ((i : Int) - 1) = (i : Int) - 1 := by unfold wrap64; omega
                have s4 : IntKind.i64.wrap ((i : Int) - 1) = (i : Int) - 1 := IntWalk.i64_in _ (by omega)
                clear hz hup
                refine wp_region_still_tail 44 (by kernel_rfl) (by kernel_rfl) ?_
                simp only [List.take_succ_cons, List.take_zero, List.drop_succ_cons, List.drop_zero]
                repeat still_step
                refine still_lookup' ?gw1 (.tmp 193) (.tmp 194) 41 false rfl rfl rfl HR1.out ?_
                (case gw1 => first | rfl | simp [Region.wanted])
                simp only [Act.put, List.setIfInBounds_toArray, List.set_cons_zero, List.set_cons_succ]
                repeat still_step
                refine still_lookup' ?gw2 (.tmp 200) (.tmp 201) 41 false rfl rfl rfl HR2.out ?_
                (case gw2 => first | rfl | simp [Region.wanted])
                simp only [Act.put, List.setIfInBounds_toArray, List.set_cons_zero, List.set_cons_succ]
                repeat still_step
                refine wpStill_nil ?_
                change wpList _ _ _ _ _ wu.drew
                have HBv := Aside0.mk (below_drew HBu.out)
                clear a0 a1 b0 b1 HR1 HR2 he hn n2 n3 n4 d0 hy6 hi
                clear p0 p1 s0 s1 s2 s3 s4 s5
                generalize wu.drew = wv at HBv ⊢
                go_wp2_with (fail)
                refine (less15 z.1 z.2 y.1 y.2 HUP.out _).mono ?_
                rintro e w15 ⟨rfl, hB⟩
                have HB15 := Aside0.mk (below_then HBv.out HBv.out.size hB)
                clear hB
                have hy6 := HY6.out
                go_wp2_with (fail)
                go_roundw
                case rel => exact ⟨i + 1, nat_succ i, by omega, HB15⟩
                case measure => simp [intOf]; omega
              · have d0 : decide ((0 : Int) < (i : Int)) = false := decide_eq_false (by omega)
                have d1 : decide (0 < i) = false := decide_eq_false hi0
                clear hi0
                refine wp_region_quiet_lit (by kernel_rfl) (by kernel_rfl) ?_
                repeat (go_big_quiet_step (fail))
                refine quiet_lookup' ?gw1 (.tmp 193) (.tmp 194) 41 false rfl rfl rfl (fun w' hw' => by obtain ⟨k, rfl⟩ := hw'; exact HQ1.out k) ?_
                (case gw1 => first | rfl | simp [Region.wanted])
                simp only [Act.put, List.setIfInBounds_toArray, List.set_cons_zero, List.set_cons_succ]
                repeat (go_big_quiet_step (fail))
                refine quiet_lookup' ?gw2 (.tmp 200) (.tmp 201) 41 false rfl rfl rfl (fun w' hw' => by obtain ⟨k, rfl⟩ := hw'; exact HQ2.out k) ?_
                (case gw2 => first | rfl | simp [Region.wanted])
                simp only [Act.put, List.setIfInBounds_toArray, List.set_cons_zero, List.set_cons_succ]
                repeat (go_big_quiet_step (fail))
                refine wpQuiet_nil ?_
                intro _ hw'
                obtain ⟨nq2, hw''⟩ := hw'
                subst hw''
                have HBv := Aside0.mk (pw_below_drewN HBu.out nq2)
                clear a0 a1 b0 b1 he hn n2 n3 n4 d0 d1
                generalize wu.drewN nq2 = wv at HBv ⊢
                go_wp2_with (fail)
                go_roundw
                case rel => exact ⟨i + 1, nat_succ i, by omega, HBv⟩
                case measure => simp [intOf]; omega
            · obtain rfl : i = Y.length := by omega
              go_wp2
              go_ret
              exact ⟨rfl, below_then HBR.out HBR.out.size (below_then HB9.out HB9.out.size HBx.out)⟩
end Go.Proofs.Ytaedbjjjdafabaa.Tb
