/- The reader of code.Decode: an instruction. Conditions: the reader stands; bytes are bytes. -/
import Derived.Test.YtckebppacealeaaDoorTc
namespace Go.Proofs.YtckebppacealeaaDoor.Rk
open Go.RowKit Go.Proofs.YtckebppacealeaaDoorW.PrintWords Go.Proofs.YtckebppacealeaaDoorW.PrintLast Go.Proofs.YtckebppacealeaaDoorW.PrintMore Go.Proofs.YtckebppacealeaaDoorW.PrintWords.Kd Go.Proofs.YtckebppacealeaaDoor.PCodeUnlike Go.Proofs.YtckebppacealeaaDoor.Lp Go.Proofs.YtckebppacealeaaDoor.Lk
attribute [local go_sem] max2_int min2_int max_two min_two max_three min_three max_four min_four
set_option linter.unusedVariables false
set_option linter.unusedSimpArgs false
variable {w w1 : World}
theorem Keeps.blk {br g : Nat} {w W : World} {o : Obj} (h : Keeps br w W) (hg : w.heap[g]? = some o) (hne : g ≠ br) : W.heap[g]? = some o := (h.2 g (blk_lt hg) hne).trans hg
/-- From w: the reader stands in W, and all else lies. -/
structure At (w0 w W : World) (br : Nat) (A : Option Addr) (c : Nat) (bs : List Int) (st : St) : Prop where
  lt : br < w.heap.size
  le : w0.heap.size ≤ w.heap.size
  rdr : Rdr w0 W br A c bs st
  keep : Keeps br w W
variable {w0 W : World} {br : Nat} {A : Option Addr} {c : Nat} {bs : List Int} {st : St}
theorem At.of (h : Rdr w0 w br A c bs st) : At w0 w w br A c bs st := ⟨blk_lt h.blk.choose_spec.1, h.low.size, h, Keeps.refl _ _⟩
theorem At.below {W1 : World} (h : At w0 w W br A c bs st) (hb : Below W.heap.size W W1) : At w0 w W1 br A c bs st := ⟨h.lt, h.le, h.rdr.below hb, h.keep.below hb⟩
theorem At.alloc (h : At w0 w W br A c bs st) (o : Obj) : At w0 w (W.alloc o) br A c bs st := h.below (below_alloc (Below.refl _ _) o)
theorem At.call {W1 : World} {st' : St} (h : At w0 w W br A c bs st) (h1 : Rdr w0 W1 br A c bs st') (h2 : Keeps br W W1) : At w0 w W1 br A c bs st' := ⟨h.lt, h.le, h1, h.keep.trans h2⟩
theorem At.blk {g : Nat} {o : Obj} {W1 : World} {st' : St} (h : At w0 w W br A c bs st) (h2 : Keeps br W W1) (hg : W.heap[g]? = some o) (hge : w.heap.size ≤ g) : W1.heap[g]? = some o := h2.blk hg (Nat.ne_of_gt (Nat.lt_of_lt_of_le h.lt hge))
theorem At.set {g t i : Nat} {cs : Array Value} {v : Value} (h : At w0 w W br A c bs st) (hx : W.heap[g]? = some (.cells cs t (0, 0))) (ht : t ≠ 72) (hge : w.heap.size ≤ g) : At w0 w (W.setCell ⟨g, i, none⟩ v) br A c bs st := by
  have hne : br ≠ g := Nat.ne_of_lt (Nat.lt_of_lt_of_le h.lt hge)
  obtain ⟨h1, h2, ev, h3, h4⟩ := h.rdr
  refine ⟨h.lt, h.le, ⟨h1.setCell (p := ⟨g, i, none⟩) (Nat.le_trans h.le hge) _, h2, ev, blk_far h3 (p := ⟨g, i, none⟩) hne _, ?_⟩, Kept.setCell h.keep (p := ⟨g, i, none⟩) (.inr hge) _⟩
  obtain ⟨pos, err⟩ := st
  dsimp only at h4 ⊢
  match err, h4 with
  | none, h => exact h
  | some (p, c), ⟨g1, g2, g3, g4⟩ =>
    refine ⟨g1, g2, g3, blk_far g4 (p := ⟨g, i, none⟩) (fun e => ht ?_) _⟩
    obtain rfl : g1 = g := e
    rw [g4] at hx
    exact (Obj.cells.inj (Option.some.inj hx)).2.1.symm
theorem R_far {α : Type} {d : Kd α} {e base g i : Nat} {ok : Nat → Prop} {v u : Value} {xs : List α} (h : Kd.R d e w base ok v xs) (hg : ¬ ok g) : Kd.R d e (w.setCell ⟨g, i, none⟩ u) base ok v xs :=
  R_step h (fun k ho hlt => Below.heap_setCell w ⟨g, i, none⟩ u k (fun e => hg (by have e2 : k = g := e; exact e2 ▸ ho)))
/-- A whole struct is stored. -/
def setAll (w : World) (g : Nat) : Nat → List Value → World
  | _, [] => w
  | i, v :: vs => setAll (w.setCell ⟨g, i, none⟩ v) g (i + 1) vs
theorem setAll_blk {g t : Nat} : ∀ (vs : List Value) (i : Nat) (w : World) (cs : Array Value), w.heap[g]? = some (.cells cs t (0, 0)) → cs.size = i + vs.length → (setAll w g i vs).heap[g]? = some (.cells (cs.toList.take i ++ vs).toArray t (0, 0))
  | [], i, w, cs, h, hl => by
    rw [List.append_nil, List.take_of_length_le (by simp at hl ⊢; omega)]
    exact h
  | v :: vs, i, w, cs, h, hl => by
    rw [List.length_cons] at hl
    have h2 := setAll_blk vs (i + 1) _ _ (blk_set h i v) (by simp; omega)
    rw [setAll, h2]
    congr 3
    rw [Array.toList_setIfInBounds, List.take_succ_eq_append_getElem (by simp; omega), List.append_assoc]
    congr 1
    · rw [List.take_set_of_le (Nat.le_refl i)]
    · simp
theorem At.all {g t : Nat} (ht : t ≠ 72) (hge : w.heap.size ≤ g) : ∀ (vs : List Value) (i : Nat) (W : World) (cs : Array Value), At w0 w W br A c bs st → W.heap[g]? = some (.cells cs t (0, 0)) → At w0 w (setAll W g i vs) br A c bs st
  | [], i, W, cs, h, hx => h
  | v :: vs, i, W, cs, h, hx => At.all ht hge vs (i + 1) _ _ (h.set hx ht hge) (blk_set hx i v)
theorem R_all {α : Type} {d : Kd α} {e base g : Nat} {ok : Nat → Prop} {v : Value} {xs : List α} (hg : ¬ ok g) : ∀ (vs : List Value) (i : Nat) (w : World), Kd.R d e w base ok v xs → Kd.R d e (setAll w g i vs) base ok v xs
  | [], i, w, h => h
  | u :: vs, i, w, h => R_all hg vs (i + 1) _ (R_far h hg)
def dInstr (bs : List Int) (st : St) : In × St :=
  let a := dInt bs st
  let b := dInt bs a.2
  let l := dList bs b.2
  let i := dNum bs l.2
  let f := dInt bs i.2
  (⟨a.1, (b.1 : Int) - 1, l.1, zag i.1, f.1⟩, f.2)
set_option maxHeartbeats 8000000 in
set_option maxRecDepth 100000 in
theorem rinstr_any (h : Rdr w0 w br A c bs st) (hC : Kd.C (Kd.int .u8) w0 A bs.length bs) (hby : ∀ a ∈ bs, Byte a) (hl : bs.length ≤ 100000000000) (hp : st.pos ≤ bs.length) :
    Calls Tryd.prog 72 #[.pointer (some ⟨br, 0, none⟩)] w fun e w' => ∃ cs, e = .returned (.agg cs.toArray) ∧ k58.M w' w0.heap.size (fun k => w.heap.size ≤ k) (dInstr bs st).1 cs ∧ Rdr w0 w' br A c bs (dInstr bs st).2 ∧ Keeps br w w' := by
  have HA := Aside0.mk (At.of h)
  have HCB := Aside0.mk hC
  have HBY := Aside0.mk hby
  have HL := Aside0.mk hl
  have HP := Aside0.mk hp
  clear h hC hby hl hp
  go_enter Tryd.func72, Tryd.ntmps72
  go_wp2_with (fail)
  have hx := blk_new w (.cells #[.int .i64 0, .int .i64 0, .slice none 0 0, .int .i64 0, .int .i64 0] 58)
  have hA := HA.out.alloc (.cells #[.int .i64 0, .int .i64 0, .slice none 0 0, .int .i64 0, .int .i64 0] 58)
  generalize w.alloc (.cells #[.int .i64 0, .int .i64 0, .slice none 0 0, .int .i64 0, .int .i64 0] 58) = w2 at hx hA ⊢
  refine (rint_any hA.rdr HCB.out HBY.out HL.out HP.out).mono ?_
  rintro e w3 ⟨rfl, hR, hK⟩
  have HY := Aside0.mk (hA.blk (st' := st) hK hx (Nat.le_refl _))
  replace HA := Aside0.mk (hA.call hR hK)
  replace HP := Aside0.mk (dInt_pos HP.out)
  clear hA hR hK hx
  generalize e1 : dInt bs st = D1 at HP HA ⊢
  obtain ⟨a1, s1⟩ := D1
  have E1 := Aside0.mk e1
  clear e1
  dsimp only at HP HA ⊢
  go_wp2_with (fail)
  have hx := blk_new w3 (.cells #[.int .i64 (a1 : Int), .int .i64 0, .slice none 0 0, .int .i64 0, .int .i64 0] 58)
  have hy := blk_alloc HY.out (.cells #[.int .i64 (a1 : Int), .int .i64 0, .slice none 0 0, .int .i64 0, .int .i64 0] 58)
  have hA := HA.out.alloc (.cells #[.int .i64 (a1 : Int), .int .i64 0, .slice none 0 0, .int .i64 0, .int .i64 0] 58)
  generalize w3.alloc (.cells #[.int .i64 (a1 : Int), .int .i64 0, .slice none 0 0, .int .i64 0, .int .i64 0] 58) = w4 at hx hy hA ⊢
  have HG := Aside0.mk (show w.heap.size ≤ w3.heap.size ∧ w.heap.size ≠ w3.heap.size from ⟨HA.out.keep.1, Nat.ne_of_lt (blk_lt HY.out)⟩)
  generalize w3.heap.size = gx at hx HG ⊢
  refine (rint_any hA.rdr HCB.out HBY.out HL.out HP.out).mono ?_
  rintro e w5 ⟨rfl, hR, hK⟩
  replace HY := Aside0.mk (hA.blk (st' := st) hK hy (Nat.le_refl _))
  have HX := Aside0.mk (hA.blk (st' := st) hK hx HG.out.1)
  replace HA := Aside0.mk (hA.call hR hK)
  have hb := dInt_le bs s1
  replace HP := Aside0.mk (dInt_pos HP.out)
  clear hA hR hK hx hy
  generalize e2 : dInt bs s1 = D2 at HP HA hb ⊢
  obtain ⟨a2, s2⟩ := D2
  have E2 := Aside0.mk e2
  clear e2
  dsimp only at HP HA hb ⊢
  have hw : wrap64 ((a2 : Int) - 1) = (a2 : Int) - 1 := by unfold wrap64; omega
  have hf := blk_frozen HX.out 1
  have hc : w5.cell? ⟨gx, 1, none⟩ = some (.int .i64 0) := (blk_cell HX.out 1).trans rfl
  go_wp2_with (fail)
  have hx := blk_put HX.out 1 (.int .i64 ((a2 : Int) - 1)) (cs' := #[.int .i64 (a1 : Int), .int .i64 ((a2 : Int) - 1), .slice none 0 0, .int .i64 0, .int .i64 0]) rfl
  have hA := HA.out.set (i := 1) (v := .int .i64 ((a2 : Int) - 1)) HX.out (by decide) HG.out.1
  have hy := blk_far HY.out (p := ⟨gx, 1, none⟩) HG.out.2 (.int .i64 ((a2 : Int) - 1))
  generalize w5.setCell ⟨gx, 1, none⟩ (.int .i64 ((a2 : Int) - 1)) = w6 at hx hA hy ⊢
  clear hc hf
  refine (rlist_any hA.rdr HCB.out HBY.out HL.out HP.out).mono ?_
  rintro e w7 ⟨v3, rfl, hV, hR, hK⟩
  replace HY := Aside0.mk (hA.blk (st' := st) hK hy (Nat.le_refl _))
  replace HX := Aside0.mk (hA.blk (st' := st) hK hx HG.out.1)
  have HW := Aside0.mk (show br < w6.heap.size ∧ gx < w6.heap.size ∧ w.heap.size < w6.heap.size from ⟨Nat.lt_of_lt_of_le hA.lt hA.keep.1, blk_lt hx, blk_lt hy⟩)
  replace HA := Aside0.mk (hA.call hR hK)
  replace HP := Aside0.mk (dList_pos HP.out)
  clear hA hR hK hx hy hb hw
  generalize w6.heap.size = gl at HW hV
  generalize e3 : dList bs s2 = D3 at HP HA hV ⊢
  obtain ⟨a3, s3⟩ := D3
  have E3 := Aside0.mk e3
  clear e3
  dsimp only at HP HA hV ⊢
  obtain ⟨A3, c3, rfl⟩ := Kd.R_slice hV
  have HV := Aside0.mk hV
  clear hV
  have hf := blk_frozen HX.out 2
  have hc : w7.cell? ⟨gx, 2, none⟩ = some (.slice none 0 0) := (blk_cell HX.out 2).trans rfl
  go_wp2_with (fail)
  replace HV := Aside0.mk (R_far (g := gx) (i := 2) (u := .slice A3 a3.length c3) HV.out (Nat.not_le.mpr HW.out.2.1))
  have hx := blk_put HX.out 2 (.slice A3 a3.length c3) (cs' := #[.int .i64 (a1 : Int), .int .i64 ((a2 : Int) - 1), .slice A3 a3.length c3, .int .i64 0, .int .i64 0]) rfl
  have hA := HA.out.set (i := 2) (v := .slice A3 a3.length c3) HX.out (by decide) HG.out.1
  have hy := blk_far HY.out (p := ⟨gx, 2, none⟩) HG.out.2 (.slice A3 a3.length c3)
  generalize w7.setCell ⟨gx, 2, none⟩ (.slice A3 a3.length c3) = w8 at hx hA hy HV ⊢
  clear hc hf
  refine (rsigned_any hA.rdr HCB.out HBY.out HL.out HP.out).mono ?_
  rintro e w9 ⟨rfl, hR, hK⟩
  replace HV := Aside0.mk (R_keeps HV.out hK (fun k hk => Nat.ne_of_gt (Nat.lt_of_lt_of_le HW.out.1 hk)))
  replace HY := Aside0.mk (hA.blk (st' := st) hK hy (Nat.le_refl _))
  replace HX := Aside0.mk (hA.blk (st' := st) hK hx HG.out.1)
  replace HA := Aside0.mk (hA.call hR hK)
  replace HP := Aside0.mk (dNum_pos HP.out)
  clear hA hR hK hx hy
  generalize e4 : dNum bs s3 = D4 at HP HA ⊢
  obtain ⟨a4, s4⟩ := D4
  have E4 := Aside0.mk e4
  clear e4
  dsimp only at HP HA ⊢
  generalize e6 : zag a4 = i4
  have hf := blk_frozen HX.out 3
  have hc : w9.cell? ⟨gx, 3, none⟩ = some (.int .i64 0) := (blk_cell HX.out 3).trans rfl
  go_wp2_with (fail)
  replace HV := Aside0.mk (R_far (g := gx) (i := 3) (u := .int .i64 i4) HV.out (Nat.not_le.mpr HW.out.2.1))
  have hx := blk_put HX.out 3 (.int .i64 i4) (cs' := #[.int .i64 (a1 : Int), .int .i64 ((a2 : Int) - 1), .slice A3 a3.length c3, .int .i64 i4, .int .i64 0]) rfl
  have hA := HA.out.set (i := 3) (v := .int .i64 i4) HX.out (by decide) HG.out.1
  have hy := blk_far HY.out (p := ⟨gx, 3, none⟩) HG.out.2 (.int .i64 i4)
  generalize w9.setCell ⟨gx, 3, none⟩ (.int .i64 i4) = w10 at hx hA hy HV ⊢
  clear hc hf
  refine (rint_any hA.rdr HCB.out HBY.out HL.out HP.out).mono ?_
  rintro e w11 ⟨rfl, hR, hK⟩
  replace HV := Aside0.mk (R_keeps HV.out hK (fun k hk => Nat.ne_of_gt (Nat.lt_of_lt_of_le HW.out.1 hk)))
  replace HY := Aside0.mk (hA.blk (st' := st) hK hy (Nat.le_refl _))
  replace HX := Aside0.mk (hA.blk (st' := st) hK hx HG.out.1)
  replace HA := Aside0.mk (hA.call hR hK)
  replace HP := Aside0.mk (dInt_pos HP.out)
  clear hA hR hK hx hy
  generalize e5 : dInt bs s4 = D5 at HP HA ⊢
  obtain ⟨a5, s5⟩ := D5
  have E5 := Aside0.mk e5
  clear e5
  dsimp only at HP HA ⊢
  have hf := blk_frozen HX.out 4
  have hc : w11.cell? ⟨gx, 4, none⟩ = some (.int .i64 0) := (blk_cell HX.out 4).trans rfl
  go_upto_region 6 with (fail)
  replace HV := Aside0.mk (R_far (g := gx) (i := 4) (u := .int .i64 (a5 : Int)) HV.out (Nat.not_le.mpr HW.out.2.1))
  have hx := blk_put HX.out 4 (.int .i64 (a5 : Int)) (cs' := #[.int .i64 (a1 : Int), .int .i64 ((a2 : Int) - 1), .slice A3 a3.length c3, .int .i64 i4, .int .i64 (a5 : Int)]) rfl
  have hA := HA.out.set (i := 4) (v := .int .i64 (a5 : Int)) HX.out (by decide) HG.out.1
  have hy := blk_far HY.out (p := ⟨gx, 4, none⟩) HG.out.2 (.int .i64 (a5 : Int))
  generalize w11.setCell ⟨gx, 4, none⟩ (.int .i64 (a5 : Int)) = w12 at hx hA hy HV ⊢
  clear hc hf
  have hx0 : w12.cell? ⟨gx, 0, none⟩ = some (.int .i64 (a1 : Int)) := (blk_cell hx 0).trans rfl
  have hx1 : w12.cell? ⟨gx, 1, none⟩ = some (.int .i64 ((a2 : Int) - 1)) := (blk_cell hx 1).trans rfl
  have hx2 : w12.cell? ⟨gx, 2, none⟩ = some (.slice A3 a3.length c3) := (blk_cell hx 2).trans rfl
  have hx3 : w12.cell? ⟨gx, 3, none⟩ = some (.int .i64 i4) := (blk_cell hx 3).trans rfl
  have hx4 : w12.cell? ⟨gx, 4, none⟩ = some (.int .i64 (a5 : Int)) := (blk_cell hx 4).trans rfl
  have hy0 : w12.cell? ⟨w.heap.size, 0, none⟩ = some (.int .i64 0) := (blk_cell hy 0).trans rfl
  have hy1 : w12.cell? ⟨w.heap.size, 1, none⟩ = some (.int .i64 0) := (blk_cell hy 1).trans rfl
  have hy2 : w12.cell? ⟨w.heap.size, 2, none⟩ = some (.slice none 0 0) := (blk_cell hy 2).trans rfl
  have hy3 : w12.cell? ⟨w.heap.size, 3, none⟩ = some (.int .i64 0) := (blk_cell hy 3).trans rfl
  have hy4 : w12.cell? ⟨w.heap.size, 4, none⟩ = some (.int .i64 0) := (blk_cell hy 4).trans rfl
  have hf0 := blk_frozen hy 0
  have hf1 := blk_frozen hy 1
  have hf2 := blk_frozen hy 2
  have hf3 := blk_frozen hy 3
  have hf4 := blk_frozen hy 4
  replace HY := Aside0.mk hy
  replace HA := Aside0.mk hA
  clear hx hy hA
  go_wp2_with (fail)
  have hR : dInstr bs st = (⟨(a1 : Int), (a2 : Int) - 1, a3, zag a4, (a5 : Int)⟩, s5) := by
    unfold dInstr
    rw [E1.out]
    dsimp only
    rw [E2.out]
    dsimp only
    rw [E3.out]
    dsimp only
    rw [E4.out]
    dsimp only
    rw [E5.out]
  have HRR := Aside0.mk hR
  clear hR hx0 hx1 hx2 hx3 hx4
  have hz := setAll_blk [.int .i64 (a1 : Int), .int .i64 ((a2 : Int) - 1), .slice A3 a3.length c3, .int .i64 i4, .int .i64 (a5 : Int)] 0 _ _ HY.out rfl
  replace HV := Aside0.mk (R_all (g := w.heap.size) (Nat.not_le.mpr HW.out.2.2) [.int .i64 (a1 : Int), .int .i64 ((a2 : Int) - 1), .slice A3 a3.length c3, .int .i64 i4, .int .i64 (a5 : Int)] 0 _ HV.out)
  replace HA := Aside0.mk (At.all (by decide) (Nat.le_refl _) [.int .i64 (a1 : Int), .int .i64 ((a2 : Int) - 1), .slice A3 a3.length c3, .int .i64 i4, .int .i64 (a5 : Int)] 0 _ _ HA.out HY.out)
  dsimp only [setAll] at hz HV HA
  generalize ((((w12.setCell ⟨w.heap.size, 0, none⟩ (.int .i64 (a1 : Int))).setCell ⟨w.heap.size, 1, none⟩ (.int .i64 ((a2 : Int) - 1))).setCell ⟨w.heap.size, 2, none⟩ (.slice A3 a3.length c3)).setCell ⟨w.heap.size, 3, none⟩ (.int .i64 i4)).setCell ⟨w.heap.size, 4, none⟩ (.int .i64 (a5 : Int)) = wz at hz HV HA ⊢
  clear hy0 hy1 hy2 hy3 hy4 hf0 hf1 hf2 hf3 hf4 HY HX
  have hz0 : wz.cell? ⟨w.heap.size, 0, none⟩ = some (.int .i64 (a1 : Int)) := (blk_cell hz 0).trans rfl
  have hz1 : wz.cell? ⟨w.heap.size, 1, none⟩ = some (.int .i64 ((a2 : Int) - 1)) := (blk_cell hz 1).trans rfl
  have hz2 : wz.cell? ⟨w.heap.size, 2, none⟩ = some (.slice A3 a3.length c3) := (blk_cell hz 2).trans rfl
  have hz3 : wz.cell? ⟨w.heap.size, 3, none⟩ = some (.int .i64 i4) := (blk_cell hz 3).trans rfl
  have hz4 : wz.cell? ⟨w.heap.size, 4, none⟩ = some (.int .i64 (a5 : Int)) := (blk_cell hz 4).trans rfl
  refine bodyPost_ret (v := .agg #[.int .i64 (a1 : Int), .int .i64 ((a2 : Int) - 1), .slice A3 a3.length c3, .int .i64 i4, .int .i64 (a5 : Int)]) (by simp [results, Tryd.results72, go_sem, hz0, hz1, hz2, hz3, hz4]; try rfl) rfl ?_
  rw [HRR.out]
  subst e6
  exact ⟨_, rfl, k58_mkM _ _ _ _ (R_mono HV.out (fun k hk => Nat.le_trans (Nat.le_of_lt HW.out.2.2) hk)), HA.out.rdr, HA.out.keep⟩
end Go.Proofs.YtckebppacealeaaDoor.Rk
