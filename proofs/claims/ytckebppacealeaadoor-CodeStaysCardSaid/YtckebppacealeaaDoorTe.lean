/- The reader of code.Decode: a block. Conditions: the reader stands; bytes are bytes. -/
import Derived.Test.YtckebppacealeaaDoorTd
namespace Go.Proofs.YtckebppacealeaaDoor.Rk
open Go.RowKit Go.Proofs.YtckebppacealeaaDoorW.PrintWords Go.Proofs.YtckebppacealeaaDoorW.PrintLast Go.Proofs.YtckebppacealeaaDoorW.PrintMore Go.Proofs.YtckebppacealeaaDoorW.PrintWords.Kd Go.Proofs.YtckebppacealeaaDoor.PCodeUnlike Go.Proofs.YtckebppacealeaaDoor.Lp Go.Proofs.YtckebppacealeaaDoor.Lk
attribute [local go_sem] max2_int min2_int max_two min_two max_three min_three max_four min_four
set_option linter.unusedVariables false
set_option linter.unusedSimpArgs false
variable {w w1 w0 W : World} {br : Nat} {A : Option Addr} {c : Nat} {bs : List Int} {st : St}
theorem infoI : (Tryd.prog.info? 58).map (fun i => (i.zero, i.size, i.bytes)) = some (some (.agg #[.int .i64 0, .int .i64 0, .slice none 0 0, .int .i64 0, .int .i64 0]), 5, 56) := by kernel_rfl
theorem infoP : (Tryd.prog.info? 60).map (fun i => (i.zero, i.size, i.bytes)) = some (some (.agg #[.int .i64 0, .slice none 0 0]), 2, 32) := by kernel_rfl
def dPhi (bs : List Int) (st : St) : Ph × St :=
  let a := dInt bs st
  let l := dList bs a.2
  (⟨a.1, l.1⟩, l.2)
def dTerm (bs : List Int) (st : St) : Tm × St :=
  let k := dInt bs st
  let a := dInt bs k.2
  let l := dList bs a.2
  (⟨k.1, (a.1 : Int) - 1, l.1⟩, l.2)
def dBlock (bs : List Int) (st : St) : Bk × St :=
  let p := dMany bs 256 (dPhi bs) st
  let i := dMany bs 256 (dInstr bs) p.2
  let t := dTerm bs i.2
  (⟨p.1, i.1, t.1⟩, t.2)
theorem dPhi_pos (h : st.pos ≤ bs.length) : (dPhi bs st).2.pos ≤ bs.length := dList_pos (dInt_pos h)
theorem dInstr_pos (h : st.pos ≤ bs.length) : (dInstr bs st).2.pos ≤ bs.length := dInt_pos (dNum_pos (dList_pos (dInt_pos (dInt_pos h))))
theorem dTerm_pos (h : st.pos ≤ bs.length) : (dTerm bs st).2.pos ≤ bs.length := dList_pos (dInt_pos (dInt_pos h))
theorem dBlock_pos (h : st.pos ≤ bs.length) : (dBlock bs st).2.pos ≤ bs.length := by
  unfold dBlock
  dsimp only
  exact dTerm_pos (dMany_pos (f := dInstr bs) (fun _ => dInstr_pos) (dMany_pos (f := dPhi bs) (fun _ => dPhi_pos) h))
theorem At.grown {α : Type} {d : Kd α} {e base : Nat} {W1 : World} {ok : Nat → Prop} {v : Value} {xs : List α} (h : At w0 w W br A c bs st) (HR : Kd.R d e W base ok v xs) (hge : ∀ k, ok k → w.heap.size ≤ k) (he : e ≠ 78) (he2 : e ≠ 72) (hg : W.grownBy W1 v.ownBlock) (hl : Below w0.heap.size w0 W1) : At w0 w W1 br A c bs st :=
  ⟨h.lt, h.le, Rdr.grown h.rdr HR he he2 hg hl, Kept.of_grown (S := fun k_ => k_ = br) hg h.keep (fun k_ e_ => .inr (hge k_ (HR.1 k_ e_)))⟩
theorem Kept_all {g : Nat} {S : Nat → Prop} (hg : S g) : ∀ (vs : List Value) (i : Nat) (W : World), Kept w W S → Kept w (setAll W g i vs) S
  | [], i, W, h => h
  | v :: vs, i, W, h => Kept_all hg vs (i + 1) _ (Kept.setCell h (p := ⟨g, i, none⟩) (.inl hg) v)
theorem R_own_ne {α : Type} {d : Kd α} {e base : Nat} {ok : Nat → Prop} {v : Value} {xs : List α} (HR : Kd.R d e W base ok v xs) {k : Nat} (hk : ¬ ok k) : some k ≠ v.ownBlock := fun e => hk (HR.1 k e.symm)
set_option maxHeartbeats 8000000 in
set_option maxRecDepth 100000 in
theorem rblock_any (h : Rdr w0 w br A c bs st) (hC : Kd.C (Kd.int .u8) w0 A bs.length bs) (hby : ∀ a ∈ bs, Byte a) (hl : bs.length ≤ 100000000000) (hp : st.pos ≤ bs.length) :
    Calls Tryd.prog 54 #[.pointer (some ⟨br, 0, none⟩)] w fun e w' => ∃ cs, e = .returned (.agg cs.toArray) ∧ k56.M w' w0.heap.size (fun k => w.heap.size ≤ k) (dBlock bs st).1 cs ∧ Rdr w0 w' br A c bs (dBlock bs st).2 ∧ Keeps br w w' := by
  have HA := Aside0.mk (At.of h)
  have HCB := Aside0.mk hC
  have HBY := Aside0.mk hby
  have HL := Aside0.mk hl
  have HP := Aside0.mk hp
  clear h hC hby hl hp
  go_enter Tryd.func54, Tryd.ntmps54
  go_wp2_with (fail)
  have hy := blk_new w (.cells #[.slice none 0 0, .slice none 0 0, .int .i64 0, .int .i64 0, .slice none 0 0] 56)
  have hA := HA.out.alloc (.cells #[.slice none 0 0, .slice none 0 0, .int .i64 0, .int .i64 0, .slice none 0 0] 56)
  have hs : (w.alloc (.cells #[.slice none 0 0, .slice none 0 0, .int .i64 0, .int .i64 0, .slice none 0 0] 56)).heap.size = w.heap.size + 1 := by simp
  generalize w.alloc (.cells #[.slice none 0 0, .slice none 0 0, .int .i64 0, .int .i64 0, .slice none 0 0] 56) = w2 at hy hA hs ⊢
  have hx := blk_new w2 (.cells #[.slice none 0 0, .slice none 0 0, .int .i64 0, .int .i64 0, .slice none 0 0] 56)
  replace hy := blk_alloc hy (.cells #[.slice none 0 0, .slice none 0 0, .int .i64 0, .int .i64 0, .slice none 0 0] 56)
  replace hA := hA.alloc (.cells #[.slice none 0 0, .slice none 0 0, .int .i64 0, .int .i64 0, .slice none 0 0] 56)
  rw [hs] at hx
  generalize w2.alloc (.cells #[.slice none 0 0, .slice none 0 0, .int .i64 0, .int .i64 0, .slice none 0 0] 56) = w3 at hx hy hA ⊢
  have HG := Aside0.mk (show w.heap.size ≤ w.heap.size + 1 ∧ w.heap.size ≠ w.heap.size + 1 from ⟨by omega, by omega⟩)
  have HG2 := Aside0.mk (show br < w.heap.size + 1 ∧ w.heap.size < w.heap.size + 1 from ⟨by have := hA.lt; omega, by omega⟩)
  clear hs HA
  generalize w.heap.size + 1 = gx at hx HG HG2 ⊢
  refine (rcount_any hA.rdr HCB.out HBY.out HL.out HP.out 256).mono ?_
  rintro e w4 ⟨rfl, hR, hK⟩
  have HY := Aside0.mk (hA.blk (st' := st) hK hy (Nat.le_refl _))
  have HX := Aside0.mk (hA.blk (st' := st) hK hx HG.out.1)
  have HA := Aside0.mk (hA.call hR hK)
  have hm := dCount_le bs 256 st
  replace HP := Aside0.mk (dCount_pos (most := 256) HP.out)
  clear hA hR hK hx hy
  generalize e1 : dCount bs 256 st = D1 at hm HP HA ⊢
  obtain ⟨n1, s1⟩ := D1
  have E1 := Aside0.mk e1
  clear e1
  dsimp only at hm HP HA ⊢
  go_upto_block 0 with (fail)
  go_cut [] (fun wx => ∃ (xs : List Ph) (s2 : St) (A1 : Option Addr) (c1 : Nat), Aside0 (dRep (dPhi bs) n1 s1 = (xs, s2)) ∧ Aside0 (s2.pos ≤ bs.length) ∧ Aside0 (Kd.R k60 60 wx w0.heap.size (fun k => gx < k) (.slice A1 xs.length c1) xs) ∧ Aside0 (wx.heap[w.heap.size]? = some (.cells #[.slice none 0 0, .slice none 0 0, .int .i64 0, .int .i64 0, .slice none 0 0] 56 (0, 0))) ∧ Aside0 (wx.heap[gx]? = some (.cells #[.slice A1 xs.length c1, .slice none 0 0, .int .i64 0, .int .i64 0, .slice none 0 0] 56 (0, 0))) ∧ Aside0 (At w0 w wx br A c bs s2))
  case first =>
    go_wp2_with (fail)
    go_loopw [4] (fun v4 wr => ∃ (m : Nat) (xs : List Ph) (s2 : St) (A1 : Option Addr) (c1 : Nat), xs.length + m ≤ 256 ∧ v4 = .int .i64 m ∧ Aside0 (dRep (dPhi bs) n1 s1 = (xs ++ (dRep (dPhi bs) m s2).1, (dRep (dPhi bs) m s2).2)) ∧ Aside0 (s2.pos ≤ bs.length) ∧ Aside0 (Kd.R k60 60 wr w0.heap.size (fun k => gx < k) (.slice A1 xs.length c1) xs) ∧ Aside0 (wr.heap[w.heap.size]? = some (.cells #[.slice none 0 0, .slice none 0 0, .int .i64 0, .int .i64 0, .slice none 0 0] 56 (0, 0))) ∧ Aside0 (wr.heap[gx]? = some (.cells #[.slice A1 xs.length c1, .slice none 0 0, .int .i64 0, .int .i64 0, .slice none 0 0] 56 (0, 0))) ∧ Aside0 (At w0 w wr br A c bs s2)) (fun v4 _ => (intOf v4).toNat)
    case atStart => exact ⟨n1, [], s1, none, 0, by simpa using hm, rfl, ⟨rfl⟩, HP, ⟨R_nil _ _ _ _ _⟩, HY, HX, HA⟩
    case round =>
      clear HA HP HX HY hm
      obtain ⟨m, xs, s2, A1, c1, hm, rfl, HD, HP, HV, HY, HX, HA⟩ := hrel
      obtain ⟨pos, err⟩ := s2
      obtain ⟨_, _, ev, hb, hev⟩ := HA.out.rdr
      dsimp only at hb hev
      have hc2 : wr.cell? ⟨br, 2, none⟩ = some ev := (blk_cell hb 2).trans rfl
      clear hb
      have HLEN := Aside0.mk hm
      by_cases cz : m = 0
      · subst cz
        have HR1 := Aside0.mk HD.out
        rw [dRep, List.append_nil] at HR1
        clear hev HD hm
        go_wp2
        go_meet
        case rel => exact ⟨_, _, _, _, HR1, HP, HV, HY, HX, HA⟩
      obtain ⟨q, hq⟩ : ∃ q, m = q + 1 := ⟨m - 1, by omega⟩
      have d1 : decide (0 < m) = true := decide_eq_true (by omega)
      have d2 : decide ((0 : Int) < (m : Int)) = true := decide_eq_true (by omega)
      have HQ := Aside0.mk hq
      match err, ev, hev with
      | some (p0, c0), _, ⟨g, g1, rfl, g3⟩ =>
        have hr := HD.out
        rw [dRep_err (dPhi bs) m _ rfl, List.append_nil] at hr
        have HR1 := Aside0.mk hr
        clear g1 g3 hr HD hq cz hm
        go_wp2
        go_meet
        case rel => exact ⟨_, _, _, _, HR1, HP, HV, HY, HX, HA⟩
      | none, _, hev =>
        obtain rfl := hev
        have hr := HD.out
        rw [hq, dRep_none] at hr
        have HR1 := Aside0.mk hr
        clear hr HD hq cz hm
        go_wp2_with (fail)
        refine (rint_any HA.out.rdr HCB.out HBY.out HL.out HP.out).mono ?_
        rintro e w5 ⟨rfl, hR, hK⟩
        have HS := Aside0.mk (show gx < wr.heap.size ∧ w.heap.size < wr.heap.size from ⟨blk_lt HX.out, blk_lt HY.out⟩)
        have HOW := Aside0.mk (Kd.R_lt HV.out)
        have HSZ := Aside0.mk hK.1
        have HKW := Aside0.mk (Kept.mono hK (S' := fun k => k ≤ gx) (fun k hk => by have := HG2.out.1; omega))
        replace HY := Aside0.mk (HA.out.blk (st' := st) hK HY.out (Nat.le_refl _))
        replace HX := Aside0.mk (HA.out.blk (st' := st) hK HX.out HG.out.1)
        replace HA := Aside0.mk (HA.out.call hR hK)
        replace HP := Aside0.mk (dInt_pos (bs := bs) (st := ⟨pos, none⟩) HP.out)
        clear hR hK hc2
        generalize e3 : dInt bs ⟨pos, none⟩ = D3 at HP HA ⊢
        obtain ⟨a3, s3⟩ := D3
        have E3 := Aside0.mk e3
        clear e3
        dsimp only at HP HA ⊢
        go_wp2_with (fail)
        have hp := blk_new w5 (.cells #[.int .i64 (a3 : Int), .slice none 0 0] 60)
        replace HKW := Aside0.mk (Kept.alloc HKW.out (.cells #[.int .i64 (a3 : Int), .slice none 0 0] 60))
        replace HY := Aside0.mk (blk_alloc HY.out (.cells #[.int .i64 (a3 : Int), .slice none 0 0] 60))
        replace HX := Aside0.mk (blk_alloc HX.out (.cells #[.int .i64 (a3 : Int), .slice none 0 0] 60))
        replace HA := Aside0.mk (HA.out.alloc (.cells #[.int .i64 (a3 : Int), .slice none 0 0] 60))
        generalize w5.alloc (.cells #[.int .i64 (a3 : Int), .slice none 0 0] 60) = w6 at hp HKW HY HX HA ⊢
        generalize w5.heap.size = gp at hp HSZ ⊢
        refine (rlist_any HA.out.rdr HCB.out HBY.out HL.out HP.out).mono ?_
        rintro e w7 ⟨v4, rfl, hV, hR, hK⟩
        have HS2 := Aside0.mk (blk_lt hp)
        replace HKW := Aside0.mk (Kept.then_ HKW.out hK (fun k hk => .inl (by have := HG2.out.1; omega)))
        have HPB := Aside0.mk (HA.out.blk (st' := st) hK hp (by have := HG.out.1; have := HS.out; have := HSZ.out; omega))
        replace HY := Aside0.mk (HA.out.blk (st' := st) hK HY.out (Nat.le_refl _))
        replace HX := Aside0.mk (HA.out.blk (st' := st) hK HX.out HG.out.1)
        replace HA := Aside0.mk (HA.out.call hR hK)
        replace HP := Aside0.mk (dList_pos HP.out)
        clear hR hK hp
        generalize w6.heap.size = gl at HS2 hV
        generalize e4 : dList bs s3 = D4 at HP HA hV ⊢
        obtain ⟨a4, s4⟩ := D4
        have E4 := Aside0.mk e4
        clear e4
        dsimp only at HP HA hV ⊢
        obtain ⟨A4, c4, rfl⟩ := Kd.R_slice hV
        have HV4 := Aside0.mk hV
        clear hV
        have hp0 : w7.cell? ⟨gp, 0, none⟩ = some (.int .i64 (a3 : Int)) := (blk_cell HPB.out 0).trans rfl
        have hp1 : w7.cell? ⟨gp, 1, none⟩ = some (.slice none 0 0) := (blk_cell HPB.out 1).trans rfl
        have hf := blk_frozen HPB.out 1
        go_upto_region 7 with (fail)
        have hx := blk_far HX.out (p := ⟨gp, 1, none⟩) (show gx ≠ gp by have := HS.out.1; have := HSZ.out; omega) (.slice A4 a4.length c4)
        have hy := blk_far HY.out (p := ⟨gp, 1, none⟩) (show w.heap.size ≠ gp by have := HS.out.2; have := HSZ.out; omega) (.slice A4 a4.length c4)
        have hq := blk_put HPB.out 1 (.slice A4 a4.length c4) (cs' := #[.int .i64 (a3 : Int), .slice A4 a4.length c4]) rfl
        have hA := HA.out.set (i := 1) (v := .slice A4 a4.length c4) HPB.out (by decide) (by have := HS.out.2; have := HSZ.out; omega)
        have hV4 := R_far (g := gp) (i := 1) (u := .slice A4 a4.length c4) HV4.out (Nat.not_le.mpr HS2.out)
        have hKW := Kept.setCell HKW.out (p := ⟨gp, 1, none⟩) (.inr HSZ.out) (.slice A4 a4.length c4)
        generalize w7.setCell ⟨gp, 1, none⟩ (.slice A4 a4.length c4) = w8 at hx hy hq hA hV4 hKW ⊢
        clear hp0 hp1 hf HX HY HPB HA HV4 HKW
        have HX := Aside0.mk hx
        have HY := Aside0.mk hy
        have HA := Aside0.mk hA
        have HV4 := Aside0.mk hV4
        replace HV := Aside0.mk (R_step HV.out (fun k hk hlt => hKW.2 k hlt (by omega)))
        have hp0 : w8.cell? ⟨gp, 0, none⟩ = some (.int .i64 (a3 : Int)) := (blk_cell hq 0).trans rfl
        have hp1 : w8.cell? ⟨gp, 1, none⟩ = some (.slice A4 a4.length c4) := (blk_cell hq 1).trans rfl
        have hx0 : w8.cell? ⟨gx, 0, none⟩ = some (.slice A1 xs.length c1) := (blk_cell hx 0).trans rfl
        clear hx hy hq hA hV4 hKW
        go_wp2_with (first | ((with_reducible refine gate_builtin (b := .append) (xs := #[.tmp 27, .tmp 29]) rfl ?_); at_builtin; refine Kd.R_append k60 (w0 := w0) w0.heap.size rfl (.tmp 27) (.tmp 29) 51 60 (.agg #[.int .i64 0, .slice none 0 0]) 32 rfl Tryd.underlying51 infoP rfl (by decide) (by omega) (.slice A1 xs.length c1) xs (⟨a3, a4⟩ : Ph) [.int .i64 (a3 : Int), .slice A4 a4.length c4] (fun k_ => gx < k_) (fun k_ => wr.heap.size ≤ k_) rfl rfl ?aP ?aK ?aF ?aO ?aB ?aS ?aL ?_; (case aP => exact k60_mkM _ _ _ (⟨a3, a4⟩ : Ph) (R_mono HV4.out (fun k_ hk_ => by have := HS2.out; have := HSZ.out; omega))); (case aK => exact (fun k_ hk_ => ⟨Nat.lt_of_lt_of_le HS.out.1 hk_, fun e_ => Nat.lt_irrefl _ (Nat.lt_of_lt_of_le (HOW.out k_ e_.symm) hk_)⟩)); (case aB => exact HA.out.rdr.low); (case aF => exact (fun k_ hk => Nat.lt_of_lt_of_le (blk_lt HX.out) hk)); (case aO => exact HV.out); (case aS => exact HA.out.rdr.low.size); (case aL => have := HLEN.out; omega); intro v9 w9 ho hb hg hat; obtain ⟨xs9, hxs⟩ : ∃ l, l = xs ++ [(⟨a3, a4⟩ : Ph)] := ⟨_, rfl⟩; rw [← hxs] at ho; have HXS := Aside0.mk hxs; clear hxs; obtain ⟨A9, c9, rfl⟩ := Kd.R_slice ho; have HA9 := Aside0.mk (At.grown (e := 60) HA.out HV.out (fun k_ hk_ => Nat.le_trans HG.out.1 (Nat.le_of_lt hk_)) (Nat.ne_of_beq_eq_false rfl) (Nat.ne_of_beq_eq_false rfl) hg hb); have HX9 := Aside0.mk (blk_grown HX.out hg (R_own_ne HV.out (Nat.lt_irrefl _))); have HY9 := Aside0.mk (blk_grown HY.out hg (R_own_ne HV.out (Nat.not_lt.mpr HG.out.1))); have HV9 := Aside0.mk ho; have hx9 : w9.cell? ⟨gx, 0, none⟩ = some (.slice A1 xs.length c1) := (blk_cell HX9.out 0).trans rfl; have hf9 := blk_frozen HX9.out 0; clear ho hb hg hat HA HX HY HV hp0 hp1 hx0))
        replace HA := Aside0.mk (HA9.out.set (i := 0) (v := .slice A9 xs9.length c9) HX9.out (by decide) HG.out.1)
        have HX := Aside0.mk (blk_put HX9.out 0 (.slice A9 xs9.length c9) (cs' := #[.slice A9 xs9.length c9, .slice none 0 0, .int .i64 0, .int .i64 0, .slice none 0 0]) rfl)
        have HY := Aside0.mk (blk_far HY9.out (p := ⟨gx, 0, none⟩) HG.out.2 (.slice A9 xs9.length c9))
        have HV := Aside0.mk (R_far (g := gx) (i := 0) (u := .slice A9 xs9.length c9) HV9.out (Nat.lt_irrefl _))
        have hw : wrap64 ((m : Int) - 1) = (q : Int) := by have := HLEN.out; have := HQ.out; unfold wrap64; omega
        clear HA9 HX9 HY9 HV9
        go_roundw
        case rel =>
          refine ⟨q, _, s4, A9, c9, ?_, by simp only [hw], ⟨?_⟩, HP, HV, HY, HX, HA⟩
          · have := HLEN.out
            have := HQ.out
            rw [HXS.out]
            simp only [List.length_append, List.length_cons, List.length_nil]
            omega
          · have e5 : dPhi bs ⟨pos, none⟩ = (⟨(a3 : Int), a4⟩, s4) := by
              unfold dPhi
              rw [E3.out]
              dsimp only
              rw [E4.out]
            rw [HR1.out, e5, HXS.out]
            simp
        case measure => have := HQ.out; simp only [intOf, hw]; omega
  case rest =>
    clear HA HP HX HY hm
    obtain ⟨ps, s2, A1, c1, E2, HP, HV, HY, HX, HA⟩ := hcut
    go_wp2_with (fail)
    refine (rcount_any HA.out.rdr HCB.out HBY.out HL.out HP.out 256).mono ?_
    rintro e w5 ⟨rfl, hR, hK⟩
    replace HV := Aside0.mk (R_keeps HV.out hK (fun k hk => by have := HG2.out.1; omega))
    replace HY := Aside0.mk (HA.out.blk (st' := st) hK HY.out (Nat.le_refl _))
    replace HX := Aside0.mk (HA.out.blk (st' := st) hK HX.out HG.out.1)
    replace HA := Aside0.mk (HA.out.call hR hK)
    have hm := dCount_le bs 256 s2
    replace HP := Aside0.mk (dCount_pos (most := 256) HP.out)
    clear hR hK
    generalize e3 : dCount bs 256 s2 = D3 at hm HP HA ⊢
    obtain ⟨n3, s3⟩ := D3
    have E3 := Aside0.mk e3
    clear e3
    dsimp only at hm HP HA ⊢
    have HS := Aside0.mk (show gx < w5.heap.size ∧ w.heap.size < w5.heap.size from ⟨blk_lt HX.out, blk_lt HY.out⟩)
    have HB := Aside0.mk (Nat.lt_of_lt_of_le HA.out.lt HA.out.keep.1)
    go_upto_block 2 with (fail)
    go_cut [] (fun wx => ∃ (xs : List In) (s2 : St) (A2 : Option Addr) (c2 : Nat), Aside0 (dRep (dInstr bs) n3 s3 = (xs, s2)) ∧ Aside0 (s2.pos ≤ bs.length) ∧ Aside0 (Kd.R k58 58 wx w0.heap.size (fun k => w5.heap.size ≤ k) (.slice A2 xs.length c2) xs) ∧ Aside0 (Kept w5 wx (fun k => k = br ∨ k = gx)) ∧ Aside0 (wx.heap[gx]? = some (.cells #[.slice A1 ps.length c1, .slice A2 xs.length c2, .int .i64 0, .int .i64 0, .slice none 0 0] 56 (0, 0))) ∧ Aside0 (At w0 w wx br A c bs s2))
    case first =>
      go_wp2_with (fail)
      go_loopw [6] (fun v6 wr => ∃ (m : Nat) (xs : List In) (s2 : St) (A2 : Option Addr) (c2 : Nat), xs.length + m ≤ 256 ∧ v6 = .int .i64 m ∧ Aside0 (dRep (dInstr bs) n3 s3 = (xs ++ (dRep (dInstr bs) m s2).1, (dRep (dInstr bs) m s2).2)) ∧ Aside0 (s2.pos ≤ bs.length) ∧ Aside0 (Kd.R k58 58 wr w0.heap.size (fun k => w5.heap.size ≤ k) (.slice A2 xs.length c2) xs) ∧ Aside0 (Kept w5 wr (fun k => k = br ∨ k = gx)) ∧ Aside0 (wr.heap[gx]? = some (.cells #[.slice A1 ps.length c1, .slice A2 xs.length c2, .int .i64 0, .int .i64 0, .slice none 0 0] 56 (0, 0))) ∧ Aside0 (At w0 w wr br A c bs s2)) (fun v6 _ => (intOf v6).toNat)
      case atStart => exact ⟨n3, [], s3, none, 0, by simpa using hm, rfl, ⟨rfl⟩, HP, ⟨R_nil _ _ _ _ _⟩, ⟨Kept.refl _ _⟩, HX, HA⟩
      case round =>
        clear HA HP HX hm
        obtain ⟨m, xs, s2, A2, c2, hm, rfl, HD, HP, HW, HK, HX, HA⟩ := hrel
        obtain ⟨pos, err⟩ := s2
        obtain ⟨_, _, ev, hb, hev⟩ := HA.out.rdr
        dsimp only at hb hev
        have hc2 : wr.cell? ⟨br, 2, none⟩ = some ev := (blk_cell hb 2).trans rfl
        clear hb
        have HLEN := Aside0.mk hm
        by_cases cz : m = 0
        · subst cz
          have HR1 := Aside0.mk HD.out
          rw [dRep, List.append_nil] at HR1
          clear hev HD hm
          go_wp2
          go_meet
          case rel => exact ⟨_, _, _, _, HR1, HP, HW, HK, HX, HA⟩
        obtain ⟨q, hq⟩ : ∃ q, m = q + 1 := ⟨m - 1, by omega⟩
        have d1 : decide (0 < m) = true := decide_eq_true (by omega)
        have d2 : decide ((0 : Int) < (m : Int)) = true := decide_eq_true (by omega)
        have HQ := Aside0.mk hq
        match err, ev, hev with
        | some (p0, c0), _, ⟨g, g1, rfl, g3⟩ =>
          have hr := HD.out
          rw [dRep_err (dInstr bs) m _ rfl, List.append_nil] at hr
          have HR1 := Aside0.mk hr
          clear g1 g3 hr HD hq cz hm
          go_wp2
          go_meet
          case rel => exact ⟨_, _, _, _, HR1, HP, HW, HK, HX, HA⟩
        | none, _, hev =>
          obtain rfl := hev
          have hr := HD.out
          rw [hq, dRep_none] at hr
          have HR1 := Aside0.mk hr
          clear hr HD hq cz hm
          go_upto_region 11 with (fail)
          have HA1 := Aside0.mk (HA.out.below (below_drew1 (Below.refl wr.heap.size wr)))
          have HSR := Aside0.mk (show w5.heap.size ≤ wr.heap.size ∧ gx < wr.heap.size from ⟨HK.out.1, blk_lt HX.out⟩)
          have HOW := Aside0.mk (Kd.R_lt HW.out)
          have hxr : wr.cell? ⟨gx, 1, none⟩ = some (.slice A2 xs.length c2) := (blk_cell HX.out 1).trans rfl
          have HPP := Aside0.mk (dInstr_pos (bs := bs) (st := ⟨pos, none⟩) HP.out)
          generalize e6 : dInstr bs ⟨pos, none⟩ = D6 at HR1 HPP
          obtain ⟨x, s6⟩ := D6
          dsimp only at HR1 HPP
          have E6 := Aside0.mk e6
          clear e6 hc2
          go_region_law (first
            | (go_simp; go_at_call 72; refine (rinstr_any HA1.out.rdr HCB.out HBY.out HL.out HP.out).mono ?_; rintro e w6 ⟨cs6, rfl, hM, hR, hK⟩; rw [E6.out] at hM hR; obtain ⟨v7, rfl, hI⟩ := k58_openM hM; obtain ⟨A7, c7, rfl⟩ := Kd.R_slice hI; have HX6 := Aside0.mk (HA1.out.blk (st' := s6) hK (blk_drew HX.out) HG.out.1); have HA6 := Aside0.mk (HA1.out.call hR hK); have HI := Aside0.mk hI; have HW6 := Aside0.mk (R_keeps (Kd.R_below HW.out (below_drew1 (Below.refl wr.heap.size wr))) hK (fun k hk => by have := HB.out; omega)); have HK6 := Aside0.mk (Kept.then_ (Kept.drew HK.out) hK (fun k hk => .inl (.inl hk))); have hx6 : w6.cell? ⟨gx, 1, none⟩ = some (.slice A2 xs.length c2) := (blk_cell HX6.out 1).trans rfl; have hx6b := pw_cell_below (below_alloc (Below.refl w6.heap.size w6) (.cells #[.int .i64 x.f0, .int .i64 x.f1, .slice A7 x.f2.length c7, .int .i64 x.f3, .int .i64 x.f4] 58)) hx6; clear hM hR hK hI)
            | (refine Kd.R_append_step k58 (w0 := w0) (W := w6) w0.heap.size ?aW (.tmp 46) (.tmp 49) 52 58 (.agg #[.int .i64 0, .int .i64 0, .slice none 0 0, .int .i64 0, .int .i64 0]) 56 ?aV Tryd.underlying52 infoI rfl (by decide) (by omega) (.slice A2 xs.length c2) xs x [.int .i64 x.f0, .int .i64 x.f1, .slice A7 x.f2.length c7, .int .i64 x.f3, .int .i64 x.f4] (fun k_ => w5.heap.size ≤ k_) (fun k_ => wr.heap.size ≤ k_) ?aX ?aY ?aP ?aK ?aF ?aO ?aB ?aS ?aL ?_; (case aW => first | rfl | simp [Region.wanted]); (case aV => rfl); (case aX => rfl); (case aY => first | rfl | (simp; done)); (case aP => exact k58_mkM _ _ _ x HI.out); (case aK => exact (fun k_ hk_ => ⟨Nat.le_trans HSR.out.1 hk_, fun e_ => Nat.lt_irrefl _ (Nat.lt_of_lt_of_le (HOW.out k_ e_.symm) hk_)⟩)); (case aF => exact (fun k_ hk_ => Nat.le_trans HK6.out.1 hk_)); (case aO => exact HW6.out); (case aB => exact HA6.out.rdr.low); (case aS => exact HA6.out.rdr.low.size); (case aL => have := HLEN.out; omega); intro v9 w9 ho hb hg hat; obtain ⟨xs9, hxs⟩ : ∃ l, l = xs ++ [x] := ⟨_, rfl⟩; rw [← hxs] at ho; have HXS := Aside0.mk hxs; clear hxs; obtain ⟨A9, c9, rfl⟩ := Kd.R_slice ho; have HA9 := Aside0.mk (At.grown (e := 58) HA6.out HW6.out (fun k_ hk_ => Nat.le_trans (Nat.le_of_lt HS.out.2) hk_) (Nat.ne_of_beq_eq_false rfl) (Nat.ne_of_beq_eq_false rfl) hg hb); have HX9 := Aside0.mk (blk_grown HX6.out hg (R_own_ne HW6.out (Nat.not_le.mpr HS.out.1))); have HK9 := Aside0.mk (Kept.of_grown (S := fun k_ => k_ = br ∨ k_ = gx) hg HK6.out (fun k_ e_ => .inr (HW6.out.1 k_ e_))); have HW9 := Aside0.mk ho; have hx9 : w9.cell? ⟨gx, 1, none⟩ = some (.slice A2 xs.length c2) := (blk_cell HX9.out 1).trans rfl; have hf9 := blk_frozen HX9.out 1; clear ho hb hg hat))
          all_goals
            go_wp2_with (fail)
            have HA := Aside0.mk (HA9.out.set (i := 1) (v := .slice A9 xs9.length c9) HX9.out (by decide) HG.out.1)
            have HX := Aside0.mk (blk_put HX9.out 1 (.slice A9 xs9.length c9) (cs' := #[.slice A1 ps.length c1, .slice A9 xs9.length c9, .int .i64 0, .int .i64 0, .slice none 0 0]) rfl)
            have HK := Aside0.mk (Kept.setCell HK9.out (p := ⟨gx, 1, none⟩) (.inl (.inr rfl)) (.slice A9 xs9.length c9))
            have HW := Aside0.mk (R_far (g := gx) (i := 1) (u := .slice A9 xs9.length c9) HW9.out (Nat.not_le.mpr HS.out.1))
            have hw : wrap64 ((m : Int) - 1) = (q : Int) := by have := HLEN.out; have := HQ.out; unfold wrap64; omega
            clear HA9 HX9 HK9 HW9
            go_roundw
            case rel =>
              refine ⟨q, _, s6, A9, c9, ?_, by simp only [hw], ⟨?_⟩, HPP, HW, HK, HX, HA⟩
              · have := HLEN.out
                have := HQ.out
                rw [HXS.out]
                simp only [List.length_append, List.length_cons, List.length_nil]
                omega
              · rw [HR1.out, HXS.out]
                simp
            case measure => have := HQ.out; simp only [intOf, hw]; omega
    case rest =>
      clear HA HP HX hm
      obtain ⟨is, s4, A2, c2, E4, HP, HW, HK, HX, HA⟩ := hcut
      replace HY := Aside0.mk ((HK.out.2 _ (blk_lt HY.out) (fun e => by have := HA.out.lt; have := HG.out.2; rcases e with e | e <;> omega)).trans HY.out)
      replace HV := Aside0.mk (R_step HV.out (fun k hk hlt => HK.out.2 k hlt (fun e => by have := HG2.out.1; rcases e with e | e <;> omega)))
      have HKZ := Aside0.mk (Kept.refl wc (fun k => k ≤ gx))
      clear HK
      go_wp2_with (fail)
      refine (rint_any HA.out.rdr HCB.out HBY.out HL.out HP.out).mono ?_
      rintro e w7 ⟨rfl, hR, hK⟩
      replace HKZ := Aside0.mk (Kept.then_ HKZ.out hK (fun k hk => .inl (by have := HG2.out.1; omega)))
      replace HY := Aside0.mk (HA.out.blk (st' := st) hK HY.out (Nat.le_refl _))
      replace HX := Aside0.mk (HA.out.blk (st' := st) hK HX.out HG.out.1)
      replace HA := Aside0.mk (HA.out.call hR hK)
      replace HP := Aside0.mk (dInt_pos HP.out)
      clear hR hK
      generalize e5 : dInt bs s4 = D5 at HP HA ⊢
      obtain ⟨a5, s5⟩ := D5
      have E5 := Aside0.mk e5
      clear e5
      dsimp only at HP HA ⊢
      have hf := blk_frozen HX.out 2
      have hc : w7.cell? ⟨gx, 2, none⟩ = some (.int .i64 0) := (blk_cell HX.out 2).trans rfl
      go_wp2_with (fail)
      have hx := blk_put HX.out 2 (.int .i64 (a5 : Int)) (cs' := #[.slice A1 ps.length c1, .slice A2 is.length c2, .int .i64 (a5 : Int), .int .i64 0, .slice none 0 0]) rfl
      have hA := HA.out.set (i := 2) (v := .int .i64 (a5 : Int)) HX.out (by decide) HG.out.1
      have hy := blk_far HY.out (p := ⟨gx, 2, none⟩) HG.out.2 (.int .i64 (a5 : Int))
      replace HKZ := Aside0.mk (Kept.setCell HKZ.out (p := ⟨gx, 2, none⟩) (.inl (Nat.le_refl _)) (.int .i64 (a5 : Int)))
      generalize w7.setCell ⟨gx, 2, none⟩ (.int .i64 (a5 : Int)) = w8 at hx hA hy HKZ ⊢
      clear hc hf
      refine (rint_any hA.rdr HCB.out HBY.out HL.out HP.out).mono ?_
      rintro e w9 ⟨rfl, hR, hK⟩
      replace HKZ := Aside0.mk (Kept.then_ HKZ.out hK (fun k hk => .inl (by have := HG2.out.1; omega)))
      replace HY := Aside0.mk (hA.blk (st' := st) hK hy (Nat.le_refl _))
      replace HX := Aside0.mk (hA.blk (st' := st) hK hx HG.out.1)
      replace HA := Aside0.mk (hA.call hR hK)
      have hb := dInt_le bs s5
      replace HP := Aside0.mk (dInt_pos HP.out)
      clear hA hR hK hx hy
      generalize e6 : dInt bs s5 = D6 at HP HA hb ⊢
      obtain ⟨a6, s6⟩ := D6
      have E6 := Aside0.mk e6
      clear e6
      dsimp only at HP HA hb ⊢
      have hw : wrap64 ((a6 : Int) - 1) = (a6 : Int) - 1 := by unfold wrap64; omega
      have hf := blk_frozen HX.out 3
      have hc : w9.cell? ⟨gx, 3, none⟩ = some (.int .i64 0) := (blk_cell HX.out 3).trans rfl
      go_wp2_with (fail)
      have hx := blk_put HX.out 3 (.int .i64 ((a6 : Int) - 1)) (cs' := #[.slice A1 ps.length c1, .slice A2 is.length c2, .int .i64 (a5 : Int), .int .i64 ((a6 : Int) - 1), .slice none 0 0]) rfl
      have hA := HA.out.set (i := 3) (v := .int .i64 ((a6 : Int) - 1)) HX.out (by decide) HG.out.1
      have hy := blk_far HY.out (p := ⟨gx, 3, none⟩) HG.out.2 (.int .i64 ((a6 : Int) - 1))
      replace HKZ := Aside0.mk (Kept.setCell HKZ.out (p := ⟨gx, 3, none⟩) (.inl (Nat.le_refl _)) (.int .i64 ((a6 : Int) - 1)))
      generalize w9.setCell ⟨gx, 3, none⟩ (.int .i64 ((a6 : Int) - 1)) = w10 at hx hA hy HKZ ⊢
      clear hc hf
      refine (rlist_any hA.rdr HCB.out HBY.out HL.out HP.out).mono ?_
      rintro e w11 ⟨v7, rfl, hV, hR, hK⟩
      replace HKZ := Aside0.mk (Kept.then_ HKZ.out hK (fun k hk => .inl (by have := HG2.out.1; omega)))
      have HGL := Aside0.mk (And.intro (blk_lt hx) (blk_lt hy))
      replace HY := Aside0.mk (hA.blk (st' := st) hK hy (Nat.le_refl _))
      replace HX := Aside0.mk (hA.blk (st' := st) hK hx HG.out.1)
      replace HA := Aside0.mk (hA.call hR hK)
      replace HP := Aside0.mk (dList_pos HP.out)
      clear hA hR hK hx hy hb hw
      generalize w10.heap.size = gl at HGL hV
      generalize e7 : dList bs s6 = D7 at HP HA hV ⊢
      obtain ⟨a7, s7⟩ := D7
      have E7 := Aside0.mk e7
      clear e7
      dsimp only at HP HA hV ⊢
      obtain ⟨A7, c7, rfl⟩ := Kd.R_slice hV
      have hf := blk_frozen HX.out 4
      have hc : w11.cell? ⟨gx, 4, none⟩ = some (.slice none 0 0) := (blk_cell HX.out 4).trans rfl
      have HV7 := Aside0.mk (R_far (g := gx) (i := 4) (u := .slice A7 a7.length c7) hV (Nat.not_le.mpr HGL.out.1))
      clear hV
      go_upto_region 15 with (fail)
      have hx := blk_put HX.out 4 (.slice A7 a7.length c7) (cs' := #[.slice A1 ps.length c1, .slice A2 is.length c2, .int .i64 (a5 : Int), .int .i64 ((a6 : Int) - 1), .slice A7 a7.length c7]) rfl
      have hA := HA.out.set (i := 4) (v := .slice A7 a7.length c7) HX.out (by decide) HG.out.1
      have hy := blk_far HY.out (p := ⟨gx, 4, none⟩) HG.out.2 (.slice A7 a7.length c7)
      replace HKZ := Aside0.mk (Kept.setCell HKZ.out (p := ⟨gx, 4, none⟩) (.inl (Nat.le_refl _)) (.slice A7 a7.length c7))
      generalize w11.setCell ⟨gx, 4, none⟩ (.slice A7 a7.length c7) = w12 at hx hA hy HV7 HKZ ⊢
      clear hc hf
      have hx0 : w12.cell? ⟨gx, 0, none⟩ = some (.slice A1 ps.length c1) := (blk_cell hx 0).trans rfl
      have hx1 : w12.cell? ⟨gx, 1, none⟩ = some (.slice A2 is.length c2) := (blk_cell hx 1).trans rfl
      have hx2 : w12.cell? ⟨gx, 2, none⟩ = some (.int .i64 (a5 : Int)) := (blk_cell hx 2).trans rfl
      have hx3 : w12.cell? ⟨gx, 3, none⟩ = some (.int .i64 ((a6 : Int) - 1)) := (blk_cell hx 3).trans rfl
      have hx4 : w12.cell? ⟨gx, 4, none⟩ = some (.slice A7 a7.length c7) := (blk_cell hx 4).trans rfl
      have hy0 : w12.cell? ⟨w.heap.size, 0, none⟩ = some (.slice none 0 0) := (blk_cell hy 0).trans rfl
      have hy1 : w12.cell? ⟨w.heap.size, 1, none⟩ = some (.slice none 0 0) := (blk_cell hy 1).trans rfl
      have hy2 : w12.cell? ⟨w.heap.size, 2, none⟩ = some (.int .i64 0) := (blk_cell hy 2).trans rfl
      have hy3 : w12.cell? ⟨w.heap.size, 3, none⟩ = some (.int .i64 0) := (blk_cell hy 3).trans rfl
      have hy4 : w12.cell? ⟨w.heap.size, 4, none⟩ = some (.slice none 0 0) := (blk_cell hy 4).trans rfl
      have hf0 := blk_frozen hy 0
      have hf1 := blk_frozen hy 1
      have hf2 := blk_frozen hy 2
      have hf3 := blk_frozen hy 3
      have hf4 := blk_frozen hy 4
      replace HY := Aside0.mk hy
      replace HA := Aside0.mk hA
      clear hx hy hA
      go_wp2_with (fail)
      have hR : dBlock bs st = (⟨ps, is, ⟨(a5 : Int), (a6 : Int) - 1, a7⟩⟩, s7) := by
        unfold dBlock dMany
        dsimp only
        rw [E1.out]
        dsimp only
        rw [E2.out]
        dsimp only
        rw [E3.out]
        dsimp only
        rw [E4.out]
        dsimp only
        unfold dTerm
        rw [E5.out]
        dsimp only
        rw [E6.out]
        dsimp only
        rw [E7.out]
      have HRR := Aside0.mk hR
      clear hR hx0 hx1 hx2 hx3 hx4
      have hz := setAll_blk [.slice A1 ps.length c1, .slice A2 is.length c2, .int .i64 (a5 : Int), .int .i64 ((a6 : Int) - 1), .slice A7 a7.length c7] 0 _ _ HY.out rfl
      replace HV7 := Aside0.mk (R_all (g := w.heap.size) (Nat.not_le.mpr HGL.out.2) [.slice A1 ps.length c1, .slice A2 is.length c2, .int .i64 (a5 : Int), .int .i64 ((a6 : Int) - 1), .slice A7 a7.length c7] 0 _ HV7.out)
      replace HKZ := Aside0.mk (Kept_all (g := w.heap.size) HG.out.1 [.slice A1 ps.length c1, .slice A2 is.length c2, .int .i64 (a5 : Int), .int .i64 ((a6 : Int) - 1), .slice A7 a7.length c7] 0 _ HKZ.out)
      replace HA := Aside0.mk (At.all (by decide) (Nat.le_refl _) [.slice A1 ps.length c1, .slice A2 is.length c2, .int .i64 (a5 : Int), .int .i64 ((a6 : Int) - 1), .slice A7 a7.length c7] 0 _ _ HA.out HY.out)
      dsimp only [setAll] at hz HV7 HKZ HA
      generalize ((((w12.setCell ⟨w.heap.size, 0, none⟩ (.slice A1 ps.length c1)).setCell ⟨w.heap.size, 1, none⟩ (.slice A2 is.length c2)).setCell ⟨w.heap.size, 2, none⟩ (.int .i64 (a5 : Int))).setCell ⟨w.heap.size, 3, none⟩ (.int .i64 ((a6 : Int) - 1))).setCell ⟨w.heap.size, 4, none⟩ (.slice A7 a7.length c7) = wz at hz HV7 HKZ HA ⊢
      clear hy0 hy1 hy2 hy3 hy4 hf0 hf1 hf2 hf3 hf4 HY HX
      have hz0 : wz.cell? ⟨w.heap.size, 0, none⟩ = some (.slice A1 ps.length c1) := (blk_cell hz 0).trans rfl
      have hz1 : wz.cell? ⟨w.heap.size, 1, none⟩ = some (.slice A2 is.length c2) := (blk_cell hz 1).trans rfl
      have hz2 : wz.cell? ⟨w.heap.size, 2, none⟩ = some (.int .i64 (a5 : Int)) := (blk_cell hz 2).trans rfl
      have hz3 : wz.cell? ⟨w.heap.size, 3, none⟩ = some (.int .i64 ((a6 : Int) - 1)) := (blk_cell hz 3).trans rfl
      have hz4 : wz.cell? ⟨w.heap.size, 4, none⟩ = some (.slice A7 a7.length c7) := (blk_cell hz 4).trans rfl
      refine bodyPost_ret (v := .agg #[.slice A1 ps.length c1, .slice A2 is.length c2, .int .i64 (a5 : Int), .int .i64 ((a6 : Int) - 1), .slice A7 a7.length c7]) (by simp [results, Tryd.results54, go_sem, hz0, hz1, hz2, hz3, hz4]; try rfl) rfl ?_
      rw [HRR.out]
      exact ⟨_, rfl, k56_mkM _ _ _ (⟨ps, is, ⟨(a5 : Int), (a6 : Int) - 1, a7⟩⟩ : Bk) (R_mono (R_step HV.out (fun k hk hlt => HKZ.out.2 k hlt (Nat.not_le.mpr hk))) (fun k hk => Nat.le_trans HG.out.1 (Nat.le_of_lt hk))) (R_mono (R_step HW.out (fun k hk hlt => HKZ.out.2 k hlt (Nat.not_le.mpr (Nat.lt_of_lt_of_le HS.out.1 hk)))) (fun k hk => Nat.le_trans (Nat.le_of_lt HS.out.2) hk)) (R_mono HV7.out (fun k hk => Nat.le_trans (Nat.le_of_lt HGL.out.2) hk)), HA.out.rdr, HA.out.keep⟩
end Go.Proofs.YtckebppacealeaaDoor.Rk
