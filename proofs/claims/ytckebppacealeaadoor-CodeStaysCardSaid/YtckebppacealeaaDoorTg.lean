/- code.Decode: the module of any bytes, or what is amiss. Conditions: bytes are bytes. -/
import Derived.Test.YtckebppacealeaaDoorTf
import Derived.Laws.IdiomStrings
namespace Go.Proofs.YtckebppacealeaaDoor.Rk
open Go.RowKit Go.Proofs.YtckebppacealeaaDoorW.PrintWords Go.Proofs.YtckebppacealeaaDoorW.PrintLast Go.Proofs.YtckebppacealeaaDoorW.PrintMore Go.Proofs.YtckebppacealeaaDoorW.PrintWords.Kd Go.Proofs.YtckebppacealeaaDoor.PCodeUnlike Go.Proofs.YtckebppacealeaaDoor.Lp Go.Proofs.YtckebppacealeaaDoor.Lk
attribute [local go_sem] max2_int min2_int max_two min_two max_three min_three max_four min_four
set_option linter.unusedVariables false
set_option linter.unusedSimpArgs false
variable {w w1 w0 W : World} {br : Nat} {A : Option Addr} {c : Nat} {bs : List Int} {st : St}
theorem infoF : (Tryd.prog.info? 50).map (fun i => (i.zero, i.size, i.bytes)) = some (some (.agg #[.int .i64 0, .int .i64 0, .slice none 0 0, .slice none 0 0]), 4, 64) := by kernel_rfl
def dBody (bs : List Int) : List Lk.Fn × St := dMany bs 32 (dFunc bs) ⟨4, none⟩
def dTail (bs : List Int) (st : St) : St := match st.err with
  | none => if st.pos < bs.length then ⟨st.pos, some (st.pos, 2)⟩ else st
  | some _ => st
def dDone (l : List Lk.Fn) (st : St) : List Lk.Fn × Option (Int × Int) := match st.err with
  | some (p, k) => ([], some ((p : Int), k))
  | none => match modE l with
    | some e => ([], some e)
    | none => (l, none)
/-- What Decode answers. -/
def dMod (bs : List Int) : List Lk.Fn × Option (Int × Int) :=
  if bs.take 4 = [102, 116, 108, 49] then dDone (dBody bs).1 (dTail bs (dBody bs).2) else ([], some (0, 2))
theorem dRep_all {α : Type} {P : α → Prop} (f : St → α × St) (h : ∀ st, P (f st).1) : ∀ (n : Nat) (st : St), ∀ x ∈ (dRep f n st).1, P x := by
  intro n
  induction n with
  | zero => intro st x hx; exact absurd hx List.not_mem_nil
  | succ n ih =>
    intro st x hx
    rw [dRep] at hx
    cases he : st.err with
    | none =>
      rw [he] at hx
      rcases List.mem_cons.1 hx with e | e
      · rw [e]; exact h st
      · exact ih _ x e
    | some e => rw [he] at hx; exact absurd hx List.not_mem_nil
theorem dRep_len {α : Type} (f : St → α × St) : ∀ (n : Nat) (st : St), (dRep f n st).1.length ≤ n := by
  intro n
  induction n with
  | zero => intro st; exact Nat.le_refl _
  | succ n ih =>
    intro st
    rw [dRep]
    cases st.err with
    | none => rw [List.length_cons]; exact Nat.succ_le_succ (ih _)
    | some e => exact Nat.zero_le _
theorem dMany_len {α : Type} (bs : List Int) (most : Nat) (f : St → α × St) (st : St) : (dMany bs most f st).1.length ≤ most := Nat.le_trans (dRep_len f _ _) (dCount_le bs most st)
theorem dMany_all {α : Type} {P : α → Prop} (bs : List Int) (most : Nat) (f : St → α × St) (h : ∀ st, P (f st).1) (st : St) : ∀ x ∈ (dMany bs most f st).1, P x := dRep_all f h _ _
theorem dTerm_sz (bs : List Int) (st : St) : (dTerm bs st).1.f2.length ≤ 256 := by
  unfold dTerm
  dsimp only
  exact dMany_len bs 256 (dI bs) _
theorem dBlock_sz (bs : List Int) (st : St) : (dBlock bs st).1.f0.length ≤ 256 ∧ (dBlock bs st).1.f1.length ≤ 256 ∧ (dBlock bs st).1.f2.f2.length ≤ 256 := by
  unfold dBlock
  dsimp only
  exact ⟨dMany_len bs 256 (dPhi bs) _, dMany_len bs 256 (dInstr bs) _, dTerm_sz bs _⟩
theorem dFunc_bd (bs : List Int) (st : St) : Bd (dFunc bs st).1.f3 := by
  unfold dFunc
  dsimp only
  generalize (dList bs (dInt bs (dInt bs st).2).2).2 = s
  have hl := dMany_len bs 64 (dBlock bs) s
  have hx : ∀ x ∈ (dMany bs 64 (dBlock bs) s).1, x.f0.length ≤ 256 ∧ x.f1.length ≤ 256 ∧ x.f2.f2.length ≤ 256 := dMany_all bs 64 (dBlock bs) (dBlock_sz bs) s
  refine ⟨by omega, fun u hu => ?_, fun u hu => ?_⟩
  · have := (hx _ (getD_mem _ u z56 hu)).2.2
    unfold tos
    omega
  · have := hx _ (getD_mem _ u z56 hu)
    exact ⟨by omega, by omega⟩
/-- A beginning of bytes as a text. -/
theorem conv_arg (hC : Kd.C (Kd.int .u8) w A bs.length bs) (hby : ∀ a ∈ bs, Byte a) (n : Nat) (hn : n ≤ bs.length) : (Go.convert 27 9 (.slice A n c)).run Tryd.prog w = .ok (.string (strOfNums (bs.take n))) w := by
  cases A with
  | none =>
    have h0 : bs = [] := by
      cases bs with
      | nil => rfl
      | cons x xs =>
        obtain ⟨ad, _, he, _⟩ := Kd.C_get hC (0 : Int) 0 (by omega) (by simp)
        cases he
    subst h0
    rw [List.take_nil]
    exact run_convert_bytes_nil w 27 5 Tryd.underlying27 Tryd.underlying5 _ _ 9 Tryd.underlying9
  | some ad =>
    have h := run_convert_bytes_back (P := Tryd.prog) w 27 9 5 ad c ((bs.take n).map fun x => UInt8.ofNat x.toNat) Tryd.underlying27 Tryd.underlying5 Tryd.underlying9 (fun j hj => by
      rw [List.length_map, List.length_take] at hj
      obtain ⟨ad2, cs, he, _, hK, hc⟩ := Kd.C_get hC (0 : Int) (j : Int) (by omega) (by omega)
      cases he
      rw [Int.toNat_natCast] at hK hc
      have hk : cs = [.int .u8 (bs.getD j 0)] := hK
      subst hk
      have := hc 0 _ rfl
      have e2 : j * (Kd.int .u8).sz + 0 = j := by show j * 1 + 0 = j; omega
      rw [e2] at this
      rw [this]
      have hb := hby _ (getD_mem bs j 0 (by omega))
      rw [getD_at bs j 0 (by omega)] at hb ⊢
      unfold Byte at hb
      simp only [List.getElem_map, List.getElem_take, UInt8.toNat_ofNat']
      congr 3
      omega)
    rw [List.length_map, List.length_take, Nat.min_eq_left hn] at h
    rw [h]
    congr 2
theorem magic_text {xs : List Int} (hby : ∀ a ∈ xs, Byte a) : (strOfNums xs).toList = [102, 116, 108, 49] ↔ xs = [102, 116, 108, 49] := by
  have e : (strOfNums [102, 116, 108, 49]).toList = [102, 116, 108, 49] := by rw [ByteArray.toList_eq]; rfl
  have hm : ∀ a ∈ ([102, 116, 108, 49] : List Int), Byte a := fun a ha => by
    simp only [List.mem_cons, List.not_mem_nil, or_false] at ha
    unfold Byte
    omega
  refine ⟨fun h => (str_inj hby hm).mp ?_, fun h => by rw [h]; exact e⟩
  have h2 := h.trans e.symm
  rw [ByteArray.toList_eq, ByteArray.toList_eq] at h2
  apply ByteArray.ext
  exact Array.toList_inj.mp h2
theorem spot_ne {g k : Nat} {a b : Array Value} (h1 : w.heap[g]? = some (.cells a 72 (0, 0))) (h2 : w.heap[k]? = some (.cells b 24 (0, 0))) : g ≠ k := fun e => by
  rw [e] at h1
  exact absurd (Obj.cells.inj (Option.some.inj (h1.symm.trans h2))).2.1 (by decide)
set_option maxHeartbeats 8000000 in
set_option maxRecDepth 100000 in
theorem decode_any (bs : List Int) (A : Option Addr) (c : Nat) (hC : Kd.C (Kd.int .u8) w A bs.length bs) (hcc : bs.length ≤ c) (hby : ∀ a ∈ bs, Byte a) (hl : bs.length ≤ 100000000000) :
    Calls Tryd.prog 15 #[.slice A bs.length c] w fun e w' => (∃ v ev, e = .returned (.tuple #[.agg #[v], ev]) ∧ IsErr w' w.heap.size (dMod bs).2 ev ∧ Kd.R k50 50 w' w.heap.size (fun _ => True) v (dMod bs).1) ∧ Below w.heap.size w w' := by
  have HCB := Aside0.mk hC
  have HBY := Aside0.mk hby
  have HL := Aside0.mk hl
  have HCC := Aside0.mk hcc
  unfold dMod
  clear hC hby hl
  by_cases c4 : bs.length < 4
  · rw [if_neg (fun e => by have := congrArg List.length e; rw [List.length_take] at this; simp at this; omega)]
    have d4 : decide ((bs.length : Int) < 4) = true := decide_eq_true (by omega)
    have d5 : decide (bs.length < 4) = true := decide_eq_true c4
    clear c4
    go_enter Tryd.func15, Tryd.ntmps15
    go_wp2
    go_returns
    refine ⟨⟨_, _, rfl, .inr ⟨by omega, w.heap.size + 1, by omega, rfl, ?_⟩, R_nil _ _ _ _ _⟩, below_alloc (below_alloc (Below.refl _ _) _) _⟩
    have := blk_new (w.alloc (.cells #[.slice none 0 0] 24)) (.cells #[.int .i64 0, .iface 46 (.int .i64 2)] 72)
    rwa [show (w.alloc (.cells #[.slice none 0 0] 24)).heap.size = w.heap.size + 1 by simp] at this
  have d4 : decide ((bs.length : Int) < 4) = false := decide_eq_false (by omega)
  have d5 : decide (bs.length < 4) = false := decide_eq_false c4
  have d6 : ((4 : Int) ≤ (bs.length : Int)) = True := eq_true (by omega)
  have d7 : ((4 : Int) ≤ (c : Int)) = True := eq_true (by omega)
  have hcv := conv_arg (c := c) (Kd.C_below HCB.out (below_alloc (Below.refl w.heap.size w) (.cells #[.slice none 0 0] 24))) HBY.out 4 (by omega)
  have H4 := Aside0.mk (show 4 ≤ bs.length by omega)
  have hmt := magic_text (xs := bs.take 4) (fun a ha => HBY.out a (List.mem_of_mem_take ha))
  generalize strOfNums (bs.take 4) = s at hcv hmt
  by_cases cm : bs.take 4 = [102, 116, 108, 49]
  · rw [if_pos cm]
    have hs : (s.toList == [102, 116, 108, 49]) = true := beq_iff_eq.mpr (hmt.mpr cm)
    clear cm hmt c4
    go_enter Tryd.func15, Tryd.ntmps15
    go_upto_region 5 with (fail)
    have hy := blk_new w (.cells #[.slice none 0 0] 24)
    have hb := below_alloc (Below.refl w.heap.size w) (.cells #[.slice none 0 0] 24)
    have hs1 : (w.alloc (.cells #[.slice none 0 0] 24)).heap.size = w.heap.size + 1 := by simp
    generalize w.alloc (.cells #[.slice none 0 0] 24) = w1 at hy hb hs1 ⊢
    have hr := blk_new w1 (.cells #[.slice A bs.length c, .int .i64 4, .nilIface] 78)
    replace hy := blk_alloc hy (.cells #[.slice A bs.length c, .int .i64 4, .nilIface] 78)
    replace hb := below_alloc hb (.cells #[.slice A bs.length c, .int .i64 4, .nilIface] 78)
    have hs2 : (w1.alloc (.cells #[.slice A bs.length c, .int .i64 4, .nilIface] 78)).heap.size = w.heap.size + 1 + 1 := by simp [hs1]
    rw [hs1] at hr
    generalize w1.alloc (.cells #[.slice A bs.length c, .int .i64 4, .nilIface] 78) = w2 at hy hb hr hs2 ⊢
    have hA : At w w2 w2 (w.heap.size + 1) A c bs ⟨4, none⟩ := At.of ⟨hb, by omega, .nilIface, hr, rfl⟩
    have hx := blk_new w2 (.cells #[.slice none 0 0] 24)
    replace hy := blk_alloc hy (.cells #[.slice none 0 0] 24)
    replace hA := hA.alloc (.cells #[.slice none 0 0] 24)
    rw [hs2] at hx
    generalize w2.alloc (.cells #[.slice none 0 0] 24) = w3 at hy hA hx ⊢
    have HG := Aside0.mk (show w2.heap.size ≤ w.heap.size + 1 + 1 ∧ w.heap.size ≠ w.heap.size + 1 + 1 from ⟨by omega, by omega⟩)
    have HG2 := Aside0.mk (show w.heap.size + 1 < w.heap.size + 1 + 1 ∧ w.heap.size < w.heap.size + 1 ∧ w.heap.size < w.heap.size + 1 + 1 from ⟨by omega, by omega, by omega⟩)
    have HG0 := Aside0.mk (show w.heap.size < w2.heap.size by omega)
    clear hr hb hs1
    generalize w.heap.size + 1 + 1 = gx at hx HG HG2 hs2 ⊢
    generalize w.heap.size + 1 = br at hA HG2 ⊢
    clear hs2
    have HP := Aside0.mk (show (⟨4, none⟩ : St).pos ≤ bs.length from H4.out)
    go_wp2_with (fail)
    refine (rcount_any hA.rdr HCB.out HBY.out HL.out HP.out 32).mono ?_
    rintro e w5 ⟨rfl, hR, hK⟩
    have HY := Aside0.mk (hK.blk hy (Nat.ne_of_lt HG2.out.2.1))
    have HX := Aside0.mk (hA.blk (st' := ⟨4, none⟩) hK hx HG.out.1)
    have HA := Aside0.mk (hA.call hR hK)
    have hm := dCount_le bs 32 ⟨4, none⟩
    replace HP := Aside0.mk (dCount_pos (bs := bs) (most := 32) (st := ⟨4, none⟩) HP.out)
    clear hA hR hK hx hy
    generalize e1 : dCount bs 32 ⟨4, none⟩ = D1 at hm HP HA ⊢
    obtain ⟨n1, s1⟩ := D1
    have E1 := Aside0.mk e1
    clear e1
    dsimp only at hm HP HA ⊢
    have HS := Aside0.mk (show gx < w5.heap.size ∧ w2.heap.size < w5.heap.size from ⟨blk_lt HX.out, Nat.lt_of_le_of_lt HG.out.1 (blk_lt HX.out)⟩)
    have HB := Aside0.mk (Nat.lt_of_lt_of_le HA.out.lt HA.out.keep.1)
    go_upto_block 0 with (fail)
    go_cut [] (fun wx => ∃ (xs : List Lk.Fn) (s2 : St) (A2 : Option Addr) (c2 : Nat), Aside0 (dRep (dFunc bs) n1 s1 = (xs, s2)) ∧ Aside0 (s2.pos ≤ bs.length) ∧ Aside0 (Kd.R k50 50 wx w.heap.size (fun k => w5.heap.size ≤ k) (.slice A2 xs.length c2) xs) ∧ Aside0 (Kept w5 wx (fun k => k = br ∨ k = gx)) ∧ Aside0 (wx.heap[gx]? = some (.cells #[.slice A2 xs.length c2] 24 (0, 0))) ∧ Aside0 (At w w2 wx br A c bs s2))
    case first =>
      go_wp2_with (fail)
      go_loopw [6] (fun vn wr => ∃ (m : Nat) (xs : List Lk.Fn) (s2 : St) (A2 : Option Addr) (c2 : Nat), xs.length + m ≤ 32 ∧ vn = .int .i64 m ∧ Aside0 (dRep (dFunc bs) n1 s1 = (xs ++ (dRep (dFunc bs) m s2).1, (dRep (dFunc bs) m s2).2)) ∧ Aside0 (s2.pos ≤ bs.length) ∧ Aside0 (Kd.R k50 50 wr w.heap.size (fun k => w5.heap.size ≤ k) (.slice A2 xs.length c2) xs) ∧ Aside0 (Kept w5 wr (fun k => k = br ∨ k = gx)) ∧ Aside0 (wr.heap[gx]? = some (.cells #[.slice A2 xs.length c2] 24 (0, 0))) ∧ Aside0 (At w w2 wr br A c bs s2)) (fun vn _ => (intOf vn).toNat)
      case atStart => exact ⟨n1, [], s1, none, 0, by simpa using hm, rfl, ⟨rfl⟩, HP, ⟨R_nil _ _ _ _ _⟩, ⟨Kept.refl _ _⟩, HX, HA⟩
      case round =>
        clear HA HP HX hm
        obtain ⟨m, xs, s2, A2, c2, hm, rfl, HD, HP, HW, HK, HX, HA⟩ := hrel
        obtain ⟨pos, err⟩ := s2
        obtain ⟨_, _, ev, hb, hev⟩ := HA.out.rdr
        dsimp only at hb hev
        have hc2 : wr.cell? ⟨br, 2, none⟩ = some ev := (blk_cell hb 2).trans rfl
        clear hb
        have HLEN := Aside0.mk hm
        by_cases cz : m = 0
        · subst cz
          have HR1 := Aside0.mk HD.out
          rw [dRep, List.append_nil] at HR1
          clear hev HD hm
          go_wp2
          go_meet
          case rel => exact ⟨_, _, _, _, HR1, HP, HW, HK, HX, HA⟩
        obtain ⟨q, hq⟩ : ∃ q, m = q + 1 := ⟨m - 1, by omega⟩
        have d1 : decide (0 < m) = true := decide_eq_true (by omega)
        have d2 : decide ((0 : Int) < (m : Int)) = true := decide_eq_true (by omega)
        have HQ := Aside0.mk hq
        match err, ev, hev with
        | some (p0, c0), _, ⟨g, g1, rfl, g3⟩ =>
          have hr := HD.out
          rw [dRep_err (dFunc bs) m _ rfl, List.append_nil] at hr
          have HR1 := Aside0.mk hr
          clear g1 g3 hr HD hq cz hm
          go_wp2
          go_meet
          case rel => exact ⟨_, _, _, _, HR1, HP, HW, HK, HX, HA⟩
        | none, _, hev =>
          obtain rfl := hev
          have hr := HD.out
          rw [hq, dRep_none] at hr
          have HR1 := Aside0.mk hr
          clear hr HD hq cz hm
          go_upto_region 8 with (fail)
          have HA1 := Aside0.mk (HA.out.below (below_drew1 (Below.refl wr.heap.size wr)))
          have HSR := Aside0.mk (show w5.heap.size ≤ wr.heap.size ∧ gx < wr.heap.size from ⟨HK.out.1, blk_lt HX.out⟩)
          have HOW := Aside0.mk (Kd.R_lt HW.out)
          have hxr : wr.cell? ⟨gx, 0, none⟩ = some (.slice A2 xs.length c2) := (blk_cell HX.out 0).trans rfl
          have HPP := Aside0.mk (dFunc_pos (bs := bs) (st := ⟨pos, none⟩) HP.out)
          generalize e6 : dFunc bs ⟨pos, none⟩ = D6 at HR1 HPP
          obtain ⟨x, sb⟩ := D6
          dsimp only at HR1 HPP
          have E6 := Aside0.mk e6
          clear e6 hc2
          go_region_law (first
            | (go_simp; go_at_call 31; refine (rfunc_any HA1.out.rdr HCB.out HBY.out HL.out HP.out).mono ?_; rintro e wb ⟨cs6, rfl, hM, hR, hK⟩; rw [E6.out] at hM hR; obtain ⟨q2, q3, rfl, i2, i3⟩ := k50_openM hM; obtain ⟨B2, b2, rfl⟩ := Kd.R_slice i2; obtain ⟨B3, b3, rfl⟩ := Kd.R_slice i3; have hI := And.intro i2 i3; clear i2 i3; have HX6 := Aside0.mk (HA1.out.blk (st' := sb) hK (blk_drew HX.out) HG.out.1); have HA6 := Aside0.mk (HA1.out.call hR hK); have HI := Aside0.mk hI; have HW6 := Aside0.mk (R_keeps (Kd.R_below HW.out (below_drew1 (Below.refl wr.heap.size wr))) hK (fun k hk => by have := HB.out; omega)); have HK6 := Aside0.mk (Kept.then_ (Kept.drew HK.out) hK (fun k hk => .inl (.inl hk))); have hx6 : wb.cell? ⟨gx, 0, none⟩ = some (.slice A2 xs.length c2) := (blk_cell HX6.out 0).trans rfl; have hx6b := pw_cell_below (below_alloc (Below.refl wb.heap.size wb) (.cells #[.int .i64 x.f0, .int .i64 x.f1, .slice B2 x.f2.length b2, .slice B3 x.f3.length b3] 50)) hx6; clear hM hR hK hI)
            | (refine Kd.R_append_step k50 (w0 := w) (W := wb) w.heap.size ?aW (.tmp 39) (.tmp 42) 22 50 (.agg #[.int .i64 0, .int .i64 0, .slice none 0 0, .slice none 0 0]) 64 ?aV Tryd.underlying22 infoF rfl (by decide) (by omega) (.slice A2 xs.length c2) xs x [.int .i64 x.f0, .int .i64 x.f1, .slice B2 x.f2.length b2, .slice B3 x.f3.length b3] (fun k_ => w5.heap.size ≤ k_) (fun k_ => wr.heap.size ≤ k_) ?aX ?aY ?aP ?aK ?aF ?aO ?aB ?aS ?aL ?_; (case aW => first | rfl | simp [Region.wanted]); (case aV => rfl); (case aX => rfl); (case aY => first | rfl | (simp; done)); (case aP => exact k50_mkM _ _ _ x HI.out.1 HI.out.2); (case aK => exact (fun k_ hk_ => ⟨Nat.le_trans HSR.out.1 hk_, fun e_ => Nat.lt_irrefl _ (Nat.lt_of_lt_of_le (HOW.out k_ e_.symm) hk_)⟩)); (case aF => exact (fun k_ hk_ => Nat.le_trans HK6.out.1 hk_)); (case aO => exact HW6.out); (case aB => exact HA6.out.rdr.low); (case aS => exact HA6.out.rdr.low.size); (case aL => have := HLEN.out; omega); intro v9 w9z ho hb hg hat; obtain ⟨xs9, hxs⟩ : ∃ l, l = xs ++ [x] := ⟨_, rfl⟩; rw [← hxs] at ho; have HXS := Aside0.mk hxs; clear hxs; obtain ⟨A9, c9, rfl⟩ := Kd.R_slice ho; have HA9 := Aside0.mk (At.grown (e := 50) HA6.out HW6.out (fun k_ hk_ => Nat.le_trans (Nat.le_of_lt HS.out.2) hk_) (Nat.ne_of_beq_eq_false rfl) (Nat.ne_of_beq_eq_false rfl) hg hb); have HX9 := Aside0.mk (blk_grown HX6.out hg (R_own_ne HW6.out (Nat.not_le.mpr HS.out.1))); have HK9 := Aside0.mk (Kept.of_grown (S := fun k_ => k_ = br ∨ k_ = gx) hg HK6.out (fun k_ e_ => .inr (HW6.out.1 k_ e_))); have HW9 := Aside0.mk ho; have hx9 : w9z.cell? ⟨gx, 0, none⟩ = some (.slice A2 xs.length c2) := (blk_cell HX9.out 0).trans rfl; have hf9 := blk_frozen HX9.out 0; clear ho hb hg hat))
          all_goals
            go_wp2_with (fail)
            have HA := Aside0.mk (HA9.out.set (i := 0) (v := .slice A9 xs9.length c9) HX9.out (by decide) HG.out.1)
            have HX := Aside0.mk (blk_put HX9.out 0 (.slice A9 xs9.length c9) (cs' := #[.slice A9 xs9.length c9]) rfl)
            have HK := Aside0.mk (Kept.setCell HK9.out (p := ⟨gx, 0, none⟩) (.inl (.inr rfl)) (.slice A9 xs9.length c9))
            have HW := Aside0.mk (R_far (g := gx) (i := 0) (u := .slice A9 xs9.length c9) HW9.out (Nat.not_le.mpr HS.out.1))
            have hw : wrap64 ((m : Int) - 1) = (q : Int) := by have := HLEN.out; have := HQ.out; unfold wrap64; omega
            clear HA9 HX9 HK9 HW9
            go_roundw
            case rel =>
              refine ⟨q, _, sb, A9, c9, ?_, by simp only [hw], ⟨?_⟩, HPP, HW, HK, HX, HA⟩
              · have := HLEN.out
                have := HQ.out
                rw [HXS.out]
                simp only [List.length_append, List.length_cons, List.length_nil]
                omega
              · rw [HR1.out, HXS.out]
                simp
            case measure => have := HQ.out; simp only [intOf, hw]; omega
    case rest =>
      clear HA HP HX hm
      obtain ⟨fs, s2, A2, c2, E2, HP, HW, HK, HX, HA⟩ := hcut
      replace HY := Aside0.mk ((HK.out.2 _ (blk_lt HY.out) (fun e => by have := HG2.out.2.1; have := HG.out.2; rcases e with e | e <;> omega)).trans HY.out)
      have HBD := Aside0.mk (show ∀ j, j < fs.length → Bd (fs.getD j z50).f3 from fun j hj => by
        have hall := dRep_all (P := fun f : Lk.Fn => Bd f.f3) (dFunc bs) (dFunc_bd bs) n1 s1
        rw [E2.out] at hall
        exact hall _ (getD_mem fs j z50 hj))
      have HE := Aside0.mk (show dBody bs = (fs, s2) by
        unfold dBody dMany
        rw [E1.out]
        dsimp only
        rw [E2.out])
      clear HK E1 E2
      obtain ⟨pos, err⟩ := s2
      obtain ⟨_, _, ev, hb, hev⟩ := HA.out.rdr
      dsimp only at hb hev
      have hc2 : wc.cell? ⟨br, 2, none⟩ = some ev := (blk_cell hb 2).trans rfl
      have hc1 : wc.cell? ⟨br, 1, none⟩ = some (.int .i64 (pos : Int)) := (blk_cell hb 1).trans rfl
      have hcx : wc.cell? ⟨gx, 0, none⟩ = some (.slice A2 fs.length c2) := (blk_cell HX.out 0).trans rfl
      have hcy : wc.cell? ⟨w.heap.size, 0, none⟩ = some (.slice none 0 0) := (blk_cell HY.out 0).trans rfl
      have hfy := blk_frozen HY.out 0
      clear hb
      match err, ev, hev with
      | some (p0, k0), _, ⟨g, g1, rfl, g3⟩ =>
        have HR := Aside0.mk (show dDone (dBody bs).1 (dTail bs (dBody bs).2) = ([], some ((p0 : Int), k0)) by rw [HE.out]; rfl)
        have H3 := Aside0.mk (And.intro g1 g3)
        clear g1 g3
        go_wp2_with (fail)
        go_region
        all_goals
          go_wp2_with (fail)
          have hz := blk_put HY.out 0 (.slice none 0 0) (cs' := #[.slice none 0 0]) rfl
          have hl := below_set (g := w.heap.size) (j := 0) (v := .slice none 0 0) HA.out.rdr.low (Nat.le_refl _)
          have h3 := blk_far (p := ⟨w.heap.size, 0, none⟩) H3.out.2 (fun e => spot_ne H3.out.2 HY.out e) (.slice none 0 0)
          generalize wc.setCell ⟨w.heap.size, 0, none⟩ (.slice none 0 0) = wz at hz hl h3 ⊢
          have hz0 : wz.drew.cell? ⟨w.heap.size, 0, none⟩ = some (.slice none 0 0) := (blk_cell hz 0).trans rfl
          refine bodyPost_ret (v := .tuple #[.agg #[.slice none 0 0], .iface 67 (.pointer (some ⟨g, 0, none⟩))]) (by simp [results, Tryd.results15, go_sem, hz0]; try rfl) rfl ?_
          rw [HR.out]
          exact ⟨⟨_, _, rfl, .inr ⟨Int.natCast_nonneg _, g, H3.out.1, rfl, blk_drew h3⟩, R_nil _ _ _ _ _⟩, below_drew hl⟩
      | none, _, hev =>
        obtain rfl := hev
        by_cases cp : pos < bs.length
        · have HR := Aside0.mk (show dDone (dBody bs).1 (dTail bs (dBody bs).2) = ([], some ((pos : Int), 2)) by
            rw [HE.out]
            unfold dTail
            dsimp only
            rw [if_pos cp]
            rfl)
          have d8 : decide ((pos : Int) < (bs.length : Int)) = true := decide_eq_true (by omega)
          have d9 : decide (pos < bs.length) = true := decide_eq_true cp
          clear cp
          go_wp2_with (fail)
          refine (fail_any HA.out.rdr pos 2).mono ?_
          rintro e w7 ⟨rfl, hR, hK⟩
          replace HA := Aside0.mk (HA.out.call hR hK)
          replace HY := Aside0.mk (hK.blk HY.out (Nat.ne_of_lt HG2.out.2.1))
          clear hR hK hc1 hc2 hcx hcy hfy HX HW
          obtain ⟨_, _, ev, hb, hev⟩ := HA.out.rdr
          obtain ⟨g, g1, rfl, g3⟩ : ErrAt w7 w.heap.size (some (pos, 2)) ev := hev
          have hc2 : w7.cell? ⟨br, 2, none⟩ = some (.iface 67 (.pointer (some ⟨g, 0, none⟩))) := (blk_cell hb 2).trans rfl
          have hcy : w7.cell? ⟨w.heap.size, 0, none⟩ = some (.slice none 0 0) := (blk_cell HY.out 0).trans rfl
          have hfy := blk_frozen HY.out 0
          have H3 := Aside0.mk (And.intro g1 g3)
          clear hb g1 g3
          go_wp2_with (fail)
          go_region
          all_goals
            go_wp2_with (fail)
            have hz := blk_put HY.out 0 (.slice none 0 0) (cs' := #[.slice none 0 0]) rfl
            have hl := below_set (g := w.heap.size) (j := 0) (v := .slice none 0 0) HA.out.rdr.low (Nat.le_refl _)
            have h3 := blk_far (p := ⟨w.heap.size, 0, none⟩) H3.out.2 (fun e => spot_ne H3.out.2 HY.out e) (.slice none 0 0)
            generalize w7.setCell ⟨w.heap.size, 0, none⟩ (.slice none 0 0) = wz at hz hl h3 ⊢
            have hz0 : wz.drew.cell? ⟨w.heap.size, 0, none⟩ = some (.slice none 0 0) := (blk_cell hz 0).trans rfl
            refine bodyPost_ret (v := .tuple #[.agg #[.slice none 0 0], .iface 67 (.pointer (some ⟨g, 0, none⟩))]) (by simp [results, Tryd.results15, go_sem, hz0]; try rfl) rfl ?_
            rw [HR.out]
            exact ⟨⟨_, _, rfl, .inr ⟨Int.natCast_nonneg _, g, H3.out.1, rfl, blk_drew h3⟩, R_nil _ _ _ _ _⟩, below_drew hl⟩
        · have hD : dTail bs ⟨pos, none⟩ = ⟨pos, none⟩ := by
            unfold dTail
            dsimp only
            rw [if_neg cp]
          have d8 : decide ((pos : Int) < (bs.length : Int)) = false := decide_eq_false (by omega)
          have d9 : decide (pos < bs.length) = false := decide_eq_false cp
          have HR := Aside0.mk (show dDone (dBody bs).1 (dTail bs (dBody bs).2) = match modE fs with | some e => ([], some e) | none => (fs, none) by
            rw [HE.out]
            dsimp only
            rw [hD]
            rfl)
          clear cp hD
          go_wp2_with (fail)
          have hr := Kd.R_reads' HW.out
          refine (module_any (w := wc) fs A2 c2 hr.2.2 hr.2.1 HBD.out).mono ?_
          rintro e w7 ⟨⟨ve, rfl, hv⟩, hb⟩
          have HB7 := Aside0.mk (below_step HA.out.rdr.low hb)
          have HWC := Aside0.mk HA.out.rdr.low.size
          replace HW := Aside0.mk (Kd.R_below HW.out hb)
          replace HX := Aside0.mk (blk_below HX.out hb)
          replace HY := Aside0.mk (blk_below HY.out hb)
          clear hb hc1 hc2 hcx hcy hfy HA HP hr
          have hcx : w7.cell? ⟨gx, 0, none⟩ = some (.slice A2 fs.length c2) := (blk_cell HX.out 0).trans rfl
          have hcy : w7.cell? ⟨w.heap.size, 0, none⟩ = some (.slice none 0 0) := (blk_cell HY.out 0).trans rfl
          have hfy := blk_frozen HY.out 0
          cases hme : modE fs with
          | some ac =>
            obtain ⟨a, k⟩ := ac
            rw [hme] at hv HR
            clear hme
            rcases hv with ⟨rfl, rfl⟩ | ⟨h0, g, h1, rfl, h2⟩
            · go_wp2_with (fail)
              have hz := blk_put HY.out 0 (.slice none 0 0) (cs' := #[.slice none 0 0]) rfl
              have hl := below_set (g := w.heap.size) (j := 0) (v := .slice none 0 0) HB7.out (Nat.le_refl _)
              generalize w7.setCell ⟨w.heap.size, 0, none⟩ (.slice none 0 0) = wz at hz hl ⊢
              have hz0 : wz.cell? ⟨w.heap.size, 0, none⟩ = some (.slice none 0 0) := (blk_cell hz 0).trans rfl
              refine bodyPost_ret (v := .tuple #[.agg #[.slice none 0 0], .iface 46 (.int .i64 k)]) (by simp [results, Tryd.results15, go_sem, hz0]; try rfl) rfl ?_
              rw [HR.out]
              exact ⟨⟨_, _, rfl, .inl ⟨rfl, rfl⟩, R_nil _ _ _ _ _⟩, hl⟩
            · have H3 := Aside0.mk (And.intro h0 (And.intro h1 h2))
              clear h0 h1 h2
              go_wp2_with (fail)
              have hz := blk_put HY.out 0 (.slice none 0 0) (cs' := #[.slice none 0 0]) rfl
              have hl := below_set (g := w.heap.size) (j := 0) (v := .slice none 0 0) HB7.out (Nat.le_refl _)
              have h3 := blk_far (p := ⟨w.heap.size, 0, none⟩) H3.out.2.2 (fun e => spot_ne H3.out.2.2 HY.out e) (.slice none 0 0)
              generalize w7.setCell ⟨w.heap.size, 0, none⟩ (.slice none 0 0) = wz at hz hl h3 ⊢
              have hz0 : wz.cell? ⟨w.heap.size, 0, none⟩ = some (.slice none 0 0) := (blk_cell hz 0).trans rfl
              refine bodyPost_ret (v := .tuple #[.agg #[.slice none 0 0], .iface 67 (.pointer (some ⟨g, 0, none⟩))]) (by simp [results, Tryd.results15, go_sem, hz0]; try rfl) rfl ?_
              rw [HR.out]
              exact ⟨⟨_, _, rfl, .inr ⟨H3.out.1, g, Nat.le_trans HWC.out H3.out.2.1, rfl, h3⟩, R_nil _ _ _ _ _⟩, hl⟩
          | none =>
            rw [hme] at hv HR
            obtain rfl : ve = .nilIface := hv
            clear hme
            go_wp2_with (fail)
            have hw2 := Nat.le_of_lt HG0.out
            have hz := blk_put HY.out 0 (.slice A2 fs.length c2) (cs' := #[.slice A2 fs.length c2]) rfl
            have hl := below_set (g := w.heap.size) (j := 0) (v := .slice A2 fs.length c2) HB7.out (Nat.le_refl _)
            have h3 := R_far (g := w.heap.size) (i := 0) (u := .slice A2 fs.length c2) HW.out (Nat.not_le.mpr (Nat.lt_of_le_of_lt hw2 HS.out.2))
            generalize w7.setCell ⟨w.heap.size, 0, none⟩ (.slice A2 fs.length c2) = wz at hz hl h3 ⊢
            have hz0 : wz.cell? ⟨w.heap.size, 0, none⟩ = some (.slice A2 fs.length c2) := (blk_cell hz 0).trans rfl
            refine bodyPost_ret (v := .tuple #[.agg #[.slice A2 fs.length c2], .nilIface]) (by simp [results, Tryd.results15, go_sem, hz0]; try rfl) rfl ?_
            rw [HR.out]
            exact ⟨⟨_, _, rfl, rfl, R_mono h3 (fun _ _ => trivial)⟩, hl⟩
  · rw [if_neg cm]
    have hs : (s.toList == [102, 116, 108, 49]) = false := beq_eq_false_iff_ne.mpr (fun e => cm (hmt.mp e))
    clear cm hmt c4
    go_enter Tryd.func15, Tryd.ntmps15
    go_wp2
    go_returns
    refine ⟨⟨_, _, rfl, .inr ⟨by omega, w.heap.size + 1, by omega, rfl, ?_⟩, R_nil _ _ _ _ _⟩, below_alloc (below_alloc (Below.refl _ _) _) _⟩
    have := blk_new (w.alloc (.cells #[.slice none 0 0] 24)) (.cells #[.int .i64 0, .iface 46 (.int .i64 2)] 72)
    rwa [show (w.alloc (.cells #[.slice none 0 0] 24)).heap.size = w.heap.size + 1 by simp] at this
end Go.Proofs.YtckebppacealeaaDoor.Rk
