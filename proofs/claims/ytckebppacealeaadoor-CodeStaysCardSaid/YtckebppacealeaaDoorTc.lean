/- The reader of code.Decode: signed, list. Conditions: the reader stands; bytes are bytes. -/
import Derived.Test.YtckebppacealeaaDoorTb
namespace Go.Proofs.YtckebppacealeaaDoor.Rk
open Go.RowKit Go.Proofs.YtckebppacealeaaDoorW.PrintWords Go.Proofs.YtckebppacealeaaDoorW.PrintLast Go.Proofs.YtckebppacealeaaDoorW.PrintMore Go.Proofs.YtckebppacealeaaDoorW.PrintWords.Kd Go.Proofs.YtckebppacealeaaDoor.PCodeUnlike Go.Proofs.YtckebppacealeaaDoor.Lp Go.Proofs.YtckebppacealeaaDoor.Lk
attribute [local go_sem] max2_int min2_int max_two min_two max_three min_three max_four min_four
set_option linter.unusedVariables false
set_option linter.unusedSimpArgs false
variable {w w1 : World}
theorem dGo_lt (bs : List Int) (hby : ∀ a ∈ bs, Byte a) (frm : Nat) : ∀ (k i n at_ : Nat), i + k = 10 → n < 128 ^ i → (dGo bs frm k i n at_).1 < 18446744073709551616 := by
  intro k
  induction k with
  | zero => intro i n at_ _ _; show 0 < _; omega
  | succ k ih =>
    intro i n at_ hi hn
    rw [dGo]
    by_cases c1 : bs.length ≤ at_
    · rw [if_pos c1]; show 0 < _; omega
    rw [if_neg c1]
    split
    · show 0 < _; omega
    · rename_i h
      have hb := hby _ (getD_mem bs at_ 0 (by omega))
      generalize bs.getD at_ 0 = x at *
      unfold Byte at hb
      have e1 : x.toNat % 128 ≤ 127 := by omega
      have hp : 128 ^ (i + 1) = 128 * 128 ^ i := by rw [Nat.pow_succ, Nat.mul_comm]
      have h2 := Nat.mul_le_mul_right (128 ^ i) e1
      split
      · show n + x.toNat % 128 * 128 ^ i < _
        by_cases h9 : i = 9
        · subst h9
          have e2 : x.toNat % 128 ≤ 1 := by omega
          have h3 := Nat.mul_le_mul_right (128 ^ 9) e2
          have h4 : (128 : Nat) ^ 9 = 9223372036854775808 := by decide
          omega
        · have h3 : (128 : Nat) ^ (i + 1) ≤ 128 ^ 9 := Nat.pow_le_pow_right (by omega) (by omega)
          have h4 : (128 : Nat) ^ 9 = 9223372036854775808 := by decide
          omega
      · exact ih _ _ _ (by omega) (by omega)
theorem dNum_lt {bs : List Int} (hby : ∀ a ∈ bs, Byte a) (st : St) : (dNum bs st).1 < 18446744073709551616 := by
  unfold dNum
  cases st.err with
  | none => exact dGo_lt bs hby _ _ _ _ _ rfl (by decide)
  | some e => show 0 < _; omega
def zag (n : Nat) : Int := if n % 2 = 0 then ((n / 2 : Nat) : Int) else -((n / 2 : Nat) : Int) - 1
theorem wrap_i (a : Int) : IntKind.i64.wrap a = wrap64 a := i64_w a
theorem and_one (n : Nat) (h : n < 18446744073709551616) : Go.bits .and .u64 (n : Int) 1 = ((n % 2 : Nat) : Int) := by
  unfold Go.bits
  simp only
  have e : (BitVec.ofInt IntKind.u64.bits (n : Int) &&& BitVec.ofInt IntKind.u64.bits 1).toNat = n % 2 := by
    show (BitVec.ofInt 64 (n : Int) &&& BitVec.ofInt 64 1).toNat = n % 2
    rw [BitVec.toNat_and, BitVec.toNat_ofInt, BitVec.toNat_ofInt]
    have e1 : ((n : Int) % ((2 ^ 64 : Nat) : Int)).toNat = n := by omega
    have e2 : ((1 : Int) % ((2 ^ 64 : Nat) : Int)).toNat = 1 := by omega
    rw [e1, e2, Nat.and_one_is_mod]
  rw [e, wrap_u]
  unfold m64
  omega
theorem zag_eq (n : Nat) (h : n < 18446744073709551616) : Go.bits .xor .i64 (wrap64 ((n : Int) / 2)) (wrap64 (-wrap64 (Go.bits .and .u64 (n : Int) 1))) = zag n := by
  rw [and_one n h]
  have h64 : ∀ a : Int, -9223372036854775808 ≤ a → a < 9223372036854775808 → wrap64 a = a := fun a h0 h1 => by unfold wrap64; omega
  rw [h64 ((n : Int) / 2) (by omega) (by omega), h64 ((n % 2 : Nat) : Int) (by omega) (by omega), h64 (-((n % 2 : Nat) : Int)) (by omega) (by omega)]
  unfold zag Go.bits
  simp only
  have e0 : (BitVec.ofInt IntKind.i64.bits ((n : Int) / 2)).toNat = n / 2 := by
    show (BitVec.ofInt 64 ((n : Int) / 2)).toNat = n / 2
    rw [BitVec.toNat_ofInt]
    omega
  by_cases c : n % 2 = 0
  · rw [if_pos c, c]
    have e : (BitVec.ofInt IntKind.i64.bits ((n : Int) / 2) ^^^ BitVec.ofInt IntKind.i64.bits (-((0 : Nat) : Int))).toNat = n / 2 := by
      have : BitVec.ofInt IntKind.i64.bits (-((0 : Nat) : Int)) = 0#64 := rfl
      rw [this]
      show (BitVec.ofInt 64 ((n : Int) / 2) ^^^ 0#64).toNat = n / 2
      rw [BitVec.xor_zero]
      exact e0
    rw [e, wrap_i]
    exact h64 _ (by omega) (by omega)
  · have c1 : n % 2 = 1 := by omega
    rw [if_neg c, c1]
    have e : (BitVec.ofInt IntKind.i64.bits ((n : Int) / 2) ^^^ BitVec.ofInt IntKind.i64.bits (-((1 : Nat) : Int))).toNat = 18446744073709551615 - n / 2 := by
      have : BitVec.ofInt IntKind.i64.bits (-((1 : Nat) : Int)) = BitVec.allOnes 64 := rfl
      rw [this]
      show (BitVec.ofInt 64 ((n : Int) / 2) ^^^ BitVec.allOnes 64).toNat = _
      rw [BitVec.xor_allOnes, BitVec.toNat_not, show (BitVec.ofInt 64 ((n : Int) / 2)).toNat = n / 2 from e0]
    rw [e, wrap_i]
    unfold wrap64
    omega
set_option maxHeartbeats 8000000 in
set_option maxRecDepth 100000 in
theorem rsigned_any {w0 : World} {br : Nat} {A : Option Addr} {c : Nat} {bs : List Int} {st : St} (h : Rdr w0 w br A c bs st) (hC : Kd.C (Kd.int .u8) w0 A bs.length bs) (hby : ∀ a ∈ bs, Byte a) (hl : bs.length ≤ 100000000000) (hp : st.pos ≤ bs.length) :
    Calls Tryd.prog 80 #[.pointer (some ⟨br, 0, none⟩)] w fun e w' => e = .returned (.int .i64 (zag (dNum bs st).1)) ∧ Rdr w0 w' br A c bs (dNum bs st).2 ∧ Keeps br w w' := by
  have HN := Aside0.mk (rnum_any h hC hby hl hp)
  have HLT := Aside0.mk (dNum_lt hby st)
  clear h hC hby hl hp
  generalize dNum bs st = D at HN HLT ⊢
  obtain ⟨n, s⟩ := D
  dsimp only at *
  go_enter Tryd.func80, Tryd.ntmps80
  go_wp2_with (fail)
  refine HN.out.mono ?_
  rintro e w2 ⟨rfl, hR, hK⟩
  have HR := Aside0.mk hR
  have HK := Aside0.mk hK
  clear hR hK
  go_wp2
  go_ret
  exact ⟨congrArg (fun z => Ending.returned (Value.int .i64 z)) (zag_eq n HLT.out), HR.out, HK.out⟩
/-! ### Rows that the reader makes -/
theorem Rdr.grown {α : Type} {d : Kd α} {e : Nat} {w0 W W1 : World} {br base : Nat} {A : Option Addr} {c : Nat} {bs : List Int} {st : St} {ok : Nat → Prop} {v : Value} {xs : List α} (h : Rdr w0 W br A c bs st) (HR : Kd.R d e W base ok v xs) (he : e ≠ 78) (he2 : e ≠ 72) (hg : W.grownBy W1 v.ownBlock) (hl : Below w0.heap.size w0 W1) : Rdr w0 W1 br A c bs st := by
  obtain ⟨h1, h2, ev, h3, h4⟩ := h
  refine ⟨hl, h2, ev, blk_grown h3 hg (Kd.R_ne HR h3 he), ?_⟩
  obtain ⟨pos, err⟩ := st
  dsimp only at h4 ⊢
  match err, h4 with
  | none, h => exact h
  | some (p, c), ⟨g, g1, g2, g3⟩ => exact ⟨g, g1, g2, blk_grown g3 hg (Kd.R_ne HR g3 he2)⟩
theorem R_keeps {α : Type} {d : Kd α} {e base br : Nat} {w w1 : World} {ok : Nat → Prop} {v : Value} {xs : List α} (h : Kd.R d e w base ok v xs) (hk : Keeps br w w1) (hb : ∀ k, ok k → k ≠ br) : Kd.R d e w1 base ok v xs :=
  R_step h (fun k ho hlt => hk.2 k hlt (hb k ho))
theorem M_keeps {α : Type} {d : Kd α} {base br : Nat} {w w1 : World} {ok : Nat → Prop} {x : α} {cs : List Value} (h : d.M w base ok x cs) (hk : Keeps br w w1) (hb : ∀ k, ok k → k ≠ br) : d.M w1 base ok x cs :=
  M_step h (fun k ho hlt => hk.2 k hlt (hb k ho))
/-! ### A list -/
def dRep {α : Type} (f : St → α × St) : Nat → St → List α × St
  | 0, st => ([], st)
  | n + 1, st => match st.err with
    | some _ => ([], st)
    | none => ((f st).1 :: (dRep f n (f st).2).1, (dRep f n (f st).2).2)
theorem dRep_none {α : Type} (f : St → α × St) (n p : Nat) : dRep f (n + 1) ⟨p, none⟩ = ((f ⟨p, none⟩).1 :: (dRep f n (f ⟨p, none⟩).2).1, (dRep f n (f ⟨p, none⟩).2).2) := rfl
theorem dRep_err {α : Type} (f : St → α × St) (n : Nat) (st : St) {e : Nat × Int} (h : st.err = some e) : dRep f n st = ([], st) := by
  cases n with
  | zero => rfl
  | succ n => rw [dRep, h]
theorem dRep_pos {α : Type} {bs : List Int} {f : St → α × St} (hf : ∀ st, st.pos ≤ bs.length → (f st).2.pos ≤ bs.length) : ∀ (n : Nat) (st : St), st.pos ≤ bs.length → (dRep f n st).2.pos ≤ bs.length := by
  intro n
  induction n with
  | zero => intro st h; exact h
  | succ n ih =>
    intro st h
    rw [dRep]
    cases st.err with
    | none => exact ih _ (hf _ h)
    | some e => exact h
/-- Many, as a count ahead tells. -/
def dMany {α : Type} (bs : List Int) (most : Nat) (f : St → α × St) (st : St) : List α × St := dRep f (dCount bs most st).1 (dCount bs most st).2
theorem dMany_pos {α : Type} {bs : List Int} {f : St → α × St} (hf : ∀ st, st.pos ≤ bs.length → (f st).2.pos ≤ bs.length) {most : Nat} {st : St} (h : st.pos ≤ bs.length) : (dMany bs most f st).2.pos ≤ bs.length := dRep_pos hf _ _ (dCount_pos h)
def dI (bs : List Int) (st : St) : Int × St := ((dInt bs st).1, (dInt bs st).2)
def dList (bs : List Int) (st : St) : List Int × St := dMany bs 256 (dI bs) st
theorem dList_pos {bs : List Int} {st : St} (h : st.pos ≤ bs.length) : (dList bs st).2.pos ≤ bs.length := dMany_pos (f := dI bs) (fun _ h => dInt_pos h) h
set_option maxHeartbeats 8000000 in
set_option maxRecDepth 100000 in
theorem rlist_any {w0 : World} {br : Nat} {A : Option Addr} {c : Nat} {bs : List Int} {st : St} (h : Rdr w0 w br A c bs st) (hC : Kd.C (Kd.int .u8) w0 A bs.length bs) (hby : ∀ a ∈ bs, Byte a) (hl : bs.length ≤ 100000000000) (hp : st.pos ≤ bs.length) :
    Calls Tryd.prog 53 #[.pointer (some ⟨br, 0, none⟩)] w fun e w' => ∃ v, e = .returned v ∧ Kd.R (Kd.int .i64) 3 w' w0.heap.size (fun k => w.heap.size ≤ k) v (dList bs st).1 ∧ Rdr w0 w' br A c bs (dList bs st).2 ∧ Keeps br w w' := by
  have HN := Aside0.mk (rcount_any h hC hby hl hp 256)
  have HBR := Aside0.mk (blk_lt h.blk.choose_spec.1)
  have HCB := Aside0.mk hC
  have HBY := Aside0.mk hby
  have HL := Aside0.mk hl
  have HP := Aside0.mk (dCount_pos (most := 256) hp)
  have HM := Aside0.mk (dCount_le bs 256 st)
  clear h hC hby hl hp
  unfold dList dMany
  generalize dCount bs 256 st = D at HN HP HM ⊢
  obtain ⟨n, s⟩ := D
  dsimp only at *
  obtain ⟨R, hR⟩ : ∃ R, R = dRep (dI bs) n s := ⟨_, rfl⟩
  rw [← hR]
  have HRR := Aside0.mk hR
  clear hR
  go_enter Tryd.func53, Tryd.ntmps53
  go_wp2_with (fail)
  refine HN.out.mono ?_
  rintro e w2 ⟨rfl, hR, hK⟩
  have HR := Aside0.mk hR
  have HK := Aside0.mk hK
  clear hR hK HN
  go_wp2_with (fail)
  go_loopw [3, 4] (fun v3 v4 wr => ∃ (m : Nat) (xs : List Int) (s1 : St), xs.length + m ≤ 256 ∧ v4 = .int .i64 m ∧ Aside0 (R = (xs ++ (dRep (dI bs) m s1).1, (dRep (dI bs) m s1).2)) ∧ Aside0 (s1.pos ≤ bs.length) ∧ Aside0 (Kd.R (Kd.int .i64) 3 wr w0.heap.size (fun k => w.heap.size ≤ k) v3 xs) ∧ Aside0 (Rdr w0 wr br A c bs s1) ∧ Aside0 (Keeps br w wr)) (fun v3 v4 _ => (intOf v4).toNat)
  case atStart => exact ⟨n, [], s, by have := HM.out; simpa using this, rfl, ⟨HRR.out⟩, HP, ⟨R_nil _ _ _ _ _⟩, HR, HK⟩
  case round =>
    clear HR HK HP HRR HM
    obtain ⟨m, xs, s1, hm, rfl, HRR, HP, HX, HR, HK⟩ := hrel
    obtain ⟨pos, err⟩ := s1
    obtain ⟨_, _, ev, hb, hev⟩ := HR.out
    dsimp only at hb hev
    have hc2 : wr.cell? ⟨br, 2, none⟩ = some ev := (blk_cell hb 2).trans rfl
    clear hb
    have HLEN := Aside0.mk hm
    by_cases cz : m = 0
    · subst cz
      have HR1 := Aside0.mk HRR.out
      rw [dRep, List.append_nil] at HR1
      clear hev HRR hm
      go_wp2
      go_ret
      rw [HR1.out]
      exact ⟨_, rfl, HX.out, HR.out, HK.out⟩
    obtain ⟨q, hq⟩ : ∃ q, m = q + 1 := ⟨m - 1, by omega⟩
    have d1 : decide (0 < m) = true := decide_eq_true (by omega)
    have d2 : decide ((0 : Int) < (m : Int)) = true := decide_eq_true (by omega)
    have HQ := Aside0.mk hq
    match err, ev, hev with
    | some (p0, c0), _, ⟨g, g1, rfl, g3⟩ =>
      have hr := HRR.out
      rw [dRep_err (dI bs) m _ rfl, List.append_nil] at hr
      have HR1 := Aside0.mk hr
      clear g1 g3 hr HRR hq cz hm
      go_wp2
      go_ret
      rw [HR1.out]
      exact ⟨_, rfl, HX.out, HR.out, HK.out⟩
    | none, _, hev =>
      obtain rfl := hev
      have hr := HRR.out
      rw [hq, dRep_none] at hr
      unfold dI at hr
      change R = (xs ++ (((dInt bs ⟨pos, none⟩).1 : Int) :: (dRep (dI bs) q (dInt bs ⟨pos, none⟩).2).1), (dRep (dI bs) q (dInt bs ⟨pos, none⟩).2).2) at hr
      have HR1 := Aside0.mk hr
      clear hr HRR hq cz hm
      go_wp2_with (fail)
      refine (rint_any HR.out HCB.out HBY.out HL.out HP.out).mono ?_
      rintro e w6 ⟨rfl, hR, hK⟩
      have HX6 := Aside0.mk (R_keeps HX.out hK (fun k hk => Nat.ne_of_gt (Nat.lt_of_lt_of_le HBR.out hk)))
      have HR6 := Aside0.mk hR
      have HK6 := Aside0.mk (HK.out.trans hK)
      have HP6 := Aside0.mk (dInt_pos (bs := bs) (st := ⟨pos, none⟩) HP.out)
      clear hR hK HR HK HX
      generalize dInt bs ⟨pos, none⟩ = D at HR1 HR6 HP6 ⊢
      obtain ⟨x, s6⟩ := D
      dsimp only at HR1 HR6 HP6 ⊢
      go_wp2_with (first | ((with_reducible refine gate_builtin (b := .append) (xs := #[.tmp 18, .tmp 21]) rfl ?_); at_builtin; refine Kd.R_append (Kd.int .i64) (w0 := w0) w0.heap.size rfl (.tmp 18) (.tmp 21) 47 3 (.int .i64 0) 8 rfl Tryd.underlying47 info3 rfl (by decide) (by omega) u3 xs (x : Int) [.int .i64 (x : Int)] (fun k_ => w.heap.size ≤ k_) (fun _ => False) rfl rfl ?aP (fun _ hk => hk.elim) ?aF ?aO ?aB ?aS ?aL ?_; (case aP => exact rfl); (case aB => exact HR6.out.low); (case aF => exact (fun k_ hk => Nat.le_trans HK6.out.1 hk)); (case aO => exact HX6.out); (case aS => exact HR6.out.low.size); (case aL => have := HLEN.out; omega); intro v7 w7 ho hb hg hat; have HR7 := Aside0.mk (Rdr.grown HR6.out HX6.out (by decide) (by decide) hg hb); have HK7 := Aside0.mk (Kept.of_grown (S := fun k_ => k_ = br) hg HK6.out (fun k_ e_ => .inr (HX6.out.1 k_ e_))); have HX7 := Aside0.mk ho; clear ho hb hg hat HX6 HR6 HK6))
      have hw : wrap64 ((m : Int) - 1) = (q : Int) := by have := HLEN.out; have := HQ.out; unfold wrap64; omega
      go_roundw
      case rel =>
        refine ⟨q, xs ++ [(x : Int)], s6, ?_, by simp only [hw], ⟨?_⟩, HP6, HX7, HR7, HK7⟩
        · have := HLEN.out
          have := HQ.out
          simp only [List.length_append, List.length_cons, List.length_nil]
          omega
        · rw [HR1.out]
          simp
      case measure => have := HQ.out; simp only [intOf, hw]; omega
end Go.Proofs.YtckebppacealeaaDoor.Rk
