/- The reader of code.Decode: int, signed, count. Conditions: the reader stands; bytes are bytes. -/
import Derived.Test.YtckebppacealeaaDoorTa
namespace Go.Proofs.YtckebppacealeaaDoor.Rk
open Go.RowKit Go.Proofs.YtckebppacealeaaDoorW.PrintWords Go.Proofs.YtckebppacealeaaDoorW.PrintLast Go.Proofs.YtckebppacealeaaDoorW.PrintMore Go.Proofs.YtckebppacealeaaDoorW.PrintWords.Kd Go.Proofs.YtckebppacealeaaDoor.PCodeUnlike Go.Proofs.YtckebppacealeaaDoor.Lp Go.Proofs.YtckebppacealeaaDoor.Lk
attribute [local go_sem] max2_int min2_int max_two min_two max_three min_three max_four min_four
set_option linter.unusedVariables false
set_option linter.unusedSimpArgs false
variable {w w1 : World}
theorem dGo_pos (bs : List Int) (frm : Nat) : ∀ (k i n at_ : Nat), at_ ≤ bs.length → (dGo bs frm k i n at_).2.pos ≤ bs.length := by
  intro k
  induction k with
  | zero => intro i n at_ h; exact h
  | succ k ih =>
    intro i n at_ h
    rw [dGo]
    by_cases c1 : bs.length ≤ at_
    · rw [if_pos c1]; exact h
    rw [if_neg c1]
    split
    · show at_ + 1 ≤ _; omega
    · split
      · show at_ + 1 ≤ _; omega
      · exact ih _ _ _ (by omega)
theorem dNum_pos {bs : List Int} {st : St} (h : st.pos ≤ bs.length) : (dNum bs st).2.pos ≤ bs.length := by
  unfold dNum
  cases st.err with
  | none => exact dGo_pos bs _ _ _ _ _ h
  | some e => exact h
theorem dFail_pos (st : St) (p : Nat) (c : Int) : (dFail st p c).pos = st.pos := by
  unfold dFail
  split <;> rfl
def dInt (bs : List Int) (st : St) : Nat × St := if 2147483648 < (dNum bs st).1 then (0, dFail (dNum bs st).2 st.pos 2) else dNum bs st
theorem dInt_pos {bs : List Int} {st : St} (h : st.pos ≤ bs.length) : (dInt bs st).2.pos ≤ bs.length := by
  unfold dInt
  split
  · show (dFail _ _ _).pos ≤ _
    rw [dFail_pos]
    exact dNum_pos h
  · exact dNum_pos h
theorem dInt_le (bs : List Int) (st : St) : (dInt bs st).1 ≤ 2147483648 := by
  unfold dInt
  split
  · show 0 ≤ _; omega
  · omega
set_option maxHeartbeats 8000000 in
set_option maxRecDepth 100000 in
theorem rint_any {w0 : World} {br : Nat} {A : Option Addr} {c : Nat} {bs : List Int} {st : St} (h : Rdr w0 w br A c bs st) (hC : Kd.C (Kd.int .u8) w0 A bs.length bs) (hby : ∀ a ∈ bs, Byte a) (hl : bs.length ≤ 100000000000) (hp : st.pos ≤ bs.length) :
    Calls Tryd.prog 52 #[.pointer (some ⟨br, 0, none⟩)] w fun e w' => e = .returned (.int .i64 ((dInt bs st).1 : Int)) ∧ Rdr w0 w' br A c bs (dInt bs st).2 ∧ Keeps br w w' := by
  have HN := Aside0.mk (rnum_any h hC hby hl hp)
  obtain ⟨pos, err⟩ := st
  obtain ⟨_, _, ev, h3, _⟩ := h
  have hc1 : w.cell? ⟨br, 1, none⟩ = some (.int .i64 (pos : Int)) := (blk_cell h3 1).trans rfl
  clear h3 hC hby hl hp
  unfold dInt
  generalize dNum bs ⟨pos, err⟩ = D at HN ⊢
  obtain ⟨n, s⟩ := D
  dsimp only at *
  obtain ⟨R, hR⟩ : ∃ R, R = (if 2147483648 < n then (0, dFail s pos 2) else (n, s)) := ⟨_, rfl⟩
  rw [← hR]
  have HRR := Aside0.mk hR
  clear hR
  go_enter Tryd.func52, Tryd.ntmps52
  go_wp2_with (fail)
  refine HN.out.mono ?_
  rintro e w2 ⟨rfl, hR, hK⟩
  have HR := Aside0.mk hR
  have HK := Aside0.mk hK
  clear hR hK hc1
  by_cases c1 : 2147483648 < n
  · have HR1 := Aside0.mk (HRR.out.trans (if_pos c1))
    have d1 : decide (2147483648 < n) = true := decide_eq_true c1
    have d2 : decide ((2147483648 : Int) < (n : Int)) = true := decide_eq_true (by omega)
    clear c1
    go_wp2_with (fail)
    refine (fail_any HR.out pos 2).mono ?_
    rintro e w3 ⟨rfl, hR, hK⟩
    have HR3 := Aside0.mk hR
    have HK3 := Aside0.mk (HK.out.trans hK)
    clear hR hK
    go_wp2
    go_ret
    rw [HR1.out]
    exact ⟨rfl, HR3.out, HK3.out⟩
  · have HR1 := Aside0.mk (HRR.out.trans (if_neg c1))
    have d1 : decide (2147483648 < n) = false := decide_eq_false c1
    have d2 : decide ((2147483648 : Int) < (n : Int)) = false := decide_eq_false (by omega)
    go_wp2
    go_ret
    rw [HR1.out]
    exact ⟨rfl, HR.out, HK.out⟩
def dCount (bs : List Int) (most : Nat) (st : St) : Nat × St := if most < (dInt bs st).1 then (0, dFail (dInt bs st).2 st.pos 5) else dInt bs st
theorem dCount_pos {bs : List Int} {most : Nat} {st : St} (h : st.pos ≤ bs.length) : (dCount bs most st).2.pos ≤ bs.length := by
  unfold dCount
  split
  · show (dFail _ _ _).pos ≤ _
    rw [dFail_pos]
    exact dInt_pos h
  · exact dInt_pos h
theorem dCount_le (bs : List Int) (most : Nat) (st : St) : (dCount bs most st).1 ≤ most := by
  unfold dCount
  split
  · show 0 ≤ _; omega
  · omega
set_option maxHeartbeats 8000000 in
set_option maxRecDepth 100000 in
theorem rcount_any {w0 : World} {br : Nat} {A : Option Addr} {c : Nat} {bs : List Int} {st : St} (h : Rdr w0 w br A c bs st) (hC : Kd.C (Kd.int .u8) w0 A bs.length bs) (hby : ∀ a ∈ bs, Byte a) (hl : bs.length ≤ 100000000000) (hp : st.pos ≤ bs.length) (most : Nat) :
    Calls Tryd.prog 30 #[.pointer (some ⟨br, 0, none⟩), .int .i64 (most : Int)] w fun e w' => e = .returned (.int .i64 ((dCount bs most st).1 : Int)) ∧ Rdr w0 w' br A c bs (dCount bs most st).2 ∧ Keeps br w w' := by
  have HN := Aside0.mk (rint_any h hC hby hl hp)
  obtain ⟨pos, err⟩ := st
  obtain ⟨_, _, ev, h3, _⟩ := h
  have hc1 : w.cell? ⟨br, 1, none⟩ = some (.int .i64 (pos : Int)) := (blk_cell h3 1).trans rfl
  clear h3 hC hby hl hp
  unfold dCount
  generalize dInt bs ⟨pos, err⟩ = D at HN ⊢
  obtain ⟨n, s⟩ := D
  dsimp only at *
  obtain ⟨R, hR⟩ : ∃ R, R = (if most < n then (0, dFail s pos 5) else (n, s)) := ⟨_, rfl⟩
  rw [← hR]
  have HRR := Aside0.mk hR
  clear hR
  go_enter Tryd.func30, Tryd.ntmps30
  go_wp2_with (fail)
  refine HN.out.mono ?_
  rintro e w2 ⟨rfl, hR, hK⟩
  have HR := Aside0.mk hR
  have HK := Aside0.mk hK
  clear hR hK hc1
  by_cases c1 : most < n
  · have HR1 := Aside0.mk (HRR.out.trans (if_pos c1))
    have d1 : decide (most < n) = true := decide_eq_true c1
    clear c1
    go_wp2_with (fail)
    refine (fail_any HR.out pos 5).mono ?_
    rintro e w3 ⟨rfl, hR, hK⟩
    have HR3 := Aside0.mk hR
    have HK3 := Aside0.mk (HK.out.trans hK)
    clear hR hK
    go_wp2
    go_ret
    rw [HR1.out]
    exact ⟨rfl, HR3.out, HK3.out⟩
  · have HR1 := Aside0.mk (HRR.out.trans (if_neg c1))
    have d1 : decide (most < n) = false := decide_eq_false c1
    go_wp2
    go_ret
    rw [HR1.out]
    exact ⟨rfl, HR.out, HK.out⟩
end Go.Proofs.YtckebppacealeaaDoor.Rk
