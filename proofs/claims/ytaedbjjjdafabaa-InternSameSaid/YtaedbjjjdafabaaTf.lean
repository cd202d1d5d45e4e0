/- The head of the laws of chapter 10 returns true. Conditions: none. -/
import Derived.Test.YtaedbjjjdafabaaTd
import Derived.Test.YtaedbjjjdafabaaTe
import Derived.Lib.IfaceEq
import Derived.Lib.IfaceNeq
namespace Go.Proofs.Ytaedbjjjdafabaa.Tb
open Go.RowKit Go.Proofs.YtaedbjjjdafabaaW.PrintWords Go.Proofs.YtaedbjjjdafabaaW.PrintLast Go.Proofs.YtaedbjjjdafabaaW.PrintMore Go.Proofs.YtaedbjjjdafabaaW.PrintWords.Kd Go.Maps Go.Proofs.Ytaedbjjjdafabaa.PInternFull
attribute [local go_sem] max2_int min2_int max_two min_two max_three min_three max_four min_four
set_option linter.unusedVariables false
set_option linter.unusedSimpArgs false
variable {w w1 : World} {b gt : Nat} {A : Option Addr} {n c bm m : Nat} {X : List (List (Int × Int))} {D : DataW Unit}
theorem i64_wf {a : Int} (h : -9223372036854775808 ≤ a) (h2 : a < 9223372036854775808) : (Lit.int .i64 a).wf = true := WalkArith.wf_i64 (by omega)
theorem key_lit (x y : Int) : WideAt.IsKeyLit (KL x y) := trivial
theorem KL_ne {a b c d : Int} (ha : (Lit.int .i64 a).wf = true) (hb : (Lit.int .i64 b).wf = true) (hc : (Lit.int .i64 c).wf = true) (hd : (Lit.int .i64 d).wf = true) (h : a ≠ c ∨ b ≠ d) : KL a b ≠ KL c d := fun e => by
  have := KL_inj ha hb hc hd e
  rcases h with h | h
  · exact h this.1
  · exact h this.2
theorem put_same (D : DataW Unit) (k : Lit) (hk : WideAt.IsKeyLit k) (hD : IsMap D) (d z : DataW Unit) : (D.put k d).atKey k z = d := atKey_put_same hD hk d z
theorem up_h0 : hnd (List.replicate (2 : Int).toNat []) 1 4 (2 : Int).toNat = 1 := by kernel_rfl
theorem up_h1 : hnd (put (List.replicate (2 : Int).toNat []) 1 4 (2 : Int).toNat) 1 7 (2 : Int).toNat = 0 := by kernel_rfl
theorem up_l0 : ((List.replicate (2 : Int).toNat ([] : List (Int × Int))).getD (drw 1 4 (2 : Int).toNat).toNat []).length < 8796093022207 := of_decide_eq_true (by kernel_rfl)
theorem up_l1 : ((put (List.replicate (2 : Int).toNat []) 1 4 (2 : Int).toNat).getD (drw 1 7 (2 : Int).toNat).toNat []).length < 8796093022207 := of_decide_eq_true (by kernel_rfl)
theorem wf1 : (Lit.int .i64 1).wf = true := by decide
theorem wf4 : (Lit.int .i64 4).wf = true := by decide
theorem wf7 : (Lit.int .i64 7).wf = true := by decide
theorem up_e0 : KL 1 7 ≠ KL 1 4 := KL_ne wf1 wf7 wf1 wf4 (.inr (by decide))
theorem up_e1 : Maps.has ((DataW.map [] : DataW Unit).put (KL 1 4) (.lit (.int .i64 1))) (KL 1 7) = false := by rw [has_put_other up_e0]; rfl
theorem up_e2 : Maps.size ((DataW.map [] : DataW Unit).put (KL 1 4) (.lit (.int .i64 1))) < 4096 := by rw [size_put tidy_empty]; decide
theorem up_e3 : Maps.has (((DataW.map [] : DataW Unit).put (KL 1 4) (.lit (.int .i64 1))).put (KL 1 7) (.lit (.int .i64 0))) (KL 1 4) = true := by
  rw [has_put_other (Ne.symm up_e0), has_put_same isMap_empty (key_lit _ _)]
theorem up_e4 (z : DataW Unit) : (((DataW.map [] : DataW Unit).put (KL 1 4) (.lit (.int .i64 1))).put (KL 1 7) (.lit (.int .i64 0))).atKey (KL 1 4) z = .lit (.int .i64 1) := by
  rw [atKey_put_other (Ne.symm up_e0), atKey_put_same isMap_empty (key_lit _ _)]
set_option maxHeartbeats 4000000 in
set_option maxRecDepth 100000 in
theorem up_any (w : World) : Calls Try.prog 7 #[] w fun e w' => e = .returned (.bool true) ∧ Below w.heap.size w w' := by
  have HB := Aside0.mk (Below.refl w.heap.size w)
  go_enter Try.func7, Try.ntmps7
  go_wp2_with (go_at_call 9; refine (new_any 2 (by omega) (by omega) _).mono ?_; rintro e w1 ⟨⟨gt, A, c, bm, rfl, hT⟩, hB⟩; have HT := Aside0.mk hT; have HB1 := Aside0.mk hB; clear hT hB)
  refine (put_new HT.out HB1.out.size 1 4 rfl wf1 wf4 rfl (by decide) (by decide) (by decide) (by decide) up_l0).mono ?_
  rintro e w2 ⟨rfl, hB, hT⟩
  rw [up_h0] at hT ⊢
  have HT2 := Aside0.mk hT
  have HB2 := Aside0.mk (HB1.out.trans hB)
  clear hT hB
  go_wp2_with (fail)
  refine (put_new HT2.out HB2.out.size 1 7 rfl wf1 wf7 up_e1 up_e2 (by decide) (by decide) (by decide) up_l1).mono ?_
  rintro e w3 ⟨rfl, hB, hT⟩
  rw [up_h1] at hT ⊢
  have HT3 := Aside0.mk hT
  have HB3 := Aside0.mk (HB2.out.trans hB)
  clear hT hB
  go_wp2_with (fail)
  refine (find_any HT3.out 1 4 wf1 wf4).mono ?_
  rintro e w4 ⟨⟨r, hr, rfl⟩, hd⟩
  obtain rfl : r = 1 := by rw [up_e4] at hr; simpa using hr.symm
  rw [up_e3]
  have HB4 := Aside0.mk (below_step HB3.out hd.below)
  clear hr hd
  go_wp2
  go_ret
  exact ⟨rfl, HB4.out⟩
end Go.Proofs.Ytaedbjjjdafabaa.Tb
