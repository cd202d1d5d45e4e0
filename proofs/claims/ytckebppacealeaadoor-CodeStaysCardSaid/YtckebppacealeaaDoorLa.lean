/- slices.ContainsFunc over whole numbers answers whether the predicate holds of any of them. Conditions: the predicate answers at each of them and leaves all that lay. -/
import Derived.Test.YtckebppacealeaaDoorLp
import Derived.Shelf.GgClosure.Gives
namespace Go.Proofs.YtckebppacealeaaDoor.Lk
open Go.RowKit Go.Proofs.YtckebppacealeaaDoorW.PrintWords Go.Proofs.YtckebppacealeaaDoorW.PrintLast Go.Proofs.YtckebppacealeaaDoorW.PrintMore Go.Proofs.YtckebppacealeaaDoorW.PrintWords.Kd Go.Proofs.YtckebppacealeaaDoor.PCodeUnlike
attribute [local go_sem] max2_int min2_int max_two min_two max_three min_three max_four min_four
set_option linter.unusedVariables false
set_option linter.unusedSimpArgs false
/-- What is asked of a closure g with what it captures: at each of xs, in each world in which all that lay in w lies. -/
def Pred (g : Nat) (lb : Array Value) (xs : List Int) (p : Int → Bool) (w : World) : Prop :=
  ∀ x, x ∈ xs → ∀ W : World, Below w.heap.size w W → Calls Tryd.prog g (#[.int .i64 x] ++ lb) W fun e w' => e = .returned (.bool (p x)) ∧ Below W.heap.size W w'
theorem Pred.tail {g : Nat} {lb : Array Value} {xs : List Int} {p : Int → Bool} {w W : World} (h : Pred g lb xs p w) (hb : Below w.heap.size w W) : Pred g lb xs p W := fun x hx W' hb' => h x hx W' (hb.trans (hb'.mono hb.size))
def idx (xs : List Int) (p : Int → Bool) : Int := if xs.any p then (xs.findIdx p : Nat) else -1
theorem rd_mem {xs : List Int} {k : Nat} (h : k < xs.length) : rd xs (k : Int) ∈ xs := by
  unfold rd
  rw [Int.toNat_natCast, List.getD_eq_getElem?_getD, List.getElem?_eq_getElem h]
  exact List.getElem_mem h
set_option maxHeartbeats 4000000 in
theorem indexF_any (g : Nat) (lb : Array Value) (eg : ∀ args w, (callFunc g args).run Tryd.prog w = .ok (.enter g args) w) (xs : List Int) (A : Option Addr) (c : Nat) (p : Int → Bool) (w : World) (hr : Kd.C (Kd.int .i64) w A xs.length xs)
    (hp : Pred g lb xs p w) :
    Calls Tryd.prog 81 #[.slice A xs.length c, .func (.func g) #[] lb] w fun e w' => (∃ r : Int, e = .returned (.int .i64 r) ∧ (0 ≤ r ↔ xs.any p = true)) ∧ Below w.heap.size w w' := by
  have hl := hr.2.1
  have HR := Aside0.mk hr
  have HP := Aside0.mk hp
  have HB := Aside0.mk (Below.refl w.heap.size w)
  clear hr hp
  go_enter Tryd.func81, Tryd.ntmps81
  go_wp2
  go_loopg [5, 8] xs.length (fun gg _ s8 wr => ∃ k : Nat, k ≤ xs.length ∧ xs.length - k ≤ gg ∧ s8 = .int .i64 k ∧ Aside0 (∀ j : Nat, j < k → p (rd xs j) = false) ∧ Aside0 (Below w.heap.size w wr))
  case atStart => exact ⟨0, Nat.zero_le _, by omega, rfl, ⟨fun j hj => absurd hj (Nat.not_lt_zero _)⟩, HB⟩
  case round =>
    clear HB
    obtain ⟨k, hk, hg, rfl, HA, HB⟩ := hrel
    by_cases hlt : k < xs.length
    · have c0 : decide ((k : Int) < (xs.length : Int)) = true := decide_eq_true (by omega)
      have p0 : 0 ≤ (k : Int) := by omega
      have q0 : (k : Int) < (xs.length : Int) := by omega
      obtain ⟨ad, e1, hx⟩ := Kd.at_int HR.out k p0 q0
      cases e1
      replace hx := (HB.out.cell (World.block_lt_of_cell? w _ hx)).trans hx
      rw [Int.toNat_natCast] at hx
      generalize hy : rd xs (k : Int) = y at hx
      have HY := Aside0.mk hy
      clear hy
      have p1 := eq_true p0
      have q1 := eq_true q0
      have HQ := Aside0.mk (show y ∈ xs from HY.out ▸ rd_mem hlt)
      have hcall := HP.out y HQ.out _ HB.out
      cases hq : p y with
      | true =>
        rw [hq] at hcall
        have HQ2 := Aside0.mk hq
        clear hq
        go_wp2_with (go_at_fn g; refine hcall.mono ?_; rintro e w' ⟨rfl, hb⟩; have HB2 := Aside0.mk hb; clear hb)
        go_ret
        exact ⟨⟨k, rfl, ⟨fun _ => List.any_eq_true.mpr ⟨_, HQ.out, HQ2.out⟩, fun _ => Int.natCast_nonneg _⟩⟩, below_step HB.out HB2.out⟩
      | false =>
        rw [hq] at hcall
        have HQ2 := Aside0.mk hq
        clear hq
        go_wp2_with (go_at_fn g; refine hcall.mono ?_; rintro e w' ⟨rfl, hb⟩; have HB2 := Aside0.mk hb; clear hb)
        go_roundg (xs.length - (k + 1))
        case measure => omega
        case rel =>
          refine ⟨k + 1, by omega, by omega, by go_num, ⟨fun j hj => ?_⟩, ⟨below_step HB.out HB2.out⟩⟩
          by_cases e : j = k
          · subst e
            rw [HY.out]
            exact HQ2.out
          · exact HA.out j (by omega)
    · have c0 : decide ((k : Int) < (xs.length : Int)) = false := decide_eq_false (by omega)
      obtain rfl : k = xs.length := by omega
      go_wp2
      go_ret
      refine ⟨⟨-1, rfl, ⟨fun h => by omega, fun h => ?_⟩⟩, HB.out⟩
      obtain ⟨x, hx, hpx⟩ := List.any_eq_true.mp h
      obtain ⟨j, hj, rfl⟩ := List.mem_iff_getElem.mp hx
      have := HA.out j hj
      rw [rd, Int.toNat_natCast, List.getD_eq_getElem?_getD, List.getElem?_eq_getElem hj] at this
      exact absurd (hpx.symm.trans this) (by simp)
set_option maxHeartbeats 4000000 in
theorem containsF_any (g : Nat) (lb : Array Value) (eg : ∀ args w, (callFunc g args).run Tryd.prog w = .ok (.enter g args) w) (xs : List Int) (A : Option Addr) (c : Nat) (p : Int → Bool) (w : World) (hr : Kd.C (Kd.int .i64) w A xs.length xs)
    (hp : Pred g lb xs p w) :
    Calls Tryd.prog 75 #[.slice A xs.length c, .func (.func g) #[] lb] w fun e w' => e = .returned (.bool (xs.any p)) ∧ Below w.heap.size w w' := by
  have hcon := indexF_any g lb eg xs A c p w hr hp
  clear hr hp
  go_enter Tryd.func75, Tryd.ntmps75
  go_wp2_with (go_at_call 81; refine hcon.mono ?_; rintro e w' ⟨⟨r, rfl, hr⟩, hb⟩; have HB := Aside0.mk hb; have HR := Aside0.mk hr; clear hb hr)
  have hd : decide (r ≥ 0) = xs.any p := by
    have := HR.out
    cases h : xs.any p
    · rw [h] at this
      exact decide_eq_false (fun h2 => by simpa using this.mp h2)
    · rw [h] at this
      exact decide_eq_true (this.mpr rfl)
  rw [hd]
  go_ret
  exact ⟨rfl, HB.out⟩
end Go.Proofs.YtckebppacealeaaDoor.Lk
