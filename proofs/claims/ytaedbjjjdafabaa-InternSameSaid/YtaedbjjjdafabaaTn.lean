/- Plain facts on what a table says behind some puts: its values, their handles, no two alike. Conditions: a table of 1 to 16 drawers, at most 100000 values. -/
import Derived.Test.YtaedbjjjdafabaaTm
namespace Go.Proofs.Ytaedbjjjdafabaa.Tb
open Go.RowKit Go.Proofs.YtaedbjjjdafabaaW.PrintWords Go.Proofs.YtaedbjjjdafabaaW.PrintLast Go.Proofs.YtaedbjjjdafabaaW.PrintMore Go.Proofs.YtaedbjjjdafabaaW.PrintWords.Kd Go.Maps Go.Proofs.Ytaedbjjjdafabaa.PInternFull
attribute [local go_sem] max2_int min2_int max_two min_two max_three min_three max_four min_four
set_option linter.unusedVariables false
set_option linter.unusedSimpArgs false
variable {w w1 : World} {b g gt : Nat} {A : Option Addr} {n c bm m : Nat} {X : List (List (Int × Int))} {D : DataW Unit}
abbrev V2 := Int × Int
def mayB (v : V2) : Bool := v.1 == 1 || (v.1 == 2 && (v.2 == 0 || v.2 == 1))
theorem may_eq (x y : Int) : intern_may.f x y = some (mayB (x, y)) := by
  unfold intern_may.f mayB
  by_cases h : x = 1
  · simp [h]
  · by_cases h2 : x = 2
    · by_cases h3 : y = 0 <;> simp [h2, h3]
    · simp [h, h2]
def wfV (v : V2) : Prop := (Lit.int .i64 v.1).wf = true ∧ (Lit.int .i64 v.2).wf = true
theorem flat_set : ∀ (X : List (List V2)) (d : Nat) (v : V2), d < X.length → (X.set d (X.getD d [] ++ [v])).flatten.Perm (v :: X.flatten)
  | [], d, v, h => by simp at h
  | l :: X, 0, v, h => by
    simp only [List.set_cons_zero, List.getD_cons_zero, List.flatten_cons, List.append_assoc]
    exact List.perm_middle
  | l :: X, d + 1, v, h => by
    simp only [List.set_cons_succ, List.getD_cons_succ, List.flatten_cons]
    exact ((flat_set X d v (by simpa using h)).append_left l).trans List.perm_middle
/-- What a table's drawers and its map say, behind some puts. -/
structure Good (n : Nat) (X : List (List V2)) (D : DataW Unit) : Prop where
  len : X.length = n
  nod : X.flatten.Nodup
  mem : ∀ v, v ∈ X.flatten → wfV v ∧ mayB v = true
  has : ∀ v, wfV v → (Maps.has D (KL v.1 v.2) = true ↔ v ∈ X.flatten)
  hnd : ∀ d j v, (X.getD d [])[j]? = some v → ∀ z, D.atKey (KL v.1 v.2) z = .lit (.int .i64 ((j * n + d : Nat) : Int))
  siz : Maps.size D = X.flatten.length
theorem getD_nil (X : List (List V2)) (d j : Nat) (v : V2) (h : (X.getD d [])[j]? = some v) : d < X.length := by
  rcases Nat.lt_or_ge d X.length with hd | hd
  · exact hd
  · rw [List.getD_eq_getElem?_getD, List.getElem?_eq_none hd] at h
    simp at h
theorem mem_at (X : List (List V2)) (d j : Nat) (v : V2) (h : (X.getD d [])[j]? = some v) : v ∈ X.flatten := by
  have hd := getD_nil X d j v h
  rw [List.getD_eq_getElem?_getD, List.getElem?_eq_getElem hd] at h
  exact List.mem_flatten.2 ⟨X[d], List.getElem_mem hd, List.mem_of_getElem? h⟩
theorem at_mem (X : List (List V2)) (v : V2) (h : v ∈ X.flatten) : ∃ d j, (X.getD d [])[j]? = some v ∧ d < X.length ∧ j < X.flatten.length := by
  obtain ⟨l, hl, hv⟩ := List.mem_flatten.1 h
  obtain ⟨d, hd, rfl⟩ := List.mem_iff_getElem.1 hl
  obtain ⟨j, hj, rfl⟩ := List.mem_iff_getElem.1 hv
  refine ⟨d, j, by rw [List.getD_eq_getElem?_getD, List.getElem?_eq_getElem hd]; exact List.getElem?_eq_getElem hj, hd, ?_⟩
  have : X[d].length ≤ X.flatten.length := (List.sublist_flatten_of_mem hl).length_le
  omega
theorem row_le (X : List (List V2)) (d : Nat) : (X.getD d []).length ≤ X.flatten.length := by
  rcases Nat.lt_or_ge d X.length with hd | hd
  · rw [List.getD_eq_getElem?_getD, List.getElem?_eq_getElem hd]
    exact (List.sublist_flatten_of_mem (List.getElem_mem hd)).length_le
  · rw [List.getD_eq_getElem?_getD, List.getElem?_eq_none hd]
    simp
theorem good_zero (n : Nat) : Good n (List.replicate n []) (.map []) := by
  have e : (List.replicate n ([] : List V2)).flatten = [] := by simp
  refine ⟨by simp, by rw [e]; exact List.nodup_nil, fun v hv => by rw [e] at hv; simp at hv, fun v _ => by rw [e]; simp [Maps.has], fun d j v h => ?_, by rw [e]; rfl⟩
  exact absurd (mem_at _ _ _ _ h) (by rw [e]; simp)
theorem hnd_eq (X : List (List V2)) (x y : Int) {n : Nat} (h1 : 1 ≤ n) (h2 : n ≤ 16) (hl : X.flatten.length ≤ 100000) : hnd X x y n = (((X.getD (drw x y n).toNat []).length * n + (drw x y n).toNat : Nat) : Int) := by
  obtain ⟨b0, b1⟩ := drw_bd x y h1 h2
  have hr := row_le X (drw x y n).toNat
  have hm : (X.getD (drw x y n).toNat []).length * n ≤ 100000 * 16 := Nat.mul_le_mul (by omega) h2
  unfold hnd
  rw [show ((X.getD (drw x y n).toNat []).length : Int) * (n : Int) = (((X.getD (drw x y n).toNat []).length * n : Nat) : Int) from (Int.natCast_mul _ _).symm]
  generalize (X.getD (drw x y n).toNat []).length * n = q at *
  unfold wrap64
  omega
theorem good_put (h : Good n X D) (ht : Tidy D) (x y : Int) (h1 : 1 ≤ n) (h2 : n ≤ 16) (hl : X.flatten.length ≤ 100000) (hw : wfV (x, y)) (hm : mayB (x, y) = true) (hno : Maps.has D (KL x y) = false) :
    Good n (put X x y n) (D.put (KL x y) (.lit (.int .i64 (hnd X x y n)))) ∧ (put X x y n).flatten.Perm ((x, y) :: X.flatten) := by
  obtain ⟨b0, b1⟩ := drw_bd x y h1 h2
  have hd : (drw x y n).toNat < X.length := by rw [h.len]; omega
  have hp : (put X x y n).flatten.Perm ((x, y) :: X.flatten) := flat_set X _ _ hd
  have hnm : (x, y) ∉ X.flatten := fun e => by have := (h.has _ hw).2 e; rw [this] at hno; cases hno
  have ne : ∀ v : V2, wfV v → v ≠ (x, y) → KL v.1 v.2 ≠ KL x y := fun v hv hne => KL_ne hv.1 hv.2 hw.1 hw.2 (by
    rcases v with ⟨a, b⟩
    simp only [ne_eq, Prod.mk.injEq] at hne ⊢
    omega)
  refine ⟨⟨by unfold put; rw [List.length_set]; exact h.len, hp.nodup_iff.2 (List.nodup_cons.2 ⟨hnm, h.nod⟩), fun v hv => ?_, fun v hv => ?_, fun d j v hv z => ?_, ?_⟩, hp⟩
  · rcases List.mem_cons.1 (hp.mem_iff.1 hv) with rfl | hv
    · exact ⟨hw, hm⟩
    · exact h.mem v hv
  · rw [hp.mem_iff, List.mem_cons]
    by_cases e : v = (x, y)
    · subst e
      exact ⟨fun _ => .inl rfl, fun _ => has_put_same ht.isMap (key_lit _ _) _⟩
    · rw [has_put_other (ne v hv e), h.has v hv]
      exact ⟨.inr, fun o => o.resolve_left e⟩
  · have hvm := hp.mem_iff.1 (mem_at _ _ _ _ hv)
    unfold put at hv
    rw [List.getD_eq_getElem?_getD, List.getElem?_set] at hv
    by_cases e : (drw x y n).toNat = d
    · rw [if_pos e, if_pos hd] at hv
      simp only [Option.getD_some] at hv
      rcases Nat.lt_or_ge j (X.getD (drw x y n).toNat []).length with hj | hj
      · rw [List.getElem?_append_left hj] at hv
        have hv2 := mem_at _ _ _ _ hv
        have hne : v ≠ (x, y) := fun e => hnm (e ▸ hv2)
        rw [atKey_put_other (ne v (h.mem v hv2).1 hne), ← e]
        exact h.hnd _ _ _ hv z
      · rw [List.getElem?_append_right hj] at hv
        have hj2 : j - (X.getD (drw x y n).toNat []).length = 0 := by
          have := (List.getElem?_eq_some_iff.1 hv).1
          simp at this
          exact this
        rw [hj2] at hv
        obtain rfl : (x, y) = v := by simpa using hv
        rw [atKey_put_same ht.isMap (key_lit _ _), hnd_eq X x y h1 h2 hl, ← e, show j = (X.getD (drw x y n).toNat []).length by omega]
    · rw [if_neg e] at hv
      rw [← List.getD_eq_getElem?_getD] at hv
      have hv2 := mem_at _ _ _ _ hv
      have hne : v ≠ (x, y) := fun e => hnm (e ▸ hv2)
      rw [atKey_put_other (ne v (h.mem v hv2).1 hne)]
      exact h.hnd _ _ _ hv z
  · rw [size_put ht, hno, h.siz, hp.length_eq]
    simp
/-- Two values of a table with one handle are one. -/
theorem good_inj (h : Good n X D) {u v : V2} (hu : u ∈ X.flatten) (hv : v ∈ X.flatten) (e : ∀ z, D.atKey (KL u.1 u.2) z = D.atKey (KL v.1 v.2) z) : u = v := by
  obtain ⟨d, j, hd, hdl, _⟩ := at_mem X u hu
  obtain ⟨d2, j2, hd2, hdl2, _⟩ := at_mem X v hv
  have e2 := e .nil
  rw [h.hnd _ _ _ hd, h.hnd _ _ _ hd2] at e2
  simp only [DataW.lit.injEq, Lit.int.injEq, true_and] at e2
  have e3 : j * n + d = j2 * n + d2 := by omega
  rw [h.len] at hdl hdl2
  have q := congrArg (· % n) e3
  have p := congrArg (· / n) e3
  simp only [Nat.mul_add_mod_self_right, Nat.mul_comm j n, Nat.mul_comm j2 n, Nat.mul_add_mod, Nat.mod_eq_of_lt hdl, Nat.mod_eq_of_lt hdl2] at q
  have hn : 0 < n := by omega
  simp only [Nat.mul_comm j n, Nat.mul_comm j2 n, Nat.mul_add_div hn, Nat.div_eq_of_lt hdl, Nat.div_eq_of_lt hdl2, Nat.add_zero] at p
  subst q
  subst p
  rw [hd] at hd2
  exact Option.some.inj hd2
end Go.Proofs.Ytaedbjjjdafabaa.Tb
