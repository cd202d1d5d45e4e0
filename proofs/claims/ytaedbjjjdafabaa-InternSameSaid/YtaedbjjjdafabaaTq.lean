/- The law InternStays returns true for any number and any values. Conditions: the numbers are of their kind. -/
import Derived.Test.YtaedbjjjdafabaaTp
import Derived.StillTailTactics
namespace Go.Proofs.Ytaedbjjjdafabaa.Tb
open Go.RowKit Go.Proofs.YtaedbjjjdafabaaW.PrintWords Go.Proofs.YtaedbjjjdafabaaW.PrintLast Go.Proofs.YtaedbjjjdafabaaW.PrintMore Go.Proofs.YtaedbjjjdafabaaW.PrintWords.Kd Go.Maps Go.Proofs.Ytaedbjjjdafabaa.PInternFull
attribute [local go_sem] max2_int min2_int max_two min_two max_three min_three max_four min_four
set_option linter.unusedVariables false
set_option linter.unusedSimpArgs false
variable {w w1 : World} {b g gt : Nat} {A : Option Addr} {n c bm m : Nat} {X : List (List (Int × Int))} {D : DataW Unit}
/-- A number that is of its kind. -/
def wint (k : IntKind) : Kd Int where
  sz := 1
  E := []
  K := fun _ x cs => cs = [.int k x] ∧ (Lit.int k x).wf = true
  M := fun _ _ _ x cs => cs = [.int k x] ∧ (Lit.int k x).wf = true
  K_len := fun h => by rw [h.1]; rfl
  K_one := fun h u hu => by
    rw [h.1] at hu
    rw [List.mem_singleton.1 hu]
    rfl
  K_below := fun _ h => h
  K_of_M := fun h => h
  M_mono := fun _ h => h
  M_bound := fun h => h
  M_move := fun _ h => h
  M_lower := fun _ h => h
def kVi : Kd V2 := Kd.pair (wint .i64) (wint .i64)
theorem add_next (ad : Addr) (k : Nat) : ad.add (k + 1) = ⟨(ad.add k).block, (ad.add k).off + 1, none⟩ := by
  unfold Addr.add
  split <;> split <;> simp_all <;> omega
/-- The i-th value of what came in. -/
theorem puts_at {l : List V2} (h : kVi.C w A n l) (i : Nat) (hi : i < n) : ∃ ad, A = some ad ∧ w.cell? (ad.add (i * 2)) = some (.int .i64 (l.getD i (0, 0)).1) ∧ w.cell? ⟨(ad.add (i * 2)).block, (ad.add (i * 2)).off + 1, none⟩ = some (.int .i64 (l.getD i (0, 0)).2) ∧ wfV (l.getD i (0, 0)) := by
  obtain ⟨ad, cs, e, _, hK, hc⟩ := ReadsRow.get_ h ((0, 0) : V2) i (by omega) (by omega)
  obtain ⟨c0, c1, rfl, ⟨rfl, w0⟩, ⟨rfl, w1⟩⟩ := (show (Kd.pair (wint .i64) (wint .i64)).K w (l.getD i (0, 0)) cs from hK)
  have h0 := hc 0 _ rfl
  have h1 := hc 1 _ rfl
  rw [show kVi.sz = 2 from rfl, Int.toNat_natCast] at h0 h1
  rw [Nat.add_zero] at h0
  rw [add_next] at h1
  exact ⟨ad, e, h0, h1, w0, w1⟩
theorem own_cell {l : List V2} {k : Nat} (h : Own w b (.slice A k c) l) (i : Nat) (hi : i < l.length) : ∃ g, A = some ⟨g, 0, none⟩ ∧ w.cell? ⟨g, i * 2, none⟩ = some (.int .i64 (l.getD i (0, 0)).1) ∧ w.cell? ⟨g, i * 2 + 1, none⟩ = some (.int .i64 (l.getD i (0, 0)).2) ∧ w.frozen? ⟨g, i * 2, none⟩ = false ∧ w.frozen? ⟨g, i * 2 + 1, none⟩ = false ∧ b ≤ g := by
  rcases own_cases h with ⟨_, rfl⟩ | ⟨g, cap, cur, e, hg, hh, _, _, _, hc⟩
  · simp at hi
  · injection e with e1 e2 e3
    exact ⟨g, e1, (blk_cell hh _).trans (hc i hi).1, (blk_cell hh _).trans (hc i hi).2, blk_frozen hh _, blk_frozen hh _, hg⟩
theorem len_gate {P : Program} {ops : Array Oper} {Q : Exit → Act → World → Prop} {rest : List Oper} {o : Oper} {a : Act} {W : World} (hw : Region.wanted o (yielded ops a.tmps) = true) (h : wpList P ops Q ({ o with guard := none } :: rest) a W) : wpList P ops Q (o :: rest) a W := by
  unfold wpList at h ⊢
  rw [if_pos (by simp [Region.wanted])] at h
  rw [if_pos hw]
  exact h
theorem own_moved {v : Value} {l : List V2} (h : Own w b v l) (hm : ∀ k, v.ownBlock = some k → w1.heap[k]? = w.heap[k]?) : Own w1 b v l := by
  rcases own_cases h with ⟨rfl, rfl⟩ | ⟨g, cap, cur, rfl, hg, hh, h1, h2, h3, hc⟩
  · exact R_nil _ _ _ _ _
  · exact own_of_cells hg ((hm g rfl).trans hh) h1 h2 h3 hc
theorem own_mapped {v : Value} {l : List V2} (h : Own w b v l) {kt : TypeId} {R : Value → Option (DataW Unit × List MemPlace)} {bo q : Nat} {D2 : DataW Unit} (hm : w.ownsMap Try.prog kt R bo q D2) (hg : w.grownBy w1 (some bo)) : Own w1 b v l := by
  rcases own_cases h with ⟨rfl, rfl⟩ | ⟨g, cap, cur, rfl, hg', hh, h1, h2, h3, hc⟩
  · exact R_nil _ _ _ _ _
  · refine own_of_cells hg' (blk_grown hh hg (fun e => ?_)) h1 h2 h3 hc
    obtain ⟨es, cl, hb, _⟩ := hm
    cases e
    rw [hb] at hh
    cases hh
theorem map_ne_own {l : List V2} {k : Nat} (h : Own w b (.slice (some ⟨g, 0, none⟩) k c) l) {kt : TypeId} {R : Value → Option (DataW Unit × List MemPlace)} {bo q : Nat} {D2 : DataW Unit} (hm : w.ownsMap Try.prog kt R bo q D2) : bo ≠ g := by
  rcases own_cases h with ⟨e, _⟩ | ⟨g', cap, cur, e, hg', hh, h1, h2, h3, hc⟩
  · cases e
  · cases e
    rintro rfl
    obtain ⟨es, cl, hb, _⟩ := hm
    rw [hb] at hh
    cases hh
theorem own_zero {l : List V2} {k : Nat} (h : Own w b (.slice (some ⟨g, 0, none⟩) k c) l) (i : Nat) (hi : i < l.length) : Own ((w.setCell ⟨g, i * 2, none⟩ (.int .i64 0)).setCell ⟨g, i * 2 + 1, none⟩ (.int .i64 0)) b (.slice (some ⟨g, 0, none⟩) k c) (l.set i (0, 0)) := by
  rcases own_cases h with ⟨e, _⟩ | ⟨g', cap, cur, e, hg', hh, h1, h2, h3, hc⟩
  · cases e
  · cases e
    have hh2 := blk_set (blk_set hh (i * 2) (.int .i64 0)) (i * 2 + 1) (.int .i64 0)
    have hl : (l.set i (0, 0)).length = l.length := List.length_set
    rw [← hl]
    refine own_of_cells hg' hh2 (by omega) h2 (by simp [h3]) (fun j hj => ?_)
    rw [hl] at hj
    by_cases e : j = i
    · subst e
      have e1 : (l.set j (0, 0)).getD j (0, 0) = (0, 0) := by simp [hi]
      rw [e1]
      simp [Array.getElem?_setIfInBounds, show j * 2 < cur.size by omega, show j * 2 + 1 < cur.size by omega]
    · have e1 : (l.set i (0, 0)).getD j (0, 0) = l.getD j (0, 0) := by simp [List.getElem?_set, Ne.symm e]
      rw [e1, Array.getElem?_setIfInBounds_ne (by omega), Array.getElem?_setIfInBounds_ne (by omega), Array.getElem?_setIfInBounds_ne (by omega), Array.getElem?_setIfInBounds_ne (by omega)]
      exact hc j hj
theorem own_empty (w : World) : Own (w.alloc (.cells #[] 40)) w.heap.size (.slice (some ⟨w.heap.size, 0, none⟩) 0 0) [] :=
  own_of_cells (l := []) (Nat.le_refl _) (blk_new w (.cells #[] 40)) (Nat.zero_le _) (Nat.zero_le _) rfl (fun j hj => by simp at hj)
theorem own_C {l : List V2} {c : Nat} (h : Own w b (.slice A n c) l) : kV.C w A l.length l := (R_reads' h).2.2
set_option maxHeartbeats 8000000 in
set_option maxRecDepth 100000 in
theorem stays_any (s : Int) (hs : -9223372036854775808 ≤ s) (hs2 : s < 9223372036854775808) (A0 : Option Addr) (c0 : Nat) (l : List V2) (w : World) (hC : kVi.C w A0 l.length l) :
    Calls Try.prog 6 #[.int .i64 s, .slice A0 l.length c0] w fun e w' => e = .returned (.bool true) ∧ Below w.heap.size w w' := by
  have HB := Aside0.mk (Below.refl w.heap.size w)
  obtain ⟨r, hr⟩ := pick_some s
  obtain ⟨r1, r2⟩ := pick_bd s r hr hs hs2
  have HP := Aside0.mk hr
  have R1 := Aside0.mk r1
  have R2 := Aside0.mk r2
  obtain ⟨S, rfl⟩ : ∃ S : Nat, r = S := ⟨r.toNat, by omega⟩
  have S1 := Aside0.mk (show 1 ≤ S by omega)
  have S2 := Aside0.mk (show S ≤ 16 by omega)
  have HC := Aside0.mk hC
  clear hr r1 r2 hs hs2 hC
  go_enter Try.func6, Try.ntmps6
  go_upto_block 0 with (first
    | (go_at_call 7; refine (up_any _).mono ?_; rintro e w1 ⟨rfl, hB⟩; have HB1 := Aside0.mk hB; clear hB)
    | (go_at_call 8; refine (fettlelaw10_pick.calls s S _ HP.out).mono ?_; rintro e w2 ⟨rfl, hB⟩; have HB2 := Aside0.mk (below_step HB1.out hB.below); clear hB)
    | (go_at_call 9; refine (new_any S R1.out R2.out _).mono ?_; rintro e w3 ⟨⟨gt, A, c, bm, rfl, hT⟩, hB⟩; have HT := Aside0.mk hT; have HBN := Aside0.mk hB; clear hT hB))
  have hSS : (S : Int).toNat = S := Int.toNat_natCast S
  rw [hSS] at HT
  have HT := Aside0.mk HT.out
  clear hSS
  go_cut [8] from 28 to 49 (fun v8 wx => ∃ (X : List (List V2)) (D : DataW Unit) (m : Nat), Aside0 (Tab wx w2.heap.size gt A S c bm m X D) ∧ Aside0 (Good S X D) ∧ Aside0 (X.flatten.length ≤ 60) ∧ Aside0 (Below w2.heap.size w2 wx))
  case first =>
    go_wp2_with (fail)
    go_loopw [8] (fun v wr => ∃ (i : Nat) (X : List (List V2)) (D : DataW Unit) (m : Nat), v = .int .i64 i ∧ i ≤ l.length ∧ i ≤ 60 ∧ Aside0 (Tab wr w2.heap.size gt A S c bm m X D) ∧ Aside0 (Good S X D) ∧ Aside0 (X.flatten.length ≤ i ∧ m ≤ i) ∧ Aside0 (Below w2.heap.size w2 wr)) (fun v _ => l.length - (intOf v).toNat)
    case atStart => exact ⟨0, _, _, 0, rfl, Nat.zero_le _, Nat.zero_le _, HT, ⟨good_zero S⟩, ⟨by simp, Nat.le_refl _⟩, HBN⟩
    case round =>
      obtain ⟨i, X, D, m, rfl, hi, hi6, HT4, HG, HL, HB4⟩ := hrel
      clear HT HBN
      by_cases hlt : i < l.length
      · by_cases h6 : i < 60
        · have HBw := Aside0.mk (HB2.out.trans (HB4.out.mono HB2.out.size))
          obtain ⟨ad, rfl, hp0, hp1, hw⟩ := puts_at (C_below HC.out HBw.out) i hlt
          have HWf := Aside0.mk hw
          clear hw
          obtain ⟨p, hp⟩ : ∃ p, p = l.getD i (0, 0) := ⟨_, rfl⟩
          rw [← hp] at hp0 hp1 HWf
          clear hp
          go_wp2_with (fail)
          have hi64 : decide ((i : Int) < 60) = true := decide_eq_true (by omega)
          have PA := Aside0.mk (fun W' (hb : Below wr.heap.size wr W') => put_all (HT4.out.below hb) HG.out (Nat.le_trans HB4.out.size hb.size) p.1 p.2 HWf.out S1.out S2.out (by have := HL.out; omega) (by have := HL.out; omega))
          go_still_tail 11, (by kernel_rfl)
          change wpList _ _ _ _ _ wr.drew
          have HD := Aside0.mk (below_drew (Below.refl wr.heap.size wr))
          clear hp0 hp1
          go_wp2_with (fail)
          refine (PA.out _ HD.out).mono ?_
          rintro e w5 ⟨⟨rv, rfl⟩, ⟨X', D', m', hT, hG, _, hl1, hl2⟩, hB⟩
          have HT5 := Aside0.mk hT
          have HG5 := Aside0.mk hG
          have HL5 : Aside0 (X'.flatten.length ≤ i + 1 ∧ m' ≤ i + 1) := ⟨by have := HL.out; omega⟩
          have HB5 := Aside0.mk ((HB4.out.trans (HD.out.mono HB4.out.size)).trans hB)
          clear hT hG hl1 hl2 hB
          go_wp2
          go_roundw
          case rel => exact ⟨i + 1, X', D', m', nat_succ i, by omega, by omega, HT5, HG5, HL5, HB5⟩
          case measure => simp [intOf]; omega
        · have hi64 : decide ((i : Int) < 60) = false := decide_eq_false (by omega)
          go_wp2
          go_meet
          case rel => exact ⟨X, D, m, HT4, HG, ⟨by have := HL.out; omega⟩, HB4⟩
      · go_wp2
        go_meet
        case rel => exact ⟨X, D, m, HT4, HG, ⟨by have := HL.out; omega⟩, HB4⟩
  case rest =>
    obtain ⟨X, D, m, HT4, HG, HL, HB4⟩ := hcut
    obtain ⟨Y, hY⟩ : ∃ Y, Y = sortL X.flatten := ⟨_, rfl⟩
    have hYl : Y.length = X.flatten.length := by rw [hY, sortL_len]
    have hu := good_unlike HG.out
    have V13 := fun w1 (hb : Below wc.heap.size wc w1) => values_any (HT4.out.below hb) (Nat.le_trans HL.out (by decide)) S2.out
    have V14 := fun w1 (hb : Below wc.heap.size wc w1) => ranks_any (HT4.out.below hb) HG.out (Nat.le_trans HL.out (by decide)) S2.out
    have hl60 := HL.out
    rw [← hY] at V13 V14 hu
    rw [← hYl] at V14 hl60
    obtain ⟨RK, hRK⟩ : ∃ RK, RK = rk D Y Y.length := ⟨_, rfl⟩
    have hsz : Maps.size RK = Y.length := by rw [hRK]; exact rk_size D Y hu _ (Nat.le_refl _)
    rw [← hRK] at V14
    have H13 := Aside0.mk V13
    have H14 := Aside0.mk V14
    have HSZ := Aside0.mk hsz
    have HY6 := Aside0.mk hl60
    have HBc := Aside0.mk (HB2.out.trans (HB4.out.mono HB2.out.size))
    clear HT HBN HT4 HG HL hY hYl hu V13 V14 hl60 hRK hsz HB4
    go_wp2_with (fail)
    refine (H13.out _ (Below.refl _ _)).mono ?_
    rintro e w5 ⟨⟨v1, rfl, hO⟩, hB⟩
    obtain ⟨A1, c1, e1⟩ := R_slice hO
    subst e1
    have HO := Aside0.mk hO
    have HB5 := Aside0.mk hB
    clear hO hB
    have HC5 := Aside0.mk (C_below (own_C HO.out) (below_alloc (Below.refl w5.heap.size w5) (.cells #[] 40)))
    have HE5 := Aside0.mk (own_empty w5)
    have HB6 := Aside0.mk (below_alloc (Below.refl w5.heap.size w5) (.cells #[] 40))
    go_wp2_with (at_builtin; refine Kd.R_append_rows kV (Rr := kV.K (w5.alloc (.cells #[] 40))) (w0 := w5) w5.heap.size rfl _ _ 36 40 (.agg #[.int .i64 0, .int .i64 0]) 16 rfl Try.underlying36 info40 rfl (by decide) (by omega) (.slice (some ⟨w5.heap.size, 0, none⟩) 0 0) [] Y A1 Y.length c1 (fun k_ => w5.heap.size ≤ k_) (fun _ => False) rfl rfl HE5.out HC5.out (fun _ _ h => h) (fun _ h => h.elim) (fun k_ hk => Nat.le_trans HB6.out.size hk) HB6.out HB6.out.size (by have := HY6.out; simp; omega) ?_; intro v1 w7 hR hb hg hat; rw [List.nil_append] at hR; obtain ⟨A7, c7, e7⟩ := R_slice hR; subst e7; have HR7 := Aside0.mk (show Own w7 w5.heap.size _ Y from hR); have HB8 := Aside0.mk hb; clear hR hb hg hat)
    have HB7 := Aside0.mk (below_then HB5.out HB5.out.size (HB8.out))
    refine (H14.out _ HB7.out).mono ?_
    rintro e w8 ⟨⟨bo, rfl, hM, hbo⟩, hB⟩
    have HM := Aside0.mk hM
    have HBO := Aside0.mk hbo
    have HO8 := Aside0.mk (show Own w8 wc.heap.size (.slice A1 Y.length c1) Y from R_below (R_below HO.out HB8.out) hB)
    have HR8 := Aside0.mk (show Own w8 w5.heap.size (.slice A7 Y.length c7) Y from R_below HR7.out hB)
    have HB9 := Aside0.mk (below_then HB7.out HB7.out.size hB)
    have HS5 := Aside0.mk HB5.out.size
    clear hM hbo hB
    go_wp2_with (fail)
    go_loopw [12] (fun v wr => ∃ (i : Nat) (Y2 : List V2) (cnt : Nat) (D2 : DataW Unit), v = .int .i64 i ∧ i ≤ Y.length ∧ Aside0 (Y2.length = Y.length ∧ cnt ≤ 60 + i) ∧ Aside0 (Own wr wc.heap.size (.slice A1 Y.length c1) Y2) ∧ Aside0 (Own wr w5.heap.size (.slice A7 Y.length c7) Y) ∧ Aside0 (wr.ownsMap Try.prog 3 (plainElem Try.prog 3) bo cnt D2) ∧ Aside0 (Below wc.heap.size wc wr)) (fun v _ => Y.length - (intOf v).toNat)
    case atStart => exact ⟨0, Y, _, _, rfl, Nat.zero_le _, ⟨rfl, by have := HY6.out; omega⟩, HO8, HR8, HM, HB9⟩
    case round =>
      obtain ⟨i, Y2, cnt, D2, rfl, hi, HL2, HO2, HR2, HM2, HB10⟩ := hrel
      by_cases hlt : i < Y.length
      · obtain ⟨g, rfl, hv0, hv1, hf0, hf1, hge⟩ := own_cell HO2.out i (by have := HL2.out; omega)
        have hi2 : i < Y2.length := by have := HL2.out; omega
        have hg5 : g < w5.heap.size := R_lt HO.out g rfl
        have far : ∀ k, (Value.slice A7 Y.length c7).ownBlock = some k → k ≠ g := fun k hk e => by
          have := R_base HR2.out k hk
          omega
        have hne := map_ne_own HO2.out HM2.out
        have HO3 := Aside0.mk (own_zero HO2.out i hi2)
        have HR3 := Aside0.mk (own_moved (w1 := (wr.setCell ⟨g, i * 2, none⟩ (.int .i64 0)).setCell ⟨g, i * 2 + 1, none⟩ (.int .i64 0)) HR2.out (fun k hk => (Below.heap_setCell _ ⟨g, i * 2 + 1, none⟩ _ _ (far k hk)).trans (Below.heap_setCell _ ⟨g, i * 2, none⟩ _ _ (far k hk))))
        have HM3 := Aside0.mk ((HM2.out.setCell (a := ⟨g, i * 2, none⟩) hne (.int .i64 0)).setCell (a := ⟨g, i * 2 + 1, none⟩) hne (.int .i64 0))
        have HB11 := Aside0.mk ((HB10.out.setCell (p := ⟨g, i * 2, none⟩) hge (.int .i64 0)).setCell (p := ⟨g, i * 2 + 1, none⟩) hge (.int .i64 0))
        have HI2 := Aside0.mk hi2
        clear hi2 hg5 far hne hge
        have hy6 := HY6.out
        have HKW := Aside0.mk (i64_wf (a := (i : Int) + 100000) (by omega) (by omega))
        go_wp2_with (at_mapUpdate; refine wpList_mapUpdate_own _ rfl _ _ _ 41 rfl 3 3 law3 Try.underlying41 (plainElem Try.prog 3) bo cnt D2 rfl HM3.out (by have := HL2.out; have := HY6.out; unfold maxLen; omega) (.int .i64 ((i : Int) + 100000)) _ (.int .i64 ((i : Int) + 100000)) rfl rfl (keyOf_int_mk Try.underlying3 HKW.out) (.lit (.int .i64 1)) [] (plainElem_int Try.underlying3 (by decide)) ?_; intro w12 hown hg; have HM4 := Aside0.mk hown; have HO4 := Aside0.mk (own_mapped HO3.out HM3.out hg); have HR4 := Aside0.mk (own_mapped HR3.out HM3.out hg); have HB12 := Aside0.mk (HB11.out.grown hg HB11.out.size (fun k hk => by cases hk; have := HBO.out; have := HB7.out.size; omega)); clear hown hg)
        go_roundw
        case rel => exact ⟨i + 1, Y2.set i (0, 0), cnt + 1, _, nat_succ i, by omega, ⟨by rw [List.length_set]; have := HL2.out; omega⟩, HO4, HR4, HM4, HB12⟩
        case measure => simp [intOf]; omega
      · obtain rfl : i = Y.length := by omega
        obtain ⟨q9, hq9⟩ : ∃ q, q = wr.heap.size := ⟨_, rfl⟩
        have HQ9 := Aside0.mk hq9
        clear hq9
        go_wp2_with (fail)
        refine (H13.out _ HB10.out).mono ?_
        rintro e w12 ⟨⟨v3, rfl, hO⟩, hB⟩
        obtain ⟨A9, c9, e9⟩ := R_slice hO
        subst e9
        have HO9 := Aside0.mk (show Own w12 q9 _ Y from by rw [HQ9.out]; exact hO)
        have HR9 := Aside0.mk (show Own w12 w5.heap.size (.slice A7 Y.length c7) Y from R_below HR2.out hB)
        have HB13 := Aside0.mk (below_then HB10.out HB10.out.size hB)
        clear hO hB
        have n1 : ((Y.length : Int) != (Y.length : Int)) = false := by simp
        go_wp2_with (fail)
        refine (H14.out _ HB13.out).mono ?_
        rintro e w14 ⟨⟨bo2, rfl, hM, _⟩, hB⟩
        have HM5 := Aside0.mk hM
        have HO10 := Aside0.mk (show Own w14 q9 (.slice A9 Y.length c9) Y from R_below HO9.out hB)
        have HR10 := Aside0.mk (show Own w14 w5.heap.size (.slice A7 Y.length c7) Y from R_below HR9.out hB)
        have HB14 := Aside0.mk (below_then HB13.out HB13.out.size hB)
        clear hM hB
        go_wp2_with (at_len; (with_reducible refine len_gate ?gw ?_); (case gw => first | rfl | simp [Region.wanted]); refine wpList_len_own _ rfl _ 41 rfl 3 3 Try.underlying41 (plainElem Try.prog 3) bo2 Y.length RK rfl HM5.out ?_; rw [HSZ.out])
        go_loopw [14] (fun v wr => ∃ (i : Nat), v = .int .i64 i ∧ i ≤ Y.length ∧ Aside0 (Own wr q9 (.slice A9 Y.length c9) Y) ∧ Aside0 (Own wr w5.heap.size (.slice A7 Y.length c7) Y) ∧ Aside0 (Below wc.heap.size wc wr)) (fun v _ => Y.length - (intOf v).toNat)
        case atStart => exact ⟨0, rfl, Nat.zero_le _, HO10, HR10, HB14⟩
        case round =>
          obtain ⟨i, rfl, hi, HO15, HR15, HB15⟩ := hrel
          by_cases hlt2 : i < Y.length
          · obtain ⟨g9, rfl, a0, a1⟩ := own_at HO15.out i hlt2
            obtain ⟨g7, rfl, b0, b1⟩ := own_at HR15.out i hlt2
            obtain ⟨y, hy⟩ : ∃ y, y = Y.getD i (0, 0) := ⟨_, rfl⟩
            rw [← hy] at a0 a1 b0 b1
            clear hy
            have he := eqA40 9998
            have hn := neqV
            have n2 : (y.1 == y.1) = true := by simp
            have n3 : (y.2 == y.2) = true := by simp
            have hy6 := HY6.out
            have HW2 := Aside0.mk (Nat.le_refl wr.heap.size)
            go_wp2_with (fail)
            go_quiet (fail)
            go_wp2
            go_roundw
            case rel => exact ⟨i + 1, nat_succ i, by omega, ⟨R_drewN HO15.out nq⟩, ⟨R_drewN HR15.out nq⟩, ⟨pw_below_drewN HB15.out nq⟩⟩
            case measure => simp [intOf]; omega
          · obtain rfl : i = Y.length := by omega
            go_wp2
            go_ret
            exact ⟨rfl, below_then HBc.out HBc.out.size HB15.out⟩
end Go.Proofs.Ytaedbjjjdafabaa.Tb
