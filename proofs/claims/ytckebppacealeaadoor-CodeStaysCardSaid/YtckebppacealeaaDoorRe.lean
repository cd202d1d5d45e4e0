/- The statements' head of chapter 3: no bytes are no module's; an empty module's bytes. Conditions: errors.errorType holds the handle of error. -/
import Derived.Test.YtckebppacealeaaDoorRc
import Derived.Test.YtckebppacealeaaDoorNc
import Derived.Laws.BytesArg
import Derived.Handy
namespace Go.Proofs.YtckebppacealeaaDoor.Rk
open Go.RowKit Go.Proofs.YtckebppacealeaaDoorW.PrintWords Go.Proofs.YtckebppacealeaaDoorW.PrintLast Go.Proofs.YtckebppacealeaaDoorW.PrintMore Go.Proofs.YtckebppacealeaaDoorW.PrintWords.Kd Go.Proofs.YtckebppacealeaaDoor.PCodeUnlike Go.Proofs.YtckebppacealeaaDoor.Lp Go.Proofs.YtckebppacealeaaDoor.Lk
attribute [local go_sem] max2_int min2_int max_two min_two max_three min_three max_four min_four
set_option linter.unusedVariables false
set_option linter.unusedSimpArgs false
variable {w w1 : World}
def Byte (a : Int) : Prop := 0 ≤ a ∧ a < 256
theorem numE_byte : ∀ (k n : Nat), n ≤ k → ∀ a ∈ numE n, Byte a := by
  intro k
  induction k with
  | zero =>
    intro n h a ha
    unfold numE at ha
    rw [if_pos (by omega)] at ha
    simp only [List.mem_singleton] at ha
    unfold Byte
    omega
  | succ k ih =>
    intro n h a ha
    unfold numE at ha
    by_cases hn : n < 128
    · rw [if_pos hn] at ha
      simp only [List.mem_singleton] at ha
      unfold Byte
      omega
    · rw [if_neg hn] at ha
      rcases List.mem_cons.1 ha with e | ha
      · unfold Byte
        omega
      · exact ih (n / 128) (by omega) a ha
theorem num_byte (n : Nat) : ∀ a ∈ numE n, Byte a := numE_byte n n (Nat.le_refl _)
theorem flat_byte {α : Type} {g : α → List Int} (h : ∀ x, ∀ a ∈ g x, Byte a) (l : List α) : ∀ a ∈ l.flatMap g, Byte a := fun a ha => by
  obtain ⟨x, _, hx⟩ := List.mem_flatMap.1 ha
  exact h x a hx
theorem app_byte {l m : List Int} (h : ∀ a ∈ l, Byte a) (k : ∀ a ∈ m, Byte a) : ∀ a ∈ l ++ m, Byte a := fun a ha => (List.mem_append.1 ha).elim (h a) (k a)
theorem list_byte (l : List Int) : ∀ a ∈ listE l, Byte a := app_byte (num_byte _) (flat_byte (fun x => num_byte _) l)
theorem phi_byte (p : Ph) : ∀ a ∈ encPhi p, Byte a := app_byte (num_byte _) (list_byte _)
theorem ins_byte (x : In) : ∀ a ∈ encIns x, Byte a := app_byte (app_byte (app_byte (app_byte (num_byte _) (num_byte _)) (list_byte _)) (num_byte _)) (num_byte _)
theorem term_byte (t : Tm) : ∀ a ∈ encTerm t, Byte a := app_byte (app_byte (num_byte _) (num_byte _)) (list_byte _)
theorem block_byte (b : Bk) : ∀ a ∈ encBlock b, Byte a := app_byte (app_byte (app_byte (app_byte (num_byte _) (flat_byte phi_byte _)) (num_byte _)) (flat_byte ins_byte _)) (term_byte _)
theorem func_byte (f : Lk.Fn) : ∀ a ∈ encFunc f, Byte a := app_byte (app_byte (app_byte (app_byte (num_byte _) (num_byte _)) (list_byte _)) (num_byte _)) (flat_byte block_byte _)
theorem mod_byte (m : List Lk.Fn) : ∀ a ∈ encMod m, Byte a := app_byte (app_byte (fun a ha => by
  simp only [List.mem_cons, List.not_mem_nil, or_false] at ha
  unfold Byte
  omega) (num_byte _)) (flat_byte func_byte _)
theorem str_inj : ∀ {xs ys : List Int}, (∀ a ∈ xs, Byte a) → (∀ a ∈ ys, Byte a) → (strOfNums xs = strOfNums ys ↔ xs = ys) := by
  have key : ∀ {xs ys : List Int}, (∀ a ∈ xs, Byte a) → (∀ a ∈ ys, Byte a) → (xs.map fun n => UInt8.ofNat n.toNat) = (ys.map fun n => UInt8.ofNat n.toNat) → xs = ys := by
    intro xs
    induction xs with
    | nil =>
      intro ys _ _ h
      cases ys with
      | nil => rfl
      | cons y ys => simp at h
    | cons x xs ih =>
      intro ys hx hy h
      cases ys with
      | nil => simp at h
      | cons y ys =>
        simp only [List.map_cons, List.cons.injEq] at h
        have h1 := hx x List.mem_cons_self
        have h2 := hy y List.mem_cons_self
        have e : x = y := by
          have := congrArg UInt8.toNat h.1
          simp only [UInt8.toNat_ofNat'] at this
          unfold Byte at h1 h2
          omega
        rw [e, ih (fun a ha => hx a (List.mem_cons_of_mem _ ha)) (fun a ha => hy a (List.mem_cons_of_mem _ ha)) h.2]
  intro xs ys hx hy
  refine ⟨fun h => key hx hy ?_, fun h => by rw [h]⟩
  have h2 := congrArg (fun s => s.data.toList) h
  simpa only [strOfNums_data] using h2
/-- The text of bytes. -/
theorem conv_text {e base n c : Nat} {ok : Nat → Prop} {A : Option Addr} {xs : List Int} (h : Kd.R (Kd.int .u8) e w base ok (.slice A n c) xs) : (Go.convert 27 9 (.slice A n c)).run Tryd.prog w = .ok (.string (strOfNums xs)) w := by
  obtain ⟨hn, _, hC⟩ := Kd.R_reads' h
  subst hn
  cases A with
  | none =>
    have h0 : xs = [] := by
      cases xs with
      | nil => rfl
      | cons x xs =>
        obtain ⟨ad, _, he, _⟩ := Kd.C_get hC (0 : Int) 0 (by omega) (by simp)
        cases he
    subst h0
    exact run_convert_bytes_nil w 27 5 Tryd.underlying27 Tryd.underlying5 _ _ 9 Tryd.underlying9
  | some ad =>
    obtain ⟨g, rfl⟩ := Kd.R_head h
    refine run_convert_bytes_arg w 27 5 Tryd.underlying27 Tryd.underlying5 g 0 xs.length c xs rfl (fun i hi => ?_) 9 Tryd.underlying9
    obtain ⟨ad, cs, he, _, hK, hc⟩ := Kd.C_get hC (0 : Int) (i : Int) (by omega) (by omega)
    cases he
    rw [Int.toNat_natCast] at hK hc
    have hk : cs = [.int .u8 (xs.getD i 0)] := hK
    subst hk
    have := hc 0 _ rfl
    have e2 : i * (Kd.int .u8).sz + 0 = i := by show i * 1 + 0 = i; omega
    rw [e2, add_at0] at this
    rw [Nat.zero_add]
    exact this
set_option maxHeartbeats 4000000 in
set_option maxRecDepth 100000 in
theorem dec_nil (w : World) : Calls Tryd.prog 15 #[.slice none 0 0] w fun e w' => (∃ g, e = .returned (.tuple #[.agg #[.slice none 0 0], .iface 67 (.pointer (some ⟨g, 0, none⟩))]) ∧ w'.heap[g]? = some (.cells #[.int .i64 0, .iface 46 (.int .i64 2)] 72 (0, 0))) ∧ Below w.heap.size w w' := by
  have HB := Aside0.mk (Below.refl w.heap.size w)
  go_enter Tryd.func15, Tryd.ntmps15
  go_wp2
  go_returns
  refine ⟨⟨w.heap.size + 1, rfl, ?_⟩, below_alloc (below_alloc (Below.refl _ _) _) _⟩
  have := blk_new (w.alloc (.cells #[.slice none 0 0] 24)) (.cells #[.int .i64 0, .iface 46 (.int .i64 2)] 72)
  rw [show (w.alloc (.cells #[.slice none 0 0] 24)).heap.size = w.heap.size + 1 by simp] at this
  exact this
theorem enc_nil : encMod [] = [102, 116, 108, 49, 0] := by
  have h : numE (m64 ((([] : List Lk.Fn).length : Nat) : Int)) = [0] := by
    have e : m64 ((([] : List Lk.Fn).length : Nat) : Int) = 0 := rfl
    rw [e]
    unfold numE
    rw [if_pos (by omega)]
    rfl
  unfold encMod
  rw [h]
  rfl
theorem text_nil : strOfNums (encMod []) = ⟨#[102, 116, 108, 49, 0]⟩ := by
  rw [enc_nil]
  rfl
set_option maxHeartbeats 4000000 in
set_option maxRecDepth 100000 in
theorem up_any (w : World) (hg : w.cell? ⟨0, 0, none⟩ = some (.iface 130 (.agg #[.pointer (some ⟨1, 29, none⟩)]))) :
    Calls Tryd.prog 9 #[] w fun e w' => e = .returned (.bool true) ∧ Below w.heap.size w w' := by
  have HG := Aside0.mk hg
  have HB := Aside0.mk (Below.refl w.heap.size w)
  have hok : OkM ([] : List Lk.Fn) := ⟨by simp, fun i hi => by simp at hi⟩
  have HE := Aside0.mk (encode_any (w := w) [] hok none 0 (Kd.C_nil _ _) (Nat.zero_le _))
  clear hg hok
  go_enter Tryd.func9, Tryd.ntmps9
  go_wp2_with (fail)
  refine HE.out.mono ?_
  rintro e w2 ⟨⟨v, ev, rfl, hE, hR, _⟩, hb⟩
  obtain rfl : ev = .nilIface := hE
  have hR := hR rfl
  obtain ⟨Ab, cb, rfl⟩ := Kd.R_slice hR
  have HR := Aside0.mk hR
  have HB2 := Aside0.mk hb
  clear hR hb
  go_wp2_with (fail)
  refine (dec_nil w2).mono ?_
  rintro e w3 ⟨⟨g, rfl, hx⟩, hb⟩
  have HX := Aside0.mk hx
  have HB3 := Aside0.mk hb
  clear hx hb
  go_upto_region 3 with (fail)
  have hb4 := below_alloc (Below.refl w3.heap.size w3) (.cells #[.slice none 0 0] 24)
  generalize w3.alloc (.cells #[.slice none 0 0] 24) = w4 at hb4 ⊢
  have HB4 := Aside0.mk (below_step HB2.out (below_step HB3.out hb4))
  have hcv := conv_text (Kd.R_below HR.out (below_step HB3.out hb4))
  rw [text_nil] at hcv
  have HG4 := Aside0.mk (pw_cell_below HB4.out HG.out)
  have HX4 := Aside0.mk (blk_below HX.out hb4)
  clear hb4
  go_wp2_with (fail)
  refine (Nc.is_spot g 0 0 2 2 w4 HG4.out HX4.out).mono ?_
  rintro e w5 ⟨rfl, hb⟩
  have HB5 := Aside0.mk (below_step HB4.out hb)
  clear hb
  go_wp2
  go_ret
  exact ⟨rfl, HB5.out⟩
end Go.Proofs.YtckebppacealeaaDoor.Rk
