/- What came in as data reads as the seat's kinds say, and each number lies in the range of 64 bits with a sign. Conditions: none. -/
import Derived.Test.YtckebppacealeaaDoorPCodeUnlikex0
import Derived.Test.YtckebppacealeaaDoorOpens
namespace Go.Proofs.YtckebppacealeaaDoor.Lr
open Go.Proofs.YtckebppacealeaaDoor.PCodeUnlike Go.Proofs.YtckebppacealeaaDoor.Opens Go.Proofs.YtckebppacealeaaDoorW.PrintWords Go.RowKit
def R64 (a : Int) : Prop := -9223372036854775808 ≤ a ∧ a < 9223372036854775808
def intR : Kd Int where
  sz := 1
  E := []
  K := fun _ x cs => cs = [.int .i64 x] ∧ R64 x
  M := fun _ _ _ x cs => cs = [.int .i64 x] ∧ R64 x
  K_len := fun h => by rw [h.1]; rfl
  K_one := fun h u hu => by rw [h.1] at hu; rw [List.mem_singleton.1 hu]; rfl
  K_below := fun _ h => h
  K_of_M := fun h => h
  M_mono := fun _ h => h
  M_bound := fun h => h
  M_move := fun _ h => h
  M_lower := fun _ h => h
theorem opens_intR {P : Program} {t : TypeId} (ht : P.underlying t = some (.int .i64)) : Opens P t intR := by
  intro H enc W spare held fuel cs x h
  cases fuel with
  | zero => simp [DataW.trod] at h
  | succ fuel =>
    unfold DataW.trod at h
    simp only [ht] at h
    split at h <;> simp_all
    rename_i k _ n he
    subst he
    have hw := h.1.2
    refine ⟨n, rfl, ?_⟩
    simp [Lit.wf, IntKind.min, IntKind.max, IntKind.signed, IntKind.bits] at hw
    unfold R64
    omega
/-- A kind that says more: it reads as d says, and Q holds. -/
structure Sub {α : Type} (r d : Kd α) (Q : α → Prop) : Prop where
  sz : r.sz = d.sz
  k : ∀ {w : World} {x : α} {cs : List Value}, r.K w x cs → d.K w x cs ∧ Q x
theorem sub_int : Sub intR (Kd.int .i64) R64 := ⟨rfl, fun h => ⟨h.1, h.2⟩⟩
theorem sub_slice {α : Type} {r d : Kd α} {Q : α → Prop} (e : Nat) (h : Sub r d Q) : Sub (Kd.slice e r) (Kd.slice e d) (fun l => ∀ x ∈ l, Q x) := by
  refine ⟨rfl, ?_⟩
  rintro w xs cs ⟨A, c, rfl, hl, hn, hm, hr⟩
  have e2 := h.sz
  refine ⟨⟨A, c, rfl, hl, hn, hm, fun h0 => ?_⟩, fun x hx => ?_⟩
  · obtain ⟨ad, e, hc⟩ := hr h0
    refine ⟨ad, e, fun j p hj => ?_⟩
    obtain ⟨c', h1, h2, h3⟩ := hc j p hj
    rw [e2] at h1 h3
    exact ⟨c', h1, (h.k h2).1, h3⟩
  · obtain ⟨j, hj, rfl⟩ := List.mem_iff_getElem.1 hx
    obtain ⟨ad, e, hc⟩ := hr (by omega)
    obtain ⟨c', _, h2, _⟩ := hc j _ (List.getElem?_eq_getElem hj)
    exact (h.k h2).2
theorem sub_pair {α β : Type} {r d : Kd α} {r' d' : Kd β} {Q : α → Prop} {Q' : β → Prop} (h : Sub r d Q) (h' : Sub r' d' Q') : Sub (Kd.pair r r') (Kd.pair d d') (fun p => Q p.1 ∧ Q' p.2) := by
  refine ⟨by show r.sz + r'.sz = d.sz + d'.sz; rw [h.sz, h'.sz], ?_⟩
  rintro w x cs ⟨c0, c1, rfl, h0, h1⟩
  exact ⟨⟨c0, c1, rfl, (h.k h0).1, (h'.k h1).1⟩, (h.k h0).2, (h'.k h1).2⟩
theorem sub_iso {α β : Type} {r d : Kd α} {Q : α → Prop} (f : β → α) (h : Sub r d Q) : Sub (Kd.iso r f) (Kd.iso d f) (fun x => Q (f x)) := ⟨h.sz, fun k => h.k k⟩
def phiR : Kd S60 := Kd.iso (Kd.pair intR (Kd.slice 3 intR)) (fun x : S60 => (x.f0, x.f1))
def insR : Kd S58 := Kd.iso (Kd.pair intR (Kd.pair intR (Kd.pair (Kd.slice 3 intR) (Kd.pair intR intR)))) (fun x : S58 => (x.f0, x.f1, x.f2, x.f3, x.f4))
def termR : Kd S54 := Kd.iso (Kd.pair intR (Kd.pair intR (Kd.slice 3 intR))) (fun x : S54 => (x.f0, x.f1, x.f2))
def blockR : Kd S56 := Kd.iso (Kd.pair (Kd.slice 60 phiR) (Kd.pair (Kd.slice 58 insR) termR)) (fun x : S56 => (x.f0, x.f1, x.f2))
def funcR : Kd S50 := Kd.iso (Kd.pair intR (Kd.pair intR (Kd.pair (Kd.slice 3 intR) (Kd.slice 56 blockR)))) (fun x : S50 => (x.f0, x.f1, x.f2, x.f3))
def RPhi (p : S60) : Prop := R64 p.f0 ∧ ∀ a ∈ p.f1, R64 a
def RIns (x : S58) : Prop := R64 x.f0 ∧ R64 x.f1 ∧ (∀ a ∈ x.f2, R64 a) ∧ R64 x.f3 ∧ R64 x.f4
def RTerm (t : S54) : Prop := R64 t.f0 ∧ R64 t.f1 ∧ ∀ a ∈ t.f2, R64 a
def RBlock (b : S56) : Prop := (∀ p ∈ b.f0, RPhi p) ∧ (∀ x ∈ b.f1, RIns x) ∧ RTerm b.f2
def RFunc (f : S50) : Prop := R64 f.f0 ∧ R64 f.f1 ∧ (∀ a ∈ f.f2, R64 a) ∧ ∀ b ∈ f.f3, RBlock b
theorem sub_phi : Sub phiR k60 RPhi := sub_iso _ (sub_pair sub_int (sub_slice _ sub_int))
theorem sub_ins : Sub insR k58 RIns := sub_iso _ (sub_pair sub_int (sub_pair sub_int (sub_pair (sub_slice _ sub_int) (sub_pair sub_int sub_int))))
theorem sub_term : Sub termR k54 RTerm := sub_iso _ (sub_pair sub_int (sub_pair sub_int (sub_slice _ sub_int)))
theorem sub_block : Sub blockR k56 RBlock := sub_iso _ (sub_pair (sub_slice _ sub_phi) (sub_pair (sub_slice _ sub_ins) sub_term))
theorem sub_func : Sub funcR k50 RFunc := sub_iso _ (sub_pair sub_int (sub_pair sub_int (sub_pair (sub_slice _ sub_int) (sub_slice _ sub_block))))
theorem opInt : Opens Tryd.prog 3 intR := opens_intR Tryd.underlying3
theorem opInts : Opens Tryd.prog 47 (Kd.slice 3 intR) := opens_slice Tryd.underlying47 (by kernel_rfl) opInt
theorem opPhi : Opens Tryd.prog 60 phiR := opens_struct (g := fun p => ⟨p.1, p.2⟩) Tryd.underlying60 (by kernel_rfl) (fun _ => rfl) (opens_pair (by rfl) (by kernel_rfl) opInt (opens_last (by rfl) (by kernel_rfl) opInts))
theorem opPhis : Opens Tryd.prog 51 (Kd.slice 60 phiR) := opens_slice Tryd.underlying51 (by kernel_rfl) opPhi
theorem opInt64 : Opens Tryd.prog 2 intR := opens_intR Tryd.underlying2
theorem opInstr : Opens Tryd.prog 58 insR := opens_struct (g := fun p => ⟨p.1, p.2.1, p.2.2.1, p.2.2.2.1, p.2.2.2.2⟩) Tryd.underlying58 (by kernel_rfl) (fun _ => rfl) (opens_pair (by rfl) (by kernel_rfl) opInt (opens_pair (by rfl) (by kernel_rfl) opInt (opens_pair (by rfl) (by kernel_rfl) opInts (opens_pair (by rfl) (by kernel_rfl) opInt64 (opens_last (by rfl) (by kernel_rfl) opInt)))))
theorem opInstrs : Opens Tryd.prog 52 (Kd.slice 58 insR) := opens_slice Tryd.underlying52 (by kernel_rfl) opInstr
theorem opTerm : Opens Tryd.prog 54 termR := opens_struct (g := fun p => ⟨p.1, p.2.1, p.2.2⟩) Tryd.underlying54 (by kernel_rfl) (fun _ => rfl) (opens_pair (by rfl) (by kernel_rfl) opInt (opens_pair (by rfl) (by kernel_rfl) opInt (opens_last (by rfl) (by kernel_rfl) opInts)))
theorem opBlock : Opens Tryd.prog 56 blockR := opens_struct (g := fun p => ⟨p.1, p.2.1, p.2.2⟩) Tryd.underlying56 (by kernel_rfl) (fun _ => rfl) (opens_pair (by rfl) (by kernel_rfl) opPhis (opens_pair (by rfl) (by kernel_rfl) opInstrs (opens_last (by rfl) (by kernel_rfl) opTerm)))
theorem opBlocks : Opens Tryd.prog 48 (Kd.slice 56 blockR) := opens_slice Tryd.underlying48 (by kernel_rfl) opBlock
theorem opFunc : Opens Tryd.prog 50 funcR := opens_struct (g := fun p => ⟨p.1, p.2.1, p.2.2.1, p.2.2.2⟩) Tryd.underlying50 (by kernel_rfl) (fun _ => rfl) (opens_pair (by rfl) (by kernel_rfl) opInt (opens_pair (by rfl) (by kernel_rfl) opInt (opens_pair (by rfl) (by kernel_rfl) opInts (opens_last (by rfl) (by kernel_rfl) opBlocks))))
theorem opFuncs : Opens Tryd.prog 22 (Kd.slice 50 funcR) := opens_slice Tryd.underlying22 (by kernel_rfl) opFunc
theorem opModule : Opens Tryd.prog 24 (Kd.iso (Kd.slice 50 funcR) (fun x : List S50 => x)) := opens_struct (g := fun p => p) Tryd.underlying24 (by kernel_rfl) (fun _ => rfl) (opens_last (by rfl) (by kernel_rfl) opFuncs)
theorem openModule {W : World} {x : List S50} {cs : List Value} (h : (Kd.iso (Kd.slice 50 funcR) (fun x : List S50 => x)).K W x cs) : (∀ f ∈ x, RFunc f) ∧ ∃ A c, cs = [.slice A x.length c] ∧ x.length ≤ c ∧ Kd.C k50 W A x.length x :=
  ⟨((sub_iso (fun x : List S50 => x) (sub_slice _ sub_func)).k h).2, ((sub_iso (fun x : List S50 => x) (sub_slice _ sub_func)).k h).1⟩
end Go.Proofs.YtckebppacealeaaDoor.Lr
