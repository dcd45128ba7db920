/- The engine's soundness, first part: what is known of values stays known. -/
import Derived.Test.YtomodeliimnddaaAbWp
import Derived.WalkKit
set_option linter.unusedVariables false
set_option linter.unusedSimpArgs false
set_option autoImplicit false
namespace Go.Ab

/-- What isn't mutable stays as it is, and immutable. -/
structure Imm (w : World) (M : Nat → Prop) (w' : World) (M' : Nat → Prop) : Prop where
  size : w.heap.size ≤ w'.heap.size
  imm : ∀ b, b < w.heap.size → ¬ M b → ¬ M' b ∧ w'.heap[b]? = w.heap[b]?
  shape : ∀ b, b < w.heap.size → w'.shape? b = w.shape? b
theorem Imm.refl (w : World) (M : Nat → Prop) : Imm w M w M := ⟨Nat.le_refl _, fun _ _ h => ⟨h, rfl⟩, fun _ _ => rfl⟩
theorem Imm.trans {w w1 w2 : World} {M M1 M2 : Nat → Prop} (h : Imm w M w1 M1) (k : Imm w1 M1 w2 M2) : Imm w M w2 M2 :=
  ⟨Nat.le_trans h.size k.size, fun b hb hM => by
    obtain ⟨h1, h2⟩ := h.imm b hb hM
    obtain ⟨h3, h4⟩ := k.imm b (Nat.lt_of_lt_of_le hb h.size) h1
    exact ⟨h3, h4.trans h2⟩, fun b hb => (k.shape b (Nat.lt_of_lt_of_le hb h.size)).trans (h.shape b hb)⟩

theorem lt_of_shape {w : World} {b T n : Nat} (h : w.shape? b = some (T, n)) : b < w.heap.size := by
  rcases Nat.lt_or_ge b w.heap.size with hl | hl
  · exact hl
  · simp [World.shape?, Array.getElem?_eq_none hl] at h

theorem GRel.mono {w w' : World} {M M' : Nat → Prop} {v : AV} {V : Value} (hi : Imm w M w' M') (h : GRel w M v V) : GRel w' M' v V := by
  induction h with
  | undef V => exact .undef V
  | raw V => exact .raw V
  | bool b => exact .bool b
  | int k n => exact .int k n
  | str s => exact .str s
  | nilp => exact .nilp
  | nils => exact .nils
  | nili => exact .nili
  | nilf => exact .nilf
  | nilm => exact .nilm
  | cptr v a g hs hM hb hc hg ih =>
    obtain ⟨h1, h2⟩ := hi.imm _ hb hM
    exact .cptr v a g hs h1 (Nat.lt_of_lt_of_le hb hi.size) (fun j hj => by rw [World.cell?_of_block (w := w) (a := ⟨a.block, a.off + j, none⟩) h2]; exact hc j hj) ih
  | slice v es n f a cap g hv hs hM hb hn he hc hg ih =>
    obtain ⟨h1, h2⟩ := hi.imm _ hb hM
    exact .slice v es n f a cap g hv hs h1 (Nat.lt_of_lt_of_le hb hi.size) hn he (fun j hj => by rw [World.cell?_of_block (w := w) (a := ⟨a.block, a.off + j, none⟩) h2]; exact hc j hj) ih
  | sliceNil v es f hv => exact .sliceNil v es f hv
  | agg l cs hl hg ih => exact .agg l cs hl ih
  | tup l cs hl hg ih => exact .tup l cs hl ih
  | iface t v V hg ih => exact .iface t v V ih
  | fn f => exact .fn f

theorem VRel.mono {ι ι' : Iota} {w w' : World} {M M' : Nat → Prop} {v : AV} {V : Value} (hi : Imm w M w' M') (hx : ∀ h p, ι h = some p → ι' h = some p) (h : VRel ι w M v V) : VRel ι' w' M' v V := by
  induction h with
  | g v V h => exact .g v V (h.mono hi)
  | ptr h off b base hi => exact .ptr h off b base (hx _ _ hi)
  | sl es h off len b base o cap T n hh ho hl hs hn => exact .sl es h off len b base o cap T n (hx _ _ hh) ho hl ((hi.shape b (lt_of_shape hs)).trans hs) hn
  | slv es h off hh => exact .slv es h off (hx _ _ hh)
  | agg l cs hl hg ih => exact .agg l cs hl ih
  | tup l cs hl hg ih => exact .tup l cs hl ih
  | iface t v V hg ih => exact .iface t v V ih
  | fn f l cs hl hg ih => exact .fn f l cs hl ih

theorem VRel.undef {ι : Iota} {w : World} {M : Nat → Prop} (V : Value) : VRel ι w M .undef V := .g _ _ (.undef V)

theorem VRels.mono {ι ι' : Iota} {w w' : World} {M M' : Nat → Prop} {l : List AV} {cs : Array Value} (hi : Imm w M w' M') (hx : ∀ h p, ι h = some p → ι' h = some p) (h : VRels ι w M l cs) : VRels ι' w' M' l cs :=
  ⟨h.1, fun j hj => (h.2 j hj).mono hi hx⟩

/-! ### inversion -/
section
variable {ι : Iota} {w : World} {M : Nat → Prop}
theorem VRel.bool_inv {b : Bool} {V : Value} (h : VRel ι w M (.bool b) V) : V = .bool b := by
  cases h with
  | g _ _ h => cases h with
    | bool => rfl
    | slice _ es n f a cap g hv => simp [AV.rov] at hv
    | sliceNil _ es f hv => simp [AV.rov] at hv
theorem VRel.int_inv {k : IntKind} {n : Int} {V : Value} (h : VRel ι w M (.int k n) V) : V = .int k n := by
  cases h with
  | g _ _ h => cases h with
    | int => rfl
    | slice _ es n f a cap g hv => simp [AV.rov] at hv
    | sliceNil _ es f hv => simp [AV.rov] at hv
theorem VRel.str_inv {s : ByteArray} {V : Value} (h : VRel ι w M (.str s) V) : V = .string s := by
  cases h with
  | g _ _ h => cases h with
    | str => rfl
    | slice _ es n f a cap g hv => simp [AV.rov] at hv
    | sliceNil _ es f hv => simp [AV.rov] at hv
theorem VRel.nilp_inv {V : Value} (h : VRel ι w M .nilp V) : V = .pointer none := by
  cases h with
  | g _ _ h => cases h with
    | nilp => rfl
    | slice _ es n f a cap g hv => simp [AV.rov] at hv
    | sliceNil _ es f hv => simp [AV.rov] at hv
theorem VRel.nils_inv {V : Value} (h : VRel ι w M .nils V) : V = .slice none 0 0 := by
  cases h with
  | g _ _ h => cases h with
    | nils => rfl
    | slice _ es n f a cap g hv => simp [AV.rov] at hv
    | sliceNil _ es f hv => simp [AV.rov] at hv
theorem VRel.nili_inv {V : Value} (h : VRel ι w M .nili V) : V = .nilIface := by
  cases h with
  | g _ _ h => cases h with
    | nili => rfl
    | slice _ es n f a cap g hv => simp [AV.rov] at hv
    | sliceNil _ es f hv => simp [AV.rov] at hv
theorem VRel.nilf_inv {V : Value} (h : VRel ι w M .nilf V) : V = .nilFunc := by
  cases h with
  | g _ _ h => cases h with
    | nilf => rfl
    | slice _ es n f a cap g hv => simp [AV.rov] at hv
    | sliceNil _ es f hv => simp [AV.rov] at hv
theorem VRel.nilm_inv {V : Value} (h : VRel ι w M .nilm V) : V = .map none := by
  cases h with
  | g _ _ h => cases h with
    | nilm => rfl
    | slice _ es n f a cap g hv => simp [AV.rov] at hv
    | sliceNil _ es f hv => simp [AV.rov] at hv
theorem VRel.ptr_inv {h off : Nat} {V : Value} (hr : VRel ι w M (.ptr h off) V) : ∃ b base, ι h = some (some (b, base)) ∧ V = .pointer (some ⟨b, base + off, none⟩) := by
  cases hr with
  | g _ _ h => cases h with
    | slice _ es n f a cap g hv => simp [AV.rov] at hv
    | sliceNil _ es f hv => simp [AV.rov] at hv
  | ptr _ _ b base hi => exact ⟨b, base, hi, rfl⟩
theorem VRel.sl_inv {es h off len : Nat} {V : Value} (hr : VRel ι w M (.sl es h off len) V) :
    (∃ b base o cap T n, ι h = some (some (b, base)) ∧ (o = base + off ∨ cap = 0) ∧ len ≤ cap ∧ w.shape? b = some (T, n) ∧ o + cap * es ≤ n ∧ V = .slice (some ⟨b, o, none⟩) len cap) ∨
    (ι h = some none ∧ len = 0 ∧ V = .slice none 0 0) := by
  cases hr with
  | g _ _ h => cases h with
    | slice _ es n f a cap g hv => simp [AV.rov] at hv
    | sliceNil _ es f hv => simp [AV.rov] at hv
  | sl _ _ _ _ b base o cap T n hh ho hl hs hn => exact .inl ⟨b, base, o, cap, T, n, hh, ho, hl, hs, hn, rfl⟩
  | slv _ _ _ hh => exact .inr ⟨hh, rfl, rfl⟩
theorem VRel.cptr_inv {v : AV} {V : Value} (hr : VRel ι w M (.cptr v) V) : ∃ (a : Addr) (g : Nat → Value), V = .pointer (some a) ∧ a.spot = none ∧ ¬ M a.block ∧ a.block < w.heap.size ∧
    (∀ j, j < v.flat.length → w.cell? ⟨a.block, a.off + j, none⟩ = some (g j)) ∧ (∀ j, j < v.flat.length → GRel w M (v.flat.getD j .undef) (g j)) := by
  cases hr with
  | g _ _ h => cases h with
    | cptr _ a g hs hM hb hc hg => exact ⟨a, g, rfl, hs, hM, hb, hc, hg⟩
    | slice _ es n f a cap g hv => simp [AV.rov] at hv
    | sliceNil _ es f hv => simp [AV.rov] at hv
/-- of a slice that is a value -/
theorem VRel.rov_inv {v : AV} {es n : Nat} {f : Nat → AV} {V : Value} (hv : v.rov = some (es, n, f)) (hr : VRel ι w M v V) :
    (n = 0 ∧ V = .slice none 0 0) ∨ ∃ (a : Addr) (cap : Nat) (g : Nat → Value), V = .slice (some a) n cap ∧ a.spot = none ∧ ¬ M a.block ∧ a.block < w.heap.size ∧ n ≤ cap ∧ (∀ i, i < n → v.elen i = es) ∧
      (∀ j, j < n * es → w.cell? ⟨a.block, a.off + j, none⟩ = some (g j)) ∧ (∀ j, j < n * es → GRel w M (f j) (g j)) := by
  cases hr with
  | g _ _ h => cases h with
    | slice _ es' n' f' a cap g hv' hs hM hb hn he hc hg =>
      rw [hv] at hv'
      simp only [Option.some.injEq, Prod.mk.injEq] at hv'
      obtain ⟨rfl, rfl, rfl⟩ := hv'
      exact .inr ⟨a, cap, g, rfl, hs, hM, hb, hn, he, hc, hg⟩
    | sliceNil _ es' f' hv' =>
      rw [hv] at hv'
      simp only [Option.some.injEq, Prod.mk.injEq] at hv'
      exact .inl ⟨hv'.2.1, rfl⟩
    | _ => simp [AV.rov] at hv
  | _ => simp [AV.rov] at hv
theorem VRel.agg_inv {l : List AV} {V : Value} (hr : VRel ι w M (.agg l) V) : ∃ cs : Array Value, V = .agg cs ∧ cs.size = l.length ∧ ∀ j, j < l.length → VRel ι w M (l.getD j .undef) (cs.getD j default) := by
  cases hr with
  | g _ _ h => cases h with
    | agg _ cs hl hg => exact ⟨cs, rfl, hl, fun j hj => .g _ _ (hg j hj)⟩
    | slice _ es n f a cap g hv => simp [AV.rov] at hv
    | sliceNil _ es f hv => simp [AV.rov] at hv
  | agg _ cs hl hg => exact ⟨cs, rfl, hl, hg⟩
theorem VRel.tup_inv {l : List AV} {V : Value} (hr : VRel ι w M (.tup l) V) : ∃ cs : Array Value, V = .tuple cs ∧ cs.size = l.length ∧ ∀ j, j < l.length → VRel ι w M (l.getD j .undef) (cs.getD j default) := by
  cases hr with
  | g _ _ h => cases h with
    | tup _ cs hl hg => exact ⟨cs, rfl, hl, fun j hj => .g _ _ (hg j hj)⟩
    | slice _ es n f a cap g hv => simp [AV.rov] at hv
    | sliceNil _ es f hv => simp [AV.rov] at hv
  | tup _ cs hl hg => exact ⟨cs, rfl, hl, hg⟩
theorem VRel.iface_inv {t : Nat} {v : AV} {V : Value} (hr : VRel ι w M (.iface t v) V) : ∃ V', V = .iface t V' ∧ VRel ι w M v V' := by
  cases hr with
  | g _ _ h => cases h with
    | iface _ _ V hg => exact ⟨V, rfl, .g _ _ hg⟩
    | slice _ es n f a cap g hv => simp [AV.rov] at hv
    | sliceNil _ es f hv => simp [AV.rov] at hv
  | iface _ _ V hg => exact ⟨V, rfl, hg⟩
theorem VRel.fn_inv {f : Nat} {l : List AV} {V : Value} (hr : VRel ι w M (.fn f l) V) : ∃ cs : Array Value, V = .func (.func f) #[] cs ∧ cs.size = l.length ∧ ∀ j, j < l.length → VRel ι w M (l.getD j .undef) (cs.getD j default) := by
  cases hr with
  | g _ _ h => cases h with
    | fn => exact ⟨#[], rfl, rfl, fun j hj => by simp at hj⟩
    | slice _ es n f a cap g hv => simp [AV.rov] at hv
    | sliceNil _ es f hv => simp [AV.rov] at hv
  | fn _ _ cs hl hg => exact ⟨cs, rfl, hl, hg⟩

/-- a value's cells -/
theorem VRel.cells {v : AV} {V : Value} (h1 : v.one = true ∨ v.isAgg = true) (h : VRel ι w M v V) : V.cells.size = v.flat.length ∧ ∀ j, j < v.flat.length → VRel ι w M (v.flat.getD j .undef) (V.cells.getD j default) := by
  have single : ∀ V : Value, V.cells = #[V] → v.flat = [v] → VRel ι w M v V → V.cells.size = v.flat.length ∧ ∀ j, j < v.flat.length → VRel ι w M (v.flat.getD j .undef) (V.cells.getD j default) := by
    intro V hV hf hr
    rw [hV, hf]
    refine ⟨rfl, fun j hj => ?_⟩
    have : j = 0 := by simp at hj; omega
    subst this
    simpa using hr
  cases v with
  | agg l =>
    obtain ⟨cs, rfl, hl, hg⟩ := h.agg_inv
    exact ⟨hl, hg⟩
  | undef => simp [AV.one, AV.isAgg] at h1
  | tup l => simp [AV.one, AV.isAgg] at h1
  | raw x => simp [AV.one, AV.isAgg] at h1
  | bool b => obtain rfl := h.bool_inv; exact single _ rfl rfl h
  | int k n => obtain rfl := h.int_inv; exact single _ rfl rfl h
  | str s => obtain rfl := h.str_inv; exact single _ rfl rfl h
  | nilp => obtain rfl := h.nilp_inv; exact single _ rfl rfl h
  | nils => obtain rfl := h.nils_inv; exact single _ rfl rfl h
  | nili => obtain rfl := h.nili_inv; exact single _ rfl rfl h
  | nilf => obtain rfl := h.nilf_inv; exact single _ rfl rfl h
  | nilm => obtain rfl := h.nilm_inv; exact single _ rfl rfl h
  | ptr a o => obtain ⟨b, base, _, rfl⟩ := h.ptr_inv; exact single _ rfl rfl h
  | cptr v => obtain ⟨a, g, rfl, _⟩ := h.cptr_inv; exact single _ rfl rfl h
  | sl e a o n => rcases h.sl_inv with ⟨b, base, o, cap, T, n, _, _, _, _, _, rfl⟩ | ⟨_, _, rfl⟩ <;> exact single _ rfl rfl h
  | roI k l => rcases h.rov_inv rfl with ⟨_, rfl⟩ | ⟨a, cap, g, rfl, _⟩ <;> exact single _ rfl rfl h
  | roB l => rcases h.rov_inv rfl with ⟨_, rfl⟩ | ⟨a, cap, g, rfl, _⟩ <;> exact single _ rfl rfl h
  | ro e l => rcases h.rov_inv rfl with ⟨_, rfl⟩ | ⟨a, cap, g, rfl, _⟩ <;> exact single _ rfl rfl h
  | iface t v => obtain ⟨V', rfl, _⟩ := h.iface_inv; exact single _ rfl rfl h
  | fn f c => obtain ⟨cs, rfl, _⟩ := h.fn_inv; exact single _ rfl rfl h
/-- the value of one cell -/
theorem VRel.one {v : AV} {V : Value} (h1 : v.one = true) (h : VRel ι w M v V) : V.oneCell' = true ∧ V.cells = #[V] := by
  cases v with
  | agg l => simp [AV.one] at h1
  | undef => simp [AV.one] at h1
  | tup l => simp [AV.one] at h1
  | raw x => simp [AV.one] at h1
  | bool b => obtain rfl := h.bool_inv; exact ⟨rfl, rfl⟩
  | int k n => obtain rfl := h.int_inv; exact ⟨rfl, rfl⟩
  | str s => obtain rfl := h.str_inv; exact ⟨rfl, rfl⟩
  | nilp => obtain rfl := h.nilp_inv; exact ⟨rfl, rfl⟩
  | nils => obtain rfl := h.nils_inv; exact ⟨rfl, rfl⟩
  | nili => obtain rfl := h.nili_inv; exact ⟨rfl, rfl⟩
  | nilf => obtain rfl := h.nilf_inv; exact ⟨rfl, rfl⟩
  | nilm => obtain rfl := h.nilm_inv; exact ⟨rfl, rfl⟩
  | ptr a o => obtain ⟨b, base, _, rfl⟩ := h.ptr_inv; exact ⟨rfl, rfl⟩
  | cptr v => obtain ⟨a, g, rfl, _⟩ := h.cptr_inv; exact ⟨rfl, rfl⟩
  | sl e a o n => rcases h.sl_inv with ⟨b, base, o, cap, T, n, _, _, _, _, _, rfl⟩ | ⟨_, _, rfl⟩ <;> exact ⟨rfl, rfl⟩
  | roI k l => rcases h.rov_inv rfl with ⟨_, rfl⟩ | ⟨a, cap, g, rfl, _⟩ <;> exact ⟨rfl, rfl⟩
  | roB l => rcases h.rov_inv rfl with ⟨_, rfl⟩ | ⟨a, cap, g, rfl, _⟩ <;> exact ⟨rfl, rfl⟩
  | ro e l => rcases h.rov_inv rfl with ⟨_, rfl⟩ | ⟨a, cap, g, rfl, _⟩ <;> exact ⟨rfl, rfl⟩
  | iface t v => obtain ⟨V', rfl, _⟩ := h.iface_inv; exact ⟨rfl, rfl⟩
  | fn f c => obtain ⟨cs, rfl, _⟩ := h.fn_inv; exact ⟨rfl, rfl⟩
end

/-! ### a chunk where nothing of it has turned -/
theorem CRel.mono {ι ι' : Iota} {w w' : World} {M M' : Nat → Prop} {c : Chunk} {b base : Nat} (hi : Imm w M w' M') (hx : ∀ h p, ι h = some p → ι' h = some p) (hb : w'.heap[b]? = w.heap[b]?) (h : CRel ι w M c b base) : CRel ι' w' M' c b base := by
  obtain ⟨cs, T, fr, h1, h2, h3, h4⟩ := h
  exact ⟨cs, T, fr, hb.trans h1, h2, h3, fun j hj => (h4 j hj).mono hi hx⟩

theorem GoImm {n0 : Nat} {ι ι' : Iota} {s s' : St} {w w' : World} {M M' : Nat → Prop} (h : Go n0 ι s w M ι' s' w' M') (hM : ∀ b, Own ι s b → M b) : Imm w M w' M' :=
  ⟨h.size, fun b hb hm => ⟨fun hm' => hm (h.back b hb hm'), h.block b hb fun ho => hm (hM b ho)⟩, h.shape⟩
theorem Rep.ownM {ι : Iota} {s : St} {w : World} {M : Nat → Prop} (h : Rep ι s w M) {b : Nat} (hb : Own ι s b) : M b := by
  obtain ⟨hh, c, base, hg, hi⟩ := hb
  rcases h.own hh c hg with ⟨h1, _⟩ | ⟨b', base', h1, h2, _⟩
  · rw [hi] at h1; cases h1
  · rw [hi] at h1
    simp only [Option.some.injEq, Prod.mk.injEq] at h1
    obtain ⟨rfl, rfl⟩ := h1
    exact h2
theorem Go.refl {n0 : Nat} (ι : Iota) (s : St) (w : World) (M : Nat → Prop) (h : n0 ≤ s.next) : Go n0 ι s w M ι s w M :=
  ⟨Nat.le_refl _, rfl, rfl, rfl, fun _ _ _ => rfl, fun _ _ => rfl, fun _ _ h => h, fun _ h _ => h, fun _ _ h => h, h, fun _ _ => rfl⟩
theorem Go.trans {n0 : Nat} {ι ι1 ι2 : Iota} {s s1 s2 : St} {w w1 w2 : World} {M M1 M2 : Nat → Prop} (h : Go n0 ι s w M ι1 s1 w1 M1) (k : Go n0 ι1 s1 w1 M1 ι2 s2 w2 M2) (hM : ∀ b, M b → b < w.heap.size) : Go n0 ι s w M ι2 s2 w2 M2 :=
  ⟨Nat.le_trans h.size k.size, k.tape.trans h.tape, k.os.trans h.os, k.output.trans h.output,
   fun b hb ho => (k.block b (Nat.lt_of_lt_of_le hb h.size) fun ho' => ho (h.own b hb ho')).trans (h.block b hb ho),
   fun b hb => (k.shape b (Nat.lt_of_lt_of_le hb h.size)).trans (h.shape b hb),
   fun b hb hm => h.back b hb (k.back b (Nat.lt_of_lt_of_le hb h.size) hm),
   fun b hm ho => k.keep b (h.keep b hm ho) fun ho' => ho (h.own b (hM b hm) ho'),
   fun b hb ho => h.own b hb (k.own b (Nat.lt_of_lt_of_le hb h.size) ho),
   k.next, fun hh hn => (k.ext hh hn).trans (h.ext hh hn)⟩
theorem Go.weak {n0 n1 : Nat} {ι ι' : Iota} {s s' : St} {w w' : World} {M M' : Nat → Prop} (h : Go n1 ι s w M ι' s' w' M') (hn : n0 ≤ n1) : Go n0 ι s w M ι' s' w' M' :=
  ⟨h.size, h.tape, h.os, h.output, h.block, h.shape, h.back, h.keep, h.own, Nat.le_trans hn h.next, fun hh hl => h.ext hh (Nat.lt_of_lt_of_le hl hn)⟩
end Go.Ab
