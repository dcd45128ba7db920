/- The engine's soundness: addresses, loads, cuts, conversions. -/
import Derived.Test.YtomodeliimnddaaAbOps1
set_option linter.unusedVariables false
set_option linter.unusedSimpArgs false
set_option autoImplicit false
namespace Go.Ab

section
variable {P : Program} {ι : Iota} {w : World} {M : Nat → Prop}

/-- what is known of memory, by handles -/
def HGet (ι : Iota) (w : World) (M : Nat → Prop) (get : Nat → Option Chunk) : Prop :=
  ∀ h c p, get h = some c → ι h = some p → (p = none ∧ c.size = 0) ∨ ∃ b base, p = some (b, base) ∧ CRel ι w M c b base

theorem add_eq (a : Addr) (n : Nat) (h : a.spot = none) : a.add n = ⟨a.block, a.off + n, none⟩ := by
  obtain ⟨b, o, s⟩ := a
  simp only at h
  subst h
  unfold Addr.add
  split <;> simp_all

theorem aggP_run {t : Nat} {a : Bool} (h : aggP P t = some a) : (isAgg t).run P w = .ok a w := by
  unfold aggP at h
  unfold isAgg
  cases hu : P.underlying t with
  | none => simp [hu] at h
  | some d =>
    rw [Sem.run_bind, run_underlying hu, Result.andThen_ok]
    cases d <;> simp only [hu, Option.some.injEq] at h <;> subst h <;> rfl
theorem sizeP_some {t n : Nat} (h : sizeP P t = some n) : ∃ i, P.info? t = some i ∧ i.size = n := by
  unfold sizeP at h
  obtain ⟨i, h1, h2⟩ := Option.map_eq_some_iff.1 h
  exact ⟨i, h1, h2⟩
theorem sizeP_run {t n : Nat} (h : sizeP P t = some n) : (sizeOf t).run P w = .ok n w := by
  obtain ⟨i, h1, h2⟩ := sizeP_some h
  simp [sizeOf, typeInfo, h1, h2]

theorem loadVar_run {t sz : Nat} {agg : Bool} (a : Addr) (g : Nat → Value) (hs : a.spot = none) (hc : ∀ j, j < sz → w.cell? ⟨a.block, a.off + j, none⟩ = some (g j))
    (ha : aggP P t = some agg) (hz : sizeP P t = some sz) (h : agg = true ∨ sz = 1) : (loadVar t a).run P w = .ok (if agg then .agg ((List.range sz).map g).toArray else g 0) w := by
  cases agg with
  | true =>
    have hl := run_loadCells (P := P) w a sz g (fun j hj => by rw [add_eq a j hs]; exact hc j hj)
    simp [loadVar, aggP_run ha, sizeP_run hz, hl]
  | false =>
    have h1 : sz = 1 := by simpa using h
    subst h1
    have h0 := hc 0 (by omega)
    have ha0 : a = ⟨a.block, a.off + 0, none⟩ := by
      obtain ⟨b, o, s⟩ := a
      simp only at hs
      subst hs
      simp
    simp only [loadVar, Sem.run_bind, aggP_run ha, Result.andThen_ok]
    rw [ha0]
    simp only [run_load, h0, Bool.false_eq_true, if_false]

theorem getD_range_map (n : Nat) (g : Nat → Value) (j : Nat) (h : j < n) : ((List.range n).map g).toArray.getD j default = g j := by
  simp [Array.getD, h]

theorem fits_load {v : AV} {agg : Bool} {sz : Nat} (hf : fits agg sz v = true) : (agg = true ∧ ∃ l, v = .agg l ∧ l.length = sz) ∨ (agg = false ∧ v.one = true ∧ v.flat = [v]) := by
  cases v <;> simp only [fits, Bool.and_eq_true, Bool.not_eq_true', AV.one, Bool.false_eq_true, and_false, and_true] at hf
  case agg l => exact .inl ⟨hf.1, l, rfl, by simpa using hf.2⟩
  all_goals exact .inr ⟨hf, rfl, rfl⟩

theorem load_cptr {t sz : Nat} {agg : Bool} {v : AV} {A : Value} (hA : VRel ι w M (.cptr v) A) (ha : aggP P t = some agg) (hz : sizeP P t = some sz) (h1 : agg = true ∨ sz = 1) (hf : fits agg sz v = true) :
    ∃ V, (Instr.loadAt t A).run P w = .ok V w ∧ VRel ι w M v V := by
  obtain ⟨a, g, rfl, hs, hM, hb, hc, hg⟩ := hA.cptr_inv
  rcases fits_load hf with ⟨rfl, l, rfl, hl⟩ | ⟨rfl, h2, h3⟩
  · simp only [AV.flat] at hc hg
    subst hl
    refine ⟨_, by simp only [Instr.loadAt, Instr.sureAddr, Sem.run_bind, Sem.run_pure, Result.andThen_ok]; exact loadVar_run a g hs hc ha hz (.inl rfl), ?_⟩
    refine .g _ _ (.agg _ _ (by simp) fun j hj => ?_)
    rw [getD_range_map _ _ _ hj]
    exact hg j hj
  · have h1' : sz = 1 := by simpa using h1
    subst h1'
    rw [h3] at hc hg
    refine ⟨_, by simp only [Instr.loadAt, Instr.sureAddr, Sem.run_bind, Sem.run_pure, Result.andThen_ok]; exact loadVar_run a g hs hc ha hz (.inr rfl), ?_⟩
    have := hg 0 (by simp)
    exact .g _ _ (by simpa using this)

theorem CRel.cell {c : Chunk} {b base j : Nat} (h : CRel ι w M c b base) (hj : j < c.size) : ∃ V, w.cell? ⟨b, base + j, none⟩ = some V ∧ VRel ι w M (c.get j) V := by
  obtain ⟨cs, T, fr, h1, h2, h3, h4⟩ := h
  have hlt : base + j < cs.size := by omega
  refine ⟨cs[base + j], by simp [World.cell?, h1, hlt], ?_⟩
  have := h4 j hj
  rwa [show cs.getD (base + j) default = cs[base + j] by simp [Array.getD, hlt]] at this

/-- what a load of a chunk tells -/
theorem ld_spec {c : Chunk} {agg : Bool} {off sz : Nat} {v : AV} (hl : c.ld agg off sz = (true, v)) (h1 : agg = true ∨ sz = 1) :
    off + sz ≤ c.size ∧ ((agg = true ∧ ∃ l, v = .agg l ∧ l.length = sz ∧ ∀ j, j < sz → l.getD j .undef = c.get (off + j)) ∨ (agg = false ∧ v = c.get off)) := by
  cases c with
  | obj l =>
    simp only [Chunk.ld, Prod.mk.injEq] at hl
    obtain ⟨h2, h3⟩ := hl
    have hle : off + sz ≤ l.length := by simpa using h2
    refine ⟨hle, ?_⟩
    cases agg with
    | true =>
      simp only [cut, cond_true] at h3
      refine .inl ⟨rfl, _, h3.symm, by simp; omega, fun j hj => ?_⟩
      simp [Chunk.get, List.getD_eq_getElem?_getD, List.getElem?_take, hj]
    | false =>
      simp only [cut, cond_false] at h3
      exact .inr ⟨rfl, h3.symm⟩
  | rowI k l =>
    simp only [Chunk.ld, Prod.mk.injEq, Bool.and_eq_true, Bool.not_eq_true', decide_eq_true_eq] at hl
    obtain ⟨⟨⟨h2, h4⟩, h5⟩, h3⟩ := hl
    have : sz = 1 := by simpa using h2
    subst this
    exact ⟨by simp only [Chunk.size]; omega, .inr ⟨h4, h3.symm⟩⟩
  | rowB l =>
    simp only [Chunk.ld, Prod.mk.injEq, Bool.and_eq_true, Bool.not_eq_true', decide_eq_true_eq] at hl
    obtain ⟨⟨⟨h2, h4⟩, h5⟩, h3⟩ := hl
    have : sz = 1 := by simpa using h2
    subst this
    exact ⟨by simp only [Chunk.size]; omega, .inr ⟨h4, h3.symm⟩⟩
  | fn n f =>
    simp only [Chunk.ld, Prod.mk.injEq, decide_eq_true_eq] at hl
    obtain ⟨h2, h3⟩ := hl
    refine ⟨h2, ?_⟩
    cases agg with
    | true =>
      simp only [cond_true] at h3
      refine .inl ⟨rfl, _, h3.symm, by simp, fun j hj => ?_⟩
      simp [Chunk.get, List.getD_eq_getElem?_getD, hj]
    | false =>
      simp only [cond_false] at h3
      exact .inr ⟨rfl, h3.symm⟩

theorem load_ptr {t sz h off : Nat} {agg : Bool} {v : AV} {A : Value} {c : Chunk} {get : Nat → Option Chunk} (hA : VRel ι w M (.ptr h off) A) (hG : HGet ι w M get) (hg : get h = some c)
    (ha : aggP P t = some agg) (hz : sizeP P t = some sz) (h1 : agg = true ∨ sz = 1) (hl : c.ld agg off sz = (true, v)) :
    ∃ V, (Instr.loadAt t A).run P w = .ok V w ∧ VRel ι w M v V := by
  obtain ⟨b, base, hi, rfl⟩ := hA.ptr_inv
  rcases hG h c _ hg hi with ⟨h2, _⟩ | ⟨b', base', h2, hC⟩
  · cases h2
  · simp only [Option.some.injEq, Prod.mk.injEq] at h2
    obtain ⟨rfl, rfl⟩ := h2
    obtain ⟨hle, hv⟩ := ld_spec hl h1
    have hcell : ∀ j, j < sz → ∃ V, w.cell? ⟨b, base + off + j, none⟩ = some V ∧ VRel ι w M (c.get (off + j)) V := fun j hj => by
      have := hC.cell (j := off + j) (by omega)
      rwa [← Nat.add_assoc] at this
    let g : Nat → Value := fun j => if hj : j < sz then (hcell j hj).choose else default
    have hgc : ∀ j, j < sz → w.cell? ⟨b, base + off + j, none⟩ = some (g j) := fun j hj => by
      simp only [g, hj, dif_pos]; exact (hcell j hj).choose_spec.1
    have hgr : ∀ j, j < sz → VRel ι w M (c.get (off + j)) (g j) := fun j hj => by
      simp only [g, hj, dif_pos]; exact (hcell j hj).choose_spec.2
    refine ⟨_, by simp only [Instr.loadAt, Instr.sureAddr, Sem.run_bind, Sem.run_pure, Result.andThen_ok]; exact loadVar_run ⟨b, base + off, none⟩ g rfl hgc ha hz h1, ?_⟩
    rcases hv with ⟨rfl, l, rfl, hl1, hl2⟩ | ⟨rfl, rfl⟩
    · refine .agg _ _ (by simp [hl1]) fun j hj => ?_
      rw [hl2 j (by omega), getD_range_map _ _ _ (by omega)]
      exact hgr j (by omega)
    · have hs1 : sz = 1 := by simpa using h1
      have := hgr 0 (by omega)
      simpa using this
/-! ### addresses -/
theorem fld_run {t i : Nat} {fs : Array Field} {f : Field} {n : Nat} (hu : P.underlying t = some (.struct fs)) (hf : fs[i]? = some f) (hz : sizeP P f.type = some n) (hn : n ≠ 0) (a : Addr) :
    (Instr.fieldAt t (.pointer (some a)) i).run P w = .ok (.pointer (some (a.add f.offset))) w := by
  simp [Instr.fieldAt, run_underlying hu, hf, Instr.sureAddr, fieldPlace, sizeP_run hz, hn]
theorem fld_ptr {t i : Nat} {fs : Array Field} {f : Field} {n h o : Nat} {A : Value} (hu : P.underlying t = some (.struct fs)) (hf : fs[i]? = some f) (hz : sizeP P f.type = some n) (hn : n ≠ 0) (hA : VRel ι w M (.ptr h o) A) :
    ∃ V, (Instr.fieldAt t A i).run P w = .ok V w ∧ VRel ι w M (.ptr h (o + f.offset)) V := by
  obtain ⟨b, base, hi, rfl⟩ := hA.ptr_inv
  refine ⟨_, fld_run hu hf hz hn _, ?_⟩
  rw [add_eq _ _ rfl]
  have := VRel.ptr (ι := ι) (w := w) (M := M) h (o + f.offset) b base hi
  rwa [← Nat.add_assoc] at this
theorem cptr_sub {l : List AV} {agg : Bool} {off sz : Nat} {A : Value} (a : Addr) (h1 : agg = true ∨ sz = 1) (hA : VRel ι w M (.cptr (.agg l)) (.pointer (some a))) (hl : off + sz ≤ l.length) (hs : a.spot = none)
    (hone : agg = false → (l.getD off .undef).flat = [l.getD off .undef]) : VRel ι w M (.cptr (cut l agg off sz)) (.pointer (some (a.add off))) := by
  obtain ⟨a', g, he, hs', hM, hb, hc, hg⟩ := hA.cptr_inv
  obtain rfl : a = a' := by injection he with he; injection he with he
  rw [add_eq _ _ hs]
  simp only [AV.flat] at hc hg
  have key : ∀ j, j < (cut l agg off sz).flat.length → off + j < l.length ∧ (cut l agg off sz).flat.getD j .undef = l.getD (off + j) .undef := by
    intro j hj
    cases agg with
    | true =>
      simp only [cut, cond_true, AV.flat, List.length_take, List.length_drop] at hj ⊢
      refine ⟨by omega, ?_⟩
      have : j < sz := by omega
      simp [List.getD_eq_getElem?_getD, List.getElem?_take, this]
    | false =>
      simp only [cut, cond_false] at hj ⊢
      have h1' : sz = 1 := by simpa using h1
      rw [hone rfl] at hj ⊢
      have : j = 0 := by simp at hj; omega
      subst this
      exact ⟨by omega, by simp⟩
  refine .g _ _ (.cptr _ _ (fun j => g (off + j)) rfl hM hb (fun j hj => ?_) (fun j hj => ?_))
  · obtain ⟨k1, k2⟩ := key j hj
    have := hc (off + j) k1
    rwa [← Nat.add_assoc] at this
  · obtain ⟨k1, k2⟩ := key j hj
    rw [k2]
    exact hg (off + j) k1

/-- an index's place in memory -/
theorem idx_run_slice {t e es : Nat} (hu : P.underlying t = some (.slice e)) (hz : sizeP P e = some es) (a : Addr) (len cap : Nat) (k : IntKind) (i : Int) (h0 : 0 ≤ i) (h1 : i < len) :
    (Instr.indexAt t (.slice (some a) len cap) (.int k i)).run P w = .ok (.pointer (some (a.add (i.toNat * es)))) w := by
  simp [Instr.indexAt, asIntOf, run_underlying hu, h0, h1, sizeP_run hz]
theorem idx_run_array {t e es n : Nat} (hu : P.underlying t = some (.array n e)) (hz : sizeP P e = some es) (a : Addr) (k : IntKind) (i : Int) (h0 : 0 ≤ i) (h1 : i < n) :
    (Instr.indexAt t (.pointer (some a)) (.int k i)).run P w = .ok (.pointer (some (a.add (i.toNat * es)))) w := by
  simp [Instr.indexAt, asIntOf, run_underlying hu, Instr.sureAddr, h0, h1, sizeP_run hz]

theorem idx_sl {t e es h off len : Nat} {k : IntKind} {i : Int} {A : Value} (hu : P.underlying t = some (.slice e)) (hz : sizeP P e = some es) (hA : VRel ι w M (.sl es h off len) A) (h0 : 0 ≤ i) (h1 : i < len) :
    ∃ V, (Instr.indexAt t A (.int k i)).run P w = .ok V w ∧ VRel ι w M (.ptr h (off + i.toNat * es)) V := by
  rcases hA.sl_inv with ⟨b, base, o, cap, T, n, hi, ho, hl, hs, hn, rfl⟩ | ⟨_, rfl, rfl⟩
  · refine ⟨_, idx_run_slice hu hz _ _ _ _ _ h0 h1, ?_⟩
    rw [add_eq _ _ rfl]
    have ho' : o = base + off := by
      rcases ho with h | h
      · exact h
      · omega
    subst ho'
    have := VRel.ptr (ι := ι) (w := w) (M := M) h (off + i.toNat * es) b base hi
    rwa [← Nat.add_assoc] at this
  · omega
theorem idx_arr {t e es n h off : Nat} {k : IntKind} {i : Int} {A : Value} (hu : P.underlying t = some (.array n e)) (hz : sizeP P e = some es) (hA : VRel ι w M (.ptr h off) A) (h0 : 0 ≤ i) (h1 : i < n) :
    ∃ V, (Instr.indexAt t A (.int k i)).run P w = .ok V w ∧ VRel ι w M (.ptr h (off + i.toNat * es)) V := by
  obtain ⟨b, base, hi, rfl⟩ := hA.ptr_inv
  refine ⟨_, idx_run_array hu hz _ _ _ h0 h1, ?_⟩
  rw [add_eq _ _ rfl]
  have := VRel.ptr (ι := ι) (w := w) (M := M) h (off + i.toNat * es) b base hi
  rwa [← Nat.add_assoc] at this
/-- an element of a slice that is a value -/
theorem idx_ro {t e es n : Nat} {f : Nat → AV} {v u : AV} {k : IntKind} {i : Int} {A : Value} (hu : P.underlying t = some (.slice e)) (hz : sizeP P e = some es) (hv : v.rov = some (es, n, f)) (hA : VRel ι w M v A) (h0 : 0 ≤ i) (h1 : i < n)
    (hul : u.flat.length = v.elen i.toNat) (huf : ∀ j, j < es → u.flat.getD j .undef = f (i.toNat * es + j)) :
    ∃ V, (Instr.indexAt t A (.int k i)).run P w = .ok V w ∧ VRel ι w M (.cptr u) V := by
  rcases hA.rov_inv hv with ⟨rfl, rfl⟩ | ⟨a, cap, g, rfl, hs, hM, hb, hn, he, hc, hg⟩
  · omega
  · refine ⟨_, idx_run_slice hu hz _ _ _ _ _ h0 h1, ?_⟩
    rw [add_eq _ _ hs]
    have hlt : i.toNat < n := by omega
    have hul' : u.flat.length = es := hul.trans (he _ hlt)
    have hb' : ∀ j, j < es → i.toNat * es + j < n * es := fun j hj => by
      have : (i.toNat + 1) * es ≤ n * es := Nat.mul_le_mul_right _ hlt
      rw [Nat.add_mul] at this
      omega
    refine .g _ _ (.cptr _ _ (fun j => g (i.toNat * es + j)) rfl hM hb (fun j hj => ?_) (fun j hj => ?_))
    · have := hc (i.toNat * es + j) (hb' j (by omega))
      rwa [← Nat.add_assoc] at this
    · rw [huf j (by omega)]
      exact hg _ (hb' j (by omega))

/-! ### cuts -/
theorem bnd_spec {lo hi : Option AV} {len a b cap : Nat} {LO HI : Option Value} (isS : Bool) (h : bnd lo hi len = some (true, a, b)) (hlo : ∀ x, lo = some x → ∃ X, LO = some X ∧ VRel ι w M x X) (hlo' : lo = none → LO = none)
    (hhi : ∀ x, hi = some x → ∃ X, HI = some X ∧ VRel ι w M x X) (hhi' : hi = none → HI = none) (hc : len ≤ cap) :
    (Instr.sliceBounds isS len cap LO HI none).run P w = .ok (a, b, cap) w ∧ a ≤ b ∧ b ≤ len := by
  unfold bnd at h
  split at h
  · simp only [Option.some.injEq, Prod.mk.injEq, true_and] at h
    obtain ⟨rfl, rfl⟩ := h
    rw [hlo' rfl, hhi' rfl]
    exact ⟨by simp [Instr.sliceBounds], by omega, Nat.le_refl _⟩
  · rename_i k l
    simp only [Option.some.injEq, Prod.mk.injEq, Bool.and_eq_true, decide_eq_true_eq] at h
    obtain ⟨⟨h1, h2⟩, rfl, rfl⟩ := h
    obtain ⟨X, hX, hr⟩ := hlo _ rfl
    obtain rfl := hr.int_inv
    rw [hX, hhi' rfl]
    exact ⟨by simp [Instr.sliceBounds, Instr.sliceBound, asIntOf, h1, h2], by omega, Nat.le_refl _⟩
  · rename_i k l
    simp only [Option.some.injEq, Prod.mk.injEq, Bool.and_eq_true, decide_eq_true_eq] at h
    obtain ⟨⟨h1, h2⟩, rfl, rfl⟩ := h
    obtain ⟨X, hX, hr⟩ := hhi _ rfl
    obtain rfl := hr.int_inv
    rw [hX, hlo' rfl]
    have h3 : l ≤ (cap : Int) := by omega
    exact ⟨by simp [Instr.sliceBounds, Instr.sliceBound, asIntOf, h1, h3], by omega, by omega⟩
  · rename_i k l k' m
    simp only [Option.some.injEq, Prod.mk.injEq, Bool.and_eq_true, decide_eq_true_eq] at h
    obtain ⟨⟨⟨h1, h2⟩, h3⟩, rfl, rfl⟩ := h
    obtain ⟨X, hX, hr⟩ := hlo _ rfl
    obtain rfl := hr.int_inv
    obtain ⟨Y, hY, hr'⟩ := hhi _ rfl
    obtain rfl := hr'.int_inv
    rw [hX, hY]
    have h4 : m ≤ (cap : Int) := by omega
    have h5 : 0 ≤ m := by omega
    have h6 : l ≤ ((m.toNat : Nat) : Int) := by omega
    refine ⟨?_, by omega, by omega⟩
    simp only [Instr.sliceBounds, Instr.sliceBound, asIntOf, Sem.run_bind, Sem.run_pure, Result.andThen_ok, Sem.run_ite, h1, h4, h5, h6, and_self, if_true, and_true, true_and]
  · simp at h

theorem slice_run {t e es : Nat} (hu : P.underlying t = some (.slice e)) (hz : sizeP P e = some es) (A : Option Addr) (len cap a b : Nat) (LO HI : Option Value)
    (hb : ∀ isS, (Instr.sliceBounds isS len cap LO HI none).run P w = .ok (a, b, cap) w) : (Instr.sliceAt t (.slice A len cap) LO HI none).run P w = .ok (.slice (if cap = a then A else A.map (·.add (a * es))) (b - a) (cap - a)) w := by
  simp [Instr.sliceAt, Instr.slice, run_underlying hu, hb, sizeP_run hz]
theorem slice_run_str {t : Nat} (hu : P.underlying t = some .string) (s : ByteArray) (a b : Nat) (LO HI : Option Value)
    (hb : ∀ isS, (Instr.sliceBounds isS s.size s.size LO HI none).run P w = .ok (a, b, s.size) w) : (Instr.sliceAt t (.string s) LO HI none).run P w = .ok (.string (s.extract a b)) w := by
  simp [Instr.sliceAt, Instr.slice, run_underlying hu, hb]
theorem slice_run_arr {t e es n : Nat} (hu : P.underlying t = some (.array n e)) (hz : sizeP P e = some es) (A : Addr) (a b : Nat) (LO HI : Option Value)
    (hb : ∀ isS, (Instr.sliceBounds isS n n LO HI none).run P w = .ok (a, b, n) w) : (Instr.sliceAt t (.pointer (some A)) LO HI none).run P w = .ok (.slice (some (if n = a then A else A.add (a * es))) (b - a) (n - a)) w := by
  simp [Instr.sliceAt, Instr.sureAddr, run_underlying hu, hb, sizeP_run hz]

/-- a cut of a slice that is a value -/
theorem cut_rel {v v' : AV} {es n a b : Nat} {f f' : Nat → AV} {A : Value} (hv : v.rov = some (es, n, f)) (hv' : v'.rov = some (es, b - a, f')) (hf : ∀ j, j < (b - a) * es → f' j = f (a * es + j)) (hel : ∀ i, i < b - a → v'.elen i = v.elen (a + i))
    (hab : a ≤ b) (hbn : b ≤ n) (hA : VRel ι w M v A) : ∃ AA len cap, A = .slice AA len cap ∧ len = n ∧ n ≤ cap ∧ VRel ι w M v' (.slice (if cap = a then AA else AA.map (·.add (a * es))) (b - a) (cap - a)) := by
  rcases hA.rov_inv hv with ⟨rfl, rfl⟩ | ⟨ad, cap, g, rfl, hs, hM, hb, hn, he, hc, hg⟩
  · refine ⟨none, 0, 0, rfl, rfl, Nat.le_refl _, ?_⟩
    have h0 : b - a = 0 := by omega
    have h1 : a = 0 := by omega
    subst h1
    simp only [h0, if_true, Nat.sub_self]
    exact .g _ _ (.sliceNil _ es f' (by rw [hv', h0]))
  · refine ⟨some ad, n, cap, rfl, rfl, hn, ?_⟩
    by_cases hca : cap = a
    · have h0 : b - a = 0 := by omega
      rw [if_pos hca]
      refine .g _ _ (.slice _ es (b - a) f' ad _ g hv' hs hM hb (by omega) (fun i hi => by omega) (fun j hj => ?_) (fun j hj => ?_)) <;> (rw [h0] at hj; omega)
    · rw [if_neg hca, Option.map_some, add_eq _ _ hs]
      have hle : ∀ j, j < (b - a) * es → a * es + j < n * es := fun j hj => by
        have h1 : (a + (b - a)) * es ≤ n * es := Nat.mul_le_mul_right _ (by omega)
        rw [Nat.add_mul] at h1
        omega
      refine .g _ _ (.slice _ es (b - a) f' _ _ (fun j => g (a * es + j)) hv' rfl hM hb (by omega) (fun i hi => by rw [hel i hi]; exact he _ (by omega)) (fun j hj => ?_) (fun j hj => ?_))
      · have := hc _ (hle j hj)
        rwa [← Nat.add_assoc] at this
      · rw [hf j hj]
        exact hg _ (hle j hj)
theorem getD_drop_take {α : Type} (l : List α) (a n j : Nat) (d : α) (h : j < n) : ((l.drop a).take n).getD j d = l.getD (a + j) d := by
  simp [List.getD_eq_getElem?_getD, List.getElem?_take, h]
theorem ro_div (es a j : Nat) (h : es ≠ 0) : (a * es + j) / es = a + j / es := by
  rw [Nat.add_comm, Nat.add_mul_div_right _ _ (by omega), Nat.add_comm]
theorem ro_mod (es a j : Nat) : (a * es + j) % es = j % es := by
  rw [Nat.add_comm, Nat.add_mul_mod_self_right]

theorem skP_spec {t : Nat} {sk : SK} (h : skP P t = some sk) : (∃ el es, P.underlying t = some (.slice el) ∧ sizeP P el = some es ∧ sk = .sl es) ∨ (P.underlying t = some .string ∧ sk = .str) ∨
    (∃ n el es, P.underlying t = some (.array n el) ∧ sizeP P el = some es ∧ sk = .arr n es) := by
  unfold skP at h
  split at h
  · rename_i e hu
    obtain ⟨es, h1, h2⟩ := Option.map_eq_some_iff.1 h
    exact .inl ⟨e, es, hu, h1, h2.symm⟩
  · rename_i hu
    exact .inr (.inl ⟨hu, (Option.some.inj h).symm⟩)
  · rename_i n e hu
    obtain ⟨es, h1, h2⟩ := Option.map_eq_some_iff.1 h
    exact .inr (.inr ⟨n, e, es, hu, h1, h2.symm⟩)
  · simp at h

theorem slice_sound {t : Nat} {sk : SK} {x v : AV} {lo hi : Option AV} {X : Value} {LO HI : Option Value} {get : Nat → Option Chunk} {e : Eff} (hX : VRel ι w M x X) (hG : HGet ι w M get)
    (hlo : ∀ x, lo = some x → ∃ X, LO = some X ∧ VRel ι w M x X) (hlo' : lo = none → LO = none) (hhi : ∀ x, hi = some x → ∃ X, HI = some X ∧ VRel ι w M x X) (hhi' : hi = none → HI = none)
    (ht : skP P t = some sk) (h : sliceA get sk x lo hi = .ok true v e) : (∃ V, (Instr.sliceAt t X LO HI none).run P w = .ok V w ∧ VRel ι w M v V) ∧ e = .no := by
  have B : ∀ (len a b cap : Nat), bnd lo hi len = some (true, a, b) → len ≤ cap → (∀ isS, (Instr.sliceBounds isS len cap LO HI none).run P w = .ok (a, b, cap) w) ∧ a ≤ b ∧ b ≤ len := fun len a b cap hb hc =>
    ⟨fun isS => (bnd_spec (P := P) isS hb hlo hlo' hhi hhi' hc).1, (bnd_spec (P := P) (cap := cap) false hb hlo hlo' hhi hhi' hc).2⟩
  have ro : ∀ (el es n a b : Nat) (f f' : Nat → AV) (v' : AV), P.underlying t = some (.slice el) → sizeP P el = some es → bnd lo hi n = some (true, a, b) → x.rov = some (es, n, f) → v'.rov = some (es, b - a, f') →
      (∀ j, j < (b - a) * es → f' j = f (a * es + j)) → (∀ i, i < b - a → v'.elen i = x.elen (a + i)) → ∃ V, (Instr.sliceAt t X LO HI none).run P w = .ok V w ∧ VRel ι w M v' V := by
    intro el es n a b f f' v' hu hz hb hv hv' hf hel
    obtain ⟨h1, h2⟩ := (B n a b n hb (Nat.le_refl _)).2
    obtain ⟨AA, len, cap, rfl, rfl, hnc, hr⟩ := cut_rel hv hv' hf hel h1 h2 hX
    exact ⟨_, slice_run hu hz _ _ _ _ _ _ _ (B _ a b cap hb hnc).1, hr⟩
  rcases skP_spec ht with ⟨el, es, hu, hz, rfl⟩ | ⟨hu, rfl⟩ | ⟨n, el, es, hu, hz, rfl⟩
  · cases x <;> simp only [sliceA, reduceCtorEq] at h
    case nils =>
      cases hb : bnd lo hi 0 with
      | none => simp [hb] at h
      | some q =>
        obtain ⟨c, a, b⟩ := q
        simp only [hb, Res.ok.injEq] at h
        obtain ⟨rfl, rfl, rfl⟩ := h
        obtain rfl := hX.nils_inv
        obtain ⟨h1, h2, h3⟩ := B 0 a b 0 hb (Nat.le_refl _)
        obtain rfl : b = 0 := by omega
        obtain rfl : a = 0 := by omega
        exact ⟨⟨_, slice_run hu hz _ _ _ _ _ _ _ h1, by simpa using VRel.g _ _ .nils⟩, rfl⟩
    case roI k l =>
      cases hb : bnd lo hi l.length with
      | none => simp [hb] at h
      | some q =>
        obtain ⟨c, a, b⟩ := q
        simp only [hb, Res.ok.injEq, Bool.and_eq_true] at h
        obtain ⟨⟨rfl, h1⟩, rfl, rfl⟩ := h
        obtain rfl : es = 1 := by simpa using h1
        obtain ⟨h2, h3⟩ := (B _ a b _ hb (Nat.le_refl _)).2
        refine ⟨ro el 1 _ a b _ _ _ hu hz hb rfl (by simp only [AV.rov, List.length_take, List.length_drop]; rw [Nat.min_eq_left (by omega)]) (fun j hj => ?_) (fun i hi => rfl), rfl⟩
        rw [getD_drop_take _ _ _ _ _ (by omega), Nat.mul_one]
    case roB l =>
      cases hb : bnd lo hi l.length with
      | none => simp [hb] at h
      | some q =>
        obtain ⟨c, a, b⟩ := q
        simp only [hb, Res.ok.injEq, Bool.and_eq_true] at h
        obtain ⟨⟨rfl, h1⟩, rfl, rfl⟩ := h
        obtain rfl : es = 1 := by simpa using h1
        obtain ⟨h2, h3⟩ := (B _ a b _ hb (Nat.le_refl _)).2
        refine ⟨ro el 1 _ a b _ _ _ hu hz hb rfl (by simp only [AV.rov, List.length_take, List.length_drop]; rw [Nat.min_eq_left (by omega)]) (fun j hj => ?_) (fun i hi => rfl), rfl⟩
        rw [getD_drop_take _ _ _ _ _ (by omega), Nat.mul_one]
    case ro e l =>
      cases hb : bnd lo hi l.length with
      | none => simp [hb] at h
      | some q =>
        obtain ⟨c, a, b⟩ := q
        simp only [hb, Res.ok.injEq, Bool.and_eq_true] at h
        obtain ⟨⟨⟨rfl, h1⟩, h4⟩, rfl, rfl⟩ := h
        obtain rfl : e = es := by simpa using h1
        have h4' : 0 < e := by simpa using h4
        obtain ⟨h2, h3⟩ := (B _ a b _ hb (Nat.le_refl _)).2
        refine ⟨ro el e _ a b _ _ _ hu hz hb rfl (by simp only [AV.rov, List.length_take, List.length_drop]; rw [Nat.min_eq_left (by omega)]) (fun j hj => ?_) (fun i hi => ?_), rfl⟩
        · have hd : j / e < b - a := (Nat.div_lt_iff_lt_mul h4').2 hj
          rw [getD_drop_take _ _ _ _ _ hd, ro_div _ _ _ (by omega), ro_mod]
        · simp only [AV.elen]
          rw [getD_drop_take _ _ _ _ _ hi]
    case sl e hh off n =>
      cases hb : bnd lo hi n with
      | none => simp [hb] at h
      | some q =>
        obtain ⟨c, a, b⟩ := q
        simp only [hb, Res.ok.injEq, Bool.and_eq_true] at h
        obtain ⟨⟨rfl, h1⟩, rfl, rfl⟩ := h
        obtain rfl : e = es := by simpa using h1
        rcases hX.sl_inv with ⟨bb, base, o, cap, T, N, hi', ho, hl, hs, hn, rfl⟩ | ⟨hv, rfl, rfl⟩
        · obtain ⟨h1, h2, h3⟩ := B n a b cap hb hl
          refine ⟨⟨_, slice_run hu hz _ _ _ _ _ _ _ h1, ?_⟩, rfl⟩
          by_cases hca : cap = a
          · rw [if_pos hca]
            refine .sl e hh _ _ bb base o _ T N hi' (.inr (by omega)) (by omega) hs ?_
            have : cap - a = 0 := by omega
            rw [this]
            omega
          · rw [if_neg hca, Option.map_some, add_eq _ _ rfl]
            have hle : a * e + (cap - a) * e = cap * e := by rw [← Nat.add_mul]; congr 1; omega
            refine .sl e hh _ _ bb base _ _ T N hi' (.inl ?_) (by omega) hs (by simp only; omega)
            simp only
            rcases ho with h | h <;> omega
        · obtain ⟨h1, h2, h3⟩ := B 0 a b 0 hb (Nat.le_refl _)
          obtain rfl : b = 0 := by omega
          obtain rfl : a = 0 := by omega
          refine ⟨⟨_, slice_run hu hz _ _ _ _ _ _ _ h1, ?_⟩, rfl⟩
          simpa using VRel.slv e hh off hv
  · cases x <;> simp only [sliceA, reduceCtorEq] at h
    case str s =>
      cases hb : bnd lo hi s.size with
      | none => simp [hb] at h
      | some q =>
        obtain ⟨c, a, b⟩ := q
        simp only [hb, Res.ok.injEq] at h
        obtain ⟨rfl, rfl, rfl⟩ := h
        obtain rfl := hX.str_inv
        obtain ⟨h1, h2, h3⟩ := B s.size a b s.size hb (Nat.le_refl _)
        exact ⟨⟨_, slice_run_str hu s a b _ _ h1, .g _ _ (.str _)⟩, rfl⟩
  · cases x <;> simp only [sliceA, reduceCtorEq] at h
    case ptr hh off =>
      cases hg : get hh with
      | none => simp [hg] at h
      | some ch =>
        cases hb : bnd lo hi n with
        | none => simp [hg, hb] at h
        | some q =>
          obtain ⟨c, a, b⟩ := q
          simp only [hg, hb, Res.ok.injEq, Bool.and_eq_true, decide_eq_true_eq] at h
          obtain ⟨⟨rfl, h1⟩, rfl, rfl⟩ := h
          obtain ⟨bb, base, hi', rfl⟩ := hX.ptr_inv
          obtain ⟨h2, h3, h4⟩ := B n a b n hb (Nat.le_refl _)
          rcases hG hh ch _ hg hi' with ⟨h5, _⟩ | ⟨b', base', h5, cs, T, fr, h6, h7, h8, h9⟩
          · cases h5
          · simp only [Option.some.injEq, Prod.mk.injEq] at h5
            obtain ⟨rfl, rfl⟩ := h5
            have hsh : w.shape? bb = some (T, cs.size) := by simp [World.shape?, h6]
            refine ⟨⟨_, slice_run_arr hu hz _ a b _ _ h2, ?_⟩, rfl⟩
            by_cases hca : n = a
            · rw [if_pos hca]
              refine .sl es hh _ _ bb base _ _ T cs.size hi' (.inr (by omega)) (by omega) hsh ?_
              have : n - a = 0 := by omega
              rw [this]
              omega
            · rw [if_neg hca, add_eq _ _ rfl]
              have hle : a * es + (n - a) * es = n * es := by rw [← Nat.add_mul]; congr 1; omega
              exact .sl es hh _ _ bb base _ _ T cs.size hi' (.inl (by simp only; omega)) (by omega) hsh (by simp only; omega)

end
end Go.Ab
