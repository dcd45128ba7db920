/- The engine's soundness: new blocks; stores; appends. -/
import Derived.Test.YtomodeliimnddaaAbOps3
set_option linter.unusedVariables false
set_option linter.unusedSimpArgs false
set_option autoImplicit false
namespace Go.Ab

/-- a handle more -/
def Iota.set (ι : Iota) (h : Nat) (p : Option (Nat × Nat)) : Iota := fun j => if j = h then some p else ι j

section
variable {P : Program} {ι : Iota} {w : World} {M : Nat → Prop}

/-- An operation that makes a block: its value, the block, what lies in it. -/
def Mk (P : Program) (ι : Iota) (w : World) (M : Nat → Prop) (s : Sem Value) (nx : Nat) (v : AV) (c : Chunk) : Prop :=
  ∃ V cs T, s.run P w = .ok V (w.alloc (.cells cs T)) ∧ c.size ≤ cs.size ∧ (∀ j, j < c.size → VRel ι w M (c.get j) (cs.getD j default)) ∧
    ∀ ι' M', ι' nx = some (some (w.heap.size, 0)) → VRel ι' (w.alloc (.cells cs T)) M' v V

theorem newRow_run (e : Nat) (cs : Array Value) : (newRow e cs).run P w = .ok ⟨w.heap.size, 0, none⟩ (w.alloc (.cells cs e)) := by
  simp [newRow, World.alloc_eq]
theorem shape_alloc (cs : Array Value) (T : Nat) : (w.alloc (.cells cs T)).shape? w.heap.size = some (T, cs.size) := by
  unfold World.shape?
  rw [heap_alloc_new]
theorem zChunk_size (z : List (Nat × AV)) : (zChunk z).size = rlLen z := by
  unfold zChunk
  cases Nat.ble (rlLen z) 64 <;> simp [Chunk.size, rlList_length]
theorem zChunk_get (z : List (Nat × AV)) (j : Nat) : (zChunk z).get j = rlGet z j := by
  unfold zChunk
  cases Nat.ble (rlLen z) 64
  · rfl
  · exact rlList_get z j

theorem alloc_sound {t nx : Nat} {z : List (Nat × AV)} {old : Value} (h : zrl P t = some z) : Mk P ι w M (Instr.alloc t true old) nx (.ptr nx 0) (zChunk z) := by
  obtain ⟨Z, hZ, _, h1, h2⟩ := zrl_run (ι := ι) (M := M) (w := w) h
  refine ⟨.pointer (some ⟨w.heap.size, 0, none⟩), Z.cells, t, ?_, by rw [zChunk_size]; omega, fun j hj => by rw [zChunk_size] at hj; rw [zChunk_get]; exact h2 j hj, fun ι' M' hi => by simpa using VRel.ptr (ι := ι') nx 0 w.heap.size 0 hi⟩
  simp [Instr.alloc, hZ, newVar, newRow_run]
theorem box_sound {t nx : Nat} {v : AV} {V : Value} {c : Chunk} (hV : VRel ι w M v V) (h : (∃ l, v = .agg l ∧ c = .obj l) ∨ (v.one = true ∧ c = .obj [v])) : Mk P ι w M (Instr.box t V) nx (.ptr nx 0) c := by
  refine ⟨.pointer (some ⟨w.heap.size, 0, none⟩), V.cells, t, ?_, ?_, ?_, fun ι' M' hi => by simpa using VRel.ptr (ι := ι') nx 0 w.heap.size 0 hi⟩
  · simp [Instr.box, newVar, newRow_run]
  · rcases h with ⟨l, rfl, rfl⟩ | ⟨h1, rfl⟩
    · obtain ⟨cs, rfl, hl, hg⟩ := hV.agg_inv
      simp only [Chunk.size, Value.cells]; omega
    · rw [(hV.one h1).2]; simp [Chunk.size]
  · rcases h with ⟨l, rfl, rfl⟩ | ⟨h1, rfl⟩
    · obtain ⟨cs, rfl, hl, hg⟩ := hV.agg_inv
      exact hg
    · rw [(hV.one h1).2]
      intro j hj
      have : j = 0 := by simp [Chunk.size] at hj; omega
      subst this
      simpa [Chunk.get] using hV

theorem ints_get {k : IntKind} : ∀ {l : List AV} {m : List Int}, ints k l = some m → m.length = l.length ∧ ∀ j, j < l.length → l.getD j .undef = .int k (m.getD j 0)
  | [], m, h => by simp only [ints, Option.some.injEq] at h; subst h; exact ⟨rfl, fun j hj => by simp at hj⟩
  | v :: r, m, h => by
    cases v <;> simp only [ints, reduceCtorEq] at h
    rename_i k' n
    cases hr : ints k r with
    | none => simp [hr] at h
    | some q =>
      simp only [hr] at h
      split at h
      · rename_i hk
        simp only [Option.some.injEq] at h
        subst h
        subst hk
        obtain ⟨h1, h2⟩ := ints_get hr
        refine ⟨by simp [h1], fun j hj => ?_⟩
        cases j with
        | zero => simp
        | succ j => simpa using h2 j (by simpa using hj)
      · simp at h
theorem boolsA_get : ∀ {l : List AV} {m : List Bool}, boolsA l = some m → m.length = l.length ∧ ∀ j, j < l.length → l.getD j .undef = .bool (m.getD j false)
  | [], m, h => by simp only [boolsA, Option.some.injEq] at h; subst h; exact ⟨rfl, fun j hj => by simp at hj⟩
  | v :: r, m, h => by
    cases v <;> simp only [boolsA, reduceCtorEq] at h
    rename_i b
    cases hr : boolsA r with
    | none => simp [hr] at h
    | some q =>
      simp only [hr, Option.some.injEq] at h
      subst h
      obtain ⟨h1, h2⟩ := boolsA_get hr
      refine ⟨by simp [h1], fun j hj => ?_⟩
      cases j with
      | zero => simp
      | succ j => simpa using h2 j (by simpa using hj)
theorem rowOf_get {rk : RK} {l : List AV} {c : Chunk} (h : rowOf rk l = some c) : c.size = l.length ∧ ∀ j, j < l.length → c.get j = l.getD j .undef := by
  cases rk with
  | int k =>
    simp only [rowOf] at h
    obtain ⟨m, h1, rfl⟩ := Option.map_eq_some_iff.1 h
    obtain ⟨h2, h3⟩ := ints_get h1
    exact ⟨h2, fun j hj => (h3 j hj).symm⟩
  | bool =>
    simp only [rowOf] at h
    obtain ⟨m, h1, rfl⟩ := Option.map_eq_some_iff.1 h
    obtain ⟨h2, h3⟩ := boolsA_get h1
    exact ⟨h2, fun j hj => (h3 j hj).symm⟩
  | gen =>
    simp only [rowOf, Option.some.injEq] at h
    subst h
    exact ⟨rfl, fun j hj => rfl⟩
theorem repL_get (z : List AV) : ∀ (n j : Nat), j < n * z.length → (repL n z).getD j .undef = z.getD (j % z.length) .undef
  | 0, j, h => by simp at h
  | n + 1, j, h => by
    simp only [repL]
    by_cases hj : j < z.length
    · rw [Nat.mod_eq_of_lt hj]
      simp [List.getD_eq_getElem?_getD, List.getElem?_append, hj]
    · have h1 : j = (j - z.length) + z.length := by omega
      have h2 : (repL n z).getD (j - z.length) .undef = z.getD ((j - z.length) % z.length) .undef := repL_get z n (j - z.length) (by rw [Nat.add_mul] at h; omega)
      have h3 : ¬ (j - z.length + z.length < z.length) := by omega
      rw [h1, Nat.add_mod_right, ← h2]
      simp [List.getD_eq_getElem?_getD, List.getElem?_append, h3]
theorem repL_length (z : List AV) : ∀ n, (repL n z).length = n * z.length
  | 0 => by simp [repL]
  | n + 1 => by simp [repL, repL_length z n, Nat.add_mul]; omega

theorem range_mod (Z : Array Value) (m j : Nat) (h : j < m) (hz : 0 < Z.size) : ((Array.range m).map (Z[· % Z.size]!)).getD j default = Z.getD (j % Z.size) default := by
  simp [Array.getD, h, Nat.mod_lt _ hz]

theorem bslice_sound {t e es n nx : Nat} {ps : Array (Nat × Operand)} {z : List (Nat × AV)} {l : List (Nat × Nat × AOpd)} {ρ : AOpd → AV} {η : Operand → Value} {z' : List AV} {rk : RK} {c : Chunk} (hρ : ORel ι w M ρ η)
    (hu : P.underlying t = some (.slice e)) (hs : sizeP P e = some es) (hz : zrl P e = some z) (hl : rlLen z = es) (hn : n * es ≤ 16777216) (h0 : 0 < es) (hp : rowParts es ps.toList = some l)
    (h : fillA ρ (repL n (rlList z)) l = some z') (hr : rowOf rk z' = some c) : Mk P ι w M (Instr.buildSlice t n (ps.map fun p => (p.1, η p.2))) nx (.sl es nx 0 n) c := by
  obtain ⟨Z, hZ, hL, h1, h2⟩ := zrl_run (ι := ι) (M := M) (w := w) hz
  have hes : 0 < es := h0
  have hzs : Z.cells.size = es := by omega
  have hbase : LRel ι w M (repL n (rlList z)) ((Array.range (n * es)).map (Z.cells[· % Z.cells.size]!)) := by
    refine ⟨by simp [repL_length, rlList_length, hl], fun j hj => ?_⟩
    rw [repL_length, rlList_length, hl] at hj
    rw [repL_get _ _ _ (by rw [rlList_length, hl]; exact hj), range_mod _ _ _ hj (by omega), rlList_length, hl, hzs, rlList_get]
    exact h2 _ (by rw [hl]; exact Nat.mod_lt _ hes)
  obtain ⟨cs', h3, h4⟩ := fill_sound hρ (rowParts_spec es _ _ hp) _ z' _ hbase h
  obtain ⟨h5, h6⟩ := rowOf_get hr
  refine ⟨.slice (some ⟨w.heap.size, 0, none⟩) n n, cs', e, ?_, by rw [h5]; exact Nat.le_of_eq h4.1.symm, fun j hj => by rw [h6 j (by omega)]; exact h4.2 j (by omega), fun ι' M' hi => ?_⟩
  · have hnot : ¬ (n * es > 2 ^ 24) := by omega
    by_cases hne : n * es = 0
    · have e0 : ∀ F : Nat → Value, (Array.range (n * es)).map F = #[] := fun F => by rw [hne]; simp
      simp only [Instr.buildSlice, Sem.run_bind, run_underlying hu, Result.andThen_ok, sizeP_run hs, hnot, if_false, if_pos hne, Array.toList_map, Sem.run_pure]
      rw [e0] at h3 ⊢
      rw [h3]
      simp [newRow_run]
    simp only [Instr.buildSlice, Sem.run_bind, run_underlying hu, Result.andThen_ok, sizeP_run hs, hnot, if_false, hne, hZ, Array.toList_map, Sem.run_pure]
    rw [h3]
    simp [newRow_run]
  · refine .sl es nx 0 n w.heap.size 0 0 n e cs'.size hi (.inl rfl) (Nat.le_refl _) (shape_alloc _ _) ?_
    have := h4.1
    have hlen : z'.length = n * es := by
      have : ∀ (l : List (Nat × Nat × AOpd)) (z z' : List AV), fillA ρ z l = some z' → z'.length = z.length := by
        intro l
        induction l with
        | nil => intro z z' h; simp only [fillA, Option.some.injEq] at h; rw [h]
        | cons p r ih =>
          intro z z' h
          simp only [fillA] at h
          have : ∀ v : AV, (bif Nat.beq v.flat.length p.2.1 && Nat.ble (p.1 + p.2.1) z.length then fillA ρ (putL z p.1 v.flat) r else none) = some z' → z'.length = z.length := by
            intro v hv
            cases hc : (Nat.beq v.flat.length p.2.1 && Nat.ble (p.1 + p.2.1) z.length) with
            | false => simp [hc] at hv
            | true =>
              simp only [hc, cond_true] at hv
              rw [ih _ _ hv, putL_length]
          cases hy : ρ p.2.2 <;> simp only [hy, reduceCtorEq] at h <;> exact this _ h
      rw [this _ _ _ h, repL_length, rlList_length, hl]
    omega

theorem zeroRow_get {rk : RK} {z : List (Nat × AV)} {es n : Nat} (hk : zOk rk z = true) (hl : rlLen z = es) (he : 0 < es) : (zeroRow rk (rlList z) n).size = n * es ∧ ∀ j, j < n * es → (zeroRow rk (rlList z) n).get j = rlGet z (j % es) := by
  cases rk with
  | int k =>
    match z, hk, hl with
    | [(1, .int k' m)], hk, hl =>
      simp only [zOk, Bool.and_eq_true, decide_eq_true_eq] at hk
      obtain ⟨rfl, rfl⟩ := hk
      simp only [rlLen] at hl
      obtain rfl : es = 1 := by omega
      refine ⟨by simp [zeroRow, Chunk.size], fun j hj => ?_⟩
      have hj' : j < n := by omega
      simp [zeroRow, Chunk.get, rlGet, blt_eq, Nat.mod_one, List.getD_eq_getElem?_getD, hj']
  | bool =>
    match z, hk, hl with
    | [(1, .bool b)], hk, hl =>
      simp only [zOk, Bool.not_eq_true'] at hk
      subst hk
      simp only [rlLen] at hl
      obtain rfl : es = 1 := by omega
      refine ⟨by simp [zeroRow, Chunk.size], fun j hj => ?_⟩
      have hj' : j < n := by omega
      simp [zeroRow, Chunk.get, rlGet, blt_eq, Nat.mod_one, List.getD_eq_getElem?_getD, hj']
  | gen =>
    refine ⟨by simp [zeroRow, Chunk.size, rlList_length, hl], fun j hj => ?_⟩
    simp only [zeroRow, Chunk.get, rlList_length, hl, rlList_get]
theorem mkslice_sound {t e es b nx : Nat} {z : List (Nat × AV)} {rk : RK} {k : IntKind} {n : Int} (hu : P.underlying t = some (.slice e)) (hs : sizeP P e = some es) (hb : bytesP P e = some b) (hz : zrl P e = some z)
    (hk : zOk rk z = true) (hl : rlLen z = es) (he : 0 < es) (h0 : 0 ≤ n) (h1 : n * b ≤ 140737488355328) (h2 : n ≤ 140737488355328) :
    Mk P ι w M (Instr.makeSlice t (.int k n) (.int k n)) nx (.sl es nx 0 n.toNat) (zeroRow rk (rlList z) n.toNat) := by
  obtain ⟨Z, hZ, hL, h3, h4⟩ := zrl_run (ι := ι) (M := M) (w := w) hz
  obtain ⟨m, rfl⟩ := Int.eq_ofNat_of_zero_le h0
  have hwrap : IntKind.i64.wrap (m : Int) = m := IntWalk.i64_in _ (by omega)
  obtain ⟨i, hi1, hi2⟩ := sizeP_some hs
  have hi3 : i.bytes = b := by
    unfold bytesP at hb
    obtain ⟨i', h5, h6⟩ := Option.map_eq_some_iff.1 hb
    rw [hi1] at h5
    cases h5
    exact h6
  have hbm : (b : Int) * m ≤ 140737488355328 := by rw [Int.mul_comm]; exact h1
  have hc : ¬ ((b : Int) * m > 2 ^ 48) := by omega
  obtain ⟨h5, h6⟩ := zeroRow_get (n := m) hk hl he
  refine ⟨.slice (some ⟨w.heap.size, 0, none⟩) m m, (Array.range (m * es)).map (Z.cells[· % Z.cells.size]!), e, ?_, ?_, ?_, fun ι' M' hi => ?_⟩
  · have hti : (typeInfo e).run P w = .ok i w := by simp [typeInfo, hi1]
    have hneg : ¬ ((m : Int) < 0) := by omega
    have hbi : ¬ ((2 : Int) ^ 48 < (b : Int) * m) := by omega
    simp only [Instr.makeSlice, Sem.run_bind, run_underlying hu, Result.andThen_ok, asInt, asIntOf, Sem.run_pure, hti, hi3, hwrap]
    simp only [gt_iff_lt, hneg, hbi, decide_false, Bool.or_false, Bool.false_eq_true, if_false, Int.lt_irrefl, Bool.or_self, Sem.run_bind, run_askRoom, Result.andThen_ok, sizeP_run hs, Int.toNat_natCast]
    by_cases hz0 : m * es = 0
    · have hr : ∀ (f g : Nat → Value), (Array.range 0).map f = (Array.range 0).map g := fun _ _ => by apply Array.ext'; simp
      simp [hz0, newRow_run]
      exact congrArg (fun c => w.alloc (Obj.cells c e)) (hr _ _)
    · simp [hz0, hZ, newRow_run]
  · simp only [Int.toNat_natCast, h5]; simp
  · intro j hj
    simp only [Int.toNat_natCast, h5] at hj ⊢
    rw [h6 j hj, range_mod _ _ _ hj (by omega), show Z.cells.size = es by omega]
    exact h4 _ (by rw [hl]; exact Nat.mod_lt _ he)
  · refine .sl es nx 0 _ w.heap.size 0 0 m e (m * es) hi (.inl rfl) (by simp) ?_ (by omega)
    rw [shape_alloc]
    simp

/-! ### stores -/
/-- cells put into a block -/
def putA : List Value → Nat → Array Value → Array Value
  | [], _, cs => cs
  | v :: r, o, cs => putA r (o + 1) (cs.setIfInBounds o v)
theorem putA_size : ∀ (vs : List Value) (o : Nat) (cs : Array Value), (putA vs o cs).size = cs.size
  | [], o, cs => rfl
  | v :: r, o, cs => by rw [putA, putA_size r]; simp
theorem putA_get : ∀ (vs : List Value) (o j : Nat) (cs : Array Value), o + vs.length ≤ cs.size → (putA vs o cs).getD j default = if o ≤ j ∧ j < o + vs.length then vs.getD (j - o) default else cs.getD j default
  | [], o, j, cs, h => by simp [putA]; omega
  | v :: r, o, j, cs, h => by
    simp only [List.length_cons] at h
    rw [putA, putA_get r (o + 1) j _ (by simp; omega)]
    simp only [List.length_cons]
    by_cases h1 : o + 1 ≤ j ∧ j < o + 1 + r.length
    · rw [if_pos h1, if_pos (by omega), show j - o = (j - (o + 1)) + 1 by omega]
      simp [List.getD_eq_getElem?_getD]
    · rw [if_neg h1]
      by_cases h2 : j = o
      · subst h2
        have hlt : j < cs.size := by omega
        rw [if_pos (by omega)]
        simp [List.getD_eq_getElem?_getD, Array.getD, hlt]
      · rw [if_neg (by omega)]
        have h5 : o ≠ j := fun e => h2 e.symm
        simp only [Array.getD_eq_getD_getElem?, Array.getElem?_setIfInBounds_ne h5]
theorem setCells_heap : ∀ (vs : List Value) (b o : Nat) (w : World) (cs : Array Value) (T : Nat) (fr : Nat × Nat), w.heap[b]? = some (.cells cs T fr) →
    (w.setCells b o vs).heap[b]? = some (.cells (putA vs o cs) T fr)
  | [], b, o, w, cs, T, fr, h => h
  | v :: r, b, o, w, cs, T, fr, h => by
    rw [World.setCells, putA]
    refine setCells_heap r b (o + 1) _ _ T fr ?_
    simp [World.setCell, Array.getElem?_modify, h]
theorem setCells_other : ∀ (vs : List Value) (b o k : Nat) (w : World), k ≠ b → (w.setCells b o vs).heap[k]? = w.heap[k]?
  | [], b, o, k, w, h => rfl
  | v :: r, b, o, k, w, h => by rw [World.setCells, setCells_other r b (o + 1) k _ h, heap_setCell_other _ _ _ _ h]
theorem setCells_same : ∀ (vs : List Value) (b o : Nat) (w : World), (w.setCells b o vs).heap.size = w.heap.size ∧ (w.setCells b o vs).tape = w.tape ∧ (w.setCells b o vs).os = w.os ∧ (w.setCells b o vs).output = w.output
  | [], b, o, w => ⟨rfl, rfl, rfl, rfl⟩
  | v :: r, b, o, w => by
    rw [World.setCells]
    obtain ⟨h1, h2, h3, h4⟩ := setCells_same r b (o + 1) (w.setCell ⟨b, o, none⟩ v)
    exact ⟨h1.trans (by simp), h2.trans (by simp), h3.trans rfl, h4.trans rfl⟩
theorem setCells_shape (vs : List Value) (b o k : Nat) (w : World) (cs : Array Value) (T : Nat) (fr : Nat × Nat) (h : w.heap[b]? = some (.cells cs T fr)) : (w.setCells b o vs).shape? k = w.shape? k := by
  unfold World.shape?
  by_cases hk : k = b
  · subst hk
    rw [setCells_heap vs k o w cs T fr h, h]
    simp [putA_size]
  · rw [setCells_other vs b o k w hk]

theorem storeVar_run {t sz : Nat} {V : Value} {b o : Nat} {cs : Array Value} {T : Nat} {fr : Nat × Nat} (hz : sizeP P t = some sz) (hh : w.heap[b]? = some (.cells cs T fr)) (hf : ∀ i, i < cs.size → ¬ (fr.1 ≤ i ∧ i < fr.2))
    (hs : V.cells.size = sz) (hle : o + sz ≤ cs.size) (h1 : ∀ u ∈ V.cells.toList, u.oneCell' = true) : (Instr.storeAt t (.pointer (some ⟨b, o, none⟩)) V).run P w = .ok () (w.setCells b o V.cells.toList) := by
  have hst := run_storeCells_cells (P := P) b o V.cells.toList 0 w (fun j hj => by
      have : o + 0 + j < cs.size := by simp at hj; omega
      simp only [Nat.add_zero] at this
      simp [World.cell?, hh, this]) (fun j hj => by
      have h2 : o + 0 + j < cs.size := by simp at hj; omega
      have := hf _ h2
      obtain ⟨lo, hi⟩ := fr
      simp only [World.frozen?, hh]
      simp only at this
      simp; omega) h1
  simp only [Nat.add_zero] at hst
  simp [Instr.storeAt, Instr.sureAddr, storeVar, sizeP_run hz, hs, hst]

theorem put_spec {c c' : Chunk} {off : Nat} {vs : List AV} (h : c.put off vs = some c') (hle : off + vs.length ≤ c.size) :
    c'.size = c.size ∧ ∀ j, j < c.size → c'.get j = if off ≤ j ∧ j < off + vs.length then vs.getD (j - off) .undef else c.get j := by
  cases c with
  | obj l =>
    simp only [Chunk.put, Option.some.injEq] at h
    subst h
    exact ⟨putL_length _ _ _, fun j hj => putL_get _ _ _ _ hle⟩
  | rowI k l =>
    simp only [Chunk.put] at h
    split at h
    · rename_i k' n
      split at h
      · rename_i hk
        subst hk
        simp only [Option.some.injEq] at h
        subst h
        simp only [Chunk.size, List.length_singleton] at hle
        refine ⟨by simp [Chunk.size], fun j hj => ?_⟩
        simp only [Chunk.get, List.length_singleton]
        by_cases hj2 : j = off
        · subst hj2
          rw [if_pos (by omega)]
          have : j < l.length := by omega
          simp [List.getD_eq_getElem?_getD, this]
        · rw [if_neg (by omega)]
          have : off ≠ j := fun e => hj2 e.symm
          simp [List.getD_eq_getElem?_getD, List.getElem?_set, this]
      · simp at h
    · simp at h
  | rowB l =>
    simp only [Chunk.put] at h
    split at h
    · rename_i b
      simp only [Option.some.injEq] at h
      subst h
      simp only [Chunk.size, List.length_singleton] at hle
      refine ⟨by simp [Chunk.size], fun j hj => ?_⟩
      simp only [Chunk.get, List.length_singleton]
      by_cases hj2 : j = off
      · subst hj2
        rw [if_pos (by omega)]
        have : j < l.length := by omega
        simp [List.getD_eq_getElem?_getD, this]
      · rw [if_neg (by omega)]
        have : off ≠ j := fun e => hj2 e.symm
        simp [List.getD_eq_getElem?_getD, List.getElem?_set, this]
    · simp at h
  | fn n f =>
    simp only [Chunk.put, Option.some.injEq] at h
    subst h
    refine ⟨rfl, fun j hj => ?_⟩
    simp only [Chunk.get, blt_eq]
    have : Nat.ble off j = decide (off ≤ j) := by rw [Bool.eq_iff_iff, decide_eq_true_eq]; exact iff_of_eq Nat.ble_eq
    rw [this]
    by_cases hb : off ≤ j ∧ j < off + vs.length
    · rw [if_pos hb]; simp [hb.1, hb.2]
    · rw [if_neg hb]
      by_cases h1 : off ≤ j
      · have : ¬ j < off + vs.length := fun h2 => hb ⟨h1, h2⟩
        simp [h1, this]
      · simp [h1]

end
end Go.Ab
