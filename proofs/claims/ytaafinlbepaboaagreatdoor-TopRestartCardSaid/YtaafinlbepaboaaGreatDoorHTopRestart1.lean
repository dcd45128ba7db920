/- The engine's soundness: new blocks; stores; appends. The engine's soundness: states of memory, one after the other. The engine's soundness: what a store, an append does to a state of memory. The engine's soundness: append. The engine's soundness: every operation. -/
import Derived.Test.YtaafinlbepaboaaGreatDoorHTopRestart0
set_option linter.unusedVariables false
set_option linter.unusedSimpArgs false
set_option autoImplicit false
namespace Go.Ab

/-- a handle more -/
def Iota.set (ι : Iota) (h : Nat) (p : Option (Nat × Nat)) : Iota := fun j => if j = h then some p else ι j

section
variable {P : Program} {ι : Iota} {w : World} {M : Nat → Prop}

/-- An operation that makes a block: its value, the block, what lies in it. -/
def Mk (P : Program) (ι : Iota) (w : World) (M : Nat → Prop) (s : Sem Value) (nx : Nat) (v : AV) (c : Chunk) : Prop :=
  ∃ V cs T, s.run P w = .ok V (w.alloc (.cells cs T)) ∧ c.size ≤ cs.size ∧ (∀ j, j < c.size → VRel ι w M (c.get j) (cs.getD j default)) ∧
    ∀ ι' M', ι' nx = some (some (w.heap.size, 0)) → VRel ι' (w.alloc (.cells cs T)) M' v V

theorem newRow_run (e : Nat) (cs : Array Value) : (newRow e cs).run P w = .ok ⟨w.heap.size, 0, none⟩ (w.alloc (.cells cs e)) := by
  simp [newRow, World.alloc_eq]
theorem shape_alloc (cs : Array Value) (T : Nat) : (w.alloc (.cells cs T)).shape? w.heap.size = some (T, cs.size) := by
  unfold World.shape?
  rw [heap_alloc_new]
theorem zChunk_size (z : List (Nat × AV)) : (zChunk z).size = rlLen z := by
  unfold zChunk
  cases Nat.ble (rlLen z) 64 <;> cases intsR z <;> simp [Chunk.size, rlList_length]
theorem zChunk_get (z : List (Nat × AV)) (j : Nat) (hj : j < rlLen z) : (zChunk z).get j = rlGet z j := by
  unfold zChunk
  cases Nat.ble (rlLen z) 64
  · cases hi : intsR z
    · rfl
    · exact (intsR_get z j hi hj).symm
  · exact rlList_get z j

theorem alloc_sound {t nx : Nat} {z : List (Nat × AV)} {old : Value} (h : zrl P t = some z) : Mk P ι w M (Instr.alloc t true old) nx (.ptr nx 0) (zChunk z) := by
  obtain ⟨Z, hZ, _, h1, h2⟩ := zrl_run (ι := ι) (M := M) (w := w) h
  refine ⟨.pointer (some ⟨w.heap.size, 0, none⟩), Z.cells, t, ?_, by rw [zChunk_size]; omega, fun j hj => by rw [zChunk_size] at hj; rw [zChunk_get _ _ hj]; exact h2 j hj, fun ι' M' hi => by simpa using VRel.ptr (ι := ι') nx 0 w.heap.size 0 hi⟩
  simp [Instr.alloc, hZ, newVar, newRow_run]
theorem box_sound {t nx : Nat} {v : AV} {V : Value} {c : Chunk} (hV : VRel ι w M v V) (h : (∃ l, v = .agg l ∧ c = .obj l) ∨ (∃ n k g, v = .aggI n k g ∧ c = .blk n k g) ∨ (v.one = true ∧ c = .obj [v])) : Mk P ι w M (Instr.box t V) nx (.ptr nx 0) c := by
  refine ⟨.pointer (some ⟨w.heap.size, 0, none⟩), V.cells, t, ?_, ?_, ?_, fun ι' M' hi => by simpa using VRel.ptr (ι := ι') nx 0 w.heap.size 0 hi⟩
  · simp [Instr.box, newVar, newRow_run]
  · rcases h with ⟨l, rfl, rfl⟩ | ⟨n, k, g, rfl, rfl⟩ | ⟨h1, rfl⟩
    · obtain ⟨cs, rfl, hl, hg⟩ := hV.agg_inv
      simp only [Chunk.size, Value.cells]; omega
    · obtain ⟨cs, rfl, hl, hg⟩ := hV.aggI_inv
      simp only [Chunk.size, Value.cells]; omega
    · rw [(hV.one h1).2]; simp [Chunk.size]
  · rcases h with ⟨l, rfl, rfl⟩ | ⟨n, k, g, rfl, rfl⟩ | ⟨h1, rfl⟩
    · obtain ⟨cs, rfl, hl, hg⟩ := hV.agg_inv
      exact hg
    · obtain ⟨cs, rfl, hl, hg⟩ := hV.aggI_inv
      intro j hj
      simp only [Value.cells, hg j hj, Chunk.get]
      exact .g _ _ (.int _ _)
    · rw [(hV.one h1).2]
      intro j hj
      have : j = 0 := by simp [Chunk.size] at hj; omega
      subst this
      simpa [Chunk.get] using hV

theorem ints_get {k : IntKind} : ∀ {l : List AV} {m : List Int}, ints k l = some (true, m) → m.length = l.length ∧ ∀ j, j < l.length → l.getD j .undef = .int k (m.getD j 0)
  | [], m, h => by simp only [ints, Option.some.injEq, Prod.mk.injEq, true_and] at h; subst h; exact ⟨rfl, fun j hj => by simp at hj⟩
  | v :: r, m, h => by
    cases v <;> simp only [ints, reduceCtorEq] at h
    rename_i k' n
    cases hr : ints k r with
    | none => simp [hr] at h
    | some q =>
      obtain ⟨b, q⟩ := q
      simp only [hr, Option.some.injEq, Prod.mk.injEq, Bool.and_eq_true, decide_eq_true_eq] at h
      obtain ⟨⟨hk, rfl⟩, rfl⟩ := h
      subst hk
      obtain ⟨h1, h2⟩ := ints_get hr
      refine ⟨by simp [h1], fun j hj => ?_⟩
      cases j with
      | zero => simp
      | succ j => simpa using h2 j (by simpa using hj)
theorem boolsA_get : ∀ {l : List AV} {m : List Bool}, boolsA l = some m → m.length = l.length ∧ ∀ j, j < l.length → l.getD j .undef = .bool (m.getD j false)
  | [], m, h => by simp only [boolsA, Option.some.injEq] at h; subst h; exact ⟨rfl, fun j hj => by simp at hj⟩
  | v :: r, m, h => by
    cases v <;> simp only [boolsA, reduceCtorEq] at h
    rename_i b
    cases hr : boolsA r with
    | none => simp [hr] at h
    | some q =>
      simp only [hr, Option.some.injEq] at h
      subst h
      obtain ⟨h1, h2⟩ := boolsA_get hr
      refine ⟨by simp [h1], fun j hj => ?_⟩
      cases j with
      | zero => simp
      | succ j => simpa using h2 j (by simpa using hj)
theorem rowOf_get {rk : RK} {l : List AV} {c : Chunk} (h : rowOf rk l = some (true, c)) : c.size = l.length ∧ ∀ j, j < l.length → c.get j = l.getD j .undef := by
  cases rk with
  | int k =>
    simp only [rowOf] at h
    split at h
    · rename_i b m h1
      simp only [Option.some.injEq, Prod.mk.injEq] at h
      obtain ⟨rfl, rfl⟩ := h
      obtain ⟨h2, h3⟩ := ints_get h1
      exact ⟨h2, fun j hj => (h3 j hj).symm⟩
    · cases hn : numsA k l with
      | false => simp [hn] at h
      | true =>
        simp only [hn, cond_true, Option.some.injEq, Prod.mk.injEq, true_and] at h
        subst h
        exact ⟨rfl, fun j hj => rfl⟩
  | bool =>
    simp only [rowOf] at h
    split at h
    · rename_i m h1
      simp only [Option.some.injEq, Prod.mk.injEq, true_and] at h
      subst h
      obtain ⟨h2, h3⟩ := boolsA_get h1
      exact ⟨h2, fun j hj => (h3 j hj).symm⟩
    · simp at h
  | gen =>
    simp only [rowOf, Option.some.injEq, Prod.mk.injEq, true_and] at h
    subst h
    exact ⟨rfl, fun j hj => rfl⟩
theorem repL_get (z : List AV) : ∀ (n j : Nat), j < n * z.length → (repL n z).getD j .undef = z.getD (j % z.length) .undef
  | 0, j, h => by simp at h
  | n + 1, j, h => by
    simp only [repL]
    by_cases hj : j < z.length
    · rw [Nat.mod_eq_of_lt hj]
      simp [List.getD_eq_getElem?_getD, List.getElem?_append, hj]
    · have h1 : j = (j - z.length) + z.length := by omega
      have h2 : (repL n z).getD (j - z.length) .undef = z.getD ((j - z.length) % z.length) .undef := repL_get z n (j - z.length) (by rw [Nat.add_mul] at h; omega)
      have h3 : ¬ (j - z.length + z.length < z.length) := by omega
      rw [h1, Nat.add_mod_right, ← h2]
      simp [List.getD_eq_getElem?_getD, List.getElem?_append, h3]
theorem repL_length (z : List AV) : ∀ n, (repL n z).length = n * z.length
  | 0 => by simp [repL]
  | n + 1 => by simp [repL, repL_length z n, Nat.add_mul]; omega

theorem range_mod (Z : Array Value) (m j : Nat) (h : j < m) (hz : 0 < Z.size) : ((Array.range m).map (Z[· % Z.size]!)).getD j default = Z.getD (j % Z.size) default := by
  simp [Array.getD, h, Nat.mod_lt _ hz]

theorem bslice_sound {t e es n nx : Nat} {ps : Array (Nat × Operand)} {z : List (Nat × AV)} {l : List (Nat × Nat × AOpd)} {ρ : AOpd → AV} {η : Operand → Value} {z' : List AV} {rk : RK} {c : Chunk} (hρ : ORel ι w M ρ η)
    (hu : P.underlying t = some (.slice e)) (hs : sizeP P e = some es) (hz : zrl P e = some z) (hl : rlLen z = es) (hn : n * es ≤ 16777216) (h0 : 0 < es) (hp : rowParts es ps.toList = some l)
    (h : fillA ρ (repL n (rlList z)) l = some z') (hr : rowOf rk z' = some (true, c)) : Mk P ι w M (Instr.buildSlice t n (ps.map fun p => (p.1, η p.2))) nx (.sl es nx 0 n) c := by
  obtain ⟨Z, hZ, hL, h1, h2⟩ := zrl_run (ι := ι) (M := M) (w := w) hz
  have hes : 0 < es := h0
  have hzs : Z.cells.size = es := by omega
  have hbase : LRel ι w M (repL n (rlList z)) ((Array.range (n * es)).map (Z.cells[· % Z.cells.size]!)) := by
    refine ⟨by simp [repL_length, rlList_length, hl], fun j hj => ?_⟩
    rw [repL_length, rlList_length, hl] at hj
    rw [repL_get _ _ _ (by rw [rlList_length, hl]; exact hj), range_mod _ _ _ hj (by omega), rlList_length, hl, hzs, rlList_get]
    exact h2 _ (by rw [hl]; exact Nat.mod_lt _ hes)
  obtain ⟨cs', h3, h4⟩ := fill_sound hρ (rowParts_spec es _ _ hp) _ z' _ hbase h
  obtain ⟨h5, h6⟩ := rowOf_get hr
  refine ⟨.slice (some ⟨w.heap.size, 0, none⟩) n n, cs', e, ?_, by rw [h5]; exact Nat.le_of_eq h4.1.symm, fun j hj => by rw [h6 j (by omega)]; exact h4.2 j (by omega), fun ι' M' hi => ?_⟩
  · have hnot : ¬ (n * es > 2 ^ 24) := by omega
    by_cases hne : n * es = 0
    · have e0 : ∀ F : Nat → Value, (Array.range (n * es)).map F = #[] := fun F => by rw [hne]; simp
      simp only [Instr.buildSlice, Sem.run_bind, run_underlying hu, Result.andThen_ok, sizeP_run hs, hnot, if_false, if_pos hne, Array.toList_map, Sem.run_pure]
      rw [e0] at h3 ⊢
      rw [h3]
      simp [newRow_run]
    simp only [Instr.buildSlice, Sem.run_bind, run_underlying hu, Result.andThen_ok, sizeP_run hs, hnot, if_false, hne, hZ, Array.toList_map, Sem.run_pure]
    rw [h3]
    simp [newRow_run]
  · refine .sl es nx 0 n w.heap.size 0 0 n e cs'.size hi (.inl rfl) (Nat.le_refl _) (shape_alloc _ _) ?_
    have := h4.1
    have hlen : z'.length = n * es := by
      have : ∀ (l : List (Nat × Nat × AOpd)) (z z' : List AV), fillA ρ z l = some z' → z'.length = z.length := by
        intro l
        induction l with
        | nil => intro z z' h; simp only [fillA, Option.some.injEq] at h; rw [h]
        | cons p r ih =>
          intro z z' h
          simp only [fillA] at h
          have : ∀ v : AV, (bif Nat.beq v.flat.length p.2.1 && Nat.ble (p.1 + p.2.1) z.length then fillA ρ (putL z p.1 v.flat) r else none) = some z' → z'.length = z.length := by
            intro v hv
            cases hc : (Nat.beq v.flat.length p.2.1 && Nat.ble (p.1 + p.2.1) z.length) with
            | false => simp [hc] at hv
            | true =>
              simp only [hc, cond_true] at hv
              rw [ih _ _ hv, putL_length]
          cases hy : ρ p.2.2 <;> simp only [hy, reduceCtorEq] at h <;> exact this _ h
      rw [this _ _ _ h, repL_length, rlList_length, hl]
    omega

theorem zeroRow_get {rk : RK} {z : List (Nat × AV)} {es n : Nat} (hk : zOk rk z = true) (hl : rlLen z = es) (he : 0 < es) : (zeroRow rk (rlList z) n).size = n * es ∧ ∀ j, j < n * es → (zeroRow rk (rlList z) n).get j = rlGet z (j % es) := by
  cases rk with
  | int k =>
    match z, hk, hl with
    | [(1, .int k' m)], hk, hl =>
      simp only [zOk, Bool.and_eq_true, decide_eq_true_eq] at hk
      obtain ⟨rfl, rfl⟩ := hk
      simp only [rlLen] at hl
      obtain rfl : es = 1 := by omega
      refine ⟨by simp [zeroRow, Chunk.size], fun j hj => ?_⟩
      have hj' : j < n := by omega
      simp [zeroRow, Chunk.get, rlGet, blt_eq, Nat.mod_one, List.getD_eq_getElem?_getD, hj']
  | bool =>
    match z, hk, hl with
    | [(1, .bool b)], hk, hl =>
      simp only [zOk, Bool.not_eq_true'] at hk
      subst hk
      simp only [rlLen] at hl
      obtain rfl : es = 1 := by omega
      refine ⟨by simp [zeroRow, Chunk.size], fun j hj => ?_⟩
      have hj' : j < n := by omega
      simp [zeroRow, Chunk.get, rlGet, blt_eq, Nat.mod_one, List.getD_eq_getElem?_getD, hj']
  | gen =>
    refine ⟨by simp [zeroRow, Chunk.size, rlList_length, hl], fun j hj => ?_⟩
    simp only [zeroRow, Chunk.get, rlList_length, hl, rlList_get]
theorem mkslice_sound {t e es b nx : Nat} {z : List (Nat × AV)} {rk : RK} {k : IntKind} {n : Int} (hu : P.underlying t = some (.slice e)) (hs : sizeP P e = some es) (hb : bytesP P e = some b) (hz : zrl P e = some z)
    (hk : zOk rk z = true) (hl : rlLen z = es) (he : 0 < es) (h0 : 0 ≤ n) (h1 : n * b ≤ 140737488355328) (h2 : n ≤ 140737488355328) :
    Mk P ι w M (Instr.makeSlice t (.int k n) (.int k n)) nx (.sl es nx 0 n.toNat) (zeroRow rk (rlList z) n.toNat) := by
  obtain ⟨Z, hZ, hL, h3, h4⟩ := zrl_run (ι := ι) (M := M) (w := w) hz
  obtain ⟨m, rfl⟩ := Int.eq_ofNat_of_zero_le h0
  have hwrap : IntKind.i64.wrap (m : Int) = m := IntWalk.i64_in _ (by omega)
  obtain ⟨i, hi1, hi2⟩ := sizeP_some hs
  have hi3 : i.bytes = b := by
    unfold bytesP at hb
    obtain ⟨i', h5, h6⟩ := Option.map_eq_some_iff.1 hb
    rw [hi1] at h5
    cases h5
    exact h6
  have hbm : (b : Int) * m ≤ 140737488355328 := by rw [Int.mul_comm]; exact h1
  have hc : ¬ ((b : Int) * m > 2 ^ 48) := by omega
  obtain ⟨h5, h6⟩ := zeroRow_get (n := m) hk hl he
  refine ⟨.slice (some ⟨w.heap.size, 0, none⟩) m m, (Array.range (m * es)).map (Z.cells[· % Z.cells.size]!), e, ?_, ?_, ?_, fun ι' M' hi => ?_⟩
  · have hti : (typeInfo e).run P w = .ok i w := by simp [typeInfo, hi1]
    have hneg : ¬ ((m : Int) < 0) := by omega
    have hbi : ¬ ((2 : Int) ^ 48 < (b : Int) * m) := by omega
    simp only [Instr.makeSlice, Sem.run_bind, run_underlying hu, Result.andThen_ok, asInt, asIntOf, Sem.run_pure, hti, hi3, hwrap]
    simp only [gt_iff_lt, hneg, hbi, decide_false, Bool.or_false, Bool.false_eq_true, if_false, Int.lt_irrefl, Bool.or_self, Sem.run_bind, run_askRoom, Result.andThen_ok, sizeP_run hs, Int.toNat_natCast]
    by_cases hz0 : m * es = 0
    · have hr : ∀ (f g : Nat → Value), (Array.range 0).map f = (Array.range 0).map g := fun _ _ => by apply Array.ext'; simp
      simp [hz0, newRow_run]
      exact congrArg (fun c => w.alloc (Obj.cells c e)) (hr _ _)
    · simp [hz0, hZ, newRow_run]
  · simp only [Int.toNat_natCast, h5]; simp
  · intro j hj
    simp only [Int.toNat_natCast, h5] at hj ⊢
    rw [h6 j hj, range_mod _ _ _ hj (by omega), show Z.cells.size = es by omega]
    exact h4 _ (by rw [hl]; exact Nat.mod_lt _ he)
  · refine .sl es nx 0 _ w.heap.size 0 0 m e (m * es) hi (.inl rfl) (by simp) ?_ (by omega)
    rw [shape_alloc]
    simp

/-! ### stores -/
/-- cells put into a block -/
def putA : List Value → Nat → Array Value → Array Value
  | [], _, cs => cs
  | v :: r, o, cs => putA r (o + 1) (cs.setIfInBounds o v)
theorem putA_size : ∀ (vs : List Value) (o : Nat) (cs : Array Value), (putA vs o cs).size = cs.size
  | [], o, cs => rfl
  | v :: r, o, cs => by rw [putA, putA_size r]; simp
theorem putA_get : ∀ (vs : List Value) (o j : Nat) (cs : Array Value), o + vs.length ≤ cs.size → (putA vs o cs).getD j default = if o ≤ j ∧ j < o + vs.length then vs.getD (j - o) default else cs.getD j default
  | [], o, j, cs, h => by simp [putA]; omega
  | v :: r, o, j, cs, h => by
    simp only [List.length_cons] at h
    rw [putA, putA_get r (o + 1) j _ (by simp; omega)]
    simp only [List.length_cons]
    by_cases h1 : o + 1 ≤ j ∧ j < o + 1 + r.length
    · rw [if_pos h1, if_pos (by omega), show j - o = (j - (o + 1)) + 1 by omega]
      simp [List.getD_eq_getElem?_getD]
    · rw [if_neg h1]
      by_cases h2 : j = o
      · subst h2
        have hlt : j < cs.size := by omega
        rw [if_pos (by omega)]
        simp [List.getD_eq_getElem?_getD, Array.getD, hlt]
      · rw [if_neg (by omega)]
        have h5 : o ≠ j := fun e => h2 e.symm
        simp only [Array.getD_eq_getD_getElem?, Array.getElem?_setIfInBounds_ne h5]
theorem setCells_heap : ∀ (vs : List Value) (b o : Nat) (w : World) (cs : Array Value) (T : Nat) (fr : Nat × Nat), w.heap[b]? = some (.cells cs T fr) →
    (w.setCells b o vs).heap[b]? = some (.cells (putA vs o cs) T fr)
  | [], b, o, w, cs, T, fr, h => h
  | v :: r, b, o, w, cs, T, fr, h => by
    rw [World.setCells, putA]
    refine setCells_heap r b (o + 1) _ _ T fr ?_
    simp [World.setCell, Array.getElem?_modify, h]
theorem setCells_other : ∀ (vs : List Value) (b o k : Nat) (w : World), k ≠ b → (w.setCells b o vs).heap[k]? = w.heap[k]?
  | [], b, o, k, w, h => rfl
  | v :: r, b, o, k, w, h => by rw [World.setCells, setCells_other r b (o + 1) k _ h, heap_setCell_other _ _ _ _ h]
theorem setCells_same : ∀ (vs : List Value) (b o : Nat) (w : World), (w.setCells b o vs).heap.size = w.heap.size ∧ (w.setCells b o vs).tape = w.tape ∧ (w.setCells b o vs).os = w.os ∧ (w.setCells b o vs).output = w.output
  | [], b, o, w => ⟨rfl, rfl, rfl, rfl⟩
  | v :: r, b, o, w => by
    rw [World.setCells]
    obtain ⟨h1, h2, h3, h4⟩ := setCells_same r b (o + 1) (w.setCell ⟨b, o, none⟩ v)
    exact ⟨h1.trans (by simp), h2.trans (by simp), h3.trans rfl, h4.trans rfl⟩
theorem setCells_shape (vs : List Value) (b o k : Nat) (w : World) (cs : Array Value) (T : Nat) (fr : Nat × Nat) (h : w.heap[b]? = some (.cells cs T fr)) : (w.setCells b o vs).shape? k = w.shape? k := by
  unfold World.shape?
  by_cases hk : k = b
  · subst hk
    rw [setCells_heap vs k o w cs T fr h, h]
    simp [putA_size]
  · rw [setCells_other vs b o k w hk]

theorem storeVar_run {t sz : Nat} {V : Value} {b o : Nat} {cs : Array Value} {T : Nat} {fr : Nat × Nat} (hz : sizeP P t = some sz) (hh : w.heap[b]? = some (.cells cs T fr)) (hf : ∀ i, i < cs.size → ¬ (fr.1 ≤ i ∧ i < fr.2))
    (hs : V.cells.size = sz) (hle : o + sz ≤ cs.size) (h1 : ∀ u ∈ V.cells.toList, u.oneCell' = true) : (Instr.storeAt t (.pointer (some ⟨b, o, none⟩)) V).run P w = .ok () (w.setCells b o V.cells.toList) := by
  have hst := run_storeCells_cells (P := P) b o V.cells.toList 0 w (fun j hj => by
      have : o + 0 + j < cs.size := by simp at hj; omega
      simp only [Nat.add_zero] at this
      simp [World.cell?, hh, this]) (fun j hj => by
      have h2 : o + 0 + j < cs.size := by simp at hj; omega
      have := hf _ h2
      obtain ⟨lo, hi⟩ := fr
      simp only [World.frozen?, hh]
      simp only at this
      simp; omega) h1
  simp only [Nat.add_zero] at hst
  simp [Instr.storeAt, Instr.sureAddr, storeVar, sizeP_run hz, hs, hst]

theorem mapI_get {k : IntKind} {l : List Int} {j : Nat} (hj : j < l.length) : (l.map fun n => AV.int k n).getD j .undef = .int k (l.getD j 0) := by
  simp [List.getD_eq_getElem?_getD, hj]
theorem fn_put {n : Nat} {f : Nat → AV} {off : Nat} {vs : List AV} (j : Nat) : (bif Nat.ble off j && Nat.blt j (off + vs.length) then vs.getD (j - off) .undef else f j) = if off ≤ j ∧ j < off + vs.length then vs.getD (j - off) .undef else f j := by
  have : Nat.ble off j = decide (off ≤ j) := by rw [Bool.eq_iff_iff, decide_eq_true_eq]; exact iff_of_eq Nat.ble_eq
  rw [this, blt_eq]
  by_cases hb : off ≤ j ∧ j < off + vs.length
  · rw [if_pos hb]; simp [hb.1, hb.2]
  · rw [if_neg hb]
    by_cases h1 : off ≤ j
    · have : ¬ j < off + vs.length := fun h2 => hb ⟨h1, h2⟩
      simp [h1, this]
    · simp [h1]
theorem put_spec {c c' : Chunk} {off : Nat} {vs : List AV} (h : c.put off vs = some c') (hle : off + vs.length ≤ c.size) :
    c'.size = c.size ∧ ∀ j, j < c.size → c'.get j = if off ≤ j ∧ j < off + vs.length then vs.getD (j - off) .undef else c.get j := by
  cases c with
  | obj l =>
    simp only [Chunk.put, Option.some.injEq] at h
    subst h
    exact ⟨putL_length _ _ _, fun j hj => putL_get _ _ _ _ hle⟩
  | map l k => simp [Chunk.put] at h
  | rowI k l =>
    simp only [Chunk.put] at h
    split at h
    · rename_i k' n
      split at h
      · rename_i hk
        subst hk
        simp only [Option.some.injEq] at h
        subst h
        simp only [Chunk.size, List.length_singleton] at hle
        refine ⟨by simp [Chunk.size], fun j hj => ?_⟩
        simp only [Chunk.get, List.length_singleton]
        by_cases hj2 : j = off
        · subst hj2
          rw [if_pos (by omega)]
          have : j < l.length := by omega
          simp [List.getD_eq_getElem?_getD, this]
        · rw [if_neg (by omega)]
          have : off ≠ j := fun e => hj2 e.symm
          simp [List.getD_eq_getElem?_getD, List.getElem?_set, this]
      · simp at h
    · rename_i k' e
      simp only [Option.some.injEq] at h
      subst h
      simp only [Chunk.size, List.length_singleton] at hle
      refine ⟨by simp [Chunk.size], fun j hj => ?_⟩
      simp only [Chunk.size] at hj
      simp only [List.length_singleton]
      show ((l.map fun n => AV.int k n).set off (.sy k' e)).getD j .undef = if _ then _ else AV.int k (l.getD j 0)
      by_cases hj2 : j = off
      · subst hj2
        rw [if_pos (by omega)]
        simp [List.getD_eq_getElem?_getD, hj]
      · rw [if_neg (by omega), ← mapI_get hj]
        have : off ≠ j := fun e => hj2 e.symm
        simp [List.getD_eq_getElem?_getD, List.getElem?_set, this]
    · simp at h
  | rowB l =>
    simp only [Chunk.put] at h
    split at h
    · rename_i b
      simp only [Option.some.injEq] at h
      subst h
      simp only [Chunk.size, List.length_singleton] at hle
      refine ⟨by simp [Chunk.size], fun j hj => ?_⟩
      simp only [Chunk.get, List.length_singleton]
      by_cases hj2 : j = off
      · subst hj2
        rw [if_pos (by omega)]
        have : j < l.length := by omega
        simp [List.getD_eq_getElem?_getD, this]
      · rw [if_neg (by omega)]
        have : off ≠ j := fun e => hj2 e.symm
        simp [List.getD_eq_getElem?_getD, List.getElem?_set, this]
    · simp at h
  | fn n f =>
    simp only [Chunk.put, Option.some.injEq] at h
    subst h
    refine ⟨rfl, fun j hj => ?_⟩
    simp only [Chunk.get, blt_eq]
    have : Nat.ble off j = decide (off ≤ j) := by rw [Bool.eq_iff_iff, decide_eq_true_eq]; exact iff_of_eq Nat.ble_eq
    rw [this]
    by_cases hb : off ≤ j ∧ j < off + vs.length
    · rw [if_pos hb]; simp [hb.1, hb.2]
    · rw [if_neg hb]
      by_cases h1 : off ≤ j
      · have : ¬ j < off + vs.length := fun h2 => hb ⟨h1, h2⟩
        simp [h1, this]
      · simp [h1]
  | blk n k g =>
    simp only [Chunk.put] at h
    split at h
    · rename_i k' m
      simp only [Option.some.injEq] at h
      subst h
      refine ⟨rfl, fun j hj => ?_⟩
      simp only [Chunk.get, upd, List.length_singleton]
      by_cases hj2 : j = off
      · subst hj2
        rw [if_pos (by omega)]
        simp
      · rw [if_neg (by omega)]
        have : Nat.beq j off = false := by
          rw [Bool.eq_false_iff]
          exact fun e => hj2 (Nat.eq_of_beq_eq_true e)
        simp [this]
    · cases hc : (Nat.beq off 0 && Nat.beq vs.length n) with
      | true =>
        rw [hc] at h
        have h : some (Chunk.obj vs) = some c' := h
        cases h
        simp only [Bool.and_eq_true] at hc
        obtain rfl := Nat.eq_of_beq_eq_true hc.1
        have hl := Nat.eq_of_beq_eq_true hc.2
        refine ⟨hl, fun j hj => ?_⟩
        simp only [Chunk.size] at hj
        rw [if_pos ⟨Nat.zero_le _, by omega⟩]
        rfl
      | false =>
        rw [hc] at h
        have h : some (Chunk.fn n fun j => bif Nat.ble off j && Nat.blt j (off + vs.length) then vs.getD (j - off) .undef else .int (k j) (g j)) = some c' := h
        cases h
        exact ⟨rfl, fun j _ => fn_put (n := n) (f := fun j => .int (k j) (g j)) j⟩
theorem ble_eq' (a b : Nat) : Nat.ble a b = decide (a ≤ b) := by
  rw [Bool.eq_iff_iff, decide_eq_true_eq]
  exact iff_of_eq Nat.ble_eq
theorem over_spec {n m off : Nat} {k k' : Nat → IntKind} {g g' : Nat → Int} : (Chunk.blk n (over k off m k') (over g off m g')).size = (Chunk.blk n k g).size ∧
    ∀ j, j < (Chunk.blk n k g).size → (Chunk.blk n (over k off m k') (over g off m g')).get j = if off ≤ j ∧ j < off + (AV.aggI m k' g').flat.length then (AV.aggI m k' g').flat.getD (j - off) .undef else (Chunk.blk n k g).get j := by
  refine ⟨rfl, fun j hj => ?_⟩
  simp only [Chunk.get, AV.flat, List.length_map, List.length_range, over, ble_eq', blt_eq]
  by_cases hb : off ≤ j ∧ j < off + m
  · rw [if_pos hb]
    have : j - off < m := by omega
    simp [hb.1, hb.2, List.getD_eq_getElem?_getD, this]
  · rw [if_neg hb]
    by_cases h1 : off ≤ j
    · have : ¬ j < off + m := fun h2 => hb ⟨h1, h2⟩
      simp [h1, this]
    · simp [h1]
theorem aggI_flat (n : Nat) (k : Nat → IntKind) (g : Nat → Int) : (AV.aggI n k g).flat.length = n ∧ (AV.aggI n k g).flat.all AV.one = true := by
  refine ⟨by simp [AV.flat], ?_⟩
  simp [AV.flat, AV.one]

end
end Go.Ab
set_option linter.unusedVariables false
set_option linter.unusedSimpArgs false
set_option autoImplicit false
namespace Go.Ab

def addM (M : Nat → Prop) (b : Nat) : Nat → Prop := fun k => M k ∨ k = b

theorem Mem.get_cons (h u : Nat) (c : Option Chunk) (m : Mem) : Mem.get ((h, c) :: m) u = if h = u then c else m.get u := by
  simp only [Mem.get]
  by_cases hu : h = u
  · subst hu; simp
  · rw [if_neg hu]
    have : Nat.beq h u = false := by
      rw [Bool.eq_false_iff]
      exact fun e => hu (Nat.eq_of_beq_eq_true e)
    simp [this]
section
variable {ι : Iota} {s : St} {w : World} {M : Nat → Prop}

theorem Iota.set_same (ι : Iota) (h : Nat) (p : Option (Nat × Nat)) : ι.set h p h = some p := by simp [Iota.set]
theorem Iota.set_other (ι : Iota) (h j : Nat) (p : Option (Nat × Nat)) (hj : j ≠ h) : ι.set h p j = ι j := by simp [Iota.set, hj]
theorem Iota.set_ext (ι : Iota) (h : Nat) (p : Option (Nat × Nat)) (hn : ι h = none) : ∀ j q, ι j = some q → ι.set h p j = some q := fun j q hq => by
  by_cases hj : j = h
  · subst hj; rw [hn] at hq; cases hq
  · rw [ι.set_other h j p hj]; exact hq

theorem Imm.alloc (o : Obj) : Imm w M (w.alloc o) (addM M w.heap.size) :=
  ⟨by simp, fun b hb hm => ⟨fun h => by
      rcases h with h | h
      · exact hm h
      · omega, heap_alloc_old w o hb⟩, fun b hb => by unfold World.shape?; rw [heap_alloc_old w o hb]⟩
theorem Imm.drew : Imm w M w.drew M := ⟨Nat.le_refl _, fun b hb hm => ⟨hm, rfl⟩, fun b hb => rfl⟩

/-- the state, with a handle more, over a world with a block more -/
theorem Rep.allocO {o : Obj} {h : Nat} (hR : Rep ι s w M) (hn : ι h = none) (hlt : h < s.next) (hg : s.get h = none) : Rep (ι.set h (some (w.heap.size, 0))) s (w.alloc o) (addM M w.heap.size) := by
  have hi := Imm.alloc (w := w) (M := M) o
  have hx := ι.set_ext h (some (w.heap.size, 0)) hn
  refine ⟨fun j hj => by rw [ι.set_other _ _ _ (by omega)]; exact hR.fresh j hj, fun j c hc => ?_, fun j j' c c' p p' hc hc' hne hp hp' => ?_, fun b hb => ?_, ?_⟩
  · have hne : j ≠ h := fun e => by subst e; rw [hg] at hc; cases hc
    rw [ι.set_other _ _ _ hne]
    rcases hR.own j c hc with h1 | ⟨b, base, h1, h2, h3⟩
    · exact .inl h1
    · exact .inr ⟨b, base, h1, .inl h2, h3.mono hi hx (heap_alloc_old w _ (hR.lt b h2))⟩
  · have hne1 : j ≠ h := fun e => by subst e; rw [hg] at hc; cases hc
    have hne2 : j' ≠ h := fun e => by subst e; rw [hg] at hc'; cases hc'
    rw [ι.set_other _ _ _ hne1] at hp
    rw [ι.set_other _ _ _ hne2] at hp'
    exact hR.inj j j' c c' p p' hc hc' hne hp hp'
  · rcases hb with hb | hb
    · have := hR.lt b hb; simp; omega
    · subst hb; simp
  · exact hR.glob.mono hi

theorem Rep.alloc {cs : Array Value} {T : Nat} {h : Nat} (hR : Rep ι s w M) (hn : ι h = none) (hlt : h < s.next) (hg : s.get h = none) : Rep (ι.set h (some (w.heap.size, 0))) s (w.alloc (.cells cs T)) (addM M w.heap.size) := Rep.allocO hR hn hlt hg
theorem St.get_cons (n h u : Nat) (c : Option Chunk) (m : Mem) : (St.mk n ((h, c) :: m)).get u = if h = u then c else (St.mk n m).get u := Mem.get_cons h u c m
theorem St.get_next (s : St) (n u : Nat) : (St.mk n s.m).get u = s.get u := rfl

theorem Rep.next (hR : Rep ι s w M) {n : Nat} (hn : s.next ≤ n) : Rep ι ⟨n, s.m⟩ w M :=
  ⟨fun j hj => hR.fresh j (Nat.le_trans hn hj), hR.own, hR.inj, hR.lt, hR.glob⟩
theorem Rep.none_of_get (hR : Rep ι s w M) {h : Nat} {c : Chunk} (hg : s.get h = some c) : h < s.next := by
  rcases Nat.lt_or_ge h s.next with hl | hl
  · exact hl
  · have := hR.fresh h hl
    rcases hR.own h c hg with ⟨h1, _⟩ | ⟨b, base, h1, _⟩ <;> rw [this] at h1 <;> cases h1
/-- one is known of no more -/
theorem Rep.drop (hR : Rep ι s w M) (h : Nat) : Rep ι ⟨s.next, (h, none) :: s.m⟩ w M := by
  have key : ∀ j c, (St.mk s.next ((h, none) :: s.m)).get j = some c → s.get j = some c := fun j c hc => by
    rw [St.get_cons] at hc
    split at hc
    · cases hc
    · exact hc
  exact ⟨hR.fresh, fun j c hc => hR.own j c (key j c hc), fun j j' c c' p p' hc hc' => hR.inj j j' c c' p p' (key j c hc) (key j' c' hc'), hR.lt, hR.glob⟩
/-- one is known of besides -/
theorem Rep.put (hR : Rep ι s w M) {h : Nat} {c : Chunk} (hp : (ι h = some none ∧ c.size = 0) ∨ ∃ b base, ι h = some (some (b, base)) ∧ M b ∧ CRel ι w M c b base ∧ ∀ j c' p, j ≠ h → s.get j = some c' → ι j = some (some p) → p.1 ≠ b) :
    Rep ι ⟨s.next, (h, some c) :: s.m⟩ w M := by
  refine ⟨hR.fresh, fun j c' hc => ?_, fun j j' c1 c2 p p' hc hc' hne hp1 hp2 => ?_, hR.lt, hR.glob⟩
  · rw [St.get_cons] at hc
    split at hc
    · rename_i he
      subst he
      cases hc
      rcases hp with h1 | ⟨b, base, h1, h2, h3, _⟩
      · exact .inl h1
      · exact .inr ⟨b, base, h1, h2, h3⟩
    · exact hR.own j c' hc
  · rw [St.get_cons] at hc hc'
    split at hc <;> split at hc'
    · omega
    · rename_i he he'
      subst he
      rcases hp with ⟨h1, _⟩ | ⟨b, base, h1, h2, h3, h4⟩
      · rw [h1] at hp1; cases hp1
      · rw [h1] at hp1
        simp only [Option.some.injEq] at hp1
        have := h4 j' c2 p' (fun e => he' e.symm) hc' hp2
        subst hp1
        exact fun e => this e.symm
    · rename_i he he'
      subst he'
      rcases hp with ⟨h1, _⟩ | ⟨b, base, h1, h2, h3, h4⟩
      · rw [h1] at hp2; cases hp2
      · rw [h1] at hp2
        simp only [Option.some.injEq] at hp2
        have := h4 j c1 p (fun e => he e.symm) hc hp1
        subst hp2
        exact this
    · exact hR.inj j j' c1 c2 p p' hc hc' hne hp1 hp2
theorem Rep.drew (hR : Rep ι s w M) : Rep ι s w.drew M :=
  ⟨hR.fresh, fun j c hc => by
    rcases hR.own j c hc with h1 | ⟨b, base, h1, h2, h3⟩
    · exact .inl h1
    · exact .inr ⟨b, base, h1, h2, h3.mono .drew (fun _ _ h => h) rfl⟩, hR.inj, hR.lt, hR.glob.mono .drew⟩
theorem Go.drew {n0 : Nat} (hn : n0 ≤ s.next) : Go n0 ι s w M ι s w.drew M :=
  ⟨Nat.le_refl _, rfl, rfl, rfl, fun _ _ _ => rfl, fun _ _ => rfl, fun _ _ h => h, fun _ h _ => h, fun _ _ h => h, hn, fun _ _ => rfl⟩
theorem Go.alloc {n0 h : Nat} {o : Obj} {p : Option (Nat × Nat)} (hn : n0 ≤ s.next) (hh : n0 ≤ h) (hg : s.get h = none) (hi : ι h = none) : Go n0 ι s w M (ι.set h p) s (w.alloc o) (addM M w.heap.size) :=
  ⟨by simp, rfl, rfl, rfl, fun b hb _ => heap_alloc_old w o hb, fun b hb => by unfold World.shape?; rw [heap_alloc_old w o hb],
   fun b hb hm => by
    rcases hm with hm | hm
    · exact hm
    · omega,
   fun b hm _ => .inl hm,
   fun b hb ho => by
    obtain ⟨j, c, base, h1, h2⟩ := ho
    have hne : j ≠ h := fun e => by subst e; rw [hg] at h1; cases h1
    rw [ι.set_other _ _ _ hne] at h2
    exact ⟨j, c, base, h1, h2⟩,
   hn, fun j hj => ι.set_other h j p (by omega)⟩
/-- names alone -/
theorem Go.names {n0 : Nat} {s' : St} (hn : n0 ≤ s'.next) (ho : ∀ b, Own ι s' b → Own ι s b) : Go n0 ι s w M ι s' w M :=
  ⟨Nat.le_refl _, rfl, rfl, rfl, fun _ _ _ => rfl, fun _ _ => rfl, fun _ _ h => h, fun _ h _ => h, fun b _ h => ho b h, hn, fun _ _ => rfl⟩
/-- the block of one chunk is written to -/
theorem Imm.set {b : Nat} {w' : World} (hM : M b) (hs : w'.heap.size = w.heap.size) (hb : ∀ k, k ≠ b → w'.heap[k]? = w.heap[k]?) (hsh : ∀ k, w'.shape? k = w.shape? k) : Imm w M w' M :=
  ⟨by omega, fun k hk hm => ⟨hm, hb k fun e => hm (e ▸ hM)⟩, fun k _ => hsh k⟩
theorem Rep.set {h b base : Nat} {c c' : Chunk} {w' : World} (hR : Rep ι s w M) (hg : s.get h = some c) (hi : ι h = some (some (b, base))) (hs : w'.heap.size = w.heap.size) (hb : ∀ k, k ≠ b → w'.heap[k]? = w.heap[k]?) (hsh : ∀ k, w'.shape? k = w.shape? k)
    (hC : CRel ι w' M c' b base) : Rep ι ⟨s.next, (h, some c') :: s.m⟩ w' M := by
  have hMb : M b := hR.ownM ⟨h, c, base, hg, hi⟩
  have hI := Imm.set (w := w) hMb hs hb hsh
  refine ⟨hR.fresh, fun j c1 hc => ?_, fun j j' c1 c2 p p' hc hc' hne hp hp' => ?_, fun k hk => by rw [hs]; exact hR.lt k hk, hR.glob.mono hI⟩
  · rw [St.get_cons] at hc
    split at hc
    · rename_i he
      subst he
      cases hc
      exact .inr ⟨b, base, hi, hMb, hC⟩
    · rename_i he
      rcases hR.own j c1 hc with h1 | ⟨b1, base1, h1, h2, h3⟩
      · exact .inl h1
      · refine .inr ⟨b1, base1, h1, h2, h3.mono hI (fun _ _ h => h) (hb b1 ?_)⟩
        have := hR.inj h j c c1 _ _ hg hc he hi h1
        exact fun e => this e.symm
  · have key : ∀ j c, (St.mk s.next ((h, some c') :: s.m)).get j = some c → ∃ c1, s.get j = some c1 := fun j c hc => by
      rw [St.get_cons] at hc
      split at hc
      · rename_i he; subst he; exact ⟨_, hg⟩
      · exact ⟨_, hc⟩
    obtain ⟨d, hd⟩ := key j c1 hc
    obtain ⟨d', hd'⟩ := key j' c2 hc'
    exact hR.inj j j' d d' p p' hd hd' hne hp hp'
theorem Go.set {n0 h b base : Nat} {c c' : Chunk} {w' : World} (hR : Rep ι s w M) (hn : n0 ≤ s.next) (hg : s.get h = some c) (hi : ι h = some (some (b, base))) (hs : w'.heap.size = w.heap.size) (hb : ∀ k, k ≠ b → w'.heap[k]? = w.heap[k]?) (hsh : ∀ k, w'.shape? k = w.shape? k)
    (ht : w'.tape = w.tape) (ho : w'.os = w.os) (hu : w'.output = w.output) : Go n0 ι s w M ι ⟨s.next, (h, some c') :: s.m⟩ w' M :=
  ⟨by omega, ht, ho, hu, fun k hk hno => hb k fun e => hno (e ▸ ⟨h, c, base, hg, hi⟩), fun k _ => hsh k, fun _ _ h => h, fun _ h _ => h, fun k _ ho => by
    obtain ⟨j, c1, base1, h1, h2⟩ := ho
    rw [St.get_cons] at h1
    split at h1
    · rename_i he; subst he; exact ⟨_, _, _, hg, h2⟩
    · exact ⟨_, _, _, h1, h2⟩, hn, fun _ _ => rfl⟩

end
end Go.Ab
set_option linter.unusedVariables false
set_option linter.unusedSimpArgs false
set_option autoImplicit false
namespace Go.Ab

section
variable {P : Program} {ι : Iota} {s : St} {w : World} {M : Nat → Prop}

theorem Rep.hget (hR : Rep ι s w M) : HGet ι w M s.get := fun h c p hg hi => by
  rcases hR.own h c hg with ⟨h1, h2⟩ | ⟨b, base, h1, h2, h3⟩
  · rw [hi] at h1; cases h1; exact .inl ⟨rfl, h2⟩
  · rw [hi] at h1; cases h1; exact .inr ⟨b, base, rfl, h3⟩

theorem flat_one {v : AV} (h : v.flat.all AV.one = true) : v.one = true ∨ v.isAgg = true := by
  cases v <;> first | exact .inr rfl | exact .inl (by simpa [AV.flat] using h)

theorem put_nm {c c' : Chunk} {off : Nat} {vs : List AV} (h : c.put off vs = some c') : c.isMap = false ∧ c'.isMap = false := by
  have hb : ∀ {b : Bool} {x y : Chunk}, x.isMap = false → y.isMap = false → (bif b then some x else some y) = some c' → c'.isMap = false := fun {b x y} h1 h2 h => by
    cases b
    · cases h; exact h2
    · cases h; exact h1
  cases c <;> simp only [Chunk.put, reduceCtorEq] at h <;> refine ⟨rfl, ?_⟩ <;> (repeat' split at h) <;> first | (simp only [Option.some.injEq] at h; subst h; rfl) | exact hb rfl rfl h | simp at h
/-- cells of a chunk are written -/
theorem set_core {n0 h off b base : Nat} {l : List AV} {vs : List Value} {c c' : Chunk} (hR : Rep ι s w M) (hn : n0 ≤ s.next) (hi : ι h = some (some (b, base))) (hg : s.get h = some c) (hs : vs.length = l.length)
    (hcs : ∀ j, j < l.length → VRel ι w M (l.getD j .undef) (vs.getD j default)) (h3 : off + l.length ≤ c.size) (nm : c.isMap = false ∧ c'.isMap = false) (p1 : c'.size = c.size)
    (p2 : ∀ j, j < c.size → c'.get j = if off ≤ j ∧ j < off + l.length then l.getD (j - off) .undef else c.get j) :
    Rep ι (s.app (.set h c')) (w.setCells b (base + off) vs) M ∧ Go n0 ι s w M ι (s.app (.set h c')) (w.setCells b (base + off) vs) M := by
  rcases hR.hget h c _ hg hi with ⟨h4, _⟩ | ⟨b', base', h4, hC⟩
  · cases h4
  obtain ⟨cs, T, fr, k1, k2, k3, k4⟩ := hC.cc nm.1
  simp only [Option.some.injEq, Prod.mk.injEq] at h4
  obtain ⟨rfl, rfl⟩ := h4
  obtain ⟨e1, e2, e3, e4⟩ := setCells_same vs b (base + off) w
  have hsh := fun k => setCells_shape vs b (base + off) k w cs T fr k1
  have hoth := fun k hk => setCells_other vs b (base + off) k w hk
  refine ⟨?_, Go.set hR hn hg hi e1 hoth hsh e2 e3 e4⟩
  have hMb : M b := hR.ownM ⟨h, c, base, hg, hi⟩
  have hI := Imm.set (w := w) hMb e1 hoth hsh
  refine Rep.set hR hg hi e1 hoth hsh ((CRel.not_map (fun l k e => by subst e; exact absurd nm.2 (by simp [Chunk.isMap]))).2 ⟨_, T, fr, setCells_heap _ _ _ _ _ _ _ k1, fun i hi' => k2 i (by rwa [putA_size] at hi'), by rw [putA_size]; omega, fun j hj => ?_⟩)
  rw [p1] at hj
  rw [p2 j hj, putA_get _ _ _ _ (by omega)]
  by_cases hb : off ≤ j ∧ j < off + l.length
  · rw [if_pos hb, if_pos (by omega), show base + j - (base + off) = j - off by omega]
    exact (hcs (j - off) (by omega)).mono hI (fun _ _ h => h)
  · rw [if_neg hb, if_neg (by omega)]
    exact (k4 j hj).mono hI (fun _ _ h => h)
theorem store_core {n0 t sz h off : Nat} {x y : AV} {X Y : Value} {c c' : Chunk} (hR : Rep ι s w M) (hn : n0 ≤ s.next) (hX : VRel ι w M (.ptr h off) X) (hY : VRel ι w M y Y) (hg : s.get h = some c) (hz : sizeP P t = some sz)
    (h1 : y.flat.all AV.one = true) (h2 : y.flat.length = sz) (h3 : off + sz ≤ c.size) (nm : c.isMap = false ∧ c'.isMap = false) (p1 : c'.size = c.size)
    (p2 : ∀ j, j < c.size → c'.get j = if off ≤ j ∧ j < off + y.flat.length then y.flat.getD (j - off) .undef else c.get j) :
    ∃ w', (Instr.storeAt t X Y).run P w = .ok () w' ∧ Rep ι (s.app (.set h c')) w' M ∧ Go n0 ι s w M ι (s.app (.set h c')) w' M := by
  obtain ⟨b, base, hi, rfl⟩ := hX.ptr_inv
  rcases hR.hget h c _ hg hi with ⟨h4, _⟩ | ⟨b', base', h4, hC⟩
  · cases h4
  obtain ⟨cs, T, fr, k1, k2, k3, k4⟩ := hC.cc nm.1
  simp only [Option.some.injEq, Prod.mk.injEq] at h4
  obtain ⟨rfl, rfl⟩ := h4
  obtain ⟨hs, hcs⟩ := hY.cells (flat_one h1)
  have hone : ∀ u ∈ Y.cells.toList, u.oneCell' = true := by
    intro u hu
    obtain ⟨j, hj, rfl⟩ := List.mem_iff_getElem.1 hu
    have hj' : j < y.flat.length := by simp at hj; omega
    have hv := hcs j hj'
    have hy1 : (y.flat.getD j .undef).one = true := by
      have := (List.all_eq_true.1 h1) (y.flat[j]) (List.getElem_mem hj')
      simpa [List.getD_eq_getElem?_getD, hj'] using this
    have := (hv.one hy1).1
    have hj2 : j < Y.cells.size := by simpa using hj
    simpa [Array.getD, hj2] using this
  have hrun := storeVar_run (P := P) (t := t) (V := Y) (b := b) (o := base + off) hz k1 k2 (by omega) (by omega) hone
  exact ⟨_, hrun, set_core hR hn hi hg (by simpa using hs) (fun j hj => by simpa [List.getD_eq_getElem?_getD, Array.getD_eq_getD_getElem?] using hcs j hj) (by omega) nm p1 p2⟩
theorem store_sound {n0 t sz h off : Nat} {x y : AV} {X Y : Value} {c c' : Chunk} (hR : Rep ι s w M) (hn : n0 ≤ s.next) (hX : VRel ι w M (.ptr h off) X) (hY : VRel ι w M y Y) (hg : s.get h = some c) (hz : sizeP P t = some sz)
    (h1 : y.flat.all AV.one = true) (h2 : y.flat.length = sz) (h3 : off + sz ≤ c.size) (hp : c.put off y.flat = some c') :
    ∃ w', (Instr.storeAt t X Y).run P w = .ok () w' ∧ Rep ι (s.app (.set h c')) w' M ∧ Go n0 ι s w M ι (s.app (.set h c')) w' M := by
  obtain ⟨p1, p2⟩ := put_spec hp (by omega)
  exact store_core (x := x) hR hn hX hY hg hz h1 h2 h3 (put_nm hp) p1 p2
theorem storeA_sound {n0 t sz : Nat} {x y v : AV} {X Y : Value} {e : Eff} (hR : Rep ι s w M) (hn : n0 ≤ s.next) (hX : VRel ι w M x X) (hY : VRel ι w M y Y) (hz : sizeP P t = some sz)
    (h : storeA s.get sz x y = .ok true v e) : v = .undef ∧
    ∃ w', (Instr.storeAt t X Y).run P w = .ok () w' ∧ Rep ι (s.app e) w' M ∧ Go n0 ι s w M ι (s.app e) w' M := by
  unfold storeA at h
  split at h
  · rename_i hh off
    split at h
    · rename_i c hg
      split at h
      · rename_i m k' g'
        split at h
        · rename_i n k g
          simp only [Res.ok.injEq, Bool.and_eq_true, decide_eq_true_eq] at h
          obtain ⟨⟨h1, h2⟩, rfl, rfl⟩ := h
          obtain rfl := Nat.eq_of_beq_eq_true h1
          refine ⟨rfl, ?_⟩
          obtain ⟨q1, q2⟩ := aggI_flat m k' g'
          exact store_core (x := .undef) hR hn hX hY hg hz q2 q1 h2 ⟨rfl, rfl⟩ over_spec.1 over_spec.2
        · simp at h
      · split at h
        · rename_i c' hp
          simp only [Res.ok.injEq, Bool.and_eq_true, decide_eq_true_eq] at h
          obtain ⟨⟨⟨h1, h2⟩, h3⟩, rfl, rfl⟩ := h
          exact ⟨rfl, store_sound (x := .undef) hR hn hX hY hg hz h1 (Nat.eq_of_beq_eq_true h2) h3 hp⟩
        · simp at h
    · simp at h
  · simp at h

theorem Imm.undrew : Imm w.drew M w M := ⟨Nat.le_refl _, fun b hb hm => ⟨hm, rfl⟩, fun b hb => rfl⟩
/-! ### append -/
/-- a row's cells, as an append reads them -/
def Src (ι : Iota) (w : World) (M : Nat → Prop) (es : Nat) (r : Chunk) (n : Nat) (V : Value) : Prop :=
  r.size = n * es ∧ ((n = 0 ∧ ∃ A c, V = .slice A 0 c) ∨ ∃ (a : Addr) (c : Nat) (g : Nat → Value), V = .slice (some a) n c ∧ a.spot = none ∧
    (∀ j, j < n * es → w.cell? ⟨a.block, a.off + j, none⟩ = some (g j)) ∧ ∀ j, j < n * es → VRel ι w M (r.get j) (g j) ∧ (g j).oneCell' = true)

theorem rowFrom_src {es n : Nat} {d : AV} {D : Value} {r : Chunk} {get : Nat → Option Chunk} (hD : VRel ι w M d D) (hG : HGet ι w M get) (h : rowFrom d es get = some (true, r)) (hl : lenA d = some n) : Src ι w M es r n D := by
  by_cases hraw : ∃ v, d = .raw v
  · obtain ⟨v, rfl⟩ := hraw
    obtain ⟨a, c, rfl, rfl⟩ := lenA_raw hl
    obtain rfl := hD.raw_inv
    simp only [rowFrom, Option.some.injEq, Prod.mk.injEq, true_and] at h
    subst h
    exact ⟨by simp [Chunk.size], .inl ⟨rfl, _, _, rfl⟩⟩
  cases d <;> first | (exfalso; exact hraw ⟨_, rfl⟩) | skip
  all_goals simp only [rowFrom, reduceCtorEq] at h
  all_goals simp only [lenA, Option.some.injEq, reduceCtorEq] at hl
  all_goals subst hl
  case nils =>
    simp only [Option.some.injEq, Prod.mk.injEq, true_and] at h
    subst h
    obtain rfl := hD.nils_inv
    exact ⟨by simp [Chunk.size], .inl ⟨rfl, _, _, rfl⟩⟩
  case roI k l =>
    simp only [Option.some.injEq, Prod.mk.injEq] at h
    obtain ⟨h1, rfl⟩ := h
    obtain rfl : es = 1 := by simpa using h1
    refine ⟨by simp [Chunk.size], ?_⟩
    rcases hD.rov_inv rfl with ⟨hn, rfl⟩ | ⟨a, cap, g, rfl, hs0, hn, he, hc, hg⟩
    · exact .inl ⟨hn, _, _, rfl⟩
    · rcases Nat.eq_zero_or_pos l.length with h0 | h0
      · exact .inl ⟨h0, _, _, by rw [h0]⟩
      obtain ⟨hs, hM, hb⟩ := hs0 h0
      exact .inr ⟨a, cap, g, rfl, hs, hc, fun j hj => ⟨.g _ _ (hg j hj), ((VRel.g (ι := ι) _ _ (hg j hj)).one rfl).1⟩⟩
  case roB l =>
    simp only [Option.some.injEq, Prod.mk.injEq] at h
    obtain ⟨h1, rfl⟩ := h
    obtain rfl : es = 1 := by simpa using h1
    refine ⟨by simp [Chunk.size], ?_⟩
    rcases hD.rov_inv rfl with ⟨hn, rfl⟩ | ⟨a, cap, g, rfl, hs0, hn, he, hc, hg⟩
    · exact .inl ⟨hn, _, _, rfl⟩
    · rcases Nat.eq_zero_or_pos l.length with h0 | h0
      · exact .inl ⟨h0, _, _, by rw [h0]⟩
      obtain ⟨hs, hM, hb⟩ := hs0 h0
      exact .inr ⟨a, cap, g, rfl, hs, hc, fun j hj => ⟨.g _ _ (hg j hj), ((VRel.g (ι := ι) _ _ (hg j hj)).one rfl).1⟩⟩
  case sl e hh o m =>
    have key : ∀ (c : Chunk) (off : Nat), get hh = some c → e = es → o + m * es ≤ c.size → r.size = m * es → (∀ j, j < m * es → r.get j = c.get (o + j) ∧ (r.get j).one = true) → Src ι w M es r m D := by
      intro c off hg hee hle hsz hcell
      subst hee
      refine ⟨hsz, ?_⟩
      rcases hD.sl_inv with ⟨b, base, oo, cap, T, N, hi', ho, hl, hs, hn, rfl⟩ | ⟨hv, rfl, rfl⟩
      · rcases Nat.eq_zero_or_pos m with h0 | h0
        · subst h0; exact .inl ⟨rfl, _, _, rfl⟩
        · rcases hG hh _ _ hg hi' with ⟨h5, _⟩ | ⟨b', base', h5, hC⟩
          · cases h5
          · simp only [Option.some.injEq, Prod.mk.injEq] at h5
            obtain ⟨rfl, rfl⟩ := h5
            have ho' : oo = base + o := by
              rcases ho with h | h
              · exact h
              · omega
            subst ho'
            have hcc : ∀ j, j < m * e → ∃ V, w.cell? ⟨b, base + o + j, none⟩ = some V ∧ VRel ι w M (c.get (o + j)) V := fun j hj => by
              have := hC.cell (j := o + j) (by omega)
              rwa [← Nat.add_assoc] at this
            let g : Nat → Value := fun j => if hj : j < m * e then (hcc j hj).choose else default
            refine .inr ⟨_, cap, g, rfl, rfl, fun j hj => ?_, fun j hj => ?_⟩
            · simp only [g, hj, dif_pos]; exact (hcc j hj).choose_spec.1
            · have : VRel ι w M (r.get j) (g j) := by
                rw [(hcell j hj).1]
                simp only [g, hj, dif_pos]
                exact (hcc j hj).choose_spec.2
              exact ⟨this, (this.one (hcell j hj).2).1⟩
      · exact .inl ⟨rfl, _, _, rfl⟩
    cases hg : get hh with
    | none => simp [hg] at h
    | some c =>
      cases c with
      | rowI k l =>
        simp only [hg, Option.some.injEq, Prod.mk.injEq, Bool.and_eq_true, decide_eq_true_eq] at h
        obtain ⟨⟨⟨h1, h2⟩, h3⟩, rfl⟩ := h
        obtain rfl : es = 1 := by simpa using h2
        exact key _ o hg (by simpa using h1) (by simp only [Chunk.size]; omega) (by simp [Chunk.size]; omega) (fun j hj => ⟨by simp only [Chunk.get]; rw [getD_drop_take _ _ _ _ _ (by omega)], rfl⟩)
      | rowB l =>
        simp only [hg, Option.some.injEq, Prod.mk.injEq, Bool.and_eq_true, decide_eq_true_eq] at h
        obtain ⟨⟨⟨h1, h2⟩, h3⟩, rfl⟩ := h
        obtain rfl : es = 1 := by simpa using h2
        exact key _ o hg (by simpa using h1) (by simp only [Chunk.size]; omega) (by simp [Chunk.size]; omega) (fun j hj => ⟨by simp only [Chunk.get]; rw [getD_drop_take _ _ _ _ _ (by omega)], rfl⟩)
      | obj l =>
        simp only [hg, Option.some.injEq, Prod.mk.injEq, Bool.and_eq_true, decide_eq_true_eq] at h
        obtain ⟨⟨⟨h1, h3⟩, h4⟩, rfl⟩ := h
        refine key _ o hg (by simpa using h1) h3 (by simp [Chunk.size]; omega) (fun j hj => ⟨by simp only [Chunk.get]; rw [getD_drop_take _ _ _ _ _ hj], ?_⟩)
        have hlen : j < ((l.drop o).take (m * es)).length := by simp; omega
        have := (List.all_eq_true.1 h4) _ (List.getElem_mem hlen)
        simp only [Chunk.get]
        rwa [show ((l.drop o).take (m * es)).getD j .undef = ((l.drop o).take (m * es))[j] by rw [List.getD_eq_getElem?_getD, List.getElem?_eq_getElem hlen]; rfl]
      | fn n f => simp [hg] at h
      | map l k => simp [hg] at h
      | blk n k g =>
        simp only [hg, Option.some.injEq, Prod.mk.injEq, Bool.and_eq_true, decide_eq_true_eq] at h
        obtain ⟨⟨⟨⟨h1, h2⟩, h3⟩, h4⟩, rfl⟩ := h
        obtain rfl : es = 1 := by simpa using h2
        refine key _ o hg (by simpa using h1) (by simp only [Chunk.size]; omega) (by simp [Chunk.size]) (fun j hj => ⟨?_, rfl⟩)
        have hj' : j < m := by omega
        have h5 := (List.all_eq_true.1 h4) j (by simpa using hj')
        simp only [decide_eq_true_eq] at h5
        simp [Chunk.get, h5, List.getD_eq_getElem?_getD, hj']

theorem getD_append {α : Type} (l m : List α) (j : Nat) (d : α) : (l ++ m).getD j d = if j < l.length then l.getD j d else m.getD (j - l.length) d := by
  by_cases h : j < l.length
  · simp [List.getD_eq_getElem?_getD, List.getElem?_append, h]
  · simp [List.getD_eq_getElem?_getD, List.getElem?_append, h]
theorem cat_spec {a b c : Chunk} (h : a.cat b = some c) : c.size = a.size + b.size ∧ ∀ j, j < c.size → c.get j = if j < a.size then a.get j else b.get (j - a.size) := by
  unfold Chunk.cat at h
  split at h
  · rename_i k l k' m
    split at h
    · rename_i hk
      subst hk
      simp only [Option.some.injEq] at h
      subst h
      refine ⟨by simp [Chunk.size], fun j hj => ?_⟩
      simp only [Chunk.get, Chunk.size, getD_append]
      by_cases hl : j < l.length <;> simp [hl]
    · simp at h
  · rename_i l m
    simp only [Option.some.injEq] at h
    subst h
    refine ⟨by simp [Chunk.size], fun j hj => ?_⟩
    simp only [Chunk.get, Chunk.size, getD_append]
    by_cases hl : j < l.length <;> simp [hl]
  · rename_i l m
    simp only [Option.some.injEq] at h
    subst h
    refine ⟨by simp [Chunk.size], fun j hj => ?_⟩
    simp only [Chunk.get, Chunk.size, getD_append]
    by_cases hl : j < l.length <;> simp [hl]
  · rename_i k l
    simp only [Option.some.injEq] at h
    subst h
    exact ⟨by simp [Chunk.size], fun j hj => by rw [if_pos hj]⟩
  · rename_i l
    simp only [Option.some.injEq] at h
    subst h
    exact ⟨by simp [Chunk.size], fun j hj => by rw [if_pos hj]⟩
  · simp only [Option.some.injEq] at h
    subst h
    exact ⟨by simp [Chunk.size], fun j hj => by simp [Chunk.size]⟩
  · rename_i l k m _
    simp only [Option.some.injEq] at h
    subst h
    refine ⟨by simp [Chunk.size], fun j hj => ?_⟩
    simp only [Chunk.size, List.length_append, List.length_map] at hj
    simp only [Chunk.get, Chunk.size, getD_append]
    by_cases hl : j < l.length
    · simp [hl]
    · simp only [hl, ↓reduceIte]
      exact mapI_get (by omega)
  · rename_i k l m _
    simp only [Option.some.injEq] at h
    subst h
    refine ⟨by simp [Chunk.size], fun j hj => ?_⟩
    simp only [Chunk.get, Chunk.size, getD_append, List.length_map]
    by_cases hl : j < l.length
    · simp only [hl, ↓reduceIte]
      exact mapI_get hl
    · simp only [hl, ↓reduceIte]
  · simp at h

/-- the cells that an append reads -/
theorem first_run {es n : Nat} {r : Chunk} {V : Value} (h : Src ι w M es r n V) : ∃ cs : Array Value, (Builtin.firstCells es n V).run P w = .ok cs w ∧ cs.size = n * es ∧ (∀ j, j < n * es → VRel ι w M (r.get j) (cs.getD j default)) ∧ ∀ u ∈ cs.toList, u.oneCell' = true := by
  rcases h.2 with ⟨rfl, A, c, rfl⟩ | ⟨a, c, g, rfl, hs, hc, hg⟩
  · refine ⟨#[], ?_, by simp, fun j hj => by simp at hj, by simp⟩
    cases A with
    | none => simp [Builtin.firstCells]
    | some a => simp [Builtin.firstCells, loadCells, loadCellsFrom]
  · refine ⟨((List.range (n * es)).map g).toArray, ?_, ?_, fun j hj => ?_, fun u hu => ?_⟩
    · simp only [Builtin.firstCells]
      exact run_loadCells (P := P) w a (n * es) g (fun j hj => by rw [add_eq a j hs]; exact hc j hj)
    · simp
    · rw [getD_range_map _ _ _ hj]; exact (hg j hj).1
    · simp at hu
      obtain ⟨j, hj, rfl⟩ := hu
      exact (hg j hj).2
theorem bytesP_some {t b : Nat} (h : bytesP P t = some b) : ∃ i, P.info? t = some i ∧ i.bytes = b := by
  unfold bytesP at h
  obtain ⟨i, h1, h2⟩ := Option.map_eq_some_iff.1 h
  exact ⟨i, h1, h2⟩

/-- what an append comes to -/
def Out (P : Program) (ι : Iota) (w : World) (M : Nat → Prop) (o : Sem Value) (e es n m cap : Nat) (A : Option Addr) (r1 r2 : Chunk) : Prop :=
    ∃ N : Array Value, N.size = m * es ∧ (∀ j, j < m * es → VRel ι w M (r2.get j) (N.getD j default)) ∧ (∀ u ∈ N.toList, u.oneCell' = true) ∧
    ((n + m ≤ cap ∧ ∀ R, (match A with
        | some a => (storeCells (a.add (n * es)) N.toList).run P w
        | none => Result.ok () w) = R → o.run P w = R.andThen fun _ w' => .ok (.slice A (n + m) cap) w') ∨
     (cap < n + m ∧ ∃ (nc : Nat) (O : Array Value), n + m ≤ nc ∧ O.size = nc * es ∧ (∀ j, j < n * es → VRel ι w M (r1.get j) (O.getD j default)) ∧ (∀ j, j < m * es → VRel ι w M (r2.get j) (O.getD (n * es + j) default)) ∧
        o.run P w = .ok (.slice (some ⟨w.heap.size, 0, none⟩) (n + m) nc) ((w.drew).alloc (.cells O e))))

/-- append, what it comes to: in place, or in a block of its own -/
theorem append_run {t t' ty e es b n m cap : Nat} {A : Option Addr} {Y : Value} {z : List (Nat × AV)} {r1 r2 : Chunk} (hu : P.underlying t = some (.slice e)) (hu' : ∃ e', P.underlying t' = some (.slice e')) (hz : sizeP P e = some es) (hb : bytesP P e = some b) (h0 : 0 < b)
    (hzr : zrl P e = some z) (hzl : rlLen z = es) (hX : Src ι w M es r1 n (.slice A n cap)) (hY : Src ι w M es r2 m Y) (hYl : ∃ B c, Y = .slice B m c) (hle : n ≤ cap) (hfit : (n + m) * b ≤ 140737488355328)
    (hAn : A = none → cap = 0) :
    Out P ι w M (Builtin.append_ #[t, t'] ty #[.slice A n cap, Y]) e es n m cap A r1 r2 := by
  unfold Out
  obtain ⟨B, c, rfl⟩ := hYl
  obtain ⟨e', hu'⟩ := hu'
  obtain ⟨N, hN1, hN2, hN3, hN4⟩ := first_run (P := P) hY
  obtain ⟨i, hi1, hi2⟩ := bytesP_some hb
  refine ⟨N, hN2, hN3, hN4, ?_⟩
  rcases Nat.lt_or_ge cap (n + m) with hc | hc
  · refine .inr ⟨hc, ?_⟩
    have hX' : Src ι w.drew M es r1 n (.slice A n cap) := by
      refine ⟨hX.1, ?_⟩
      rcases hX.2 with h | ⟨a, c, g, h1, h2, h3, h4⟩
      · exact .inl h
      · exact .inr ⟨a, c, g, h1, h2, h3, fun j hj => ⟨(h4 j hj).1.mono .drew (fun _ _ h => h), (h4 j hj).2⟩⟩
    have hY' : Src ι w.drew M es r2 m (.slice B m c) := by
      refine ⟨hY.1, ?_⟩
      rcases hY.2 with h | ⟨a, c, g, h1, h2, h3, h4⟩
      · exact .inl h
      · exact .inr ⟨a, c, g, h1, h2, h3, fun j hj => ⟨(h4 j hj).1.mono .drew (fun _ _ h => h), (h4 j hj).2⟩⟩
    obtain ⟨O1, hO1, hO2, hO3, _⟩ := first_run (P := P) hX'
    obtain ⟨N', hN1', hN2', hN3', _⟩ := first_run (P := P) hY'
    obtain ⟨Z, hZ, _, hZ2, hZ3⟩ := zrl_run (ι := ι) (M := M) (w := w.drew) hzr
    let nc := Question.cut (.appendCap (n + m) cap e) (w.tape w.drawn (.appendCap (n + m) cap e))
    have hnc : n + m ≤ nc := by simp only [nc, Question.cut]; omega
    have hcap : ¬ (281474976710656 < Builtin.nextslicecap (n + m) cap * i.bytes) := by
      have := growslice_fits (need := n + m) (old := cap) (bytes := i.bytes) hc (by rw [hi2]; exact hfit)
      omega
    have hti : ∀ w, (typeInfo e).run P w = .ok i w := fun w => by simp [typeInfo, hi1]
    obtain ⟨i', hi3, hi4⟩ := sizeP_some hz
    rw [hi1] at hi3
    cases hi3
    have hzs : Z.cells.size = es := by omega
    have hO : (O1 ++ N' ++ Builtin.zeroCells Z.cells (nc - (n + m))).size = nc * es := by
      simp only [Array.size_append, size_zeroCells, hzs, hO2, hN2', ← Nat.add_mul]
      congr 1
      omega
    refine ⟨nc, O1 ++ N' ++ Builtin.zeroCells Z.cells (nc - (n + m)), hnc, hO, fun j hj => ?_, fun j hj => ?_, ?_⟩
    · have h1 : (O1 ++ N' ++ Builtin.zeroCells Z.cells (nc - (n + m))).getD j default = O1.getD j default := by
        have h2 : j < O1.size := by omega
        simp [Array.getD_eq_getD_getElem?, Array.getElem?_append, h2]
      rw [h1]
      have := hO3 j hj
      exact this.mono Imm.undrew (fun _ _ h => h)
    · have h1 : (O1 ++ N' ++ Builtin.zeroCells Z.cells (nc - (n + m))).getD (n * es + j) default = N'.getD j default := by
        have h2 : n * es + j < O1.size + N'.size := by omega
        have h3 : ¬ n * es + j < O1.size := by omega
        simp only [Array.getD_eq_getD_getElem?, Array.getElem?_append, Array.size_append, h2, if_true, h3, if_false]
        congr 2
        omega
      rw [h1]
      have := hN3' j hj
      exact this.mono Imm.undrew (fun _ _ h => h)
    · have hnot : ¬ (n + m ≤ cap) := by omega
      have hb0 : ¬ (i.bytes = 0) := by omega
      simp [Builtin.append_, run_underlying hu, run_underlying hu', sizeOf, typeInfo, hi1, Builtin.lenOf, hnot, hcap, hi4, hO1, hN1', hb0]
      rw [if_neg (by simp [Question.forced]), hZ, Result.andThen_ok, newRow_run, Result.andThen_ok]
      rfl
  · refine .inl ⟨hc, fun R hR => ?_⟩
    obtain ⟨i', hi3, hi4⟩ := sizeP_some hz
    rw [hi1] at hi3
    cases hi3
    cases A with
    | none =>
      simp only at hR
      subst hR
      simp [Builtin.append_, run_underlying hu, run_underlying hu', sizeOf, typeInfo, hi1, Builtin.lenOf, hc, hi4, hN1]
    | some a =>
      simp only at hR
      subst hR
      simp [Builtin.append_, run_underlying hu, run_underlying hu', sizeOf, typeInfo, hi1, Builtin.lenOf, hc, hi4, hN1]


/-- append of make: as many zeros -/
theorem append_run0 {t t' ty e es b n m cap : Nat} {kk k' : IntKind} {A : Option Addr} {z : List (Nat × AV)} {r1 : Chunk} {rk : RK} (hu : P.underlying t = some (.slice e)) (hu' : P.underlying t' = some (.int kk)) (hz : sizeP P e = some es) (hb : bytesP P e = some b) (h0 : 0 < b)
    (hzr : zrl P e = some z) (hzl : rlLen z = es) (he : 0 < es) (hk : zOk rk z = true) (hgen : rk ≠ .gen) (hX : Src ι w M es r1 n (.slice A n cap)) (hle : n ≤ cap) (hfit : (n + m) * b ≤ 140737488355328)
    (hAn : A = none → cap = 0) :
    Out P ι w M (Builtin.append_ #[t, t'] ty #[.slice A n cap, .int k' m]) e es n m cap A r1 (zeroRow rk (rlList z) m) := by
  unfold Out
  obtain ⟨i, hi1, hi2⟩ := bytesP_some hb
  obtain ⟨i', hi3, hi4⟩ := sizeP_some hz
  rw [hi1] at hi3
  cases hi3
  have hnm : n + m ≤ (n + m) * b := Nat.le_mul_of_pos_right _ h0
  have hw : IntKind.i64.wrap (m : Int) = m := IntWalk.i64_in _ (by omega)
  have hmb : m * b ≤ 140737488355328 := Nat.le_trans (Nat.mul_le_mul_right _ (by omega)) hfit
  have hmb' : ((m : Int) * (b : Int)) ≤ 140737488355328 := by rw [← Int.natCast_mul]; exact Int.ofNat_le.2 hmb
  obtain ⟨hr1, hr2⟩ := zeroRow_get (n := m) hk hzl he
  have hone : ∀ j, ((zeroRow rk (rlList z) m).get j).one = true := fun j => by
    cases rk with
    | int k => rfl
    | bool => rfl
    | gen => exact absurd rfl hgen
  have cells : ∀ w' : World, ∃ Z : Value, (zeroValue e).run P w' = .ok Z w' ∧ Z.cells.size = es ∧ (Builtin.zeroCells Z.cells m).size = m * es ∧ (∀ j, j < m * es → VRel ι w' M ((zeroRow rk (rlList z) m).get j) ((Builtin.zeroCells Z.cells m).getD j default)) := fun w' => by
    obtain ⟨Z, hZ, _, h3, h4⟩ := zrl_run (ι := ι) (M := M) (w := w') hzr
    have hzs : Z.cells.size = es := by omega
    refine ⟨Z, hZ, hzs, by rw [size_zeroCells, hzs], fun j hj => ?_⟩
    have e1 : Builtin.zeroCells Z.cells m = (Array.range (m * es)).map (Z.cells[· % Z.cells.size]!) := by
      unfold Builtin.zeroCells
      rw [hzs]
    rw [e1, hr2 j hj, range_mod _ _ _ hj (by omega), hzs]
    exact h4 _ (by rw [hzl]; exact Nat.mod_lt _ he)
  have ones : ∀ (w' : World) (N : Array Value), N.size = m * es → (∀ j, j < m * es → VRel ι w' M ((zeroRow rk (rlList z) m).get j) (N.getD j default)) → ∀ u ∈ N.toList, u.oneCell' = true := fun w' N h1 h2 u hu => by
    obtain ⟨j, hj, rfl⟩ := List.getElem_of_mem hu
    have hj' : j < m * es := by simp at hj; omega
    have h3 := ((h2 j hj').one (hone j)).1
    have h4 : j < N.size := by omega
    simpa [Array.getD_eq_getD_getElem?, h4] using h3
  have run : ∀ (w' : World) (Z : Value), (zeroValue e).run P w' = .ok Z w' → Z.cells.size = es → (if m * es = 0 then pure #[] else do pure (Builtin.zeroCells (← zeroValue e).cells m) : Sem (Array Value)).run P w' = .ok (Builtin.zeroCells Z.cells m) w' := fun w' Z hZ hs => by
    by_cases h : m * es = 0
    · have : Builtin.zeroCells Z.cells m = #[] := by
        unfold Builtin.zeroCells
        rw [hs, h]
        simp
      rw [if_pos h, this]
      rfl
    · rw [if_neg h]
      simp [hZ]
  have hempty : m * es = 0 → ∀ Z : Value, Z.cells.size = es → Builtin.zeroCells Z.cells m = #[] := fun h Z hs => by
    unfold Builtin.zeroCells
    rw [hs, h]
    simp
  obtain ⟨Z, hZ, hZs, hN1, hN2⟩ := cells w
  refine ⟨Builtin.zeroCells Z.cells m, hN1, hN2, ones w _ hN1 hN2, ?_⟩
  have hlt : ¬ ((m : Int) < 0) := by omega
  have hbig : ¬ ((281474976710656 : Int) < (m : Int) * (i.bytes : Int)) := by rw [hi2]; omega
  have hti : ∀ w, (typeInfo e).run P w = .ok i w := fun w => by simp [typeInfo, hi1]
  rcases Nat.lt_or_ge cap (n + m) with hc | hc
  · refine .inr ⟨hc, ?_⟩
    have hX' : Src ι w.drew M es r1 n (.slice A n cap) := by
      refine ⟨hX.1, ?_⟩
      rcases hX.2 with h | ⟨a, c, g, h1, h2, h3, h4⟩
      · exact .inl h
      · exact .inr ⟨a, c, g, h1, h2, h3, fun j hj => ⟨(h4 j hj).1.mono .drew (fun _ _ h => h), (h4 j hj).2⟩⟩
    obtain ⟨O1, hO1, hO2, hO3, _⟩ := first_run (P := P) hX'
    obtain ⟨Y, hY, hYs, hY1, hY2⟩ := cells w.drew
    let nc := Question.cut (.appendCap (n + m) cap e) (w.tape w.drawn (.appendCap (n + m) cap e))
    have hnc : n + m ≤ nc := by simp only [nc, Question.cut]; omega
    have hcap : ¬ (281474976710656 < Builtin.nextslicecap (n + m) cap * i.bytes) := by
      have := growslice_fits (need := n + m) (old := cap) (bytes := i.bytes) hc (by rw [hi2]; exact hfit)
      omega
    have hO : (O1 ++ Builtin.zeroCells Y.cells m ++ Builtin.zeroCells Y.cells (nc - (n + m))).size = nc * es := by
      simp only [Array.size_append, size_zeroCells, hYs, hO2, ← Nat.add_mul]
      congr 1
      omega
    refine ⟨nc, O1 ++ Builtin.zeroCells Y.cells m ++ Builtin.zeroCells Y.cells (nc - (n + m)), hnc, hO, fun j hj => ?_, fun j hj => ?_, ?_⟩
    · have h1 : (O1 ++ Builtin.zeroCells Y.cells m ++ Builtin.zeroCells Y.cells (nc - (n + m))).getD j default = O1.getD j default := by
        have h2 : j < O1.size := by omega
        simp [Array.getD_eq_getD_getElem?, Array.getElem?_append, h2]
      rw [h1]
      exact (hO3 j hj).mono Imm.undrew (fun _ _ h => h)
    · have h1 : (O1 ++ Builtin.zeroCells Y.cells m ++ Builtin.zeroCells Y.cells (nc - (n + m))).getD (n * es + j) default = (Builtin.zeroCells Y.cells m).getD j default := by
        have h2 : n * es + j < O1.size + (Builtin.zeroCells Y.cells m).size := by omega
        have h3 : ¬ n * es + j < O1.size := by omega
        simp only [Array.getD_eq_getD_getElem?, Array.getElem?_append, Array.size_append, h2, if_true, h3, if_false]
        congr 2
        omega
      rw [h1]
      exact (hY2 j hj).mono Imm.undrew (fun _ _ h => h)
    · have hnot : ¬ (n + m ≤ cap) := by omega
      have hov : ¬ ((9223372036854775807 : Int) < (n : Int) + (m : Int)) := by omega
      have hr := run w.drew Y hY hYs
      simp [Builtin.append_, run_underlying hu, run_underlying hu', sizeOf, typeInfo, hi1, asInt, asIntOf, hw, hlt, hbig, hnot, hcap, hi4, hO1, hov]
      rw [if_neg (by simp [Question.forced])]
      by_cases h : m * es = 0
      · rw [if_pos h, hY, Result.andThen_ok, newRow_run, Result.andThen_ok, hempty h Y hYs]
        simp only [Array.empty_append]
        rfl
      · rw [if_neg h, hY, Result.andThen_ok, Result.andThen_ok, hY, Result.andThen_ok, newRow_run, Result.andThen_ok]
        rfl
  · refine .inl ⟨hc, fun R hR => ?_⟩
    have hr := run w Z hZ hZs
    cases A with
    | none =>
      simp only at hR
      subst hR
      simp [Builtin.append_, run_underlying hu, run_underlying hu', sizeOf, typeInfo, hi1, asInt, asIntOf, hw, hlt, hbig, hc, hi4]
      intro h
      rw [hZ, Result.andThen_ok, Result.andThen_ok]
    | some a =>
      simp only at hR
      subst hR
      simp [Builtin.append_, run_underlying hu, run_underlying hu', sizeOf, typeInfo, hi1, asInt, asIntOf, hw, hlt, hbig, hc, hi4]
      by_cases h : m * es = 0
      · rw [if_pos h, hempty h Z hZs]
      · rw [if_neg h, hZ, Result.andThen_ok, Result.andThen_ok]

/-- a handle for a block that is there -/
theorem Rep.handle {h : Nat} {p : Option (Nat × Nat)} (hR : Rep ι s w M) (hn : ι h = none) (hlt : h < s.next) (hg : s.get h = none) : Rep (ι.set h p) s w M := by
  have hx := ι.set_ext h p hn
  have hne : ∀ j c, s.get j = some c → j ≠ h := fun j c hc e => by subst e; rw [hg] at hc; cases hc
  refine ⟨fun j hj => by rw [ι.set_other _ _ _ (by omega)]; exact hR.fresh j hj, fun j c hc => ?_, fun j j' c c' p1 p' hc hc' hd hp hp' => ?_, hR.lt, hR.glob⟩
  · rw [ι.set_other _ _ _ (hne j c hc)]
    rcases hR.own j c hc with h1 | ⟨b, base, h1, h2, h3⟩
    · exact .inl h1
    · exact .inr ⟨b, base, h1, h2, h3.mono (Imm.refl w M) hx rfl⟩
  · rw [ι.set_other _ _ _ (hne j c hc)] at hp
    rw [ι.set_other _ _ _ (hne j' c' hc')] at hp'
    exact hR.inj j j' c c' p1 p' hc hc' hd hp hp'
theorem Go.handle {n0 h : Nat} {p : Option (Nat × Nat)} (hn : n0 ≤ s.next) (hh : n0 ≤ h) (hg : s.get h = none) (hi : ι h = none) : Go n0 ι s w M (ι.set h p) s w M :=
  ⟨Nat.le_refl _, rfl, rfl, rfl, fun _ _ _ => rfl, fun _ _ => rfl, fun _ _ h => h, fun _ h _ => h, fun b hb ho => by
    obtain ⟨j, c, base, h1, h2⟩ := ho
    have hne : j ≠ h := fun e => by subst e; rw [hg] at h1; cases h1
    rw [ι.set_other _ _ _ hne] at h2
    exact ⟨j, c, base, h1, h2⟩, hn, fun j hj => ι.set_other h j p (by omega)⟩

/-- what an operation that may change memory comes to -/
def Does (P : Program) (n0 : Nat) (ι : Iota) (s : St) (w : World) (M : Nat → Prop) (o : Sem Value) (v : AV) (s' : St) : Prop :=
  ∃ V ι' w' M', o.run P w = .ok V w' ∧ VRel ι' w' M' v V ∧ Rep ι' s' w' M' ∧ Go n0 ι s w M ι' s' w' M' ∧ (∀ h p, ι h = some p → ι' h = some p) ∧ Imm w M w' M'

/-- a row of the call's own for a new handle -/
theorem new_row {es n : Nat} {c : Chunk} {O : Array Value} {e nc : Nat} {n0 : Nat} (hR : Rep ι s w M) (hn : n0 ≤ s.next) (hO : O.size = nc * es) (hnc : n ≤ nc) (hc : c.size = n * es) (nm : c.isMap = false) (hcell : ∀ j, j < c.size → VRel ι w M (c.get j) (O.getD j default)) :
    ∃ ι' M', VRel ι' (w.alloc (.cells O e)) M' (.sl es s.next 0 n) (.slice (some ⟨w.heap.size, 0, none⟩) n nc) ∧ Rep ι' ⟨s.next + 1, (s.next, some c) :: s.m⟩ (w.alloc (.cells O e)) M' ∧
      Go n0 ι s w M ι' ⟨s.next + 1, (s.next, some c) :: s.m⟩ (w.alloc (.cells O e)) M' ∧ (∀ h p, ι h = some p → ι' h = some p) ∧ Imm w M (w.alloc (.cells O e)) M' := by
  have hi : ι s.next = none := hR.fresh _ (Nat.le_refl _)
  have hg : s.get s.next = none := by
    cases h : s.get s.next with
    | none => rfl
    | some c => exact absurd (hR.none_of_get h) (by omega)
  have hR1 : Rep ι ⟨s.next + 1, s.m⟩ w M := hR.next (by omega)
  have hR2 := Rep.alloc (cs := O) (T := e) (h := s.next) hR1 hi (by simp) hg
  have hx := ι.set_ext s.next (some (w.heap.size, 0)) hi
  have hI := Imm.alloc (w := w) (M := M) (.cells O e)
  refine ⟨ι.set s.next (some (w.heap.size, 0)), addM M w.heap.size, ?_, ?_, ?_, hx, hI⟩
  · exact .sl es s.next 0 n w.heap.size 0 0 nc e O.size (ι.set_same _ _) (.inl rfl) hnc (shape_alloc O e) (by omega)
  · refine hR2.put (.inr ⟨w.heap.size, 0, ι.set_same _ _, .inr rfl, (CRel.not_map (fun l k e => by subst e; cases nm)).2 ⟨O, e, (0, 0), heap_alloc_new w _, fun i _ => by omega, ?_, fun j hj => ?_⟩, fun j c' p hne hc' hp => ?_⟩)
    · have : n * es ≤ nc * es := Nat.mul_le_mul_right _ hnc
      omega
    · rw [Nat.zero_add]
      exact (hcell j hj).mono hI hx
    · rw [ι.set_other _ _ _ hne] at hp
      have hM := hR.ownM ⟨j, c', p.2, hc', hp⟩
      have := hR.lt _ hM
      omega
  · have hgo := Go.alloc (n0 := n0) (h := s.next) (o := .cells O e) (p := some (w.heap.size, 0)) (ι := ι) (s := s) (w := w) (M := M) hn hn hg hi
    refine ⟨hgo.size, hgo.tape, hgo.os, hgo.output, hgo.block, hgo.shape, hgo.back, hgo.keep, fun b hb ho => ?_, by simp only; omega, hgo.ext⟩
    obtain ⟨j, c', base, h1, h2⟩ := ho
    rw [St.get_cons] at h1
    split at h1
    · rename_i he
      subst he
      rw [ι.set_same] at h2
      simp only [Option.some.injEq, Prod.mk.injEq] at h2
      omega
    · rename_i he
      rw [ι.set_other _ _ _ (fun e => he e.symm)] at h2
      exact ⟨j, c', base, h1, h2⟩

end
end Go.Ab
set_option linter.unusedVariables false
set_option linter.unusedSimpArgs false
set_option autoImplicit false
namespace Go.Ab

section
variable {P : Program} {ι : Iota} {s : St} {w : World} {M : Nat → Prop}

theorem storeCells_ok {b o : Nat} {cs : Array Value} {T : Nat} {fr : Nat × Nat} (l : List Value) (hh : w.heap[b]? = some (.cells cs T fr)) (hf : ∀ i, i < cs.size → ¬ (fr.1 ≤ i ∧ i < fr.2))
    (hle : o + l.length ≤ cs.size) (h1 : ∀ u ∈ l, u.oneCell' = true) : (storeCells ⟨b, o, none⟩ l).run P w = .ok () (w.setCells b o l) := by
  have hst := run_storeCells_cells (P := P) b o l 0 w (fun j hj => by
      have : o + 0 + j < cs.size := by omega
      simp only [Nat.add_zero] at this
      simp [World.cell?, hh, this]) (fun j hj => by
      have h2 : o + 0 + j < cs.size := by omega
      have := hf _ h2
      obtain ⟨lo, hi⟩ := fr
      simp only [World.frozen?, hh]
      simp only at this
      simp; omega) h1
  simpa only [Nat.add_zero] using hst

theorem cat_nm {a b r : Chunk} (hb : b.isMap = false) (h : a.cat b = some r) : r.isMap = false := by
  unfold Chunk.cat at h
  repeat' split at h
  all_goals first | (simp only [Option.some.injEq] at h; subst h; first | rfl | exact hb) | simp at h
theorem zeroRow_nm {k : RK} {z : List AV} {n : Nat} : (zeroRow k z n).isMap = false := by
  unfold zeroRow
  repeat' split
  all_goals rfl
theorem rowFrom_nm {d : AV} {es : Nat} {get : Nat → Option Chunk} {b : Bool} {r : Chunk} (h : rowFrom d es get = some (b, r)) : r.isMap = false := by
  unfold rowFrom at h
  repeat' split at h
  all_goals first | (simp only [Option.some.injEq, Prod.mk.injEq] at h; obtain ⟨_, rfl⟩ := h; rfl) | simp at h

theorem append_core0 {n0 e es n m cap : Nat} {A : Option Addr} {o : Sem Value} {r1 r2 r : Chunk} {m1 : Mem} (hR : Rep ι s w M) (hn : n0 ≤ s.next)
    (hR1 : Rep ι ⟨s.next, m1⟩ w M) (hsub : ∀ b, Own ι ⟨s.next, m1⟩ b → Own ι s b)
    (hX : Src ι w M es r1 n (.slice A n cap)) (hout : Out P ι w M o e es n m cap A r1 r2) (hle : n ≤ cap)
    (nm : r.isMap = false) (hr : r.size = (n + m) * es) (hrg : ∀ j, j < r.size → r.get j = if j < n * es then r1.get j else r2.get (j - n * es))
    (hA : (A = none ∧ cap = 0) ∨ ∃ bb oo cs T fr, A = some ⟨bb, oo, none⟩ ∧ Own ι s bb ∧ w.heap[bb]? = some (.cells cs T fr) ∧ (∀ i, i < cs.size → ¬ (fr.1 ≤ i ∧ i < fr.2)) ∧ oo + cap * es ≤ cs.size ∧ ¬ Own ι ⟨s.next, m1⟩ bb) :
    Does P n0 ι s w M o (.sl es s.next 0 (n + m)) ⟨s.next + 1, (s.next, some r) :: m1⟩ := by
  have hi : ι s.next = none := hR.fresh _ (Nat.le_refl _)
  have hg1 : (St.mk s.next m1).get s.next = none := by
    cases h : (St.mk s.next m1).get s.next with
    | none => rfl
    | some c => exact absurd (hR1.none_of_get h) (by simp)
  have hnm : Go n0 ι s w M ι ⟨s.next, m1⟩ w M := Go.names hn hsub
  obtain ⟨N, hN1, hN2, hN3, hc⟩ := hout
  rcases hc with ⟨hc, hrun⟩ | ⟨hc, nc, O, hnc, hO, hO1, hO2, hrun⟩
  · rcases hA with ⟨rfl, rfl⟩ | ⟨bb, oo, cs, T, fr, rfl, hown, hh, hfr, hbd, hno⟩
    · obtain ⟨rfl, rfl⟩ : n = 0 ∧ m = 0 := by omega
      have hrun := hrun _ rfl
      have hR2 : Rep (ι.set s.next none) ⟨s.next + 1, m1⟩ w M := Rep.handle (hR1.next (n := s.next + 1) (by simp)) hi (by simp) hg1
      refine ⟨.slice none 0 0, ι.set s.next none, w, M, by rw [hrun]; rfl, .slv _ _ _ (ι.set_same _ _), hR2.put (.inl ⟨ι.set_same _ _, by rw [hr]; simp⟩), ?_, ι.set_ext _ _ hi, Imm.refl w M⟩
      have hgo := Go.handle (n0 := n0) (p := none) (ι := ι) (s := ⟨s.next, m1⟩) (w := w) (M := M) hn hn hg1 hi
      refine Go.trans hnm ⟨hgo.size, hgo.tape, hgo.os, hgo.output, hgo.block, hgo.shape, hgo.back, hgo.keep, fun b hb ho => ?_, by simp only; omega, hgo.ext⟩ hR.lt
      obtain ⟨j, c', base, h1, h2⟩ := ho
      rw [St.get_cons] at h1
      split at h1
      · rename_i he
        subst he
        rw [ι.set_same] at h2
        simp at h2
      · rename_i he
        rw [ι.set_other _ _ _ (fun e => he e.symm)] at h2
        exact ⟨j, c', base, h1, h2⟩
    · have hMb : M bb := hR.ownM hown
      have hlen : N.toList.length = m * es := by simpa using hN1
      have hmul : (n + m) * es ≤ cap * es := Nat.mul_le_mul_right _ hc
      have hadd : (n + m) * es = n * es + m * es := Nat.add_mul _ _ _
      have hst := storeCells_ok (P := P) (w := w) (b := bb) (o := oo + n * es) N.toList hh hfr (by omega) hN3
      rw [← add_eq ⟨bb, oo, none⟩ (n * es) rfl] at hst
      have hrun := hrun _ hst
      obtain ⟨e1, e2, e3, e4⟩ := setCells_same N.toList bb (oo + n * es) w
      have hsh := fun k => setCells_shape N.toList bb (oo + n * es) k w cs T fr hh
      have hoth := fun k hk => setCells_other N.toList bb (oo + n * es) k w hk
      have hI := Imm.set (w := w) hMb e1 hoth hsh
      have hx := ι.set_ext s.next (some (bb, oo)) hi
      have hshape : w.shape? bb = some (T, cs.size) := by unfold World.shape?; rw [hh]
      have hnj : ∀ j c base, (St.mk s.next m1).get j = some c → ι j ≠ some (some (bb, base)) := fun j c base hc hb => hno ⟨j, c, base, hc, hb⟩
      have hne1 : ∀ j c, (St.mk s.next m1).get j = some c → j ≠ s.next := fun j c hc e => by subst e; rw [hg1] at hc; cases hc
      -- the other chunks
      have hR2 : Rep (ι.set s.next (some (bb, oo))) ⟨s.next + 1, m1⟩ (w.setCells bb (oo + n * es) N.toList) M := by
        have hR2 := Rep.handle (p := some (bb, oo)) (hR1.next (n := s.next + 1) (by simp)) hi (by simp) hg1
        refine ⟨hR2.fresh, fun j c hc => ?_, hR2.inj, fun b hb => by rw [e1]; exact hR2.lt b hb, hR2.glob.mono hI⟩
        rcases hR2.own j c hc with h1 | ⟨b1, base1, h1, h2, h3⟩
        · exact .inl h1
        · refine .inr ⟨b1, base1, h1, h2, h3.mono hI (fun _ _ h => h) (hoth b1 fun e => ?_)⟩
          subst e
          rw [ι.set_other _ _ _ (hne1 j c hc)] at h1
          exact hnj j c base1 hc h1
      refine ⟨.slice (some ⟨bb, oo, none⟩) (n + m) cap, ι.set s.next (some (bb, oo)), _, M, by rw [hrun]; rfl, ?_, hR2.put (.inr ⟨bb, oo, ι.set_same _ _, hMb, ?_, fun j c' p hne hc' hp => ?_⟩), ?_, hx, hI⟩
      · exact .sl es s.next 0 (n + m) bb oo oo cap T cs.size (ι.set_same _ _) (.inl rfl) hc ((hsh bb).trans hshape) hbd
      · refine (CRel.not_map (fun l k e => by subst e; cases nm)).2 ⟨_, T, fr, setCells_heap _ _ _ _ _ _ _ hh, fun i hi' => hfr i (by rwa [putA_size] at hi'), by rw [putA_size, hr]; omega, fun j hj => ?_⟩
        have hj' := hj
        rw [hr] at hj
        rw [putA_get _ _ _ _ (by omega), hlen, hrg j hj']
        by_cases hjn : j < n * es
        · rw [if_pos hjn, if_neg (by omega)]
          rcases hX.2 with ⟨rfl, _⟩ | ⟨a, c, g, ha, hs, hcell, hg⟩
          · simp at hjn
          · simp only [Value.slice.injEq, Option.some.injEq] at ha
            obtain ⟨rfl, _, rfl⟩ := ha
            have h5 := hcell j hjn
            have h6 : cs.getD (oo + j) default = g j := by
              have hlt : oo + j < cs.size := by omega
              simp only [World.cell?, hh] at h5
              simp [hlt] at h5
              simpa [Array.getD, hlt] using h5
            rw [h6]
            exact ((hg j hjn).1).mono hI hx
        · rw [if_neg hjn, if_pos (by omega)]
          have h7 := hN2 (j - n * es) (by omega)
          rw [show oo + j - (oo + n * es) = j - n * es by omega]
          have h8 : N.toList.getD (j - n * es) default = N.getD (j - n * es) default := by
            simp [List.getD_eq_getElem?_getD, Array.getD_eq_getD_getElem?]
          rw [h8]
          exact h7.mono hI hx
      · rw [ι.set_other _ _ _ hne] at hp
        intro e
        have h9 : p = (bb, p.2) := by rw [← e]
        rw [h9] at hp
        exact hnj j c' p.2 hc' hp
      · refine ⟨by omega, e2, e3, e4, fun k hk hno => hoth k fun e => hno (e ▸ hown), fun k _ => hsh k, fun _ _ h => h, fun _ h _ => h, fun k hk ho => ?_, by simp only; omega, fun h hh => ι.set_other _ _ _ (by omega)⟩
        obtain ⟨j, c', base, h1, h2⟩ := ho
        rw [St.get_cons] at h1
        split at h1
        · rename_i he
          subst he
          rw [ι.set_same] at h2
          simp only [Option.some.injEq, Prod.mk.injEq] at h2
          exact h2.1 ▸ hown
        · rename_i he
          rw [ι.set_other _ _ _ (fun e => he e.symm)] at h2
          exact hsub k ⟨j, c', base, h1, h2⟩
  · have hadd : (n + m) * es = n * es + m * es := Nat.add_mul _ _ _
    obtain ⟨ι', M', h1, h2, h3, h4, h5⟩ := new_row (ι := ι) (s := ⟨s.next, m1⟩) (w := w.drew) (M := M) (n0 := n0) (e := e) (es := es) (n := n + m) (nc := nc) (c := r) (O := O) hR1.drew hn hO hnc hr nm (fun j hj => by
      have hj' := hj
      rw [hr] at hj
      rw [hrg j hj']
      by_cases hjn : j < n * es
      · rw [if_pos hjn]; exact (hO1 j hjn).mono .drew (fun _ _ h => h)
      · rw [if_neg hjn]
        have := (hO2 (j - n * es) (by omega)).mono (Imm.drew (w := w) (M := M)) (fun _ _ h => h)
        rwa [show n * es + (j - n * es) = j by omega] at this)
    exact ⟨_, ι', _, M', hrun, h1, h2, (hnm.trans (Go.drew hn) hR.lt).trans h3 hR.lt, h4, Imm.drew.trans h5⟩

theorem append_core {n0 t t' ty e es b n m cap : Nat} {A : Option Addr} {Y : Value} {z : List (Nat × AV)} {r1 r2 r : Chunk} {m1 : Mem} (hR : Rep ι s w M) (hn : n0 ≤ s.next)
    (hR1 : Rep ι ⟨s.next, m1⟩ w M) (hsub : ∀ b, Own ι ⟨s.next, m1⟩ b → Own ι s b)
    (hu : P.underlying t = some (.slice e)) (hu' : ∃ e', P.underlying t' = some (.slice e')) (hz : sizeP P e = some es) (hb : bytesP P e = some b) (h0 : 0 < b)
    (hzr : zrl P e = some z) (hzl : rlLen z = es) (hX : Src ι w M es r1 n (.slice A n cap)) (hY : Src ι w M es r2 m Y) (hYl : ∃ B c, Y = .slice B m c) (hle : n ≤ cap) (hfit : (n + m) * b ≤ 140737488355328)
    (nm : r.isMap = false) (hr : r.size = (n + m) * es) (hrg : ∀ j, j < r.size → r.get j = if j < n * es then r1.get j else r2.get (j - n * es))
    (hA : (A = none ∧ cap = 0) ∨ ∃ bb oo cs T fr, A = some ⟨bb, oo, none⟩ ∧ Own ι s bb ∧ w.heap[bb]? = some (.cells cs T fr) ∧ (∀ i, i < cs.size → ¬ (fr.1 ≤ i ∧ i < fr.2)) ∧ oo + cap * es ≤ cs.size ∧ ¬ Own ι ⟨s.next, m1⟩ bb) :
    Does P n0 ι s w M (Builtin.append_ #[t, t'] ty #[.slice A n cap, Y]) (.sl es s.next 0 (n + m)) ⟨s.next + 1, (s.next, some r) :: m1⟩ :=
  append_core0 hR hn hR1 hsub hX (append_run (P := P) hu hu' hz hb h0 hzr hzl hX hY hYl hle hfit (ty := ty) (fun h => by
    rcases hA with ⟨_, h⟩ | ⟨_, _, _, _, _, h', _⟩
    · exact h
    · rw [h] at h'; cases h')) hle nm hr hrg hA
theorem append_corez {n0 t t' ty e es b n m cap : Nat} {kk k' : IntKind} {A : Option Addr} {z : List (Nat × AV)} {r1 r : Chunk} {rk : RK} {m1 : Mem} (hR : Rep ι s w M) (hn : n0 ≤ s.next)
    (hR1 : Rep ι ⟨s.next, m1⟩ w M) (hsub : ∀ b, Own ι ⟨s.next, m1⟩ b → Own ι s b)
    (hu : P.underlying t = some (.slice e)) (hu' : P.underlying t' = some (.int kk)) (hz : sizeP P e = some es) (hb : bytesP P e = some b) (h0 : 0 < b)
    (hzr : zrl P e = some z) (hzl : rlLen z = es) (he : 0 < es) (hk : zOk rk z = true) (hgen : rk ≠ .gen) (hX : Src ι w M es r1 n (.slice A n cap)) (hle : n ≤ cap) (hfit : (n + m) * b ≤ 140737488355328)
    (nm : r.isMap = false) (hr : r.size = (n + m) * es) (hrg : ∀ j, j < r.size → r.get j = if j < n * es then r1.get j else (zeroRow rk (rlList z) m).get (j - n * es))
    (hA : (A = none ∧ cap = 0) ∨ ∃ bb oo cs T fr, A = some ⟨bb, oo, none⟩ ∧ Own ι s bb ∧ w.heap[bb]? = some (.cells cs T fr) ∧ (∀ i, i < cs.size → ¬ (fr.1 ≤ i ∧ i < fr.2)) ∧ oo + cap * es ≤ cs.size ∧ ¬ Own ι ⟨s.next, m1⟩ bb) :
    Does P n0 ι s w M (Builtin.append_ #[t, t'] ty #[.slice A n cap, .int k' m]) (.sl es s.next 0 (n + m)) ⟨s.next + 1, (s.next, some r) :: m1⟩ :=
  append_core0 hR hn hR1 hsub hX (append_run0 (P := P) hu hu' hz hb h0 hzr hzl he hk hgen hX hle hfit (ty := ty) (fun h => by
    rcases hA with ⟨_, h⟩ | ⟨_, _, _, _, _, h', _⟩
    · exact h
    · rw [h] at h'; cases h')) hle nm hr hrg hA

/-- append of make, of what we know -/
theorem appendz_sound {n0 t t' ty e es b : Nat} {kk : IntKind} {x y v : AV} {X Y : Value} {z : List (Nat × AV)} {rk : RK} {eff : Eff} (hR : Rep ι s w M) (hn : n0 ≤ s.next)
    (hu : P.underlying t = some (.slice e)) (hu' : P.underlying t' = some (.int kk)) (hz : sizeP P e = some es) (hb : bytesP P e = some b) (h0 : 0 < b)
    (hzr : zrl P e = some z) (hzl : rlLen z = es) (he : 0 < es) (hk : zOk rk z = true) (hgen : rk ≠ .gen) (hX : VRel ι w M x X) (hY : VRel ι w M y Y) (h : appzA es b rk (rlList z) x y s.get s.next = .ok true v eff) :
    Does P n0 ι s w M (Builtin.append_ #[t, t'] ty #[X, Y]) v (s.app eff) := by
  have hG := hR.hget
  unfold appzA at h
  split at h
  · rename_i k' c
    obtain rfl := hY.int_inv
    split at h
    · obtain rfl := hX.nils_inv
      simp only [Res.ok.injEq, Bool.and_eq_true, decide_eq_true_eq] at h
      obtain ⟨⟨h3, h4⟩, rfl, rfl⟩ := h
      obtain ⟨m, rfl⟩ := Int.eq_ofNat_of_zero_le h3
      simp only [Int.toNat_natCast] at h4 ⊢
      have hSX : Src ι w M es (.obj []) 0 (.slice none 0 0) := ⟨by simp [Chunk.size], .inl ⟨rfl, _, _, rfl⟩⟩
      obtain ⟨q1, q2⟩ := zeroRow_get (n := m) hk hzl he
      have := append_corez (P := P) (r := zeroRow rk (rlList z) m) (k' := k') hR hn hR (fun _ h => h) hu hu' hz hb h0 hzr hzl he hk hgen hSX (Nat.le_refl _) (by simpa using h4) zeroRow_nm (by simpa using q1) (fun j _ => by simp) (ty := ty) (.inl ⟨rfl, rfl⟩)
      simpa [St.app] using this
    · rename_i ee hh o n
      split at h
      · rename_i c1 r1 h1
        split at h
        · rename_i r hcat
          simp only [Res.ok.injEq, Bool.and_eq_true, decide_eq_true_eq] at h
          obtain ⟨⟨⟨rfl, h3⟩, h4⟩, rfl, rfl⟩ := h
          obtain ⟨m, rfl⟩ := Int.eq_ofNat_of_zero_le h3
          simp only [Int.toNat_natCast] at h4 hcat ⊢
          have hSX := rowFrom_src hX hG h1 rfl
          obtain ⟨q1, q2⟩ := cat_spec hcat
          obtain ⟨z1, z2⟩ := zeroRow_get (n := m) hk hzl he
          have hadd : (n + m) * es = n * es + m * es := Nat.add_mul _ _ _
          have hget : ∃ c, s.get hh = some c := by
            simp only [rowFrom] at h1
            cases hg : s.get hh with
            | none => simp [hg] at h1
            | some c => exact ⟨c, rfl⟩
          obtain ⟨c, hg⟩ := hget
          have hee : ee = es := by
            simp only [rowFrom, hg] at h1
            cases c <;> simp only [Option.some.injEq, Prod.mk.injEq, Bool.and_eq_true, Nat.beq_eq_true_eq, reduceCtorEq] at h1
            · exact Nat.eq_of_beq_eq_true h1.1.1.1
            · exact Nat.eq_of_beq_eq_true h1.1.1.1
            · exact Nat.eq_of_beq_eq_true h1.1.1.1
            · exact Nat.eq_of_beq_eq_true h1.1.1.1.1
          subst hee
          have hsub : ∀ b, Own ι ⟨s.next, (hh, none) :: s.m⟩ b → Own ι s b := fun b ho => by
            obtain ⟨j, c', base, k1, k2⟩ := ho
            rw [St.get_cons] at k1
            split at k1
            · cases k1
            · exact ⟨j, c', base, k1, k2⟩
          have hcore : ∀ A cap, X = .slice A n cap → n ≤ cap → ((A = none ∧ cap = 0) ∨ ∃ bb oo cs T fr, A = some ⟨bb, oo, none⟩ ∧ Own ι s bb ∧ w.heap[bb]? = some (.cells cs T fr) ∧ (∀ i, i < cs.size → ¬ (fr.1 ≤ i ∧ i < fr.2)) ∧ oo + cap * ee ≤ cs.size ∧ ¬ Own ι ⟨s.next, (hh, none) :: s.m⟩ bb) →
              Does P n0 ι s w M (Builtin.append_ #[t, t'] ty #[X, .int k' m]) (.sl ee s.next 0 (n + m)) (s.app (.app hh r)) := by
            intro A cap hXe hle hA
            subst hXe
            have := append_corez (P := P) (r := r) (k' := k') hR hn (hR.drop hh) hsub hu hu' hz hb h0 hzr hzl he hk hgen hSX hle h4 (cat_nm zeroRow_nm hcat) (by rw [q1, hSX.1, z1, hadd]) (fun j hj => by rw [q2 j hj, hSX.1]) (ty := ty) hA
            simpa [St.app] using this
          rcases hX.sl_inv with ⟨bb, base, oo, cap, T, N, hi', ho, hl, hs, hnn, rfl⟩ | ⟨hv, rfl, rfl⟩
          · rcases hR.own hh c hg with ⟨k1, _⟩ | ⟨b', base', k1, k2, kC⟩
            · rw [hi'] at k1; cases k1
            · rw [hi'] at k1
              simp only [Option.some.injEq, Prod.mk.injEq] at k1
              obtain ⟨rfl, rfl⟩ := k1
              obtain ⟨cs, T', fr, k3, k4, k5, k6⟩ : CCell ι w M c bb base := kC.cc (by
                cases c <;> first | rfl | skip
                obtain ⟨_, es', km, _⟩ := kC
                unfold World.shape? at hs
                rw [km] at hs
                simp at hs)
              refine hcore _ cap rfl hl (.inr ⟨bb, oo, cs, T', fr, rfl, ⟨hh, c, base, hg, hi'⟩, k3, k4, ?_, fun ho => ?_⟩)
              · unfold World.shape? at hs
                rw [k3] at hs
                simp only [Option.some.injEq, Prod.mk.injEq] at hs
                omega
              · obtain ⟨j, c', base2, k7, k8⟩ := ho
                rw [St.get_cons] at k7
                split at k7
                · cases k7
                · rename_i hne
                  exact hR.inj hh j c c' _ _ hg k7 hne hi' k8 rfl
          · exact hcore none 0 rfl (Nat.le_refl _) (.inl ⟨rfl, rfl⟩)
        · simp at h
      · simp at h
    · simp at h
  · simp at h

theorem append_sound {n0 t t' ty e es b : Nat} {x y v : AV} {X Y : Value} {z : List (Nat × AV)} {eff : Eff} (hR : Rep ι s w M) (hn : n0 ≤ s.next)
    (hu : P.underlying t = some (.slice e)) (hu' : ∃ e', P.underlying t' = some (.slice e')) (hz : sizeP P e = some es) (hb : bytesP P e = some b) (h0 : 0 < b)
    (hzr : zrl P e = some z) (hzl : rlLen z = es) (hX : VRel ι w M x X) (hY : VRel ι w M y Y) (h : appA es b x y s.get s.next = .ok true v eff) :
    Does P n0 ι s w M (Builtin.append_ #[t, t'] ty #[X, Y]) v (s.app eff) := by
  have hG := hR.hget
  unfold appA at h
  split at h
  · obtain rfl := hX.nils_inv
    split at h
    · rename_i c r m h1 h2
      simp only [Res.ok.injEq, Bool.and_eq_true, decide_eq_true_eq] at h
      obtain ⟨⟨⟨rfl, h3⟩, h4⟩, rfl, rfl⟩ := h
      have hSY := rowFrom_src hY hG h1 h2
      have hSX : Src ι w M es (.obj []) 0 (.slice none 0 0) := ⟨by simp [Chunk.size], .inl ⟨rfl, _, _, rfl⟩⟩
      have := append_core (P := P) (r := r) hR hn hR (fun _ h => h) hu hu' hz hb h0 hzr hzl hSX hSY (lenA_rel hY h2) (Nat.le_refl _) (by simpa using h3) (rowFrom_nm (by assumption)) (by simpa using hSY.1) (fun j _ => by simp) (ty := ty) (.inl ⟨rfl, rfl⟩)
      simpa [St.app] using this
    · simp at h
  · rename_i ee hh o n
    split at h
    · rename_i c1 r1 c2 r2 m h1 h2 h3
      split at h
      · rename_i r hcat
        simp only [Res.ok.injEq, Bool.and_eq_true, decide_eq_true_eq] at h
        obtain ⟨⟨⟨⟨rfl, rfl⟩, h4⟩, h5⟩, rfl, rfl⟩ := h
        have hSX := rowFrom_src hX hG h1 rfl
        have hSY := rowFrom_src hY hG h2 h3
        obtain ⟨q1, q2⟩ := cat_spec hcat
        have hadd : (n + m) * es = n * es + m * es := Nat.add_mul _ _ _
        have hget : ∃ c, s.get hh = some c := by
          simp only [rowFrom] at h1
          cases hg : s.get hh with
          | none => simp [hg] at h1
          | some c => exact ⟨c, rfl⟩
        obtain ⟨c, hg⟩ := hget
        have hee : ee = es := by
          simp only [rowFrom, hg] at h1
          cases c <;> simp only [Option.some.injEq, Prod.mk.injEq, Bool.and_eq_true, Nat.beq_eq_true_eq, reduceCtorEq] at h1
          · exact Nat.eq_of_beq_eq_true h1.1.1.1
          · exact Nat.eq_of_beq_eq_true h1.1.1.1
          · exact Nat.eq_of_beq_eq_true h1.1.1.1
          · exact Nat.eq_of_beq_eq_true h1.1.1.1.1
        subst hee
        have hsub : ∀ b, Own ι ⟨s.next, (hh, none) :: s.m⟩ b → Own ι s b := fun b ho => by
          obtain ⟨j, c', base, k1, k2⟩ := ho
          rw [St.get_cons] at k1
          split at k1
          · cases k1
          · exact ⟨j, c', base, k1, k2⟩
        have hcore : ∀ A cap, X = .slice A n cap → n ≤ cap → ((A = none ∧ cap = 0) ∨ ∃ bb oo cs T fr, A = some ⟨bb, oo, none⟩ ∧ Own ι s bb ∧ w.heap[bb]? = some (.cells cs T fr) ∧ (∀ i, i < cs.size → ¬ (fr.1 ≤ i ∧ i < fr.2)) ∧ oo + cap * ee ≤ cs.size ∧ ¬ Own ι ⟨s.next, (hh, none) :: s.m⟩ bb) →
            Does P n0 ι s w M (Builtin.append_ #[t, t'] ty #[X, Y]) (.sl ee s.next 0 (n + m)) (s.app (.app hh r)) := by
          intro A cap hXe hle hA
          subst hXe
          have := append_core (P := P) (r := r) hR hn (hR.drop hh) hsub hu hu' hz hb h0 hzr hzl hSX hSY (lenA_rel hY h3) hle h4 (cat_nm (rowFrom_nm (by assumption)) hcat) (by rw [q1, hSX.1, hSY.1, hadd]) (fun j hj => by rw [q2 j hj, hSX.1]) (ty := ty) hA
          simpa [St.app] using this
        rcases hX.sl_inv with ⟨bb, base, oo, cap, T, N, hi', ho, hl, hs, hnn, rfl⟩ | ⟨hv, rfl, rfl⟩
        · rcases hR.own hh c hg with ⟨k1, _⟩ | ⟨b', base', k1, k2, kC⟩
          · rw [hi'] at k1; cases k1
          · rw [hi'] at k1
            simp only [Option.some.injEq, Prod.mk.injEq] at k1
            obtain ⟨rfl, rfl⟩ := k1
            obtain ⟨cs, T', fr, k3, k4, k5, k6⟩ : CCell ι w M c bb base := kC.cc (by
              cases c <;> first | rfl | skip
              obtain ⟨_, es', km, _⟩ := kC
              unfold World.shape? at hs
              rw [km] at hs
              simp at hs)
            refine hcore _ cap rfl hl (.inr ⟨bb, oo, cs, T', fr, rfl, ⟨hh, c, base, hg, hi'⟩, k3, k4, ?_, fun ho => ?_⟩)
            · unfold World.shape? at hs
              rw [k3] at hs
              simp only [Option.some.injEq, Prod.mk.injEq] at hs
              omega
            · obtain ⟨j, c', base2, k7, k8⟩ := ho
              rw [St.get_cons] at k7
              split at k7
              · cases k7
              · rename_i hne
                exact hR.inj hh j c c' _ _ hg k7 hne hi' k8 rfl
        · exact hcore none 0 rfl (Nat.le_refl _) (.inl ⟨rfl, rfl⟩)
      · simp at h
    · simp at h
  · simp at h

end
end Go.Ab
set_option linter.unusedVariables false
set_option linter.unusedSimpArgs false
set_option autoImplicit false
namespace Go.Ab

section
variable {P : Program} {ι : Iota} {s : St} {w : World} {M : Nat → Prop} {ρ : AOpd → AV} {η : Operand → Value} {get : Nat → Option Chunk} {nx : Nat}

theorem map_some {α β : Type} {f : α → β} {o : Option α} {b : β} (h : o.map f = some b) : ∃ a, o = some a ∧ f a = b := Option.map_eq_some_iff.1 h

/-- the value of an operation that changes nothing -/
def Pv (P : Program) (ι : Iota) (w : World) (M : Nat → Prop) (o : Sem Next) (v : AV) (e : Eff) : Prop :=
  (∃ V, o.run P w = .ok (.value V) w ∧ VRel ι w M v V) ∧ e = .no
theorem Pv.of {o : Sem Value} {v : AV} {e : Eff} (h : (∃ V, o.run P w = .ok V w ∧ VRel ι w M v V) ∧ e = .no) : Pv P ι w M (do pure (.value (← o)) : Sem Next) v e := by
  obtain ⟨⟨V, h1, h2⟩, h3⟩ := h
  exact ⟨⟨V, by simp [h1], h2⟩, h3⟩

theorem pairs_eq (η : Operand → Value) (ps : Array (Nat × Operand)) : (ps.map fun (i, x) => (i, η x)) = ps.map fun p => (p.1, η p.2) := rfl

theorem opd_rel {x : Operand} {y : AOpd} (hρ : ORel ι w M ρ η) (h : opd x = some y) : VRel ι w M (ρ y) (η x) := hρ x y h

theorem sem_bind {α β : Type} {g : Sem α} {a : α} {w w' : World} (k : α → Sem β) (h : g.run P w = .ok a w') : (g >>= k).run P w = (k a).run P w' := by
  rw [Sem.run_bind, h, Result.andThen_ok]

theorem call_pure {c : Call} {a : AOp} {type : TypeId} {v : AV} {e : Eff} (hc : compCall P c = some a) (hE : a.isE = false) (hρ : ORel ι w M ρ η) (h : opD get nx ρ a = .ok true v e) :
    Pv P ι w M (do let d ← resolve η c type; invoke d.target d.args) v e := by
  obtain ⟨callee, args, argTypes⟩ := c
  unfold compCall at hc
  simp only at hc
  split at hc
  · -- len
    rename_i x hargs
    obtain ⟨hl, hr⟩ := opds_rel hρ _ _ hargs
    have hx := hr 0 (by simp)
    have hlen : args.size = 1 := by simpa using hl
    have hmap : args.map η = #[(args.toList.map η).getD 0 default] := by
      apply Array.ext
      · simp [hlen]
      · intro i h1 h2
        have : i = 0 := by simp at h2; omega
        subst this
        simp at h1
        simp [List.getD_eq_getElem?_getD, h1]
    generalize hX : (args.toList.map η).getD 0 default = X at hx hmap
    have hx : VRel ι w M (ρ x) X := by simpa using hx
    split at hc <;> simp only [Option.some.injEq, reduceCtorEq] at hc <;> subst hc
    · rename_i hu
      simp only [opD] at h
      cases hv : ρ x <;> simp only [hv, Res.ok.injEq, reduceCtorEq, true_and] at h
      obtain ⟨rfl, rfl⟩ := h
      rw [hv] at hx
      obtain rfl := hx.str_inv
      refine ⟨⟨_, ?_, .g _ _ (.int .i64 _)⟩, rfl⟩
      simp [resolve, invoke, builtin, hmap, len_run_str hu, Str.b_size]
    · rename_i el hu
      simp only [opD] at h
      cases hn : lenA (ρ x) with
      | none => simp [hn] at h
      | some n =>
        simp only [hn, Res.ok.injEq, true_and] at h
        obtain ⟨rfl, rfl⟩ := h
        obtain ⟨A, cp, rfl⟩ := lenA_rel hx hn
        refine ⟨⟨_, ?_, .g _ _ (.int .i64 _)⟩, rfl⟩
        simp [resolve, invoke, builtin, hmap, len_run_slice (t := 0) hu]
  · -- min
    rename_i x y hargs
    simp only [Option.some.injEq] at hc
    subst hc
    obtain ⟨hl, hr⟩ := opds_rel hρ _ _ hargs
    have hx := hr 0 (by simp)
    have hy := hr 1 (by simp)
    have hlen : (args.toList.map η).length = 2 := by simpa using hl
    have hmap : (args.map η).toList = [(args.toList.map η).getD 0 default, (args.toList.map η).getD 1 default] := by
      rw [Array.toList_map]
      generalize args.toList.map η = L at hlen
      match L, hlen with
      | [a, b], _ => rfl
    generalize hX : (args.toList.map η).getD 0 default = X at hx hmap
    generalize hY : (args.toList.map η).getD 1 default = Y at hy hmap
    have hx : VRel ι w M (ρ x) X := by simpa using hx
    have hy : VRel ι w M (ρ y) Y := by simpa using hy
    simp only [opD] at h
    cases hv : ρ x <;> simp only [hv, reduceCtorEq] at h
    cases hv' : ρ y <;> simp only [hv', Res.ok.injEq, reduceCtorEq, true_and] at h
    obtain ⟨rfl, rfl⟩ := h
    rw [hv] at hx
    rw [hv'] at hy
    obtain rfl := hx.int_inv
    obtain rfl := hy.int_inv
    refine ⟨⟨_, ?_, .g _ _ (.int _ _)⟩, rfl⟩
    simp only [resolve, invoke, builtin, Builtin.min_, hmap, Sem.run_bind, Sem.run_pure, Result.andThen_ok]
    simp [Builtin.min2, List.foldlM]
  · -- max
    rename_i x y hargs
    simp only [Option.some.injEq] at hc
    subst hc
    obtain ⟨hl, hr⟩ := opds_rel hρ _ _ hargs
    have hx := hr 0 (by simp)
    have hy := hr 1 (by simp)
    have hlen : (args.toList.map η).length = 2 := by simpa using hl
    have hmap : (args.map η).toList = [(args.toList.map η).getD 0 default, (args.toList.map η).getD 1 default] := by
      rw [Array.toList_map]
      generalize args.toList.map η = L at hlen
      match L, hlen with
      | [a, b], _ => rfl
    generalize hX : (args.toList.map η).getD 0 default = X at hx hmap
    generalize hY : (args.toList.map η).getD 1 default = Y at hy hmap
    have hx : VRel ι w M (ρ x) X := by simpa using hx
    have hy : VRel ι w M (ρ y) Y := by simpa using hy
    simp only [opD] at h
    cases hv : ρ x <;> simp only [hv, reduceCtorEq] at h
    cases hv' : ρ y <;> simp only [hv', Res.ok.injEq, reduceCtorEq, true_and] at h
    obtain ⟨rfl, rfl⟩ := h
    rw [hv] at hx
    rw [hv'] at hy
    obtain rfl := hx.int_inv
    obtain rfl := hy.int_inv
    refine ⟨⟨_, ?_, .g _ _ (.int _ _)⟩, rfl⟩
    simp only [resolve, invoke, builtin, Builtin.max_, hmap, Sem.run_bind, Sem.run_pure, Result.andThen_ok]
    simp [Builtin.max2, List.foldlM]
  · -- max of three
    rename_i x y z hargs
    simp only [Option.some.injEq] at hc
    subst hc
    obtain ⟨hl, hr⟩ := opds_rel hρ _ _ hargs
    have hx := hr 0 (by simp)
    have hy := hr 1 (by simp)
    have hz := hr 2 (by simp)
    have hlen : (args.toList.map η).length = 3 := by simpa using hl
    have hmap : (args.map η).toList = [(args.toList.map η).getD 0 default, (args.toList.map η).getD 1 default, (args.toList.map η).getD 2 default] := by
      rw [Array.toList_map]
      generalize args.toList.map η = L at hlen
      match L, hlen with
      | [a, b, c], _ => rfl
    generalize hX : (args.toList.map η).getD 0 default = X at hx hmap
    generalize hY : (args.toList.map η).getD 1 default = Y at hy hmap
    generalize hZ : (args.toList.map η).getD 2 default = Z at hz hmap
    have hx : VRel ι w M (ρ x) X := by simpa using hx
    have hy : VRel ι w M (ρ y) Y := by simpa using hy
    have hz : VRel ι w M (ρ z) Z := by simpa using hz
    simp only [opD] at h
    cases hv : ρ x <;> simp only [hv, reduceCtorEq] at h
    cases hv' : ρ y <;> simp only [hv', reduceCtorEq] at h
    cases hv'' : ρ z <;> simp only [hv'', Res.ok.injEq, reduceCtorEq, true_and] at h
    obtain ⟨rfl, rfl⟩ := h
    rw [hv] at hx
    rw [hv'] at hy
    rw [hv''] at hz
    obtain rfl := hx.int_inv
    obtain rfl := hy.int_inv
    obtain rfl := hz.int_inv
    refine ⟨⟨_, ?_, .g _ _ (.int _ _)⟩, rfl⟩
    simp only [resolve, invoke, builtin, Builtin.max_, hmap, Sem.run_bind, Sem.run_pure, Result.andThen_ok]
    simp [Builtin.max2, List.foldlM]
  · -- append
    exfalso
    split at hc
    · split at hc
      · split at hc
        · simp at hc
        · split at hc
          · simp at hc
          · split at hc
            · simp only [Option.some.injEq] at hc; subst hc; simp [AOp.isE] at hE
            · simp at hc
      · simp at hc
    · obtain ⟨_, _, _, _, _, _, _, _, _, _, _, _, rfl⟩ := compAppz_spec hc
      simp [AOp.isE] at hE
    · simp at hc
  · exfalso
    split at hc
    · simp only [Option.some.injEq] at hc; subst hc; simp [AOp.isE] at hE
    · split at hc
      · simp only [Option.some.injEq] at hc; subst hc; simp [AOp.isE] at hE
      · simp at hc
  · exfalso
    obtain ⟨y, _, rfl⟩ := map_some hc
    simp [AOp.isE] at hE
  · exfalso
    obtain ⟨y, _, rfl⟩ := map_some hc
    simp [AOp.isE] at hE
  · simp at hc

theorem op_pure0 {o : Oper} {a : AOp} {v : AV} {e : Eff} (hc : compOp0 P o.op = some a) (hE : a.isE = false) (hA : a.isA = false) (hρ : ORel ι w M ρ η) (hG : HGet ι w M get) (h : opD get nx ρ a = .ok true v e) :
    Pv P ι w M (execOp η o) v e := by
  obtain ⟨dst, op, type, pos, after, guard⟩ := o
  simp only at hc
  unfold compOp0 at hc
  split at hc
  · -- move
    obtain ⟨y, hy, rfl⟩ := map_some hc
    simp only [opD, Res.ok.injEq, true_and] at h
    obtain ⟨rfl, rfl⟩ := h
    exact ⟨⟨_, by simp [execOp], hρ _ _ hy⟩, rfl⟩
  · obtain ⟨y, hy, rfl⟩ := map_some hc
    simp only [opD, Res.ok.injEq, true_and] at h
    obtain ⟨rfl, rfl⟩ := h
    exact ⟨⟨_, by simp [execOp], hρ _ _ hy⟩, rfl⟩
  · -- pick
    rename_i c a b
    split at hc
    · rename_i c' a' b' h1 h2 h3
      simp only [Option.some.injEq] at hc
      subst hc
      simp only [opD] at h
      have hcv := hρ _ _ h1
      cases hb : ρ c' <;> simp only [hb, Res.ok.injEq, reduceCtorEq, true_and] at h
      rename_i t
      obtain ⟨rfl, rfl⟩ := h
      rw [hb] at hcv
      have hcv := hcv.bool_inv
      cases t
      · exact ⟨⟨η b, by simp [execOp, asBool, hcv], hρ _ _ h3⟩, rfl⟩
      · exact ⟨⟨η a, by simp [execOp, asBool, hcv], hρ _ _ h2⟩, rfl⟩
    · simp at hc
  · obtain ⟨y, hy, rfl⟩ := map_some hc
    simp [AOp.isA] at hA
  · obtain ⟨y, hy, rfl⟩ := map_some hc
    simp [AOp.isA] at hA
  · -- build
    rename_i t ps
    have key : ∀ (z : List (Nat × AV)) (l : List (Nat × Nat × AOpd)), zrl P t = some z → ((∃ fs, P.underlying t = some (.struct fs) ∧ fs.toList.all (fun f => (sizeP P f.type).isSome) = true ∧ structParts P fs ps.toList = some l) ∨ (∃ n e es, P.underlying t = some (.array n e) ∧ sizeP P e = some es ∧ rowParts es ps.toList = some l)) →
        a = mkBuild z l → Pv P ι w M (execOp η ⟨dst, .build t ps, type, pos, after, guard⟩) v e := by
      intro z l hz ht ha
      subst ha
      unfold mkBuild at h
      cases hbig : (Nat.blt 64 (rlLen z) && intsR z) with
      | true =>
        simp only [hbig, cond_true, opD] at h
        simp only [Bool.and_eq_true] at hbig
        split at h
        · rename_i k g hf
          simp only [Res.ok.injEq] at h
          obtain ⟨_, rfl, rfl⟩ := h
          have hf' := fillI_fillA _ _ _ _ _ hf
          rw [← rlList_ints hbig.2] at hf'
          obtain ⟨V, h1, h2⟩ := build_sound (P := P) (w := w) (M := M) (ι := ι) hρ hz ht hf'
          exact Pv.of ⟨⟨V, h1, h2.aggI_of⟩, rfl⟩
        · simp at h
      | false =>
      simp only [hbig, cond_false, opD] at h
      cases hf : fillA ρ (rlList z) l with
      | none => simp [hf] at h
      | some z' =>
        simp only [hf, Res.ok.injEq, true_and] at h
        obtain ⟨rfl, rfl⟩ := h
        exact Pv.of ⟨build_sound hρ hz ht hf, rfl⟩
    split at hc
    · rename_i fs z hu hz
      split at hc
      · rename_i hall
        obtain ⟨l, hl, rfl⟩ := map_some hc
        exact key z l hz (.inl ⟨fs, hu, hall, hl⟩) rfl
      · simp at hc
    · rename_i n el z hu hz
      split at hc
      · rename_i es hs
        obtain ⟨l, hl, rfl⟩ := map_some hc
        exact key z l hz (.inr ⟨n, el, es, hu, hs, hl⟩) rfl
      · simp at hc
    · simp at hc
  · -- buildSlice
    exfalso
    split at hc
    · split at hc
      · split at hc
        · obtain ⟨l, hl, rfl⟩ := map_some hc; simp [AOp.isA] at hA
        · simp at hc
      · simp at hc
    · simp at hc
  · -- load
    rename_i t x
    split at hc
    · rename_i ag n y h1 h2 h3
      split at hc
      · rename_i hk
        simp only [Option.some.injEq] at hc
        subst hc
        have hk' : ag = true ∨ n = 1 := by simpa using hk
        have hx := hρ _ _ h3
        simp only [opD] at h
        cases hv : ρ y <;> simp only [hv, reduceCtorEq] at h
        · rename_i hh off
          rw [hv] at hx
          cases hg : get hh with
          | none => simp [hg] at h
          | some c =>
            simp only [hg, Res.ok.injEq] at h
            obtain ⟨h4, h5, rfl⟩ := h
            exact Pv.of ⟨load_ptr hx hG hg h1 h2 hk' (by rw [← h4, ← h5]), rfl⟩
        · simp only [Res.ok.injEq] at h
          obtain ⟨h4, rfl, rfl⟩ := h
          rw [hv] at hx
          exact Pv.of ⟨load_cptr hx h1 h2 hk' h4, rfl⟩
      · simp at hc
    · simp at hc
  · -- store
    exfalso
    split at hc
    · simp only [Option.some.injEq] at hc; subst hc; simp [AOp.isE] at hE
    · simp at hc
  · -- nilCheck
    obtain ⟨y, hy, rfl⟩ := map_some hc
    have hx := hρ _ _ hy
    simp only [opD] at h
    cases hv : ρ y <;> simp only [hv, Res.ok.injEq, reduceCtorEq, true_and] at h <;> obtain ⟨rfl, rfl⟩ := h <;> rw [hv] at hx
    · obtain ⟨b, base, hi, hX⟩ := hx.ptr_inv
      exact ⟨⟨_, by simp [execOp, hX], hX ▸ hx⟩, rfl⟩
    · obtain ⟨ad, g, hX, _⟩ := hx.cptr_inv
      exact ⟨⟨_, by simp [execOp, hX], hX ▸ hx⟩, rfl⟩
    · obtain ⟨cs, hX, _⟩ := hx.fn_inv
      exact ⟨⟨_, by simp [execOp, hX], hX ▸ hx⟩, rfl⟩
    · obtain ⟨cs, hX, _⟩ := hx.bfn_inv
      exact ⟨⟨_, by simp [execOp, hX], hX ▸ hx⟩, rfl⟩
  · -- binOp
    split at hc
    · rename_i x' y' h1 h2
      simp only [Option.some.injEq] at hc
      subst hc
      simp only [opD] at h
      split at h
      · rename_i c' v' hb
        simp only [Res.ok.injEq] at h
        obtain ⟨rfl, rfl, rfl⟩ := h
        exact Pv.of ⟨bin_sound _ _ _ _ _ _ _ _ _ (hρ _ _ h1) (hρ _ _ h2) hb, rfl⟩
      · simp at h
    · simp at hc
  · -- unOp
    obtain ⟨y, hy, rfl⟩ := map_some hc
    exact Pv.of (un_sound _ _ _ _ _ (hρ _ _ hy) h)
  · -- convert
    split at hc
    · rename_i k y h1 h2
      simp only [Option.some.injEq] at hc
      subst hc
      exact Pv.of (conv_sound (hρ _ _ h2) hG h1 h)
    · simp at hc
  · -- makeInterface
    rename_i t x
    split at hc
    · simp at hc
    · simp at hc
    · rename_i D hD1 hD2
      obtain ⟨y, hy, rfl⟩ := map_some hc
      simp only [opD, Res.ok.injEq, true_and] at h
      obtain ⟨rfl, rfl⟩ := h
      refine Pv.of ⟨⟨_, ?_, .iface _ _ _ (hρ _ _ hy)⟩, rfl⟩
      cases hu : P.underlying t with
      | none => exact absurd hu hD2
      | some D =>
        simp only [Instr.makeInterface, Sem.run_bind, run_underlying hu, Result.andThen_ok]
        cases D <;> first | (exact absurd hu (hD1 _)) | rfl
  · -- makeFunc
    rename_i f caps
    obtain ⟨l, hl, rfl⟩ := map_some hc
    simp only [opD, Res.ok.injEq, true_and] at h
    obtain ⟨rfl, rfl⟩ := h
    obtain ⟨h1, h2⟩ := opds_rel hρ _ _ hl
    refine Pv.of ⟨⟨.func (.func f) #[] (caps.map η), by simp [Instr.makeFunc], .fn f _ _ (by simpa using h1) fun j hj => ?_⟩, rfl⟩
    have := h2 j hj
    have hcs : (caps.map η).getD j default = (caps.toList.map η).getD j default := by
      simp [Array.getD_eq_getD_getElem?, List.getD_eq_getElem?_getD]
    rw [hcs]
    exact this
  · -- makeSlice
    exfalso
    split at hc
    · split at hc
      · split at hc
        · simp only [Option.some.injEq] at hc; subst hc; simp [AOp.isA] at hA
        · simp at hc
      · simp at hc
    · simp at hc
  · -- slice
    rename_i t x lo hi
    split at hc
    · rename_i sk y h1 h2
      have key : ∀ (lo' hi' : Option AOpd), (∀ l, lo' = some l → ∃ L, lo = some L ∧ opd L = some l) → (lo' = none → lo = none) → (∀ l, hi' = some l → ∃ L, hi = some L ∧ opd L = some l) → (hi' = none → hi = none) → a = .slice sk y lo' hi' →
          Pv P ι w M (execOp η ⟨dst, .slice t x lo hi none, type, pos, after, guard⟩) v e := by
        intro lo' hi' k1 k2 k3 k4 ha
        subst ha
        simp only [opD] at h
        refine Pv.of ?_
        refine slice_sound (hρ _ _ h2) hG (lo := lo'.map ρ) (hi := hi'.map ρ) (fun x hx => ?_) (fun hn => ?_) (fun x hx => ?_) (fun hn => ?_) h1 h
        · obtain ⟨l, hl, rfl⟩ := map_some hx
          obtain ⟨L, rfl, hL⟩ := k1 l hl
          exact ⟨_, rfl, hρ _ _ hL⟩
        · rw [k2 (by simpa using hn)]; rfl
        · obtain ⟨l, hl, rfl⟩ := map_some hx
          obtain ⟨L, rfl, hL⟩ := k3 l hl
          exact ⟨_, rfl, hρ _ _ hL⟩
        · rw [k4 (by simpa using hn)]; rfl
      split at hc
      · simp only [Option.some.injEq] at hc
        exact key none none (by simp) (by simp) (by simp) (by simp) hc.symm
      · rename_i l
        obtain ⟨l', hl', rfl⟩ := map_some hc
        exact key (some l') none (fun _ hh => by cases hh; exact ⟨l, rfl, hl'⟩) (by simp) (by simp) (by simp) rfl
      · rename_i l
        obtain ⟨l', hl', rfl⟩ := map_some hc
        exact key none (some l') (by simp) (by simp) (fun _ hh => by cases hh; exact ⟨l, rfl, hl'⟩) (by simp) rfl
      · rename_i l m
        split at hc
        · rename_i l' m' hl' hm'
          simp only [Option.some.injEq] at hc
          exact key (some l') (some m') (fun _ hh => by cases hh; exact ⟨l, rfl, hl'⟩) (by simp) (fun _ hh => by cases hh; exact ⟨m, rfl, hm'⟩) (by simp) hc.symm
        · simp at hc
    · simp at hc
  · -- fieldAddr
    rename_i t x i
    split at hc
    · rename_i fs y hu hy
      split at hc
      · rename_i f hf
        split at hc
        · rename_i n ag hn ha
          split at hc
          · simp at hc
          · rename_i hn0
            split at hc
            · rename_i hk
              simp only [Option.some.injEq] at hc
              subst hc
              have hk' : ag = true ∨ n = 1 := by simpa using hk
              have hx := hρ _ _ hy
              simp only [opD] at h
              split at h
              · rename_i hh o hv
                simp only [Res.ok.injEq, true_and] at h
                obtain ⟨rfl, rfl⟩ := h
                rw [hv] at hx
                exact Pv.of ⟨fld_ptr hu hf hn hn0 hx, rfl⟩
              · rename_i l hv
                simp only [Res.ok.injEq, Bool.and_eq_true, Bool.or_eq_true, Bool.not_eq_true'] at h
                obtain ⟨⟨h5, h6⟩, rfl, rfl⟩ := h
                rw [hv] at hx
                obtain ⟨ad, g, hX, hs, _⟩ := hx.cptr_inv
                rw [hX] at hx
                refine Pv.of ⟨⟨_, ?_, cptr_sub (A := .nilFunc) ad hk' hx (Nat.le_of_ble_eq_true h5) hs fun hag => ?_⟩, rfl⟩
                · rw [hX]; exact fld_run hu hf hn hn0 ad
                · rcases h6 with h6 | h6
                  · rw [hag] at h6; cases h6
                  · cases hg : l.getD f.offset .undef <;> first | rfl | (rw [hg] at h6; simp [AV.isAgg] at h6)
              · simp at h
            · simp at hc
        · simp at hc
      · simp at hc
    · simp at hc
  · -- indexAddr
    rename_i t x i
    split at hc
    · rename_i el x' i' hu hx hi
      split at hc
      · rename_i es ag hs ha
        split at hc
        · simp at hc
        · rename_i h0
          split at hc
          · rename_i hk
            simp only [Option.some.injEq] at hc
            subst hc
            have hk' : ag = true ∨ es = 1 := by simpa using hk
            have hX := hρ _ _ hx
            have hI := hρ _ _ hi
            refine Pv.of ?_
            simp only [opD, idxA] at h
            split at h
            · rename_i k n hv
              rw [hv] at hI
              obtain hI := hI.int_inv
              simp only [hI]
              split at h
              · rename_i ee hh off len hvx
                simp only [Res.ok.injEq, Bool.and_eq_true, decide_eq_true_eq] at h
                obtain ⟨⟨⟨h1, h2⟩, h3⟩, rfl, rfl⟩ := h
                obtain rfl := Nat.eq_of_beq_eq_true h3
                rw [hvx] at hX
                exact ⟨idx_sl hu hs hX h1 h2, rfl⟩
              · rename_i k' l hvx
                simp only [Res.ok.injEq, Bool.and_eq_true, decide_eq_true_eq, Bool.not_eq_true'] at h
                obtain ⟨⟨⟨h1, h2⟩, h3⟩, rfl, rfl⟩ := h
                rw [hvx] at hX
                obtain rfl : es = 1 := hk'.resolve_left (by simp [h3])
                exact ⟨idx_ro hu hs rfl hX h1 h2 rfl (fun j hj => by obtain rfl := Nat.lt_one_iff.1 hj; simp [AV.flat]), rfl⟩
              · rename_i l hvx
                simp only [Res.ok.injEq, Bool.and_eq_true, decide_eq_true_eq, Bool.not_eq_true'] at h
                obtain ⟨⟨⟨h1, h2⟩, h3⟩, rfl, rfl⟩ := h
                rw [hvx] at hX
                obtain rfl : es = 1 := hk'.resolve_left (by simp [h3])
                exact ⟨idx_ro hu hs rfl hX h1 h2 rfl (fun j hj => by obtain rfl := Nat.lt_one_iff.1 hj; simp [AV.flat]), rfl⟩
              · rename_i ee l hvx
                simp only [Res.ok.injEq, Bool.and_eq_true, decide_eq_true_eq] at h
                obtain ⟨⟨⟨h1, h2⟩, h3⟩, rfl, rfl⟩ := h
                obtain rfl := Nat.eq_of_beq_eq_true h3
                rw [hvx] at hX
                refine ⟨idx_ro hu hs rfl hX h1 h2 rfl (fun j hj => ?_), rfl⟩
                rw [ro_div _ _ _ h0, ro_mod, Nat.div_eq_of_lt hj, Nat.mod_eq_of_lt hj, Nat.add_zero]
              · rename_i hq hvx
                cases hq
              · rename_i hq hvx
                cases hq
              · simp at h
            · simp at h
          · simp at hc
      · simp at hc
    · rename_i m el x' i' hu hx hi
      split at hc
      · rename_i es ag hs ha
        split at hc
        · simp at hc
        · rename_i h0
          split at hc
          · rename_i hk
            simp only [Option.some.injEq] at hc
            subst hc
            have hX := hρ _ _ hx
            have hI := hρ _ _ hi
            refine Pv.of ?_
            simp only [opD, idxA] at h
            split at h
            · rename_i k n hv
              rw [hv] at hI
              obtain hI := hI.int_inv
              simp only [hI]
              split at h
              · rename_i hq _; cases hq
              · rename_i hq _; cases hq
              · rename_i hq _; cases hq
              · rename_i hq _; cases hq
              · rename_i m' hh off hm hvx
                simp only [Res.ok.injEq, Bool.and_eq_true, decide_eq_true_eq, and_true, Option.some.injEq] at h hm
                subst hm
                obtain ⟨⟨h1, h2⟩, rfl, rfl⟩ := h
                rw [hvx] at hX
                exact ⟨idx_arr hu hs hX h1 h2, rfl⟩
              · rename_i m' l hm hvx
                simp only [Res.ok.injEq, Bool.and_eq_true, decide_eq_true_eq, Option.some.injEq] at h hm
                subst hm
                obtain ⟨⟨⟨⟨⟨⟨h1, h2⟩, h3⟩, h4⟩, h5⟩, h6⟩, rfl, rfl⟩ := h
                obtain rfl := Nat.eq_of_beq_eq_true h4
                rw [hvx] at hX
                exact ⟨idx_carr hu hs hX h1 h2 h3 h6, rfl⟩
              · cases h
            · simp at h
          · simp at hc
      · simp at hc
    · simp at hc
  · -- extract
    rename_i x i
    obtain ⟨y, hy, rfl⟩ := map_some hc
    have hx := hρ _ _ hy
    simp only [opD] at h
    cases hv : ρ y <;> simp only [hv, Res.ok.injEq, reduceCtorEq] at h
    rename_i l
    obtain ⟨h1, rfl, rfl⟩ := h
    rw [hv] at hx
    obtain ⟨cs, hX, hl, hg⟩ := hx.tup_inv
    rw [blt_eq, decide_eq_true_eq] at h1
    have hi' : i < cs.size := by omega
    refine Pv.of ⟨⟨cs[i], ?_, ?_⟩, rfl⟩
    · simp [Instr.extract, hX, hi']
    · have := hg i h1
      simpa [Array.getD, hi'] using this
  · -- call
    exact call_pure hc hE hρ h
  · simp at hc

end
end Go.Ab
