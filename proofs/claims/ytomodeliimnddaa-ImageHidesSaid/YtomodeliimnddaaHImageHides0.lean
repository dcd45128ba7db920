/- From a statement's arguments to the engine's values; a statement's row from a contract. From a statement's arguments to the engine's values: rows of structs, rows of rows, structs. Statements of layer 11: an image has just the values that the document says; what is hidden, and when it shows. Arguments of the statements of layer 11. -/
import Derived.Test.YtomodeliimnddaaRows
import Derived.WalkKit
import Derived.ProofKit
import Derived.OpenShut
import Derived.ShutString
import Derived.ChangeOld
import Derived.Below
import Derived.Deep.Grids
import Derived.Deep.Slices
import Derived.Test.YtomodeliimnddaaHEngD
import Derived.Test.YtomodeliimnddaaHImg
set_option linter.unusedVariables false
set_option linter.unusedSimpArgs false
namespace Go.Ab
open Go.ChangeShapes Go.WideShapes Go.RowKit Go.Deep
def noM : Nat → Prop := fun _ => False
section
variable {P : Program} {H : Type} {enc : TypeId × Value → H} {W : World} {r : Reach} {b : Nat} {held : Bool}
theorem wf_has {k : IntKind} {n : Int} (h : (Lit.int k n).wf = true) : k.min ≤ n ∧ n ≤ k.max := by
  simpa [Lit.wf] using h
theorem cell_addr {t e : TypeId} {a : Addr} {len cap : Nat} (ht : P.underlying t = some (.slice e)) (h : Cell.okWide P W r b t (.slice (some a) len cap)) : a.spot = none ∧ a.block < W.heap.size := by
  simp only [Cell.okWide, ht, Cell.ok] at h
  obtain ⟨_, _, _, h2, row, cells, h3, _⟩ := h
  exact ⟨h2, lt_of_shape h3⟩
theorem gInts {t e : TypeId} {k : IntKind} {fuel : Nat} {v : Value} {x : DataW H × List MemPlace} (hok : Cell.okWide P W r b t v) (ht : P.underlying t = some (.slice e)) (he : P.underlying e = some (.int k)) (hc : P.cellsOf e = 1)
    (h : DataW.trod enc P W 0 (fun _ => true) held fuel t [v] = some x) : ∃ l : List Int, GRel W noM (.roI k l) v ∧ ∀ n ∈ l, k.min ≤ n ∧ n ≤ k.max := by
  rcases open_ints ht he hc h with ⟨hcs, _⟩ | ⟨a, len, cap, zs, hcs, _, hl, hm, hz, _, hcell, hwf⟩
  · obtain rfl : v = .slice none 0 0 := by simpa using hcs
    exact ⟨[], .sliceNil _ 1 (fun j => .int k (([] : List Int).getD j 0)) rfl, by simp⟩
  · obtain rfl : v = .slice (some a) len cap := by simpa using hcs
    obtain ⟨h1, h2⟩ := cell_addr ht hok
    have hz : zs.length = cap := by simpa using hz
    have hlen : (zs.take len).length = len := by rw [List.length_take]; omega
    refine ⟨zs.take len, ?_, fun n hn => wf_has (hwf n (List.mem_of_mem_take hn))⟩
    have := GRel.slice (w := W) (M := noM) (.roI k (zs.take len)) 1 (zs.take len).length (fun j => .int k ((zs.take len).getD j 0)) a cap (fun j => .int k (zs.getD j 0)) rfl (fun _ => ⟨h1, fun h => h, h2⟩) (by omega) (fun _ _ => rfl) (fun j hj => by
      rw [← add_eq a j h1]; exact hcell j (by omega)) (fun j hj => by
      have : (zs.take len).getD j 0 = zs.getD j 0 := by
        have hj' : j < len := by omega
        simp [List.getD_eq_getElem?_getD, List.getElem?_take, hj']
      show GRel W noM (.int k ((zs.take len).getD j 0)) _
      rw [this]; exact .int k _)
    rw [hlen] at this
    exact this
theorem gBools {t e : TypeId} {fuel : Nat} {v : Value} {x : DataW H × List MemPlace} (hok : Cell.okWide P W r b t v) (ht : P.underlying t = some (.slice e)) (he : P.underlying e = some .bool) (hc : P.cellsOf e = 1)
    (h : DataW.trod enc P W 0 (fun _ => true) held fuel t [v] = some x) : ∃ l : List Bool, GRel W noM (.roB l) v := by
  rcases open_bools ht he hc h with ⟨hcs, _⟩ | ⟨a, len, cap, B, hcs, _, hl, hm, _, hcell⟩
  · obtain rfl : v = .slice none 0 0 := by simpa using hcs
    exact ⟨[], .sliceNil _ 1 (fun j => .bool (([] : List Bool).getD j false)) rfl⟩
  · obtain rfl : v = .slice (some a) len cap := by simpa using hcs
    obtain ⟨h1, h2⟩ := cell_addr ht hok
    have hlen : ((List.range len).map B).length = len := by simp
    refine ⟨(List.range len).map B, ?_⟩
    have := GRel.slice (w := W) (M := noM) (.roB ((List.range len).map B)) 1 ((List.range len).map B).length (fun j => .bool (((List.range len).map B).getD j false)) a cap (fun j => .bool (B j)) rfl (fun _ => ⟨h1, fun h => h, h2⟩) (by omega) (fun _ _ => rfl) (fun j hj => by
      rw [← add_eq a j h1]; exact hcell j (by omega)) (fun j hj => by
      have : ((List.range len).map B).getD j false = B j := by
        have hj' : j < len := by omega
        simp [List.getD_eq_getElem?_getD, hj']
      show GRel W noM (.bool (((List.range len).map B).getD j false)) _
      rw [this]; exact .bool _)
    rw [hlen] at this
    exact this
theorem gInt {t : TypeId} {k : IntKind} {fuel : Nat} {v : Value} {x : DataW H × List MemPlace} (ht : P.underlying t = some (.int k)) (h : DataW.trod enc P W 0 (fun _ => true) held fuel t [v] = some x) :
    ∃ n, v = .int k n ∧ k.min ≤ n ∧ n ≤ k.max := by
  obtain ⟨n, h1, _, h2⟩ := DataW.trod_int ht h
  exact ⟨n, by simpa using h1, wf_has h2⟩
/-- a field of one cell -/
theorem gField {t : TypeId} {fs : Array Field} {fuel : Nat} {cs : List Value} {x : DataW H × List MemPlace} (ht : P.underlying t = some (.struct fs)) (h : DataW.trod enc P W 0 (fun _ => true) held fuel t cs = some x)
    (j : Nat) (f : Field) (hj : fs[j]? = some f) (ho : f.offset = j) (hc : P.cellsOf f.type = 1) (hl : j < cs.length) : ∃ n y, DataW.trod enc P W 0 (fun _ => true) held n f.type [cs.getD j default] = some y := by
  obtain ⟨xs, n, _, _, _, hxl, hf⟩ := DataW.trod_struct ht h
  have h1 := hf j f hj
  rw [ho, hc] at h1
  have hone : (cs.drop j).take 1 = [cs.getD j default] := by
    have h2 : cs.getD j default = cs[j] := by simp [List.getD_eq_getElem?_getD, List.getElem?_eq_getElem hl]
    rw [h2, List.drop_eq_getElem_cons hl]
    rfl
  rw [hone] at h1
  have hjl : j < fs.size := (Array.getElem?_eq_some_iff.1 hj).1
  exact ⟨n, _, h1.trans (List.getElem?_eq_getElem (show j < xs.length by omega))⟩
/-- a struct of four numbers, a row of truth values, a row of numbers -/
theorem gSix {t : TypeId} {f0 f1 f2 f3 f4 f5 : Field} {k0 k1 k2 k3 k5 : IntKind} {e4 e5 : TypeId} {v : Value} {d : DataW H} {p : List MemPlace} (hs : P.underlying t = some (.struct #[f0, f1, f2, f3, f4, f5]))
    (ho : f0.offset = 0 ∧ f1.offset = 1 ∧ f2.offset = 2 ∧ f3.offset = 3 ∧ f4.offset = 4 ∧ f5.offset = 5)
    (h0 : P.underlying f0.type = some (.int k0)) (h1 : P.underlying f1.type = some (.int k1)) (h2 : P.underlying f2.type = some (.int k2)) (h3 : P.underlying f3.type = some (.int k3))
    (h4 : P.underlying f4.type = some (.slice e4)) (h5 : P.underlying f5.type = some (.slice e5)) (g4 : P.underlying e4 = some .bool) (g5 : P.underlying e5 = some (.int k5))
    (hc : P.cellsOf f0.type = 1 ∧ P.cellsOf f1.type = 1 ∧ P.cellsOf f2.type = 1 ∧ P.cellsOf f3.type = 1 ∧ P.cellsOf f4.type = 1 ∧ P.cellsOf f5.type = 1) (c4 : P.cellsOf e4 = 1) (c5 : P.cellsOf e5 = 1) (hC : P.cellsOf t = 6)
    (hct : P.cellTypes P.depth t = some [f0.type, f1.type, f2.type, f3.type, f4.type, f5.type]) (hval : Value.okWide P W r b t v) (h : DataW.Trod enc P W 0 (fun _ => true) held t v d p) :
    ∃ (n0 n1 n2 n3 : Int) (B : List Bool) (R : List Int), GRel W noM (.agg [.int k0 n0, .int k1 n1, .int k2 n2, .int k3 n3, .roB B, .roI k5 R]) v ∧ (k0.min ≤ n0 ∧ n0 ≤ k0.max) ∧ (k1.min ≤ n1 ∧ n1 ≤ k1.max) ∧ (k2.min ≤ n2 ∧ n2 ≤ k2.max) ∧ (k3.min ≤ n3 ∧ n3 ≤ k3.max) ∧ ∀ n ∈ R, k5.min ≤ n ∧ n ≤ k5.max := by
  obtain ⟨cs, rfl, hsz⟩ := okWide_struct hs hval
  rw [hC] at hsz
  have hrow : Row.okWide P W r b t cs := by
    simp only [Value.okWide, hs] at hval
    obtain ⟨cs', h1, _, h3⟩ := hval
    cases h1
    exact h3
  obtain ⟨ts, hts, _, hcell⟩ := hrow
  rw [hct] at hts
  cases hts
  obtain ⟨fuel, hf⟩ := h
  have hf : DataW.trod enc P W 0 (fun _ => true) held fuel t cs.toList = some (d, p) := hf
  have hl : cs.toList.length = 6 := by simpa using hsz
  have hg : ∀ j, cs.toList.getD j default = cs.getD j default := fun j => by simp [List.getD_eq_getElem?_getD, Array.getD_eq_getD_getElem?]
  have hsome : ∀ j, j < 6 → cs[j]? = some (cs.getD j default) := fun j hj => by
    have : j < cs.size := by omega
    simp [Array.getD, this]
  obtain ⟨m0, y0, q0⟩ := gField hs hf 0 f0 rfl ho.1 hc.1 (by omega)
  obtain ⟨m1, y1, q1⟩ := gField hs hf 1 f1 rfl ho.2.1 hc.2.1 (by omega)
  obtain ⟨m2, y2, q2⟩ := gField hs hf 2 f2 rfl ho.2.2.1 hc.2.2.1 (by omega)
  obtain ⟨m3, y3, q3⟩ := gField hs hf 3 f3 rfl ho.2.2.2.1 hc.2.2.2.1 (by omega)
  obtain ⟨m4, y4, q4⟩ := gField hs hf 4 f4 rfl ho.2.2.2.2.1 hc.2.2.2.2.1 (by omega)
  obtain ⟨m5, y5, q5⟩ := gField hs hf 5 f5 rfl ho.2.2.2.2.2 hc.2.2.2.2.2 (by omega)
  rw [hg] at q0 q1 q2 q3 q4 q5
  obtain ⟨n0, r0, s0⟩ := gInt h0 q0
  obtain ⟨n1, r1, s1⟩ := gInt h1 q1
  obtain ⟨n2, r2, s2⟩ := gInt h2 q2
  obtain ⟨n3, r3, s3⟩ := gInt h3 q3
  obtain ⟨u4, i4, o4⟩ := hcell 4 _ (hsome 4 (by omega))
  obtain ⟨u5, i5, o5⟩ := hcell 5 _ (hsome 5 (by omega))
  cases i4
  cases i5
  obtain ⟨B, r4⟩ := gBools o4 h4 g4 c4 q4
  obtain ⟨R, r5, s5⟩ := gInts o5 h5 g5 c5 q5
  refine ⟨n0, n1, n2, n3, B, R, .agg _ cs hsz fun j hj => ?_, s0, s1, s2, s3, s5⟩
  match j, hj with
  | 0, _ => rw [r0]; exact .int _ _
  | 1, _ => rw [r1]; exact .int _ _
  | 2, _ => rw [r2]; exact .int _ _
  | 3, _ => rw [r3]; exact .int _ _
  | 4, _ => exact r4
  | 5, _ => exact r5
  | j + 6, hj => simp at hj; omega
/-- what a statement's walk needs, from a contract -/
theorem Ev.calls {f : Nat} {args : List AV} {Vs : Array Value} (h : Ev P f args (.bool true)) (hs : Vs.size = args.length) (hV : ∀ j, j < args.length → GRel W noM (args.getD j .undef) (Vs.getD j default)) :
    Calls P f Vs W fun e W' => e = .returned (.bool true) ∧ Below W.heap.size W W' := by
  obtain ⟨_, ht⟩ := h
  unfold Tr at ht
  have hR : Rep (fun _ => none) ⟨0, []⟩ W noM := ⟨fun _ _ => rfl, fun h c hg => (by cases hg), fun h h' c c' p p' hg => (by cases hg), fun b hb => False.elim hb⟩
  refine Calls.mono (ht.2 (fun _ => none) W noM Vs hR ⟨hs, fun j hj => .g _ _ (hV j hj)⟩) fun e W' he => ?_
  obtain ⟨V, ι', M', v, s', rfl, ⟨rfl, rfl⟩, h1, h2, h3⟩ := he
  obtain rfl := h1.bool_inv
  exact ⟨rfl, h3.os, h3.tape, h3.output, h3.size, fun k hk => h3.block k hk fun ⟨h, c, base, hg, _⟩ => by cases hg⟩
end
end Go.Ab
set_option linter.unusedVariables false
set_option linter.unusedSimpArgs false
namespace Go.Ab
open Go.ChangeShapes Go.WideShapes Go.RowKit Go.Deep
/-- what lies in one cell: a number, a truth value, a row of numbers, of truth values -/
inductive CK where
  | int (k : IntKind)
  | bool
  | ints (k : IntKind)
  | bools
def CK.v : CK → AV → Prop
  | .int k, v => ∃ n, v = .int k n ∧ k.min ≤ n ∧ n ≤ k.max
  | .bool, v => ∃ b, v = .bool b
  | .ints k, v => ∃ l, v = .roI k l ∧ ∀ n ∈ l, k.min ≤ n ∧ n ≤ k.max
  | .bools, v => ∃ l, v = .roB l
def CK.ok (P : Program) (t : TypeId) : CK → Bool
  | .int k => match P.underlying t with
    | some (.int k') => decide (k' = k)
    | _ => false
  | .bool => match P.underlying t with
    | some .bool => true
    | _ => false
  | .ints k => match P.underlying t with
    | some (.slice e) => (match P.underlying e with
      | some (.int k') => decide (k' = k)
      | _ => false) && Nat.beq (P.cellsOf e) 1
    | _ => false
  | .bools => match P.underlying t with
    | some (.slice e) => (match P.underlying e with
      | some .bool => true
      | _ => false) && Nat.beq (P.cellsOf e) 1
    | _ => false
def CKs : List CK → List AV → Prop
  | [], [] => True
  | c :: cs, v :: vs => c.v v ∧ CKs cs vs
  | _, _ => False
theorem CKs.length : ∀ {cs : List CK} {l : List AV}, CKs cs l → l.length = cs.length
  | [], [], _ => rfl
  | c :: cs, v :: vs, h => by simp [CKs.length h.2]
  | [], _ :: _, h => h.elim
  | _ :: _, [], h => h.elim
theorem CKs.of : ∀ {cs : List CK} {l : List AV}, l.length = cs.length → (∀ j (c : CK), cs[j]? = some c → c.v (l.getD j .undef)) → CKs cs l
  | [], [], _, _ => trivial
  | c :: cs, v :: vs, hl, h => ⟨by simpa using h 0 c rfl, CKs.of (by simpa using hl) fun j d hd => by simpa using h (j + 1) d (by simpa using hd)⟩
  | [], _ :: _, hl, _ => by simp at hl
  | _ :: _, [], hl, _ => by simp at hl
theorem CK.one {c : CK} {v : AV} (h : c.v v) : v.flat = [v] := by
  cases c
  · obtain ⟨n, rfl, _⟩ := h; rfl
  · obtain ⟨b, rfl⟩ := h; rfl
  · obtain ⟨l, rfl, _⟩ := h; rfl
  · obtain ⟨l, rfl⟩ := h; rfl
section
variable {P : Program} {H : Type} {enc : TypeId × Value → H} {W : World} {held : Bool}
theorem cell_spot {a : Addr} {v : Value} (h : W.cell? a = some v) : a.spot = none ∧ a.block < W.heap.size := by
  obtain ⟨e, n, h1, _, h3⟩ := World.shape?_of_cell? h
  exact ⟨h3, lt_of_shape h1⟩
theorem gCell {c : CK} {t : TypeId} {fuel : Nat} {v : Value} {x : DataW H × List MemPlace} (hok : c.ok P t = true) (h : DataW.trod enc P W 0 (fun _ => true) held fuel t [v] = some x) : ∃ av, c.v av ∧ GRel W noM av v := by
  cases c with
  | int k =>
    simp only [CK.ok] at hok
    split at hok
    · rename_i k' ht
      obtain rfl := of_decide_eq_true hok
      obtain ⟨n, rfl, h1⟩ := gInt ht h
      exact ⟨_, ⟨n, rfl, h1⟩, .int _ _⟩
    · cases hok
  | bool =>
    simp only [CK.ok] at hok
    split at hok
    · rename_i ht
      obtain ⟨b, h1, _⟩ := DataW.trod_bool ht h
      obtain rfl : v = .bool b := by simpa using h1
      exact ⟨_, ⟨b, rfl⟩, .bool _⟩
    · cases hok
  | ints k =>
    simp only [CK.ok] at hok
    split at hok
    · rename_i e ht
      simp only [Bool.and_eq_true] at hok
      obtain ⟨h1, h2⟩ := hok
      split at h1
      · rename_i k' he
        obtain rfl := of_decide_eq_true h1
        have hc : P.cellsOf e = 1 := Nat.eq_of_beq_eq_true h2
        rcases open_ints ht he hc h with ⟨hcs, _⟩ | ⟨a, len, cap, zs, hcs, _, hl, hm, hz, _, hcell, hwf⟩
        · obtain rfl : v = .slice none 0 0 := by simpa using hcs
          exact ⟨.roI k' [], ⟨[], rfl, by simp⟩, .sliceNil _ 1 (fun j => .int k' (([] : List Int).getD j 0)) rfl⟩
        · obtain rfl : v = .slice (some a) len cap := by simpa using hcs
          have hz : zs.length = cap := by simpa using hz
          have hlen : (zs.take len).length = len := by rw [List.length_take]; omega
          refine ⟨.roI k' (zs.take len), ⟨_, rfl, fun n hn => wf_has (hwf n (List.mem_of_mem_take hn))⟩, ?_⟩
          have hsp : 0 < len → a.spot = none ∧ ¬ noM a.block ∧ a.block < W.heap.size := fun h0 => by
            have := hcell 0 (by omega)
            obtain ⟨q1, q2⟩ := cell_spot (a := a) (by simpa [Addr.add] using this)
            exact ⟨q1, fun h => h, q2⟩
          have := GRel.slice (w := W) (M := noM) (.roI k' (zs.take len)) 1 (zs.take len).length (fun j => .int k' ((zs.take len).getD j 0)) a cap (fun j => .int k' (zs.getD j 0)) rfl (fun h => hsp (by omega)) (by omega) (fun _ _ => rfl) (fun j hj => by
            rw [← add_eq a j (hsp (by omega)).1]; exact hcell j (by omega)) (fun j hj => by
            have : (zs.take len).getD j 0 = zs.getD j 0 := by
              have hj' : j < len := by omega
              simp [List.getD_eq_getElem?_getD, List.getElem?_take, hj']
            show GRel W noM (.int k' ((zs.take len).getD j 0)) _
            rw [this]; exact .int k' _)
          rw [hlen] at this
          exact this
      · cases h1
    · cases hok
  | bools =>
    simp only [CK.ok] at hok
    split at hok
    · rename_i e ht
      simp only [Bool.and_eq_true] at hok
      obtain ⟨h1, h2⟩ := hok
      split at h1
      · rename_i he
        have hc : P.cellsOf e = 1 := Nat.eq_of_beq_eq_true h2
        rcases open_bools ht he hc h with ⟨hcs, _⟩ | ⟨a, len, cap, B, hcs, _, hl, hm, _, hcell⟩
        · obtain rfl : v = .slice none 0 0 := by simpa using hcs
          exact ⟨.roB [], ⟨[], rfl⟩, .sliceNil _ 1 (fun j => .bool (([] : List Bool).getD j false)) rfl⟩
        · obtain rfl : v = .slice (some a) len cap := by simpa using hcs
          have hlen : ((List.range len).map B).length = len := by simp
          refine ⟨.roB ((List.range len).map B), ⟨_, rfl⟩, ?_⟩
          have hsp : 0 < len → a.spot = none ∧ ¬ noM a.block ∧ a.block < W.heap.size := fun h0 => by
            have := hcell 0 (by omega)
            obtain ⟨q1, q2⟩ := cell_spot (a := a) (by simpa [Addr.add] using this)
            exact ⟨q1, fun h => h, q2⟩
          have := GRel.slice (w := W) (M := noM) (.roB ((List.range len).map B)) 1 ((List.range len).map B).length (fun j => .bool (((List.range len).map B).getD j false)) a cap (fun j => .bool (B j)) rfl (fun h => hsp (by omega)) (by omega) (fun _ _ => rfl) (fun j hj => by
            rw [← add_eq a j (hsp (by omega)).1]; exact hcell j (by omega)) (fun j hj => by
            have : ((List.range len).map B).getD j false = B j := by
              have hj' : j < len := by omega
              simp [List.getD_eq_getElem?_getD, hj']
            show GRel W noM (.bool (((List.range len).map B).getD j false)) _
            rw [this]; exact .bool _)
          rw [hlen] at this
          exact this
      · cases h1
    · cases hok
/-- the fields of a struct of such cells -/
def fieldsOk (P : Program) : Nat → List Field → List CK → Bool
  | _, [], [] => true
  | j, f :: fs, c :: cs => Nat.beq f.offset j && Nat.beq (P.cellsOf f.type) 1 && c.ok P f.type && fieldsOk P (j + 1) fs cs
  | _, _, _ => false
def structOk (P : Program) (t : TypeId) (cs : List CK) : Bool :=
  match P.underlying t with
  | some (.struct fs) => fieldsOk P 0 fs.toList cs && Nat.beq (P.cellsOf t) cs.length
  | _ => false
theorem fieldsOk_get : ∀ (fs : List Field) (cs : List CK) (j0 : Nat), fieldsOk P j0 fs cs = true → fs.length = cs.length ∧ ∀ j f c, fs[j]? = some f → cs[j]? = some c → f.offset = j0 + j ∧ P.cellsOf f.type = 1 ∧ c.ok P f.type = true
  | [], [], _, _ => ⟨rfl, fun j f c h => by simp at h⟩
  | f :: fs, c :: cs, j0, h => by
    simp only [fieldsOk, Bool.and_eq_true] at h
    obtain ⟨⟨⟨h1, h2⟩, h3⟩, h4⟩ := h
    obtain ⟨h5, h6⟩ := fieldsOk_get fs cs (j0 + 1) h4
    refine ⟨by simp [h5], fun j f' c' hf hc => ?_⟩
    cases j with
    | zero =>
      simp only [List.getElem?_cons_zero, Option.some.injEq] at hf hc
      subst hf; subst hc
      exact ⟨Nat.eq_of_beq_eq_true h1, Nat.eq_of_beq_eq_true h2, h3⟩
    | succ j =>
      have := h6 j f' c' (by simpa using hf) (by simpa using hc)
      exact ⟨by omega, this.2⟩
  | [], _ :: _, _, h => by simp [fieldsOk] at h
  | _ :: _, [], _, h => by simp [fieldsOk] at h
/-- a struct's cells -/
theorem gStruct {t : TypeId} {cks : List CK} {fuel : Nat} {cs : List Value} {x : DataW H × List MemPlace} (hs : structOk P t cks = true) (hl : cs.length = cks.length) (h : DataW.trod enc P W 0 (fun _ => true) held fuel t cs = some x) :
    ∃ l : List AV, CKs cks l ∧ ∀ j, j < cks.length → GRel W noM (l.getD j .undef) (cs.getD j default) := by
  unfold structOk at hs
  split at hs
  · rename_i fs ht
    simp only [Bool.and_eq_true] at hs
    obtain ⟨h1, h2⟩ := hs
    obtain ⟨h3, h4⟩ := fieldsOk_get _ _ _ h1
    have each : ∀ j, j < cks.length → ∃ av, (∀ c, cks[j]? = some c → c.v av) ∧ GRel W noM av (cs.getD j default) := fun j hj => by
      have hjf : j < fs.size := by simp at h3; omega
      obtain ⟨q1, q2, q3⟩ := h4 j fs[j] cks[j] (by simp [hjf]) (by simp [hj])
      obtain ⟨n, y, hy⟩ := gField ht h j fs[j] (by simp [hjf]) (by simpa using q1) q2 (by omega)
      obtain ⟨av, r1, r2⟩ := gCell q3 hy
      exact ⟨av, fun c hc => by
        rw [List.getElem?_eq_getElem hj] at hc
        cases hc
        exact r1, r2⟩
    obtain ⟨E, hE⟩ := choose_lt each
    have hlen : ((List.range cks.length).map E).length = cks.length := by simp
    have hget : ∀ j, j < cks.length → ((List.range cks.length).map E).getD j .undef = E j := fun j hj => by simp [List.getD_eq_getElem?_getD, hj]
    refine ⟨(List.range cks.length).map E, CKs.of hlen fun j c hc => ?_, fun j hj => ?_⟩
    · have hj : j < cks.length := (List.getElem?_eq_some_iff.1 hc).1
      rw [hget j hj]
      exact (hE j hj).1 c hc
    · rw [hget j hj]
      exact (hE j hj).2
  · cases hs
/-- a row of structs -/
theorem gStructs {t e : TypeId} {cks : List CK} {fuel : Nat} {v : Value} {x : DataW H × List MemPlace} (ht : P.underlying t = some (.slice e)) (hs : structOk P e cks = true) (h0 : 0 < cks.length)
    (h : DataW.trod enc P W 0 (fun _ => true) held fuel t [v] = some x) : ∃ L : List (List AV), (∀ l ∈ L, CKs cks l) ∧ GRel W noM (.ro cks.length (L.map .agg)) v := by
  have hce : P.cellsOf e = cks.length := by
    unfold structOk at hs
    split at hs
    · simp only [Bool.and_eq_true] at hs
      exact Nat.eq_of_beq_eq_true hs.2
    · cases hs
  rcases open_slice ht h with ⟨hcs, _⟩ | ⟨a, len, cap, m, n, D, Pl, hcs, _, hl, hm, hmm, _, hx⟩
  · obtain rfl : v = .slice none 0 0 := by simpa using hcs
    exact ⟨[], by simp, .sliceNil _ cks.length (fun j => ((([] : List AV).getD (j / cks.length) .undef).flat.getD (j % cks.length) .undef)) rfl⟩
  · obtain rfl : v = .slice (some a) len cap := by simpa using hcs
    simp only [if_true] at hmm
    subst hmm
    have each : ∀ i, i < len → ∃ l : List AV, CKs cks l ∧ ∀ j, j < cks.length → ∃ V, W.cell? ((a.add (i * cks.length)).add j) = some V ∧ GRel W noM (l.getD j .undef) V := fun i hi => by
      obtain ⟨cs', h1, h2⟩ := hx i (by omega)
      rw [hce] at h1
      obtain ⟨_, h3, h4⟩ := World.cells?_some h1
      obtain ⟨l, h5, h6⟩ := gStruct hs h3 h2
      refine ⟨l, h5, fun j hj => ⟨cs'.getD j default, ?_, h6 j hj⟩⟩
      have hj' : j < cs'.length := by omega
      rw [h4 j hj, List.getD_eq_getElem?_getD, List.getElem?_eq_getElem hj']
      rfl
    obtain ⟨E, hE⟩ := choose_lt each
    have hsp : 0 < len → a.spot = none ∧ ¬ noM a.block ∧ a.block < W.heap.size := fun hp => by
      obtain ⟨V, h1, _⟩ := (hE 0 hp).2 0 h0
      obtain ⟨q1, q2⟩ := cell_spot (a := a) (by simpa [Addr.add] using h1)
      exact ⟨q1, fun h => h, q2⟩
    have hlen : (((List.range len).map E).map AV.agg).length = len := by simp
    refine ⟨(List.range len).map E, fun l hl' => ?_, ?_⟩
    · simp only [List.mem_map, List.mem_range] at hl'
      obtain ⟨i, hi, rfl⟩ := hl'
      exact (hE i hi).1
    have hgetE : ∀ i, i < len → (((List.range len).map E).map AV.agg).getD i .undef = .agg (E i) := fun i hi => by simp [List.getD_eq_getElem?_getD, hi]
    have cell : ∀ j, j < len * cks.length → ∃ V, W.cell? ⟨a.block, a.off + j, none⟩ = some V ∧ GRel W noM (((((List.range len).map E).map AV.agg).getD (j / cks.length) .undef).flat.getD (j % cks.length) .undef) V := fun j hj => by
      have hi : j / cks.length < len := (Nat.div_lt_iff_lt_mul h0).2 hj
      have hj2 : j % cks.length < cks.length := Nat.mod_lt _ h0
      obtain ⟨V, h1, h2⟩ := (hE _ hi).2 _ hj2
      refine ⟨V, ?_, ?_⟩
      · rw [add_add, Nat.div_add_mod' j cks.length, add_eq a j (hsp (Nat.lt_of_le_of_lt (Nat.zero_le _) hi)).1] at h1
        exact h1
      · rw [hgetE _ hi]
        exact h2
    obtain ⟨G, hG⟩ := choose_lt cell
    have := GRel.slice (w := W) (M := noM) (.ro cks.length (((List.range len).map E).map AV.agg)) cks.length len (fun j => ((((List.range len).map E).map AV.agg).getD (j / cks.length) .undef).flat.getD (j % cks.length) .undef) a m G
      (by simp only [AV.rov, hlen]) hsp hl (fun i hi => by
        show ((((List.range len).map E).map AV.agg).getD i .undef).flat.length = _
        rw [hgetE i hi]
        exact (hE i hi).1.length) (fun j hj => (hG j hj).1) (fun j hj => (hG j hj).2)
    exact this
/-- a row of rows of numbers -/
theorem gRows {t e : TypeId} {k : IntKind} {fuel : Nat} {v : Value} {x : DataW H × List MemPlace} (ht : P.underlying t = some (.slice e)) (hs : (CK.ints k).ok P e = true) (hce : P.cellsOf e = 1)
    (h : DataW.trod enc P W 0 (fun _ => true) held fuel t [v] = some x) : ∃ L : List (List Int), (∀ l ∈ L, ∀ n ∈ l, k.min ≤ n ∧ n ≤ k.max) ∧ GRel W noM (.ro 1 (L.map (.roI k))) v := by
  rcases open_slice ht h with ⟨hcs, _⟩ | ⟨a, len, cap, m, n, D, Pl, hcs, _, hl, hm, hmm, _, hx⟩
  · obtain rfl : v = .slice none 0 0 := by simpa using hcs
    exact ⟨[], by simp, .sliceNil _ 1 (fun j => ((([] : List AV).getD (j / 1) .undef).flat.getD (j % 1) .undef)) rfl⟩
  · obtain rfl : v = .slice (some a) len cap := by simpa using hcs
    simp only [if_true] at hmm
    subst hmm
    have each : ∀ i, i < len → ∃ l : List Int, (∀ n ∈ l, k.min ≤ n ∧ n ≤ k.max) ∧ ∃ V, W.cell? (a.add i) = some V ∧ GRel W noM (.roI k l) V := fun i hi => by
      obtain ⟨cs', h1, h2⟩ := hx i (by omega)
      rw [hce, Nat.mul_one] at h1
      obtain ⟨_, h3, h4⟩ := World.cells?_some h1
      match cs', h3 with
      | [c], _ =>
        obtain ⟨av, h5, h6⟩ := gCell hs h2
        obtain ⟨l, rfl, h7⟩ := h5
        refine ⟨l, h7, c, ?_, h6⟩
        have := h4 0 (by omega)
        simpa [Addr.add] using this
    obtain ⟨E, hE⟩ := choose_lt each
    have hsp : 0 < len → a.spot = none ∧ ¬ noM a.block ∧ a.block < W.heap.size := fun hp => by
      obtain ⟨V, h1, _⟩ := (hE 0 hp).2
      obtain ⟨q1, q2⟩ := cell_spot (a := a) (by simpa [Addr.add] using h1)
      exact ⟨q1, fun h => h, q2⟩
    have hlen : (((List.range len).map E).map (AV.roI k)).length = len := by simp
    refine ⟨(List.range len).map E, fun l hl' => ?_, ?_⟩
    · simp only [List.mem_map, List.mem_range] at hl'
      obtain ⟨i, hi, rfl⟩ := hl'
      exact (hE i hi).1
    have hgetE : ∀ i, i < len → (((List.range len).map E).map (AV.roI k)).getD i .undef = .roI k (E i) := fun i hi => by simp [List.getD_eq_getElem?_getD, hi]
    have cell : ∀ j, j < len * 1 → ∃ V, W.cell? ⟨a.block, a.off + j, none⟩ = some V ∧ GRel W noM (((((List.range len).map E).map (AV.roI k)).getD (j / 1) .undef).flat.getD (j % 1) .undef) V := fun j hj => by
      have hj : j < len := by omega
      obtain ⟨V, h1, h2⟩ := (hE j hj).2
      refine ⟨V, ?_, ?_⟩
      · rw [add_eq a j (hsp (by omega)).1] at h1
        exact h1
      · rw [Nat.div_one, Nat.mod_one, hgetE _ hj]
        exact h2
    obtain ⟨G, hG⟩ := choose_lt cell
    have := GRel.slice (w := W) (M := noM) (.ro 1 (((List.range len).map E).map (AV.roI k))) 1 len (fun j => ((((List.range len).map E).map (AV.roI k)).getD (j / 1) .undef).flat.getD (j % 1) .undef) a m G
      (by simp only [AV.rov, hlen]) hsp hl (fun i hi => by
        show ((((List.range len).map E).map (AV.roI k)).getD i .undef).flat.length = _
        rw [hgetE i hi]
        rfl) (fun j hj => (hG j hj).1) (fun j hj => (hG j hj).2)
    exact this
/-- a struct, by value -/
theorem gStructV {t : TypeId} {cks : List CK} {r : Reach} {b : Nat} {v : Value} {d : DataW H} {p : List MemPlace} (hs : structOk P t cks = true) (hval : Value.okWide P W r b t v) (h : DataW.Trod enc P W 0 (fun _ => true) held t v d p) :
    ∃ l : List AV, CKs cks l ∧ GRel W noM (.agg l) v := by
  have hs' := hs
  unfold structOk at hs
  split at hs
  · rename_i fs ht
    simp only [Bool.and_eq_true] at hs
    obtain ⟨cs, rfl, hsz⟩ := okWide_struct ht hval
    obtain ⟨fuel, hf⟩ := h
    have hf : DataW.trod enc P W 0 (fun _ => true) held fuel t cs.toList = some (d, p) := hf
    have hc := Nat.eq_of_beq_eq_true hs.2
    obtain ⟨l, h1, h2⟩ := gStruct hs' (by simp; omega) hf
    have hg : ∀ j, cs.toList.getD j default = cs.getD j default := fun j => by simp [List.getD_eq_getElem?_getD, Array.getD_eq_getD_getElem?]
    refine ⟨l, h1, .agg l cs (by rw [h1.length]; omega) fun j hj => ?_⟩
    rw [← hg]
    exact h2 j (by rw [← h1.length]; exact hj)
  · cases hs
end
/-- a list of values that are all of a form -/
theorem list_form {α β : Type} {f : α → β} {Q : α → Prop} : ∀ (L : List β), (∀ l ∈ L, ∃ s, l = f s ∧ Q s) → ∃ S : List α, L = S.map f ∧ ∀ s ∈ S, Q s
  | [], _ => ⟨[], rfl, by simp⟩
  | l :: L, h => by
    obtain ⟨s, rfl, hs⟩ := h l (by simp)
    obtain ⟨S, rfl, hS⟩ := list_form L fun l hl => h l (by simp [hl])
    exact ⟨s :: S, rfl, fun t ht => by
      rcases List.mem_cons.1 ht with rfl | ht
      · exact hs
      · exact hS t ht⟩
end Go.Ab
set_option linter.unusedVariables false
set_option linter.unusedSimpArgs false
namespace Go.Proofs.Ytomodeliimnddaa
open Go.Ab
/- rung/runglaw11.known -/
def a26 : ACode := (.seq (.reg [⟨(some 0), .mov (.c (.bool false)), none, false⟩])
 (.seq (.reg [⟨(some 10), .call 27 [], none, false⟩, ⟨(some 1), .mov (.t 10), none, false⟩])
 (.seq (.seq (.reg [⟨(some 11), .mov (.t 1), none, false⟩, ⟨(some 12), .bin .eql .ptr (.t 11) (.c .nilp), none, false⟩])
 (.cond (.t 12) (.seq (.reg [⟨(some 0), .mov (.c (.bool false)), none, false⟩])
 .ret)
 .skip))
 (.seq (.reg [⟨(some 13), .mov (.t 1), none, false⟩, ⟨(some 14), .call 29 [(.t 13), (.c (.int .i64 1)), (.c (.int .i64 0)), (.c (.int .u16 7))], none, false⟩, ⟨(some 2), .mov (.t 14), none, false⟩])
 (.seq (.reg [⟨(some 15), .mov (.t 1), none, false⟩, ⟨(some 16), .call 31 [(.t 15)], none, false⟩])
 (.seq (.reg [⟨(some 18), .mov (.t 1), none, false⟩, ⟨(some 19), .call 96 [(.t 18), (.c (.int .i64 1)), (.c (.int .i64 0))], none, false⟩, ⟨(some 17), .mov (.t 19), none, false⟩, ⟨(some 20), .ext (.t 17) 0, none, false⟩, ⟨(some 21), .ext (.t 17) 1, none, false⟩, ⟨(some 3), .mov (.t 20), none, false⟩, ⟨(some 4), .mov (.t 21), none, false⟩])
 (.seq (.reg [⟨(some 22), .mov (.t 1), none, false⟩, ⟨(some 23), .call 33 [(.t 22), (.c (.int .i64 2)), (.c (.int .i64 0)), (.c (.int .u16 1))], none, false⟩])
 (.seq (.reg [⟨(some 25), .mov (.t 1), none, false⟩, ⟨(some 26), .call 44 [(.t 25), (.c (.int .i64 2)), (.c (.int .i64 0))], none, false⟩, ⟨(some 24), .mov (.t 26), none, false⟩, ⟨(some 27), .ext (.t 24) 0, none, false⟩, ⟨(some 28), .ext (.t 24) 1, none, false⟩, ⟨(some 5), .mov (.t 27), none, false⟩, ⟨(some 6), .mov (.t 28), none, false⟩])
 (.seq (.reg [⟨(some 29), .mov (.t 1), none, false⟩, ⟨(some 30), .call 38 [(.t 29)], none, false⟩])
 (.seq (.reg [⟨(some 32), .mov (.t 1), none, false⟩, ⟨(some 33), .call 44 [(.t 32), (.c (.int .i64 2)), (.c (.int .i64 0))], none, false⟩, ⟨(some 31), .mov (.t 33), none, false⟩, ⟨(some 34), .ext (.t 31) 0, none, false⟩, ⟨(some 35), .ext (.t 31) 1, none, false⟩, ⟨(some 7), .mov (.t 34), none, false⟩, ⟨(some 8), .mov (.t 35), none, false⟩])
 (.seq (.reg [⟨(some 36), .mov (.t 1), none, false⟩, ⟨(some 37), .call 29 [(.t 36), (.c (.int .i64 7)), (.c (.int .i64 0)), (.c (.int .u16 1))], none, false⟩, ⟨(some 9), .mov (.t 37), none, false⟩])
 (.seq (.reg [⟨(some 38), .mov (.t 2), none, false⟩, ⟨(some 39), .bin .eql .other (.t 38) (.c (.int .i64 0)), none, false⟩, ⟨(some 40), .mov (.t 39), none, true⟩, ⟨(some 41), .mov (.t 3), (some (40, true)), false⟩, ⟨(some 42), .bin .eql .other (.t 41) (.c (.int .u16 1)), (some (40, true)), false⟩, ⟨(some 43), .pick (.t 40) (.t 42) (.c (.bool false)), none, false⟩, ⟨(some 44), .mov (.t 43), none, true⟩, ⟨(some 45), .mov (.t 5), (some (44, true)), false⟩, ⟨(some 46), .bin .eql .other (.t 45) (.c (.int .u16 0)), (some (44, true)), false⟩, ⟨(some 47), .pick (.t 44) (.t 46) (.c (.bool false)), none, false⟩, ⟨(some 48), .mov (.t 47), none, true⟩, ⟨(some 49), .mov (.t 7), (some (48, true)), false⟩, ⟨(some 50), .bin .eql .other (.t 49) (.c (.int .u16 1)), (some (48, true)), false⟩, ⟨(some 51), .pick (.t 48) (.t 50) (.c (.bool false)), none, false⟩, ⟨(some 52), .mov (.t 51), none, true⟩, ⟨(some 53), .mov (.t 1), (some (52, true)), false⟩, ⟨(some 54), .call 97 [(.t 53)], (some (52, true)), false⟩, ⟨(some 55), .bin .eql .other (.t 54) (.c (.int .u64 1)), (some (52, true)), false⟩, ⟨(some 56), .pick (.t 52) (.t 55) (.c (.bool false)), none, false⟩, ⟨(some 57), .mov (.t 56), none, true⟩, ⟨(some 58), .mov (.t 9), (some (57, true)), false⟩, ⟨(some 59), .bin .eql .other (.t 58) (.c (.int .i64 110)), (some (57, true)), false⟩, ⟨(some 60), .pick (.t 57) (.t 59) (.c (.bool false)), none, false⟩, ⟨(some 61), .mov (.t 60), none, true⟩, ⟨(some 62), .mov (.t 1), (some (61, true)), false⟩, ⟨(some 63), .call 36 [(.t 62), (.c (.int .i64 4))], (some (61, true)), false⟩, ⟨(some 64), .len false (.t 63), (some (61, true)), false⟩, ⟨(some 65), .bin .eql .other (.t 64) (.c (.int .i64 64)), (some (61, true)), false⟩, ⟨(some 66), .pick (.t 61) (.t 65) (.c (.bool false)), none, false⟩, ⟨(some 0), .mov (.t 66), none, false⟩])
 .ret))))))))))))
def r26 : List ARes := [.t 0]
theorem c26 : compF Try.prog Try.f26 = some (a26, r26) := by kernel_rfl

theorem b26 : hasBody Try.prog 26 = true := by kernel_rfl
theorem g26 : Try.prog.funcs[26]? = some Try.f26 := by kernel_rfl
/- rung/runglaw11.ImageHides -/
def a3 : ACode := (.seq (.reg [⟨(some 4), .mov (.c (.bool false)), none, false⟩])
 (.seq (.seq (.reg [⟨(some 12), .call 26 [], none, false⟩, ⟨(some 13), .un .not (.t 12), none, false⟩])
 (.cond (.t 13) (.seq (.reg [⟨(some 4), .mov (.c (.bool false)), none, false⟩])
 .ret)
 .skip))
 (.seq (.seq (.reg [⟨(some 14), .mov (.t 0), none, false⟩, ⟨(some 15), .len false (.t 14), none, false⟩, ⟨(some 16), .bin .gtr .other (.t 15) (.c (.int .i64 200)), none, false⟩, ⟨(some 17), .mov (.t 16), none, true⟩, ⟨(some 18), .mov (.t 1), (some (17, false)), false⟩, ⟨(some 19), .len false (.t 18), (some (17, false)), false⟩, ⟨(some 20), .bin .gtr .other (.t 19) (.c (.int .i64 200)), (some (17, false)), false⟩, ⟨(some 21), .pick (.t 17) (.c (.bool true)) (.t 20), none, false⟩])
 (.cond (.t 21) (.seq (.reg [⟨(some 4), .mov (.c (.bool true)), none, false⟩])
 .ret)
 .skip))
 (.seq (.reg [⟨(some 22), .call 27 [], none, false⟩, ⟨(some 23), .call 28 [], none, false⟩, ⟨(some 5), .mov (.t 22), none, false⟩, ⟨(some 6), .mov (.t 23), none, false⟩])
 (.seq (.seq (.reg [⟨(some 7), .mov (.c (.int .i64 0)), none, false⟩])
 (.block 0 (.loop (.seq (.seq (.reg [⟨(some 24), .mov (.t 7), none, false⟩, ⟨(some 25), .mov (.t 0), none, false⟩, ⟨(some 26), .len false (.t 25), none, false⟩, ⟨(some 27), .bin .lss .other (.t 24) (.t 26), none, false⟩])
 (.cond (.t 27) .skip
 (.exit 0)))
 (.seq (.block 1 (.seq (.draw [⟨0, ⟨(some 30), .mov (.t 5), none, false⟩, false, [], []⟩, ⟨1, ⟨(some 31), .mov (.t 0), none, false⟩, false, [], []⟩, ⟨2, ⟨(some 32), .mov (.t 7), none, false⟩, false, [], []⟩, ⟨3, ⟨(some 33), .idx 4 none true (.t 31) (.t 32), none, false⟩, false, [], []⟩, ⟨4, ⟨(some 34), .fld 1 1 false (.t 33), none, false⟩, false, [], []⟩, ⟨5, ⟨(some 35), .load false 1 (.t 34), none, false⟩, false, [], []⟩, ⟨6, ⟨(some 36), .mov (.t 0), none, false⟩, false, [], []⟩, ⟨7, ⟨(some 37), .mov (.t 7), none, false⟩, false, [], []⟩, ⟨8, ⟨(some 38), .idx 4 none true (.t 36) (.t 37), none, false⟩, false, [], []⟩, ⟨9, ⟨(some 39), .fld 2 1 false (.t 38), none, false⟩, false, [], []⟩, ⟨10, ⟨(some 40), .load false 1 (.t 39), none, false⟩, false, [], []⟩, ⟨11, ⟨(some 41), .mov (.t 0), none, false⟩, false, [], []⟩, ⟨12, ⟨(some 42), .mov (.t 7), none, false⟩, false, [], []⟩, ⟨13, ⟨(some 43), .idx 4 none true (.t 41) (.t 42), none, false⟩, false, [], []⟩, ⟨14, ⟨(some 44), .fld 3 1 false (.t 43), none, false⟩, false, [], []⟩, ⟨15, ⟨(some 45), .load false 1 (.t 44), none, false⟩, false, [], []⟩, ⟨16, ⟨(some 46), .call 29 [(.t 30), (.t 35), (.t 40), (.t 45)], none, false⟩, true, [], []⟩])
 (.draw [⟨0, ⟨(some 47), .mov (.t 6), none, false⟩, false, [], []⟩, ⟨1, ⟨(some 48), .mov (.t 0), none, false⟩, false, [], []⟩, ⟨2, ⟨(some 49), .mov (.t 7), none, false⟩, false, [], []⟩, ⟨3, ⟨(some 50), .idx 4 none true (.t 48) (.t 49), none, false⟩, false, [], []⟩, ⟨4, ⟨(some 51), .fld 1 1 false (.t 50), none, false⟩, false, [], []⟩, ⟨5, ⟨(some 52), .load false 1 (.t 51), none, false⟩, false, [], []⟩, ⟨6, ⟨(some 53), .mov (.t 0), none, false⟩, false, [], []⟩, ⟨7, ⟨(some 54), .mov (.t 7), none, false⟩, false, [], []⟩, ⟨8, ⟨(some 55), .idx 4 none true (.t 53) (.t 54), none, false⟩, false, [], []⟩, ⟨9, ⟨(some 56), .fld 2 1 false (.t 55), none, false⟩, false, [], []⟩, ⟨10, ⟨(some 57), .load false 1 (.t 56), none, false⟩, false, [], []⟩, ⟨11, ⟨(some 58), .mov (.t 0), none, false⟩, false, [], []⟩, ⟨12, ⟨(some 59), .mov (.t 7), none, false⟩, false, [], []⟩, ⟨13, ⟨(some 60), .idx 4 none true (.t 58) (.t 59), none, false⟩, false, [], []⟩, ⟨14, ⟨(some 61), .fld 3 1 false (.t 60), none, false⟩, false, [], []⟩, ⟨15, ⟨(some 62), .load false 1 (.t 61), none, false⟩, false, [], []⟩, ⟨16, ⟨(some 63), .call 30 [(.t 47), (.t 52), (.t 57), (.t 62)], none, false⟩, true, [], []⟩])))
 (.reg [⟨(some 28), .mov (.t 7), none, false⟩, ⟨(some 29), .bin .add .other (.t 28) (.c (.int .i64 1)), none, false⟩, ⟨(some 7), .mov (.t 29), none, false⟩]))))))
 (.seq (.reg [⟨(some 64), .mov (.t 5), none, false⟩, ⟨(some 65), .call 31 [(.t 64)], none, false⟩])
 (.seq (.reg [⟨(some 66), .mov (.t 6), none, false⟩, ⟨(some 67), .call 32 [(.t 66)], none, false⟩])
 (.seq (.seq (.reg [⟨(some 8), .mov (.c (.int .i64 0)), none, false⟩])
 (.block 2 (.loop (.seq (.seq (.reg [⟨(some 68), .mov (.t 8), none, false⟩, ⟨(some 69), .mov (.t 1), none, false⟩, ⟨(some 70), .len false (.t 69), none, false⟩, ⟨(some 71), .bin .lss .other (.t 68) (.t 70), none, false⟩])
 (.cond (.t 71) .skip
 (.exit 2)))
 (.seq (.block 3 (.seq (.draw [⟨0, ⟨(some 74), .mov (.t 5), none, false⟩, false, [], []⟩, ⟨1, ⟨(some 75), .mov (.t 1), none, false⟩, false, [], []⟩, ⟨2, ⟨(some 76), .mov (.t 8), none, false⟩, false, [], []⟩, ⟨3, ⟨(some 77), .idx 4 none true (.t 75) (.t 76), none, false⟩, false, [], []⟩, ⟨4, ⟨(some 78), .fld 1 1 false (.t 77), none, false⟩, false, [], []⟩, ⟨5, ⟨(some 79), .load false 1 (.t 78), none, false⟩, false, [], []⟩, ⟨6, ⟨(some 80), .mov (.t 1), none, false⟩, false, [], []⟩, ⟨7, ⟨(some 81), .mov (.t 8), none, false⟩, false, [], []⟩, ⟨8, ⟨(some 82), .idx 4 none true (.t 80) (.t 81), none, false⟩, false, [], []⟩, ⟨9, ⟨(some 83), .fld 2 1 false (.t 82), none, false⟩, false, [], []⟩, ⟨10, ⟨(some 84), .load false 1 (.t 83), none, false⟩, false, [], []⟩, ⟨11, ⟨(some 85), .mov (.t 1), none, false⟩, false, [], []⟩, ⟨12, ⟨(some 86), .mov (.t 8), none, false⟩, false, [], []⟩, ⟨13, ⟨(some 87), .idx 4 none true (.t 85) (.t 86), none, false⟩, false, [], []⟩, ⟨14, ⟨(some 88), .fld 3 1 false (.t 87), none, false⟩, false, [], []⟩, ⟨15, ⟨(some 89), .load false 1 (.t 88), none, false⟩, false, [], []⟩, ⟨16, ⟨(some 90), .call 33 [(.t 74), (.t 79), (.t 84), (.t 89)], none, false⟩, true, [], []⟩])
 (.draw [⟨0, ⟨(some 91), .mov (.t 6), none, false⟩, false, [], []⟩, ⟨1, ⟨(some 92), .mov (.t 1), none, false⟩, false, [], []⟩, ⟨2, ⟨(some 93), .mov (.t 8), none, false⟩, false, [], []⟩, ⟨3, ⟨(some 94), .idx 4 none true (.t 92) (.t 93), none, false⟩, false, [], []⟩, ⟨4, ⟨(some 95), .fld 1 1 false (.t 94), none, false⟩, false, [], []⟩, ⟨5, ⟨(some 96), .load false 1 (.t 95), none, false⟩, false, [], []⟩, ⟨6, ⟨(some 97), .mov (.t 1), none, false⟩, false, [], []⟩, ⟨7, ⟨(some 98), .mov (.t 8), none, false⟩, false, [], []⟩, ⟨8, ⟨(some 99), .idx 4 none true (.t 97) (.t 98), none, false⟩, false, [], []⟩, ⟨9, ⟨(some 100), .fld 2 1 false (.t 99), none, false⟩, false, [], []⟩, ⟨10, ⟨(some 101), .load false 1 (.t 100), none, false⟩, false, [], []⟩, ⟨11, ⟨(some 102), .mov (.t 1), none, false⟩, false, [], []⟩, ⟨12, ⟨(some 103), .mov (.t 8), none, false⟩, false, [], []⟩, ⟨13, ⟨(some 104), .idx 4 none true (.t 102) (.t 103), none, false⟩, false, [], []⟩, ⟨14, ⟨(some 105), .fld 3 1 false (.t 104), none, false⟩, false, [], []⟩, ⟨15, ⟨(some 106), .load false 1 (.t 105), none, false⟩, false, [], []⟩, ⟨16, ⟨(some 107), .call 34 [(.t 91), (.t 96), (.t 101), (.t 106)], none, false⟩, true, [], []⟩])))
 (.reg [⟨(some 72), .mov (.t 8), none, false⟩, ⟨(some 73), .bin .add .other (.t 72) (.c (.int .i64 1)), none, false⟩, ⟨(some 8), .mov (.t 73), none, false⟩]))))))
 (.seq (.seq (.reg [⟨(some 9), .mov (.c (.int .i64 1)), none, false⟩])
 (.block 4 (.loop (.seq (.seq (.reg [⟨(some 108), .mov (.t 9), none, false⟩, ⟨(some 109), .bin .leq .other (.t 108) (.c (.int .i64 6)), none, false⟩])
 (.cond (.t 109) .skip
 (.exit 4)))
 (.seq (.block 5 (.seq (.reg [⟨(some 112), .mov (.t 5), none, false⟩, ⟨(some 113), .mov (.t 9), none, false⟩, ⟨(some 114), .call 36 [(.t 112), (.t 113)], none, false⟩, ⟨(some 115), .mov (.t 6), none, false⟩, ⟨(some 116), .mov (.t 9), none, false⟩, ⟨(some 117), .call 37 [(.t 115), (.t 116)], none, false⟩, ⟨(some 118), .call 35 [(.t 114), (.t 117)], none, false⟩, ⟨(some 119), .un .not (.t 118), none, false⟩])
 (.cond (.t 119) (.seq (.reg [⟨(some 4), .mov (.c (.bool false)), none, false⟩])
 .ret)
 .skip)))
 (.reg [⟨(some 110), .mov (.t 9), none, false⟩, ⟨(some 111), .bin .add .other (.t 110) (.c (.int .i64 1)), none, false⟩, ⟨(some 9), .mov (.t 111), none, false⟩]))))))
 (.seq (.reg [⟨(some 120), .mov (.t 5), none, false⟩, ⟨(some 121), .call 36 [(.t 120), (.c (.int .i64 1))], none, false⟩, ⟨(some 122), .mov (.t 5), none, false⟩, ⟨(some 123), .call 36 [(.t 122), (.c (.int .i64 4))], none, false⟩, ⟨(some 10), .mov (.t 121), none, false⟩, ⟨(some 11), .mov (.t 123), none, false⟩])
 (.seq (.reg [⟨(some 124), .mov (.t 5), none, false⟩, ⟨(some 125), .call 38 [(.t 124)], none, false⟩])
 (.seq (.reg [⟨(some 126), .mov (.t 6), none, false⟩, ⟨(some 127), .call 39 [(.t 126)], none, false⟩])
 (.seq (.reg [⟨(some 128), .mov (.t 5), none, false⟩, ⟨(some 129), .mov (.t 6), none, false⟩, ⟨(some 130), .call 40 [(.t 128), (.t 129)], none, false⟩, ⟨(some 131), .mov (.t 130), none, true⟩, ⟨(some 132), .mov (.t 5), (some (131, true)), false⟩, ⟨(some 133), .call 36 [(.t 132), (.c (.int .i64 1))], (some (131, true)), false⟩, ⟨(some 134), .mov (.t 10), (some (131, true)), false⟩, ⟨(some 135), .call 35 [(.t 133), (.t 134)], (some (131, true)), false⟩, ⟨(some 136), .pick (.t 131) (.t 135) (.c (.bool false)), none, false⟩, ⟨(some 137), .mov (.t 136), none, true⟩, ⟨(some 138), .mov (.t 5), (some (137, true)), false⟩, ⟨(some 139), .call 36 [(.t 138), (.c (.int .i64 4))], (some (137, true)), false⟩, ⟨(some 140), .mov (.t 11), (some (137, true)), false⟩, ⟨(some 141), .call 35 [(.t 139), (.t 140)], (some (137, true)), false⟩, ⟨(some 142), .pick (.t 137) (.t 141) (.c (.bool false)), none, false⟩, ⟨(some 4), .mov (.t 142), none, false⟩])
 .ret)))))))))))))
def r3 : List ARes := [.t 4]
theorem c3 : compF Try.prog Try.f3 = some (a3, r3) := by kernel_rfl

theorem b3 : hasBody Try.prog 3 = true := by kernel_rfl
theorem g3 : Try.prog.funcs[3]? = some Try.f3 := by kernel_rfl
/- rung/runglaw11.ImagePlays -/
def a4 : ACode := (.seq (.reg [⟨(some 2), .mov (.c (.bool false)), none, false⟩])
 (.seq (.seq (.reg [⟨(some 12), .call 26 [], none, false⟩, ⟨(some 13), .un .not (.t 12), none, false⟩])
 (.cond (.t 13) (.seq (.reg [⟨(some 2), .mov (.c (.bool false)), none, false⟩])
 .ret)
 .skip))
 (.seq (.seq (.reg [⟨(some 14), .mov (.t 0), none, false⟩, ⟨(some 15), .len false (.t 14), none, false⟩, ⟨(some 16), .bin .gtr .other (.t 15) (.c (.int .i64 300)), none, false⟩])
 (.cond (.t 16) (.seq (.reg [⟨(some 2), .mov (.c (.bool true)), none, false⟩])
 .ret)
 .skip))
 (.seq (.reg [⟨(some 17), .call 27 [], none, false⟩, ⟨(some 18), .call 28 [], none, false⟩, ⟨(some 3), .mov (.t 17), none, false⟩, ⟨(some 4), .mov (.t 18), none, false⟩])
 (.seq (.seq (.reg [⟨(some 5), .mov (.c (.int .i64 0)), none, false⟩])
 (.block 0 (.loop (.seq (.seq (.reg [⟨(some 19), .mov (.t 5), none, false⟩, ⟨(some 20), .mov (.t 0), none, false⟩, ⟨(some 21), .len false (.t 20), none, false⟩, ⟨(some 22), .bin .lss .other (.t 19) (.t 21), none, false⟩])
 (.cond (.t 22) .skip
 (.exit 0)))
 (.seq (.block 1 (.seq (.reg [⟨(some 25), .mov (.t 0), none, false⟩, ⟨(some 26), .mov (.t 5), none, false⟩, ⟨(some 27), .idx 4 none true (.t 25) (.t 26), none, false⟩, ⟨(some 28), .load true 4 (.t 27), none, false⟩, ⟨(some 6), .alloc [(3, (.int .i64 0)), (1, (.int .u16 0))], none, false⟩, ⟨none, .store 4 (.t 6) (.t 28), none, false⟩])
 (.seq (.seq (.reg [⟨(some 29), .fld 0 1 false (.t 6), none, false⟩, ⟨(some 30), .load false 1 (.t 29), none, false⟩])
 (.block 2 (.seq (.seq (.reg [⟨(some 32), .bin .eql .other (.t 30) (.c (.int .i64 0)), none, false⟩, ⟨(some 31), .mov (.t 32), none, false⟩])
 (.cond (.t 31) .skip
 (.reg [⟨(some 33), .bin .eql .other (.t 30) (.c (.int .i64 1)), none, false⟩, ⟨(some 31), .mov (.t 33), none, false⟩])))
 (.cond (.t 31) (.seq (.draw [⟨0, ⟨(some 34), .mov (.t 3), none, false⟩, false, [], []⟩, ⟨1, ⟨(some 35), .fld 1 1 false (.t 6), none, false⟩, false, [], []⟩, ⟨2, ⟨(some 36), .load false 1 (.t 35), none, false⟩, false, [], []⟩, ⟨3, ⟨(some 37), .fld 2 1 false (.t 6), none, false⟩, false, [], []⟩, ⟨4, ⟨(some 38), .load false 1 (.t 37), none, false⟩, false, [], []⟩, ⟨5, ⟨(some 39), .fld 3 1 false (.t 6), none, false⟩, false, [], []⟩, ⟨6, ⟨(some 40), .load false 1 (.t 39), none, false⟩, false, [], []⟩, ⟨8, ⟨(some 42), .mov (.t 4), none, false⟩, false, [], []⟩, ⟨9, ⟨(some 43), .fld 1 1 false (.t 6), none, false⟩, false, [], []⟩, ⟨10, ⟨(some 44), .load false 1 (.t 43), none, false⟩, false, [], []⟩, ⟨11, ⟨(some 45), .fld 2 1 false (.t 6), none, false⟩, false, [], []⟩, ⟨12, ⟨(some 46), .load false 1 (.t 45), none, false⟩, false, [], []⟩, ⟨13, ⟨(some 47), .fld 3 1 false (.t 6), none, false⟩, false, [], []⟩, ⟨14, ⟨(some 48), .load false 1 (.t 47), none, false⟩, false, [], []⟩, ⟨7, ⟨(some 41), .call 29 [(.t 34), (.t 36), (.t 38), (.t 40)], none, false⟩, true, [], [(.t 43), (.t 45), (.t 47)]⟩, ⟨15, ⟨(some 49), .call 30 [(.t 42), (.t 44), (.t 46), (.t 48)], none, false⟩, true, [], []⟩, ⟨16, ⟨(some 50), .bin .neq .other (.t 41) (.t 49), none, false⟩, false, [], []⟩])
 (.cond (.t 50) (.seq (.reg [⟨(some 2), .mov (.c (.bool false)), none, false⟩])
 .ret)
 .skip))
 (.seq (.seq (.reg [⟨(some 52), .bin .eql .other (.t 30) (.c (.int .i64 2)), none, false⟩, ⟨(some 51), .mov (.t 52), none, false⟩])
 (.cond (.t 51) .skip
 (.reg [⟨(some 53), .bin .eql .other (.t 30) (.c (.int .i64 3)), none, false⟩, ⟨(some 51), .mov (.t 53), none, false⟩])))
 (.cond (.t 51) (.seq (.draw [⟨0, ⟨(some 54), .mov (.t 3), none, false⟩, false, [], []⟩, ⟨1, ⟨(some 55), .fld 1 1 false (.t 6), none, false⟩, false, [], []⟩, ⟨2, ⟨(some 56), .load false 1 (.t 55), none, false⟩, false, [], []⟩, ⟨3, ⟨(some 57), .fld 2 1 false (.t 6), none, false⟩, false, [], []⟩, ⟨4, ⟨(some 58), .load false 1 (.t 57), none, false⟩, false, [], []⟩, ⟨5, ⟨(some 59), .fld 3 1 false (.t 6), none, false⟩, false, [], []⟩, ⟨6, ⟨(some 60), .load false 1 (.t 59), none, false⟩, false, [], []⟩, ⟨8, ⟨(some 62), .mov (.t 4), none, false⟩, false, [], []⟩, ⟨9, ⟨(some 63), .fld 1 1 false (.t 6), none, false⟩, false, [], []⟩, ⟨10, ⟨(some 64), .load false 1 (.t 63), none, false⟩, false, [], []⟩, ⟨11, ⟨(some 65), .fld 2 1 false (.t 6), none, false⟩, false, [], []⟩, ⟨12, ⟨(some 66), .load false 1 (.t 65), none, false⟩, false, [], []⟩, ⟨13, ⟨(some 67), .fld 3 1 false (.t 6), none, false⟩, false, [], []⟩, ⟨14, ⟨(some 68), .load false 1 (.t 67), none, false⟩, false, [], []⟩, ⟨7, ⟨(some 61), .call 33 [(.t 54), (.t 56), (.t 58), (.t 60)], none, false⟩, true, [], [(.t 63), (.t 65), (.t 67)]⟩, ⟨15, ⟨(some 69), .call 34 [(.t 62), (.t 64), (.t 66), (.t 68)], none, false⟩, true, [], []⟩, ⟨16, ⟨(some 70), .bin .neq .other (.t 61) (.t 69), none, false⟩, false, [], []⟩])
 (.cond (.t 70) (.seq (.reg [⟨(some 2), .mov (.c (.bool false)), none, false⟩])
 .ret)
 .skip))
 (.seq (.reg [⟨(some 72), .bin .eql .other (.t 30) (.c (.int .i64 4)), none, false⟩, ⟨(some 71), .mov (.t 72), none, false⟩])
 (.cond (.t 71) (.seq (.reg [⟨(some 73), .mov (.t 3), none, false⟩, ⟨(some 74), .call 31 [(.t 73)], none, false⟩])
 (.reg [⟨(some 75), .mov (.t 4), none, false⟩, ⟨(some 76), .call 32 [(.t 75)], none, false⟩]))
 (.seq (.reg [⟨(some 78), .bin .eql .other (.t 30) (.c (.int .i64 5)), none, false⟩, ⟨(some 77), .mov (.t 78), none, false⟩])
 (.cond (.t 77) (.seq (.reg [⟨(some 79), .mov (.t 3), none, false⟩, ⟨(some 80), .call 38 [(.t 79)], none, false⟩])
 (.reg [⟨(some 81), .mov (.t 4), none, false⟩, ⟨(some 82), .call 39 [(.t 81)], none, false⟩]))
 (.seq (.reg [⟨(some 84), .bin .eql .other (.t 30) (.c (.int .i64 6)), none, false⟩, ⟨(some 83), .mov (.t 84), none, false⟩])
 (.cond (.t 83) (.seq (.reg [⟨(some 85), .mov (.t 3), none, false⟩, ⟨(some 86), .call 41 [(.t 85)], none, false⟩])
 (.reg [⟨(some 87), .mov (.t 4), none, false⟩, ⟨(some 88), .call 32 [(.t 87)], none, false⟩]))
 (.seq (.reg [⟨(some 90), .bin .eql .other (.t 30) (.c (.int .i64 7)), none, false⟩, ⟨(some 89), .mov (.t 90), none, false⟩])
 (.cond (.t 89) (.seq (.reg [⟨(some 91), .mov (.t 3), none, false⟩, ⟨(some 92), .call 42 [(.t 91)], none, false⟩, ⟨(some 7), .mov (.t 92), none, false⟩])
 (.seq (.reg [⟨(some 93), .mov (.t 3), none, false⟩, ⟨(some 94), .call 29 [(.t 93), (.c (.int .i64 2)), (.c (.int .i64 5)), (.c (.int .u16 1))], none, false⟩])
 (.seq (.reg [⟨(some 95), .mov (.t 3), none, false⟩, ⟨(some 96), .call 38 [(.t 95)], none, false⟩])
 (.reg [⟨(some 97), .mov (.t 7), none, false⟩, ⟨(some 98), .mov (.t 4), none, false⟩, ⟨(some 99), .call 43 [(.t 98)], none, false⟩, ⟨(some 3), .mov (.t 97), none, false⟩, ⟨(some 4), .mov (.t 99), none, false⟩]))))
 .skip))))))))))))))
 (.seq (.reg [⟨(some 101), .mov (.t 3), none, false⟩, ⟨(some 102), .fld 1 1 false (.t 6), none, false⟩, ⟨(some 103), .load false 1 (.t 102), none, false⟩, ⟨(some 104), .fld 2 1 false (.t 6), none, false⟩, ⟨(some 105), .load false 1 (.t 104), none, false⟩, ⟨(some 106), .call 44 [(.t 101), (.t 103), (.t 105)], none, false⟩, ⟨(some 100), .mov (.t 106), none, false⟩, ⟨(some 107), .ext (.t 100) 0, none, false⟩, ⟨(some 108), .ext (.t 100) 1, none, false⟩, ⟨(some 8), .mov (.t 107), none, false⟩, ⟨(some 9), .mov (.t 108), none, false⟩])
 (.seq (.reg [⟨(some 110), .mov (.t 4), none, false⟩, ⟨(some 111), .fld 1 1 false (.t 6), none, false⟩, ⟨(some 112), .load false 1 (.t 111), none, false⟩, ⟨(some 113), .fld 2 1 false (.t 6), none, false⟩, ⟨(some 114), .load false 1 (.t 113), none, false⟩, ⟨(some 115), .call 45 [(.t 110), (.t 112), (.t 114)], none, false⟩, ⟨(some 109), .mov (.t 115), none, false⟩, ⟨(some 116), .ext (.t 109) 0, none, false⟩, ⟨(some 117), .ext (.t 109) 1, none, false⟩, ⟨(some 10), .mov (.t 116), none, false⟩, ⟨(some 11), .mov (.t 117), none, false⟩])
 (.seq (.reg [⟨(some 118), .mov (.t 8), none, false⟩, ⟨(some 119), .mov (.t 10), none, false⟩, ⟨(some 120), .bin .neq .other (.t 118) (.t 119), none, false⟩, ⟨(some 121), .mov (.t 120), none, true⟩, ⟨(some 122), .mov (.t 9), (some (121, false)), false⟩, ⟨(some 123), .mov (.t 11), (some (121, false)), false⟩, ⟨(some 124), .bin .neq .other (.t 122) (.t 123), (some (121, false)), false⟩, ⟨(some 125), .pick (.t 121) (.c (.bool true)) (.t 124), none, false⟩, ⟨(some 126), .mov (.t 125), none, true⟩, ⟨(some 127), .mov (.t 5), (some (126, false)), false⟩, ⟨(some 128), .bin .rem .other (.t 127) (.c (.int .i64 20)), (some (126, false)), false⟩, ⟨(some 129), .bin .eql .other (.t 128) (.c (.int .i64 19)), (some (126, false)), false⟩, ⟨(some 130), .mov (.t 129), (some (126, false)), true⟩, ⟨(some 131), .mov (.t 3), (some (130, true)), false⟩, ⟨(some 132), .mov (.t 4), (some (130, true)), false⟩, ⟨(some 133), .call 40 [(.t 131), (.t 132)], (some (130, true)), false⟩, ⟨(some 134), .un .not (.t 133), (some (130, true)), false⟩, ⟨(some 135), .pick (.t 130) (.t 134) (.c (.bool false)), (some (126, false)), false⟩, ⟨(some 136), .pick (.t 126) (.c (.bool true)) (.t 135), none, false⟩])
 (.cond (.t 136) (.seq (.reg [⟨(some 2), .mov (.c (.bool false)), none, false⟩])
 .ret)
 .skip)))))))
 (.reg [⟨(some 23), .mov (.t 5), none, false⟩, ⟨(some 24), .bin .add .other (.t 23) (.c (.int .i64 1)), none, false⟩, ⟨(some 5), .mov (.t 24), none, false⟩]))))))
 (.seq (.reg [⟨(some 137), .mov (.t 3), none, false⟩, ⟨(some 138), .mov (.t 4), none, false⟩, ⟨(some 139), .call 40 [(.t 137), (.t 138)], none, false⟩, ⟨(some 2), .mov (.t 139), none, false⟩])
 .ret))))))
def r4 : List ARes := [.t 2]
theorem c4 : compF Try.prog Try.f4 = some (a4, r4) := by kernel_rfl

theorem b4 : hasBody Try.prog 4 = true := by kernel_rfl
theorem g4 : Try.prog.funcs[4]? = some Try.f4 := by kernel_rfl

theorem newCall {f N : Nat} {k : Nat → IntKind} {g : Nat → Int} {s : St} {K : AV → St → Prop} (hT : NewT f (.blk N k g)) (kk : openS s fun n m => K (.ptr n 0) ⟨n + 1, (n, some (.blk N k g)) :: m⟩) : Tr Try.prog f [] s K := by
  refine Tr.call [] hT rfl rfl trivial rfl fun v0 s0 ⟨hv, hs⟩ => ?_
  subst hv; subst hs
  rw [openS_eq] at kk
  exact kk
theorem copyCall {f h N : Nat} {k : Nat → IntKind} {g : Nat → Int} {s : St} {K : AV → St → Prop} (hT : CopyT f (.blk N k g) (.blk N k g)) (hg : s.get h = some (.blk N k g))
    (kk : openS s fun n m => K (.ptr n 0) ⟨n + 1, (n, some (.blk N k g)) :: (h, some (.blk N k g)) :: (h, none) :: m⟩) : Tr Try.prog f [.ptr h 0] s K := by
  refine Tr.call [(0, some h)] hT rfl rfl ⟨⟨trivial, rfl, hg⟩, trivial⟩ rfl fun v0 s0 ⟨hv, hs⟩ => ?_
  subst hv; subst hs
  rw [openS_eq] at kk
  exact kk
/-- two blocks that stay as they are, one value -/
theorem twoCall {f h h' N N' : Nat} {k k' : Nat → IntKind} {g g' : Nat → Int} {v0 : AV} {s : St} {K : AV → St → Prop} (hT : Tr Try.prog f [.ptr 0 0, .ptr 1 0] ⟨2, [(0, some (.blk N k g)), (1, some (.blk N' k' g'))]⟩ fun v s => v = v0 ∧ s = ⟨2, [(0, some (.blk N k g)), (1, some (.blk N' k' g'))]⟩)
    (hv0 : v0.hok 0 nor = true) (hne : Nat.beq h h' = false) (hg : s.get h = some (.blk N k g)) (hg' : s.get h' = some (.blk N' k' g'))
    (kk : openS s fun n m => K v0 ⟨n, (h, some (.blk N k g)) :: (h', some (.blk N' k' g')) :: (h, none) :: (h', none) :: m⟩) : Tr Try.prog f [.ptr h 0, .ptr h' 0] s K := by
  refine Tr.call [(0, some h), (1, some h')] hT rfl rfl ⟨⟨trivial, rfl, hg⟩, ⟨trivial, rfl, hg'⟩, trivial⟩ ?_ fun v1 s0 ⟨hv, hs⟩ => ?_
  · have hne' : Nat.beq h' h = false := by
      rw [Bool.eq_false_iff] at hne ⊢
      exact fun e => hne (by rw [Nat.eq_of_beq_eq_true e]; exact Nat.beq_refl _)
    show nodupN [h, h'] = true
    simp [nodupN, memN, hne']
  · subst hv; subst hs
    rw [openS_eq] at kk
    rw [ren_pure v1 hv0]
    exact kk
theorem map_getD {α : Type} {S : List α} {f : α → AV} {i : Nat} (h : i < S.length) : ∃ x ∈ S, (S.map f).getD i .undef = f x :=
  ⟨S[i], List.getElem_mem h, by simp [List.getD_eq_getElem?_getD, h]⟩
structure Stp where
  wh : Int
  ar : Int
  of : Int
  v : Int
def stepV (x : Stp) : AV := .agg [.int .i64 x.wh, .int .i64 x.ar, .int .i64 x.of, .int .u16 x.v]
set_option maxRecDepth 20000 in
theorem known11 : Ev Try.prog 26 [] (.bool true) := by
  refine FrzK.ev rfl (trF g26 b26 c26 ?_)
  conv => whnf
  refine newCall New_tr ?_
  conv => whnf
  refine blkCall (Put_tr .zero 1 0 7 (by decide)) rfl rfl rfl ?_
  conv => whnf
  refine blkCall (Latch_tr _) rfl rfl rfl ?_
  conv => whnf
  refine blkCall (Work_tr _ 1 0) rfl rfl rfl ?_
  conv => whnf
  refine blkCall (Set_tr _ 2 0 1 (by decide)) rfl rfl rfl ?_
  conv => whnf
  refine blkCall (Get_tr _ 2 0) rfl rfl rfl ?_
  conv => whnf
  refine blkCall (Publish_tr _) rfl rfl rfl ?_
  conv => whnf
  refine blkCall (Get_tr _ 2 0) rfl rfl rfl ?_
  conv => whnf
  refine blkCall (Put_tr _ 7 0 1 (by decide)) rfl rfl rfl ?_
  conv => whnf
  refine blkCall (Scans_tr _) rfl rfl rfl ?_
  conv => whnf
  refine allCall (All_tr _ 4) rfl rfl rfl ?_
  conv => whnf
  exact FrzK.le (Le.refl _)
set_option maxRecDepth 20000 in
set_option maxHeartbeats 1000000 in
theorem law4 (S : List Stp) (hS : ∀ x ∈ S, 0 ≤ x.v) : Ev Try.prog 4 [.ro 4 (S.map stepV)] (.bool true) := by
  refine FrzK.ev rfl (trZ [101] [] g4 b4 c4 ?_)
  conv => whnf
  refine Ev.call known11 ?_
  conv => whnf
  refine condS (fun h => ?_) (fun h => ?_)
  · conv => whnf
    exact FrzK.le (Le.refl _)
  conv => whnf
  have hl : S.length ≤ 300 := by simp at h; omega
  refine newCall New_tr ?_
  conv => whnf
  refine newCall rNew_tr ?_
  conv => whnf
  refine loopI (α := {i : Nat // i ≤ S.length} × Img) (fun q => [(0, .ro 4 (S.map stepV)), (3, .ptr 0 0), (4, .ptr 1 0), (5, .int .i64 q.1.1)]) (fun q => ⟨2, [(0, some (imC q.2)), (1, some (rmC q.2))]⟩) (fun q => S.length - q.1.1) (⟨0, Nat.zero_le _⟩, .zero)
      ⟨[], rfl, rfl, rfl, ⟨⟨rfl, rfl⟩, ⟨rfl, rfl⟩, ⟨rfl, rfl⟩, ⟨rfl, rfl⟩, trivial⟩, ⟨⟨trivial, rfl, rfl⟩, ⟨trivial, rfl, rfl⟩, trivial⟩⟩ fun ⟨⟨i, hi⟩, I⟩ => ?_
  conv => whnf
  by_cases hlt : i < S.length
  · refine condY (by simp; omega) ?_
    conv => whnf
    obtain ⟨x, hxS, hx⟩ := map_getD (f := stepV) hlt
    have hv := hS x hxS
    have hx : (S.map stepV).getD (Int.toNat (i : Int)) .undef = stepV x := hx
    refine condT (by simp; omega) ?_
    rw [hx]
    conv => whnf
    refine joinI (α := Img) (fun J => [(0, .ro 4 (S.map stepV)), (3, .ptr 0 0), (4, .ptr 1 0), (5, .int .i64 i), (6, .ptr 2 0)]) (fun J => ⟨3, [(0, some (imC J)), (1, some (rmC J)), (2, some (.obj [.int .i64 x.wh, .int .i64 x.ar, .int .i64 x.of, .int .u16 x.v]))]⟩) ?_ (fun J => ?_)
    · conv => whnf
      repeat' (first
        | (refine condY (by assumption) ?_; conv => whnf)
        | (refine condN (by assumption) ?_; conv => whnf)
        | (refine condN (bne_self_eq_false _) ?_; conv => whnf)
        | (refine ⟨rfl, ?_⟩; conv => whnf)
        | (refine blkCall (Put_tr _ _ _ _ (by first | assumption | decide)) rfl rfl rfl ?_; conv => whnf)
        | (refine blkCall (rPut_tr _ _ _ _) rfl rfl rfl ?_; conv => whnf)
        | (refine blkCall (Set_tr _ _ _ _ (by first | assumption | decide)) rfl rfl rfl ?_; conv => whnf)
        | (refine blkCall (rSet_tr _ _ _ _) rfl rfl rfl ?_; conv => whnf)
        | (refine blkCall (Latch_tr _) rfl rfl rfl ?_; conv => whnf)
        | (refine blkCall (Drop_tr _) rfl rfl rfl ?_; conv => whnf)
        | (refine blkCall (rLatch_tr _) rfl rfl rfl ?_; conv => whnf)
        | (refine blkCall (Publish_tr _) rfl rfl rfl ?_; conv => whnf)
        | (refine blkCall (rPublish_tr _) rfl rfl rfl ?_; conv => whnf)
        | (refine copyCall (Copy_tr _) rfl ?_; conv => whnf)
        | (refine copyCall (rCopy_tr _) rfl ?_; conv => whnf)
        | (refine condF (fun h => ?_) (fun h => ?_) <;> conv => whnf))
      all_goals first
        | exact ⟨_, [], rfl, rfl, rfl, ⟨⟨rfl, rfl⟩, ⟨rfl, rfl⟩, ⟨rfl, rfl⟩, ⟨rfl, rfl⟩, ⟨rfl, rfl⟩, trivial⟩, ⟨⟨trivial, rfl, rfl⟩, ⟨trivial, rfl, rfl⟩, ⟨rfl, rfl, rfl⟩, trivial⟩⟩
        | exact ⟨_, [(0, some 3), (1, some 4)], rfl, rfl, rfl, ⟨⟨rfl, rfl⟩, ⟨rfl, rfl⟩, ⟨rfl, rfl⟩, ⟨rfl, rfl⟩, ⟨rfl, rfl⟩, trivial⟩, ⟨⟨trivial, rfl, rfl⟩, ⟨trivial, rfl, rfl⟩, ⟨rfl, rfl, rfl⟩, trivial⟩⟩
    · conv => whnf
      refine blkCall (Get_tr _ _ _) rfl rfl rfl ?_
      conv => whnf
      refine blkCall (rGet_tr _ _ _) rfl rfl rfl ?_
      conv => whnf
      refine condN (by simp) ?_
      conv => whnf
      refine condN (by simp) ?_
      conv => whnf
      refine condF (fun h => ?_) (fun h => ?_)
      · conv => whnf
        refine ⟨(⟨i + 1, hlt⟩, J), ⟨[], rfl, rfl, rfl, ⟨⟨rfl, rfl⟩, ⟨rfl, rfl⟩, ⟨rfl, rfl⟩, ⟨?_, rfl⟩, trivial⟩, ⟨⟨trivial, rfl, rfl⟩, ⟨trivial, rfl, rfl⟩, trivial⟩⟩, by show S.length - (i + 1) < S.length - i; omega⟩
        show AV.int .i64 (IntKind.i64.wrap ((i : Int) + 1)) = AV.int .i64 ((i + 1 : Nat) : Int)
        rw [s64 (by omega)]
      · conv => whnf
        refine twoCall (alike_tr J) rfl rfl rfl rfl ?_
        conv => whnf
        refine ⟨(⟨i + 1, hlt⟩, J), ⟨[], rfl, rfl, rfl, ⟨⟨rfl, rfl⟩, ⟨rfl, rfl⟩, ⟨rfl, rfl⟩, ⟨?_, rfl⟩, trivial⟩, ⟨⟨trivial, rfl, rfl⟩, ⟨trivial, rfl, rfl⟩, trivial⟩⟩, by show S.length - (i + 1) < S.length - i; omega⟩
        show AV.int .i64 (IntKind.i64.wrap ((i : Int) + 1)) = AV.int .i64 ((i + 1 : Nat) : Int)
        rw [s64 (by omega)]
  · refine condN (by simp; omega) ?_
    conv => whnf
    refine twoCall (alike_tr I) rfl rfl rfl rfl ?_
    conv => whnf
    exact FrzK.le (Le.refl _)
theorem allL_pub1 (I : Img) : allL I.pub.o 1 = allL I.o 1 := rfl
theorem allL_pub4 (I : Img) : allL I.pub.o 4 = allL I.o 4 := rfl
theorem allL_len (f : Nat → Nat → Int) (a : Int) : (allL f a).length ≤ 100000 := by
  rw [allL_length]
  have := szA_range a
  omega
theorem sameRows {g : Nat → Option Chunk} {h h' : Nat} {l : List Int} (h1 : g h = some (.rowI .u16 l)) (h2 : g h' = some (.rowI .u16 l)) : SeeL g [.sl 1 h 0 l.length, .sl 1 h' 0 l.length] [.roI .u16 l, .roI .u16 l] := by
  refine ⟨.le _ _ _ (.rowI h1 (by simp)) ?_, .le _ _ _ (.rowI h2 (by simp)) ?_, trivial⟩
  all_goals
    simp
    exact Le.refl _
set_option maxRecDepth 20000 in
set_option maxHeartbeats 1000000 in
theorem law3 (S T : List Stp) (hS : ∀ x ∈ S, 0 ≤ x.v) (hT : ∀ x ∈ T, 0 ≤ x.v) : Ev Try.prog 3 [.ro 4 (S.map stepV), .ro 4 (T.map stepV)] (.bool true) := by
  refine FrzK.ev rfl (trF g3 b3 c3 ?_)
  conv => whnf
  refine Ev.call known11 ?_
  conv => whnf
  refine condS (fun h => ?_) (fun h => ?_)
  · conv => whnf
    exact FrzK.le (Le.refl _)
  conv => whnf
  have hl : S.length ≤ 200 := by simp at h; omega
  refine condS (fun h => ?_) (fun h => ?_)
  · conv => whnf
    exact FrzK.le (Le.refl _)
  conv => whnf
  have hl2 : T.length ≤ 200 := by simp at h; omega
  refine newCall New_tr ?_
  conv => whnf
  refine newCall rNew_tr ?_
  conv => whnf
  refine loopI (α := {i : Nat // i ≤ S.length} × Img) (fun q => [(0, .ro 4 (S.map stepV)), (1, .ro 4 (T.map stepV)), (5, .ptr 0 0), (6, .ptr 1 0), (7, .int .i64 q.1.1)]) (fun q => ⟨2, [(0, some (imC q.2)), (1, some (rmC q.2))]⟩) (fun q => S.length - q.1.1) (⟨0, Nat.zero_le _⟩, _)
      ⟨[], rfl, rfl, rfl, ⟨⟨rfl, rfl⟩, ⟨rfl, rfl⟩, ⟨rfl, rfl⟩, ⟨rfl, rfl⟩, ⟨rfl, rfl⟩, trivial⟩, ⟨⟨trivial, rfl, rfl⟩, ⟨trivial, rfl, rfl⟩, trivial⟩⟩ fun ⟨⟨i, hi⟩, I⟩ => ?_
  conv => whnf
  by_cases hlt : i < S.length
  · refine condY (by simp; omega) ?_
    conv => whnf
    obtain ⟨x, hxS, hx⟩ := map_getD (f := stepV) hlt
    have hv := hS x hxS
    have hx : (S.map stepV).getD (Int.toNat (i : Int)) .undef = stepV x := hx
    refine condT (by simp; omega) ?_
    rw [hx]
    conv => whnf
    refine condT (by simp; omega) ?_
    rw [hx]
    conv => whnf
    refine condT (by simp; omega) ?_
    rw [hx]
    conv => whnf
    refine blkCall (Put_tr _ _ _ _ hv) rfl rfl rfl ?_
    conv => whnf
    refine condT (by simp; omega) ?_
    rw [hx]
    conv => whnf
    refine condT (by simp; omega) ?_
    rw [hx]
    conv => whnf
    refine condT (by simp; omega) ?_
    rw [hx]
    conv => whnf
    refine blkCall (rPut_tr _ _ _ _) rfl rfl rfl ?_
    conv => whnf
    refine ⟨(⟨i + 1, hlt⟩, _), ⟨[], rfl, rfl, rfl, ⟨⟨rfl, rfl⟩, ⟨rfl, rfl⟩, ⟨rfl, rfl⟩, ⟨rfl, rfl⟩, ⟨?_, rfl⟩, trivial⟩, ⟨⟨trivial, rfl, rfl⟩, ⟨trivial, rfl, rfl⟩, trivial⟩⟩, by show S.length - (i + 1) < S.length - i; omega⟩
    show AV.int .i64 (IntKind.i64.wrap ((i : Int) + 1)) = AV.int .i64 ((i + 1 : Nat) : Int)
    rw [s64 (by omega)]
  refine condN (by simp; omega) ?_
  conv => whnf
  refine blkCall (Latch_tr _) rfl rfl rfl ?_
  conv => whnf
  refine blkCall (rLatch_tr _) rfl rfl rfl ?_
  conv => whnf
  refine loopI (α := {i : Nat // i ≤ T.length} × Img) (fun q => [(0, .ro 4 (S.map stepV)), (1, .ro 4 (T.map stepV)), (5, .ptr 0 0), (6, .ptr 1 0), (8, .int .i64 q.1.1)]) (fun q => ⟨2, [(0, some (imC q.2)), (1, some (rmC q.2))]⟩) (fun q => T.length - q.1.1) (⟨0, Nat.zero_le _⟩, _)
      ⟨[], rfl, rfl, rfl, ⟨⟨rfl, rfl⟩, ⟨rfl, rfl⟩, ⟨rfl, rfl⟩, ⟨rfl, rfl⟩, ⟨rfl, rfl⟩, trivial⟩, ⟨⟨trivial, rfl, rfl⟩, ⟨trivial, rfl, rfl⟩, trivial⟩⟩ fun ⟨⟨i, hi⟩, J⟩ => ?_
  conv => whnf
  by_cases hlt : i < T.length
  · refine condY (by simp; omega) ?_
    conv => whnf
    obtain ⟨x, hxS, hx⟩ := map_getD (f := stepV) hlt
    have hv := hT x hxS
    have hx : (T.map stepV).getD (Int.toNat (i : Int)) .undef = stepV x := hx
    refine condT (by simp; omega) ?_
    rw [hx]
    conv => whnf
    refine condT (by simp; omega) ?_
    rw [hx]
    conv => whnf
    refine condT (by simp; omega) ?_
    rw [hx]
    conv => whnf
    refine blkCall (Set_tr _ _ _ _ hv) rfl rfl rfl ?_
    conv => whnf
    refine condT (by simp; omega) ?_
    rw [hx]
    conv => whnf
    refine condT (by simp; omega) ?_
    rw [hx]
    conv => whnf
    refine condT (by simp; omega) ?_
    rw [hx]
    conv => whnf
    refine blkCall (rSet_tr _ _ _ _) rfl rfl rfl ?_
    conv => whnf
    refine ⟨(⟨i + 1, hlt⟩, _), ⟨[], rfl, rfl, rfl, ⟨⟨rfl, rfl⟩, ⟨rfl, rfl⟩, ⟨rfl, rfl⟩, ⟨rfl, rfl⟩, ⟨?_, rfl⟩, trivial⟩, ⟨⟨trivial, rfl, rfl⟩, ⟨trivial, rfl, rfl⟩, trivial⟩⟩, by show T.length - (i + 1) < T.length - i; omega⟩
    show AV.int .i64 (IntKind.i64.wrap ((i : Int) + 1)) = AV.int .i64 ((i + 1 : Nat) : Int)
    rw [s64 (by omega)]
  refine condN (by simp; omega) ?_
  conv => whnf
  refine loopI (α := {a : Nat // 1 ≤ a ∧ a ≤ 7}) (fun a => [(5, .ptr 0 0), (6, .ptr 1 0), (9, .int .i64 a.1)]) (fun a => ⟨2, [(0, some (imC J)), (1, some (rmC J))]⟩) (fun a => 7 - a.1) ⟨1, by decide⟩
      ⟨[], rfl, rfl, rfl, ⟨⟨rfl, rfl⟩, ⟨rfl, rfl⟩, ⟨rfl, rfl⟩, trivial⟩, ⟨⟨trivial, rfl, rfl⟩, ⟨trivial, rfl, rfl⟩, trivial⟩⟩ fun ⟨a, ha⟩ => ?_
  conv => whnf
  by_cases hlt3 : a < 7
  · refine condY (by simp; omega) ?_
    conv => whnf
    refine allCall (All_tr J a) rfl rfl rfl ?_
    conv => whnf
    refine allCall (rAll_tr J a) rfl rfl rfl ?_
    conv => whnf
    refine Ev.look (hregs_same (allL J.o a) (allL_len _ _)) rfl (sameRows rfl rfl) ?_
    conv => whnf
    refine ⟨⟨a + 1, by omega⟩, ⟨[], rfl, rfl, rfl, ⟨⟨rfl, rfl⟩, ⟨rfl, rfl⟩, ⟨?_, rfl⟩, trivial⟩, ⟨⟨trivial, rfl, rfl⟩, ⟨trivial, rfl, rfl⟩, trivial⟩⟩, by show 7 - (a + 1) < 7 - a; omega⟩
    show AV.int .i64 (IntKind.i64.wrap ((a : Int) + 1)) = AV.int .i64 ((a + 1 : Nat) : Int)
    rw [s64 (by omega)]
  refine condN (by simp; omega) ?_
  conv => whnf
  refine allCall (All_tr J 1) rfl rfl rfl ?_
  conv => whnf
  refine allCall (All_tr J 4) rfl rfl rfl ?_
  conv => whnf
  refine blkCall (Publish_tr J) rfl rfl rfl ?_
  conv => whnf
  refine blkCall (rPublish_tr J) rfl rfl rfl ?_
  conv => whnf
  refine twoCall (alike_tr J.pub) rfl rfl rfl rfl ?_
  conv => whnf
  refine allCall (All_tr J.pub 1) rfl rfl rfl ?_
  conv => whnf
  refine Ev.look (hregs_same (allL J.o 1) (allL_len _ _)) rfl (sameRows rfl rfl) ?_
  conv => whnf
  refine allCall (All_tr J.pub 4) rfl rfl rfl ?_
  conv => whnf
  refine Ev.look (hregs_same (allL J.o 4) (allL_len _ _)) rfl (sameRows rfl rfl) ?_
  conv => whnf
  exact FrzK.le (Le.refl _)
end Go.Proofs.Ytomodeliimnddaa
set_option linter.unusedVariables false
set_option linter.unusedSimpArgs false
namespace Go.Proofs.Ytomodeliimnddaa
open Go.Ab
theorem steps_arg {W : World} {v : Value} {L : List (List AV)} (h : ∀ l ∈ L, CKs [.int .i64, .int .i64, .int .i64, .int .u16] l) (g : GRel W noM (.ro 4 (L.map .agg)) v) : ∃ S : List Stp, GRel W noM (.ro 4 (S.map stepV)) v ∧ ∀ x ∈ S, 0 ≤ x.v := by
  obtain ⟨S, rfl, hS⟩ := list_form (f := fun x : Stp => [AV.int .i64 x.wh, .int .i64 x.ar, .int .i64 x.of, .int .u16 x.v]) (Q := fun x => 0 ≤ x.v) L fun l hl => by
    have hc := h l hl
    match l, hc.length, hc with
    | [a, b, c, d], _, hc =>
      obtain ⟨⟨a, rfl, _⟩, ⟨b, rfl, _⟩, ⟨c, rfl, _⟩, ⟨d, rfl, hd, _⟩, _⟩ := hc
      exact ⟨⟨a, b, c, d⟩, rfl, hd⟩
  exact ⟨S, by rw [List.map_map] at g; exact g, hS⟩
end Go.Proofs.Ytomodeliimnddaa
