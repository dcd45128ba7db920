/- The plain image: values by areas and places, and how they lie in the program's object and in the document's. Contracts: package image: the small functions. Contracts: the document's image: the small functions. Contracts: images: whole buffers. Contracts: images: areas as rows; are two images alike? Calls on images; rows of images. -/
import Derived.Test.YtomodeliimnddaaHEngD
set_option linter.unusedVariables false
set_option linter.unusedSimpArgs false
namespace Go.Proofs.Ytomodeliimnddaa
open Go.Ab
def szA (a : Int) : Int := if a = 1 then 128 else if a = 2 then 128 else if a = 3 then 128 else if a = 4 then 64 else if a = 5 then 64 else if a = 6 then 64 else 0
def offA (a : Int) : Nat := if a = 1 then 0 else if a = 2 then 128 else if a = 3 then 256 else if a = 4 then 384 else if a = 5 then 448 else 512
def bitP (a : Int) : Bool := a == 1 || a == 2 || a == 3
def inA (a i : Int) : Bool := decide (0 ≤ i) && decide (i < szA a)
structure Img where
  o : Nat → Nat → Int
  w : Nat → Nat → Int
  n : Int
def set2 (f : Nat → Nat → Int) (a i : Nat) (v : Int) : Nat → Nat → Int := fun b j => if b = a ∧ j = i then v else f b j
def bitV (a v : Int) : Int := if bitP a && v != 0 then 1 else v
def putO (f : Nat → Nat → Int) (a i v : Int) : Nat → Nat → Int := if inA a i then set2 f a.toNat i.toNat (bitV a v) else f
def Img.put (I : Img) (a i v : Int) : Img := ⟨putO I.o a i v, I.w, I.n⟩
def Img.set (I : Img) (a i v : Int) : Img := ⟨I.o, putO I.w a i v, I.n⟩
def Img.latch (I : Img) : Img := ⟨I.o, I.o, I.n⟩
def Img.pub (I : Img) : Img := ⟨fun a i => if a = 2 ∨ a = 3 ∨ a = 5 ∨ a = 6 then I.w a i else I.o a i, I.w, IntKind.u64.wrap (I.n + 1)⟩
def Img.zero : Img := ⟨fun _ _ => 0, fun _ _ => 0, 0⟩
def getV (f : Nat → Nat → Int) (a i : Int) : Int := if inA a i then f a.toNat i.toNat else 0
def getE (a i : Int) : Int := if inA a i then 0 else 110
def allL (f : Nat → Nat → Int) (a : Int) : List Int := (List.range (szA a).toNat).map fun i => f a.toNat i
theorem szA_cases (a : Int) : (a = 1 ∨ a = 2 ∨ a = 3 ∨ a = 4 ∨ a = 5 ∨ a = 6) ∨ (szA a = 0 ∧ a ≠ 1 ∧ a ≠ 2 ∧ a ≠ 3 ∧ a ≠ 4 ∧ a ≠ 5 ∧ a ≠ 6) := by
  unfold szA
  by_cases h1 : a = 1
  · exact .inl (.inl h1)
  by_cases h2 : a = 2
  · exact .inl (by simp [h2])
  by_cases h3 : a = 3
  · exact .inl (by simp [h3])
  by_cases h4 : a = 4
  · exact .inl (by simp [h4])
  by_cases h5 : a = 5
  · exact .inl (by simp [h5])
  by_cases h6 : a = 6
  · exact .inl (by simp [h6])
  exact .inr ⟨by simp [h1, h2, h3, h4, h5, h6], h1, h2, h3, h4, h5, h6⟩
theorem szA_range (a : Int) : 0 ≤ szA a ∧ szA a ≤ 128 := by
  rcases szA_cases a with h | h
  · rcases h with rfl | rfl | rfl | rfl | rfl | rfl <;> decide
  · omega
theorem offA_le (a : Int) : offA a + (szA a).toNat ≤ 576 := by
  rcases szA_cases a with h | h
  · rcases h with rfl | rfl | rfl | rfl | rfl | rfl <;> decide
  · rw [h.1]; unfold offA; split <;> (try omega); split <;> (try omega); split <;> (try omega); split <;> (try omega); split <;> omega
theorem inA_iff {a i : Int} : inA a i = true ↔ 0 ≤ i ∧ i < szA a := by simp [inA]
theorem inA_area {a i : Int} (h : inA a i = true) : (a = 1 ∨ a = 2 ∨ a = 3 ∨ a = 4 ∨ a = 5 ∨ a = 6) ∧ 0 ≤ i ∧ i < szA a := by
  obtain ⟨h1, h2⟩ := inA_iff.1 h
  rcases szA_cases a with h3 | h3
  · exact ⟨h3, h1, h2⟩
  · omega
theorem allL_length (f : Nat → Nat → Int) (a : Int) : (allL f a).length = (szA a).toNat := by simp [allL]
/-! ### the program's object -/
def arO (j : Nat) : Nat := if j < 128 then 1 else if j < 256 then 2 else if j < 384 then 3 else if j < 448 then 4 else if j < 512 then 5 else 6
def ixO (j : Nat) : Nat := if j < 384 then j % 128 else (j - 384) % 64
def pK (j : Nat) : IntKind := if j < 1152 then .u16 else if j = 1152 then .u64 else .i64
def pG (I : Img) (j : Nat) : Int := if j < 576 then I.o (arO j) (ixO j) else if j < 1152 then I.w (arO (j - 576)) (ixO (j - 576)) else if j = 1152 then I.n else 0
def imC (I : Img) : Chunk := .blk 1153 pK (pG I)
/-! ### the document's -/
def rK (j : Nat) : IntKind := if j < 1792 then .u16 else if j = 1792 then .u64 else .i64
def rG (I : Img) (j : Nat) : Int := if j < 896 then I.o (j / 128) (j % 128) else if j < 1792 then I.w ((j - 896) / 128) ((j - 896) % 128) else if j = 1792 then I.n else 0
def rmC (I : Img) : Chunk := .blk 1793 rK (rG I)
theorem beq_ne {a b : Nat} (h : a ≠ b) : Nat.beq a b = false := by
  rw [Bool.eq_false_iff]
  exact fun e => h (Nat.eq_of_beq_eq_true e)
theorem pK_16 {j : Nat} (h : j < 1152) : pK j = .u16 := by
  unfold pK
  rw [if_pos h]
theorem rK_16 {j : Nat} (h : j < 1792) : rK j = .u16 := by
  unfold rK
  rw [if_pos h]
theorem pos_o {a i : Int} (h : inA a i = true) : arO (offA a + i.toNat) = a.toNat ∧ ixO (offA a + i.toNat) = i.toNat ∧ offA a + i.toNat < 576 := by
  obtain ⟨h1, h2, h3⟩ := inA_area h
  obtain ⟨k, rfl⟩ := Int.eq_ofNat_of_zero_le h2
  simp only [Int.toNat_natCast]
  rcases h1 with rfl | rfl | rfl | rfl | rfl | rfl <;> simp [szA] at h3 <;> simp [offA, arO, ixO] <;> (repeat' split) <;> omega
/-- a cell's place tells the cell -/
theorem pos_inj {a i : Int} (h : inA a i = true) {j : Nat} (hj : j < 576) : (arO j = a.toNat ∧ ixO j = i.toNat) ↔ j = offA a + i.toNat := by
  obtain ⟨h1, h2, h3⟩ := inA_area h
  obtain ⟨k, rfl⟩ := Int.eq_ofNat_of_zero_le h2
  simp only [Int.toNat_natCast]
  rcases h1 with rfl | rfl | rfl | rfl | rfl | rfl <;> simp [szA] at h3 <;> simp [offA, arO, ixO] <;> (repeat' split) <;> omega
theorem upd_same {α : Type} {f : Nat → α} {p : Nat} {x : α} (h : f p = x) : upd f p x = f := by
  funext j
  unfold upd
  by_cases hj : j = p
  · subst hj; rw [Nat.beq_refl, cond_true, h]
  · rw [beq_ne hj, cond_false]
theorem upd_eq {α : Type} {f : Nat → α} {p : Nat} {x : α} (j : Nat) : upd f p x j = if j = p then x else f j := by
  unfold upd
  by_cases hj : j = p
  · subst hj; rw [Nat.beq_refl, cond_true, if_pos rfl]
  · rw [beq_ne hj, cond_false, if_neg hj]
theorem over_eq {α : Type} {f g : Nat → α} {o n : Nat} (j : Nat) : over f o n g j = if o ≤ j ∧ j < o + n then g (j - o) else f j := by
  unfold over
  rw [ble_eq', blt_eq]
  by_cases h1 : o ≤ j <;> by_cases h2 : j < o + n <;> simp [h1, h2]
theorem pK_upd {p : Nat} (h : p < 1152) : upd pK p .u16 = pK := upd_same (pK_16 h)
theorem rK_upd {p : Nat} (h : p < 1792) : upd rK p .u16 = rK := upd_same (rK_16 h)
theorem pG_put (I : Img) {a i v : Int} (h : inA a i = true) : upd (pG I) (0 + offA a + i.toNat) (bitV a v) = pG (I.put a i v) := by
  obtain ⟨h1, h2, h3⟩ := pos_o h
  funext j
  rw [upd_eq]
  simp only [pG, Img.put, putO, h, if_true, set2]
  by_cases hj : j < 576
  · have := pos_inj h hj
    rw [if_pos hj, if_pos hj]
    by_cases he : j = 0 + offA a + i.toNat
    · rw [if_pos he, if_pos (this.2 (by omega))]
    · rw [if_neg he, if_neg (fun e => he (by have := this.1 e; omega))]
  · rw [if_neg (by omega), if_neg hj, if_neg hj]
theorem pG_set (I : Img) {a i v : Int} (h : inA a i = true) : upd (pG I) (576 + offA a + i.toNat) (bitV a v) = pG (I.set a i v) := by
  obtain ⟨h1, h2, h3⟩ := pos_o h
  funext j
  rw [upd_eq]
  simp only [pG, Img.set, putO, h, if_true, set2]
  by_cases hj : j < 576
  · rw [if_neg (by omega), if_pos hj, if_pos hj]
  · rw [if_neg hj, if_neg hj]
    by_cases hj2 : j < 1152
    · have := pos_inj h (j := j - 576) (by omega)
      rw [if_pos hj2, if_pos hj2]
      by_cases he : j = 576 + offA a + i.toNat
      · rw [if_pos he, if_pos (this.2 (by omega))]
      · rw [if_neg he, if_neg (fun e => he (by have := this.1 e; omega))]
    · rw [if_neg (by omega), if_neg hj2, if_neg hj2]
theorem pG_o (I : Img) {a i : Int} (h : inA a i = true) : pG I (0 + offA a + i.toNat) = I.o a.toNat i.toNat := by
  obtain ⟨h1, h2, h3⟩ := pos_o h
  rw [Nat.zero_add]
  unfold pG
  rw [if_pos h3, h1, h2]
theorem pG_w (I : Img) {a i : Int} (h : inA a i = true) : pG I (576 + offA a + i.toNat) = I.w a.toNat i.toNat := by
  obtain ⟨h1, h2, h3⟩ := pos_o h
  unfold pG
  rw [if_neg (by omega), if_pos (by omega), show 576 + offA a + i.toNat - 576 = offA a + i.toNat by omega, h1, h2]
theorem rpos {a i : Int} (h : inA a i = true) : a.toNat ≤ 6 ∧ i.toNat < 128 := by
  obtain ⟨h1, h2, h3⟩ := inA_area h
  have := szA_range a
  omega
theorem rG_o (I : Img) {a i : Int} (h : inA a i = true) : rG I (0 + a.toNat * 128 + i.toNat) = I.o a.toNat i.toNat := by
  obtain ⟨h1, h2⟩ := rpos h
  unfold rG
  rw [if_pos (by omega), show (0 + a.toNat * 128 + i.toNat) / 128 = a.toNat by omega, show (0 + a.toNat * 128 + i.toNat) % 128 = i.toNat by omega]
theorem rG_w (I : Img) {a i : Int} (h : inA a i = true) : rG I (896 + a.toNat * 128 + i.toNat) = I.w a.toNat i.toNat := by
  obtain ⟨h1, h2⟩ := rpos h
  unfold rG
  rw [if_neg (by omega), if_pos (by omega), show (896 + a.toNat * 128 + i.toNat - 896) / 128 = a.toNat by omega, show (896 + a.toNat * 128 + i.toNat - 896) % 128 = i.toNat by omega]
theorem rG_put (I : Img) {a i v : Int} (h : inA a i = true) : upd (rG I) (0 + a.toNat * 128 + i.toNat) (bitV a v) = rG (I.put a i v) := by
  obtain ⟨h1, h2⟩ := rpos h
  funext j
  rw [upd_eq]
  simp only [rG, Img.put, putO, h, if_true, set2]
  by_cases hj : j < 896
  · rw [if_pos hj, if_pos hj]
    by_cases he : j = 0 + a.toNat * 128 + i.toNat
    · rw [if_pos he, if_pos (by omega)]
    · rw [if_neg he, if_neg (by omega)]
  · rw [if_neg (by omega), if_neg hj, if_neg hj]
theorem rG_set (I : Img) {a i v : Int} (h : inA a i = true) : upd (rG I) (896 + a.toNat * 128 + i.toNat) (bitV a v) = rG (I.set a i v) := by
  obtain ⟨h1, h2⟩ := rpos h
  funext j
  rw [upd_eq]
  simp only [rG, Img.set, putO, h, if_true, set2]
  by_cases hj : j < 896
  · rw [if_neg (by omega), if_pos hj, if_pos hj]
  · rw [if_neg hj, if_neg hj]
    by_cases hj2 : j < 1792
    · rw [if_pos hj2, if_pos hj2]
      by_cases he : j = 896 + a.toNat * 128 + i.toNat
      · rw [if_pos he, if_pos (by omega)]
      · rw [if_neg he, if_neg (by omega)]
    · rw [if_neg (by omega), if_neg hj2, if_neg hj2]
/-! ### calls on one block -/
/-- a function that changes one block of numbers and makes nothing -/
theorem blkCall {P : Program} {f h N : Nat} {k k' : Nat → IntKind} {g g' : Nat → Int} {args0 args : List AV} {v0 : AV} {s : St} {K : AV → St → Prop}
    (hT : Tr P f args0 ⟨1, [(0, some (.blk N k g))]⟩ fun v s => v = v0 ∧ s = ⟨1, [(0, some (.blk N k' g'))]⟩)
    (ha : args = renL (rnm [(0, some h)]) args0) (hok : hokL 1 (rnm [(0, some h)]) args0 = true) (hg : s.get h = some (.blk N k g))
    (kk : openS s fun n m => K (v0.ren (back (rnm [(0, some h)]) 1 n)) ⟨n, (h, some (.blk N k' g')) :: (h, none) :: m⟩) : Tr P f args s K := by
  refine Tr.call [(0, some h)] hT ha hok ⟨⟨trivial, rfl, hg⟩, trivial⟩ rfl fun v0' s0 ⟨hv, hs⟩ => ?_
  subst hv; subst hs
  rw [openS_eq] at kk
  exact kk
end Go.Proofs.Ytomodeliimnddaa
set_option linter.unusedVariables false
set_option linter.unusedSimpArgs false
namespace Go.Proofs.Ytomodeliimnddaa
open Go.Ab
/- (*sync/atomic.Uint64).Add -/
def a104 : ACode := (.seq (.reg [⟨(some 4), .mov (.c (.int .u64 0)), none, false⟩])
 (.seq (.reg [⟨(some 5), .mov (.t 0), none, false⟩, ⟨(some 6), .nilck (.t 5), none, false⟩, ⟨(some 7), .fld 0 1 false (.t 6), none, false⟩, ⟨(some 8), .mov (.t 1), none, false⟩, ⟨(some 9), .atom (.add .u64) [(.t 7), (.t 8)], none, false⟩, ⟨(some 4), .mov (.t 9), none, false⟩])
 .ret))
def r104 : List ARes := [.t 4]
theorem c104 : compF Try.prog Try.f104 = some (a104, r104) := by kernel_rfl

theorem b104 : hasBody Try.prog 104 = true := by kernel_rfl
theorem g104 : Try.prog.funcs[104]? = some Try.f104 := by kernel_rfl
/- (*sync/atomic.Uint64).Store -/
def a106 : ACode := (.reg [⟨(some 4), .mov (.t 0), none, false⟩, ⟨(some 5), .nilck (.t 4), none, false⟩, ⟨(some 6), .fld 0 1 false (.t 5), none, false⟩, ⟨(some 7), .mov (.t 1), none, false⟩, ⟨(some 8), .atom (.store .u64) [(.t 6), (.t 7)], none, false⟩])
def r106 : List ARes := []
theorem c106 : compF Try.prog Try.f106 = some (a106, r106) := by kernel_rfl

theorem b106 : hasBody Try.prog 106 = true := by kernel_rfl
theorem g106 : Try.prog.funcs[106]? = some Try.f106 := by kernel_rfl
/- (*sync/atomic.Uint64).Load -/
def a107 : ACode := (.seq (.reg [⟨(some 2), .mov (.c (.int .u64 0)), none, false⟩])
 (.seq (.reg [⟨(some 3), .mov (.t 0), none, false⟩, ⟨(some 4), .nilck (.t 3), none, false⟩, ⟨(some 5), .fld 0 1 false (.t 4), none, false⟩, ⟨(some 6), .atom (.load .u64) [(.t 5)], none, false⟩, ⟨(some 2), .mov (.t 6), none, false⟩])
 .ret))
def r107 : List ARes := [.t 2]
theorem c107 : compF Try.prog Try.f107 = some (a107, r107) := by kernel_rfl

theorem b107 : hasBody Try.prog 107 = true := by kernel_rfl
theorem g107 : Try.prog.funcs[107]? = some Try.f107 := by kernel_rfl
/- (*rung/image.buffer).area -/
def a102 : ACode := (.seq (.reg [⟨(some 4), .mov (.c .nils), none, false⟩])
 (.seq (.seq (.reg [⟨(some 5), .mov (.t 1), none, false⟩])
 (.block 0 (.seq (.reg [⟨(some 7), .bin .eql .other (.t 5) (.c (.int .i64 1)), none, false⟩, ⟨(some 6), .mov (.t 7), none, false⟩])
 (.cond (.t 6) (.seq (.reg [⟨(some 8), .mov (.t 0), none, false⟩, ⟨(some 9), .nilck (.t 8), none, false⟩, ⟨(some 10), .fld 0 128 true (.t 9), none, false⟩, ⟨(some 11), .slice (.arr 128 1) (.t 10) none none, none, false⟩, ⟨(some 4), .mov (.t 11), none, false⟩])
 .ret)
 (.seq (.reg [⟨(some 13), .bin .eql .other (.t 5) (.c (.int .i64 2)), none, false⟩, ⟨(some 12), .mov (.t 13), none, false⟩])
 (.cond (.t 12) (.seq (.reg [⟨(some 14), .mov (.t 0), none, false⟩, ⟨(some 15), .nilck (.t 14), none, false⟩, ⟨(some 16), .fld 128 128 true (.t 15), none, false⟩, ⟨(some 17), .slice (.arr 128 1) (.t 16) none none, none, false⟩, ⟨(some 4), .mov (.t 17), none, false⟩])
 .ret)
 (.seq (.reg [⟨(some 19), .bin .eql .other (.t 5) (.c (.int .i64 3)), none, false⟩, ⟨(some 18), .mov (.t 19), none, false⟩])
 (.cond (.t 18) (.seq (.reg [⟨(some 20), .mov (.t 0), none, false⟩, ⟨(some 21), .nilck (.t 20), none, false⟩, ⟨(some 22), .fld 256 128 true (.t 21), none, false⟩, ⟨(some 23), .slice (.arr 128 1) (.t 22) none none, none, false⟩, ⟨(some 4), .mov (.t 23), none, false⟩])
 .ret)
 (.seq (.reg [⟨(some 25), .bin .eql .other (.t 5) (.c (.int .i64 4)), none, false⟩, ⟨(some 24), .mov (.t 25), none, false⟩])
 (.cond (.t 24) (.seq (.reg [⟨(some 26), .mov (.t 0), none, false⟩, ⟨(some 27), .nilck (.t 26), none, false⟩, ⟨(some 28), .fld 384 64 true (.t 27), none, false⟩, ⟨(some 29), .slice (.arr 64 1) (.t 28) none none, none, false⟩, ⟨(some 4), .mov (.t 29), none, false⟩])
 .ret)
 (.seq (.reg [⟨(some 31), .bin .eql .other (.t 5) (.c (.int .i64 5)), none, false⟩, ⟨(some 30), .mov (.t 31), none, false⟩])
 (.cond (.t 30) (.seq (.reg [⟨(some 32), .mov (.t 0), none, false⟩, ⟨(some 33), .nilck (.t 32), none, false⟩, ⟨(some 34), .fld 448 64 true (.t 33), none, false⟩, ⟨(some 35), .slice (.arr 64 1) (.t 34) none none, none, false⟩, ⟨(some 4), .mov (.t 35), none, false⟩])
 .ret)
 (.seq (.reg [⟨(some 37), .bin .eql .other (.t 5) (.c (.int .i64 6)), none, false⟩, ⟨(some 36), .mov (.t 37), none, false⟩])
 (.cond (.t 36) (.seq (.reg [⟨(some 38), .mov (.t 0), none, false⟩, ⟨(some 39), .nilck (.t 38), none, false⟩, ⟨(some 40), .fld 512 64 true (.t 39), none, false⟩, ⟨(some 41), .slice (.arr 64 1) (.t 40) none none, none, false⟩, ⟨(some 4), .mov (.t 41), none, false⟩])
 .ret)
 .skip))))))))))))))
 (.seq (.reg [⟨(some 4), .mov (.c .nils), none, false⟩])
 .ret)))
def r102 : List ARes := [.t 4]
theorem c102 : compF Try.prog Try.f102 = some (a102, r102) := by kernel_rfl

theorem b102 : hasBody Try.prog 102 = true := by kernel_rfl
theorem g102 : Try.prog.funcs[102]? = some Try.f102 := by kernel_rfl
/- (*rung/image.buffer).get -/
def a108 : ACode := (.seq (.reg [⟨(some 6), .mov (.c (.int .u16 0)), none, false⟩, ⟨(some 7), .mov (.c (.int .i64 0)), none, false⟩])
 (.seq (.reg [⟨(some 9), .mov (.t 0), none, false⟩, ⟨(some 10), .mov (.t 1), none, false⟩, ⟨(some 11), .call 102 [(.t 9), (.t 10)], none, false⟩, ⟨(some 8), .mov (.t 11), none, false⟩])
 (.seq (.seq (.reg [⟨(some 12), .mov (.t 2), none, false⟩, ⟨(some 13), .bin .lss .other (.t 12) (.c (.int .i64 0)), none, false⟩, ⟨(some 14), .mov (.t 13), none, true⟩, ⟨(some 15), .mov (.t 2), (some (14, false)), false⟩, ⟨(some 16), .mov (.t 8), (some (14, false)), false⟩, ⟨(some 17), .len false (.t 16), (some (14, false)), false⟩, ⟨(some 18), .bin .geq .other (.t 15) (.t 17), (some (14, false)), false⟩, ⟨(some 19), .pick (.t 14) (.c (.bool true)) (.t 18), none, false⟩])
 (.cond (.t 19) (.seq (.reg [⟨(some 6), .mov (.c (.int .u16 0)), none, false⟩, ⟨(some 7), .mov (.c (.int .i64 110)), none, false⟩])
 .ret)
 .skip))
 (.seq (.reg [⟨(some 20), .mov (.t 8), none, false⟩, ⟨(some 21), .mov (.t 2), none, false⟩, ⟨(some 22), .idx 1 none false (.t 20) (.t 21), none, false⟩, ⟨(some 23), .load false 1 (.t 22), none, false⟩, ⟨(some 6), .mov (.t 23), none, false⟩, ⟨(some 7), .mov (.c (.int .i64 0)), none, false⟩])
 .ret))))
def r108 : List ARes := [.t 6, .t 7]
theorem c108 : compF Try.prog Try.f108 = some (a108, r108) := by kernel_rfl

theorem b108 : hasBody Try.prog 108 = true := by kernel_rfl
theorem g108 : Try.prog.funcs[108]? = some Try.f108 := by kernel_rfl
/- (*rung/image.buffer).put -/
def a98 : ACode := (.seq (.reg [⟨(some 8), .mov (.c (.int .i64 0)), none, false⟩])
 (.seq (.reg [⟨(some 10), .mov (.t 0), none, false⟩, ⟨(some 11), .mov (.t 1), none, false⟩, ⟨(some 12), .call 102 [(.t 10), (.t 11)], none, false⟩, ⟨(some 9), .mov (.t 12), none, false⟩])
 (.seq (.seq (.reg [⟨(some 13), .mov (.t 2), none, false⟩, ⟨(some 14), .bin .lss .other (.t 13) (.c (.int .i64 0)), none, false⟩, ⟨(some 15), .mov (.t 14), none, true⟩, ⟨(some 16), .mov (.t 2), (some (15, false)), false⟩, ⟨(some 17), .mov (.t 9), (some (15, false)), false⟩, ⟨(some 18), .len false (.t 17), (some (15, false)), false⟩, ⟨(some 19), .bin .geq .other (.t 16) (.t 18), (some (15, false)), false⟩, ⟨(some 20), .pick (.t 15) (.c (.bool true)) (.t 19), none, false⟩])
 (.cond (.t 20) (.seq (.reg [⟨(some 8), .mov (.c (.int .i64 110)), none, false⟩])
 .ret)
 .skip))
 (.seq (.seq (.reg [⟨(some 21), .mov (.t 1), none, false⟩, ⟨(some 22), .call 141 [(.t 21)], none, false⟩])
 (.cond (.t 22) (.reg [⟨(some 23), .mov (.t 3), none, false⟩, ⟨(some 24), .mn (.t 23) (.c (.int .u16 1)), none, false⟩, ⟨(some 3), .mov (.t 24), none, false⟩])
 .skip))
 (.seq (.reg [⟨(some 25), .mov (.t 9), none, false⟩, ⟨(some 26), .mov (.t 2), none, false⟩, ⟨(some 27), .mov (.t 3), none, false⟩, ⟨(some 28), .idx 1 none false (.t 25) (.t 26), none, false⟩, ⟨none, .store 1 (.t 28) (.t 27), none, false⟩])
 (.seq (.reg [⟨(some 8), .mov (.c (.int .i64 0)), none, false⟩])
 .ret))))))
def r98 : List ARes := [.t 8]
theorem c98 : compF Try.prog Try.f98 = some (a98, r98) := by kernel_rfl

theorem b98 : hasBody Try.prog 98 = true := by kernel_rfl
theorem g98 : Try.prog.funcs[98]? = some Try.f98 := by kernel_rfl
/- rung/addr.Bit -/
def a141 : ACode := (.seq (.reg [⟨(some 2), .mov (.c (.bool false)), none, false⟩])
 (.seq (.seq (.reg [⟨(some 3), .mov (.t 0), none, false⟩])
 (.block 0 (.seq (.seq (.reg [⟨(some 5), .bin .eql .other (.t 3) (.c (.int .i64 1)), none, false⟩, ⟨(some 4), .mov (.t 5), none, false⟩])
 (.cond (.t 4) .skip
 (.seq (.reg [⟨(some 6), .bin .eql .other (.t 3) (.c (.int .i64 2)), none, false⟩, ⟨(some 4), .mov (.t 6), none, false⟩])
 (.cond (.t 4) .skip
 (.reg [⟨(some 7), .bin .eql .other (.t 3) (.c (.int .i64 3)), none, false⟩, ⟨(some 4), .mov (.t 7), none, false⟩])))))
 (.cond (.t 4) (.seq (.reg [⟨(some 2), .mov (.c (.bool true)), none, false⟩])
 .ret)
 .skip))))
 (.seq (.reg [⟨(some 2), .mov (.c (.bool false)), none, false⟩])
 .ret)))
def r141 : List ARes := [.t 2]
theorem c141 : compF Try.prog Try.f141 = some (a141, r141) := by kernel_rfl

theorem b141 : hasBody Try.prog 141 = true := by kernel_rfl
theorem g141 : Try.prog.funcs[141]? = some Try.f141 := by kernel_rfl
/- (*rung/image.Image).Get -/
def a44 : ACode := (.seq (.reg [⟨(some 6), .mov (.c (.int .u16 0)), none, false⟩, ⟨(some 7), .mov (.c (.int .i64 0)), none, false⟩])
 (.seq (.reg [⟨(some 8), .mov (.t 0), none, false⟩, ⟨(some 9), .nilck (.t 8), none, false⟩, ⟨(some 10), .fld 0 576 true (.t 9), none, false⟩, ⟨(some 11), .mov (.t 1), none, false⟩, ⟨(some 12), .mov (.t 2), none, false⟩, ⟨(some 13), .call 108 [(.t 10), (.t 11), (.t 12)], none, false⟩, ⟨(some 14), .ext (.t 13) 0, none, false⟩, ⟨(some 15), .ext (.t 13) 1, none, false⟩, ⟨(some 6), .mov (.t 14), none, false⟩, ⟨(some 7), .mov (.t 15), none, false⟩])
 .ret))
def r44 : List ARes := [.t 6, .t 7]
theorem c44 : compF Try.prog Try.f44 = some (a44, r44) := by kernel_rfl

theorem b44 : hasBody Try.prog 44 = true := by kernel_rfl
theorem g44 : Try.prog.funcs[44]? = some Try.f44 := by kernel_rfl
/- (*rung/image.Image).Work -/
def a96 : ACode := (.seq (.reg [⟨(some 6), .mov (.c (.int .u16 0)), none, false⟩, ⟨(some 7), .mov (.c (.int .i64 0)), none, false⟩])
 (.seq (.reg [⟨(some 8), .mov (.t 0), none, false⟩, ⟨(some 9), .nilck (.t 8), none, false⟩, ⟨(some 10), .fld 576 576 true (.t 9), none, false⟩, ⟨(some 11), .mov (.t 1), none, false⟩, ⟨(some 12), .mov (.t 2), none, false⟩, ⟨(some 13), .call 108 [(.t 10), (.t 11), (.t 12)], none, false⟩, ⟨(some 14), .ext (.t 13) 0, none, false⟩, ⟨(some 15), .ext (.t 13) 1, none, false⟩, ⟨(some 6), .mov (.t 14), none, false⟩, ⟨(some 7), .mov (.t 15), none, false⟩])
 .ret))
def r96 : List ARes := [.t 6, .t 7]
theorem c96 : compF Try.prog Try.f96 = some (a96, r96) := by kernel_rfl

theorem b96 : hasBody Try.prog 96 = true := by kernel_rfl
theorem g96 : Try.prog.funcs[96]? = some Try.f96 := by kernel_rfl
/- (*rung/image.Image).Put -/
def a29 : ACode := (.seq (.reg [⟨(some 8), .mov (.c (.int .i64 0)), none, false⟩])
 (.seq (.reg [⟨(some 9), .mov (.t 0), none, false⟩, ⟨(some 10), .nilck (.t 9), none, false⟩, ⟨(some 11), .fld 0 576 true (.t 10), none, false⟩, ⟨(some 12), .mov (.t 1), none, false⟩, ⟨(some 13), .mov (.t 2), none, false⟩, ⟨(some 14), .mov (.t 3), none, false⟩, ⟨(some 15), .call 98 [(.t 11), (.t 12), (.t 13), (.t 14)], none, false⟩, ⟨(some 8), .mov (.t 15), none, false⟩])
 .ret))
def r29 : List ARes := [.t 8]
theorem c29 : compF Try.prog Try.f29 = some (a29, r29) := by kernel_rfl

theorem b29 : hasBody Try.prog 29 = true := by kernel_rfl
theorem g29 : Try.prog.funcs[29]? = some Try.f29 := by kernel_rfl
/- (*rung/image.Image).Set -/
def a33 : ACode := (.seq (.reg [⟨(some 8), .mov (.c (.int .i64 0)), none, false⟩])
 (.seq (.reg [⟨(some 9), .mov (.t 0), none, false⟩, ⟨(some 10), .nilck (.t 9), none, false⟩, ⟨(some 11), .fld 576 576 true (.t 10), none, false⟩, ⟨(some 12), .mov (.t 1), none, false⟩, ⟨(some 13), .mov (.t 2), none, false⟩, ⟨(some 14), .mov (.t 3), none, false⟩, ⟨(some 15), .call 98 [(.t 11), (.t 12), (.t 13), (.t 14)], none, false⟩, ⟨(some 8), .mov (.t 15), none, false⟩])
 .ret))
def r33 : List ARes := [.t 8]
theorem c33 : compF Try.prog Try.f33 = some (a33, r33) := by kernel_rfl

theorem b33 : hasBody Try.prog 33 = true := by kernel_rfl
theorem g33 : Try.prog.funcs[33]? = some Try.f33 := by kernel_rfl
/- (*rung/image.Image).Scans -/
def a97 : ACode := (.seq (.reg [⟨(some 2), .mov (.c (.int .u64 0)), none, false⟩])
 (.seq (.reg [⟨(some 3), .mov (.t 0), none, false⟩, ⟨(some 4), .nilck (.t 3), none, false⟩, ⟨(some 5), .fld 1152 1 true (.t 4), none, false⟩, ⟨(some 6), .call 107 [(.t 5)], none, false⟩, ⟨(some 2), .mov (.t 6), none, false⟩])
 .ret))
def r97 : List ARes := [.t 2]
theorem c97 : compF Try.prog Try.f97 = some (a97, r97) := by kernel_rfl

theorem b97 : hasBody Try.prog 97 = true := by kernel_rfl
theorem g97 : Try.prog.funcs[97]? = some Try.f97 := by kernel_rfl

/-- nothing but the value, and one block's new numbers -/
abbrev BlkT (f : Nat) (args : List AV) (N : Nat) (k : Nat → IntKind) (g : Nat → Int) (v0 : AV) (k' : Nat → IntKind) (g' : Nat → Int) : Prop :=
  Tr Try.prog f args ⟨1, [(0, some (.blk N k g))]⟩ fun v s => v = v0 ∧ s = ⟨1, [(0, some (.blk N k' g'))]⟩
theorem blkNorm {f N : Nat} {args : List AV} {k k' : Nat → IntKind} {g g' : Nat → Int} {v0 : AV} (h1 : v0.ren (rnm []) = v0) (h2 : v0.hok 1 (rnm []) = true)
    (h : Tr Try.prog f args ⟨1, [(0, some (.blk N k g))]⟩ fun v s => v = v0 ∧ s.get 0 = some (.blk N k' g')) : BlkT f args N k g v0 k' g' := by
  refine Tr.norm h fun v s ⟨hv, hs⟩ => ⟨v0, ⟨1, [(0, some (.blk N k' g'))]⟩, ?_, rfl, rfl⟩
  subst hv
  exact ⟨[], rfl, rfl, rfl, ⟨⟨h1.symm, h2⟩, trivial⟩, ⟨⟨trivial, rfl, hs⟩, trivial⟩⟩
theorem load_tr {off N : Nat} {k : Nat → IntKind} {g : Nat → Int} (hk : k off = .u64) (ho : off < N) : BlkT 107 [.ptr 0 off] N k g (.int .u64 (g off)) k g := by
  refine trF g107 b107 c107 ?_
  conv => whnf
  refine condT (by simp [hk]; omega) ?_
  conv => whnf
  exact ⟨by rw [Nat.add_zero, hk], rfl⟩
theorem add_tr {off N : Nat} {k : Nat → IntKind} {g : Nat → Int} {d : Int} (hk : k off = .u64) (ho : off < N) : BlkT 104 [.ptr 0 off, .int .u64 d] N k g (.int .u64 (IntKind.u64.wrap (g off + d))) k (upd g off (IntKind.u64.wrap (g off + d))) := by
  refine blkNorm rfl rfl (trF g104 b104 c104 ?_)
  conv => whnf
  refine condT (by simp [hk]; omega) ?_
  conv => whnf
  refine ⟨by rw [Nat.add_zero, hk], ?_⟩
  show some (Chunk.blk N (upd k off (k off)) (upd g off ((k off).wrap (g off + d)))) = _
  rw [hk, upd_same hk]
theorem store_tr {off N : Nat} {k : Nat → IntKind} {g : Nat → Int} {d : Int} (hk : k off = .u64) (ho : off < N) : BlkT 106 [.ptr 0 off, .int .u64 d] N k g (.tup []) k (upd g off d) := by
  refine blkNorm rfl rfl (trF g106 b106 c106 ?_)
  conv => whnf
  refine condT (by simp [hk]; omega) ?_
  conv => whnf
  refine ⟨rfl, ?_⟩
  show some (Chunk.blk N (upd k off .u64) (upd g off d)) = _
  rw [upd_same hk]
/-- an area: a slice of the block, or none -/
theorem area_sl (a : Int) (base N : Nat) (k : Nat → IntKind) (g : Nat → Int) (hb : base + 576 ≤ N) (ha : a = 1 ∨ a = 2 ∨ a = 3 ∨ a = 4 ∨ a = 5 ∨ a = 6) :
    BlkT 102 [.ptr 0 base, .int .i64 a] N k g (.sl 1 0 (base + offA a) (szA a).toNat) k g := by
  rcases ha with rfl | rfl | rfl | rfl | rfl | rfl
  all_goals
    refine trF g102 b102 c102 ?_
    conv => whnf
    refine condT (by simp [Chunk.size]; omega) ?_
    conv => whnf
    exact ⟨rfl, rfl⟩
theorem area_nil (a : Int) (base N : Nat) (k : Nat → IntKind) (g : Nat → Int) (ha : a ≠ 1 ∧ a ≠ 2 ∧ a ≠ 3 ∧ a ≠ 4 ∧ a ≠ 5 ∧ a ≠ 6) :
    BlkT 102 [.ptr 0 base, .int .i64 a] N k g .nils k g := by
  obtain ⟨h1, h2, h3, h4, h5, h6⟩ := ha
  refine trF g102 b102 c102 ?_
  conv => whnf
  refine condN (by simpa using h1) ?_
  conv => whnf
  refine condN (by simpa using h2) ?_
  conv => whnf
  refine condN (by simpa using h3) ?_
  conv => whnf
  refine condN (by simpa using h4) ?_
  conv => whnf
  refine condN (by simpa using h5) ?_
  conv => whnf
  refine condN (by simpa using h6) ?_
  conv => whnf
  exact ⟨rfl, rfl⟩
theorem bit_ev (a : Int) : Ev Try.prog 141 [.int .i64 a] (.bool (bitP a)) := by
  refine ⟨rfl, trF g141 b141 c141 ?_⟩
  conv => whnf
  unfold bitP
  repeat' (first
    | (refine condY (by assumption) ?_; conv => whnf)
    | (refine condN (by assumption) ?_; conv => whnf)
    | (refine condF (fun h => ?_) (fun h => ?_) <;> conv => whnf))
  all_goals exact ⟨by simp_all, rfl⟩
/-- a value in a buffer -/
theorem bget_in (a i : Int) (base N : Nat) (k : Nat → IntKind) (g : Nat → Int) (hb : base + 576 ≤ N) (h : inA a i = true) :
    BlkT 108 [.ptr 0 base, .int .i64 a, .int .i64 i] N k g (.tup [.int (k (base + offA a + i.toNat)) (g (base + offA a + i.toNat)), .int .i64 0]) k g := by
  obtain ⟨h1, h2, h3⟩ := inA_area h
  have h4 := offA_le a
  refine blkNorm rfl rfl (trF g108 b108 c108 ?_)
  conv => whnf
  refine blkCall (area_sl a base N k g hb h1) rfl rfl rfl ?_
  conv => whnf
  refine condN (by simp; omega) ?_
  conv => whnf
  refine condN (by simp; omega) ?_
  conv => whnf
  refine condT (by simp [Chunk.ld, Chunk.size, AV.flat, AV.one]; omega) ?_
  conv => whnf
  refine condT (by simp [Chunk.ld, Chunk.size, AV.flat, AV.one]; omega) ?_
  conv => whnf
  exact ⟨by rw [Nat.mul_one], rfl⟩
theorem bget_no (a i : Int) (base N : Nat) (k : Nat → IntKind) (g : Nat → Int) (hb : base + 576 ≤ N) (h : inA a i = false) :
    BlkT 108 [.ptr 0 base, .int .i64 a, .int .i64 i] N k g (.tup [.int .u16 0, .int .i64 110]) k g := by
  have h' : ¬ (0 ≤ i ∧ i < szA a) := fun e => by rw [inA_iff.2 e] at h; cases h
  refine blkNorm rfl rfl (trF g108 b108 c108 ?_)
  conv => whnf
  rcases szA_cases a with ha | ha
  · refine blkCall (area_sl a base N k g hb ha) rfl rfl rfl ?_
    conv => whnf
    refine condF (fun h1 => ?_) (fun h1 => ?_)
    · conv => whnf
      refine condY (by simp at h1 ⊢; omega) ?_
      conv => whnf
      exact ⟨rfl, rfl⟩
    · conv => whnf
      exact ⟨rfl, rfl⟩
  · refine blkCall (area_nil a base N k g ha.2) rfl rfl rfl ?_
    conv => whnf
    refine condF (fun h1 => ?_) (fun h1 => ?_)
    · conv => whnf
      refine condY (by simp at h1 ⊢; omega) ?_
      conv => whnf
      exact ⟨rfl, rfl⟩
    · conv => whnf
      exact ⟨rfl, rfl⟩
/-- a value set in a buffer -/
theorem bput_in (a i v : Int) (base N : Nat) (k : Nat → IntKind) (g : Nat → Int) (hb : base + 576 ≤ N) (h : inA a i = true) (hv : 0 ≤ v) (hk : k (base + offA a + i.toNat) = .u16) :
    BlkT 98 [.ptr 0 base, .int .i64 a, .int .i64 i, .int .u16 v] N k g (.int .i64 0) k (upd g (base + offA a + i.toNat) (bitV a v)) := by
  obtain ⟨h1, h2, h3⟩ := inA_area h
  have h4 := offA_le a
  refine blkNorm rfl rfl (trF g98 b98 c98 ?_)
  conv => whnf
  refine blkCall (area_sl a base N k g hb h1) rfl rfl rfl ?_
  conv => whnf
  refine condN (by simp; omega) ?_
  conv => whnf
  refine condN (by simp; omega) ?_
  conv => whnf
  refine Ev.call (bit_ev a) ?_
  conv => whnf
  refine condF (fun h5 => ?_) (fun h5 => ?_)
  all_goals
    conv => whnf
    refine condT (by simp [Chunk.ld, Chunk.size, AV.flat, AV.one]; omega) ?_
    conv => whnf
    refine condT (by simp [Chunk.ld, Chunk.size, AV.flat, AV.one]; omega) ?_
    conv => whnf
    refine ⟨rfl, ?_⟩
  · show some (Chunk.blk N (upd k (base + offA a + i.toNat * 1) .u16) (upd g (base + offA a + i.toNat * 1) v)) = _
    rw [Nat.mul_one, upd_same hk, bitV, h5]
    simp
  · show some (Chunk.blk N (upd k (base + offA a + i.toNat * 1) .u16) (upd g (base + offA a + i.toNat * 1) (if 1 < v then 1 else v))) = _
    rw [Nat.mul_one, upd_same hk, bitV, h5]
    have : (if 1 < v then 1 else v) = if (true && v != 0) = true then 1 else v := by
      by_cases h6 : v = 0
      · subst h6; rfl
      · by_cases h7 : 1 < v
        · rw [if_pos h7]; simp [h6]
        · have : v = 1 := by omega
          subst this; rfl
    rw [this]
theorem bput_no (a i v : Int) (base N : Nat) (k : Nat → IntKind) (g : Nat → Int) (hb : base + 576 ≤ N) (h : inA a i = false) :
    BlkT 98 [.ptr 0 base, .int .i64 a, .int .i64 i, .int .u16 v] N k g (.int .i64 110) k g := by
  have h' : ¬ (0 ≤ i ∧ i < szA a) := fun e => by rw [inA_iff.2 e] at h; cases h
  refine blkNorm rfl rfl (trF g98 b98 c98 ?_)
  conv => whnf
  rcases szA_cases a with ha | ha
  · refine blkCall (area_sl a base N k g hb ha) rfl rfl rfl ?_
    conv => whnf
    refine condF (fun h1 => ?_) (fun h1 => ?_)
    · conv => whnf
      refine condY (by simp at h1 ⊢; omega) ?_
      conv => whnf
      exact ⟨rfl, rfl⟩
    · conv => whnf
      exact ⟨rfl, rfl⟩
  · refine blkCall (area_nil a base N k g ha.2) rfl rfl rfl ?_
    conv => whnf
    refine condF (fun h1 => ?_) (fun h1 => ?_)
    · conv => whnf
      refine condY (by simp at h1 ⊢; omega) ?_
      conv => whnf
      exact ⟨rfl, rfl⟩
    · conv => whnf
      exact ⟨rfl, rfl⟩
/-! ### of an image -/
abbrev ImT (f : Nat) (args : List AV) (I : Img) (v0 : AV) (J : Img) : Prop :=
  Tr Try.prog f args ⟨1, [(0, some (imC I))]⟩ fun v s => v = v0 ∧ s = ⟨1, [(0, some (imC J))]⟩
theorem Get_tr (I : Img) (a i : Int) : ImT 44 [.ptr 0 0, .int .i64 a, .int .i64 i] I (.tup [.int .u16 (getV I.o a i), .int .i64 (getE a i)]) I := by
  refine blkNorm rfl rfl (trF g44 b44 c44 ?_)
  conv => whnf
  cases h : inA a i with
  | true =>
    refine blkCall (bget_in a i 0 1153 pK (pG I) (by decide) h) rfl rfl rfl ?_
    conv => whnf
    refine ⟨?_, rfl⟩
    have h4 := offA_le a
    obtain ⟨h1, h2, h3⟩ := inA_area h
    rw [pG_o I h, pK_16 (by omega), getV, getE, h]; rfl
  | false =>
    refine blkCall (bget_no a i 0 1153 pK (pG I) (by decide) h) rfl rfl rfl ?_
    conv => whnf
    refine ⟨?_, rfl⟩
    rw [getV, getE, h]; rfl
theorem Work_tr (I : Img) (a i : Int) : ImT 96 [.ptr 0 0, .int .i64 a, .int .i64 i] I (.tup [.int .u16 (getV I.w a i), .int .i64 (getE a i)]) I := by
  refine blkNorm rfl rfl (trF g96 b96 c96 ?_)
  conv => whnf
  cases h : inA a i with
  | true =>
    refine blkCall (bget_in a i 576 1153 pK (pG I) (by decide) h) rfl rfl rfl ?_
    conv => whnf
    refine ⟨?_, rfl⟩
    have h4 := offA_le a
    obtain ⟨h1, h2, h3⟩ := inA_area h
    rw [pG_w I h, pK_16 (by omega), getV, getE, h]; rfl
  | false =>
    refine blkCall (bget_no a i 576 1153 pK (pG I) (by decide) h) rfl rfl rfl ?_
    conv => whnf
    refine ⟨?_, rfl⟩
    rw [getV, getE, h]; rfl
theorem Put_tr (I : Img) (a i v : Int) (hv : 0 ≤ v) : ImT 29 [.ptr 0 0, .int .i64 a, .int .i64 i, .int .u16 v] I (.int .i64 (getE a i)) (I.put a i v) := by
  refine blkNorm rfl rfl (trF g29 b29 c29 ?_)
  conv => whnf
  cases h : inA a i with
  | true =>
    have h4 := offA_le a
    obtain ⟨h1, h2, h3⟩ := inA_area h
    refine blkCall (bput_in a i v 0 1153 pK (pG I) (by decide) h hv (pK_16 (by omega))) rfl rfl rfl ?_
    conv => whnf
    refine ⟨by rw [getE, h]; rfl, ?_⟩
    show some (Chunk.blk 1153 pK (upd (pG I) (0 + offA a + i.toNat) (bitV a v))) = _
    rw [pG_put I h]
  | false =>
    refine blkCall (bput_no a i v 0 1153 pK (pG I) (by decide) h) rfl rfl rfl ?_
    conv => whnf
    refine ⟨by rw [getE, h]; rfl, ?_⟩
    show some (imC I) = some (imC (I.put a i v))
    rw [show I.put a i v = I by simp [Img.put, putO, h]]
theorem Set_tr (I : Img) (a i v : Int) (hv : 0 ≤ v) : ImT 33 [.ptr 0 0, .int .i64 a, .int .i64 i, .int .u16 v] I (.int .i64 (getE a i)) (I.set a i v) := by
  refine blkNorm rfl rfl (trF g33 b33 c33 ?_)
  conv => whnf
  cases h : inA a i with
  | true =>
    have h4 := offA_le a
    obtain ⟨h1, h2, h3⟩ := inA_area h
    refine blkCall (bput_in a i v 576 1153 pK (pG I) (by decide) h hv (pK_16 (by omega))) rfl rfl rfl ?_
    conv => whnf
    refine ⟨by rw [getE, h]; rfl, ?_⟩
    show some (Chunk.blk 1153 pK (upd (pG I) (576 + offA a + i.toNat) (bitV a v))) = _
    rw [pG_set I h]
  | false =>
    refine blkCall (bput_no a i v 576 1153 pK (pG I) (by decide) h) rfl rfl rfl ?_
    conv => whnf
    refine ⟨by rw [getE, h]; rfl, ?_⟩
    show some (imC I) = some (imC (I.set a i v))
    rw [show I.set a i v = I by simp [Img.set, putO, h]]
theorem Scans_tr (I : Img) : ImT 97 [.ptr 0 0] I (.int .u64 I.n) I := by
  refine blkNorm rfl rfl (trF g97 b97 c97 ?_)
  conv => whnf
  refine blkCall (load_tr (off := 1152) (N := 1153) (k := pK) (g := pG I) rfl (by decide)) rfl rfl rfl ?_
  conv => whnf
  exact ⟨rfl, rfl⟩
end Go.Proofs.Ytomodeliimnddaa
set_option linter.unusedVariables false
set_option linter.unusedSimpArgs false
namespace Go.Proofs.Ytomodeliimnddaa
open Go.Ab
/- rung/rungref11.is -/
def a99 : ACode := (.seq (.reg [⟨(some 4), .mov (.c (.bool false)), none, false⟩])
 (.seq (.reg [⟨(some 5), .mov (.t 1), none, false⟩, ⟨(some 6), .bin .geq .other (.t 5) (.c (.int .i64 0)), none, false⟩, ⟨(some 7), .mov (.t 6), none, true⟩, ⟨(some 8), .mov (.t 1), (some (7, true)), false⟩, ⟨(some 9), .mov (.t 0), (some (7, true)), false⟩, ⟨(some 10), .call 103 [(.t 9)], (some (7, true)), false⟩, ⟨(some 11), .bin .lss .other (.t 8) (.t 10), (some (7, true)), false⟩, ⟨(some 12), .pick (.t 7) (.t 11) (.c (.bool false)), none, false⟩, ⟨(some 4), .mov (.t 12), none, false⟩])
 .ret))
def r99 : List ARes := [.t 4]
theorem c99 : compF Try.prog Try.f99 = some (a99, r99) := by kernel_rfl

theorem b99 : hasBody Try.prog 99 = true := by kernel_rfl
theorem g99 : Try.prog.funcs[99]? = some Try.f99 := by kernel_rfl
/- rung/rungref11.bit -/
def a100 : ACode := (.seq (.reg [⟨(some 4), .mov (.c (.int .u16 0)), none, false⟩])
 (.seq (.seq (.reg [⟨(some 5), .mov (.t 0), none, false⟩, ⟨(some 6), .call 142 [(.t 5)], none, false⟩, ⟨(some 7), .mov (.t 6), none, true⟩, ⟨(some 8), .mov (.t 1), (some (7, true)), false⟩, ⟨(some 9), .bin .neq .other (.t 8) (.c (.int .u16 0)), (some (7, true)), false⟩, ⟨(some 10), .pick (.t 7) (.t 9) (.c (.bool false)), none, false⟩])
 (.cond (.t 10) (.seq (.reg [⟨(some 4), .mov (.c (.int .u16 1)), none, false⟩])
 .ret)
 .skip))
 (.seq (.reg [⟨(some 11), .mov (.t 1), none, false⟩, ⟨(some 4), .mov (.t 11), none, false⟩])
 .ret)))
def r100 : List ARes := [.t 4]
theorem c100 : compF Try.prog Try.f100 = some (a100, r100) := by kernel_rfl

theorem b100 : hasBody Try.prog 100 = true := by kernel_rfl
theorem g100 : Try.prog.funcs[100]? = some Try.f100 := by kernel_rfl
/- rung/rungref10.Size -/
def a103 : ACode := (.seq (.reg [⟨(some 2), .mov (.c (.int .i64 0)), none, false⟩])
 (.seq (.seq (.reg [⟨(some 3), .mov (.t 0), none, false⟩])
 (.block 0 (.seq (.seq (.reg [⟨(some 5), .bin .eql .other (.t 3) (.c (.int .i64 1)), none, false⟩, ⟨(some 4), .mov (.t 5), none, false⟩])
 (.cond (.t 4) .skip
 (.seq (.reg [⟨(some 6), .bin .eql .other (.t 3) (.c (.int .i64 2)), none, false⟩, ⟨(some 4), .mov (.t 6), none, false⟩])
 (.cond (.t 4) .skip
 (.reg [⟨(some 7), .bin .eql .other (.t 3) (.c (.int .i64 3)), none, false⟩, ⟨(some 4), .mov (.t 7), none, false⟩])))))
 (.cond (.t 4) (.seq (.reg [⟨(some 2), .mov (.c (.int .i64 128)), none, false⟩])
 .ret)
 (.seq (.seq (.reg [⟨(some 9), .bin .eql .other (.t 3) (.c (.int .i64 4)), none, false⟩, ⟨(some 8), .mov (.t 9), none, false⟩])
 (.cond (.t 8) .skip
 (.seq (.reg [⟨(some 10), .bin .eql .other (.t 3) (.c (.int .i64 5)), none, false⟩, ⟨(some 8), .mov (.t 10), none, false⟩])
 (.cond (.t 8) .skip
 (.reg [⟨(some 11), .bin .eql .other (.t 3) (.c (.int .i64 6)), none, false⟩, ⟨(some 8), .mov (.t 11), none, false⟩])))))
 (.cond (.t 8) (.seq (.reg [⟨(some 2), .mov (.c (.int .i64 64)), none, false⟩])
 .ret)
 .skip))))))
 (.seq (.reg [⟨(some 2), .mov (.c (.int .i64 0)), none, false⟩])
 .ret)))
def r103 : List ARes := [.t 2]
theorem c103 : compF Try.prog Try.f103 = some (a103, r103) := by kernel_rfl

theorem b103 : hasBody Try.prog 103 = true := by kernel_rfl
theorem g103 : Try.prog.funcs[103]? = some Try.f103 := by kernel_rfl
/- rung/rungref10.Bit -/
def a142 : ACode := (.seq (.reg [⟨(some 2), .mov (.c (.bool false)), none, false⟩])
 (.seq (.reg [⟨(some 3), .mov (.t 0), none, false⟩, ⟨(some 4), .bin .eql .other (.t 3) (.c (.int .i64 1)), none, false⟩, ⟨(some 5), .mov (.t 4), none, true⟩, ⟨(some 6), .mov (.t 0), (some (5, false)), false⟩, ⟨(some 7), .bin .eql .other (.t 6) (.c (.int .i64 2)), (some (5, false)), false⟩, ⟨(some 8), .pick (.t 5) (.c (.bool true)) (.t 7), none, false⟩, ⟨(some 9), .mov (.t 8), none, true⟩, ⟨(some 10), .mov (.t 0), (some (9, false)), false⟩, ⟨(some 11), .bin .eql .other (.t 10) (.c (.int .i64 3)), (some (9, false)), false⟩, ⟨(some 12), .pick (.t 9) (.c (.bool true)) (.t 11), none, false⟩, ⟨(some 2), .mov (.t 12), none, false⟩])
 .ret))
def r142 : List ARes := [.t 2]
theorem c142 : compF Try.prog Try.f142 = some (a142, r142) := by kernel_rfl

theorem b142 : hasBody Try.prog 142 = true := by kernel_rfl
theorem g142 : Try.prog.funcs[142]? = some Try.f142 := by kernel_rfl
/- (*rung/rungref11.Image).Get -/
def a45 : ACode := (.seq (.reg [⟨(some 6), .mov (.c (.int .u16 0)), none, false⟩, ⟨(some 7), .mov (.c (.int .i64 0)), none, false⟩])
 (.seq (.seq (.reg [⟨(some 8), .mov (.t 1), none, false⟩, ⟨(some 9), .mov (.t 2), none, false⟩, ⟨(some 10), .call 99 [(.t 8), (.t 9)], none, false⟩, ⟨(some 11), .un .not (.t 10), none, false⟩])
 (.cond (.t 11) (.seq (.reg [⟨(some 6), .mov (.c (.int .u16 0)), none, false⟩, ⟨(some 7), .mov (.c (.int .i64 110)), none, false⟩])
 .ret)
 .skip))
 (.seq (.reg [⟨(some 12), .mov (.t 0), none, false⟩, ⟨(some 13), .mov (.t 1), none, false⟩, ⟨(some 14), .mov (.t 2), none, false⟩, ⟨(some 15), .nilck (.t 12), none, false⟩, ⟨(some 16), .fld 0 896 true (.t 15), none, false⟩, ⟨(some 17), .idx 128 (some 7) true (.t 16) (.t 13), none, false⟩, ⟨(some 18), .idx 1 (some 128) false (.t 17) (.t 14), none, false⟩, ⟨(some 19), .load false 1 (.t 18), none, false⟩, ⟨(some 6), .mov (.t 19), none, false⟩, ⟨(some 7), .mov (.c (.int .i64 0)), none, false⟩])
 .ret)))
def r45 : List ARes := [.t 6, .t 7]
theorem c45 : compF Try.prog Try.f45 = some (a45, r45) := by kernel_rfl

theorem b45 : hasBody Try.prog 45 = true := by kernel_rfl
theorem g45 : Try.prog.funcs[45]? = some Try.f45 := by kernel_rfl
/- (*rung/rungref11.Image).Get2 -/
def a105 : ACode := (.seq (.reg [⟨(some 6), .mov (.c (.int .u16 0)), none, false⟩, ⟨(some 7), .mov (.c (.int .i64 0)), none, false⟩])
 (.seq (.seq (.reg [⟨(some 8), .mov (.t 1), none, false⟩, ⟨(some 9), .mov (.t 2), none, false⟩, ⟨(some 10), .call 99 [(.t 8), (.t 9)], none, false⟩, ⟨(some 11), .un .not (.t 10), none, false⟩])
 (.cond (.t 11) (.seq (.reg [⟨(some 6), .mov (.c (.int .u16 0)), none, false⟩, ⟨(some 7), .mov (.c (.int .i64 110)), none, false⟩])
 .ret)
 .skip))
 (.seq (.reg [⟨(some 12), .mov (.t 0), none, false⟩, ⟨(some 13), .mov (.t 1), none, false⟩, ⟨(some 14), .mov (.t 2), none, false⟩, ⟨(some 15), .nilck (.t 12), none, false⟩, ⟨(some 16), .fld 896 896 true (.t 15), none, false⟩, ⟨(some 17), .idx 128 (some 7) true (.t 16) (.t 13), none, false⟩, ⟨(some 18), .idx 1 (some 128) false (.t 17) (.t 14), none, false⟩, ⟨(some 19), .load false 1 (.t 18), none, false⟩, ⟨(some 6), .mov (.t 19), none, false⟩, ⟨(some 7), .mov (.c (.int .i64 0)), none, false⟩])
 .ret)))
def r105 : List ARes := [.t 6, .t 7]
theorem c105 : compF Try.prog Try.f105 = some (a105, r105) := by kernel_rfl

theorem b105 : hasBody Try.prog 105 = true := by kernel_rfl
theorem g105 : Try.prog.funcs[105]? = some Try.f105 := by kernel_rfl
/- (*rung/rungref11.Image).Put -/
def a30 : ACode := (.seq (.reg [⟨(some 8), .mov (.c (.int .i64 0)), none, false⟩])
 (.seq (.seq (.reg [⟨(some 9), .mov (.t 1), none, false⟩, ⟨(some 10), .mov (.t 2), none, false⟩, ⟨(some 11), .call 99 [(.t 9), (.t 10)], none, false⟩, ⟨(some 12), .un .not (.t 11), none, false⟩])
 (.cond (.t 12) (.seq (.reg [⟨(some 8), .mov (.c (.int .i64 110)), none, false⟩])
 .ret)
 .skip))
 (.seq (.draw [⟨0, ⟨(some 13), .mov (.t 0), none, false⟩, false, [], []⟩, ⟨1, ⟨(some 14), .mov (.t 1), none, false⟩, false, [], []⟩, ⟨2, ⟨(some 15), .mov (.t 2), none, false⟩, false, [], []⟩, ⟨3, ⟨(some 16), .mov (.t 1), none, false⟩, false, [], []⟩, ⟨4, ⟨(some 17), .mov (.t 3), none, false⟩, false, [], []⟩, ⟨6, ⟨(some 19), .nilck (.t 13), none, false⟩, false, [], []⟩, ⟨7, ⟨(some 20), .fld 0 896 true (.t 19), none, false⟩, false, [], []⟩, ⟨8, ⟨(some 21), .idx 128 (some 7) true (.t 20) (.t 14), none, false⟩, false, [], []⟩, ⟨5, ⟨(some 18), .call 100 [(.t 16), (.t 17)], none, false⟩, true, [], []⟩, ⟨9, ⟨(some 22), .idx 1 (some 128) false (.t 21) (.t 15), none, false⟩, false, [], []⟩, ⟨10, ⟨none, .store 1 (.t 22) (.t 18), none, false⟩, true, [], []⟩])
 (.seq (.reg [⟨(some 8), .mov (.c (.int .i64 0)), none, false⟩])
 .ret))))
def r30 : List ARes := [.t 8]
theorem c30 : compF Try.prog Try.f30 = some (a30, r30) := by kernel_rfl

theorem b30 : hasBody Try.prog 30 = true := by kernel_rfl
theorem g30 : Try.prog.funcs[30]? = some Try.f30 := by kernel_rfl
/- (*rung/rungref11.Image).Set -/
def a34 : ACode := (.seq (.reg [⟨(some 8), .mov (.c (.int .i64 0)), none, false⟩])
 (.seq (.seq (.reg [⟨(some 9), .mov (.t 1), none, false⟩, ⟨(some 10), .mov (.t 2), none, false⟩, ⟨(some 11), .call 99 [(.t 9), (.t 10)], none, false⟩, ⟨(some 12), .un .not (.t 11), none, false⟩])
 (.cond (.t 12) (.seq (.reg [⟨(some 8), .mov (.c (.int .i64 110)), none, false⟩])
 .ret)
 .skip))
 (.seq (.draw [⟨0, ⟨(some 13), .mov (.t 0), none, false⟩, false, [], []⟩, ⟨1, ⟨(some 14), .mov (.t 1), none, false⟩, false, [], []⟩, ⟨2, ⟨(some 15), .mov (.t 2), none, false⟩, false, [], []⟩, ⟨3, ⟨(some 16), .mov (.t 1), none, false⟩, false, [], []⟩, ⟨4, ⟨(some 17), .mov (.t 3), none, false⟩, false, [], []⟩, ⟨6, ⟨(some 19), .nilck (.t 13), none, false⟩, false, [], []⟩, ⟨7, ⟨(some 20), .fld 896 896 true (.t 19), none, false⟩, false, [], []⟩, ⟨8, ⟨(some 21), .idx 128 (some 7) true (.t 20) (.t 14), none, false⟩, false, [], []⟩, ⟨5, ⟨(some 18), .call 100 [(.t 16), (.t 17)], none, false⟩, true, [], []⟩, ⟨9, ⟨(some 22), .idx 1 (some 128) false (.t 21) (.t 15), none, false⟩, false, [], []⟩, ⟨10, ⟨none, .store 1 (.t 22) (.t 18), none, false⟩, true, [], []⟩])
 (.seq (.reg [⟨(some 8), .mov (.c (.int .i64 0)), none, false⟩])
 .ret))))
def r34 : List ARes := [.t 8]
theorem c34 : compF Try.prog Try.f34 = some (a34, r34) := by kernel_rfl

theorem b34 : hasBody Try.prog 34 = true := by kernel_rfl
theorem g34 : Try.prog.funcs[34]? = some Try.f34 := by kernel_rfl

theorem rsize_ev (a : Int) : Ev Try.prog 103 [.int .i64 a] (.int .i64 (szA a)) := by
  refine ⟨rfl, trF g103 b103 c103 ?_⟩
  conv => whnf
  repeat' (first
    | (refine condY (by assumption) ?_; conv => whnf)
    | (refine condN (by assumption) ?_; conv => whnf)
    | (refine condF (fun h => ?_) (fun h => ?_) <;> conv => whnf))
  all_goals exact ⟨by unfold szA; simp_all, rfl⟩
theorem rbit_ev (a : Int) : Ev Try.prog 142 [.int .i64 a] (.bool (bitP a)) := by
  refine ⟨rfl, trF g142 b142 c142 ?_⟩
  conv => whnf
  unfold bitP
  repeat' (first
    | (refine condY (by assumption) ?_; conv => whnf)
    | (refine condN (by assumption) ?_; conv => whnf)
    | (refine condF (fun h => ?_) (fun h => ?_) <;> conv => whnf))
  all_goals exact ⟨by simp_all, rfl⟩
theorem is_ev (a i : Int) : Ev Try.prog 99 [.int .i64 a, .int .i64 i] (.bool (inA a i)) := by
  refine ⟨rfl, trF g99 b99 c99 ?_⟩
  conv => whnf
  refine condF (fun h => ?_) (fun h => ?_)
  · conv => whnf
    exact ⟨by have h : decide (0 ≤ i) = false := h
              rw [inA, h]; rfl, rfl⟩
  · conv => whnf
    refine Ev.call (rsize_ev a) ?_
    conv => whnf
    exact ⟨by have h : decide (0 ≤ i) = true := h
              rw [inA, h]; rfl, rfl⟩
theorem bitv_ev (a v : Int) : Ev Try.prog 100 [.int .i64 a, .int .u16 v] (.int .u16 (bitV a v)) := by
  refine ⟨rfl, trF g100 b100 c100 ?_⟩
  conv => whnf
  refine Ev.call (rbit_ev a) ?_
  conv => whnf
  refine condF (fun h => ?_) (fun h => ?_)
  · conv => whnf
    exact ⟨by rw [bitV, h]; rfl, rfl⟩
  · conv => whnf
    refine condF (fun h2 => ?_) (fun h2 => ?_)
    · conv => whnf
      exact ⟨by rw [bitV, h, h2]; rfl, rfl⟩
    · conv => whnf
      exact ⟨by rw [bitV, h, h2]; rfl, rfl⟩
/-! ### of the document's image -/
abbrev RmT (f : Nat) (args : List AV) (I : Img) (v0 : AV) (J : Img) : Prop :=
  Tr Try.prog f args ⟨1, [(0, some (rmC I))]⟩ fun v s => v = v0 ∧ s = ⟨1, [(0, some (rmC J))]⟩

theorem rGet_tr (I : Img) (a i : Int) : RmT 45 [.ptr 0 0, .int .i64 a, .int .i64 i] I (.tup [.int .u16 (getV I.o a i), .int .i64 (getE a i)]) I := by
  refine blkNorm rfl rfl (trF g45 b45 c45 ?_)
  conv => whnf
  refine Ev.call (is_ev a i) ?_
  conv => whnf
  cases h : inA a i with
  | false =>
    conv => whnf
    refine ⟨?_, rfl⟩
    rw [getV, getE, h]; rfl
  | true =>
    conv => whnf
    obtain ⟨h1, h2⟩ := rpos h
    obtain ⟨h3, h4, h5⟩ := inA_area h
    have h6 := szA_range a
    refine condT (by simp; omega) ?_
    conv => whnf
    refine condT (by simp; omega) ?_
    conv => whnf
    refine condT (by simp [Chunk.ld]; omega) ?_
    conv => whnf
    refine ⟨?_, rfl⟩
    show AV.tup [.int (rK (0 + a.toNat * 128 + i.toNat * 1)) (rG I (0 + a.toNat * 128 + i.toNat * 1)), .int .i64 0] = _
    rw [Nat.mul_one, rG_o I h, rK_16 (by omega), getV, getE, h]; rfl

theorem rWork_tr (I : Img) (a i : Int) : RmT 105 [.ptr 0 0, .int .i64 a, .int .i64 i] I (.tup [.int .u16 (getV I.w a i), .int .i64 (getE a i)]) I := by
  refine blkNorm rfl rfl (trF g105 b105 c105 ?_)
  conv => whnf
  refine Ev.call (is_ev a i) ?_
  conv => whnf
  cases h : inA a i with
  | false =>
    conv => whnf
    refine ⟨?_, rfl⟩
    rw [getV, getE, h]; rfl
  | true =>
    conv => whnf
    obtain ⟨h1, h2⟩ := rpos h
    obtain ⟨h3, h4, h5⟩ := inA_area h
    have h6 := szA_range a
    refine condT (by simp; omega) ?_
    conv => whnf
    refine condT (by simp; omega) ?_
    conv => whnf
    refine condT (by simp [Chunk.ld]; omega) ?_
    conv => whnf
    refine ⟨?_, rfl⟩
    show AV.tup [.int (rK (896 + a.toNat * 128 + i.toNat * 1)) (rG I (896 + a.toNat * 128 + i.toNat * 1)), .int .i64 0] = _
    rw [Nat.mul_one, rG_w I h, rK_16 (by omega), getV, getE, h]; rfl

theorem rPut_tr (I : Img) (a i v : Int) : RmT 30 [.ptr 0 0, .int .i64 a, .int .i64 i, .int .u16 v] I (.int .i64 (getE a i)) (I.put a i v) := by
  refine blkNorm rfl rfl (trF g30 b30 c30 ?_)
  conv => whnf
  refine Ev.call (is_ev a i) ?_
  conv => whnf
  cases h : inA a i with
  | false =>
    conv => whnf
    refine ⟨by rw [getE, h]; rfl, ?_⟩
    show some (rmC I) = some (rmC (I.put a i v))
    rw [show I.put a i v = I by simp [Img.put, putO, h]]
  | true =>
    conv => whnf
    obtain ⟨h1, h2⟩ := rpos h
    obtain ⟨h3, h4, h5⟩ := inA_area h
    have h6 := szA_range a
    refine condT (by simp; omega) ?_
    conv => whnf
    refine Ev.call (bitv_ev a v) ?_
    conv => whnf
    refine condT (by simp; omega) ?_
    conv => whnf
    refine condT (by simp [Chunk.ld, Chunk.size, AV.flat, AV.one]; omega) ?_
    conv => whnf
    refine ⟨by rw [getE, h]; rfl, ?_⟩
    show some (Chunk.blk 1793 (upd rK (0 + a.toNat * 128 + i.toNat * 1) .u16) (upd (rG I) (0 + a.toNat * 128 + i.toNat * 1) (bitV a v))) = _
    rw [Nat.mul_one, rK_upd (by omega), rG_put I h]

theorem rSet_tr (I : Img) (a i v : Int) : RmT 34 [.ptr 0 0, .int .i64 a, .int .i64 i, .int .u16 v] I (.int .i64 (getE a i)) (I.set a i v) := by
  refine blkNorm rfl rfl (trF g34 b34 c34 ?_)
  conv => whnf
  refine Ev.call (is_ev a i) ?_
  conv => whnf
  cases h : inA a i with
  | false =>
    conv => whnf
    refine ⟨by rw [getE, h]; rfl, ?_⟩
    show some (rmC I) = some (rmC (I.set a i v))
    rw [show I.set a i v = I by simp [Img.set, putO, h]]
  | true =>
    conv => whnf
    obtain ⟨h1, h2⟩ := rpos h
    obtain ⟨h3, h4, h5⟩ := inA_area h
    have h6 := szA_range a
    refine condT (by simp; omega) ?_
    conv => whnf
    refine Ev.call (bitv_ev a v) ?_
    conv => whnf
    refine condT (by simp; omega) ?_
    conv => whnf
    refine condT (by simp [Chunk.ld, Chunk.size, AV.flat, AV.one]; omega) ?_
    conv => whnf
    refine ⟨by rw [getE, h]; rfl, ?_⟩
    show some (Chunk.blk 1793 (upd rK (896 + a.toNat * 128 + i.toNat * 1) .u16) (upd (rG I) (896 + a.toNat * 128 + i.toNat * 1) (bitV a v))) = _
    rw [Nat.mul_one, rK_upd (by omega), rG_set I h]
end Go.Proofs.Ytomodeliimnddaa
set_option linter.unusedVariables false
set_option linter.unusedSimpArgs false
namespace Go.Proofs.Ytomodeliimnddaa
open Go.Ab
/- rung/image.New -/
def a27 : ACode := (.seq (.reg [⟨(some 0), .mov (.c .nilp), none, false⟩])
 (.seq (.reg [⟨(some 1), .buildI [(1152, (.int .u16 0)), (1, (.int .u64 0))] [], none, false⟩, ⟨(some 2), .box (.t 1), none, false⟩, ⟨(some 0), .mov (.t 2), none, false⟩])
 .ret))
def r27 : List ARes := [.t 0]
theorem c27 : compF Try.prog Try.f27 = some (a27, r27) := by kernel_rfl

theorem b27 : hasBody Try.prog 27 = true := by kernel_rfl
theorem g27 : Try.prog.funcs[27]? = some Try.f27 := by kernel_rfl
/- rung/rungref11.New -/
def a28 : ACode := (.seq (.reg [⟨(some 0), .mov (.c .nilp), none, false⟩])
 (.seq (.reg [⟨(some 1), .buildI [(1792, (.int .u16 0)), (1, (.int .u64 0))] [], none, false⟩, ⟨(some 2), .box (.t 1), none, false⟩, ⟨(some 0), .mov (.t 2), none, false⟩])
 .ret))
def r28 : List ARes := [.t 0]
theorem c28 : compF Try.prog Try.f28 = some (a28, r28) := by kernel_rfl

theorem b28 : hasBody Try.prog 28 = true := by kernel_rfl
theorem g28 : Try.prog.funcs[28]? = some Try.f28 := by kernel_rfl
/- (*rung/image.Image).Latch -/
def a31 : ACode := (.reg [⟨(some 2), .mov (.t 0), none, false⟩, ⟨(some 3), .mov (.t 0), none, false⟩, ⟨(some 4), .nilck (.t 3), none, false⟩, ⟨(some 5), .fld 0 576 true (.t 4), none, false⟩, ⟨(some 6), .load true 576 (.t 5), none, false⟩, ⟨(some 7), .nilck (.t 2), none, false⟩, ⟨(some 8), .fld 576 576 true (.t 7), none, false⟩, ⟨none, .store 576 (.t 8) (.t 6), none, false⟩])
def r31 : List ARes := []
theorem c31 : compF Try.prog Try.f31 = some (a31, r31) := by kernel_rfl

theorem b31 : hasBody Try.prog 31 = true := by kernel_rfl
theorem g31 : Try.prog.funcs[31]? = some Try.f31 := by kernel_rfl
/- (*rung/rungref11.Image).Latch -/
def a32 : ACode := (.reg [⟨(some 2), .mov (.t 0), none, false⟩, ⟨(some 3), .mov (.t 0), none, false⟩, ⟨(some 4), .nilck (.t 3), none, false⟩, ⟨(some 5), .fld 0 896 true (.t 4), none, false⟩, ⟨(some 6), .load true 896 (.t 5), none, false⟩, ⟨(some 7), .nilck (.t 2), none, false⟩, ⟨(some 8), .fld 896 896 true (.t 7), none, false⟩, ⟨none, .store 896 (.t 8) (.t 6), none, false⟩])
def r32 : List ARes := []
theorem c32 : compF Try.prog Try.f32 = some (a32, r32) := by kernel_rfl

theorem b32 : hasBody Try.prog 32 = true := by kernel_rfl
theorem g32 : Try.prog.funcs[32]? = some Try.f32 := by kernel_rfl
/- (*rung/image.Image).Publish -/
def a38 : ACode := (.seq (.reg [⟨(some 3), .mov (.t 0), none, false⟩, ⟨(some 4), .nilck (.t 3), none, false⟩, ⟨(some 5), .fld 576 576 true (.t 4), none, false⟩, ⟨(some 6), .load true 576 (.t 5), none, false⟩, ⟨(some 2), .alloc [(576, (.int .u16 0))], none, false⟩, ⟨none, .store 576 (.t 2) (.t 6), none, false⟩])
 (.seq (.draw [⟨0, ⟨(some 7), .mov (.t 0), none, false⟩, false, [], []⟩, ⟨1, ⟨(some 8), .nilck (.t 7), none, false⟩, false, [], []⟩, ⟨2, ⟨(some 9), .fld 0 576 true (.t 8), none, false⟩, false, [], []⟩, ⟨3, ⟨(some 10), .fld 0 128 true (.t 9), none, false⟩, false, [], []⟩, ⟨4, ⟨(some 11), .load true 128 (.t 10), none, false⟩, false, [], []⟩, ⟨5, ⟨(some 12), .mov (.t 0), none, false⟩, false, [], []⟩, ⟨6, ⟨(some 13), .nilck (.t 12), none, false⟩, false, [], []⟩, ⟨7, ⟨(some 14), .fld 0 576 true (.t 13), none, false⟩, false, [], []⟩, ⟨8, ⟨(some 15), .fld 384 64 true (.t 14), none, false⟩, false, [], []⟩, ⟨9, ⟨(some 16), .load true 64 (.t 15), none, false⟩, false, [], []⟩, ⟨10, ⟨(some 17), .fld 0 128 true (.t 2), none, false⟩, false, [], []⟩, ⟨11, ⟨none, .store 128 (.t 17) (.t 11), none, false⟩, true, [], [(.t 15)]⟩, ⟨12, ⟨(some 18), .fld 384 64 true (.t 2), none, false⟩, false, [], []⟩, ⟨13, ⟨none, .store 64 (.t 18) (.t 16), none, false⟩, true, [], []⟩])
 (.seq (.reg [⟨(some 19), .mov (.t 0), none, false⟩, ⟨(some 20), .load true 576 (.t 2), none, false⟩, ⟨(some 21), .nilck (.t 19), none, false⟩, ⟨(some 22), .fld 0 576 true (.t 21), none, false⟩, ⟨none, .store 576 (.t 22) (.t 20), none, false⟩])
 (.reg [⟨(some 23), .mov (.t 0), none, false⟩, ⟨(some 24), .nilck (.t 23), none, false⟩, ⟨(some 25), .fld 1152 1 true (.t 24), none, false⟩, ⟨(some 26), .call 104 [(.t 25), (.c (.int .u64 1))], none, false⟩]))))
def r38 : List ARes := []
theorem c38 : compF Try.prog Try.f38 = some (a38, r38) := by kernel_rfl

theorem b38 : hasBody Try.prog 38 = true := by kernel_rfl
theorem g38 : Try.prog.funcs[38]? = some Try.f38 := by kernel_rfl
/- (*rung/rungref11.Image).Publish -/
def a39 : ACode := (.seq (.reg [⟨(some 4), .bslice 1 (.int .i64) [(.int .i64 0), (.int .i64 0), (.int .i64 0), (.int .i64 0)] [(0, 1, (.c (.int .i64 2))), (1, 1, (.c (.int .i64 3))), (2, 1, (.c (.int .i64 5))), (3, 1, (.c (.int .i64 6)))] 4, none, false⟩, ⟨(some 2), .mov (.t 4), none, false⟩])
 (.seq (.seq (.reg [⟨(some 3), .mov (.c (.int .i64 0)), none, false⟩])
 (.block 0 (.loop (.seq (.seq (.reg [⟨(some 5), .mov (.t 3), none, false⟩, ⟨(some 6), .mov (.t 2), none, false⟩, ⟨(some 7), .len false (.t 6), none, false⟩, ⟨(some 8), .bin .lss .other (.t 5) (.t 7), none, false⟩])
 (.cond (.t 8) .skip
 (.exit 0)))
 (.seq (.block 1 (.draw [⟨0, ⟨(some 11), .mov (.t 0), none, false⟩, false, [], []⟩, ⟨1, ⟨(some 12), .mov (.t 2), none, false⟩, false, [], []⟩, ⟨2, ⟨(some 13), .mov (.t 3), none, false⟩, false, [], []⟩, ⟨3, ⟨(some 14), .idx 1 none false (.t 12) (.t 13), none, false⟩, false, [], []⟩, ⟨4, ⟨(some 15), .load false 1 (.t 14), none, false⟩, false, [], []⟩, ⟨5, ⟨(some 16), .mov (.t 0), none, false⟩, false, [], []⟩, ⟨6, ⟨(some 17), .mov (.t 2), none, false⟩, false, [], []⟩, ⟨7, ⟨(some 18), .mov (.t 3), none, false⟩, false, [], []⟩, ⟨8, ⟨(some 19), .idx 1 none false (.t 17) (.t 18), none, false⟩, false, [], []⟩, ⟨9, ⟨(some 20), .load false 1 (.t 19), none, false⟩, false, [], []⟩, ⟨10, ⟨(some 21), .nilck (.t 16), none, false⟩, false, [], []⟩, ⟨11, ⟨(some 22), .fld 896 896 true (.t 21), none, false⟩, false, [], []⟩, ⟨12, ⟨(some 23), .idx 128 (some 7) true (.t 22) (.t 20), none, false⟩, false, [], []⟩, ⟨13, ⟨(some 24), .load true 128 (.t 23), none, false⟩, false, [], []⟩, ⟨14, ⟨(some 25), .nilck (.t 11), none, false⟩, false, [], []⟩, ⟨15, ⟨(some 26), .fld 0 896 true (.t 25), none, false⟩, false, [], []⟩, ⟨16, ⟨(some 27), .idx 128 (some 7) true (.t 26) (.t 15), none, false⟩, false, [], []⟩, ⟨17, ⟨none, .store 128 (.t 27) (.t 24), none, false⟩, true, [], []⟩]))
 (.reg [⟨(some 9), .mov (.t 3), none, false⟩, ⟨(some 10), .bin .add .other (.t 9) (.c (.int .i64 1)), none, false⟩, ⟨(some 3), .mov (.t 10), none, false⟩]))))))
 (.reg [⟨(some 28), .mov (.t 0), none, false⟩, ⟨(some 29), .nilck (.t 28), none, false⟩, ⟨(some 30), .fld 1792 1 false (.t 29), none, false⟩, ⟨(some 31), .load false 1 (.t 30), none, false⟩, ⟨(some 32), .bin .add .other (.t 31) (.c (.int .u64 1)), none, false⟩, ⟨(some 33), .nilck (.t 28), none, false⟩, ⟨(some 34), .fld 1792 1 false (.t 33), none, false⟩, ⟨none, .store 1 (.t 34) (.t 32), none, false⟩])))
def r39 : List ARes := []
theorem c39 : compF Try.prog Try.f39 = some (a39, r39) := by kernel_rfl

theorem b39 : hasBody Try.prog 39 = true := by kernel_rfl
theorem g39 : Try.prog.funcs[39]? = some Try.f39 := by kernel_rfl
/- (*rung/image.Image).Drop -/
def a41 : ACode := (.reg [⟨(some 2), .mov (.t 0), none, false⟩, ⟨(some 3), .mov (.t 0), none, false⟩, ⟨(some 4), .nilck (.t 3), none, false⟩, ⟨(some 5), .fld 0 576 true (.t 4), none, false⟩, ⟨(some 6), .load true 576 (.t 5), none, false⟩, ⟨(some 7), .nilck (.t 2), none, false⟩, ⟨(some 8), .fld 576 576 true (.t 7), none, false⟩, ⟨none, .store 576 (.t 8) (.t 6), none, false⟩])
def r41 : List ARes := []
theorem c41 : compF Try.prog Try.f41 = some (a41, r41) := by kernel_rfl

theorem b41 : hasBody Try.prog 41 = true := by kernel_rfl
theorem g41 : Try.prog.funcs[41]? = some Try.f41 := by kernel_rfl
/- (*rung/image.Image).Copy -/
def a42 : ACode := (.seq (.reg [⟨(some 2), .mov (.c .nilp), none, false⟩])
 (.seq (.draw [⟨0, ⟨(some 4), .mov (.t 0), none, false⟩, false, [], []⟩, ⟨1, ⟨(some 5), .nilck (.t 4), none, false⟩, false, [], []⟩, ⟨2, ⟨(some 6), .fld 0 576 true (.t 5), none, false⟩, false, [], []⟩, ⟨3, ⟨(some 7), .load true 576 (.t 6), none, false⟩, false, [], []⟩, ⟨4, ⟨(some 8), .mov (.t 0), none, false⟩, false, [], []⟩, ⟨5, ⟨(some 9), .nilck (.t 8), none, false⟩, false, [], []⟩, ⟨6, ⟨(some 10), .fld 576 576 true (.t 9), none, false⟩, false, [], []⟩, ⟨7, ⟨(some 11), .load true 576 (.t 10), none, false⟩, false, [], []⟩, ⟨8, ⟨(some 12), .buildI [(1152, (.int .u16 0)), (1, (.int .u64 0))] [(0, 576, (.t 7)), (576, 576, (.t 11))], none, false⟩, false, [], []⟩, ⟨9, ⟨(some 13), .box (.t 12), none, false⟩, false, [], []⟩, ⟨10, ⟨(some 3), .mov (.t 13), none, false⟩, false, [], []⟩])
 (.seq (.draw [⟨0, ⟨(some 14), .mov (.t 3), none, false⟩, false, [], []⟩, ⟨1, ⟨(some 15), .nilck (.t 14), none, false⟩, false, [], []⟩, ⟨2, ⟨(some 16), .fld 1152 1 true (.t 15), none, false⟩, false, [], []⟩, ⟨3, ⟨(some 17), .mov (.t 0), none, false⟩, false, [], []⟩, ⟨4, ⟨(some 18), .nilck (.t 17), none, false⟩, false, [], []⟩, ⟨5, ⟨(some 19), .fld 1152 1 true (.t 18), none, false⟩, false, [], []⟩, ⟨6, ⟨(some 20), .call 107 [(.t 19)], none, false⟩, true, [], []⟩, ⟨7, ⟨(some 21), .call 106 [(.t 16), (.t 20)], none, false⟩, true, [], []⟩])
 (.seq (.reg [⟨(some 22), .mov (.t 3), none, false⟩, ⟨(some 2), .mov (.t 22), none, false⟩])
 .ret))))
def r42 : List ARes := [.t 2]
theorem c42 : compF Try.prog Try.f42 = some (a42, r42) := by kernel_rfl

theorem b42 : hasBody Try.prog 42 = true := by kernel_rfl
theorem g42 : Try.prog.funcs[42]? = some Try.f42 := by kernel_rfl
/- (*rung/rungref11.Image).Copy -/
def a43 : ACode := (.seq (.reg [⟨(some 2), .mov (.c .nilp), none, false⟩])
 (.seq (.reg [⟨(some 4), .mov (.t 0), none, false⟩, ⟨(some 5), .nilck (.t 4), none, false⟩, ⟨(some 6), .load true 1793 (.t 5), none, false⟩, ⟨(some 3), .alloc [(1792, (.int .u16 0)), (1, (.int .u64 0))], none, false⟩, ⟨none, .store 1793 (.t 3) (.t 6), none, false⟩])
 (.seq (.reg [⟨(some 2), .mov (.t 3), none, false⟩])
 .ret)))
def r43 : List ARes := [.t 2]
theorem c43 : compF Try.prog Try.f43 = some (a43, r43) := by kernel_rfl

theorem b43 : hasBody Try.prog 43 = true := by kernel_rfl
theorem g43 : Try.prog.funcs[43]? = some Try.f43 := by kernel_rfl

/-- two big blocks that are alike cell by cell -/
theorem blk_ext {N : Nat} {k k' : Nat → IntKind} {g g' : Nat → Int} (h1 : ∀ j, k j = k' j) (h2 : ∀ j, g j = g' j) : some (Chunk.blk N k g) = some (Chunk.blk N k' g') := by
  obtain rfl : k = k' := funext h1
  obtain rfl : g = g' := funext h2
  rfl
/-- where nothing is given: a new block -/
abbrev NewT (f : Nat) (c : Chunk) : Prop := Tr Try.prog f [] ⟨0, []⟩ fun v s => v = .ptr 0 0 ∧ s = ⟨1, [(0, some c)]⟩
theorem runG (n m : Nat) (k k' : IntKind) (j : Nat) : kindA (rlGet [(n, .int k 0), (m, .int k' 0)] j) = if j < n then k else if j < n + m then k' else .i64 := by
  simp only [rlGet, blt_eq]
  by_cases h1 : j < n
  · simp [h1, kindA]
  · by_cases h2 : j - n < m
    · have : j < n + m := by omega
      simp [h1, h2, this, kindA]
    · have : ¬ j < n + m := by omega
      simp [h1, h2, this, kindA]
theorem runN (n m : Nat) (k k' : IntKind) (j : Nat) : numA (rlGet [(n, .int k 0), (m, .int k' 0)] j) = 0 := by
  simp only [rlGet, blt_eq]
  by_cases h1 : j < n
  · simp [h1, numA]
  · by_cases h2 : j - n < m <;> simp [h1, h2, numA]
theorem pG_zero (j : Nat) : pG .zero j = 0 := by
  simp only [pG, Img.zero]
  repeat' split
  all_goals rfl
theorem rG_zero (j : Nat) : rG .zero j = 0 := by
  simp only [rG, Img.zero]
  repeat' split
  all_goals rfl
theorem New_tr : NewT 27 (imC .zero) := by
  refine trF g27 b27 c27 ?_
  conv => whnf
  refine ⟨rfl, ?_⟩
  have h : some (Chunk.blk 1153 (fun j => kindA (rlGet [(1152, .int .u16 0), (1, .int .u64 0)] j)) fun j => numA (rlGet [(1152, .int .u16 0), (1, .int .u64 0)] j)) = some (imC .zero) :=
    blk_ext (fun j => by rw [runG]; unfold pK; repeat' split
                         all_goals first | rfl | omega) (fun j => by rw [runN, pG_zero])
  rw [← h]
  rfl
theorem rNew_tr : NewT 28 (rmC .zero) := by
  refine trF g28 b28 c28 ?_
  conv => whnf
  refine ⟨rfl, ?_⟩
  have h : some (Chunk.blk 1793 (fun j => kindA (rlGet [(1792, .int .u16 0), (1, .int .u64 0)] j)) fun j => numA (rlGet [(1792, .int .u16 0), (1, .int .u64 0)] j)) = some (rmC .zero) :=
    blk_ext (fun j => by rw [runG]; unfold rK; repeat' split
                         all_goals first | rfl | omega) (fun j => by rw [runN, rG_zero])
  rw [← h]
  rfl
theorem latchK (o n : Nat) (h : o + n ≤ 1152) (b : Nat) (hb : b + n ≤ 1152) (j : Nat) : over pK o n (fun j => pK (b + j)) j = pK j := by
  rw [over_eq]
  split
  · rw [pK_16 (by omega), pK_16 (by omega)]
  · rfl
theorem rlatchK (o n : Nat) (h : o + n ≤ 1792) (b : Nat) (hb : b + n ≤ 1792) (j : Nat) : over rK o n (fun j => rK (b + j)) j = rK j := by
  rw [over_eq]
  split
  · rw [rK_16 (by omega), rK_16 (by omega)]
  · rfl
theorem pG_latch (I : Img) (j : Nat) : over (pG I) (0 + 576) 576 (fun j => pG I (0 + 0 + j)) j = pG I.latch j := by
  rw [over_eq]
  simp only [pG, Img.latch, Nat.zero_add]
  by_cases h1 : j < 576
  · rw [if_neg (by omega), if_pos h1, if_pos h1]
  · rw [if_neg h1, if_neg h1]
    by_cases h2 : j < 1152
    · rw [if_pos (by omega), if_pos (by omega), if_pos h2]
    · rw [if_neg (by omega), if_neg h2, if_neg h2]
theorem rG_latch (I : Img) (j : Nat) : over (rG I) (0 + 896) 896 (fun j => rG I (0 + 0 + j)) j = rG I.latch j := by
  rw [over_eq]
  simp only [rG, Img.latch, Nat.zero_add]
  by_cases h1 : j < 896
  · rw [if_neg (by omega), if_pos h1, if_pos h1]
  · rw [if_neg h1, if_neg h1]
    by_cases h2 : j < 1792
    · rw [if_pos (by omega), if_pos (by omega), if_pos h2]
    · rw [if_neg (by omega), if_neg h2, if_neg h2]
theorem Latch_tr (I : Img) : ImT 31 [.ptr 0 0] I (.tup []) I.latch := by
  refine blkNorm rfl rfl (trF g31 b31 c31 ?_)
  conv => whnf
  exact ⟨rfl, blk_ext (latchK (0 + 576) 576 (by decide) (0 + 0) (by decide)) (pG_latch I)⟩
theorem Drop_tr (I : Img) : ImT 41 [.ptr 0 0] I (.tup []) I.latch := by
  refine blkNorm rfl rfl (trF g41 b41 c41 ?_)
  conv => whnf
  exact ⟨rfl, blk_ext (latchK (0 + 576) 576 (by decide) (0 + 0) (by decide)) (pG_latch I)⟩
theorem rLatch_tr (I : Img) : RmT 32 [.ptr 0 0] I (.tup []) I.latch := by
  refine blkNorm rfl rfl (trF g32 b32 c32 ?_)
  conv => whnf
  exact ⟨rfl, blk_ext (rlatchK (0 + 896) 896 (by decide) (0 + 0) (by decide)) (rG_latch I)⟩
theorem pub_cell (I : Img) (j : Nat) (h : j < 576) : pG I.pub j = if j < 128 ∨ (384 ≤ j ∧ j < 448) then I.o (arO j) (ixO j) else I.w (arO j) (ixO j) := by
  unfold pG
  rw [if_pos h]
  show (if arO j = 2 ∨ arO j = 3 ∨ arO j = 5 ∨ arO j = 6 then I.w (arO j) (ixO j) else I.o (arO j) (ixO j)) = _
  have : (arO j = 2 ∨ arO j = 3 ∨ arO j = 5 ∨ arO j = 6) ↔ ¬ (j < 128 ∨ (384 ≤ j ∧ j < 448)) := by
    unfold arO
    repeat' split
    all_goals omega
  by_cases h2 : j < 128 ∨ (384 ≤ j ∧ j < 448)
  · rw [if_pos h2, if_neg (fun e => this.1 e h2)]
  · rw [if_neg h2, if_pos (this.2 h2)]
set_option maxHeartbeats 1000000 in
theorem Publish_tr (I : Img) : ImT 38 [.ptr 0 0] I (.tup []) I.pub := by
  refine blkNorm rfl rfl (trF g38 b38 c38 ?_)
  conv => whnf
  refine ⟨rfl, ?_⟩
  conv => whnf
  refine blkCall (k := pK) (g := pG ⟨I.pub.o, I.w, I.n⟩) (add_tr (off := 1152) (N := 1153) (d := 1) rfl (by decide)) rfl rfl (blk_ext (fun j => ?_) (fun j => ?_)) ?_
  · simp only [over_eq, Nat.zero_add, Nat.sub_zero]
    by_cases h : j < 576
    · rw [if_pos (by omega)]
      repeat' split
      all_goals first | (exfalso; omega) | (with_reducible rfl) | (rw [pK_16 (j := j) (by omega), pK_16 (by omega)]) | (rw [pK_16 (by omega)])
    · rw [if_neg (by omega)]
  · simp only [over_eq, Nat.zero_add, Nat.sub_zero]
    by_cases h : j < 576
    · rw [if_pos (by omega)]
      have h2 := pub_cell I j h
      have h3 : pG ⟨I.pub.o, I.w, I.n⟩ j = pG I.pub j := by unfold pG; rw [if_pos h, if_pos h]
      rw [h3, h2]
      by_cases h4 : 384 ≤ j ∧ j < 384 + 64
      · rw [if_pos h4, if_pos (.inr h4), show 384 + (j - 384) = j by omega]
        unfold pG; rw [if_pos h]
      · rw [if_neg h4]
        by_cases h5 : j < 128
        · rw [if_pos (by omega), if_pos (.inl h5)]
          unfold pG; rw [if_pos h]
        · rw [if_neg (by omega), if_pos (by omega), if_neg (by omega)]
          unfold pG; rw [if_neg (by omega), if_pos (by omega), show 576 + j - 576 = j by omega]
    · rw [if_neg (by omega)]
      unfold pG
      rw [if_neg h, if_neg h]
  · conv => whnf
    refine ⟨rfl, ?_⟩
    refine blk_ext (fun _ => rfl) (fun j => ?_)
    rw [upd_eq]
    unfold pG
    by_cases h : j = 1152
    · subst h; rfl
    · rw [if_neg h]
      by_cases h1 : j < 576
      · rw [if_pos h1, if_pos h1]
      · rw [if_neg h1, if_neg h1]
        by_cases h2 : j < 1152
        · rw [if_pos h2, if_pos h2]; rfl
        · rw [if_neg h2, if_neg h2, if_neg h, if_neg h]
/-- a copy -/
abbrev CopyT (f : Nat) (c d : Chunk) : Prop := Tr Try.prog f [.ptr 0 0] ⟨1, [(0, some c)]⟩ fun v s => v = .ptr 1 0 ∧ s = ⟨2, [(1, some d), (0, some c)]⟩
theorem copyNorm {f N : Nat} {k k' : Nat → IntKind} {g g' : Nat → Int} (h : Tr Try.prog f [.ptr 0 0] ⟨1, [(0, some (.blk N k g))]⟩ fun v s => v = .ptr 1 0 ∧ s.get 1 = some (.blk N k' g') ∧ s.get 0 = some (.blk N k g)) : CopyT f (.blk N k g) (.blk N k' g') := by
  refine Tr.norm h fun v s ⟨hv, h1, h0⟩ => ⟨_, _, ?_, rfl, rfl⟩
  subst hv
  exact ⟨[], rfl, rfl, rfl, ⟨⟨rfl, rfl⟩, trivial⟩, ⟨⟨trivial, rfl, h1⟩, ⟨trivial, rfl, h0⟩, trivial⟩⟩
theorem rCopy_tr (I : Img) : CopyT 43 (rmC I) (rmC I) := by
  refine copyNorm (trF g43 b43 c43 ?_)
  conv => whnf
  refine ⟨rfl, ?_, rfl⟩
  refine blk_ext (fun j => ?_) (fun j => ?_)
  · rw [over_eq]
    split
    · simp only [Nat.zero_add, Nat.sub_zero]
    · rw [runG]
      unfold rK
      repeat' split
      all_goals first | rfl | omega
  · rw [over_eq]
    split
    · simp only [Nat.zero_add, Nat.sub_zero]
    · rw [runN]
      unfold rG
      repeat' split
      all_goals first | rfl | omega
theorem Copy_tr (I : Img) : CopyT 42 (imC I) (imC I) := by
  refine copyNorm (trF g42 b42 c42 ?_)
  conv => whnf
  refine blkCall (load_tr (off := 1152) (N := 1153) (k := pK) (g := pG I) rfl (by decide)) rfl rfl rfl ?_
  conv => whnf
  refine blkCall (k := pK) (g := pG ⟨I.o, I.w, 0⟩) (N := 1153) (store_tr (off := 1152) (d := pG I 1152) rfl (by decide)) rfl rfl (blk_ext (fun j => ?_) (fun j => ?_)) ?_
  · simp only [over_eq, Nat.zero_add, Nat.sub_zero, runG]
    by_cases h : j < 1152
    · rw [pK_16 h]
      repeat' split
      all_goals first | (exfalso; omega) | (with_reducible rfl) | (rw [pK_16 (by omega)])
    · unfold pK
      repeat' split
      all_goals first | rfl | (exfalso; omega)
  · simp only [over_eq, Nat.zero_add, Nat.sub_zero, runN]
    unfold pG
    by_cases h : j < 576
    · rw [if_neg (by omega), if_pos (by omega), if_pos h, if_pos h]
    · rw [if_neg h]
      by_cases h1 : j < 1152
      · rw [if_pos (by omega), if_neg (by omega), if_pos (by omega), if_pos h1, show 576 + (j - 576) - 576 = j - 576 by omega, if_neg h]
      · rw [if_neg (by omega), if_neg (by omega), if_neg h, if_neg h1]
        split <;> rfl
  · conv => whnf
    refine ⟨rfl, ?_, rfl⟩
    refine blk_ext (fun _ => rfl) (fun j => ?_)
    rw [upd_eq]
    unfold pG
    by_cases h : j = 1152
    · subst h; rfl
    · rw [if_neg h]
      by_cases h1 : j < 576
      · rw [if_pos h1, if_pos h1]
      · rw [if_neg h1, if_neg h1]
        by_cases h2 : j < 1152
        · rw [if_pos h2, if_pos h2]
        · rw [if_neg h2, if_neg h2, if_neg h, if_neg h]
/-- some of the areas published -/
def pubs (I : Img) (i : Nat) : Img := ⟨fun a k => if (1 ≤ i ∧ a = 2) ∨ (2 ≤ i ∧ a = 3) ∨ (3 ≤ i ∧ a = 5) ∨ (4 ≤ i ∧ a = 6) then I.w a k else I.o a k, I.w, I.n⟩
theorem pubs_step (I : Img) (i a : Nat) (h : (i = 0 ∧ a = 2) ∨ (i = 1 ∧ a = 3) ∨ (i = 2 ∧ a = 5) ∨ (i = 3 ∧ a = 6)) (j : Nat) : over (rG (pubs I i)) (0 + 0 + a * 128) 128 (fun j => rG (pubs I i) (0 + 896 + a * 128 + j)) j = rG (pubs I (i + 1)) j := by
  rw [over_eq]
  unfold rG
  by_cases h1 : j < 896
  · rw [if_pos h1, if_pos h1]
    have hm : (0 + 0 + a * 128 ≤ j ∧ j < 0 + 0 + a * 128 + 128) ↔ j / 128 = a := by
      rcases h with ⟨_, rfl⟩ | ⟨_, rfl⟩ | ⟨_, rfl⟩ | ⟨_, rfl⟩ <;> omega
    by_cases h2 : j / 128 = a
    · rw [if_pos (hm.2 h2), if_neg (by omega), if_pos (by omega), show (0 + 896 + a * 128 + (j - (0 + 0 + a * 128)) - 896) = j by have := hm.2 h2; omega]
      simp only [pubs]
      rw [if_pos (by omega)]
    · rw [if_neg (fun e => h2 (hm.1 e))]
      simp only [pubs]
      by_cases h3 : (1 ≤ i ∧ j / 128 = 2) ∨ (2 ≤ i ∧ j / 128 = 3) ∨ (3 ≤ i ∧ j / 128 = 5) ∨ (4 ≤ i ∧ j / 128 = 6)
      · rw [if_pos h3, if_pos (by omega)]
      · rw [if_neg h3, if_neg (by omega)]
  · rw [if_neg (by omega), if_neg h1, if_neg h1]
    rfl
set_option maxRecDepth 20000 in
theorem rPublish_tr (I : Img) : RmT 39 [.ptr 0 0] I (.tup []) I.pub := by
  refine blkNorm rfl rfl (trF g39 b39 c39 ?_)
  conv => whnf
  refine loopI (α := {i : Nat // i ≤ 4}) (fun i => [(0, .ptr 0 0), (2, .sl 1 1 0 4), (3, .int .i64 i.1)]) (fun i => ⟨2, [(1, some (.rowI .i64 [2, 3, 5, 6])), (0, some (rmC (pubs I i.1)))]⟩) (fun i => 4 - i.1) ⟨0, Nat.zero_le _⟩
      ⟨[], rfl, rfl, rfl, ⟨⟨rfl, rfl⟩, ⟨rfl, rfl⟩, ⟨rfl, rfl⟩, trivial⟩, ⟨⟨trivial, rfl, rfl⟩, ⟨trivial, rfl, ?_⟩, trivial⟩⟩ fun ⟨i, hi⟩ => ?_
  · refine blk_ext (fun _ => rfl) (fun j => ?_)
    show rG I j = rG (pubs I 0) j
    have : pubs I 0 = I := by
      unfold pubs
      simp
    rw [this]
  · conv => whnf
    by_cases hlt : i < 4
    · refine condY (by simp; omega) ?_
      conv => whnf
      obtain rfl | rfl | rfl | rfl : i = 0 ∨ i = 1 ∨ i = 2 ∨ i = 3 := by omega
      all_goals
        conv => whnf
        refine ⟨⟨_ + 1, hlt⟩, ⟨[], rfl, rfl, rfl, ⟨⟨rfl, rfl⟩, ⟨rfl, rfl⟩, ⟨rfl, rfl⟩, trivial⟩, ⟨⟨trivial, rfl, rfl⟩, ⟨trivial, rfl, ?_⟩, trivial⟩⟩, by simp⟩
      · exact blk_ext (rlatchK (0 + 0 + 2 * 128) 128 (by decide) (0 + 896 + 2 * 128) (by decide)) (pubs_step I 0 2 (by omega))
      · exact blk_ext (rlatchK (0 + 0 + 3 * 128) 128 (by decide) (0 + 896 + 3 * 128) (by decide)) (pubs_step I 1 3 (by omega))
      · exact blk_ext (rlatchK (0 + 0 + 5 * 128) 128 (by decide) (0 + 896 + 5 * 128) (by decide)) (pubs_step I 2 5 (by omega))
      · exact blk_ext (rlatchK (0 + 0 + 6 * 128) 128 (by decide) (0 + 896 + 6 * 128) (by decide)) (pubs_step I 3 6 (by omega))
    · refine condN (by simp; omega) ?_
      conv => whnf
      obtain rfl : i = 4 := by omega
      refine ⟨rfl, ?_⟩
      refine blk_ext (fun j => congrFun (upd_same (f := rK) (p := 1792) rfl) j) (fun j => ?_)
      rw [upd_eq]
      unfold rG
      have hp : (pubs I 4).o = I.pub.o := by
        funext a k
        simp [pubs, Img.pub]
      by_cases h : j = 0 + 1792
      · subst h; rfl
      · rw [if_neg h, hp]
        by_cases h1 : j < 896
        · rw [if_pos h1, if_pos h1]
        · rw [if_neg h1, if_neg h1]
          by_cases h2 : j < 1792
          · rw [if_pos h2, if_pos h2]; rfl
          · rw [if_neg h2, if_neg h2, if_neg (by omega), if_neg (by omega)]
end Go.Proofs.Ytomodeliimnddaa
set_option linter.unusedVariables false
set_option linter.unusedSimpArgs false
namespace Go.Proofs.Ytomodeliimnddaa
open Go.Ab
/- (*rung/image.Image).All -/
def a36 : ACode := (.seq (.reg [⟨(some 4), .mov (.c .nils), none, false⟩])
 (.seq (.reg [⟨(some 5), .mov (.t 0), none, false⟩, ⟨(some 6), .nilck (.t 5), none, false⟩, ⟨(some 7), .fld 0 576 true (.t 6), none, false⟩, ⟨(some 8), .mov (.t 1), none, false⟩, ⟨(some 9), .call 102 [(.t 7), (.t 8)], none, false⟩, ⟨(some 10), .call 101 [(.t 9)], none, false⟩, ⟨(some 4), .mov (.t 10), none, false⟩])
 .ret))
def r36 : List ARes := [.t 4]
theorem c36 : compF Try.prog Try.f36 = some (a36, r36) := by kernel_rfl

theorem b36 : hasBody Try.prog 36 = true := by kernel_rfl
theorem g36 : Try.prog.funcs[36]? = some Try.f36 := by kernel_rfl
/- (*rung/rungref11.Image).All -/
def a37 : ACode := (.seq (.reg [⟨(some 4), .mov (.c .nils), none, false⟩])
 (.seq (.reg [⟨(some 5), .mov (.c .nils), none, false⟩])
 (.seq (.seq (.reg [⟨(some 6), .mov (.c (.int .i64 0)), none, false⟩])
 (.block 0 (.loop (.seq (.seq (.reg [⟨(some 7), .mov (.t 6), none, false⟩, ⟨(some 8), .mov (.t 1), none, false⟩, ⟨(some 9), .call 103 [(.t 8)], none, false⟩, ⟨(some 10), .bin .lss .other (.t 7) (.t 9), none, false⟩])
 (.cond (.t 10) .skip
 (.exit 0)))
 (.seq (.block 1 (.reg [⟨(some 13), .mov (.t 5), none, false⟩, ⟨(some 14), .mov (.t 0), none, false⟩, ⟨(some 15), .mov (.t 1), none, false⟩, ⟨(some 16), .mov (.t 6), none, false⟩, ⟨(some 17), .nilck (.t 14), none, false⟩, ⟨(some 18), .fld 0 896 true (.t 17), none, false⟩, ⟨(some 19), .idx 128 (some 7) true (.t 18) (.t 15), none, false⟩, ⟨(some 20), .idx 1 (some 128) false (.t 19) (.t 16), none, false⟩, ⟨(some 21), .load false 1 (.t 20), none, false⟩, ⟨(some 22), .bslice 1 (.int .u16) [(.int .u16 0)] [(0, 1, (.t 21))] 1, none, false⟩, ⟨(some 23), .app 1 2 (.t 13) (.t 22), none, false⟩, ⟨(some 5), .mov (.t 23), none, false⟩]))
 (.reg [⟨(some 11), .mov (.t 6), none, false⟩, ⟨(some 12), .bin .add .other (.t 11) (.c (.int .i64 1)), none, false⟩, ⟨(some 6), .mov (.t 12), none, false⟩]))))))
 (.seq (.reg [⟨(some 24), .mov (.t 5), none, false⟩, ⟨(some 4), .mov (.t 24), none, false⟩])
 .ret))))
def r37 : List ARes := [.t 4]
theorem c37 : compF Try.prog Try.f37 = some (a37, r37) := by kernel_rfl

theorem b37 : hasBody Try.prog 37 = true := by kernel_rfl
theorem g37 : Try.prog.funcs[37]? = some Try.f37 := by kernel_rfl
/- rung/runglaw11.alike -/
def a40 : ACode := (.seq (.reg [⟨(some 4), .mov (.c (.bool false)), none, false⟩])
 (.seq (.seq (.reg [⟨(some 5), .mov (.c (.int .i64 0)), none, false⟩])
 (.block 0 (.loop (.seq (.seq (.reg [⟨(some 12), .mov (.t 5), none, false⟩, ⟨(some 13), .bin .leq .other (.t 12) (.c (.int .i64 7)), none, false⟩])
 (.cond (.t 13) .skip
 (.exit 0)))
 (.seq (.block 1 (.seq (.reg [⟨(some 16), .mov (.t 0), none, false⟩, ⟨(some 17), .mov (.t 5), none, false⟩, ⟨(some 18), .call 36 [(.t 16), (.t 17)], none, false⟩, ⟨(some 6), .mov (.t 18), none, false⟩])
 (.seq (.seq (.reg [⟨(some 19), .mov (.t 6), none, false⟩, ⟨(some 20), .mov (.t 1), none, false⟩, ⟨(some 21), .mov (.t 5), none, false⟩, ⟨(some 22), .call 37 [(.t 20), (.t 21)], none, false⟩, ⟨(some 23), .call 35 [(.t 19), (.t 22)], none, false⟩, ⟨(some 24), .un .not (.t 23), none, false⟩])
 (.cond (.t 24) (.seq (.reg [⟨(some 4), .mov (.c (.bool false)), none, false⟩])
 .ret)
 .skip))
 (.seq (.reg [⟨(some 7), .mov (.c (.int .i64 0)), none, false⟩])
 (.block 2 (.loop (.seq (.seq (.reg [⟨(some 25), .mov (.t 7), none, false⟩, ⟨(some 26), .mov (.t 6), none, false⟩, ⟨(some 27), .len false (.t 26), none, false⟩, ⟨(some 28), .bin .lss .other (.t 25) (.t 27), none, false⟩])
 (.cond (.t 28) .skip
 (.exit 2)))
 (.seq (.block 3 (.seq (.reg [⟨(some 32), .mov (.t 0), none, false⟩, ⟨(some 33), .mov (.t 5), none, false⟩, ⟨(some 34), .mov (.t 7), none, false⟩, ⟨(some 35), .call 96 [(.t 32), (.t 33), (.t 34)], none, false⟩, ⟨(some 31), .mov (.t 35), none, false⟩, ⟨(some 36), .ext (.t 31) 0, none, false⟩, ⟨(some 37), .ext (.t 31) 1, none, false⟩, ⟨(some 8), .mov (.t 36), none, false⟩, ⟨(some 9), .mov (.t 37), none, false⟩])
 (.seq (.reg [⟨(some 39), .mov (.t 1), none, false⟩, ⟨(some 40), .mov (.t 5), none, false⟩, ⟨(some 41), .mov (.t 7), none, false⟩, ⟨(some 42), .call 105 [(.t 39), (.t 40), (.t 41)], none, false⟩, ⟨(some 38), .mov (.t 42), none, false⟩, ⟨(some 43), .ext (.t 38) 0, none, false⟩, ⟨(some 44), .ext (.t 38) 1, none, false⟩, ⟨(some 10), .mov (.t 43), none, false⟩, ⟨(some 11), .mov (.t 44), none, false⟩])
 (.seq (.reg [⟨(some 45), .mov (.t 8), none, false⟩, ⟨(some 46), .mov (.t 10), none, false⟩, ⟨(some 47), .bin .neq .other (.t 45) (.t 46), none, false⟩, ⟨(some 48), .mov (.t 47), none, true⟩, ⟨(some 49), .mov (.t 9), (some (48, false)), false⟩, ⟨(some 50), .mov (.t 11), (some (48, false)), false⟩, ⟨(some 51), .bin .neq .other (.t 49) (.t 50), (some (48, false)), false⟩, ⟨(some 52), .pick (.t 48) (.c (.bool true)) (.t 51), none, false⟩])
 (.cond (.t 52) (.seq (.reg [⟨(some 4), .mov (.c (.bool false)), none, false⟩])
 .ret)
 .skip)))))
 (.reg [⟨(some 29), .mov (.t 7), none, false⟩, ⟨(some 30), .bin .add .other (.t 29) (.c (.int .i64 1)), none, false⟩, ⟨(some 7), .mov (.t 30), none, false⟩])))))))))
 (.reg [⟨(some 14), .mov (.t 5), none, false⟩, ⟨(some 15), .bin .add .other (.t 14) (.c (.int .i64 1)), none, false⟩, ⟨(some 5), .mov (.t 15), none, false⟩]))))))
 (.seq (.draw [⟨0, ⟨(some 53), .mov (.t 0), none, false⟩, false, [], []⟩, ⟨2, ⟨(some 55), .mov (.t 1), none, false⟩, false, [], []⟩, ⟨3, ⟨(some 56), .nilck (.t 55), none, false⟩, false, [], []⟩, ⟨4, ⟨(some 57), .fld 1792 1 false (.t 56), none, false⟩, false, [], []⟩, ⟨5, ⟨(some 58), .load false 1 (.t 57), none, false⟩, false, [], []⟩, ⟨1, ⟨(some 54), .call 97 [(.t 53)], none, false⟩, true, [], [(.t 57)]⟩, ⟨6, ⟨(some 59), .bin .eql .other (.t 54) (.t 58), none, false⟩, false, [], []⟩, ⟨7, ⟨(some 4), .mov (.t 59), none, false⟩, false, [], []⟩])
 .ret)))
def r40 : List ARes := [.t 4]
theorem c40 : compF Try.prog Try.f40 = some (a40, r40) := by kernel_rfl

theorem b40 : hasBody Try.prog 40 = true := by kernel_rfl
theorem g40 : Try.prog.funcs[40]? = some Try.f40 := by kernel_rfl
/- slices.Clone[[]uint16,uint16] -/
def am101 : ACode := (.seq (.reg [⟨(some 2), .mov (.c .nils), none, false⟩])
 (.seq (.seq (.reg [⟨(some 3), .mov (.t 0), none, false⟩, ⟨(some 4), .bin .eql .slice (.t 3) (.c .nils), none, false⟩])
 (.cond (.t 4) (.seq (.reg [⟨(some 2), .mov (.c .nils), none, false⟩])
 .ret)
 .skip))
 (.seq (.reg [⟨(some 5), .bslice 1 (.int .u16) [] [] 0, none, false⟩, ⟨(some 6), .mov (.t 0), none, false⟩, ⟨(some 7), .app 1 2 (.t 5) (.t 6), none, false⟩, ⟨(some 2), .mov (.t 7), none, false⟩])
 .ret)))
def rm101 : List ARes := [.t 2]
theorem cm101 : compF Try.prog Try.f101 = some (am101, rm101) := by kernel_rfl

theorem bm101 : hasBody Try.prog 101 = true := by kernel_rfl
theorem gm101 : Try.prog.funcs[101]? = some Try.f101 := by kernel_rfl

theorem hregs_ev (l m : List Int) (hl : l.length ≤ 100000) : Ev Try.prog 35 [.roI .u16 l, .roI .u16 m] (.bool (l == m)) := ⟨rfl, hregs_tr l m hl⟩
theorem hregs_same (l : List Int) (hl : l.length ≤ 100000) : Ev Try.prog 35 [.roI .u16 l, .roI .u16 l] (.bool true) := by
  have h := hregs_ev l l hl
  rwa [beq_self_eq_true] at h
theorem nilOrB {P : Program} {f es : Nat} {v : AV} {g : Nat → AV} {s : St} {K : AV → St → Prop} (hv : v.rov = some (es, 0, g)) (h1 : Tr P f [.nils] s K) (h2 : ∀ a c, Tr P f [.raw (.slice (some a) 0 c)] s K) : Tr P f [v] s K := by
  unfold Tr at h1 h2 ⊢
  refine ⟨h1.1, fun ι w M Vs hR hV => ?_⟩
  obtain ⟨hs, hg⟩ := hV
  have h0 : VRel ι w M v (Vs.getD 0 default) := hg 0 (by simp)
  rcases h0.rov_inv hv with ⟨_, e⟩ | ⟨a, cap, g', e, _⟩
  · refine h1.2 ι w M Vs hR ⟨hs, fun j hj => ?_⟩
    obtain rfl : j = 0 := by simp at hj; exact hj
    rw [e]; exact .g _ _ .nils
  · refine (h2 a cap).2 ι w M Vs hR ⟨hs, fun j hj => ?_⟩
    obtain rfl : j = 0 := by simp at hj; exact hj
    rw [e]; exact .g _ _ (.raw _)
/-- where a new row is made -/
abbrev RowT (f : Nat) (args : List AV) (l : List Int) : Prop := Tr Try.prog f args ⟨0, []⟩ fun v s => v = .sl 1 0 0 l.length ∧ s = ⟨1, [(0, some (.rowI .u16 l))]⟩
theorem cloneR_tr (l : List Int) (hl : l.length ≤ 100000) : RowT 101 [.roI .u16 l] l := by
  cases l with
  | nil =>
    refine nilOrB rfl ?_ fun a c => ?_
    · refine Tr.norm (K := fun v s => v = .nils) (trF gm101 bm101 cm101 ?_) fun v s hv => ⟨_, _, ?_, rfl, rfl⟩
      · conv => whnf
      · subst hv
        exact ⟨[(0, none)], rfl, rfl, rfl, ⟨⟨rfl, rfl⟩, trivial⟩, ⟨⟨trivial, rfl, rfl⟩, trivial⟩⟩
    · refine Tr.norm (K := fun v s => v = .sl 1 1 0 0 ∧ s.get 1 = some (.rowI .u16 [])) (trF gm101 bm101 cm101 ?_) fun v s ⟨hv, h1⟩ => ⟨_, _, ?_, rfl, rfl⟩
      · conv => whnf
        exact ⟨rfl, rfl⟩
      · subst hv
        exact ⟨[(0, some 1)], rfl, rfl, rfl, ⟨⟨rfl, rfl⟩, trivial⟩, ⟨⟨trivial, rfl, h1⟩, trivial⟩⟩
  | cons x l =>
    refine Tr.norm (K := fun v s => v = .sl 1 1 0 (x :: l).length ∧ s.get 1 = some (.rowI .u16 (x :: l))) (trF gm101 bm101 cm101 ?_) fun v s ⟨hv, h1⟩ => ⟨_, _, ?_, rfl, rfl⟩
    · conv => whnf
      refine condT (by simp at hl ⊢; omega) ?_
      conv => whnf
      exact ⟨by show AV.sl 1 1 0 (0 + (x :: l).length) = _; rw [Nat.zero_add], rfl⟩
    · subst hv
      exact ⟨[(0, some 1)], rfl, rfl, rfl, ⟨⟨rfl, rfl⟩, trivial⟩, ⟨⟨trivial, rfl, h1⟩, trivial⟩⟩
/-- an area's values as a new row, beside the image -/
abbrev AllT (f : Nat) (args : List AV) (c : Chunk) (l : List Int) : Prop :=
  Tr Try.prog f args ⟨1, [(0, some c)]⟩ fun v s => v = .sl 1 1 0 l.length ∧ s = ⟨2, [(1, some (.rowI .u16 l)), (0, some c)]⟩
theorem area_row (I : Img) (a : Int) (ha : a = 1 ∨ a = 2 ∨ a = 3 ∨ a = 4 ∨ a = 5 ∨ a = 6) : (List.range (szA a).toNat).map (fun j => pG I (0 + offA a + j)) = allL I.o a := by
  unfold allL
  apply List.map_congr_left
  intro j hj
  have hj : j < (szA a).toNat := by simpa using hj
  have := pG_o I (a := a) (i := j) (inA_iff.2 ⟨by omega, by omega⟩)
  simpa using this
set_option maxRecDepth 20000 in
theorem All_tr (I : Img) (a : Int) : AllT 36 [.ptr 0 0, .int .i64 a] (imC I) (allL I.o a) := by
  have hr := szA_range a
  refine Tr.norm (K := fun v s => (v = .sl 1 1 0 (allL I.o a).length ∧ s.get 1 = some (.rowI .u16 (allL I.o a)) ∨ v = .sl 1 1 0 (allL I.o a).length ∧ s.get 1 = some (.rowI .u16 (allL I.o a))) ∧ s.get 0 = some (imC I)) (trF g36 b36 c36 ?_) fun v s ⟨hv, h0⟩ => ⟨_, _, ?_, rfl, rfl⟩
  · conv => whnf
    rcases szA_cases a with ha | ha
    · refine blkCall (area_sl a 0 1153 pK (pG I) (by decide) ha) rfl rfl rfl ?_
      conv => whnf
      have ho := offA_le a
      refine Tr.look (cloneR_tr ((List.range (szA a).toNat).map fun j => pG I (0 + offA a + j)) (by simp; omega)) ⟨.blk 0 _ _ 1153 pK (pG I) .u16 rfl (by omega) (fun j hj => pK_16 (by omega)), trivial⟩ fun v0 s0 ⟨hv, hs⟩ => ?_
      subst hv; subst hs
      refine ⟨rfl, ⟨trivial, trivial⟩, ?_⟩
      conv => whnf
      refine ⟨.inl ⟨?_, ?_⟩, rfl⟩
      · show AV.sl 1 1 0 _ = _
        rw [area_row I a ha]
      · show some (Chunk.rowI .u16 _) = _
        rw [area_row I a ha]
    · refine blkCall (area_nil a 0 1153 pK (pG I) ha.2) rfl rfl rfl ?_
      conv => whnf
      have hnil : allL I.o a = [] := by unfold allL; rw [ha.1]; rfl
      refine Tr.look (cloneR_tr [] (by decide)) ⟨.le _ _ _ (.same _ rfl) (Le.nilI _), trivial⟩ fun v0 s0 ⟨hv, hs⟩ => ?_
      subst hv; subst hs
      refine ⟨rfl, ⟨trivial, trivial⟩, ?_⟩
      conv => whnf
      refine ⟨.inl ⟨?_, ?_⟩, rfl⟩
      · show AV.sl 1 1 0 _ = _
        rw [hnil]
      · show some (Chunk.rowI .u16 _) = _
        rw [hnil]
  · have hv : v = .sl 1 1 0 (allL I.o a).length ∧ s.get 1 = some (.rowI .u16 (allL I.o a)) := by rcases hv with h | h <;> exact h
    obtain ⟨rfl, h1⟩ := hv
    exact ⟨[], rfl, rfl, rfl, ⟨⟨rfl, rfl⟩, trivial⟩, ⟨⟨trivial, rfl, h1⟩, ⟨trivial, rfl, h0⟩, trivial⟩⟩
set_option maxRecDepth 20000 in
theorem rAll_tr (I : Img) (a : Int) : AllT 37 [.ptr 0 0, .int .i64 a] (rmC I) (allL I.o a) := by
  have hr := szA_range a
  refine Tr.norm (K := fun v s => v = .sl 1 1 0 (allL I.o a).length ∧ s.get 1 = some (.rowI .u16 (allL I.o a)) ∧ s.get 0 = some (rmC I)) (trF g37 b37 c37 ?_) fun v s ⟨hv, h1, h0⟩ => ⟨_, _, ?_, rfl, rfl⟩
  · conv => whnf
    refine loopI (α := {i : Nat // i ≤ (szA a).toNat}) (fun i => [(0, .ptr 0 0), (1, .int .i64 a), (5, .sl 1 1 0 i.1), (6, .int .i64 i.1)]) (fun i => ⟨2, [(1, some (.rowI .u16 ((List.range i.1).map fun k => I.o a.toNat k))), (0, some (rmC I))]⟩) (fun i => (szA a).toNat - i.1) ⟨0, Nat.zero_le _⟩
        ⟨[(1, none)], rfl, rfl, rfl, ⟨⟨rfl, rfl⟩, ⟨rfl, rfl⟩, ⟨rfl, rfl⟩, ⟨rfl, rfl⟩, trivial⟩, ⟨⟨trivial, rfl, rfl⟩, ⟨trivial, rfl, rfl⟩, trivial⟩⟩ fun ⟨i, hi⟩ => ?_
    conv => whnf
    refine Ev.call (rsize_ev a) ?_
    conv => whnf
    by_cases hlt : i < (szA a).toNat
    · have hin : inA a i = true := inA_iff.2 ⟨by omega, by omega⟩
      obtain ⟨k1, k2⟩ := rpos hin
      obtain ⟨k3, k4, k5⟩ := inA_area hin
      have hK : rK (0 + 0 + a.toNat * 128 + i * 1) = .u16 := rK_16 (by simp at k2; omega)
      have hG : rG I (0 + 0 + a.toNat * 128 + i * 1) = I.o a.toNat i := by
        have := rG_o I hin
        simp only [Int.toNat_natCast] at this
        rw [Nat.mul_one, Nat.zero_add 0, this]
      refine condY (by simp; omega) ?_
      conv => whnf
      refine condT (by simp; omega) ?_
      conv => whnf
      refine condT (by simp; omega) ?_
      conv => whnf
      refine condT (by simp [Chunk.ld, rmC, imC]; omega) ?_
      conv => whnf
      refine condT (by show (decide (rK (0 + 0 + a.toNat * 128 + i * 1) = .u16) && true) = true; rw [hK]; rfl) ?_
      conv => whnf
      refine condT (by simp; omega) ?_
      conv => whnf
      refine ⟨⟨i + 1, hlt⟩, ⟨[(1, some (2 + 1))], rfl, rfl, rfl, ⟨⟨rfl, rfl⟩, ⟨rfl, rfl⟩, ⟨rfl, rfl⟩, ⟨?_, rfl⟩, trivial⟩, ⟨⟨trivial, rfl, ?_⟩, ⟨trivial, rfl, rfl⟩, trivial⟩⟩, by show (szA a).toNat - (i + 1) < (szA a).toNat - i; omega⟩
      · show AV.int .i64 (IntKind.i64.wrap ((i : Int) + 1)) = AV.int .i64 ((i + 1 : Nat) : Int)
        rw [s64 (by omega)]
      · show some (Chunk.rowI .u16 ((((List.range i).map fun k => I.o a.toNat k).drop 0).take i ++ ([rG I (0 + 0 + a.toNat * 128 + i * 1)].drop 0).take 1)) = some (Chunk.rowI .u16 ((List.range (i + 1)).map fun k => I.o a.toNat k))
        have hlen : ((List.range i).map fun k => I.o a.toNat k).length = i := by simp
        rw [hG, List.range_succ, List.map_append, List.drop_zero]
        conv => lhs; rw [List.take_of_length_le (by omega)]
        rfl
    · obtain rfl : i = (szA a).toNat := by omega
      refine condN (by simp; omega) ?_
      conv => whnf
      exact ⟨by show AV.sl 1 1 0 _ = _; rw [allL_length], rfl, rfl⟩
  · subst hv
    exact ⟨[], rfl, rfl, rfl, ⟨⟨rfl, rfl⟩, trivial⟩, ⟨⟨trivial, rfl, h1⟩, ⟨trivial, rfl, h0⟩, trivial⟩⟩
theorem allCall {f h N : Nat} {k : Nat → IntKind} {g : Nat → Int} {args0 args : List AV} {l : List Int} {s : St} {K : AV → St → Prop} (hT : AllT f args0 (.blk N k g) l)
    (ha : args = renL (rnm [(0, some h)]) args0) (hok : hokL 1 (rnm [(0, some h)]) args0 = true) (hg : s.get h = some (.blk N k g))
    (kk : openS s fun n m => K (.sl 1 n 0 l.length) ⟨n + 1, (n, some (.rowI .u16 l)) :: (h, some (.blk N k g)) :: (h, none) :: m⟩) : Tr Try.prog f args s K := by
  refine Tr.call [(0, some h)] hT ha hok ⟨⟨trivial, rfl, hg⟩, trivial⟩ rfl fun v0 s0 ⟨hv, hs⟩ => ?_
  subst hv; subst hs
  rw [openS_eq] at kk
  exact kk
set_option maxRecDepth 20000 in
theorem alike_tr (I : Img) : Tr Try.prog 40 [.ptr 0 0, .ptr 1 0] ⟨2, [(0, some (imC I)), (1, some (rmC I))]⟩ fun v s => v = .bool true ∧ s = ⟨2, [(0, some (imC I)), (1, some (rmC I))]⟩ := by
  refine Tr.norm (K := fun v s => v = .bool true ∧ s.get 0 = some (imC I) ∧ s.get 1 = some (rmC I)) (trF g40 b40 c40 ?_) fun v s ⟨hv, h0, h1⟩ => ⟨_, _, ?_, rfl, rfl⟩
  · conv => whnf
    refine loopI (α := {a : Nat // a ≤ 8}) (fun a => [(0, .ptr 0 0), (1, .ptr 1 0), (5, .int .i64 a.1)]) (fun a => ⟨2, [(0, some (imC I)), (1, some (rmC I))]⟩) (fun a => 8 - a.1) ⟨0, Nat.zero_le _⟩
        ⟨[], rfl, rfl, rfl, ⟨⟨rfl, rfl⟩, ⟨rfl, rfl⟩, ⟨rfl, rfl⟩, trivial⟩, ⟨⟨trivial, rfl, rfl⟩, ⟨trivial, rfl, rfl⟩, trivial⟩⟩ fun ⟨a, ha⟩ => ?_
    conv => whnf
    by_cases hlt : a < 8
    · have hr := szA_range a
      refine condY (by simp; omega) ?_
      conv => whnf
      refine allCall (All_tr I a) rfl rfl rfl ?_
      conv => whnf
      refine allCall (rAll_tr I a) rfl rfl rfl ?_
      conv => whnf
      refine Ev.look (hregs_same (allL I.o a) (by rw [allL_length]; omega)) rfl ⟨.le _ _ _ (.rowI rfl (by simp)) (by simp; exact Le.refl _), .le _ _ _ (.rowI rfl (by simp)) (by simp; exact Le.refl _), trivial⟩ ?_
      conv => whnf
      refine loopI (α := {i : Nat // i ≤ (szA a).toNat}) (fun i => [(0, .ptr 0 0), (1, .ptr 1 0), (5, .int .i64 a), (6, .sl 1 2 0 (szA a).toNat), (7, .int .i64 i.1)]) (fun i => ⟨3, [(2, some (.rowI .u16 (allL I.o a))), (0, some (imC I)), (1, some (rmC I))]⟩) (fun i => (szA a).toNat - i.1) ⟨0, Nat.zero_le _⟩
          ⟨[], rfl, rfl, rfl, ⟨⟨rfl, rfl⟩, ⟨rfl, rfl⟩, ⟨rfl, rfl⟩, ⟨?_, rfl⟩, ⟨rfl, rfl⟩, trivial⟩, ⟨⟨trivial, rfl, rfl⟩, ⟨trivial, rfl, rfl⟩, ⟨trivial, rfl, rfl⟩, trivial⟩⟩ fun ⟨i, hi⟩ => ?_
      · show AV.sl 1 2 0 (allL I.o a).length = AV.sl 1 2 0 (szA a).toNat
        rw [allL_length]
      · conv => whnf
        by_cases hlt2 : i < (szA a).toNat
        · refine condY (by simp; omega) ?_
          conv => whnf
          refine blkCall (Work_tr I a i) rfl rfl rfl ?_
          conv => whnf
          refine blkCall (rWork_tr I a i) rfl rfl rfl ?_
          conv => whnf
          refine condN (by simp) ?_
          conv => whnf
          refine condN (by simp) ?_
          conv => whnf
          refine ⟨⟨i + 1, hlt2⟩, ⟨[], rfl, rfl, rfl, ⟨⟨rfl, rfl⟩, ⟨rfl, rfl⟩, ⟨rfl, rfl⟩, ⟨rfl, rfl⟩, ⟨?_, rfl⟩, trivial⟩, ⟨⟨trivial, rfl, rfl⟩, ⟨trivial, rfl, rfl⟩, ⟨trivial, rfl, rfl⟩, trivial⟩⟩, by show (szA a).toNat - (i + 1) < (szA a).toNat - i; omega⟩
          show AV.int .i64 (IntKind.i64.wrap ((i : Int) + 1)) = AV.int .i64 ((i + 1 : Nat) : Int)
          rw [s64 (by omega)]
        · refine condN (by simp; omega) ?_
          conv => whnf
          refine ⟨⟨a + 1, hlt⟩, ⟨[], rfl, rfl, rfl, ⟨⟨rfl, rfl⟩, ⟨rfl, rfl⟩, ⟨?_, rfl⟩, trivial⟩, ⟨⟨trivial, rfl, rfl⟩, ⟨trivial, rfl, rfl⟩, trivial⟩⟩, by show 8 - (a + 1) < 8 - a; omega⟩
          show AV.int .i64 (IntKind.i64.wrap ((a : Int) + 1)) = AV.int .i64 ((a + 1 : Nat) : Int)
          rw [s64 (by omega)]
    · refine condN (by simp; omega) ?_
      conv => whnf
      refine blkCall (Scans_tr I) rfl rfl rfl ?_
      conv => whnf
      refine ⟨rfl, ?_⟩
      conv => whnf
      refine ⟨?_, rfl, rfl⟩
      show AV.bool (I.n == I.n) = _
      rw [beq_self_eq_true]
  · subst hv
    exact ⟨[], rfl, rfl, rfl, ⟨⟨rfl, rfl⟩, trivial⟩, ⟨⟨trivial, rfl, h0⟩, ⟨trivial, rfl, h1⟩, trivial⟩⟩
end Go.Proofs.Ytomodeliimnddaa
set_option linter.unusedVariables false
set_option linter.unusedSimpArgs false
namespace Go.Proofs.Ytomodeliimnddaa
open Go.Ab
theorem newCall {f N : Nat} {k : Nat → IntKind} {g : Nat → Int} {s : St} {K : AV → St → Prop} (hT : NewT f (.blk N k g)) (kk : openS s fun n m => K (.ptr n 0) ⟨n + 1, (n, some (.blk N k g)) :: m⟩) : Tr Try.prog f [] s K := by
  refine Tr.call [] hT rfl rfl trivial rfl fun v0 s0 ⟨hv, hs⟩ => ?_
  subst hv; subst hs
  rw [openS_eq] at kk
  exact kk
theorem copyCall {f h N : Nat} {k : Nat → IntKind} {g : Nat → Int} {s : St} {K : AV → St → Prop} (hT : CopyT f (.blk N k g) (.blk N k g)) (hg : s.get h = some (.blk N k g))
    (kk : openS s fun n m => K (.ptr n 0) ⟨n + 1, (n, some (.blk N k g)) :: (h, some (.blk N k g)) :: (h, none) :: m⟩) : Tr Try.prog f [.ptr h 0] s K := by
  refine Tr.call [(0, some h)] hT rfl rfl ⟨⟨trivial, rfl, hg⟩, trivial⟩ rfl fun v0 s0 ⟨hv, hs⟩ => ?_
  subst hv; subst hs
  rw [openS_eq] at kk
  exact kk
/-- two blocks that stay as they are, one value -/
theorem twoCall {f h h' N N' : Nat} {k k' : Nat → IntKind} {g g' : Nat → Int} {v0 : AV} {s : St} {K : AV → St → Prop} (hT : Tr Try.prog f [.ptr 0 0, .ptr 1 0] ⟨2, [(0, some (.blk N k g)), (1, some (.blk N' k' g'))]⟩ fun v s => v = v0 ∧ s = ⟨2, [(0, some (.blk N k g)), (1, some (.blk N' k' g'))]⟩)
    (hv0 : v0.hok 0 nor = true) (hne : Nat.beq h h' = false) (hg : s.get h = some (.blk N k g)) (hg' : s.get h' = some (.blk N' k' g'))
    (kk : openS s fun n m => K v0 ⟨n, (h, some (.blk N k g)) :: (h', some (.blk N' k' g')) :: (h, none) :: (h', none) :: m⟩) : Tr Try.prog f [.ptr h 0, .ptr h' 0] s K := by
  refine Tr.call [(0, some h), (1, some h')] hT rfl rfl ⟨⟨trivial, rfl, hg⟩, ⟨trivial, rfl, hg'⟩, trivial⟩ ?_ fun v1 s0 ⟨hv, hs⟩ => ?_
  · have hne' : Nat.beq h' h = false := by
      rw [Bool.eq_false_iff] at hne ⊢
      exact fun e => hne (by rw [Nat.eq_of_beq_eq_true e]; exact Nat.beq_refl _)
    show nodupN [h, h'] = true
    simp [nodupN, memN, hne']
  · subst hv; subst hs
    rw [openS_eq] at kk
    rw [ren_pure v1 hv0]
    exact kk
theorem map_getD {α : Type} {S : List α} {f : α → AV} {i : Nat} (h : i < S.length) : ∃ x ∈ S, (S.map f).getD i .undef = f x :=
  ⟨S[i], List.getElem_mem h, by simp [List.getD_eq_getElem?_getD, h]⟩
theorem allL_len (f : Nat → Nat → Int) (a : Int) : (allL f a).length ≤ 100000 := by
  rw [allL_length]
  have := szA_range a
  omega
theorem sameRows {g : Nat → Option Chunk} {h h' : Nat} {l : List Int} (h1 : g h = some (.rowI .u16 l)) (h2 : g h' = some (.rowI .u16 l)) : SeeL g [.sl 1 h 0 l.length, .sl 1 h' 0 l.length] [.roI .u16 l, .roI .u16 l] := by
  refine ⟨.le _ _ _ (.rowI h1 (by simp)) ?_, .le _ _ _ (.rowI h2 (by simp)) ?_, trivial⟩
  all_goals
    simp
    exact Le.refl _
end Go.Proofs.Ytomodeliimnddaa
