/- The plain image: values by areas and places, and how they lie in the program's object and in the document's. Contracts: package image: the small functions. Contracts: the document's image: the small functions. Contracts: images: whole buffers. Contracts: images: areas as rows; are two images alike? Calls on images; rows of images. -/
import Derived.Test.YtomodeliimnddaaHEngD
set_option linter.unusedVariables false
set_option linter.unusedSimpArgs false
namespace Go.Proofs.Ytomodeliimnddaa
open Go.Ab
def szA (a : Int) : Int := if a = 1 then 128 else if a = 2 then 128 else if a = 3 then 128 else if a = 4 then 64 else if a = 5 then 64 else if a = 6 then 64 else 0
def offA (a : Int) : Nat := if a = 1 then 0 else if a = 2 then 128 else if a = 3 then 256 else if a = 4 then 384 else if a = 5 then 448 else 512
def bitP (a : Int) : Bool := a == 1 || a == 2 || a == 3
def inA (a i : Int) : Bool := decide (0 ≤ i) && decide (i < szA a)
structure Img where
  o : Nat → Nat → Int
  w : Nat → Nat → Int
  n : Int
def set2 (f : Nat → Nat → Int) (a i : Nat) (v : Int) : Nat → Nat → Int := fun b j => if b = a ∧ j = i then v else f b j
def bitV (a v : Int) : Int := if bitP a && v != 0 then 1 else v
def putO (f : Nat → Nat → Int) (a i v : Int) : Nat → Nat → Int := if inA a i then set2 f a.toNat i.toNat (bitV a v) else f
def Img.put (I : Img) (a i v : Int) : Img := ⟨putO I.o a i v, I.w, I.n⟩
def Img.set (I : Img) (a i v : Int) : Img := ⟨I.o, putO I.w a i v, I.n⟩
def Img.zero : Img := ⟨fun _ _ => 0, fun _ _ => 0, 0⟩
def getV (f : Nat → Nat → Int) (a i : Int) : Int := if inA a i then f a.toNat i.toNat else 0
def getE (a i : Int) : Int := if inA a i then 0 else 110
def allL (f : Nat → Nat → Int) (a : Int) : List Int := (List.range (szA a).toNat).map fun i => f a.toNat i
theorem szA_cases (a : Int) : (a = 1 ∨ a = 2 ∨ a = 3 ∨ a = 4 ∨ a = 5 ∨ a = 6) ∨ (szA a = 0 ∧ a ≠ 1 ∧ a ≠ 2 ∧ a ≠ 3 ∧ a ≠ 4 ∧ a ≠ 5 ∧ a ≠ 6) := by
  unfold szA
  by_cases h1 : a = 1
  · exact .inl (.inl h1)
  by_cases h2 : a = 2
  · exact .inl (by simp [h2])
  by_cases h3 : a = 3
  · exact .inl (by simp [h3])
  by_cases h4 : a = 4
  · exact .inl (by simp [h4])
  by_cases h5 : a = 5
  · exact .inl (by simp [h5])
  by_cases h6 : a = 6
  · exact .inl (by simp [h6])
  exact .inr ⟨by simp [h1, h2, h3, h4, h5, h6], h1, h2, h3, h4, h5, h6⟩
theorem szA_range (a : Int) : 0 ≤ szA a ∧ szA a ≤ 128 := by
  rcases szA_cases a with h | h
  · rcases h with rfl | rfl | rfl | rfl | rfl | rfl <;> decide
  · omega
theorem offA_le (a : Int) : offA a + (szA a).toNat ≤ 576 := by
  rcases szA_cases a with h | h
  · rcases h with rfl | rfl | rfl | rfl | rfl | rfl <;> decide
  · rw [h.1]; unfold offA; split <;> (try omega); split <;> (try omega); split <;> (try omega); split <;> (try omega); split <;> omega
theorem inA_iff {a i : Int} : inA a i = true ↔ 0 ≤ i ∧ i < szA a := by simp [inA]
theorem inA_area {a i : Int} (h : inA a i = true) : (a = 1 ∨ a = 2 ∨ a = 3 ∨ a = 4 ∨ a = 5 ∨ a = 6) ∧ 0 ≤ i ∧ i < szA a := by
  obtain ⟨h1, h2⟩ := inA_iff.1 h
  rcases szA_cases a with h3 | h3
  · exact ⟨h3, h1, h2⟩
  · omega
theorem allL_length (f : Nat → Nat → Int) (a : Int) : (allL f a).length = (szA a).toNat := by simp [allL]
/-! ### the program's object -/
def arO (j : Nat) : Nat := if j < 128 then 1 else if j < 256 then 2 else if j < 384 then 3 else if j < 448 then 4 else if j < 512 then 5 else 6
def ixO (j : Nat) : Nat := if j < 384 then j % 128 else (j - 384) % 64
def pK (j : Nat) : IntKind := if j < 1152 then .u16 else if j = 1152 then .u64 else .i64
def pG (I : Img) (j : Nat) : Int := if j < 576 then I.o (arO j) (ixO j) else if j < 1152 then I.w (arO (j - 576)) (ixO (j - 576)) else if j = 1152 then I.n else 0
def imC (I : Img) : Chunk := .blk 1153 pK (pG I)
/-! ### the document's -/
def rK (j : Nat) : IntKind := if j < 1792 then .u16 else if j = 1792 then .u64 else .i64
def rG (I : Img) (j : Nat) : Int := if j < 896 then I.o (j / 128) (j % 128) else if j < 1792 then I.w ((j - 896) / 128) ((j - 896) % 128) else if j = 1792 then I.n else 0
def rmC (I : Img) : Chunk := .blk 1793 rK (rG I)
theorem beq_ne {a b : Nat} (h : a ≠ b) : Nat.beq a b = false := by
  rw [Bool.eq_false_iff]
  exact fun e => h (Nat.eq_of_beq_eq_true e)
theorem pK_16 {j : Nat} (h : j < 1152) : pK j = .u16 := by
  unfold pK
  rw [if_pos h]
theorem rK_16 {j : Nat} (h : j < 1792) : rK j = .u16 := by
  unfold rK
  rw [if_pos h]
theorem pos_o {a i : Int} (h : inA a i = true) : arO (offA a + i.toNat) = a.toNat ∧ ixO (offA a + i.toNat) = i.toNat ∧ offA a + i.toNat < 576 := by
  obtain ⟨h1, h2, h3⟩ := inA_area h
  obtain ⟨k, rfl⟩ := Int.eq_ofNat_of_zero_le h2
  simp only [Int.toNat_natCast]
  rcases h1 with rfl | rfl | rfl | rfl | rfl | rfl <;> simp [szA] at h3 <;> simp [offA, arO, ixO] <;> (repeat' split) <;> omega
theorem pos_inj {a i : Int} (h : inA a i = true) {j : Nat} (hj : j < 576) : (arO j = a.toNat ∧ ixO j = i.toNat) ↔ j = offA a + i.toNat := by
  obtain ⟨h1, h2, h3⟩ := inA_area h
  obtain ⟨k, rfl⟩ := Int.eq_ofNat_of_zero_le h2
  simp only [Int.toNat_natCast]
  rcases h1 with rfl | rfl | rfl | rfl | rfl | rfl <;> simp [szA] at h3 <;> simp [offA, arO, ixO] <;> (repeat' split) <;> omega
theorem upd_same {α : Type} {f : Nat → α} {p : Nat} {x : α} (h : f p = x) : upd f p x = f := by
  funext j
  unfold upd
  by_cases hj : j = p
  · subst hj; rw [Nat.beq_refl, cond_true, h]
  · rw [beq_ne hj, cond_false]
theorem upd_eq {α : Type} {f : Nat → α} {p : Nat} {x : α} (j : Nat) : upd f p x j = if j = p then x else f j := by
  unfold upd
  by_cases hj : j = p
  · subst hj; rw [Nat.beq_refl, cond_true, if_pos rfl]
  · rw [beq_ne hj, cond_false, if_neg hj]
theorem rK_upd {p : Nat} (h : p < 1792) : upd rK p .u16 = rK := upd_same (rK_16 h)
theorem pG_put (I : Img) {a i v : Int} (h : inA a i = true) : upd (pG I) (0 + offA a + i.toNat) (bitV a v) = pG (I.put a i v) := by
  obtain ⟨h1, h2, h3⟩ := pos_o h
  funext j
  rw [upd_eq]
  simp only [pG, Img.put, putO, h, if_true, set2]
  by_cases hj : j < 576
  · have := pos_inj h hj
    rw [if_pos hj, if_pos hj]
    by_cases he : j = 0 + offA a + i.toNat
    · rw [if_pos he, if_pos (this.2 (by omega))]
    · rw [if_neg he, if_neg (fun e => he (by have := this.1 e; omega))]
  · rw [if_neg (by omega), if_neg hj, if_neg hj]
theorem pG_o (I : Img) {a i : Int} (h : inA a i = true) : pG I (0 + offA a + i.toNat) = I.o a.toNat i.toNat := by
  obtain ⟨h1, h2, h3⟩ := pos_o h
  rw [Nat.zero_add]
  unfold pG
  rw [if_pos h3, h1, h2]
theorem rpos {a i : Int} (h : inA a i = true) : a.toNat ≤ 6 ∧ i.toNat < 128 := by
  obtain ⟨h1, h2, h3⟩ := inA_area h
  have := szA_range a
  omega
theorem rG_o (I : Img) {a i : Int} (h : inA a i = true) : rG I (0 + a.toNat * 128 + i.toNat) = I.o a.toNat i.toNat := by
  obtain ⟨h1, h2⟩ := rpos h
  unfold rG
  rw [if_pos (by omega), show (0 + a.toNat * 128 + i.toNat) / 128 = a.toNat by omega, show (0 + a.toNat * 128 + i.toNat) % 128 = i.toNat by omega]
theorem rG_put (I : Img) {a i v : Int} (h : inA a i = true) : upd (rG I) (0 + a.toNat * 128 + i.toNat) (bitV a v) = rG (I.put a i v) := by
  obtain ⟨h1, h2⟩ := rpos h
  funext j
  rw [upd_eq]
  simp only [rG, Img.put, putO, h, if_true, set2]
  by_cases hj : j < 896
  · rw [if_pos hj, if_pos hj]
    by_cases he : j = 0 + a.toNat * 128 + i.toNat
    · rw [if_pos he, if_pos (by omega)]
    · rw [if_neg he, if_neg (by omega)]
  · rw [if_neg (by omega), if_neg hj, if_neg hj]
/-! ### calls on one block -/
theorem blkCall {P : Program} {f h N : Nat} {k k' : Nat → IntKind} {g g' : Nat → Int} {args0 args : List AV} {v0 : AV} {s : St} {K : AV → St → Prop}
    (hT : Tr P f args0 ⟨1, [(0, some (.blk N k g))]⟩ fun v s => v = v0 ∧ s = ⟨1, [(0, some (.blk N k' g'))]⟩)
    (ha : args = renL (rnm [(0, some h)]) args0) (hok : hokL 1 (rnm [(0, some h)]) args0 = true) (hg : s.get h = some (.blk N k g))
    (kk : openS s fun n m => K (v0.ren (back (rnm [(0, some h)]) 1 n)) ⟨n, (h, some (.blk N k' g')) :: (h, none) :: m⟩) : Tr P f args s K := by
  refine Tr.call [(0, some h)] hT ha hok ⟨⟨trivial, rfl, hg⟩, trivial⟩ rfl fun v0' s0 ⟨hv, hs⟩ => ?_
  subst hv; subst hs
  rw [openS_eq] at kk
  exact kk
end Go.Proofs.Ytomodeliimnddaa
set_option linter.unusedVariables false
set_option linter.unusedSimpArgs false
namespace Go.Proofs.Ytomodeliimnddaa
open Go.Ab
def a102 : ACode := (.seq (.reg [(iO 4 (.mov (.c .nils)))])
 (.seq (.seq (.reg [(iM 5 1)])
 (.block 0 (.seq (.reg [(iO 7 (.bin .eql .other (.t 5) (.c (.int .i64 1)))), (iM 6 7)])
 (.cond (.t 6) (.seq (.reg [(iM 8 0), (iN 9 8), (iO 10 (.fld 0 128 true (.t 9))), (iO 11 (.slice (.arr 128 1) (.t 10) none none)), (iM 4 11)])
 .ret)
 (.seq (.reg [(iO 13 (.bin .eql .other (.t 5) (.c (.int .i64 2)))), (iM 12 13)])
 (.cond (.t 12) (.seq (.reg [(iM 14 0), (iN 15 14), (iO 16 (.fld 128 128 true (.t 15))), (iO 17 (.slice (.arr 128 1) (.t 16) none none)), (iM 4 17)])
 .ret)
 (.seq (.reg [(iO 19 (.bin .eql .other (.t 5) (.c (.int .i64 3)))), (iM 18 19)])
 (.cond (.t 18) (.seq (.reg [(iM 20 0), (iN 21 20), (iO 22 (.fld 256 128 true (.t 21))), (iO 23 (.slice (.arr 128 1) (.t 22) none none)), (iM 4 23)])
 .ret)
 (.seq (.reg [(iO 25 (.bin .eql .other (.t 5) (.c (.int .i64 4)))), (iM 24 25)])
 (.cond (.t 24) (.seq (.reg [(iM 26 0), (iN 27 26), (iO 28 (.fld 384 64 true (.t 27))), (iO 29 (.slice (.arr 64 1) (.t 28) none none)), (iM 4 29)])
 .ret)
 (.seq (.reg [(iO 31 (.bin .eql .other (.t 5) (.c (.int .i64 5)))), (iM 30 31)])
 (.cond (.t 30) (.seq (.reg [(iM 32 0), (iN 33 32), (iO 34 (.fld 448 64 true (.t 33))), (iO 35 (.slice (.arr 64 1) (.t 34) none none)), (iM 4 35)])
 .ret)
 (.seq (.reg [(iO 37 (.bin .eql .other (.t 5) (.c (.int .i64 6)))), (iM 36 37)])
 (.cond (.t 36) (.seq (.reg [(iM 38 0), (iN 39 38), (iO 40 (.fld 512 64 true (.t 39))), (iO 41 (.slice (.arr 64 1) (.t 40) none none)), (iM 4 41)])
 .ret)
 .skip))))))))))))))
 (.seq (.reg [(iO 4 (.mov (.c .nils)))])
 .ret)))
def r102 : List ARes := [.t 4]
theorem c102 : compF Try.prog Try.f102 = some (a102, r102) := by kernel_rfl
theorem b102 : hasBody Try.prog 102 = true := by kernel_rfl
theorem g102 : Try.prog.funcs[102]? = some Try.f102 := by kernel_rfl
def a108 : ACode := (.seq (.reg [(iO 6 (.mov (.c (.int .u16 0)))), (iO 7 (.mov (.c (.int .i64 0))))])
 (.seq (.reg [(iM 9 0), (iM 10 1), (iO 11 (.call 102 [(.t 9), (.t 10)])), (iM 8 11)])
 (.seq (.seq (.reg [(iM 12 2), (iO 13 (.bin .lss .other (.t 12) (.c (.int .i64 0)))), ⟨(some 14), .mov (.t 13), none, true⟩, (iG 15 (.mov (.t 2)) 14 false), (iG 16 (.mov (.t 8)) 14 false), (iG 17 (.len false (.t 16)) 14 false), (iG 18 (.bin .geq .other (.t 15) (.t 17)) 14 false), (iO 19 (.pick (.t 14) (.c (.bool true)) (.t 18)))])
 (.cond (.t 19) (.seq (.reg [(iO 6 (.mov (.c (.int .u16 0)))), (iO 7 (.mov (.c (.int .i64 110))))])
 .ret)
 .skip))
 (.seq (.reg [(iM 20 8), (iM 21 2), (iO 22 (.idx 1 none false (.t 20) (.t 21))), (iL 23 22), (iM 6 23), (iO 7 (.mov (.c (.int .i64 0))))])
 .ret))))
def r108 : List ARes := [.t 6, .t 7]
theorem c108 : compF Try.prog Try.f108 = some (a108, r108) := by kernel_rfl
theorem b108 : hasBody Try.prog 108 = true := by kernel_rfl
theorem g108 : Try.prog.funcs[108]? = some Try.f108 := by kernel_rfl
def a98 : ACode := (.seq (.reg [(iO 8 (.mov (.c (.int .i64 0))))])
 (.seq (.reg [(iM 10 0), (iM 11 1), (iO 12 (.call 102 [(.t 10), (.t 11)])), (iM 9 12)])
 (.seq (.seq (.reg [(iM 13 2), (iO 14 (.bin .lss .other (.t 13) (.c (.int .i64 0)))), ⟨(some 15), .mov (.t 14), none, true⟩, (iG 16 (.mov (.t 2)) 15 false), (iG 17 (.mov (.t 9)) 15 false), (iG 18 (.len false (.t 17)) 15 false), (iG 19 (.bin .geq .other (.t 16) (.t 18)) 15 false), (iO 20 (.pick (.t 15) (.c (.bool true)) (.t 19)))])
 (.cond (.t 20) (.seq (.reg [(iO 8 (.mov (.c (.int .i64 110))))])
 .ret)
 .skip))
 (.seq (.seq (.reg [(iM 21 1), (iO 22 (.call 141 [(.t 21)]))])
 (.cond (.t 22) (.reg [(iM 23 3), (iO 24 (.mn (.t 23) (.c (.int .u16 1)))), (iM 3 24)])
 .skip))
 (.seq (.reg [(iM 25 9), (iM 26 2), (iM 27 3), (iO 28 (.idx 1 none false (.t 25) (.t 26))), ⟨none, .store 1 (.t 28) (.t 27), none, false⟩])
 (.seq (.reg [(iO 8 (.mov (.c (.int .i64 0))))])
 .ret))))))
def r98 : List ARes := [.t 8]
theorem c98 : compF Try.prog Try.f98 = some (a98, r98) := by kernel_rfl
theorem b98 : hasBody Try.prog 98 = true := by kernel_rfl
theorem g98 : Try.prog.funcs[98]? = some Try.f98 := by kernel_rfl
def a141 : ACode := (.seq (.reg [(iO 2 (.mov (.c (.bool false))))])
 (.seq (.seq (.reg [(iM 3 0)])
 (.block 0 (.seq (.seq (.reg [(iO 5 (.bin .eql .other (.t 3) (.c (.int .i64 1)))), (iM 4 5)])
 (.cond (.t 4) .skip
 (.seq (.reg [(iO 6 (.bin .eql .other (.t 3) (.c (.int .i64 2)))), (iM 4 6)])
 (.cond (.t 4) .skip
 (.reg [(iO 7 (.bin .eql .other (.t 3) (.c (.int .i64 3)))), (iM 4 7)])))))
 (.cond (.t 4) (.seq (.reg [(iO 2 (.mov (.c (.bool true))))])
 .ret)
 .skip))))
 (.seq (.reg [(iO 2 (.mov (.c (.bool false))))])
 .ret)))
def r141 : List ARes := [.t 2]
theorem c141 : compF Try.prog Try.f141 = some (a141, r141) := by kernel_rfl
theorem b141 : hasBody Try.prog 141 = true := by kernel_rfl
theorem g141 : Try.prog.funcs[141]? = some Try.f141 := by kernel_rfl
def a44 : ACode := (.seq (.reg [(iO 6 (.mov (.c (.int .u16 0)))), (iO 7 (.mov (.c (.int .i64 0))))])
 (.seq (.reg [(iM 8 0), (iN 9 8), (iO 10 (.fld 0 576 true (.t 9))), (iM 11 1), (iM 12 2), (iO 13 (.call 108 [(.t 10), (.t 11), (.t 12)])), (iO 14 (.ext (.t 13) 0)), (iO 15 (.ext (.t 13) 1)), (iM 6 14), (iM 7 15)])
 .ret))
def r44 : List ARes := [.t 6, .t 7]
theorem c44 : compF Try.prog Try.f44 = some (a44, r44) := by kernel_rfl
theorem b44 : hasBody Try.prog 44 = true := by kernel_rfl
theorem g44 : Try.prog.funcs[44]? = some Try.f44 := by kernel_rfl
def a29 : ACode := (.seq (.reg [(iO 8 (.mov (.c (.int .i64 0))))])
 (.seq (.reg [(iM 9 0), (iN 10 9), (iO 11 (.fld 0 576 true (.t 10))), (iM 12 1), (iM 13 2), (iM 14 3), (iO 15 (.call 98 [(.t 11), (.t 12), (.t 13), (.t 14)])), (iM 8 15)])
 .ret))
def r29 : List ARes := [.t 8]
theorem c29 : compF Try.prog Try.f29 = some (a29, r29) := by kernel_rfl
theorem b29 : hasBody Try.prog 29 = true := by kernel_rfl
theorem g29 : Try.prog.funcs[29]? = some Try.f29 := by kernel_rfl
abbrev BlkT (f : Nat) (args : List AV) (N : Nat) (k : Nat → IntKind) (g : Nat → Int) (v0 : AV) (k' : Nat → IntKind) (g' : Nat → Int) : Prop :=
  Tr Try.prog f args ⟨1, [(0, some (.blk N k g))]⟩ fun v s => v = v0 ∧ s = ⟨1, [(0, some (.blk N k' g'))]⟩
theorem blkNorm {f N : Nat} {args : List AV} {k k' : Nat → IntKind} {g g' : Nat → Int} {v0 : AV} (h1 : v0.ren (rnm []) = v0) (h2 : v0.hok 1 (rnm []) = true)
    (h : Tr Try.prog f args ⟨1, [(0, some (.blk N k g))]⟩ fun v s => v = v0 ∧ s.get 0 = some (.blk N k' g')) : BlkT f args N k g v0 k' g' := by
  refine Tr.norm h fun v s ⟨hv, hs⟩ => ⟨v0, ⟨1, [(0, some (.blk N k' g'))]⟩, ?_, rfl, rfl⟩
  subst hv
  exact ⟨[], rfl, rfl, rfl, ⟨⟨h1.symm, h2⟩, trivial⟩, ⟨⟨trivial, rfl, hs⟩, trivial⟩⟩
theorem area_sl (a : Int) (base N : Nat) (k : Nat → IntKind) (g : Nat → Int) (hb : base + 576 ≤ N) (ha : a = 1 ∨ a = 2 ∨ a = 3 ∨ a = 4 ∨ a = 5 ∨ a = 6) :
    BlkT 102 [.ptr 0 base, .int .i64 a] N k g (.sl 1 0 (base + offA a) (szA a).toNat) k g := by
  rcases ha with rfl | rfl | rfl | rfl | rfl | rfl
  all_goals
    refine trF g102 b102 c102 ?_
    conv => whnf
    refine condT (by simp [Chunk.size]; omega) ?_
    conv => whnf
    exact ⟨rfl, rfl⟩
theorem area_nil (a : Int) (base N : Nat) (k : Nat → IntKind) (g : Nat → Int) (ha : a ≠ 1 ∧ a ≠ 2 ∧ a ≠ 3 ∧ a ≠ 4 ∧ a ≠ 5 ∧ a ≠ 6) :
    BlkT 102 [.ptr 0 base, .int .i64 a] N k g .nils k g := by
  obtain ⟨h1, h2, h3, h4, h5, h6⟩ := ha
  refine trF g102 b102 c102 ?_
  conv => whnf
  refine condN (by simpa using h1) ?_
  conv => whnf
  refine condN (by simpa using h2) ?_
  conv => whnf
  refine condN (by simpa using h3) ?_
  conv => whnf
  refine condN (by simpa using h4) ?_
  conv => whnf
  refine condN (by simpa using h5) ?_
  conv => whnf
  refine condN (by simpa using h6) ?_
  conv => whnf
  exact ⟨rfl, rfl⟩
theorem bit_ev (a : Int) : Ev Try.prog 141 [.int .i64 a] (.bool (bitP a)) := by
  refine ⟨rfl, trF g141 b141 c141 ?_⟩
  conv => whnf
  unfold bitP
  repeat' (first
    | (refine condY (by assumption) ?_; conv => whnf)
    | (refine condN (by assumption) ?_; conv => whnf)
    | (refine condF (fun h => ?_) (fun h => ?_) <;> conv => whnf))
  all_goals exact ⟨by simp_all, rfl⟩
theorem bget_in (a i : Int) (base N : Nat) (k : Nat → IntKind) (g : Nat → Int) (hb : base + 576 ≤ N) (h : inA a i = true) :
    BlkT 108 [.ptr 0 base, .int .i64 a, .int .i64 i] N k g (.tup [.int (k (base + offA a + i.toNat)) (g (base + offA a + i.toNat)), .int .i64 0]) k g := by
  obtain ⟨h1, h2, h3⟩ := inA_area h
  have h4 := offA_le a
  refine blkNorm rfl rfl (trF g108 b108 c108 ?_)
  conv => whnf
  refine blkCall (area_sl a base N k g hb h1) rfl rfl rfl ?_
  conv => whnf
  refine condN (by simp; omega) ?_
  conv => whnf
  refine condN (by simp; omega) ?_
  conv => whnf
  refine condT (by simp [Chunk.ld, Chunk.size, AV.flat, AV.one]; omega) ?_
  conv => whnf
  refine condT (by simp [Chunk.ld, Chunk.size, AV.flat, AV.one]; omega) ?_
  conv => whnf
  exact ⟨by rw [Nat.mul_one], rfl⟩
theorem bget_no (a i : Int) (base N : Nat) (k : Nat → IntKind) (g : Nat → Int) (hb : base + 576 ≤ N) (h : inA a i = false) :
    BlkT 108 [.ptr 0 base, .int .i64 a, .int .i64 i] N k g (.tup [.int .u16 0, .int .i64 110]) k g := by
  have h' : ¬ (0 ≤ i ∧ i < szA a) := fun e => by rw [inA_iff.2 e] at h; cases h
  refine blkNorm rfl rfl (trF g108 b108 c108 ?_)
  conv => whnf
  rcases szA_cases a with ha | ha
  · refine blkCall (area_sl a base N k g hb ha) rfl rfl rfl ?_
    conv => whnf
    refine condF (fun h1 => ?_) (fun h1 => ?_)
    · conv => whnf
      refine condY (by simp at h1 ⊢; omega) ?_
      conv => whnf
      exact ⟨rfl, rfl⟩
    · conv => whnf
      exact ⟨rfl, rfl⟩
  · refine blkCall (area_nil a base N k g ha.2) rfl rfl rfl ?_
    conv => whnf
    refine condF (fun h1 => ?_) (fun h1 => ?_)
    · conv => whnf
      refine condY (by simp at h1 ⊢; omega) ?_
      conv => whnf
      exact ⟨rfl, rfl⟩
    · conv => whnf
      exact ⟨rfl, rfl⟩
theorem bput_in (a i v : Int) (base N : Nat) (k : Nat → IntKind) (g : Nat → Int) (hb : base + 576 ≤ N) (h : inA a i = true) (hv : 0 ≤ v) (hk : k (base + offA a + i.toNat) = .u16) :
    BlkT 98 [.ptr 0 base, .int .i64 a, .int .i64 i, .int .u16 v] N k g (.int .i64 0) k (upd g (base + offA a + i.toNat) (bitV a v)) := by
  obtain ⟨h1, h2, h3⟩ := inA_area h
  have h4 := offA_le a
  refine blkNorm rfl rfl (trF g98 b98 c98 ?_)
  conv => whnf
  refine blkCall (area_sl a base N k g hb h1) rfl rfl rfl ?_
  conv => whnf
  refine condN (by simp; omega) ?_
  conv => whnf
  refine condN (by simp; omega) ?_
  conv => whnf
  refine Ev.call (bit_ev a) ?_
  conv => whnf
  refine condF (fun h5 => ?_) (fun h5 => ?_)
  all_goals
    conv => whnf
    refine condT (by simp [Chunk.ld, Chunk.size, AV.flat, AV.one]; omega) ?_
    conv => whnf
    refine condT (by simp [Chunk.ld, Chunk.size, AV.flat, AV.one]; omega) ?_
    conv => whnf
    refine ⟨rfl, ?_⟩
  · show some (Chunk.blk N (upd k (base + offA a + i.toNat * 1) .u16) (upd g (base + offA a + i.toNat * 1) v)) = _
    rw [Nat.mul_one, upd_same hk, bitV, h5]
    simp
  · show some (Chunk.blk N (upd k (base + offA a + i.toNat * 1) .u16) (upd g (base + offA a + i.toNat * 1) (if 1 < v then 1 else v))) = _
    rw [Nat.mul_one, upd_same hk, bitV, h5]
    have : (if 1 < v then 1 else v) = if (true && v != 0) = true then 1 else v := by
      by_cases h6 : v = 0
      · subst h6; rfl
      · by_cases h7 : 1 < v
        · rw [if_pos h7]; simp [h6]
        · have : v = 1 := by omega
          subst this; rfl
    rw [this]
theorem bput_no (a i v : Int) (base N : Nat) (k : Nat → IntKind) (g : Nat → Int) (hb : base + 576 ≤ N) (h : inA a i = false) :
    BlkT 98 [.ptr 0 base, .int .i64 a, .int .i64 i, .int .u16 v] N k g (.int .i64 110) k g := by
  have h' : ¬ (0 ≤ i ∧ i < szA a) := fun e => by rw [inA_iff.2 e] at h; cases h
  refine blkNorm rfl rfl (trF g98 b98 c98 ?_)
  conv => whnf
  rcases szA_cases a with ha | ha
  · refine blkCall (area_sl a base N k g hb ha) rfl rfl rfl ?_
    conv => whnf
    refine condF (fun h1 => ?_) (fun h1 => ?_)
    · conv => whnf
      refine condY (by simp at h1 ⊢; omega) ?_
      conv => whnf
      exact ⟨rfl, rfl⟩
    · conv => whnf
      exact ⟨rfl, rfl⟩
  · refine blkCall (area_nil a base N k g ha.2) rfl rfl rfl ?_
    conv => whnf
    refine condF (fun h1 => ?_) (fun h1 => ?_)
    · conv => whnf
      refine condY (by simp at h1 ⊢; omega) ?_
      conv => whnf
      exact ⟨rfl, rfl⟩
    · conv => whnf
      exact ⟨rfl, rfl⟩
/-! ### of an image -/
abbrev ImT (f : Nat) (args : List AV) (I : Img) (v0 : AV) (J : Img) : Prop :=
  Tr Try.prog f args ⟨1, [(0, some (imC I))]⟩ fun v s => v = v0 ∧ s = ⟨1, [(0, some (imC J))]⟩
theorem Get_tr (I : Img) (a i : Int) : ImT 44 [.ptr 0 0, .int .i64 a, .int .i64 i] I (.tup [.int .u16 (getV I.o a i), .int .i64 (getE a i)]) I := by
  refine blkNorm rfl rfl (trF g44 b44 c44 ?_)
  conv => whnf
  cases h : inA a i with
  | true =>
    refine blkCall (bget_in a i 0 1153 pK (pG I) (by decide) h) rfl rfl rfl ?_
    conv => whnf
    refine ⟨?_, rfl⟩
    have h4 := offA_le a
    obtain ⟨h1, h2, h3⟩ := inA_area h
    rw [pG_o I h, pK_16 (by omega), getV, getE, h]; rfl
  | false =>
    refine blkCall (bget_no a i 0 1153 pK (pG I) (by decide) h) rfl rfl rfl ?_
    conv => whnf
    refine ⟨?_, rfl⟩
    rw [getV, getE, h]; rfl
theorem Put_tr (I : Img) (a i v : Int) (hv : 0 ≤ v) : ImT 29 [.ptr 0 0, .int .i64 a, .int .i64 i, .int .u16 v] I (.int .i64 (getE a i)) (I.put a i v) := by
  refine blkNorm rfl rfl (trF g29 b29 c29 ?_)
  conv => whnf
  cases h : inA a i with
  | true =>
    have h4 := offA_le a
    obtain ⟨h1, h2, h3⟩ := inA_area h
    refine blkCall (bput_in a i v 0 1153 pK (pG I) (by decide) h hv (pK_16 (by omega))) rfl rfl rfl ?_
    conv => whnf
    refine ⟨by rw [getE, h]; rfl, ?_⟩
    show some (Chunk.blk 1153 pK (upd (pG I) (0 + offA a + i.toNat) (bitV a v))) = _
    rw [pG_put I h]
  | false =>
    refine blkCall (bput_no a i v 0 1153 pK (pG I) (by decide) h) rfl rfl rfl ?_
    conv => whnf
    refine ⟨by rw [getE, h]; rfl, ?_⟩
    show some (imC I) = some (imC (I.put a i v))
    rw [show I.put a i v = I by simp [Img.put, putO, h]]
end Go.Proofs.Ytomodeliimnddaa
set_option linter.unusedVariables false
set_option linter.unusedSimpArgs false
namespace Go.Proofs.Ytomodeliimnddaa
open Go.Ab
def a99 : ACode := (.seq (.reg [(iO 4 (.mov (.c (.bool false))))])
 (.seq (.reg [(iM 5 1), (iO 6 (.bin .geq .other (.t 5) (.c (.int .i64 0)))), ⟨(some 7), .mov (.t 6), none, true⟩, (iG 8 (.mov (.t 1)) 7 true), (iG 9 (.mov (.t 0)) 7 true), (iG 10 (.call 103 [(.t 9)]) 7 true), (iG 11 (.bin .lss .other (.t 8) (.t 10)) 7 true), (iO 12 (.pick (.t 7) (.t 11) (.c (.bool false)))), (iM 4 12)])
 .ret))
def r99 : List ARes := [.t 4]
theorem c99 : compF Try.prog Try.f99 = some (a99, r99) := by kernel_rfl
theorem b99 : hasBody Try.prog 99 = true := by kernel_rfl
theorem g99 : Try.prog.funcs[99]? = some Try.f99 := by kernel_rfl
def a100 : ACode := (.seq (.reg [(iO 4 (.mov (.c (.int .u16 0))))])
 (.seq (.seq (.reg [(iM 5 0), (iO 6 (.call 142 [(.t 5)])), ⟨(some 7), .mov (.t 6), none, true⟩, (iG 8 (.mov (.t 1)) 7 true), (iG 9 (.bin .neq .other (.t 8) (.c (.int .u16 0))) 7 true), (iO 10 (.pick (.t 7) (.t 9) (.c (.bool false))))])
 (.cond (.t 10) (.seq (.reg [(iO 4 (.mov (.c (.int .u16 1))))])
 .ret)
 .skip))
 (.seq (.reg [(iM 11 1), (iM 4 11)])
 .ret)))
def r100 : List ARes := [.t 4]
theorem c100 : compF Try.prog Try.f100 = some (a100, r100) := by kernel_rfl
theorem b100 : hasBody Try.prog 100 = true := by kernel_rfl
theorem g100 : Try.prog.funcs[100]? = some Try.f100 := by kernel_rfl
def a103 : ACode := (.seq (.reg [(iO 2 (.mov (.c (.int .i64 0))))])
 (.seq (.seq (.reg [(iM 3 0)])
 (.block 0 (.seq (.seq (.reg [(iO 5 (.bin .eql .other (.t 3) (.c (.int .i64 1)))), (iM 4 5)])
 (.cond (.t 4) .skip
 (.seq (.reg [(iO 6 (.bin .eql .other (.t 3) (.c (.int .i64 2)))), (iM 4 6)])
 (.cond (.t 4) .skip
 (.reg [(iO 7 (.bin .eql .other (.t 3) (.c (.int .i64 3)))), (iM 4 7)])))))
 (.cond (.t 4) (.seq (.reg [(iO 2 (.mov (.c (.int .i64 128))))])
 .ret)
 (.seq (.seq (.reg [(iO 9 (.bin .eql .other (.t 3) (.c (.int .i64 4)))), (iM 8 9)])
 (.cond (.t 8) .skip
 (.seq (.reg [(iO 10 (.bin .eql .other (.t 3) (.c (.int .i64 5)))), (iM 8 10)])
 (.cond (.t 8) .skip
 (.reg [(iO 11 (.bin .eql .other (.t 3) (.c (.int .i64 6)))), (iM 8 11)])))))
 (.cond (.t 8) (.seq (.reg [(iO 2 (.mov (.c (.int .i64 64))))])
 .ret)
 .skip))))))
 (.seq (.reg [(iO 2 (.mov (.c (.int .i64 0))))])
 .ret)))
def r103 : List ARes := [.t 2]
theorem c103 : compF Try.prog Try.f103 = some (a103, r103) := by kernel_rfl
theorem b103 : hasBody Try.prog 103 = true := by kernel_rfl
theorem g103 : Try.prog.funcs[103]? = some Try.f103 := by kernel_rfl
def a142 : ACode := (.seq (.reg [(iO 2 (.mov (.c (.bool false))))])
 (.seq (.reg [(iM 3 0), (iO 4 (.bin .eql .other (.t 3) (.c (.int .i64 1)))), ⟨(some 5), .mov (.t 4), none, true⟩, (iG 6 (.mov (.t 0)) 5 false), (iG 7 (.bin .eql .other (.t 6) (.c (.int .i64 2))) 5 false), (iO 8 (.pick (.t 5) (.c (.bool true)) (.t 7))), ⟨(some 9), .mov (.t 8), none, true⟩, (iG 10 (.mov (.t 0)) 9 false), (iG 11 (.bin .eql .other (.t 10) (.c (.int .i64 3))) 9 false), (iO 12 (.pick (.t 9) (.c (.bool true)) (.t 11))), (iM 2 12)])
 .ret))
def r142 : List ARes := [.t 2]
theorem c142 : compF Try.prog Try.f142 = some (a142, r142) := by kernel_rfl
theorem b142 : hasBody Try.prog 142 = true := by kernel_rfl
theorem g142 : Try.prog.funcs[142]? = some Try.f142 := by kernel_rfl
def a45 : ACode := (.seq (.reg [(iO 6 (.mov (.c (.int .u16 0)))), (iO 7 (.mov (.c (.int .i64 0))))])
 (.seq (.seq (.reg [(iM 8 1), (iM 9 2), (iO 10 (.call 99 [(.t 8), (.t 9)])), (iO 11 (.un .not (.t 10)))])
 (.cond (.t 11) (.seq (.reg [(iO 6 (.mov (.c (.int .u16 0)))), (iO 7 (.mov (.c (.int .i64 110))))])
 .ret)
 .skip))
 (.seq (.reg [(iM 12 0), (iM 13 1), (iM 14 2), (iN 15 12), (iO 16 (.fld 0 896 true (.t 15))), (iO 17 (.idx 128 (some 7) true (.t 16) (.t 13))), (iO 18 (.idx 1 (some 128) false (.t 17) (.t 14))), (iL 19 18), (iM 6 19), (iO 7 (.mov (.c (.int .i64 0))))])
 .ret)))
def r45 : List ARes := [.t 6, .t 7]
theorem c45 : compF Try.prog Try.f45 = some (a45, r45) := by kernel_rfl
theorem b45 : hasBody Try.prog 45 = true := by kernel_rfl
theorem g45 : Try.prog.funcs[45]? = some Try.f45 := by kernel_rfl
def a30 : ACode := (.seq (.reg [(iO 8 (.mov (.c (.int .i64 0))))])
 (.seq (.seq (.reg [(iM 9 1), (iM 10 2), (iO 11 (.call 99 [(.t 9), (.t 10)])), (iO 12 (.un .not (.t 11)))])
 (.cond (.t 12) (.seq (.reg [(iO 8 (.mov (.c (.int .i64 110))))])
 .ret)
 .skip))
 (.seq (.draw [(zS 0 (iM 13 0)), (zS 1 (iM 14 1)), (zS 2 (iM 15 2)), (zS 3 (iM 16 1)), (zS 4 (iM 17 3)), (zS 6 (iN 19 13)), (zS 7 (iO 20 (.fld 0 896 true (.t 19)))), (zS 8 (iO 21 (.idx 128 (some 7) true (.t 20) (.t 14)))), ⟨5, (iO 18 (.call 100 [(.t 16), (.t 17)])), true, [], []⟩, (zS 9 (iO 22 (.idx 1 (some 128) false (.t 21) (.t 15)))), ⟨10, ⟨none, .store 1 (.t 22) (.t 18), none, false⟩, true, [], []⟩])
 (.seq (.reg [(iO 8 (.mov (.c (.int .i64 0))))])
 .ret))))
def r30 : List ARes := [.t 8]
theorem c30 : compF Try.prog Try.f30 = some (a30, r30) := by kernel_rfl
theorem b30 : hasBody Try.prog 30 = true := by kernel_rfl
theorem g30 : Try.prog.funcs[30]? = some Try.f30 := by kernel_rfl
theorem rsize_ev (a : Int) : Ev Try.prog 103 [.int .i64 a] (.int .i64 (szA a)) := by
  refine ⟨rfl, trF g103 b103 c103 ?_⟩
  conv => whnf
  repeat' (first
    | (refine condY (by assumption) ?_; conv => whnf)
    | (refine condN (by assumption) ?_; conv => whnf)
    | (refine condF (fun h => ?_) (fun h => ?_) <;> conv => whnf))
  all_goals exact ⟨by unfold szA; simp_all, rfl⟩
theorem rbit_ev (a : Int) : Ev Try.prog 142 [.int .i64 a] (.bool (bitP a)) := by
  refine ⟨rfl, trF g142 b142 c142 ?_⟩
  conv => whnf
  unfold bitP
  repeat' (first
    | (refine condY (by assumption) ?_; conv => whnf)
    | (refine condN (by assumption) ?_; conv => whnf)
    | (refine condF (fun h => ?_) (fun h => ?_) <;> conv => whnf))
  all_goals exact ⟨by simp_all, rfl⟩
theorem is_ev (a i : Int) : Ev Try.prog 99 [.int .i64 a, .int .i64 i] (.bool (inA a i)) := by
  refine ⟨rfl, trF g99 b99 c99 ?_⟩
  conv => whnf
  refine condF (fun h => ?_) (fun h => ?_)
  · conv => whnf
    exact ⟨by have h : decide (0 ≤ i) = false := h
              rw [inA, h]; rfl, rfl⟩
  · conv => whnf
    refine Ev.call (rsize_ev a) ?_
    conv => whnf
    exact ⟨by have h : decide (0 ≤ i) = true := h
              rw [inA, h]; rfl, rfl⟩
theorem bitv_ev (a v : Int) : Ev Try.prog 100 [.int .i64 a, .int .u16 v] (.int .u16 (bitV a v)) := by
  refine ⟨rfl, trF g100 b100 c100 ?_⟩
  conv => whnf
  refine Ev.call (rbit_ev a) ?_
  conv => whnf
  refine condF (fun h => ?_) (fun h => ?_)
  · conv => whnf
    exact ⟨by rw [bitV, h]; rfl, rfl⟩
  · conv => whnf
    refine condF (fun h2 => ?_) (fun h2 => ?_)
    · conv => whnf
      exact ⟨by rw [bitV, h, h2]; rfl, rfl⟩
    · conv => whnf
      exact ⟨by rw [bitV, h, h2]; rfl, rfl⟩
/-! ### of the document's image -/
abbrev RmT (f : Nat) (args : List AV) (I : Img) (v0 : AV) (J : Img) : Prop :=
  Tr Try.prog f args ⟨1, [(0, some (rmC I))]⟩ fun v s => v = v0 ∧ s = ⟨1, [(0, some (rmC J))]⟩
theorem rGet_tr (I : Img) (a i : Int) : RmT 45 [.ptr 0 0, .int .i64 a, .int .i64 i] I (.tup [.int .u16 (getV I.o a i), .int .i64 (getE a i)]) I := by
  refine blkNorm rfl rfl (trF g45 b45 c45 ?_)
  conv => whnf
  refine Ev.call (is_ev a i) ?_
  conv => whnf
  cases h : inA a i with
  | false =>
    conv => whnf
    refine ⟨?_, rfl⟩
    rw [getV, getE, h]; rfl
  | true =>
    conv => whnf
    obtain ⟨h1, h2⟩ := rpos h
    obtain ⟨h3, h4, h5⟩ := inA_area h
    have h6 := szA_range a
    refine condT (by simp; omega) ?_
    conv => whnf
    refine condT (by simp; omega) ?_
    conv => whnf
    refine condT (by simp [Chunk.ld]; omega) ?_
    conv => whnf
    refine ⟨?_, rfl⟩
    show AV.tup [.int (rK (0 + a.toNat * 128 + i.toNat * 1)) (rG I (0 + a.toNat * 128 + i.toNat * 1)), .int .i64 0] = _
    rw [Nat.mul_one, rG_o I h, rK_16 (by omega), getV, getE, h]; rfl
theorem rPut_tr (I : Img) (a i v : Int) : RmT 30 [.ptr 0 0, .int .i64 a, .int .i64 i, .int .u16 v] I (.int .i64 (getE a i)) (I.put a i v) := by
  refine blkNorm rfl rfl (trF g30 b30 c30 ?_)
  conv => whnf
  refine Ev.call (is_ev a i) ?_
  conv => whnf
  cases h : inA a i with
  | false =>
    conv => whnf
    refine ⟨by rw [getE, h]; rfl, ?_⟩
    show some (rmC I) = some (rmC (I.put a i v))
    rw [show I.put a i v = I by simp [Img.put, putO, h]]
  | true =>
    conv => whnf
    obtain ⟨h1, h2⟩ := rpos h
    obtain ⟨h3, h4, h5⟩ := inA_area h
    have h6 := szA_range a
    refine condT (by simp; omega) ?_
    conv => whnf
    refine Ev.call (bitv_ev a v) ?_
    conv => whnf
    refine condT (by simp; omega) ?_
    conv => whnf
    refine condT (by simp [Chunk.ld, Chunk.size, AV.flat, AV.one]; omega) ?_
    conv => whnf
    refine ⟨by rw [getE, h]; rfl, ?_⟩
    show some (Chunk.blk 1793 (upd rK (0 + a.toNat * 128 + i.toNat * 1) .u16) (upd (rG I) (0 + a.toNat * 128 + i.toNat * 1) (bitV a v))) = _
    rw [Nat.mul_one, rK_upd (by omega), rG_put I h]
end Go.Proofs.Ytomodeliimnddaa
set_option linter.unusedVariables false
set_option linter.unusedSimpArgs false
namespace Go.Proofs.Ytomodeliimnddaa
open Go.Ab
def a27 : ACode := (.seq (.reg [(iO 0 (.mov (.c .nilp)))])
 (.seq (.reg [(iO 1 (.buildI [(1152, (.int .u16 0)), (1, (.int .u64 0))] [])), (iO 2 (.box (.t 1))), (iM 0 2)])
 .ret))
def r27 : List ARes := [.t 0]
theorem c27 : compF Try.prog Try.f27 = some (a27, r27) := by kernel_rfl
theorem b27 : hasBody Try.prog 27 = true := by kernel_rfl
theorem g27 : Try.prog.funcs[27]? = some Try.f27 := by kernel_rfl
def a28 : ACode := (.seq (.reg [(iO 0 (.mov (.c .nilp)))])
 (.seq (.reg [(iO 1 (.buildI [(1792, (.int .u16 0)), (1, (.int .u64 0))] [])), (iO 2 (.box (.t 1))), (iM 0 2)])
 .ret))
def r28 : List ARes := [.t 0]
theorem c28 : compF Try.prog Try.f28 = some (a28, r28) := by kernel_rfl
theorem b28 : hasBody Try.prog 28 = true := by kernel_rfl
theorem g28 : Try.prog.funcs[28]? = some Try.f28 := by kernel_rfl
theorem blk_ext {N : Nat} {k k' : Nat → IntKind} {g g' : Nat → Int} (h1 : ∀ j, k j = k' j) (h2 : ∀ j, g j = g' j) : some (Chunk.blk N k g) = some (Chunk.blk N k' g') := by
  obtain rfl : k = k' := funext h1
  obtain rfl : g = g' := funext h2
  rfl
abbrev NewT (f : Nat) (c : Chunk) : Prop := Tr Try.prog f [] ⟨0, []⟩ fun v s => v = .ptr 0 0 ∧ s = ⟨1, [(0, some c)]⟩
theorem runG (n m : Nat) (k k' : IntKind) (j : Nat) : kindA (rlGet [(n, .int k 0), (m, .int k' 0)] j) = if j < n then k else if j < n + m then k' else .i64 := by
  simp only [rlGet, blt_eq]
  by_cases h1 : j < n
  · simp [h1, kindA]
  · by_cases h2 : j - n < m
    · have : j < n + m := by omega
      simp [h1, h2, this, kindA]
    · have : ¬ j < n + m := by omega
      simp [h1, h2, this, kindA]
theorem runN (n m : Nat) (k k' : IntKind) (j : Nat) : numA (rlGet [(n, .int k 0), (m, .int k' 0)] j) = 0 := by
  simp only [rlGet, blt_eq]
  by_cases h1 : j < n
  · simp [h1, numA]
  · by_cases h2 : j - n < m <;> simp [h1, h2, numA]
theorem pG_zero (j : Nat) : pG .zero j = 0 := by
  simp only [pG, Img.zero]
  repeat' split
  all_goals rfl
theorem rG_zero (j : Nat) : rG .zero j = 0 := by
  simp only [rG, Img.zero]
  repeat' split
  all_goals rfl
theorem New_tr : NewT 27 (imC .zero) := by
  refine trF g27 b27 c27 ?_
  conv => whnf
  refine ⟨rfl, ?_⟩
  have h : some (Chunk.blk 1153 (fun j => kindA (rlGet [(1152, .int .u16 0), (1, .int .u64 0)] j)) fun j => numA (rlGet [(1152, .int .u16 0), (1, .int .u64 0)] j)) = some (imC .zero) :=
    blk_ext (fun j => by rw [runG]; unfold pK; repeat' split
                         all_goals first | rfl | omega) (fun j => by rw [runN, pG_zero])
  rw [← h]
  rfl
theorem rNew_tr : NewT 28 (rmC .zero) := by
  refine trF g28 b28 c28 ?_
  conv => whnf
  refine ⟨rfl, ?_⟩
  have h : some (Chunk.blk 1793 (fun j => kindA (rlGet [(1792, .int .u16 0), (1, .int .u64 0)] j)) fun j => numA (rlGet [(1792, .int .u16 0), (1, .int .u64 0)] j)) = some (rmC .zero) :=
    blk_ext (fun j => by rw [runG]; unfold rK; repeat' split
                         all_goals first | rfl | omega) (fun j => by rw [runN, rG_zero])
  rw [← h]
  rfl
end Go.Proofs.Ytomodeliimnddaa
set_option linter.unusedVariables false
set_option linter.unusedSimpArgs false
namespace Go.Proofs.Ytomodeliimnddaa
open Go.Ab
def a36 : ACode := (.seq (.reg [(iO 4 (.mov (.c .nils)))])
 (.seq (.reg [(iM 5 0), (iN 6 5), (iO 7 (.fld 0 576 true (.t 6))), (iM 8 1), (iO 9 (.call 102 [(.t 7), (.t 8)])), (iO 10 (.call 101 [(.t 9)])), (iM 4 10)])
 .ret))
def r36 : List ARes := [.t 4]
theorem c36 : compF Try.prog Try.f36 = some (a36, r36) := by kernel_rfl
theorem b36 : hasBody Try.prog 36 = true := by kernel_rfl
theorem g36 : Try.prog.funcs[36]? = some Try.f36 := by kernel_rfl
def a37 : ACode := (.seq (.reg [(iO 4 (.mov (.c .nils)))])
 (.seq (.reg [(iO 5 (.mov (.c .nils)))])
 (.seq (.seq (.reg [(iO 6 (.mov (.c (.int .i64 0))))])
 (.block 0 (.loop (.seq (.seq (.reg [(iM 7 6), (iM 8 1), (iO 9 (.call 103 [(.t 8)])), (iO 10 (.bin .lss .other (.t 7) (.t 9)))])
 (.cond (.t 10) .skip
 (.exit 0)))
 (.seq (.block 1 (.reg [(iM 13 5), (iM 14 0), (iM 15 1), (iM 16 6), (iN 17 14), (iO 18 (.fld 0 896 true (.t 17))), (iO 19 (.idx 128 (some 7) true (.t 18) (.t 15))), (iO 20 (.idx 1 (some 128) false (.t 19) (.t 16))), (iL 21 20), (iO 22 (.bslice 1 (.int .u16) [(.int .u16 0)] [(0, 1, (.t 21))] 1)), (iO 23 (.app 1 2 (.t 13) (.t 22))), (iM 5 23)]))
 (.reg [(iM 11 6), (iO 12 (.bin .add .other (.t 11) (.c (.int .i64 1)))), (iM 6 12)]))))))
 (.seq (.reg [(iM 24 5), (iM 4 24)])
 .ret))))
def r37 : List ARes := [.t 4]
theorem c37 : compF Try.prog Try.f37 = some (a37, r37) := by kernel_rfl
theorem b37 : hasBody Try.prog 37 = true := by kernel_rfl
theorem g37 : Try.prog.funcs[37]? = some Try.f37 := by kernel_rfl
def am101 : ACode := (.seq (.reg [(iO 2 (.mov (.c .nils)))])
 (.seq (.seq (.reg [(iM 3 0), (iO 4 (.bin .eql .slice (.t 3) (.c .nils)))])
 (.cond (.t 4) (.seq (.reg [(iO 2 (.mov (.c .nils)))])
 .ret)
 .skip))
 (.seq (.reg [(iO 5 (.bslice 1 (.int .u16) [] [] 0)), (iM 6 0), (iO 7 (.app 1 2 (.t 5) (.t 6))), (iM 2 7)])
 .ret)))
def rm101 : List ARes := [.t 2]
theorem cm101 : compF Try.prog Try.f101 = some (am101, rm101) := by kernel_rfl
theorem bm101 : hasBody Try.prog 101 = true := by kernel_rfl
theorem gm101 : Try.prog.funcs[101]? = some Try.f101 := by kernel_rfl
theorem hregs_ev (l m : List Int) (hl : l.length ≤ 100000) : Ev Try.prog 35 [.roI .u16 l, .roI .u16 m] (.bool (l == m)) := ⟨rfl, hregs_tr l m hl⟩
theorem hregs_same (l : List Int) (hl : l.length ≤ 100000) : Ev Try.prog 35 [.roI .u16 l, .roI .u16 l] (.bool true) := by
  have h := hregs_ev l l hl
  rwa [beq_self_eq_true] at h
theorem nilOrB {P : Program} {f es : Nat} {v : AV} {g : Nat → AV} {s : St} {K : AV → St → Prop} (hv : v.rov = some (es, 0, g)) (h1 : Tr P f [.nils] s K) (h2 : ∀ a c, Tr P f [.raw (.slice (some a) 0 c)] s K) : Tr P f [v] s K := by
  unfold Tr at h1 h2 ⊢
  refine ⟨h1.1, fun ι w M Vs hR hV => ?_⟩
  obtain ⟨hs, hg⟩ := hV
  have h0 : VRel ι w M v (Vs.getD 0 default) := hg 0 (by simp)
  rcases h0.rov_inv hv with ⟨_, e⟩ | ⟨a, cap, g', e, _⟩
  · refine h1.2 ι w M Vs hR ⟨hs, fun j hj => ?_⟩
    obtain rfl : j = 0 := by simp at hj; exact hj
    rw [e]; exact .g _ _ .nils
  · refine (h2 a cap).2 ι w M Vs hR ⟨hs, fun j hj => ?_⟩
    obtain rfl : j = 0 := by simp at hj; exact hj
    rw [e]; exact .g _ _ (.raw _)
abbrev RowT (f : Nat) (args : List AV) (l : List Int) : Prop := Tr Try.prog f args ⟨0, []⟩ fun v s => v = .sl 1 0 0 l.length ∧ s = ⟨1, [(0, some (.rowI .u16 l))]⟩
theorem cloneR_tr (l : List Int) (hl : l.length ≤ 100000) : RowT 101 [.roI .u16 l] l := by
  cases l with
  | nil =>
    refine nilOrB rfl ?_ fun a c => ?_
    · refine Tr.norm (K := fun v s => v = .nils) (trF gm101 bm101 cm101 ?_) fun v s hv => ⟨_, _, ?_, rfl, rfl⟩
      · conv => whnf
      · subst hv
        exact ⟨[(0, none)], rfl, rfl, rfl, ⟨⟨rfl, rfl⟩, trivial⟩, ⟨⟨trivial, rfl, rfl⟩, trivial⟩⟩
    · refine Tr.norm (K := fun v s => v = .sl 1 1 0 0 ∧ s.get 1 = some (.rowI .u16 [])) (trF gm101 bm101 cm101 ?_) fun v s ⟨hv, h1⟩ => ⟨_, _, ?_, rfl, rfl⟩
      · conv => whnf
        exact ⟨rfl, rfl⟩
      · subst hv
        exact ⟨[(0, some 1)], rfl, rfl, rfl, ⟨⟨rfl, rfl⟩, trivial⟩, ⟨⟨trivial, rfl, h1⟩, trivial⟩⟩
  | cons x l =>
    refine Tr.norm (K := fun v s => v = .sl 1 1 0 (x :: l).length ∧ s.get 1 = some (.rowI .u16 (x :: l))) (trF gm101 bm101 cm101 ?_) fun v s ⟨hv, h1⟩ => ⟨_, _, ?_, rfl, rfl⟩
    · conv => whnf
      refine condT (by simp at hl ⊢; omega) ?_
      conv => whnf
      exact ⟨by show AV.sl 1 1 0 (0 + (x :: l).length) = _; rw [Nat.zero_add], rfl⟩
    · subst hv
      exact ⟨[(0, some 1)], rfl, rfl, rfl, ⟨⟨rfl, rfl⟩, trivial⟩, ⟨⟨trivial, rfl, h1⟩, trivial⟩⟩
abbrev AllT (f : Nat) (args : List AV) (c : Chunk) (l : List Int) : Prop :=
  Tr Try.prog f args ⟨1, [(0, some c)]⟩ fun v s => v = .sl 1 1 0 l.length ∧ s = ⟨2, [(1, some (.rowI .u16 l)), (0, some c)]⟩
theorem area_row (I : Img) (a : Int) (ha : a = 1 ∨ a = 2 ∨ a = 3 ∨ a = 4 ∨ a = 5 ∨ a = 6) : (List.range (szA a).toNat).map (fun j => pG I (0 + offA a + j)) = allL I.o a := by
  unfold allL
  apply List.map_congr_left
  intro j hj
  have hj : j < (szA a).toNat := by simpa using hj
  have := pG_o I (a := a) (i := j) (inA_iff.2 ⟨by omega, by omega⟩)
  simpa using this
set_option maxRecDepth 20000 in
theorem All_tr (I : Img) (a : Int) : AllT 36 [.ptr 0 0, .int .i64 a] (imC I) (allL I.o a) := by
  have hr := szA_range a
  refine Tr.norm (K := fun v s => (v = .sl 1 1 0 (allL I.o a).length ∧ s.get 1 = some (.rowI .u16 (allL I.o a)) ∨ v = .sl 1 1 0 (allL I.o a).length ∧ s.get 1 = some (.rowI .u16 (allL I.o a))) ∧ s.get 0 = some (imC I)) (trF g36 b36 c36 ?_) fun v s ⟨hv, h0⟩ => ⟨_, _, ?_, rfl, rfl⟩
  · conv => whnf
    rcases szA_cases a with ha | ha
    · refine blkCall (area_sl a 0 1153 pK (pG I) (by decide) ha) rfl rfl rfl ?_
      conv => whnf
      have ho := offA_le a
      refine Tr.look (cloneR_tr ((List.range (szA a).toNat).map fun j => pG I (0 + offA a + j)) (by simp; omega)) ⟨.blk 0 _ _ 1153 pK (pG I) .u16 rfl (by omega) (fun j hj => pK_16 (by omega)), trivial⟩ fun v0 s0 ⟨hv, hs⟩ => ?_
      subst hv; subst hs
      refine ⟨rfl, ⟨trivial, trivial⟩, ?_⟩
      conv => whnf
      refine ⟨.inl ⟨?_, ?_⟩, rfl⟩
      · show AV.sl 1 1 0 _ = _
        rw [area_row I a ha]
      · show some (Chunk.rowI .u16 _) = _
        rw [area_row I a ha]
    · refine blkCall (area_nil a 0 1153 pK (pG I) ha.2) rfl rfl rfl ?_
      conv => whnf
      have hnil : allL I.o a = [] := by unfold allL; rw [ha.1]; rfl
      refine Tr.look (cloneR_tr [] (by decide)) ⟨.le _ _ _ (.same _ rfl) (Le.nilI _), trivial⟩ fun v0 s0 ⟨hv, hs⟩ => ?_
      subst hv; subst hs
      refine ⟨rfl, ⟨trivial, trivial⟩, ?_⟩
      conv => whnf
      refine ⟨.inl ⟨?_, ?_⟩, rfl⟩
      · show AV.sl 1 1 0 _ = _
        rw [hnil]
      · show some (Chunk.rowI .u16 _) = _
        rw [hnil]
  · have hv : v = .sl 1 1 0 (allL I.o a).length ∧ s.get 1 = some (.rowI .u16 (allL I.o a)) := by rcases hv with h | h <;> exact h
    obtain ⟨rfl, h1⟩ := hv
    exact ⟨[], rfl, rfl, rfl, ⟨⟨rfl, rfl⟩, trivial⟩, ⟨⟨trivial, rfl, h1⟩, ⟨trivial, rfl, h0⟩, trivial⟩⟩
set_option maxRecDepth 20000 in
theorem rAll_tr (I : Img) (a : Int) : AllT 37 [.ptr 0 0, .int .i64 a] (rmC I) (allL I.o a) := by
  have hr := szA_range a
  refine Tr.norm (K := fun v s => v = .sl 1 1 0 (allL I.o a).length ∧ s.get 1 = some (.rowI .u16 (allL I.o a)) ∧ s.get 0 = some (rmC I)) (trF g37 b37 c37 ?_) fun v s ⟨hv, h1, h0⟩ => ⟨_, _, ?_, rfl, rfl⟩
  · conv => whnf
    refine loopI (α := {i : Nat // i ≤ (szA a).toNat}) (fun i => [(0, .ptr 0 0), (1, .int .i64 a), (5, .sl 1 1 0 i.1), (6, .int .i64 i.1)]) (fun i => ⟨2, [(1, some (.rowI .u16 ((List.range i.1).map fun k => I.o a.toNat k))), (0, some (rmC I))]⟩) (fun i => (szA a).toNat - i.1) ⟨0, Nat.zero_le _⟩
        ⟨[(1, none)], rfl, rfl, rfl, ⟨⟨rfl, rfl⟩, ⟨rfl, rfl⟩, ⟨rfl, rfl⟩, ⟨rfl, rfl⟩, trivial⟩, ⟨⟨trivial, rfl, rfl⟩, ⟨trivial, rfl, rfl⟩, trivial⟩⟩ fun ⟨i, hi⟩ => ?_
    conv => whnf
    refine Ev.call (rsize_ev a) ?_
    conv => whnf
    by_cases hlt : i < (szA a).toNat
    · have hin : inA a i = true := inA_iff.2 ⟨by omega, by omega⟩
      obtain ⟨k1, k2⟩ := rpos hin
      obtain ⟨k3, k4, k5⟩ := inA_area hin
      have hK : rK (0 + 0 + a.toNat * 128 + i * 1) = .u16 := rK_16 (by simp at k2; omega)
      have hG : rG I (0 + 0 + a.toNat * 128 + i * 1) = I.o a.toNat i := by
        have := rG_o I hin
        simp only [Int.toNat_natCast] at this
        rw [Nat.mul_one, Nat.zero_add 0, this]
      refine condY (by simp; omega) ?_
      conv => whnf
      refine condT (by simp; omega) ?_
      conv => whnf
      refine condT (by simp; omega) ?_
      conv => whnf
      refine condT (by simp [Chunk.ld, rmC, imC]; omega) ?_
      conv => whnf
      refine condT (by show (decide (rK (0 + 0 + a.toNat * 128 + i * 1) = .u16) && true) = true; rw [hK]; rfl) ?_
      conv => whnf
      refine condT (by simp; omega) ?_
      conv => whnf
      refine ⟨⟨i + 1, hlt⟩, ⟨[(1, some (2 + 1))], rfl, rfl, rfl, ⟨⟨rfl, rfl⟩, ⟨rfl, rfl⟩, ⟨rfl, rfl⟩, ⟨?_, rfl⟩, trivial⟩, ⟨⟨trivial, rfl, ?_⟩, ⟨trivial, rfl, rfl⟩, trivial⟩⟩, by show (szA a).toNat - (i + 1) < (szA a).toNat - i; omega⟩
      · show AV.int .i64 (IntKind.i64.wrap ((i : Int) + 1)) = AV.int .i64 ((i + 1 : Nat) : Int)
        rw [s64 (by omega)]
      · show some (Chunk.rowI .u16 ((((List.range i).map fun k => I.o a.toNat k).drop 0).take i ++ ([rG I (0 + 0 + a.toNat * 128 + i * 1)].drop 0).take 1)) = some (Chunk.rowI .u16 ((List.range (i + 1)).map fun k => I.o a.toNat k))
        have hlen : ((List.range i).map fun k => I.o a.toNat k).length = i := by simp
        rw [hG, List.range_succ, List.map_append, List.drop_zero]
        conv => lhs; rw [List.take_of_length_le (by omega)]
        rfl
    · obtain rfl : i = (szA a).toNat := by omega
      refine condN (by simp; omega) ?_
      conv => whnf
      exact ⟨by show AV.sl 1 1 0 _ = _; rw [allL_length], rfl, rfl⟩
  · subst hv
    exact ⟨[], rfl, rfl, rfl, ⟨⟨rfl, rfl⟩, trivial⟩, ⟨⟨trivial, rfl, h1⟩, ⟨trivial, rfl, h0⟩, trivial⟩⟩
theorem allCall {f h N : Nat} {k : Nat → IntKind} {g : Nat → Int} {args0 args : List AV} {l : List Int} {s : St} {K : AV → St → Prop} (hT : AllT f args0 (.blk N k g) l)
    (ha : args = renL (rnm [(0, some h)]) args0) (hok : hokL 1 (rnm [(0, some h)]) args0 = true) (hg : s.get h = some (.blk N k g))
    (kk : openS s fun n m => K (.sl 1 n 0 l.length) ⟨n + 1, (n, some (.rowI .u16 l)) :: (h, some (.blk N k g)) :: (h, none) :: m⟩) : Tr Try.prog f args s K := by
  refine Tr.call [(0, some h)] hT ha hok ⟨⟨trivial, rfl, hg⟩, trivial⟩ rfl fun v0 s0 ⟨hv, hs⟩ => ?_
  subst hv; subst hs
  rw [openS_eq] at kk
  exact kk
end Go.Proofs.Ytomodeliimnddaa
set_option linter.unusedVariables false
set_option linter.unusedSimpArgs false
namespace Go.Proofs.Ytomodeliimnddaa
open Go.Ab
theorem newCall {f N : Nat} {k : Nat → IntKind} {g : Nat → Int} {s : St} {K : AV → St → Prop} (hT : NewT f (.blk N k g)) (kk : openS s fun n m => K (.ptr n 0) ⟨n + 1, (n, some (.blk N k g)) :: m⟩) : Tr Try.prog f [] s K := by
  refine Tr.call [] hT rfl rfl trivial rfl fun v0 s0 ⟨hv, hs⟩ => ?_
  subst hv; subst hs
  rw [openS_eq] at kk
  exact kk
theorem map_getD {α : Type} {S : List α} {f : α → AV} {i : Nat} (h : i < S.length) : ∃ x ∈ S, (S.map f).getD i .undef = f x :=
  ⟨S[i], List.getElem_mem h, by simp [List.getD_eq_getElem?_getD, h]⟩
theorem allL_len (f : Nat → Nat → Int) (a : Int) : (allL f a).length ≤ 100000 := by
  rw [allL_length]
  have := szA_range a
  omega
end Go.Proofs.Ytomodeliimnddaa
