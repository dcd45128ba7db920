/- Contracts: where a function's numbers lie; numbers read, set. Contracts: may polls be so? Families of blocks: a master's polls. Contracts: a tick. Contracts: what a master tells of a poll. Contracts: what was read is laid into an image; frames go out. Contracts: what a poll asks for. The engine: what is known of memory may be known less well. Families of any pure blocks. Contracts: a master is made. Contracts: a reply is kept. Families of blocks in states with more blocks. Contracts: a reply of bits is kept. Contracts: a frame is taken. Contracts: a scan begins: polls ask. -/
import Derived.Test.YtomodeliimnddaaHImg
import Derived.Test.YtomodeliimnddaaHPduM
import Derived.Test.YtomodeliimnddaaHEngD
set_option linter.unusedVariables false
set_option linter.unusedSimpArgs false
namespace Go.Proofs.Ytomodeliimnddaa
open Go.Ab
def a154 : ACode := (.seq (.reg [(iO 2 (.mov (.c (.int .i64 0))))])
 (.seq (.seq (.reg [(iM 3 0)])
 (.block 0 (.seq (.seq (.reg [(iO 5 (.bin .eql .other (.t 3) (.c (.int .i64 1)))), (iM 4 5)])
 (.cond (.t 4) .skip
 (.seq (.reg [(iO 6 (.bin .eql .other (.t 3) (.c (.int .i64 2)))), (iM 4 6)])
 (.cond (.t 4) .skip
 (.reg [(iO 7 (.bin .eql .other (.t 3) (.c (.int .i64 3)))), (iM 4 7)])))))
 (.cond (.t 4) (.seq (.reg [(iO 2 (.mov (.c (.int .i64 128))))])
 .ret)
 (.seq (.seq (.reg [(iO 9 (.bin .eql .other (.t 3) (.c (.int .i64 4)))), (iM 8 9)])
 (.cond (.t 8) .skip
 (.seq (.reg [(iO 10 (.bin .eql .other (.t 3) (.c (.int .i64 5)))), (iM 8 10)])
 (.cond (.t 8) .skip
 (.reg [(iO 11 (.bin .eql .other (.t 3) (.c (.int .i64 6)))), (iM 8 11)])))))
 (.cond (.t 8) (.seq (.reg [(iO 2 (.mov (.c (.int .i64 64))))])
 .ret)
 .skip))))))
 (.seq (.reg [(iO 2 (.mov (.c (.int .i64 0))))])
 .ret)))
def r154 : List ARes := [.t 2]
theorem c154 : compF Try.prog Try.f154 = some (a154, r154) := by kernel_rfl
theorem b154 : hasBody Try.prog 154 = true := by kernel_rfl
theorem g154 : Try.prog.funcs[154]? = some Try.f154 := by kernel_rfl
theorem w64i {n : Int} (h0 : -1000000 ≤ n) (h1 : n ≤ 1000000) : IntKind.i64.wrap n = n := IntWalk.i64_in n (by omega)
theorem asize_ev (a : Int) : Ev Try.prog 154 [.int .i64 a] (.int .i64 (szA a)) := by
  refine ⟨rfl, trF g154 b154 c154 ?_⟩
  conv => whnf
  repeat' (first
    | (refine condY (by assumption) ?_; conv => whnf)
    | (refine condN (by assumption) ?_; conv => whnf)
    | (refine condF (fun h => ?_) (fun h => ?_) <;> conv => whnf))
  all_goals exact ⟨by unfold szA; simp_all, rfl⟩
end Go.Proofs.Ytomodeliimnddaa
set_option linter.unusedVariables false
set_option linter.unusedSimpArgs false
namespace Go.Proofs.Ytomodeliimnddaa
open Go.Ab
def a128 : ACode := (.seq (.reg [(iO 2 (.mov (.c (.int .i64 0))))])
 (.seq (.seq (.reg [(iM 3 0)])
 (.block 0 (.seq (.seq (.reg [(iO 5 (.bin .eql .other (.t 3) (.c (.int .u8 1)))), (iM 4 5)])
 (.cond (.t 4) .skip
 (.reg [(iO 6 (.bin .eql .other (.t 3) (.c (.int .u8 2)))), (iM 4 6)])))
 (.cond (.t 4) (.seq (.reg [(iO 2 (.mov (.c (.int .i64 1))))])
 .ret)
 (.seq (.seq (.reg [(iO 8 (.bin .eql .other (.t 3) (.c (.int .u8 3)))), (iM 7 8)])
 (.cond (.t 7) .skip
 (.reg [(iO 9 (.bin .eql .other (.t 3) (.c (.int .u8 4)))), (iM 7 9)])))
 (.cond (.t 7) (.seq (.reg [(iO 2 (.mov (.c (.int .i64 4))))])
 .ret)
 (.seq (.reg [(iO 11 (.bin .eql .other (.t 3) (.c (.int .u8 15)))), (iM 10 11)])
 (.cond (.t 10) (.seq (.reg [(iO 2 (.mov (.c (.int .i64 2))))])
 .ret)
 (.seq (.reg [(iO 13 (.bin .eql .other (.t 3) (.c (.int .u8 16)))), (iM 12 13)])
 (.cond (.t 12) (.seq (.reg [(iO 2 (.mov (.c (.int .i64 5))))])
 .ret)
 .skip))))))))))
 (.seq (.reg [(iO 2 (.mov (.c (.int .i64 0))))])
 .ret)))
def r128 : List ARes := [.t 2]
theorem c128 : compF Try.prog Try.f128 = some (a128, r128) := by kernel_rfl
theorem b128 : hasBody Try.prog 128 = true := by kernel_rfl
theorem g128 : Try.prog.funcs[128]? = some Try.f128 := by kernel_rfl
def a153 : ACode := (.seq (.reg [(iO 2 (.mov (.c (.bool false))))])
 (.seq (.reg [(iM 3 0), (iO 4 (.bin .geq .other (.t 3) (.c (.int .i64 1)))), ⟨(some 5), .mov (.t 4), none, true⟩, (iG 6 (.mov (.t 0)) 5 true), (iG 7 (.bin .leq .other (.t 6) (.c (.int .i64 1000000))) 5 true), (iO 8 (.pick (.t 5) (.t 7) (.c (.bool false)))), (iM 2 8)])
 .ret))
def r153 : List ARes := [.t 2]
theorem c153 : compF Try.prog Try.f153 = some (a153, r153) := by kernel_rfl
theorem b153 : hasBody Try.prog 153 = true := by kernel_rfl
theorem g153 : Try.prog.funcs[153]? = some Try.f153 := by kernel_rfl
def a127 : ACode := (.seq (.reg [(iO 1 (.box (.t 0))), (iO 2 (.mov (.c (.bool false))))])
 (.seq (.reg [(iF 5 1 1), (iL 6 5), (iO 7 (.call 128 [(.t 6)])), (iM 3 7)])
 (.seq (.reg [(iO 4 (.mov (.f 153)))])
 (.seq (.draw [(zS 0 (iF 8 0 1)), (zS 1 (iL 9 8)), (zS 2 (iO 10 (.bin .geq .other (.t 9) (.c (.int .u8 1))))), ⟨3, ⟨(some 11), .mov (.t 10), none, true⟩, false, [], []⟩, (zS 4 (iG 12 (.fld 0 1 false (.t 1)) 11 true)), (zS 5 (iG 13 (.load false 1 (.t 12)) 11 true)), (zS 6 (iG 14 (.bin .leq .other (.t 13) (.c (.int .u8 247))) 11 true)), (zS 7 (iO 15 (.pick (.t 11) (.t 14) (.c (.bool false))))), ⟨8, ⟨(some 16), .mov (.t 15), none, true⟩, false, [], []⟩, (zS 9 (iG 17 (.mov (.t 3)) 16 true)), (zS 10 (iG 18 (.bin .neq .other (.t 17) (.c (.int .i64 0))) 16 true)), (zS 11 (iO 19 (.pick (.t 16) (.t 18) (.c (.bool false))))), ⟨12, ⟨(some 20), .mov (.t 19), none, true⟩, false, [], []⟩, (zS 13 (iG 21 (.fld 3 1 false (.t 1)) 20 true)), (zS 14 (iG 22 (.load false 1 (.t 21)) 20 true)), (zS 15 (iG 23 (.bin .geq .other (.t 22) (.c (.int .i64 1))) 20 true)), (zS 16 (iO 24 (.pick (.t 20) (.t 23) (.c (.bool false))))), ⟨17, ⟨(some 25), .mov (.t 24), none, true⟩, false, [], []⟩, (zS 18 (iG 26 (.fld 3 1 false (.t 1)) 25 true)), (zS 19 (iG 27 (.load false 1 (.t 26)) 25 true)), (zS 20 (iG 28 (.bin .leq .other (.t 27) (.c (.int .i64 64))) 25 true)), (zS 21 (iO 29 (.pick (.t 25) (.t 28) (.c (.bool false))))), ⟨22, ⟨(some 30), .mov (.t 29), none, true⟩, false, [], []⟩, (zS 23 (iG 31 (.fld 2 1 false (.t 1)) 30 true)), (zS 24 (iG 32 (.load false 1 (.t 31)) 30 true)), (zS 25 (iG 33 (.conv (.int .i64) (.t 32)) 30 true)), (zS 26 (iG 34 (.fld 3 1 false (.t 1)) 30 true)), (zS 27 (iG 35 (.load false 1 (.t 34)) 30 true)), (zS 28 (iG 36 (.bin .add .other (.t 33) (.t 35)) 30 true)), (zS 29 (iG 37 (.bin .leq .other (.t 36) (.c (.int .i64 65536))) 30 true)), (zS 30 (iO 38 (.pick (.t 30) (.t 37) (.c (.bool false))))), ⟨31, ⟨(some 39), .mov (.t 38), none, true⟩, false, [], []⟩, (zS 32 (iG 40 (.fld 4 1 false (.t 1)) 39 true)), (zS 33 (iG 41 (.load false 1 (.t 40)) 39 true)), (zS 34 (iG 42 (.bin .geq .other (.t 41) (.c (.int .i64 0))) 39 true)), (zS 35 (iO 43 (.pick (.t 39) (.t 42) (.c (.bool false))))), ⟨36, ⟨(some 44), .mov (.t 43), none, true⟩, false, [], []⟩, (zS 37 (iG 45 (.fld 4 1 false (.t 1)) 44 true)), (zS 38 (iG 46 (.load false 1 (.t 45)) 44 true)), (zS 39 (iG 47 (.mov (.t 3)) 44 true)), (zS 41 (iG 49 (.fld 3 1 false (.t 1)) 44 true)), (zS 42 (iG 50 (.load false 1 (.t 49)) 44 true)), ⟨40, (iG 48 (.call 154 [(.t 47)]) 44 true), true, [], [(.t 45), (.t 49)]⟩, (zS 43 (iG 51 (.bin .sub .other (.t 48) (.t 50)) 44 true)), (zS 44 (iG 52 (.bin .leq .other (.t 46) (.t 51)) 44 true)), (zS 45 (iO 53 (.pick (.t 44) (.t 52) (.c (.bool false))))), ⟨46, ⟨(some 54), .mov (.t 53), none, true⟩, false, [], []⟩, (zS 47 (iG 55 (.mov (.t 4)) 54 true)), (zS 48 (iG 56 (.fld 5 1 false (.t 1)) 54 true)), (zS 49 (iG 57 (.load false 1 (.t 56)) 54 true)), ⟨50, (iG 58 (.callv (.t 55) [(.t 57)]) 54 true), true, [], []⟩, (zS 51 (iO 59 (.pick (.t 54) (.t 58) (.c (.bool false))))), ⟨52, ⟨(some 60), .mov (.t 59), none, true⟩, false, [], []⟩, (zS 53 (iG 61 (.mov (.t 4)) 60 true)), (zS 54 (iG 62 (.fld 6 1 false (.t 1)) 60 true)), (zS 55 (iG 63 (.load false 1 (.t 62)) 60 true)), ⟨56, (iG 64 (.callv (.t 61) [(.t 63)]) 60 true), true, [], []⟩, (zS 57 (iO 65 (.pick (.t 60) (.t 64) (.c (.bool false))))), ⟨58, ⟨(some 66), .mov (.t 65), none, true⟩, false, [], []⟩, (zS 59 (iG 67 (.mov (.t 4)) 66 true)), (zS 60 (iG 68 (.fld 7 1 false (.t 1)) 66 true)), (zS 61 (iG 69 (.load false 1 (.t 68)) 66 true)), ⟨62, (iG 70 (.callv (.t 67) [(.t 69)]) 66 true), true, [], []⟩, (zS 63 (iO 71 (.pick (.t 66) (.t 70) (.c (.bool false))))), (zS 64 (iM 2 71))])
 .ret))))
def r127 : List ARes := [.t 2]
theorem c127 : compF Try.prog Try.f127 = some (a127, r127) := by kernel_rfl
theorem b127 : hasBody Try.prog 127 = true := by kernel_rfl
theorem g127 : Try.prog.funcs[127]? = some Try.f127 := by kernel_rfl
def a126 : ACode := (.seq (.reg [(iO 1 (.box (.t 0))), (iO 2 (.mov (.c (.bool false))))])
 (.seq (.reg [(iO 3 (.load true 8 (.t 1))), (iO 4 (.call 127 [(.t 3)])), (iO 5 (.un .not (.t 4))), (iM 2 5)])
 .ret))
def r126 : List ARes := [.t 2]
theorem c126 : compF Try.prog Try.f126 = some (a126, r126) := by kernel_rfl
theorem b126 : hasBody Try.prog 126 = true := by kernel_rfl
theorem g126 : Try.prog.funcs[126]? = some Try.f126 := by kernel_rfl
def a152 : ACode := (.seq (.reg [(iO 4 (.mov (.c (.int .i64 0))))])
 (.seq (.seq (.reg [(iM 6 0), (iO 7 (.len false (.t 6))), (iO 8 (.mov (.c (.int .i64 0))))])
 (.block 0 (.loop (.seq (.reg [(iO 9 (.bin .lss .other (.t 8) (.t 7)))])
 (.seq (.cond (.t 9) .skip
 (.exit 0))
 (.seq (.block 1 (.seq (.reg [(iM 10 8), (iM 5 10)])
 (.seq (.reg [(iM 11 1), (iM 12 0), (iM 13 5), (iO 14 (.idx 8 none true (.t 12) (.t 13))), (iO 15 (.load true 8 (.t 14))), (iO 16 (.callv (.t 11) [(.t 15)]))])
 (.cond (.t 16) (.seq (.reg [(iM 17 5), (iM 4 17)])
 .ret)
 .skip))))
 (.reg [(iO 18 (.bin .add .other (.t 8) (.c (.int .i64 1)))), (iM 8 18)])))))))
 (.seq (.reg [(iO 4 (.mov (.c (.int .i64 (-1)))))])
 .ret)))
def r152 : List ARes := [.t 4]
theorem c152 : compF Try.prog Try.f152 = some (a152, r152) := by kernel_rfl
theorem b152 : hasBody Try.prog 152 = true := by kernel_rfl
theorem g152 : Try.prog.funcs[152]? = some Try.f152 := by kernel_rfl
def a125 : ACode := (.seq (.reg [(iO 4 (.mov (.c (.bool false))))])
 (.seq (.reg [(iM 5 0), (iM 6 1), (iO 7 (.call 152 [(.t 5), (.t 6)])), (iO 8 (.bin .geq .other (.t 7) (.c (.int .i64 0)))), (iM 4 8)])
 .ret))
def r125 : List ARes := [.t 4]
theorem c125 : compF Try.prog Try.f125 = some (a125, r125) := by kernel_rfl
theorem b125 : hasBody Try.prog 125 = true := by kernel_rfl
theorem g125 : Try.prog.funcs[125]? = some Try.f125 := by kernel_rfl
structure Po where
  u : Int
  f : Int
  a : Int
  n : Int
  p : Int
  e : Int
  t : Int
  r : Int
def poA (x : Po) : AV := .agg [.int .u8 x.u, .int .u8 x.f, .int .u16 x.a, .int .i64 x.n, .int .i64 x.p, .int .i64 x.e, .int .i64 x.t, .int .i64 x.r]
def areaS (f : Int) : Int := if f = 1 ∨ f = 2 then 1 else if f = 3 ∨ f = 4 then 4 else if f = 15 then 2 else if f = 16 then 5 else 0
def millB (n : Int) : Bool := decide (1 ≤ n) && decide (n ≤ 1000000)
def rightB (x : Po) : Bool :=
  decide (1 ≤ x.u) && decide (x.u ≤ 247) && areaS x.f != 0 && decide (1 ≤ x.n) && decide (x.n ≤ 64) && decide (x.a + x.n ≤ 65536) && decide (0 ≤ x.p) && decide (x.p ≤ szA (areaS x.f) - x.n) && millB x.e && millB x.t && millB x.r
theorem area_ev (f : Int) : Ev Try.prog 128 [.int .u8 f] (.int .i64 (areaS f)) := by
  refine FrzK.ev rfl (trF g128 b128 c128 ?_)
  conv => whnf
  by_cases h1 : f = 1
  · subst h1; conv => whnf
    exact FrzK.le (Le.refl _)
  by_cases h2 : f = 2
  · subst h2; conv => whnf
    exact FrzK.le (Le.refl _)
  by_cases h3 : f = 3
  · subst h3; conv => whnf
    exact FrzK.le (Le.refl _)
  by_cases h4 : f = 4
  · subst h4; conv => whnf
    exact FrzK.le (Le.refl _)
  by_cases h15 : f = 15
  · subst h15; conv => whnf
    exact FrzK.le (Le.refl _)
  by_cases h16 : f = 16
  · subst h16; conv => whnf
    exact FrzK.le (Le.refl _)
  have hA : areaS f = 0 := by unfold areaS; rw [if_neg (by omega), if_neg (by omega), if_neg h15, if_neg h16]
  rw [hA]
  repeat' (first
    | (refine condN (by simp; assumption) ?_; conv => whnf)
    | fail)
  exact FrzK.le (Le.refl _)
theorem mill_ev (n : Int) : Ev Try.prog 153 [.int .i64 n] (.bool (millB n)) := by
  refine FrzK.ev rfl (trF g153 b153 c153 ?_)
  conv => whnf
  refine condF (fun h => ?_) (fun h => ?_)
  · conv => whnf
    refine FrzK.le (leBool ?_)
    unfold millB
    rw [show decide (1 ≤ n) = false from h]; rfl
  · conv => whnf
    refine FrzK.le (leBool ?_)
    unfold millB
    rw [show decide (1 ≤ n) = true from h]; rfl
set_option maxRecDepth 20000 in
theorem right_ev (x : Po) (ha : 0 ≤ x.a ∧ x.a < 65536) : Ev Try.prog 127 [poA x] (.bool (rightB x)) := by
  refine FrzK.ev rfl (trF g127 b127 c127 ?_)
  obtain ⟨u, f, a, n, p, e, t, r⟩ := x
  have ha : 0 ≤ a ∧ a < 65536 := ha
  conv => whnf
  refine Ev.call (area_ev f) ?_
  have hz := szA_range (areaS f)
  conv => whnf
  refine condF (fun h => ?_) (fun h1 => ?_)
  ·
    conv => whnf
    refine FrzK.le (leBool ?_)
    symm
    rw [Bool.eq_false_iff]
    intro hr
    simp only [rightB, millB, Bool.and_eq_true, decide_eq_true_eq, bne_iff_ne, ne_eq] at hr
    simp at h
    omega
  conv => whnf
  have h1 : 1 ≤ u := by simpa using h1
  refine condF (fun h => ?_) (fun h2 => ?_)
  ·
    conv => whnf
    refine FrzK.le (leBool ?_)
    symm
    rw [Bool.eq_false_iff]
    intro hr
    simp only [rightB, millB, Bool.and_eq_true, decide_eq_true_eq, bne_iff_ne, ne_eq] at hr
    simp at h
    omega
  conv => whnf
  have h2 : u ≤ 247 := by simpa using h2
  refine condF (fun h => ?_) (fun h3 => ?_)
  ·
    conv => whnf
    refine FrzK.le (leBool ?_)
    symm
    rw [Bool.eq_false_iff]
    intro hr
    simp only [rightB, millB, Bool.and_eq_true, decide_eq_true_eq, bne_iff_ne, ne_eq] at hr
    simp at h
    omega
  conv => whnf
  have h3 : areaS f ≠ 0 := by simpa using h3
  refine condF (fun h => ?_) (fun h4 => ?_)
  ·
    conv => whnf
    refine FrzK.le (leBool ?_)
    symm
    rw [Bool.eq_false_iff]
    intro hr
    simp only [rightB, millB, Bool.and_eq_true, decide_eq_true_eq, bne_iff_ne, ne_eq] at hr
    simp at h
    omega
  conv => whnf
  have h4 : 1 ≤ n := by simpa using h4
  refine condF (fun h => ?_) (fun h5 => ?_)
  ·
    conv => whnf
    refine FrzK.le (leBool ?_)
    symm
    rw [Bool.eq_false_iff]
    intro hr
    simp only [rightB, millB, Bool.and_eq_true, decide_eq_true_eq, bne_iff_ne, ne_eq] at hr
    simp at h
    omega
  conv => whnf
  have h5 : n ≤ 64 := by simpa using h5
  rw [w64i (n := a) (by omega) (by omega), w64i (n := a + n) (by omega) (by omega)]
  refine condF (fun h => ?_) (fun h6 => ?_)
  ·
    conv => whnf
    refine FrzK.le (leBool ?_)
    symm
    rw [Bool.eq_false_iff]
    intro hr
    simp only [rightB, millB, Bool.and_eq_true, decide_eq_true_eq, bne_iff_ne, ne_eq] at hr
    simp at h
    omega
  conv => whnf
  have h6 : a + n ≤ 65536 := by simpa using h6
  refine condF (fun h => ?_) (fun h7 => ?_)
  ·
    conv => whnf
    refine FrzK.le (leBool ?_)
    symm
    rw [Bool.eq_false_iff]
    intro hr
    simp only [rightB, millB, Bool.and_eq_true, decide_eq_true_eq, bne_iff_ne, ne_eq] at hr
    simp at h
    omega
  conv => whnf
  have h7 : 0 ≤ p := by simpa using h7
  refine Ev.call (asize_ev (areaS f)) ?_
  conv => whnf
  repeat' (first | (refine ⟨rfl, ?_⟩; conv => whnf) | fail)
  rw [w64i (n := szA (areaS f) - n) (by omega) (by omega)]
  refine condF (fun h => ?_) (fun h8 => ?_)
  ·
    conv => whnf
    refine FrzK.le (leBool ?_)
    symm
    rw [Bool.eq_false_iff]
    intro hr
    simp only [rightB, millB, Bool.and_eq_true, decide_eq_true_eq, bne_iff_ne, ne_eq] at hr
    simp at h
    omega
  conv => whnf
  have h8 : p ≤ szA (areaS f) - n := by simpa using h8
  refine Ev.call (mill_ev e) ?_
  conv => whnf
  repeat' (first | (refine ⟨rfl, ?_⟩; conv => whnf) | fail)
  refine condF (fun h => ?_) (fun g0 => ?_)
  ·
    conv => whnf
    refine FrzK.le (leBool ?_)
    symm
    rw [Bool.eq_false_iff]
    intro hr
    simp only [rightB, Bool.and_eq_true] at hr
    have h : millB e = false := h
    simp [h] at hr
  conv => whnf
  refine Ev.call (mill_ev t) ?_
  conv => whnf
  repeat' (first | (refine ⟨rfl, ?_⟩; conv => whnf) | fail)
  refine condF (fun h => ?_) (fun g1 => ?_)
  ·
    conv => whnf
    refine FrzK.le (leBool ?_)
    symm
    rw [Bool.eq_false_iff]
    intro hr
    simp only [rightB, Bool.and_eq_true] at hr
    have h : millB t = false := h
    simp [h] at hr
  conv => whnf
  refine Ev.call (mill_ev r) ?_
  conv => whnf
  repeat' (first | (refine ⟨rfl, ?_⟩; conv => whnf) | fail)
  refine FrzK.le (leBool ?_)
  have g0 : millB e = true := g0
  have g1 : millB t = true := g1
  have k1 : decide (1 ≤ u) = true := by simpa using h1
  have k2 : decide (u ≤ 247) = true := by simpa using h2
  have k3 : (areaS f != 0) = true := by simpa using h3
  have k4 : decide (1 ≤ n) = true := by simpa using h4
  have k5 : decide (n ≤ 64) = true := by simpa using h5
  have k6 : decide (a + n ≤ 65536) = true := by simpa using h6
  have k7 : decide (0 ≤ p) = true := by simpa using h7
  have k8 : decide (p ≤ szA (areaS f) - n) = true := by simpa using h8
  show millB r = (decide (1 ≤ u) && decide (u ≤ 247) && areaS f != 0 && decide (1 ≤ n) && decide (n ≤ 64) && decide (a + n ≤ 65536) && decide (0 ≤ p) && decide (p ≤ szA (areaS f) - n) && millB e && millB t && millB r)
  rw [k1, k2, k3, k4, k5, k6, k7, k8, g0, g1]
  rfl
theorem nright_ev (x : Po) (ha : 0 ≤ x.a ∧ x.a < 65536) : Ev Try.prog 126 [poA x] (.bool (!rightB x)) := by
  refine FrzK.ev rfl (trF g126 b126 c126 ?_)
  conv => whnf
  refine Ev.call (right_ev x ha) ?_
  conv => whnf
  exact FrzK.le (Le.refl _)
def allR (S : List Po) : Bool := S.all rightB
theorem map_at {α : Type} {S : List α} {f : α → AV} {i : Nat} (h : i < S.length) : (S.map f).getD i .undef = f S[i] := by simp [List.getD_eq_getElem?_getD, List.getElem?_eq_getElem h]
theorem allR_iff (S : List Po) : allR S = true ↔ ∀ j (h : j < S.length), rightB S[j] = true := by
  unfold allR
  rw [List.all_eq_true]
  constructor
  · exact fun h j hj => h _ (List.getElem_mem hj)
  · intro h x hx
    obtain ⟨j, hj, rfl⟩ := List.getElem_of_mem hx
    exact h j hj
theorem index_ev (S : List Po) (hS : ∀ x ∈ S, 0 ≤ x.a ∧ x.a < 65536) (hl : S.length ≤ 100000) : ∃ k : Int, Ev Try.prog 152 [.ro 8 (S.map poA), .fn 126 []] (.int .i64 k) ∧ decide (k ≥ 0) = !allR S := by
  refine ⟨if allR S then -1 else (S.findIdx (fun x => !rightB x) : Nat), ?_, ?_⟩
  rotate_left
  · by_cases h : allR S = true
    · rw [if_pos h, h]; rfl
    · have h' : allR S = false := by simpa using h
      rw [if_neg h, h']; simp
  refine FrzK.ev rfl (trF g152 b152 c152 ?_)
  conv => whnf
  refine loopI (α := {i : Nat // i ≤ S.length ∧ ∀ j (h : j < S.length), j < i → rightB S[j] = true}) (fun i => [(0, .ro 8 (S.map poA)), (1, .fn 126 []), (7, .int .i64 S.length), (8, .int .i64 i.1)]) (fun i => ⟨0, []⟩) (fun i => S.length - i.1) ⟨0, Nat.zero_le _, fun j h k => by omega⟩
      ⟨[], rfl, rfl, rfl, ⟨⟨rfl, rfl⟩, ⟨rfl, rfl⟩, ⟨?_, rfl⟩, ⟨rfl, rfl⟩, trivial⟩, trivial⟩ fun ⟨i, hi, hb⟩ => ?_
  · show AV.int .i64 ((S.map poA).length : Nat) = AV.int .i64 S.length
    rw [List.length_map]
  conv => whnf
  by_cases hlt : i < S.length
  · refine condY (by simp; omega) ?_
    conv => whnf
    have hx : (S.map poA).getD (Int.toNat (i : Int)) .undef = poA S[i] := map_at hlt
    refine condT (by simp; omega) ?_
    rw [hx]
    conv => whnf
    refine Ev.call (nright_ev S[i] (hS _ (List.getElem_mem hlt))) ?_
    conv => whnf
    refine condF (fun h => ?_) (fun h => ?_)
    · have h : rightB S[i] = true := by simpa using h
      conv => whnf
      refine ⟨⟨i + 1, hlt, fun j hj hji => ?_⟩, ⟨[], rfl, rfl, rfl, ⟨⟨rfl, rfl⟩, ⟨rfl, rfl⟩, ⟨rfl, rfl⟩, ⟨?_, rfl⟩, trivial⟩, trivial⟩, by show S.length - (i + 1) < S.length - i; omega⟩
      · by_cases e : j = i
        · subst e; exact h
        · exact hb j hj (by omega)
      · show AV.int .i64 (IntKind.i64.wrap ((i : Int) + 1)) = AV.int .i64 ((i + 1 : Nat) : Int)
        rw [s64 (by omega)]
    · have h : rightB S[i] = false := by simpa using h
      conv => whnf
      have hn : ¬ allR S = true := fun e => by
        have := (allR_iff S).mp e i hlt
        rw [h] at this; cases this
      have hf : S.findIdx (fun x => !rightB x) = i := by
        rw [List.findIdx_eq hlt]
        exact ⟨by rw [h]; rfl, fun j hj => by rw [hb j (by omega) hj]; rfl⟩
      rw [if_neg hn, hf]
      exact FrzK.le (Le.refl _)
  · refine condN (by simp; omega) ?_
    conv => whnf
    rw [if_pos ((allR_iff S).mpr fun j hj => hb j hj (by omega))]
    exact FrzK.le (Le.refl _)
theorem contains_ev (S : List Po) (hS : ∀ x ∈ S, 0 ≤ x.a ∧ x.a < 65536) (hl : S.length ≤ 100000) : Ev Try.prog 125 [.ro 8 (S.map poA), .fn 126 []] (.bool (!allR S)) := by
  obtain ⟨k, h1, h2⟩ := index_ev S hS hl
  refine FrzK.ev rfl (trF g125 b125 c125 ?_)
  conv => whnf
  refine Ev.call h1 ?_
  conv => whnf
  rw [h2]
  exact FrzK.le (Le.refl _)
end Go.Proofs.Ytomodeliimnddaa
set_option linter.unusedVariables false
set_option linter.unusedSimpArgs false
namespace Go.Proofs.Ytomodeliimnddaa
open Go.Ab
structure Pl where
  p : Po
  ar : Int
  si : Int
  w : Bool
  id : Int
  le : Int
  qf : Int
  qa : Int
  qn : Int
  qb : List Bool
  qr : List Int
  ms : Int
  st : Bool
  ag : Int
  l : List Int
def plC (x : Pl) : Chunk := .obj [.int .u8 x.p.u, .int .u8 x.p.f, .int .u16 x.p.a, .int .i64 x.p.n, .int .i64 x.p.p, .int .i64 x.p.e, .int .i64 x.p.t, .int .i64 x.p.r, .int .i64 x.ar, .int .i64 x.si, .bool x.w, .int .u16 x.id, .int .i64 x.le, .int .u8 x.qf, .int .u16 x.qa, .int .u16 x.qn, .int .u16 0, (.roB x.qb), (.roI .u16 x.qr), .int .i64 x.ms, .bool x.st, .int .i64 x.ag, (.roI .u16 x.l)]
theorem plC_ren (ρ : Nat → Option Nat) (x : Pl) : (plC x).ren ρ = plC x := rfl
theorem plC_hok (N : Nat) (ρ : Nat → Option Nat) (x : Pl) : (plC x).hok N ρ := by
  rfl
def famL (k : Nat) : Nat → List Pl → Mem
  | _, [] => []
  | j, x :: r => if j = k then famL k (j + 1) r else (j + 3, some (plC x)) :: famL k (j + 1) r
theorem get_ne {a u : Nat} {c : Option Chunk} {r : Mem} (h : a ≠ u) : Mem.get ((a, c) :: r) u = Mem.get r u := by
  have : Nat.beq a u = false := beq_ne h
  rw [Mem.get, this]; rfl
theorem get_eq {u : Nat} {c : Option Chunk} {r : Mem} : Mem.get ((u, c) :: r) u = c := by
  rw [Mem.get, Nat.beq_refl]; rfl
theorem famL_get (k : Nat) : ∀ (X : List Pl) (j0 j : Nat) (h : j < X.length), j0 + j ≠ k → Mem.get (famL k j0 X) (j0 + j + 3) = some (plC X[j])
  | [], _, j, h, _ => by simp at h
  | x :: r, j0, 0, h, hk => by
    rw [famL, if_neg (by omega)]
    exact get_eq
  | x :: r, j0, j + 1, h, hk => by
    have ih := famL_get k r (j0 + 1) j (by simpa using h) (by omega)
    rw [show j0 + 1 + j + 3 = j0 + (j + 1) + 3 by omega] at ih
    rw [famL]
    split
    · exact ih
    · rw [get_ne (by omega)]; exact ih
theorem memSub_app {ρ : Nat → Option Nat} {N : Nat} {s : St} : ∀ {l r : Mem}, memSub ρ N s l → memSub ρ N s r → memSub ρ N s (l ++ r)
  | [], r, _, h => h
  | (a, some c) :: l, r, h, k => ⟨h.1, memSub_app h.2 k⟩
  | (a, none) :: l, r, h, k => memSub_app (l := l) h k
theorem famL_sub {ρ : Nat → Option Nat} {N : Nat} {s : St} (k : Nat) (hρ : ∀ h, 3 ≤ h → h < N → ρ h = some h) : ∀ (X : List Pl) (j0 : Nat), j0 + X.length + 3 ≤ N → (∀ j (h : j < X.length), j0 + j ≠ k → s.get (j0 + j + 3) = some (plC X[j])) → memSub ρ N s (famL k j0 X)
  | [], _, _, _ => trivial
  | x :: r, j0, hN, h => by
    simp only [List.length_cons] at hN
    have ih := famL_sub k hρ r (j0 + 1) (by omega) fun j hj hk => by
      have := h (j + 1) (by simpa using hj) (by omega)
      rwa [show j0 + (j + 1) + 3 = j0 + 1 + j + 3 by omega] at this
    rw [famL]
    split
    · exact ih
    · rename_i hne
      refine ⟨⟨plC_hok _ _ _, ?_, ?_⟩, ih⟩
      · have : j0 + 3 < N := by omega
        show Nat.ble (j0 + 3 + 1) N = true
        exact Nat.ble_eq_true_of_le this
      · rw [hρ (j0 + 3) (by omega) (by omega), plC_ren]
        exact h 0 (by simp) (by omega)
theorem liveOf_app {ρ : Nat → Option Nat} : ∀ (l r : Mem), liveOf ρ (l ++ r) = liveOf ρ l ++ liveOf ρ r
  | [], r => rfl
  | (a, some c) :: l, r => by
    show liveOf ρ ((a, some c) :: (l ++ r)) = _
    simp only [liveOf]
    split
    · rw [liveOf_app l r]; rfl
    · exact liveOf_app l r
  | (a, none) :: l, r => liveOf_app l r
theorem famL_live {ρ : Nat → Option Nat} {N : Nat} (k : Nat) (hρ : ∀ h, 3 ≤ h → h < N → ρ h = some h) : ∀ (X : List Pl) (j0 : Nat), j0 + X.length + 3 ≤ N → nodupN (liveOf ρ (famL k j0 X)) = true ∧ ∀ h, memN (liveOf ρ (famL k j0 X)) h = true → j0 + 3 ≤ h ∧ h < j0 + X.length + 3 ∧ h ≠ k + 3
  | [], _, _ => ⟨rfl, fun h hm => by cases hm⟩
  | x :: r, j0, hN => by
    simp only [List.length_cons] at hN
    obtain ⟨ih1, ih2⟩ := famL_live k hρ r (j0 + 1) (by omega)
    rw [famL]
    split
    · refine ⟨ih1, fun h hm => ?_⟩
      have := ih2 h hm
      simp only [List.length_cons]
      omega
    · rename_i hne
      simp only [liveOf, hρ (j0 + 3) (by omega) (by omega)]
      refine ⟨?_, fun h hm => ?_⟩
      · show (!memN _ (j0 + 3) && nodupN _) = true
        rw [ih1, Bool.and_true]
        rw [show memN (liveOf ρ (famL k (j0 + 1) r)) (j0 + 3) = false from Bool.eq_false_iff.mpr fun hm => by
          have := ih2 _ hm
          omega]
        rfl
      · rw [memN_iff, List.mem_cons] at hm
        simp only [List.length_cons]
        rcases hm with hm | hm
        · omega
        · have := ih2 h ((memN_iff _ _).mpr hm)
          omega
theorem nodupN_app : ∀ (l r : List Nat), nodupN l = true → nodupN r = true → (∀ h, memN l h = true → memN r h = false) → nodupN (l ++ r) = true
  | [], r, _, h, _ => h
  | a :: l, r, h1, h2, h3 => by
    simp only [nodupN, Bool.and_eq_true, Bool.not_eq_true'] at h1
    have ih := nodupN_app l r h1.2 h2 fun h hm => h3 h (by rw [memN_iff] at hm ⊢; exact List.mem_cons_of_mem _ hm)
    have h4 := h3 a (by rw [memN_iff]; exact List.mem_cons_self ..)
    have hm : memN (l ++ r) a = false := by
      rw [Bool.eq_false_iff]
      intro hm
      rw [memN_iff, List.mem_append, ← memN_iff, ← memN_iff, h1.1, h4] at hm
      rcases hm with hm | hm <;> cases hm
    show (!memN (l ++ r) a && nodupN (l ++ r)) = true
    rw [hm, ih]; rfl
theorem subFam {n0 : Nat} {e : Env} {s : St} {E : Env} {pre : Mem} {X : List Pl} {k : Nat} (rn : List (Nat × Option Nat)) (hrn : (rn.all fun p => Nat.ble n0 p.1) = true) (h40 : Nat.ble n0 40 = true) (hX : X.length ≤ 36)
    (hid : ∀ h, 3 ≤ h → h < 40 → rnm rn h = some h) (hnd : nodupN (liveOf (rnm rn) pre) = true) (hdis : ∀ h, memN (liveOf (rnm rn) pre) h = true → h < 3 ∨ 40 ≤ h ∨ h = k + 3)
    (henv : envSub (rnm rn) 40 e E) (hpre : memSub (rnm rn) 40 s pre) (hfam : ∀ j (h : j < X.length), j ≠ k → s.get (j + 3) = some (plC X[j])) : SubW n0 e s E ⟨40, pre ++ famL k 0 X⟩ := by
  obtain ⟨l1, l2⟩ := famL_live k hid X 0 (by omega)
  refine ⟨rn, hrn, h40, ?_, henv, memSub_app hpre (famL_sub k hid X 0 (by omega) fun j hj hk => ?_)⟩
  · show nodupN (liveOf (rnm rn) (pre ++ famL k 0 X)) = true
    rw [liveOf_app]
    refine nodupN_app _ _ hnd l1 fun h hm => ?_
    rw [Bool.eq_false_iff]
    intro hm2
    have h1 := hdis h hm
    have h2 := l2 h hm2
    omega
  · have := hfam j hj (by omega)
    rwa [Nat.zero_add]
end Go.Proofs.Ytomodeliimnddaa
set_option linter.unusedVariables false
set_option linter.unusedSimpArgs false
namespace Go.Proofs.Ytomodeliimnddaa
open Go.Ab
def a133 : ACode := (.seq (.reg [(iM 2 0), (iN 3 2), (iF 4 10 3), ⟨none, .store 1 (.t 4) (.c (.bool false)), none, false⟩])
 (.seq (.reg [(iM 5 0), (iN 6 5), (iF 7 19 6), (iL 8 7), (iO 9 (.bin .add .other (.t 8) (.c (.int .i64 1)))), (iN 10 5), (iF 11 19 10), ⟨none, .store 1 (.t 11) (.t 9), none, false⟩])
 (.draw [(zS 0 (iM 12 0)), (zS 1 (iM 13 0)), (zS 2 (iN 14 13)), (zS 3 (iF 15 20 14)), (zS 4 (iL 16 15)), ⟨5, ⟨(some 17), .mov (.t 16), none, true⟩, false, [], []⟩, (zS 6 (iG 18 (.mov (.t 0)) 17 false)), (zS 7 (iG 19 (.nilck (.t 18)) 17 false)), (zS 8 (iG 20 (.fld 19 1 false (.t 19)) 17 false)), (zS 9 (iG 21 (.load false 1 (.t 20)) 17 false)), (zS 10 (iG 22 (.mov (.t 0)) 17 false)), (zS 11 (iG 23 (.nilck (.t 22)) 17 false)), (zS 12 (iG 24 (.fld 0 8 true (.t 23)) 17 false)), (zS 13 (iG 25 (.fld 7 1 false (.t 24)) 17 false)), (zS 14 (iG 26 (.load false 1 (.t 25)) 17 false)), (zS 15 (iG 27 (.bin .geq .other (.t 21) (.t 26)) 17 false)), (zS 16 (iO 28 (.pick (.t 17) (.c (.bool true)) (.t 27)))), (zS 17 (iN 29 12)), (zS 18 (iF 30 20 29)), ⟨19, ⟨none, .store 1 (.t 30) (.t 28), none, false⟩, true, [], []⟩])))
def r133 : List ARes := []
theorem c133 : compF Try.prog Try.f133 = some (a133, r133) := by kernel_rfl
theorem b133 : hasBody Try.prog 133 = true := by kernel_rfl
theorem g133 : Try.prog.funcs[133]? = some Try.f133 := by kernel_rfl
def a83 : ACode := (.seq (.reg [(iM 4 0), (iN 5 4), (iF 6 0 5), (iL 7 6), (iO 8 (.len false (.t 7))), (iO 9 (.mov (.c (.int .i64 0))))])
 (.block 0 (.loop (.seq (.reg [(iO 10 (.bin .lss .other (.t 9) (.t 8)))])
 (.seq (.cond (.t 10) .skip
 (.exit 0))
 (.seq (.block 1 (.seq (.reg [(iO 11 (.idx 1 none false (.t 7) (.t 9))), (iL 12 11), (iM 3 12)])
 (.seq (.seq (.reg [(iM 13 3), (iN 14 13), (iF 15 10 14), (iL 16 15), (iO 17 (.un .not (.t 16)))])
 (.cond (.t 17) (.exit 1)
 .skip))
 (.seq (.reg [(iM 18 3), (iN 19 18), (iF 20 12 19), (iL 21 20), (iO 22 (.bin .sub .other (.t 21) (.c (.int .i64 1)))), (iN 23 18), (iF 24 12 23), ⟨none, .store 1 (.t 24) (.t 22), none, false⟩])
 (.seq (.reg [(iM 25 3), (iN 26 25), (iF 27 12 26), (iL 28 27), (iO 29 (.bin .eql .other (.t 28) (.c (.int .i64 0))))])
 (.cond (.t 29) (.reg [(iM 30 3), (iO 31 (.call 133 [(.t 30)]))])
 .skip))))))
 (.reg [(iO 32 (.bin .add .other (.t 9) (.c (.int .i64 1)))), (iM 9 32)])))))))
def r83 : List ARes := []
theorem c83 : compF Try.prog Try.f83 = some (a83, r83) := by kernel_rfl
theorem b83 : hasBody Try.prog 83 = true := by kernel_rfl
theorem g83 : Try.prog.funcs[83]? = some Try.f83 := by kernel_rfl
def Pl.miss (x : Pl) : Pl := { x with w := false, ms := IntKind.i64.wrap (x.ms + 1), st := x.st || decide (IntKind.i64.wrap (x.ms + 1) ≥ x.p.r) }
abbrev PlT (f : Nat) (args : List AV) (x : Pl) (v0 : AV) (x' : Pl) : Prop :=
  Tr Try.prog f args ⟨1, [(0, some (plC x))]⟩ fun v s => v = v0 ∧ s = ⟨1, [(0, some (plC x'))]⟩
theorem plNorm {f : Nat} {args : List AV} {x x' : Pl} {v0 : AV} (h1 : v0.ren (rnm []) = v0) (h2 : v0.hok 1 (rnm []) = true)
    (h : Tr Try.prog f args ⟨1, [(0, some (plC x))]⟩ fun v s => v = v0 ∧ s.get 0 = some (plC x')) : PlT f args x v0 x' := by
  refine Tr.norm h fun v s ⟨hv, hs⟩ => ⟨v0, ⟨1, [(0, some (plC x'))]⟩, ?_, rfl, rfl⟩
  subst hv
  exact ⟨[], rfl, rfl, rfl, ⟨⟨h1.symm, h2⟩, trivial⟩, ⟨⟨plC_hok _ _ _, rfl, by rw [plC_ren]; exact hs⟩, trivial⟩⟩
theorem plCall {f h : Nat} {x x' : Pl} {args0 args : List AV} {v0 : AV} {s : St} {K : AV → St → Prop} (hT : PlT f args0 x v0 x') (ha : args = renL (rnm [(0, some h)]) args0) (hok : hokL 1 (rnm [(0, some h)]) args0 = true) (hv : v0.hok 0 nor = true) (hg : s.get h = some (plC x))
    (kk : openS s fun n m => K v0 ⟨n, (h, some (plC x')) :: (h, none) :: m⟩) : Tr Try.prog f args s K := by
  refine Tr.call [(0, some h)] hT ha hok ⟨⟨plC_hok _ _ _, rfl, by rw [plC_ren]; exact hg⟩, trivial⟩ rfl fun v1 s0 ⟨h1, h2⟩ => ?_
  subst h1; subst h2
  rw [openS_eq] at kk
  rw [ren_pure v1 hv]
  have e : backSt (rnm [(0, some h)]) ⟨1, [(0, some (plC x))]⟩ s ⟨1, [(0, some (plC x'))]⟩ = ⟨s.next, (h, some (plC x')) :: (h, none) :: s.m⟩ := by
    show (⟨s.next + 0, (h, some ((plC x').ren _)) :: (h, none) :: s.m⟩ : St) = _
    rw [plC_ren]; rfl
  rw [e]; exact kk
set_option maxRecDepth 20000 in
theorem miss_tr (x : Pl) : PlT 133 [.ptr 0 0] x (.tup []) x.miss := by
  refine plNorm rfl rfl (trF g133 b133 c133 ?_)
  conv => whnf
  refine condF (fun h => ?_) (fun h => ?_)
  · conv => whnf
    refine ⟨rfl, ?_⟩
    show some _ = some (plC { x with w := false, ms := _, st := x.st || _ })
    rw [h]; rfl
  · conv => whnf
    refine ⟨rfl, ?_⟩
    show some _ = some (plC { x with w := false, ms := _, st := x.st || _ })
    rw [h]; rfl
def mrC (n : Nat) : Chunk := .fn n fun j => .ptr (j % 36 + 3) 0
def msC (n : Nat) (last : Int) (o : AV) : Chunk := .obj [.sl 1 1 0 n, .int .u32 last, o]
def OkO (o : AV) : Prop := o = .nils ∨ ∃ es k, o = .sl es 39 0 k
def upTo (g : Pl → Pl) (X : List Pl) (i : Nat) : List Pl := X.mapIdx fun j x => if j < i then g x else x
theorem upTo_len (g : Pl → Pl) (X : List Pl) (i : Nat) : (upTo g X i).length = X.length := by simp [upTo]
theorem upTo_get (g : Pl → Pl) (X : List Pl) (i j : Nat) (h : j < (upTo g X i).length) : (upTo g X i)[j] = if j < i then g (X[j]'(by rw [upTo_len] at h; exact h)) else X[j]'(by rw [upTo_len] at h; exact h) := by simp [upTo]
theorem upTo_zero (g : Pl → Pl) (X : List Pl) : upTo g X 0 = X := by
  apply List.ext_getElem
  · rw [upTo_len]
  · intro j h1 h2
    rw [upTo_get, if_neg (by omega)]
theorem upTo_all (g : Pl → Pl) (X : List Pl) : upTo g X X.length = X.map g := by
  apply List.ext_getElem
  · rw [upTo_len, List.length_map]
  · intro j h1 h2
    rw [upTo_get, if_pos (by rw [upTo_len] at h1; exact h1), List.getElem_map]
theorem mrC_ld {n i : Nat} (hn : n ≤ 36) (h : i < n) : (mrC n).ld false (0 + (Int.toNat (i : Int)) * 1) 1 = (true, .ptr (i + 3) 0) := by
  simp [mrC, Chunk.ld, Chunk.size, Chunk.get, Nat.mod_eq_of_lt (show i < 36 by omega)]
  omega
def famS (X : List Pl) (i : Nat) (base : Mem) : St := ⟨40, ((i + 3, X[i]?.map plC) :: base) ++ famL i 0 X⟩
def Pl.tick (x : Pl) : Pl := if x.w then (if IntKind.i64.wrap (x.le - 1) = 0 then ({ x with le := IntKind.i64.wrap (x.le - 1) } : Pl).miss else { x with le := IntKind.i64.wrap (x.le - 1) }) else x
theorem famNext {n0 : Nat} {e : Env} {s : St} {E : Env} {X : List Pl} {i : Nat} {base : Mem} (hn0 : Nat.ble n0 40 = true) (hX : X.length ≤ 36) (henv : envSub (rnm []) 40 e E) (hb : memSub (rnm []) 40 s base)
    (hnd : nodupN (liveOf (rnm []) base) = true) (hd : ∀ h, memN (liveOf (rnm []) base) h = true → h < 3) (hfam : ∀ j (h : j < X.length), s.get (j + 3) = some (plC X[j])) : SubW n0 e s E (famS X i base) := by
  by_cases hi : i < X.length
  · have hxi : X[i]?.map plC = some (plC X[i]) := by rw [List.getElem?_eq_getElem hi]; rfl
    refine subFam (pre := (i + 3, X[i]?.map plC) :: base) (k := i) [] rfl hn0 hX (fun _ _ _ => rfl) ?_ ?_ henv ?_ fun j hj _ => hfam j hj
    · rw [hxi]
      show (!memN (liveOf (rnm []) base) (i + 3) && nodupN (liveOf (rnm []) base)) = true
      rw [hnd, show memN (liveOf (rnm []) base) (i + 3) = false from Bool.eq_false_iff.mpr fun hm => by have := hd _ hm; omega]
      rfl
    · intro h hm
      rw [hxi] at hm
      rw [memN_iff] at hm
      rcases List.mem_cons.mp hm with hm | hm
      · omega
      · exact .inl (hd h ((memN_iff _ _).mpr hm))
    · rw [hxi]
      refine ⟨⟨plC_hok _ _ _, ?_, ?_⟩, hb⟩
      · show Nat.ble (i + 3 + 1) 40 = true
        exact Nat.ble_eq_true_of_le (by omega)
      · show s.get (i + 3) = some ((plC X[i]).ren _)
        rw [plC_ren]; exact hfam i hi
  · have hxi : X[i]?.map plC = none := by rw [List.getElem?_eq_none (by omega)]; rfl
    refine subFam (pre := (i + 3, X[i]?.map plC) :: base) (k := i) [] rfl hn0 hX (fun _ _ _ => rfl) ?_ ?_ henv ?_ fun j hj _ => hfam j hj
    · rw [hxi]; exact hnd
    · intro h hm
      rw [hxi] at hm
      exact .inl (hd h hm)
    · rw [hxi]; exact hb
theorem baseSub {s : St} {n : Nat} {last : Int} {o : AV} (ho : OkO o) (hn : n ≤ 36) (h0 : s.get 0 = some (msC n last o)) (h1 : s.get 1 = some (mrC n)) : memSub (rnm []) 40 s [(0, some (msC n last o)), (1, some (mrC n))] := by
  rcases ho with rfl | ⟨es, k, rfl⟩
  all_goals
    refine ⟨⟨rfl, rfl, h0⟩, ⟨fun j hj => ?_, rfl, h1⟩, trivial⟩
    show (Nat.ble (j % 36 + 3 + 1) 40 && true) = true
    rw [Nat.ble_eq_true_of_le (by omega)]; rfl
theorem base_low (n : Nat) (last : Int) (o : AV) : ∀ h, memN (liveOf (rnm []) [(0, some (msC n last o)), (1, some (mrC n))]) h = true → h < 3 := fun h hm => by
  rw [memN_iff] at hm
  have hm : h ∈ [0, 1] := hm
  simp at hm
  omega
theorem fam0_get {X : List Pl} {base : Mem} {j : Nat} (h : j < X.length) (hb : Mem.get (base ++ famL 100 0 X) (j + 3) = Mem.get (famL 100 0 X) (j + 3)) (hX : X.length ≤ 36) : Mem.get (base ++ famL 100 0 X) (j + 3) = some (plC X[j]) := by
  rw [hb]
  have := famL_get 100 X 0 j h (by omega)
  rwa [Nat.zero_add] at this
theorem ld_at {get : Nat → Option Chunk} {nx : Nat} {ρ : AOpd → AV} {agg : Bool} {sz h off : Nat} {x : AOpd} {c : Chunk} (hx : ρ x = .ptr h off) (hg : get h = some c) : opD get nx ρ (.load agg sz x) = .ok (c.ld agg off sz).1 (c.ld agg off sz).2 .no := by
  simp only [opD, hx, hg]
theorem st_at {get : Nat → Option Chunk} {sz h off : Nat} {c c' : Chunk} {v : AV} (hg : get h = some c) (hv : v.flat = [v]) (hp : c.put off [v] = some c') (hn : ∀ m k g, v ≠ .aggI m k g) :
    storeA get sz (.ptr h off) v = .ok (v.one && Nat.beq 1 sz && decide (off + sz ≤ c.size)) .undef (.set h c') := by
  simp only [storeA, hg]
  cases v with
  | aggI m k g => exact absurd rfl (hn m k g)
  | _ => simp only [hv, hp, List.all_cons, List.all_nil, Bool.and_true, List.length_cons, List.length_nil]
theorem famS_get {X : List Pl} {i : Nat} {base : Mem} {x : Pl} (h : X[i]? = some x) : (famS X i base).get (i + 3) = some (plC x) := by
  show Mem.get ((i + 3, X[i]?.map plC) :: (base ++ famL i 0 X)) (i + 3) = _
  rw [get_eq, h]; rfl
theorem famS_ne {X : List Pl} {i j : Nat} {base : Mem} (hb : ∀ r j, Mem.get (base ++ r) (j + 3) = Mem.get r (j + 3)) (hj : j < X.length) (hne : j ≠ i) : (famS X i base).get (j + 3) = some (plC X[j]) := by
  show Mem.get ((i + 3, X[i]?.map plC) :: (base ++ famL i 0 X)) (j + 3) = _
  rw [get_ne (by omega), hb]
  have := famL_get i X 0 j hj (by omega)
  rwa [Nat.zero_add] at this
theorem upStep {g : Pl → Pl} {X : List Pl} {i : Nat} {base : Mem} {s : St} {x : Pl} (hi : i < X.length) (hx : X[i] = x) (hb : ∀ r j, Mem.get (base ++ r) (j + 3) = Mem.get r (j + 3)) (h1 : s.get (i + 3) = some (plC (g x))) (h2 : ∀ j, j ≠ i → s.get (j + 3) = (famS (upTo g X i) i base).get (j + 3)) :
    ∀ j (h : j < (upTo g X (i + 1)).length), s.get (j + 3) = some (plC (upTo g X (i + 1))[j]) := fun j h => by
  have hj : j < X.length := by rw [upTo_len] at h; exact h
  rw [upTo_get]
  by_cases e : j = i
  · subst e
    rw [if_pos (by omega), hx]; exact h1
  · rw [h2 j e, famS_ne hb (by rw [upTo_len]; exact hj) e, upTo_get]
    by_cases e2 : j < i
    · rw [if_pos e2, if_pos (by omega)]
    · rw [if_neg e2, if_neg (by omega)]
set_option maxRecDepth 20000 in
theorem Tick_tr (X : List Pl) (last : Int) (o : AV) (ho : OkO o) (hX : X.length ≤ 36) : Tr Try.prog 83 [.ptr 0 0] ⟨40, [(0, some (msC X.length last o)), (1, some (mrC X.length))] ++ famL 100 0 X⟩ fun v s => v = .tup [] ∧ s = ⟨40, [(0, some (msC X.length last o)), (1, some (mrC X.length))] ++ famL 100 0 (X.map Pl.tick)⟩ := by
  refine Tr.norm (K := fun v s => v = .tup [] ∧ s.get 0 = some (msC X.length last o) ∧ s.get 1 = some (mrC X.length) ∧ ∀ j (h : j < X.length), s.get (j + 3) = some (plC (X[j].tick))) ?_ ?_
  · refine trF g83 b83 c83 ?_
    conv => whnf
    refine loopI (α := {i : Nat // i ≤ X.length}) (fun i => [(7, .sl 1 1 0 X.length), (8, .int .i64 X.length), (9, .int .i64 i.1)]) (fun i => famS (upTo Pl.tick X i.1) i.1 [(0, some (msC X.length last o)), (1, some (mrC X.length))]) (fun i => X.length - i.1) ⟨0, Nat.zero_le _⟩ ?_ fun ⟨i, hi⟩ => ?_
    · refine famNext rfl (by rw [upTo_len]; exact hX) ⟨⟨rfl, rfl⟩, ⟨rfl, rfl⟩, ⟨rfl, rfl⟩, trivial⟩ (baseSub ho hX rfl rfl) rfl (base_low _ _ _) fun j hj => ?_
      have hj' : j < X.length := by rw [upTo_len] at hj; exact hj
      rw [upTo_get, if_neg (by show ¬ j < 0; omega)]
      exact fam0_get hj' rfl hX
    · conv => whnf
      by_cases hlt : i < X.length
      · refine condY (by simp; omega) ?_
        conv => whnf
        refine condT (by simp; omega) ?_
        conv => whnf
        rw [mrC_ld hX hlt]
        conv => whnf
        have hxi : (upTo Pl.tick X i)[i]? = some X[i] := by
          rw [List.getElem?_eq_getElem (by rw [upTo_len]; exact hlt), upTo_get, if_neg (by omega)]
        generalize hx : X[i] = x at *
        rw [ld_at (c := plC x)]
        rotate_left
        · rfl
        · exact famS_get hxi
        conv => whnf
        by_cases hw : x.w = true
        · refine condN (by rw [hw]; rfl) ?_
          conv => whnf
          rw [ld_at (c := plC x)]
          rotate_left
          · rfl
          · exact famS_get hxi
          conv => whnf
          rw [st_at (c := plC x) (c' := plC { x with le := IntKind.i64.wrap (x.le - 1) })]
          rotate_left
          · exact famS_get hxi
          · rfl
          · rfl
          · exact fun _ _ _ => nofun
          conv => whnf
          rw [ld_at (c := plC { x with le := IntKind.i64.wrap (x.le - 1) })]
          rotate_left
          · rfl
          · exact get_eq
          conv => whnf
          refine condF (fun h0 => ?_) (fun h0 => ?_)
          · have h0' : ¬ IntKind.i64.wrap (x.le - 1) = 0 := by simpa using h0
            have ht : x.tick = { x with le := IntKind.i64.wrap (x.le - 1) } := by unfold Pl.tick; rw [if_pos hw, if_neg h0']
            conv => whnf
            refine ⟨⟨i + 1, hlt⟩, famNext rfl (by rw [upTo_len]; exact hX) ⟨⟨rfl, rfl⟩, ⟨rfl, rfl⟩, ⟨?_, rfl⟩, trivial⟩ (baseSub ho hX rfl rfl) rfl (base_low _ _ _) (upStep (base := [(0, some (msC X.length last o)), (1, some (mrC X.length))]) hlt hx (fun _ _ => rfl) ?_ fun j hj => ?_), by show X.length - (i + 1) < X.length - i; omega⟩
            · show AV.int .i64 (IntKind.i64.wrap ((i : Int) + 1)) = AV.int .i64 ((i + 1 : Nat) : Int)
              rw [s64 (by omega)]
            · rw [ht]; exact get_eq
            · exact get_ne (by omega)
          · have h0' : IntKind.i64.wrap (x.le - 1) = 0 := by simpa using h0
            have ht : x.tick = ({ x with le := IntKind.i64.wrap (x.le - 1) } : Pl).miss := by unfold Pl.tick; rw [if_pos hw, if_pos h0']
            conv => whnf
            refine plCall (miss_tr _) rfl rfl rfl get_eq ?_
            conv => whnf
            refine ⟨⟨i + 1, hlt⟩, famNext rfl (by rw [upTo_len]; exact hX) ⟨⟨rfl, rfl⟩, ⟨rfl, rfl⟩, ⟨?_, rfl⟩, trivial⟩ (baseSub ho hX rfl rfl) rfl (base_low _ _ _) (upStep (base := [(0, some (msC X.length last o)), (1, some (mrC X.length))]) hlt hx (fun _ _ => rfl) ?_ fun j hj => ?_), by show X.length - (i + 1) < X.length - i; omega⟩
            · show AV.int .i64 (IntKind.i64.wrap ((i : Int) + 1)) = AV.int .i64 ((i + 1 : Nat) : Int)
              rw [s64 (by omega)]
            · rw [ht]; exact get_eq
            · show Mem.get ((i + 3, _) :: (i + 3, none) :: (i + 3, _) :: _) (j + 3) = _
              rw [get_ne (by omega), get_ne (by omega), get_ne (by omega)]; rfl
        · refine condY (by simpa using hw) ?_
          conv => whnf
          refine ⟨⟨i + 1, hlt⟩, famNext rfl (by rw [upTo_len]; exact hX) ⟨⟨rfl, rfl⟩, ⟨rfl, rfl⟩, ⟨?_, rfl⟩, trivial⟩ (baseSub ho hX rfl rfl) rfl (base_low _ _ _) (upStep (base := [(0, some (msC X.length last o)), (1, some (mrC X.length))]) hlt hx (fun _ _ => rfl) ?_ fun j hj => ?_), by show X.length - (i + 1) < X.length - i; omega⟩
          · show AV.int .i64 (IntKind.i64.wrap ((i : Int) + 1)) = AV.int .i64 ((i + 1 : Nat) : Int)
            rw [s64 (by omega)]
          · have ht : x.tick = x := by unfold Pl.tick; rw [if_neg hw]
            rw [ht]; exact famS_get hxi
          · rfl
      · obtain rfl : i = X.length := by omega
        refine condN (by simp) ?_
        conv => whnf
        refine ⟨rfl, rfl, rfl, fun j hj => ?_⟩
        have := famS_ne (X := upTo Pl.tick X X.length) (i := X.length) (base := [(0, some (msC X.length last o)), (1, some (mrC X.length))]) (fun _ _ => rfl) (by rw [upTo_len]; exact hj) (show j ≠ X.length by omega)
        rw [this, upTo_get, if_pos hj]
  · intro v s ⟨hv, h0, h1, hf⟩
    refine ⟨.tup [], _, ?_, rfl, rfl⟩
    subst hv
    refine subFam (pre := [(0, some (msC X.length last o)), (1, some (mrC X.length))]) (k := 100) [] rfl rfl (by rw [List.length_map]; exact hX) (fun _ _ _ => rfl) rfl (fun h hm => .inl (base_low _ _ _ h hm)) ⟨⟨rfl, rfl⟩, trivial⟩ (baseSub ho hX h0 h1) fun j hj _ => ?_
    have hj' : j < X.length := by rw [List.length_map] at hj; exact hj
    rw [hf j hj', List.getElem_map]
end Go.Proofs.Ytomodeliimnddaa
set_option linter.unusedVariables false
set_option linter.unusedSimpArgs false
namespace Go.Proofs.Ytomodeliimnddaa
open Go.Ab
def a135 : ACode := (.seq (.reg [(iO 4 (.mov (.c .nilp)))])
 (.seq (.seq (.reg [(iM 5 1), (iO 6 (.bin .lss .other (.t 5) (.c (.int .i64 0)))), ⟨(some 7), .mov (.t 6), none, true⟩, (iG 8 (.mov (.t 1)) 7 false), (iG 9 (.mov (.t 0)) 7 false), (iG 10 (.nilck (.t 9)) 7 false), (iG 11 (.fld 0 1 false (.t 10)) 7 false), (iG 12 (.load false 1 (.t 11)) 7 false), (iG 13 (.len false (.t 12)) 7 false), (iG 14 (.bin .geq .other (.t 8) (.t 13)) 7 false), (iO 15 (.pick (.t 7) (.c (.bool true)) (.t 14)))])
 (.cond (.t 15) (.seq (.reg [(iO 4 (.mov (.c .nilp)))])
 .ret)
 .skip))
 (.seq (.reg [(iM 16 0), (iN 17 16), (iF 18 0 17), (iL 19 18), (iM 20 1), (iO 21 (.idx 1 none false (.t 19) (.t 20))), (iL 22 21), (iM 4 22)])
 .ret)))
def r135 : List ARes := [.t 4]
theorem c135 : compF Try.prog Try.f135 = some (a135, r135) := by kernel_rfl
theorem b135 : hasBody Try.prog 135 = true := by kernel_rfl
theorem g135 : Try.prog.funcs[135]? = some Try.f135 := by kernel_rfl
def a79 : ACode := (.seq (.reg [(iO 4 (.mov (.c (.int .i64 0))))])
 (.seq (.seq (.reg [(iM 6 0), (iM 7 1), (iO 8 (.call 135 [(.t 6), (.t 7)])), (iM 5 8)])
 (.seq (.reg [(iM 9 5), (iO 10 (.bin .neq .ptr (.t 9) (.c .nilp)))])
 (.cond (.t 10) (.seq (.reg [(iM 11 5), (iN 12 11), (iF 13 21 12), (iL 14 13), (iM 4 14)])
 .ret)
 .skip)))
 (.seq (.reg [(iO 4 (.mov (.c (.int .i64 0))))])
 .ret)))
def r79 : List ARes := [.t 4]
theorem c79 : compF Try.prog Try.f79 = some (a79, r79) := by kernel_rfl
theorem b79 : hasBody Try.prog 79 = true := by kernel_rfl
theorem g79 : Try.prog.funcs[79]? = some Try.f79 := by kernel_rfl
def a80 : ACode := (.seq (.reg [(iO 4 (.mov (.c (.bool false))))])
 (.seq (.reg [(iM 6 0), (iM 7 1), (iO 8 (.call 135 [(.t 6), (.t 7)])), (iM 5 8)])
 (.seq (.reg [(iM 9 5), (iO 10 (.bin .neq .ptr (.t 9) (.c .nilp))), ⟨(some 11), .mov (.t 10), none, true⟩, (iG 12 (.mov (.t 5)) 11 true), (iG 13 (.nilck (.t 12)) 11 true), (iG 14 (.fld 20 1 false (.t 13)) 11 true), (iG 15 (.load false 1 (.t 14)) 11 true), (iO 16 (.pick (.t 11) (.t 15) (.c (.bool false)))), (iM 4 16)])
 .ret)))
def r80 : List ARes := [.t 4]
theorem c80 : compF Try.prog Try.f80 = some (a80, r80) := by kernel_rfl
theorem b80 : hasBody Try.prog 80 = true := by kernel_rfl
theorem g80 : Try.prog.funcs[80]? = some Try.f80 := by kernel_rfl
def a82 : ACode := (.seq (.reg [(iO 4 (.mov (.c (.int .u16 0)))), (iO 5 (.mov (.c (.bool false))))])
 (.seq (.seq (.reg [(iM 7 0), (iM 8 1), (iO 9 (.call 135 [(.t 7), (.t 8)])), (iM 6 9)])
 (.seq (.reg [(iM 10 6), (iO 11 (.bin .neq .ptr (.t 10) (.c .nilp))), ⟨(some 12), .mov (.t 11), none, true⟩, (iG 13 (.mov (.t 6)) 12 true), (iG 14 (.nilck (.t 13)) 12 true), (iG 15 (.fld 10 1 false (.t 14)) 12 true), (iG 16 (.load false 1 (.t 15)) 12 true), (iO 17 (.pick (.t 12) (.t 16) (.c (.bool false))))])
 (.cond (.t 17) (.seq (.reg [(iM 18 6), (iN 19 18), (iF 20 11 19), (iL 21 20), (iM 4 21), (iO 5 (.mov (.c (.bool true))))])
 .ret)
 .skip)))
 (.seq (.reg [(iO 4 (.mov (.c (.int .u16 0)))), (iO 5 (.mov (.c (.bool false))))])
 .ret)))
def r82 : List ARes := [.t 4, .t 5]
theorem c82 : compF Try.prog Try.f82 = some (a82, r82) := by kernel_rfl
theorem b82 : hasBody Try.prog 82 = true := by kernel_rfl
theorem g82 : Try.prog.funcs[82]? = some Try.f82 := by kernel_rfl
def msB (n : Nat) (last : Int) (o : AV) : Mem := [(0, some (msC n last o)), (1, some (mrC n))]
def msS (X : List Pl) (last : Int) (o : AV) : St := ⟨40, msB X.length last o ++ famL 100 0 X⟩
theorem msNorm {f : Nat} {args : List AV} {s0 : St} {X : List Pl} {last : Int} {o v0 : AV} (hs0 : s0.next = 40) (hX : X.length ≤ 36) (ho : OkO o) (h1 : v0.ren (rnm []) = v0) (h2 : v0.hok 40 (rnm []) = true)
    (h : Tr Try.prog f args s0 fun v s => v = v0 ∧ s.get 0 = some (msC X.length last o) ∧ s.get 1 = some (mrC X.length) ∧ ∀ j (h : j < X.length), s.get (j + 3) = some (plC X[j])) :
    Tr Try.prog f args s0 fun v s => v = v0 ∧ s = msS X last o := by
  refine Tr.norm h fun v s ⟨hv, k0, k1, hf⟩ => ⟨v0, _, ?_, rfl, rfl⟩
  subst hv
  exact subFam (pre := msB X.length last o) (k := 100) [] (by rw [hs0]; rfl) (by rw [hs0]; rfl) hX (fun _ _ _ => rfl) rfl (fun h hm => .inl (base_low _ _ _ h hm)) ⟨⟨h1.symm, h2⟩, trivial⟩ (baseSub ho hX k0 k1) fun j hj _ => hf j hj
theorem msS_get {X : List Pl} {last : Int} {o : AV} (hX : X.length ≤ 36) {j : Nat} (h : j < X.length) : (msS X last o).get (j + 3) = some (plC X[j]) := fam0_get h rfl hX
def ofV (n : Nat) (k : Int) : AV := .undef
theorem mrC_ldk {n : Nat} {k : Int} (hn : n ≤ 36) (h0 : 0 ≤ k) (h : k < n) : (mrC n).ld false (0 + (Int.toNat k) * 1) 1 = (true, .ptr (Int.toNat k + 3) 0) := by
  simp [mrC, Chunk.ld, Chunk.size, Chunk.get, Nat.mod_eq_of_lt (show k.toNat < 36 by omega)]
  omega
theorem of_tr (X : List Pl) (last k : Int) (o : AV) (ho : OkO o) (hX : X.length ≤ 36) (h0 : 0 ≤ k) (h1 : k < X.length) : Tr Try.prog 135 [.ptr 0 0, .int .i64 k] (msS X last o) fun v s => v = .ptr (k.toNat + 3) 0 ∧ s = msS X last o := by
  refine msNorm rfl hX ho rfl ?_ (trF g135 b135 c135 ?_)
  · show (Nat.ble (k.toNat + 3 + 1) 40 && true) = true
    rw [Nat.ble_eq_true_of_le (by omega)]; rfl
  conv => whnf
  refine condN (by simp; omega) ?_
  conv => whnf
  refine condN (by simp; omega) ?_
  conv => whnf
  refine condT (by simp; omega) ?_
  conv => whnf
  rw [mrC_ldk hX h0 h1]
  conv => whnf
  exact ⟨rfl, rfl, rfl, fun j hj => msS_get hX hj⟩
theorem ofN_tr (X : List Pl) (last k : Int) (o : AV) (ho : OkO o) (hX : X.length ≤ 36) (h : ¬ (0 ≤ k ∧ k < X.length)) : Tr Try.prog 135 [.ptr 0 0, .int .i64 k] (msS X last o) fun v s => v = .nilp ∧ s = msS X last o := by
  refine msNorm rfl hX ho rfl rfl (trF g135 b135 c135 ?_)
  conv => whnf
  refine condF (fun g => ?_) (fun g => ?_)
  · have g : 0 ≤ k := by simpa using g
    conv => whnf
    refine condY (by simp; omega) ?_
    conv => whnf
    exact ⟨rfl, rfl, rfl, fun j hj => msS_get hX hj⟩
  · conv => whnf
    exact ⟨rfl, rfl, rfl, fun j hj => msS_get hX hj⟩
theorem back_id : back (rnm []) 40 40 = rnm [] := by
  funext h
  unfold back
  by_cases hh : h < 40
  · rw [show Nat.blt h 40 = true from Nat.ble_eq_true_of_le hh]; rfl
  · rw [show Nat.blt h 40 = false from Bool.eq_false_iff.mpr fun e => hh (Nat.le_of_ble_eq_true e)]
    show some (40 + (h - 40)) = some h
    rw [show 40 + (h - 40) = h by omega]
theorem memRen_get {ρ : Nat → Option Nat} : ∀ {m : Mem} {h : Nat} {c : Chunk}, (∀ a ∈ m, ρ a.1 = some a.1) → Mem.get m h = some c → Mem.get (memRen ρ m) h = some (c.ren ρ)
  | [], h, c, _, hg => by cases hg
  | (a, x) :: r, h, c, hi, hg => by
    have ha : ρ a = some a := hi (a, x) (List.mem_cons_self ..)
    simp only [memRen, ha]
    by_cases e : a = h
    · subst e
      rw [get_eq] at hg ⊢
      subst hg; rfl
    · rw [get_ne e] at hg ⊢
      exact memRen_get (fun b hb => hi b (List.mem_cons_of_mem _ hb)) hg
theorem get_left {m r : Mem} {h : Nat} {c : Chunk} : Mem.get m h = some c → Mem.get (m ++ r) h = some c := by
  induction m with
  | nil => intro hg; cases hg
  | cons p m ih =>
    intro hg
    obtain ⟨a, x⟩ := p
    show Mem.get ((a, x) :: (m ++ r)) h = _
    by_cases e : a = h
    · subst e
      rw [get_eq] at hg ⊢
      exact hg
    · rw [get_ne e] at hg ⊢
      exact ih hg
theorem selfCall {f : Nat} {args : List AV} {X X' : List Pl} {last last' : Int} {o o' v0 : AV} {s : St} {K : AV → St → Prop} (hT : Tr Try.prog f args (msS X last o) fun v s => v = v0 ∧ s = msS X' last' o') (ha : renL (rnm []) args = args) (hok : hokL 40 (rnm []) args = true)
    (hs : s.next = 40) (hX : X.length ≤ 36) (hX' : X'.length ≤ 36) (ho : OkO o) (h0 : s.get 0 = some (msC X.length last o)) (h1 : s.get 1 = some (mrC X.length)) (hf : ∀ j (h : j < X.length), s.get (j + 3) = some (plC X[j]))
    (ho' : o'.ren (rnm []) = o') (hv : v0.ren (rnm []) = v0)
    (kk : ∀ s', s'.next = 40 → s'.get 0 = some (msC X'.length last' o') → s'.get 1 = some (mrC X'.length) → (∀ j (h : j < X'.length), s'.get (j + 3) = some (plC X'[j])) → K v0 s') : Tr Try.prog f args s K := by
  obtain ⟨l1, l2⟩ := famL_live (ρ := rnm []) (N := 40) 100 (fun _ _ _ => rfl) X 0 (by omega)
  refine Tr.call [] hT ha.symm hok (memSub_app (baseSub ho hX h0 h1) (famL_sub 100 (fun _ _ _ => rfl) X 0 (by show 0 + X.length + 3 ≤ 40; omega) fun j hj _ => by rw [Nat.zero_add]; exact hf j hj)) ?_ fun v s1 ⟨k1, k2⟩ => ?_
  · show nodupN (liveOf (rnm []) (msB X.length last o ++ famL 100 0 X)) = true
    rw [liveOf_app]
    refine nodupN_app _ _ rfl l1 fun h hm => ?_
    rw [Bool.eq_false_iff]
    intro hm2
    have h1 := base_low _ _ _ h hm
    have h2 := l2 h hm2
    omega
  · subst k1; subst k2
    have hb : back (rnm []) (msS X last o).next s.next = rnm [] := by rw [hs]; exact back_id
    rw [hb, hv]
    have hi : ∀ a ∈ (msS X' last' o').m, rnm [] a.1 = some a.1 := fun _ _ => rfl
    refine kk _ ?_ ?_ ?_ ?_
    · show s.next + ((40 : Nat) - 40) = 40
      rw [hs]
    · refine get_left ?_
      rw [hb]
      have : Mem.get (memRen (rnm []) (msS X' last' o').m) 0 = some ((msC X'.length last' o').ren (rnm [])) := memRen_get hi rfl
      rw [this]
      show some (Chunk.obj [.sl 1 1 0 X'.length, .int .u32 last', o'.ren (rnm [])]) = _
      rw [ho']; rfl
    · refine get_left ?_
      rw [hb]
      exact memRen_get (c := mrC X'.length) hi rfl
    · intro j hj
      refine get_left ?_
      rw [hb]
      have := memRen_get hi (msS_get (last := last') (o := o') hX' hj)
      rwa [plC_ren] at this
set_option maxRecDepth 20000 in
theorem Age_tr (X : List Pl) (last k : Int) (o : AV) (ho : OkO o) (hX : X.length ≤ 36) (h0 : 0 ≤ k) (h1 : k < X.length) : Tr Try.prog 79 [.ptr 0 0, .int .i64 k] (msS X last o) fun v s => v = .int .i64 ((X[k.toNat]'(by omega)).ag) ∧ s = msS X last o := by
  refine msNorm rfl hX ho rfl rfl (trF g79 b79 c79 ?_)
  have hk : k.toNat < X.length := by omega
  conv => whnf
  refine selfCall (of_tr X last k o ho hX h0 h1) rfl rfl rfl hX hX ho rfl rfl (fun j hj => msS_get hX hj) (by rcases ho with rfl | ⟨es, k, rfl⟩ <;> rfl) rfl fun s' e k0 k1 kf => ?_
  conv => whnf
  rw [ld_at (c := plC X[k.toNat])]
  rotate_left
  · rfl
  · exact kf _ hk
  conv => whnf
  exact ⟨rfl, k0, k1, kf⟩
theorem AgeN_tr (X : List Pl) (last k : Int) (o : AV) (ho : OkO o) (hX : X.length ≤ 36) (h : ¬ (0 ≤ k ∧ k < X.length)) : Tr Try.prog 79 [.ptr 0 0, .int .i64 k] (msS X last o) fun v s => v = .int .i64 0 ∧ s = msS X last o := by
  refine msNorm rfl hX ho rfl rfl (trF g79 b79 c79 ?_)
  conv => whnf
  refine selfCall (ofN_tr X last k o ho hX h) rfl rfl rfl hX hX ho rfl rfl (fun j hj => msS_get hX hj) (by rcases ho with rfl | ⟨es, k, rfl⟩ <;> rfl) rfl fun s' e k0 k1 kf => ?_
  conv => whnf
  exact ⟨rfl, k0, k1, kf⟩
set_option maxRecDepth 20000 in
theorem Stale_tr (X : List Pl) (last k : Int) (o : AV) (ho : OkO o) (hX : X.length ≤ 36) (h0 : 0 ≤ k) (h1 : k < X.length) : Tr Try.prog 80 [.ptr 0 0, .int .i64 k] (msS X last o) fun v s => v = .bool ((X[k.toNat]'(by omega)).st) ∧ s = msS X last o := by
  refine msNorm rfl hX ho rfl rfl (trF g80 b80 c80 ?_)
  have hk : k.toNat < X.length := by omega
  conv => whnf
  refine selfCall (of_tr X last k o ho hX h0 h1) rfl rfl rfl hX hX ho rfl rfl (fun j hj => msS_get hX hj) (by rcases ho with rfl | ⟨es, k, rfl⟩ <;> rfl) rfl fun s' e k0 k1 kf => ?_
  conv => whnf
  rw [ld_at (c := plC X[k.toNat])]
  rotate_left
  · rfl
  · exact kf _ hk
  conv => whnf
  exact ⟨rfl, k0, k1, kf⟩
theorem StaleN_tr (X : List Pl) (last k : Int) (o : AV) (ho : OkO o) (hX : X.length ≤ 36) (h : ¬ (0 ≤ k ∧ k < X.length)) : Tr Try.prog 80 [.ptr 0 0, .int .i64 k] (msS X last o) fun v s => v = .bool false ∧ s = msS X last o := by
  refine msNorm rfl hX ho rfl rfl (trF g80 b80 c80 ?_)
  conv => whnf
  refine selfCall (ofN_tr X last k o ho hX h) rfl rfl rfl hX hX ho rfl rfl (fun j hj => msS_get hX hj) (by rcases ho with rfl | ⟨es, k, rfl⟩ <;> rfl) rfl fun s' e k0 k1 kf => ?_
  conv => whnf
  exact ⟨rfl, k0, k1, kf⟩
def waitsV (x : Pl) : AV := if x.w then .tup [.int .u16 x.id, .bool true] else .tup [.int .u16 0, .bool false]
set_option maxRecDepth 20000 in
theorem Waits_tr (X : List Pl) (last k : Int) (o : AV) (ho : OkO o) (hX : X.length ≤ 36) (h0 : 0 ≤ k) (h1 : k < X.length) : Tr Try.prog 82 [.ptr 0 0, .int .i64 k] (msS X last o) fun v s => v = waitsV (X[k.toNat]'(by omega)) ∧ s = msS X last o := by
  have hk : k.toNat < X.length := by omega
  by_cases hw : X[k.toNat].w = true
  · have hV : waitsV X[k.toNat] = .tup [.int .u16 X[k.toNat].id, .bool true] := by unfold waitsV; rw [if_pos hw]
    rw [hV]
    refine msNorm rfl hX ho rfl rfl (trF g82 b82 c82 ?_)
    conv => whnf
    refine selfCall (of_tr X last k o ho hX h0 h1) rfl rfl rfl hX hX ho rfl rfl (fun j hj => msS_get hX hj) (by rcases ho with rfl | ⟨es, k, rfl⟩ <;> rfl) rfl fun s' e k0 k1 kf => ?_
    conv => whnf
    rw [ld_at (c := plC X[k.toNat])]
    rotate_left
    · rfl
    · exact kf _ hk
    conv => whnf
    refine condY hw ?_
    conv => whnf
    rw [ld_at (c := plC X[k.toNat])]
    rotate_left
    · rfl
    · exact kf _ hk
    conv => whnf
    exact ⟨rfl, k0, k1, kf⟩
  · have hV : waitsV X[k.toNat] = .tup [.int .u16 0, .bool false] := by unfold waitsV; rw [if_neg hw]
    rw [hV]
    refine msNorm rfl hX ho rfl rfl (trF g82 b82 c82 ?_)
    conv => whnf
    refine selfCall (of_tr X last k o ho hX h0 h1) rfl rfl rfl hX hX ho rfl rfl (fun j hj => msS_get hX hj) (by rcases ho with rfl | ⟨es, k, rfl⟩ <;> rfl) rfl fun s' e k0 k1 kf => ?_
    conv => whnf
    rw [ld_at (c := plC X[k.toNat])]
    rotate_left
    · rfl
    · exact kf _ hk
    conv => whnf
    refine condN (by show X[k.toNat].w = false; simpa using hw) ?_
    conv => whnf
    exact ⟨rfl, k0, k1, kf⟩
end Go.Proofs.Ytomodeliimnddaa
set_option linter.unusedVariables false
set_option linter.unusedSimpArgs false
namespace Go.Proofs.Ytomodeliimnddaa
open Go.Ab
def a78 : ACode := (.seq (.reg [(iM 8 0), (iN 9 8), (iF 10 0 9), (iL 11 10), (iO 12 (.len false (.t 11))), (iO 13 (.mov (.c (.int .i64 0))))])
 (.block 0 (.loop (.seq (.reg [(iO 14 (.bin .lss .other (.t 13) (.t 12)))])
 (.seq (.cond (.t 14) .skip
 (.exit 0))
 (.seq (.block 1 (.seq (.reg [(iO 15 (.idx 1 none false (.t 11) (.t 13))), (iL 16 15), (iM 5 16)])
 (.seq (.reg [(iM 17 5), (iN 18 17), (iF 19 22 18), (iL 20 19), (iO 21 (.len false (.t 20))), (iO 22 (.mov (.c (.int .i64 0))))])
 (.block 2 (.loop (.seq (.reg [(iO 23 (.bin .lss .other (.t 22) (.t 21)))])
 (.seq (.cond (.t 23) .skip
 (.exit 2))
 (.seq (.block 3 (.seq (.reg [(iM 24 22), (iO 25 (.idx 1 none false (.t 20) (.t 22))), (iL 26 25), (iM 6 24), (iM 7 26)])
 (.draw [(zS 0 (iM 27 1)), (zS 1 (iM 28 5)), (zS 2 (iN 29 28)), (zS 3 (iF 30 8 29)), (zS 4 (iL 31 30)), (zS 5 (iM 32 5)), (zS 6 (iN 33 32)), (zS 7 (iO 34 (.fld 0 8 true (.t 33)))), (zS 8 (iF 35 4 34)), (zS 9 (iL 36 35)), (zS 10 (iM 37 6)), (zS 11 (iO 38 (.bin .add .other (.t 36) (.t 37)))), (zS 12 (iM 39 7)), ⟨13, (iO 40 (.call 29 [(.t 27), (.t 31), (.t 38), (.t 39)])), true, [], []⟩])))
 (.reg [(iO 41 (.bin .add .other (.t 22) (.c (.int .i64 1)))), (iM 22 41)])))))))))
 (.reg [(iO 42 (.bin .add .other (.t 13) (.c (.int .i64 1)))), (iM 13 42)])))))))
def r78 : List ARes := []
theorem c78 : compF Try.prog Try.f78 = some (a78, r78) := by kernel_rfl
theorem b78 : hasBody Try.prog 78 = true := by kernel_rfl
theorem g78 : Try.prog.funcs[78]? = some Try.f78 := by kernel_rfl
theorem getP_of {s : St} {p : Pend} {h : Nat} {c : Chunk} (hg : s.get h = some c) : getP s p h = some c := by
  unfold getP; rw [hg]
theorem famS_all {X : List Pl} {i : Nat} {base : Mem} (hb : ∀ r j, Mem.get (base ++ r) (j + 3) = Mem.get r (j + 3)) (hi : i < X.length) : ∀ j (h : j < X.length), (famS X i base).get (j + 3) = some (plC X[j]) := fun j h => by
  by_cases e : j = i
  · subst e
    exact famS_get (List.getElem?_eq_getElem h)
  · exact famS_ne hb h e
def putL (J : Img) (x : Pl) : Nat → Img
  | 0 => J
  | k + 1 => (putL J x k).put x.ar (IntKind.i64.wrap (x.p.p + k)) (x.l.getD k 0)
def latchN (J : Img) (X : List Pl) : Nat → Img
  | 0 => J
  | i + 1 => match X[i]? with
    | some x => putL (latchN J X i) x x.l.length
    | none => latchN J X i
def im3 (n : Nat) (last : Int) (o : AV) (J : Img) : Mem := [(0, some (msC n last o)), (1, some (mrC n)), (2, some (imC J))]
theorem im3Sub {s : St} {n : Nat} {last : Int} {o : AV} {J : Img} (ho : OkO o) (hn : n ≤ 36) (h0 : s.get 0 = some (msC n last o)) (h1 : s.get 1 = some (mrC n)) (h2 : s.get 2 = some (imC J)) : memSub (rnm []) 40 s (im3 n last o J) := by
  obtain ⟨k1, k2, _⟩ := baseSub ho hn h0 h1
  exact ⟨k1, k2, ⟨trivial, rfl, h2⟩, trivial⟩
theorem im3_low (n : Nat) (last : Int) (o : AV) (J : Img) : ∀ h, memN (liveOf (rnm []) (im3 n last o J)) h = true → h < 3 := fun h hm => by
  rw [memN_iff] at hm
  have hm : h ∈ [0, 1, 2] := hm
  simp at hm
  omega
theorem ptr_hok {i : Nat} (h : i < 37) : (AV.ptr (i + 3) 0).hok 40 (rnm []) = true := by
  show (Nat.ble (i + 3 + 1) 40 && true) = true
  rw [Nat.ble_eq_true_of_le (by omega)]; rfl
set_option maxRecDepth 20000 in
theorem mLatch_tr (X : List Pl) (last : Int) (o : AV) (J : Img) (ho : OkO o) (hX : X.length ≤ 36) (hl : ∀ x ∈ X, x.l.length ≤ 1000 ∧ ∀ v ∈ x.l, 0 ≤ v) : Tr Try.prog 78 [.ptr 0 0, .ptr 2 0] ⟨40, im3 X.length last o J ++ famL 100 0 X⟩ fun v s => v = .tup [] ∧ s = ⟨40, im3 X.length last o (latchN J X X.length) ++ famL 100 0 X⟩ := by
  refine Tr.norm (K := fun v s => v = .tup [] ∧ s.get 0 = some (msC X.length last o) ∧ s.get 1 = some (mrC X.length) ∧ s.get 2 = some (imC (latchN J X X.length)) ∧ ∀ j (h : j < X.length), s.get (j + 3) = some (plC X[j])) ?_ ?_
  · refine trF g78 b78 c78 ?_
    conv => whnf
    refine loopI (α := {i : Nat // i ≤ X.length}) (fun i => [(1, .ptr 2 0), (11, .sl 1 1 0 X.length), (12, .int .i64 X.length), (13, .int .i64 i.1)]) (fun i => famS X i.1 (im3 X.length last o (latchN J X i.1))) (fun i => X.length - i.1) ⟨0, Nat.zero_le _⟩ ?_ fun ⟨i, hi⟩ => ?_
    · exact famNext rfl hX ⟨⟨rfl, rfl⟩, ⟨rfl, rfl⟩, ⟨rfl, rfl⟩, ⟨rfl, rfl⟩, trivial⟩ (im3Sub ho hX rfl rfl rfl) rfl (im3_low _ _ _ _) fun j hj => fam0_get hj rfl hX
    · conv => whnf
      by_cases hlt : i < X.length
      · refine condY (by simp; omega) ?_
        conv => whnf
        refine condT (by simp; omega) ?_
        conv => whnf
        rw [mrC_ld hX hlt]
        conv => whnf
        have hxi : X[i]? = some X[i] := List.getElem?_eq_getElem hlt
        obtain ⟨hxl, hxv⟩ := hl X[i] (List.getElem_mem hlt)
        have hLN : latchN J X (i + 1) = putL (latchN J X i) X[i] X[i].l.length := by
          show (match X[i]? with
            | some x => putL (latchN J X i) x x.l.length
            | none => latchN J X i) = _
          rw [hxi]
        generalize hx : X[i] = x at *
        generalize latchN J X i = J0 at *
        rw [ld_at (c := plC x)]
        rotate_left
        · rfl
        · exact famS_get hxi
        conv => whnf
        refine loopI (α := {k : Nat // k ≤ x.l.length}) (fun k => [(1, .ptr 2 0), (11, .sl 1 1 0 X.length), (12, .int .i64 X.length), (13, .int .i64 i), (5, .ptr (i + 3) 0), (20, .roI .u16 x.l), (21, .int .i64 x.l.length), (22, .int .i64 k.1)]) (fun k => famS X i (im3 X.length last o (putL J0 x k.1))) (fun k => x.l.length - k.1) ⟨0, Nat.zero_le _⟩ ?_ fun ⟨k, hk⟩ => ?_
        · exact famNext rfl hX ⟨⟨rfl, rfl⟩, ⟨rfl, rfl⟩, ⟨rfl, rfl⟩, ⟨rfl, rfl⟩, ⟨rfl, ptr_hok (by omega)⟩, ⟨rfl, rfl⟩, ⟨rfl, rfl⟩, ⟨rfl, rfl⟩, trivial⟩ (im3Sub ho hX rfl rfl rfl) rfl (im3_low _ _ _ _) (famS_all (fun _ _ => rfl) hlt)
        · conv => whnf
          by_cases hkt : k < x.l.length
          · refine condY (by simp; omega) ?_
            conv => whnf
            refine condT (by simp; omega) ?_
            conv => whnf
            rw [ld_at (c := plC x)]
            rotate_left
            · rfl
            · exact getP_of (s := famS X i (im3 X.length last o (putL J0 x k))) (famS_get hxi)
            conv => whnf
            rw [ld_at (c := plC x)]
            rotate_left
            · rfl
            · exact getP_of (s := famS X i (im3 X.length last o (putL J0 x k))) (famS_get hxi)
            conv => whnf
            have hv : 0 ≤ x.l.getD k 0 := by
              have e : x.l.getD k 0 = x.l[k] := by simp [List.getD_eq_getElem?_getD, List.getElem?_eq_getElem hkt]
              rw [e]; exact hxv _ (List.getElem_mem hkt)
            refine blkCall (Put_tr (putL J0 x k) x.ar (IntKind.i64.wrap (x.p.p + k)) (x.l.getD k 0) hv) rfl rfl rfl ?_
            conv => whnf
            refine ⟨⟨k + 1, hkt⟩, famNext rfl hX ⟨⟨rfl, rfl⟩, ⟨rfl, rfl⟩, ⟨rfl, rfl⟩, ⟨rfl, rfl⟩, ⟨rfl, ptr_hok (by omega)⟩, ⟨rfl, rfl⟩, ⟨rfl, rfl⟩, ⟨?_, rfl⟩, trivial⟩ (im3Sub ho hX rfl rfl rfl) rfl (im3_low _ _ _ _) (famS_all (X := X) (i := i) (base := im3 X.length last o (putL J0 x k)) (fun _ _ => rfl) hlt), by show x.l.length - (k + 1) < x.l.length - k; omega⟩
            show AV.int .i64 (IntKind.i64.wrap ((k : Int) + 1)) = AV.int .i64 ((k + 1 : Nat) : Int)
            rw [s64 (by omega)]
          · obtain rfl : k = x.l.length := by omega
            refine condN (by simp) ?_
            conv => whnf
            refine ⟨⟨i + 1, hlt⟩, famNext rfl hX ⟨⟨rfl, rfl⟩, ⟨rfl, rfl⟩, ⟨rfl, rfl⟩, ⟨?_, rfl⟩, trivial⟩ (im3Sub ho hX rfl rfl (by rw [hLN]; rfl)) rfl (im3_low _ _ _ _) (famS_all (X := X) (i := i) (base := im3 X.length last o (putL J0 x x.l.length)) (fun _ _ => rfl) hlt), by show X.length - (i + 1) < X.length - i; omega⟩
            show AV.int .i64 (IntKind.i64.wrap ((i : Int) + 1)) = AV.int .i64 ((i + 1 : Nat) : Int)
            rw [s64 (by omega)]
      · obtain rfl : i = X.length := by omega
        refine condN (by simp) ?_
        conv => whnf
        exact ⟨rfl, rfl, rfl, rfl, fun j hj => famS_ne (X := X) (i := X.length) (base := im3 X.length last o (latchN J X X.length)) (fun _ _ => rfl) hj (by omega)⟩
  · intro v s ⟨hv, h0, h1, h2, hf⟩
    refine ⟨.tup [], _, ?_, rfl, rfl⟩
    subst hv
    exact subFam (pre := im3 X.length last o (latchN J X X.length)) (k := 100) [] rfl rfl hX (fun _ _ _ => rfl) rfl (fun h hm => .inl (im3_low _ _ _ _ h hm)) ⟨⟨rfl, rfl⟩, trivial⟩ (im3Sub ho hX h0 h1 h2) fun j hj _ => hf j hj
end Go.Proofs.Ytomodeliimnddaa
set_option linter.unusedVariables false
set_option linter.unusedSimpArgs false
namespace Go.Proofs.Ytomodeliimnddaa
open Go.Ab
def a76 : ACode := (.seq (.reg [(iO 2 (.mov (.c .nils)))])
 (.seq (.reg [(iM 4 0), (iN 5 4), (iF 6 2 5), (iL 7 6), (iM 3 7)])
 (.seq (.reg [(iM 8 0), (iN 9 8), (iF 10 2 9), ⟨none, .store 1 (.t 10) (.c .nils), none, false⟩])
 (.seq (.reg [(iM 11 3), (iM 2 11)])
 .ret))))
def r76 : List ARes := [.t 2]
theorem c76 : compF Try.prog Try.f76 = some (a76, r76) := by kernel_rfl
theorem b76 : hasBody Try.prog 76 = true := by kernel_rfl
theorem g76 : Try.prog.funcs[76]? = some Try.f76 := by kernel_rfl
def a131 : ACode := (.seq (.reg [(iO 4 (.alloc [(1, (.int .u8 0)), (3, (.int .u16 0)), (2, .nils)]))])
 (.seq (.draw [(zS 0 (iM 9 0)), (zS 1 (iN 10 9)), (zS 2 (iO 11 (.fld 0 8 true (.t 10)))), (zS 3 (iF 12 1 11)), (zS 4 (iL 13 12)), (zS 5 (iM 14 0)), (zS 6 (iN 15 14)), (zS 7 (iO 16 (.fld 0 8 true (.t 15)))), (zS 8 (iF 17 2 16)), (zS 9 (iL 18 17)), (zS 10 (iO 19 (.build [(.int .u8 0), (.int .u16 0), (.int .u16 0), (.int .u16 0), .nils, .nils] [(0, 1, (.t 13)), (1, 1, (.t 18))]))), (zS 11 (iO 5 (.alloc [(1, (.int .u8 0)), (3, (.int .u16 0)), (2, .nils)]))), ⟨12, ⟨none, .store 6 (.t 5) (.t 19), none, false⟩, true, [11], []⟩])
 (.seq (.seq (.reg [(iM 20 0), (iN 21 20), (iO 22 (.fld 0 8 true (.t 21))), (iF 23 1 22), (iL 24 23), (iO 25 (.bin .lss .other (.t 24) (.c (.int .u8 5))))])
 (.cond (.t 25) (.seq (.reg [(iM 26 0), (iN 27 26), (iO 28 (.fld 0 8 true (.t 27))), (iF 29 3 28), (iL 30 29), (iO 31 (.conv (.int .u16) (.t 30))), (iF 32 2 5), ⟨none, .store 1 (.t 32) (.t 31), none, false⟩])
 (.seq (.reg [(iO 33 (.load true 6 (.t 5))), ⟨none, .store 6 (.t 4) (.t 33), none, false⟩])
 .ret))
 .skip))
 (.seq (.seq (.reg [(iM 34 0), (iN 35 34), (iO 36 (.fld 0 8 true (.t 35))), (iF 37 3 36), (iL 38 37), (iO 39 (.mov (.c (.int .i64 0))))])
 (.block 0 (.loop (.seq (.reg [(iO 40 (.bin .lss .other (.t 39) (.t 38)))])
 (.seq (.cond (.t 40) .skip
 (.exit 0))
 (.seq (.block 1 (.seq (.reg [(iM 41 39), (iM 6 41)])
 (.seq (.draw [(zS 0 (iM 43 1)), (zS 1 (iM 44 0)), (zS 2 (iN 45 44)), (zS 3 (iF 46 8 45)), (zS 4 (iL 47 46)), (zS 5 (iM 48 0)), (zS 6 (iN 49 48)), (zS 7 (iO 50 (.fld 0 8 true (.t 49)))), (zS 8 (iF 51 4 50)), (zS 9 (iL 52 51)), (zS 10 (iM 53 6)), (zS 11 (iO 54 (.bin .add .other (.t 52) (.t 53)))), ⟨12, (iO 55 (.call 44 [(.t 43), (.t 47), (.t 54)])), true, [], []⟩, (zS 13 (iM 42 55)), (zS 14 (iO 56 (.ext (.t 42) 0))), (zS 15 (iO 57 (.ext (.t 42) 1))), (zS 16 (iM 7 56)), (zS 17 (iM 8 57))])
 (.seq (.reg [(iM 58 0), (iN 59 58), (iO 60 (.fld 0 8 true (.t 59))), (iF 61 1 60), (iL 62 61), (iO 63 (.bin .eql .other (.t 62) (.c (.int .u8 15))))])
 (.cond (.t 63) (.reg [(iF 64 4 5), (iL 65 64), (iM 66 7), (iO 67 (.bin .neq .other (.t 66) (.c (.int .u16 0)))), (iO 68 (.bslice 1 .bool [(.bool false)] [(0, 1, (.t 67))] 1)), (iO 69 (.app 1 1 (.t 65) (.t 68))), (iF 70 4 5), ⟨none, .store 1 (.t 70) (.t 69), none, false⟩])
 (.reg [(iF 71 5 5), (iL 72 71), (iM 73 7), (iO 74 (.bslice 1 (.int .u16) [(.int .u16 0)] [(0, 1, (.t 73))] 1)), (iO 75 (.app 1 2 (.t 72) (.t 74))), (iF 76 5 5), ⟨none, .store 1 (.t 76) (.t 75), none, false⟩]))))))
 (.reg [(iO 77 (.bin .add .other (.t 39) (.c (.int .i64 1)))), (iM 39 77)])))))))
 (.seq (.reg [(iO 78 (.load true 6 (.t 5))), ⟨none, .store 6 (.t 4) (.t 78), none, false⟩])
 .ret)))))
def r131 : List ARes := [.cell 4 true 6]
theorem c131 : compF Try.prog Try.f131 = some (a131, r131) := by kernel_rfl
theorem b131 : hasBody Try.prog 131 = true := by kernel_rfl
theorem g131 : Try.prog.funcs[131]? = some Try.f131 := by kernel_rfl
set_option maxRecDepth 20000 in
theorem Out_tr (X : List Pl) (last : Int) (o : AV) (ho : OkO o) (hX : X.length ≤ 36) : Tr Try.prog 76 [.ptr 0 0] (msS X last o) fun v s => v = o ∧ s = msS X last .nils := by
  rcases ho with rfl | ⟨es, k, rfl⟩
  all_goals
    refine msNorm rfl hX (.inl rfl) rfl rfl (trF g76 b76 c76 ?_)
    conv => whnf
    exact ⟨rfl, rfl, rfl, fun j hj => msS_get hX hj⟩
def FrzC (v2 : AV) (v : AV) (s : St) (c0 c1 : Chunk) : Prop := ∃ v1 s1, Frz v s v1 s1 ∧ Le v1 v2 ∧ s1.get 0 = some c0 ∧ s1.get 1 = some c1
theorem FrzC.le {v2 v : AV} {c0 c1 : Chunk} {s : St} (h : Le v v2) (h0 : s.get 0 = some c0) (h1 : s.get 1 = some c1) : FrzC v2 v s c0 c1 := ⟨v, s, .refl _ _, h, h0, h1⟩
theorem FrzC.step {v2 v : AV} {c0 c1 : Chunk} {s : St} (h : Nat) {c : Chunk} (hg : s.get h = some c) (ht : FrzC v2 (v.frz h c) (s.drop h) c0 c1) : FrzC v2 v s c0 c1 := by
  obtain ⟨v1, s1, h1, h2, h3⟩ := ht
  exact ⟨v1, s1, .step _ _ h c _ _ hg h1, h2, h3⟩
def getN (I : Img) (x : Pl) (i : Nat) : Int := getV I.o x.ar (IntKind.i64.wrap (x.p.p + i))
def askQ (I : Img) (x : Pl) : Rq :=
  if x.p.f < 5 then ⟨x.p.f, x.p.a, IntKind.u16.wrap x.p.n, 0, [], []⟩
  else if x.p.f = 15 then ⟨x.p.f, x.p.a, 0, 0, (List.range x.p.n.toNat).map fun i => getN I x i != 0, []⟩
  else ⟨x.p.f, x.p.a, 0, 0, [], (List.range x.p.n.toNat).map fun i => getN I x i⟩
set_option maxRecDepth 20000 in
theorem ask_raw (I : Img) (x : Pl) (hn : 1 ≤ x.p.n ∧ x.p.n ≤ 64) : Tr Try.prog 131 [.ptr 0 0, .ptr 1 0] ⟨2, [(0, some (plC x)), (1, some (imC I))]⟩ fun v s => FrzC (rqA (askQ I x)) v s (plC x) (imC I) := by
  refine trF g131 b131 c131 ?_
  conv => whnf
  refine condF (fun h => ?_) (fun h => ?_)
  · have h5 : ¬ x.p.f < 5 := by simpa using h
    have hq : askQ I x = if x.p.f = 15 then ⟨x.p.f, x.p.a, 0, 0, (List.range x.p.n.toNat).map fun i => getN I x i != 0, []⟩ else ⟨x.p.f, x.p.a, 0, 0, [], (List.range x.p.n.toNat).map fun i => getN I x i⟩ := by unfold askQ; rw [if_neg h5]
    conv => whnf
    by_cases h15 : x.p.f = 15
    · rw [hq, if_pos h15]
      refine loopI (α := {i : Nat // i ≤ x.p.n.toNat}) (fun i => [(0, .ptr 0 0), (1, .ptr 1 0), (4, .ptr 2 0), (5, .ptr 3 0), (38, .int .i64 x.p.n), (39, .int .i64 i.1)])
          (fun i => ⟨6, [(5, some (.rowB ((List.range i.1).map fun k => getN I x k != 0))), (0, some (plC x)), (1, some (imC I)), (2, some (.obj [.int .u8 0, .int .u16 0, .int .u16 0, .int .u16 0, .nils, .nils])), (3, some (.obj [.int .u8 x.p.f, .int .u16 x.p.a, .int .u16 0, .int .u16 0, .sl 1 5 0 i.1, .nils]))]⟩) (fun i => x.p.n.toNat - i.1) ⟨0, Nat.zero_le _⟩
          ⟨[(5, none)], rfl, rfl, rfl, ⟨⟨rfl, rfl⟩, ⟨rfl, rfl⟩, ⟨rfl, rfl⟩, ⟨rfl, rfl⟩, ⟨rfl, rfl⟩, ⟨rfl, rfl⟩, trivial⟩, ⟨⟨trivial, rfl, rfl⟩, ⟨plC_hok _ _ _, rfl, rfl⟩, ⟨trivial, rfl, rfl⟩, ⟨rfl, rfl, rfl⟩, ⟨rfl, rfl, rfl⟩, trivial⟩⟩ fun ⟨i, hi⟩ => ?_
      conv => whnf
      by_cases hlt : i < x.p.n.toNat
      · have hl : ((List.range i).map (fun k => getN I x k != 0)).length = i := by simp
        refine condY (by simp; omega) ?_
        conv => whnf
        refine blkCall (Get_tr I x.ar (IntKind.i64.wrap (x.p.p + i))) rfl rfl rfl ?_
        conv => whnf
        refine condY (by show (x.p.f == 15) = true; rw [h15]; rfl) ?_
        conv => whnf
        refine condT (by simp; try omega) ?_
        conv => whnf
        refine ⟨⟨i + 1, hlt⟩, ⟨[(5, some 7)], rfl, rfl, rfl, ⟨⟨rfl, rfl⟩, ⟨rfl, rfl⟩, ⟨rfl, rfl⟩, ⟨rfl, rfl⟩, ⟨rfl, rfl⟩, ⟨?_, rfl⟩, trivial⟩, ⟨⟨trivial, rfl, ?_⟩, ⟨plC_hok _ _ _, rfl, rfl⟩, ⟨trivial, rfl, rfl⟩, ⟨rfl, rfl, rfl⟩, ⟨rfl, rfl, rfl⟩, trivial⟩⟩, by show x.p.n.toNat - (i + 1) < x.p.n.toNat - i; omega⟩
        · show AV.int .i64 (IntKind.i64.wrap ((i : Int) + 1)) = AV.int .i64 ((i + 1 : Nat) : Int)
          rw [s64 (by omega)]
        · show some (Chunk.rowB ((((List.range i).map (fun k => getN I x k != 0)).drop 0).take i ++ ([getN I x i != 0].drop 0).take 1)) = some (Chunk.rowB ((List.range (i + 1)).map (fun k => getN I x k != 0)))
          rw [List.range_succ, List.map_append, List.drop_zero]
          conv => lhs; rw [List.take_of_length_le (by omega)]
          rfl
      · obtain rfl : i = x.p.n.toNat := by omega
        refine condN (by simp; omega) ?_
        conv => whnf
        refine FrzC.step 5 rfl ?_
        refine FrzC.le (Le.agg ⟨Le.refl _, Le.refl _, Le.refl _, Le.refl _, ?_, Le.nilI _, trivial⟩) rfl rfl
        rw [frz_rowB 5 _ _ (by simp)]
        exact Le.refl _
    · rw [hq, if_neg h15]
      refine loopI (α := {i : Nat // i ≤ x.p.n.toNat}) (fun i => [(0, .ptr 0 0), (1, .ptr 1 0), (4, .ptr 2 0), (5, .ptr 3 0), (38, .int .i64 x.p.n), (39, .int .i64 i.1)])
          (fun i => ⟨6, [(5, some (.rowI .u16 ((List.range i.1).map fun k => getN I x k))), (0, some (plC x)), (1, some (imC I)), (2, some (.obj [.int .u8 0, .int .u16 0, .int .u16 0, .int .u16 0, .nils, .nils])), (3, some (.obj [.int .u8 x.p.f, .int .u16 x.p.a, .int .u16 0, .int .u16 0, .nils, .sl 1 5 0 i.1]))]⟩) (fun i => x.p.n.toNat - i.1) ⟨0, Nat.zero_le _⟩
          ⟨[(5, none)], rfl, rfl, rfl, ⟨⟨rfl, rfl⟩, ⟨rfl, rfl⟩, ⟨rfl, rfl⟩, ⟨rfl, rfl⟩, ⟨rfl, rfl⟩, ⟨rfl, rfl⟩, trivial⟩, ⟨⟨trivial, rfl, rfl⟩, ⟨plC_hok _ _ _, rfl, rfl⟩, ⟨trivial, rfl, rfl⟩, ⟨rfl, rfl, rfl⟩, ⟨rfl, rfl, rfl⟩, trivial⟩⟩ fun ⟨i, hi⟩ => ?_
      conv => whnf
      by_cases hlt : i < x.p.n.toNat
      · have hl : ((List.range i).map (fun k => getN I x k)).length = i := by simp
        refine condY (by simp; omega) ?_
        conv => whnf
        refine blkCall (Get_tr I x.ar (IntKind.i64.wrap (x.p.p + i))) rfl rfl rfl ?_
        conv => whnf
        refine condN (by show (x.p.f == 15) = false; exact beq_eq_false_iff_ne.mpr h15) ?_
        conv => whnf
        refine condT (by simp; try omega) ?_
        conv => whnf
        refine ⟨⟨i + 1, hlt⟩, ⟨[(5, some 7)], rfl, rfl, rfl, ⟨⟨rfl, rfl⟩, ⟨rfl, rfl⟩, ⟨rfl, rfl⟩, ⟨rfl, rfl⟩, ⟨rfl, rfl⟩, ⟨?_, rfl⟩, trivial⟩, ⟨⟨trivial, rfl, ?_⟩, ⟨plC_hok _ _ _, rfl, rfl⟩, ⟨trivial, rfl, rfl⟩, ⟨rfl, rfl, rfl⟩, ⟨rfl, rfl, rfl⟩, trivial⟩⟩, by show x.p.n.toNat - (i + 1) < x.p.n.toNat - i; omega⟩
        · show AV.int .i64 (IntKind.i64.wrap ((i : Int) + 1)) = AV.int .i64 ((i + 1 : Nat) : Int)
          rw [s64 (by omega)]
        · show some (Chunk.rowI .u16 ((((List.range i).map (fun k => getN I x k)).drop 0).take i ++ ([getN I x i].drop 0).take 1)) = some (Chunk.rowI .u16 ((List.range (i + 1)).map (fun k => getN I x k)))
          rw [List.range_succ, List.map_append, List.drop_zero]
          conv => lhs; rw [List.take_of_length_le (by omega)]
          rfl
      · obtain rfl : i = x.p.n.toNat := by omega
        refine condN (by simp; omega) ?_
        conv => whnf
        refine FrzC.step 5 rfl ?_
        refine FrzC.le (Le.agg ⟨Le.refl _, Le.refl _, Le.refl _, Le.refl _, Le.nilB, ?_, trivial⟩) rfl rfl
        rw [frz_row 5 .u16 _ _ (by simp)]
        exact Le.refl _
  · have h5 : x.p.f < 5 := by simpa using h
    have hq : askQ I x = ⟨x.p.f, x.p.a, IntKind.u16.wrap x.p.n, 0, [], []⟩ := by unfold askQ; rw [if_pos h5]
    rw [hq]
    conv => whnf
    exact FrzC.le (Le.agg ⟨Le.refl _, Le.refl _, Le.refl _, Le.refl _, Le.nilB, Le.nilI _, trivial⟩) rfl rfl
theorem ask_tr (I : Img) (x : Pl) (hn : 1 ≤ x.p.n ∧ x.p.n ≤ 64) : Tr Try.prog 131 [.ptr 0 0, .ptr 1 0] ⟨2, [(0, some (plC x)), (1, some (imC I))]⟩ fun v s => v = rqA (askQ I x) ∧ s = ⟨2, [(0, some (plC x)), (1, some (imC I))]⟩ := by
  have h := Tr.leRes (K := fun v s => Le v (rqA (askQ I x)) ∧ s.get 0 = some (plC x) ∧ s.get 1 = some (imC I)) (Tr.freeze (ask_raw I x hn) fun v s ⟨v1, s1, h1, h2, h3, h4⟩ => ⟨v1, s1, h1, h2, h3, h4⟩) fun v s ⟨h1, h2, h3⟩ => (⟨rqA (askQ I x), h1, rfl, h2, h3⟩ : ∃ v', Le v v' ∧ v' = rqA (askQ I x) ∧ s.get 0 = some (plC x) ∧ s.get 1 = some (imC I))
  refine Tr.norm h fun v s ⟨hv, h0, h1⟩ => ⟨rqA (askQ I x), _, ?_, rfl, rfl⟩
  subst hv
  exact ⟨[], rfl, rfl, rfl, ⟨⟨rfl, rfl⟩, trivial⟩, ⟨⟨plC_hok _ _ _, rfl, h0⟩, ⟨trivial, rfl, h1⟩, trivial⟩⟩
theorem askCall {h h' : Nat} {I : Img} {x : Pl} {s : St} {K : AV → St → Prop} (hn : 1 ≤ x.p.n ∧ x.p.n ≤ 64) (hne : h ≠ h') (hg : s.get h = some (plC x)) (hg' : s.get h' = some (imC I))
    (kk : openS s fun n m => K (rqA (askQ I x)) ⟨n, (h, some (plC x)) :: (h', some (imC I)) :: (h, none) :: (h', none) :: m⟩) : Tr Try.prog 131 [.ptr h 0, .ptr h' 0] s K := by
  refine Tr.call [(0, some h), (1, some h')] (ask_tr I x hn) rfl rfl ⟨⟨plC_hok _ _ _, rfl, hg⟩, ⟨trivial, rfl, hg'⟩, trivial⟩ ?_ fun v1 s0 ⟨hv, hs⟩ => ?_
  · have hne' : Nat.beq h' h = false := beq_ne fun e => hne e.symm
    show nodupN [h, h'] = true
    simp [nodupN, memN, hne']
  · subst hv; subst hs
    rw [openS_eq] at kk
    exact kk
end Go.Proofs.Ytomodeliimnddaa
set_option linter.unusedVariables false
set_option linter.unusedSimpArgs false
set_option autoImplicit false
namespace Go.Ab
def LeC (c c' : Chunk) : Prop := c'.size = c.size ∧ ∀ j, j < c.size → Le (c.get j) (c'.get j)
theorem LeC.refl (c : Chunk) : LeC c c := ⟨rfl, fun _ _ => Le.refl _⟩
theorem LeL.at : ∀ {l l' : List AV}, LeL l l' → l'.length = l.length ∧ ∀ j, Le (l.getD j .undef) (l'.getD j .undef)
  | [], [], _ => ⟨rfl, fun _ => Le.refl _⟩
  | [], _ :: _, h => h.elim
  | _ :: _, [], h => h.elim
  | a :: l, b :: l', h => by
    obtain ⟨h1, h2⟩ := LeL.at h.2
    refine ⟨by simp [h1], fun j => ?_⟩
    cases j with
    | zero => exact h.1
    | succ j => exact h2 j
theorem LeC.obj {l l' : List AV} (h : LeL l l') : LeC (.obj l) (.obj l') := ⟨h.at.1, fun j _ => h.at.2 j⟩
def LeSt (s s' : St) : Prop := s'.next = s.next ∧ ∀ h c', s'.get h = some c' → ∃ c, s.get h = some c ∧ LeC c c'
section
variable {ι : Iota} {s s' : St} {w : World} {M : Nat → Prop}
theorem Rep.le (hR : Rep ι s w M) (hl : LeSt s s') : Rep ι s' w M := by
  refine ⟨fun h hh => hR.fresh h (by rw [← hl.1]; exact hh), fun k c' hc => ?_, fun k k' c1 c2 p p' hc hc' hne hp hp' => ?_, hR.lt⟩
  · obtain ⟨c, hg, hz, hle⟩ := hl.2 k c' hc
    rcases hR.own k c hg with ⟨k1, k2⟩ | ⟨b, base, k1, k2, cs, T, fr, e1, e2, e3, e4⟩
    · exact .inl ⟨k1, by rw [hz, k2]⟩
    · exact .inr ⟨b, base, k1, k2, cs, T, fr, e1, e2, by rw [hz]; exact e3, fun j hj => hle j (by rw [← hz]; exact hj) _ _ _ _ (e4 j (by rw [← hz]; exact hj))⟩
  · obtain ⟨d1, g1, _⟩ := hl.2 k c1 hc
    obtain ⟨d2, g2, _⟩ := hl.2 k' c2 hc'
    exact hR.inj k k' d1 d2 p p' g1 g2 hne hp hp'
theorem Go.le (hl : LeSt s s') {n0 : Nat} (hn : n0 ≤ s.next) : Go n0 ι s w M ι s' w M :=
  ⟨Nat.le_refl _, rfl, rfl, rfl, fun _ _ _ => rfl, fun _ _ => rfl, fun _ _ h => h, fun _ h _ => h, fun b _ ho => by
    obtain ⟨k, c', base, k1, k2⟩ := ho
    obtain ⟨c, hg, _⟩ := hl.2 k c' k1
    exact ⟨k, c, base, hg, k2⟩, by rw [hl.1]; exact hn, fun _ _ => rfl⟩
def FrzSt (h : Nat) (c : Chunk) (s s' : St) : Prop := s.get h = some c ∧ s'.next = s.next ∧ ∀ k c', s'.get k = some c' → k ≠ h ∧ ∃ c1, s.get k = some c1 ∧ c'.size = c1.size ∧ ∀ j, j < c1.size → Le ((c1.get j).frz h c) (c'.get j)
theorem Rep.frzSt {h : Nat} {c : Chunk} (hR : Rep ι s w M) (hl : FrzSt h c s s') : Rep ι s' w (subM ι h M) := by
  obtain ⟨hg, hn, hl⟩ := hl
  refine ⟨fun k hh => hR.fresh k (by rw [← hn]; exact hh), fun k c' hc => ?_, fun k k' c1 c2 p p' hc hc' hne hp hp' => ?_, fun b hb => hR.lt b hb.1⟩
  · obtain ⟨hne, c1, g1, hz, hle⟩ := hl k c' hc
    rcases hR.own k c1 g1 with ⟨k1, k2⟩ | ⟨b, base, k1, k2, cs, T, fr, e1, e2, e3, e4⟩
    · exact .inl ⟨k1, by rw [hz, k2]⟩
    · exact .inr ⟨b, base, k1, ⟨k2, fun base' hb => hR.inj k h c1 c _ _ g1 hg hne k1 hb rfl⟩, cs, T, fr, e1, e2, by rw [hz]; exact e3, fun j hj => hle j (by rw [← hz]; exact hj) _ _ _ _ (frz_rel hR hg _ _ (e4 j (by rw [← hz]; exact hj)))⟩
  · obtain ⟨_, d1, g1, _⟩ := hl k c1 hc
    obtain ⟨_, d2, g2, _⟩ := hl k' c2 hc'
    exact hR.inj k k' d1 d2 p p' g1 g2 hne hp hp'
theorem Go.frzSt {h : Nat} {c : Chunk} (hl : FrzSt h c s s') {n0 : Nat} (hn : n0 ≤ s.next) : Go n0 ι s w M ι s' w (subM ι h M) :=
  ⟨Nat.le_refl _, rfl, rfl, rfl, fun _ _ _ => rfl, fun _ _ => rfl, fun _ _ hm => hm.1, fun b hm ho => ⟨hm, fun base hb => ho ⟨h, c, base, hl.1, hb⟩⟩, fun b _ ho => by
    obtain ⟨k, c', base, k1, k2⟩ := ho
    obtain ⟨_, c1, g1, _⟩ := hl.2.2 k c' k1
    exact ⟨k, c1, base, g1, k2⟩, by rw [hl.2.1]; exact hn, fun _ _ => rfl⟩
end
section
variable {P : Program}
theorem Tr.leSt {f : Nat} {args : List AV} {s : St} {K K' : AV → St → Prop} (ht : Tr P f args s K) (hk : ∀ v s', K v s' → ∃ s2, LeSt s' s2 ∧ K' v s2) : Tr P f args s K' := by
  unfold Tr at *
  obtain ⟨hb, ht⟩ := ht
  refine ⟨hb, fun ι w M Vs hR hV => Calls.mono (ht ι w M Vs hR hV) fun en w' he => ?_⟩
  obtain ⟨V, ι', M', v, s', rfl, hK, h1, h2, h3⟩ := he
  obtain ⟨s2, hl, hK2⟩ := hk v s' hK
  exact ⟨V, ι', M', v, s2, rfl, hK2, h1, h2.le hl, h3.trans (Go.le hl h3.next) hR.lt⟩
theorem Tr.frzSt {f : Nat} {args : List AV} {s : St} {K K' : AV → St → Prop} (ht : Tr P f args s K) (hk : ∀ v s', K v s' → ∃ h c s2, FrzSt h c s' s2 ∧ K' (v.frz h c) s2) : Tr P f args s K' := by
  unfold Tr at *
  obtain ⟨hb, ht⟩ := ht
  refine ⟨hb, fun ι w M Vs hR hV => Calls.mono (ht ι w M Vs hR hV) fun en w' he => ?_⟩
  obtain ⟨V, ι', M', v, s', rfl, hK, h1, h2, h3⟩ := he
  obtain ⟨h, c, s2, hl, hK2⟩ := hk v s' hK
  exact ⟨V, ι', _, v.frz h c, s2, rfl, hK2, frz_rel h2 hl.1 v V h1, h2.frzSt hl, h3.trans (Go.frzSt hl h3.next) hR.lt⟩
end
end Go.Ab
set_option linter.unusedVariables false
set_option linter.unusedSimpArgs false
namespace Go.Proofs.Ytomodeliimnddaa
open Go.Ab
def PureC (c : Chunk) : Prop := ∀ N ρ, c.ren ρ = c ∧ c.hok N ρ
def famC : Nat → List Chunk → Mem
  | _, [] => []
  | j, c :: r => (j, some c) :: famC (j + 1) r
theorem famC_get : ∀ (X : List Chunk) (j0 j : Nat) (h : j < X.length), Mem.get (famC j0 X) (j0 + j) = some X[j]
  | [], _, j, h => by simp at h
  | x :: r, j0, 0, h => get_eq
  | x :: r, j0, j + 1, h => by
    have ih := famC_get r (j0 + 1) j (by simpa using h)
    rw [show j0 + 1 + j = j0 + (j + 1) by omega] at ih
    rw [famC, get_ne (by omega)]; exact ih
theorem famC_sub {ρ : Nat → Option Nat} {N : Nat} {s : St} (B : Nat) (hB : B ≤ N) (σ : Nat → Nat) : ∀ (X : List Chunk) (j0 : Nat), j0 + X.length ≤ B → (∀ c ∈ X, PureC c) → (∀ h, j0 ≤ h → h < B → ρ h = some (σ h)) → (∀ j (h : j < X.length), s.get (σ (j0 + j)) = some X[j]) → memSub ρ N s (famC j0 X)
  | [], _, _, _, _, _ => trivial
  | x :: r, j0, hN, hp, hρ, h => by
    simp only [List.length_cons] at hN
    have hx := hp x (List.mem_cons_self ..) N ρ
    refine ⟨⟨hx.2, ?_, ?_⟩, famC_sub B hB σ r (j0 + 1) (by omega) (fun c hc => hp c (List.mem_cons_of_mem _ hc)) (fun h h1 h2 => hρ h (by omega) h2) fun j hj => ?_⟩
    · show Nat.ble (j0 + 1) N = true
      exact Nat.ble_eq_true_of_le (by omega)
    · rw [hρ j0 (by omega) (by omega)]
      show s.get (σ j0) = some (x.ren ρ)
      rw [hx.1]
      exact h 0 (by simp)
    · have := h (j + 1) (by simpa using hj)
      rwa [show j0 + (j + 1) = j0 + 1 + j by omega] at this
theorem famC_live {ρ : Nat → Option Nat} (B : Nat) (σ : Nat → Nat) (hσ : ∀ a b, σ a = σ b → a = b) : ∀ (X : List Chunk) (j0 : Nat), j0 + X.length ≤ B → (∀ h, j0 ≤ h → h < B → ρ h = some (σ h)) → nodupN (liveOf ρ (famC j0 X)) = true ∧ ∀ h, memN (liveOf ρ (famC j0 X)) h = true → ∃ k, j0 ≤ k ∧ k < j0 + X.length ∧ h = σ k
  | [], _, _, _ => ⟨rfl, fun h hm => by cases hm⟩
  | x :: r, j0, hN, hρ => by
    simp only [List.length_cons] at hN
    obtain ⟨ih1, ih2⟩ := famC_live B σ hσ r (j0 + 1) (by omega) fun h h1 h2 => hρ h (by omega) h2
    simp only [famC, liveOf, hρ j0 (by omega) (by omega)]
    refine ⟨?_, fun h hm => ?_⟩
    · show (!memN _ (σ j0) && nodupN _) = true
      rw [ih1, Bool.and_true]
      rw [show memN (liveOf ρ (famC (j0 + 1) r)) (σ j0) = false from Bool.eq_false_iff.mpr fun hm => by
        obtain ⟨k, h1, _, h3⟩ := ih2 _ hm
        have := hσ _ _ h3
        omega]
      rfl
    · rw [memN_iff, List.mem_cons] at hm
      simp only [List.length_cons]
      rcases hm with hm | hm
      · exact ⟨j0, by omega, by omega, hm⟩
      · obtain ⟨k, h1, h2, h3⟩ := ih2 h ((memN_iff _ _).mpr hm)
        exact ⟨k, by omega, by omega, h3⟩
def plN (p : Po) (ar : Int) : Chunk := .obj [.int .u8 p.u, .int .u8 p.f, .int .u16 p.a, .int .i64 p.n, .int .i64 p.p, .int .i64 p.e, .int .i64 p.t, .int .i64 p.r, .int .i64 ar, .int .i64 (-1), .bool false, .int .u16 0, .int .i64 0, .int .u8 0, .int .u16 0, .int .u16 0, .int .u16 0, .nils, .nils, .int .i64 0, .bool false, .int .i64 0, .nils]
theorem plN_pure (p : Po) (ar : Int) : PureC (plN p ar) := fun _ _ => ⟨rfl, rfl⟩
def newP (p : Po) : Pl := ⟨p, areaS p.f, -1, false, 0, 0, 0, 0, 0, [], [], 0, false, 0, []⟩
theorem plN_le (p : Po) : LeC (plN p (areaS p.f)) (plC (newP p)) := LeC.obj ⟨Le.refl _, Le.refl _, Le.refl _, Le.refl _, Le.refl _, Le.refl _, Le.refl _, Le.refl _, Le.refl _, Le.refl _, Le.refl _, Le.refl _, Le.refl _, Le.refl _, Le.refl _, Le.refl _, Le.refl _, Le.nilB, Le.nilI _, Le.refl _, Le.refl _, Le.refl _, Le.nilI _, trivial⟩
end Go.Proofs.Ytomodeliimnddaa
set_option linter.unusedVariables false
set_option linter.unusedSimpArgs false
namespace Go.Proofs.Ytomodeliimnddaa
open Go.Ab
def a73 : ACode := (.seq (.reg [(iO 2 (.mov (.c .nilp))), (iO 3 (.mov (.c (.int .i64 0))))])
 (.seq (.seq (.reg [(iM 7 0), (iO 8 (.len false (.t 7))), (iO 9 (.bin .gtr .other (.t 8) (.c (.int .i64 32)))), ⟨(some 10), .mov (.t 9), none, true⟩, (iG 11 (.mov (.t 0)) 10 false), (iG 12 (.call 125 [(.t 11), (.f 126)]) 10 false), (iO 13 (.pick (.t 10) (.c (.bool true)) (.t 12)))])
 (.cond (.t 13) (.seq (.reg [(iO 2 (.mov (.c .nilp))), (iO 3 (.mov (.c (.int .i64 260))))])
 .ret)
 .skip))
 (.seq (.reg [(iO 14 (.build [.nils, (.int .u32 0), .nils] [])), (iO 15 (.box (.t 14))), (iM 4 15)])
 (.seq (.seq (.reg [(iM 16 0), (iO 17 (.len false (.t 16))), (iO 18 (.mov (.c (.int .i64 0))))])
 (.block 0 (.loop (.seq (.reg [(iO 19 (.bin .lss .other (.t 18) (.t 17)))])
 (.seq (.cond (.t 19) .skip
 (.exit 0))
 (.seq (.block 1 (.seq (.reg [(iO 20 (.idx 8 none true (.t 16) (.t 18))), (iO 21 (.load true 8 (.t 20))), (iO 6 (.alloc [(2, (.int .u8 0)), (1, (.int .u16 0)), (5, (.int .i64 0))])), ⟨none, .store 8 (.t 6) (.t 21), none, false⟩])
 (.draw [(zS 0 (iM 22 4)), (zS 1 (iM 23 4)), (zS 2 (iN 24 23)), (zS 3 (iF 25 0 24)), (zS 4 (iL 26 25)), (zS 5 (iO 27 (.load true 8 (.t 6)))), (zS 6 (iF 28 1 6)), (zS 7 (iL 29 28)), ⟨8, (iO 30 (.call 128 [(.t 29)])), true, [], [(.t 25), (.t 6)]⟩, (zS 9 (iO 31 (.build [(.int .u8 0), (.int .u8 0), (.int .u16 0), (.int .i64 0), (.int .i64 0), (.int .i64 0), (.int .i64 0), (.int .i64 0), (.int .i64 0), (.int .i64 0), (.bool false), (.int .u16 0), (.int .i64 0), (.int .u8 0), (.int .u16 0), (.int .u16 0), (.int .u16 0), .nils, .nils, (.int .i64 0), (.bool false), (.int .i64 0), .nils] [(0, 8, (.t 27)), (8, 1, (.t 30)), (9, 1, (.c (.int .i64 (-1))))]))), (zS 10 (iO 32 (.box (.t 31)))), (zS 11 (iO 33 (.bslice 1 .gen [.nilp] [(0, 1, (.t 32))] 1))), ⟨12, (iO 34 (.app 1 8 (.t 26) (.t 33))), true, [10, 11], []⟩, (zS 13 (iN 35 22)), (zS 14 (iF 36 0 35)), ⟨15, ⟨none, .store 1 (.t 36) (.t 34), none, false⟩, true, [10, 11], []⟩])))
 (.reg [(iO 37 (.bin .add .other (.t 18) (.c (.int .i64 1)))), (iM 18 37)])))))))
 (.seq (.reg [(iM 38 4), (iM 2 38), (iO 3 (.mov (.c (.int .i64 0))))])
 .ret)))))
def r73 : List ARes := [.t 2, .t 3]
theorem c73 : compF Try.prog Try.f73 = some (a73, r73) := by kernel_rfl
theorem b73 : hasBody Try.prog 73 = true := by kernel_rfl
theorem g73 : Try.prog.funcs[73]? = some Try.f73 := by kernel_rfl
def ptrs (n : Nat) : List AV := (List.range n).map fun j => .ptr (j + 3) 0
theorem ptrs_length (n : Nat) : (ptrs n).length = n := by simp [ptrs]
def newL (S : List Po) (i : Nat) : List Chunk := (S.take i).map fun p => plN p (areaS p.f)
def newSt (S : List Po) (i : Nat) : St := ⟨40, [(0, some (msC i 0 .nils)), (1, some (.obj (ptrs i)))] ++ famC 3 (newL S i)⟩
theorem renL_app {ρ : Nat → Option Nat} : ∀ l r : List AV, renL ρ (l ++ r) = renL ρ l ++ renL ρ r
  | [], r => rfl
  | a :: l, r => by
    show AV.ren ρ a :: renL ρ (l ++ r) = _
    rw [renL_app l r]; rfl
theorem hokL_app {N : Nat} {ρ : Nat → Option Nat} : ∀ l r : List AV, hokL N ρ l = true → hokL N ρ r = true → hokL N ρ (l ++ r) = true
  | [], r, _, h => h
  | a :: l, r, h, k => by
    have h : (AV.hok N ρ a && hokL N ρ l) = true := h
    rw [Bool.and_eq_true] at h
    show (AV.hok N ρ a && hokL N ρ (l ++ r)) = true
    rw [h.1, hokL_app l r h.2 k]; rfl
theorem ptrs_succ (i : Nat) : ptrs (i + 1) = ptrs i ++ [.ptr (i + 3) 0] := by simp [ptrs, List.range_succ]
theorem ptrs_ren {ρ : Nat → Option Nat} : ∀ i, (∀ j, j < i → ρ (j + 3) = some (j + 3)) → renL ρ (ptrs i) = ptrs i
  | 0, _ => rfl
  | i + 1, h => by
    rw [ptrs_succ, renL_app, ptrs_ren i fun j hj => h j (by omega)]
    have e : renL ρ [.ptr (i + 3) 0] = [.ptr (i + 3) 0] := by
      show [AV.ren ρ (.ptr (i + 3) 0)] = _
      simp only [AV.ren, h i (by omega)]
    rw [e]
theorem ptrs_hok {ρ : Nat → Option Nat} : ∀ i, i ≤ 36 → (∀ j, j < i → (ρ (j + 3)).isSome = true) → hokL 40 ρ (ptrs i) = true
  | 0, _, _ => rfl
  | i + 1, hi, h => by
    rw [ptrs_succ]
    refine hokL_app _ _ (ptrs_hok i (by omega) fun j hj => h j (by omega)) ?_
    show ((Nat.ble (i + 3 + 1) 40 && (ρ (i + 3)).isSome) && true) = true
    rw [Nat.ble_eq_true_of_le (by omega), h i (by omega)]; rfl
theorem newL_pure (S : List Po) (i : Nat) : ∀ c ∈ newL S i, PureC c := fun c hc => by
  obtain ⟨p, _, rfl⟩ := List.mem_map.mp hc
  exact plN_pure _ _
theorem newL_len (S : List Po) (i : Nat) (h : i ≤ S.length) : (newL S i).length = i := by simp [newL]; omega
theorem newL_at (S : List Po) (i j : Nat) (h : j < (newL S i).length) (hj : j < S.length) : (newL S i)[j] = plN S[j] (areaS S[j].f) := by simp [newL]
theorem newStep {s : St} {E : Env} {e : Env} (S : List Po) (i : Nat) (hi : i < S.length) (h32 : S.length ≤ 32) (henv : envSub (rnm [(1, some 43), (i + 3, some 41)]) 40 e E) (h0 : s.get 0 = some (.obj [.sl 1 43 0 (i + 1), .int .u32 0, .nils]))
    (h1 : s.get 43 = some (.obj (ptrs i ++ [.ptr 41 0]))) (h2 : s.get 41 = some (plN S[i] (areaS S[i].f))) (hf : ∀ j (h : j < i), s.get (j + 3) = some (plN S[j] (areaS S[j].f))) : SubW 0 e s E (newSt S (i + 1)) := by
  have hρ : ∀ h, 3 ≤ h → h < i + 4 → rnm [(1, some 43), (i + 3, some 41)] h = some (if h = i + 3 then 41 else if h = 41 then i + 3 else h) := fun h h3 h4 => by
    have b1 : Nat.beq 1 h = false := beq_ne (by omega)
    simp only [rnm, b1, cond_false]
    by_cases e : h = i + 3
    · subst e
      rw [if_pos rfl, Nat.beq_refl]; rfl
    · rw [if_neg e, if_neg (by omega), beq_ne (fun e2 => e e2.symm)]; rfl
  have hσ : ∀ a b, (if a = i + 3 then 41 else if a = 41 then i + 3 else a) = (if b = i + 3 then 41 else if b = 41 then i + 3 else b) → a = b := fun a b h => by
    split at h <;> split at h <;> (try split at h) <;> (try split at h) <;> omega
  have hlen := newL_len S (i + 1) hi
  obtain ⟨l1, l2⟩ := famC_live (ρ := rnm [(1, some 43), (i + 3, some 41)]) (i + 4) (fun h => if h = i + 3 then 41 else if h = 41 then i + 3 else h) hσ (newL S (i + 1)) 3 (by omega) hρ
  refine ⟨[(1, some 43), (i + 3, some 41)], rfl, rfl, ?_, henv, memSub_app ⟨⟨rfl, rfl, ?_⟩, ⟨?_, rfl, ?_⟩, trivial⟩ (famC_sub (i + 4) (by show i + 4 ≤ 40; omega) (fun h => if h = i + 3 then 41 else if h = 41 then i + 3 else h) (newL S (i + 1)) 3 (by omega) (newL_pure S (i + 1)) hρ fun j hj => ?_)⟩
  · show nodupN (liveOf _ ([(0, some (msC (i + 1) 0 .nils)), (1, some (.obj (ptrs (i + 1))))] ++ famC 3 (newL S (i + 1)))) = true
    rw [liveOf_app]
    refine nodupN_app _ _ rfl l1 fun h hm => ?_
    rw [Bool.eq_false_iff]
    intro hm2
    obtain ⟨k, k1, k2, k3⟩ := l2 h hm2
    rw [memN_iff] at hm
    have hm : h ∈ [0, 43] := hm
    simp at hm
    split at k3
    · omega
    · split at k3 <;> omega
  · exact h0
  · exact ptrs_hok (i + 1) (by omega) fun j hj => by rw [hρ (j + 3) (by omega) (by omega)]; rfl
  · show s.get 43 = some (.obj (renL (rnm [(1, some 43), (i + 3, some 41)]) (ptrs (i + 1))))
    rw [h1, ptrs_succ, renL_app, ptrs_ren i fun j hj => by rw [hρ (j + 3) (by omega) (by omega), if_neg (by omega), if_neg (by omega)]]
    have e : renL (rnm [(1, some 43), (i + 3, some 41)]) [.ptr (i + 3) 0] = [.ptr 41 0] := by
      show [AV.ren _ (.ptr (i + 3) 0)] = _
      simp only [AV.ren, hρ (i + 3) (by omega) (by omega), if_true]
    rw [e]
  · have hjS : j < S.length := by rw [hlen] at hj; omega
    rw [newL_at S (i + 1) j hj hjS]
    show s.get (if 3 + j = i + 3 then 41 else if 3 + j = 41 then i + 3 else 3 + j) = _
    by_cases e : j = i
    · subst e
      rw [if_pos (by omega)]; exact h2
    · rw [if_neg (by omega), if_neg (by rw [hlen] at hj; omega), Nat.add_comm 3 j]
      exact hf j (by rw [hlen] at hj; omega)
set_option maxRecDepth 20000 in
theorem newNo_tr (S : List Po) (hS : ∀ x ∈ S, 0 ≤ x.a ∧ x.a < 65536) (hl : S.length ≤ 1000) (h : ¬ (S.length ≤ 32 ∧ allR S = true)) : Ev Try.prog 73 [.ro 8 (S.map poA)] (.tup [.nilp, .int .i64 260]) := by
  refine FrzK.ev rfl (trF g73 b73 c73 ?_)
  conv => whnf
  by_cases h32 : S.length ≤ 32
  · refine condN (by simp; omega) ?_
    conv => whnf
    refine Ev.call (contains_ev S hS (by omega)) ?_
    conv => whnf
    have ha : allR S = false := by
      rw [Bool.eq_false_iff]; exact fun e => h ⟨h32, e⟩
    refine condY (by rw [ha]; rfl) ?_
    conv => whnf
    exact FrzK.le (Le.refl _)
  · refine condY (by simp; omega) ?_
    conv => whnf
    exact FrzK.le (Le.refl _)
set_option maxRecDepth 20000 in
theorem new_raw (S : List Po) (hS : ∀ x ∈ S, 0 ≤ x.a ∧ x.a < 65536) (h32 : S.length ≤ 32) (ha : allR S = true) : Tr Try.prog 73 [.ro 8 (S.map poA)] ⟨0, []⟩ fun v s => v = .tup [.ptr 0 0, .int .i64 0] ∧ s = newSt S S.length := by
  refine trF g73 b73 c73 ?_
  conv => whnf
  refine condN (by simp; omega) ?_
  conv => whnf
  refine Ev.call (contains_ev S hS (by omega)) ?_
  conv => whnf
  refine condN (by rw [ha]; rfl) ?_
  conv => whnf
  refine loopI (α := {i : Nat // i ≤ S.length}) (fun i => [(4, .ptr 0 0), (16, .ro 8 (S.map poA)), (17, .int .i64 S.length), (18, .int .i64 i.1)]) (fun i => newSt S i.1) (fun i => S.length - i.1) ⟨0, Nat.zero_le _⟩
    ⟨[(1, none)], rfl, rfl, rfl, ⟨⟨rfl, rfl⟩, ⟨rfl, rfl⟩, ⟨?_, rfl⟩, ⟨rfl, rfl⟩, trivial⟩, ⟨⟨rfl, rfl, rfl⟩, ⟨rfl, rfl, rfl⟩, trivial⟩⟩ fun ⟨i, hi⟩ => ?_
  · show AV.int .i64 ((S.map poA).length : Nat) = AV.int .i64 S.length
    rw [List.length_map]
  conv => whnf
  by_cases hlt : i < S.length
  · refine condY (by simp; omega) ?_
    conv => whnf
    have hx : (S.map poA).getD (Int.toNat (i : Int)) .undef = poA S[i] := map_at hlt
    refine condT (by simp; omega) ?_
    rw [hx]
    generalize hp : S[i] = p at *
    conv => whnf
    refine Ev.call (area_ev p.f) ?_
    conv => whnf
    refine ⟨rfl, ?_⟩
    conv => whnf
    refine ⟨rfl, ?_⟩
    conv => whnf
    refine condT ?_ ?_
    · have h1 : (List.take (i * 1) (List.drop 0 (ptrs i))).all AV.one = true := by
        rw [List.all_eq_true]
        intro x hx
        obtain ⟨j, _, rfl⟩ := List.mem_map.mp (List.mem_of_mem_drop (List.mem_of_mem_take hx))
        rfl
      simp only [h1, ptrs_length]
      simp [AV.one]
      omega
    conv => whnf
    refine ⟨⟨i + 1, hlt⟩, newStep S i hlt h32 ⟨⟨rfl, rfl⟩, ⟨rfl, rfl⟩, ⟨rfl, rfl⟩, ⟨?_, rfl⟩, trivial⟩ rfl ?_ ?_ ?_, by show S.length - (i + 1) < S.length - i; omega⟩
    · show AV.int .i64 (IntKind.i64.wrap ((i : Int) + 1)) = AV.int .i64 ((i + 1 : Nat) : Int)
      rw [s64 (by omega)]
    · show some (Chunk.obj ((List.drop 0 (ptrs i)).take (i * 1) ++ [AV.ptr 41 0])) = _
      rw [List.drop_zero, Nat.mul_one, List.take_of_length_le (by rw [ptrs_length]; omega)]
    · rw [hp]; rfl
    · intro j hj
      show Mem.get _ (j + 3) = _
      dsimp only
      repeat (rw [get_ne (by omega)])
      have hlen := newL_len S i hi
      have := famC_get (newL S i) 3 j (by rw [hlen]; exact hj)
      rw [newL_at S i j (by rw [hlen]; exact hj) (by omega), Nat.add_comm 3 j] at this
      exact this
  · obtain rfl : i = S.length := by omega
    refine condN (by simp) ?_
    conv => whnf
    exact ⟨rfl, rfl⟩
end Go.Proofs.Ytomodeliimnddaa
set_option linter.unusedVariables false
set_option linter.unusedSimpArgs false
namespace Go.Proofs.Ytomodeliimnddaa
open Go.Ab
def a134 : ACode := (.seq (.reg [(iO 3 (.box (.t 1)))])
 (.seq (.seq (.reg [(iM 7 0), (iN 8 7), (iO 9 (.fld 0 8 true (.t 8))), (iF 10 1 9), (iL 11 10), (iO 12 (.bin .gtr .other (.t 11) (.c (.int .u8 4))))])
 (.cond (.t 12) .ret
 .skip))
 (.seq (.reg [(iM 13 0), (iF 14 5 3), (iL 15 14), (iN 16 13), (iF 17 22 16), ⟨none, .store 1 (.t 17) (.t 15), none, false⟩])
 (.seq (.reg [(iF 18 4 3), (iL 19 18), (iO 20 (.len false (.t 19))), (iO 21 (.mov (.c (.int .i64 0))))])
 (.block 0 (.loop (.seq (.reg [(iO 22 (.bin .lss .other (.t 21) (.t 20)))])
 (.seq (.cond (.t 22) .skip
 (.exit 0))
 (.seq (.block 1 (.seq (.reg [(iO 23 (.idx 1 none false (.t 19) (.t 21))), (iL 24 23), (iM 5 24)])
 (.seq (.reg [(iO 6 (.mov (.c (.int .u16 0))))])
 (.seq (.seq (.reg [(iM 25 5)])
 (.cond (.t 25) (.reg [(iO 6 (.mov (.c (.int .u16 1))))])
 .skip))
 (.reg [(iM 26 0), (iM 27 0), (iN 28 27), (iF 29 22 28), (iL 30 29), (iM 31 6), (iO 32 (.bslice 1 (.int .u16) [(.int .u16 0)] [(0, 1, (.t 31))] 1)), (iO 33 (.app 1 2 (.t 30) (.t 32))), (iN 34 26), (iF 35 22 34), ⟨none, .store 1 (.t 35) (.t 33), none, false⟩])))))
 (.reg [(iO 36 (.bin .add .other (.t 21) (.c (.int .i64 1)))), (iM 21 36)]))))))))))
def r134 : List ARes := []
theorem c134 : compF Try.prog Try.f134 = some (a134, r134) := by kernel_rfl
theorem b134 : hasBody Try.prog 134 = true := by kernel_rfl
theorem g134 : Try.prog.funcs[134]? = some Try.f134 := by kernel_rfl
def Pl.kept (x : Pl) (r : List Int) : Pl := if x.p.f > 4 then x else { x with l := r }
set_option maxRecDepth 20000 in
theorem take0_tr (x : Pl) (f e a n : Int) (r : List Int) : PlT 134 [.ptr 0 0, repA f e a n (.roB []) (.roI .u16 r)] x (.tup []) (x.kept r) := by
  refine plNorm rfl rfl (trF g134 b134 c134 ?_)
  conv => whnf
  refine condF (fun h => ?_) (fun h => ?_)
  · have h4 : ¬ x.p.f > 4 := by simpa using h
    have hk : x.kept r = { x with l := r } := by unfold Pl.kept; rw [if_neg h4]
    rw [hk]
    conv => whnf
    refine loopI (α := Unit) (fun _ => [(21, .int .i64 0), (20, .int .i64 0), (19, .roB [])]) (fun _ => ⟨1, [(0, some (plC { x with l := r }))]⟩) (fun _ => 0) ()
      ⟨[], rfl, rfl, rfl, ⟨⟨rfl, rfl⟩, ⟨rfl, rfl⟩, ⟨rfl, rfl⟩, trivial⟩, ⟨⟨plC_hok _ _ _, rfl, rfl⟩, trivial⟩⟩ fun _ => ?_
    conv => whnf
    exact ⟨rfl, rfl⟩
  · have h4 : x.p.f > 4 := by simpa using h
    have hk : x.kept r = x := by unfold Pl.kept; rw [if_pos h4]
    rw [hk]
    conv => whnf
    exact ⟨rfl, rfl⟩
end Go.Proofs.Ytomodeliimnddaa
set_option linter.unusedVariables false
set_option linter.unusedSimpArgs false
namespace Go.Proofs.Ytomodeliimnddaa
open Go.Ab
theorem famL_subN {ρ : Nat → Option Nat} {N : Nat} {s : St} (k B : Nat) (hB : B ≤ N) (hρ : ∀ h, 3 ≤ h → h < B → ρ h = some h) : ∀ (X : List Pl) (j0 : Nat), j0 + X.length + 3 ≤ B → (∀ j (h : j < X.length), j0 + j ≠ k → s.get (j0 + j + 3) = some (plC X[j])) → memSub ρ N s (famL k j0 X)
  | [], _, _, _ => trivial
  | x :: r, j0, hN, h => by
    simp only [List.length_cons] at hN
    have ih := famL_subN k B hB hρ r (j0 + 1) (by omega) fun j hj hk => by
      have := h (j + 1) (by simpa using hj) (by omega)
      rwa [show j0 + (j + 1) + 3 = j0 + 1 + j + 3 by omega] at this
    rw [famL]
    split
    · exact ih
    · rename_i hne
      refine ⟨⟨plC_hok _ _ _, ?_, ?_⟩, ih⟩
      · show Nat.ble (j0 + 3 + 1) N = true
        exact Nat.ble_eq_true_of_le (by omega)
      · rw [hρ (j0 + 3) (by omega) (by omega), plC_ren]
        exact h 0 (by simp) (by omega)
theorem subFamN {n0 N : Nat} {e : Env} {s : St} {E : Env} {pre : Mem} {X : List Pl} {k : Nat} (rn : List (Nat × Option Nat)) (hN : 40 ≤ N) (hrn : (rn.all fun p => Nat.ble n0 p.1) = true) (h40 : Nat.ble n0 N = true) (hX : X.length ≤ 36)
    (hid : ∀ h, 3 ≤ h → h < 40 → rnm rn h = some h) (hnd : nodupN (liveOf (rnm rn) pre) = true) (hdis : ∀ h, memN (liveOf (rnm rn) pre) h = true → h < 3 ∨ 40 ≤ h ∨ h = k + 3)
    (henv : envSub (rnm rn) N e E) (hpre : memSub (rnm rn) N s pre) (hfam : ∀ j (h : j < X.length), j ≠ k → s.get (j + 3) = some (plC X[j])) : SubW n0 e s E ⟨N, pre ++ famL k 0 X⟩ := by
  obtain ⟨l1, l2⟩ := famL_live k hid X 0 (by omega)
  refine ⟨rn, hrn, h40, ?_, henv, memSub_app hpre (famL_subN k 40 hN hid X 0 (by omega) fun j hj hk => ?_)⟩
  · show nodupN (liveOf (rnm rn) (pre ++ famL k 0 X)) = true
    rw [liveOf_app]
    refine nodupN_app _ _ hnd l1 fun h hm => ?_
    rw [Bool.eq_false_iff]
    intro hm2
    have h1 := hdis h hm
    have h2 := l2 h hm2
    omega
  · have := hfam j hj (by omega)
    rwa [Nat.zero_add]
def famT (N : Nat) (X : List Pl) (i : Nat) (base : Mem) : St := ⟨N, ((i + 3, X[i]?.map plC) :: base) ++ famL i 0 X⟩
theorem famT_get {N : Nat} {X : List Pl} {i : Nat} {base : Mem} {x : Pl} (h : X[i]? = some x) : (famT N X i base).get (i + 3) = some (plC x) := by
  show Mem.get ((i + 3, X[i]?.map plC) :: (base ++ famL i 0 X)) (i + 3) = _
  rw [get_eq, h]; rfl
theorem famT_ne {N : Nat} {X : List Pl} {i j : Nat} {base : Mem} (hb : ∀ r j, j < 37 → Mem.get (base ++ r) (j + 3) = Mem.get r (j + 3)) (hj : j < X.length) (hX : X.length ≤ 36) (hne : j ≠ i) : (famT N X i base).get (j + 3) = some (plC X[j]) := by
  show Mem.get ((i + 3, X[i]?.map plC) :: (base ++ famL i 0 X)) (j + 3) = _
  rw [get_ne (by omega), hb _ _ (by omega)]
  have := famL_get i X 0 j hj (by omega)
  rwa [Nat.zero_add] at this
theorem famT_all {N : Nat} {X : List Pl} {i : Nat} {base : Mem} (hb : ∀ r j, j < 37 → Mem.get (base ++ r) (j + 3) = Mem.get r (j + 3)) (hX : X.length ≤ 36) (hi : i < X.length) : ∀ j (h : j < X.length), (famT N X i base).get (j + 3) = some (plC X[j]) := fun j h => by
  by_cases e : j = i
  · subst e
    exact famT_get (List.getElem?_eq_getElem h)
  · exact famT_ne hb h hX e
theorem famNextN {n0 N : Nat} {e : Env} {s : St} {E : Env} {X : List Pl} {i : Nat} {base : Mem} (rn : List (Nat × Option Nat)) (hN : 40 ≤ N) (hrn : (rn.all fun p => Nat.ble n0 p.1) = true) (hid : ∀ h, 3 ≤ h → h < 40 → rnm rn h = some h) (hn0 : Nat.ble n0 N = true) (hi36 : i ≤ 36) (hX : X.length ≤ 36) (henv : envSub (rnm rn) N e E) (hb : memSub (rnm rn) N s base)
    (hnd : nodupN (liveOf (rnm rn) base) = true) (hd : ∀ h, memN (liveOf (rnm rn) base) h = true → h < 3 ∨ 40 ≤ h) (hfam : ∀ j (h : j < X.length), s.get (j + 3) = some (plC X[j])) : SubW n0 e s E (famT N X i base) := by
  by_cases hi : i < X.length
  · have hxi : X[i]?.map plC = some (plC X[i]) := by rw [List.getElem?_eq_getElem hi]; rfl
    have hri : rnm rn (i + 3) = some (i + 3) := hid _ (by omega) (by omega)
    refine subFamN (pre := (i + 3, X[i]?.map plC) :: base) (k := i) rn hN hrn hn0 hX hid ?_ ?_ henv ?_ fun j hj _ => hfam j hj
    · rw [hxi]
      simp only [liveOf, hri]
      show (!memN (liveOf (rnm rn) base) (i + 3) && nodupN (liveOf (rnm rn) base)) = true
      rw [hnd, show memN (liveOf (rnm rn) base) (i + 3) = false from Bool.eq_false_iff.mpr fun hm => by have := hd _ hm; omega]
      rfl
    · intro h hm
      rw [hxi] at hm
      simp only [liveOf, hri] at hm
      rw [memN_iff] at hm
      rcases List.mem_cons.mp hm with hm | hm
      · omega
      · have := hd h ((memN_iff _ _).mpr hm)
        omega
    · rw [hxi]
      refine ⟨⟨plC_hok _ _ _, ?_, ?_⟩, hb⟩
      · show Nat.ble (i + 3 + 1) N = true
        exact Nat.ble_eq_true_of_le (by omega)
      · rw [hri]
        show s.get (i + 3) = some ((plC X[i]).ren _)
        rw [plC_ren]; exact hfam i hi
  · have hxi : X[i]?.map plC = none := by rw [List.getElem?_eq_none (by omega)]; rfl
    refine subFamN (pre := (i + 3, X[i]?.map plC) :: base) (k := i) rn hN hrn hn0 hX hid ?_ ?_ henv ?_ fun j hj _ => hfam j hj
    · rw [hxi]; exact hnd
    · intro h hm
      rw [hxi] at hm
      have := hd h hm
      omega
    · rw [hxi]; exact hb
end Go.Proofs.Ytomodeliimnddaa
set_option linter.unusedVariables false
set_option linter.unusedSimpArgs false
namespace Go.Proofs.Ytomodeliimnddaa
open Go.Ab
def plQ (x : Pl) (v : AV) : List AV := [.int .u8 x.p.u, .int .u8 x.p.f, .int .u16 x.p.a, .int .i64 x.p.n, .int .i64 x.p.p, .int .i64 x.p.e, .int .i64 x.p.t, .int .i64 x.p.r, .int .i64 x.ar, .int .i64 x.si, .bool x.w, .int .u16 x.id, .int .i64 x.le, .int .u8 x.qf, .int .u16 x.qa, .int .u16 x.qn, .int .u16 0, (.roB x.qb), (.roI .u16 x.qr), .int .i64 x.ms, .bool x.st, .int .i64 x.ag, v]
def b1L (b : List Bool) : List Int := b.map fun t => if t then 1 else 0
theorem b1L_take (b : List Bool) (i : Nat) (h : i < b.length) : b1L (b.take (i + 1)) = b1L (b.take i) ++ [if b.getD i false then 1 else 0] := by
  unfold b1L
  rw [List.take_add_one, List.map_append, List.getElem?_eq_getElem h]
  simp [List.getD_eq_getElem?_getD, List.getElem?_eq_getElem h]
theorem b1L_len (b : List Bool) : (b1L b).length = b.length := List.length_map _
set_option maxRecDepth 20000 in
theorem takeB_raw (x : Pl) (f e a n : Int) (b : List Bool) (hb : b.length ≤ 2500) (h4 : ¬ x.p.f > 4) : Tr Try.prog 134 [.ptr 0 0, repA f e a n (.roB b) .nils] ⟨1, [(0, some (plC x))]⟩ fun v s => v = .tup [] ∧ s.get 0 = some (.obj (plQ x (.sl 1 2 0 b.length))) ∧ s.get 2 = some (.rowI .u16 (b1L b)) ∧ s.next = 3 := by
  refine trF g134 b134 c134 ?_
  conv => whnf
  refine condN (by simpa using h4) ?_
  conv => whnf
  refine loopI (α := {i : Nat // i ≤ b.length}) (fun i => [(0, .ptr 0 0), (19, .roB b), (20, .int .i64 b.length), (21, .int .i64 i.1)]) (fun i => ⟨3, [(2, some (.rowI .u16 (b1L (b.take i.1)))), (0, some (.obj (plQ x (.sl 1 2 0 i.1))))]⟩) (fun i => b.length - i.1) ⟨0, Nat.zero_le _⟩
    ⟨[(2, none)], rfl, rfl, rfl, ⟨⟨rfl, rfl⟩, ⟨rfl, rfl⟩, ⟨rfl, rfl⟩, ⟨rfl, rfl⟩, trivial⟩, ⟨⟨trivial, rfl, rfl⟩, ⟨rfl, rfl, rfl⟩, trivial⟩⟩ fun ⟨i, hi⟩ => ?_
  conv => whnf
  by_cases hlt : i < b.length
  · refine condY (by simp; omega) ?_
    conv => whnf
    refine condT (by simp; omega) ?_
    conv => whnf
    have hl : (b1L (b.take i)).length = i := by rw [b1L_len, List.length_take]; omega
    have key : ∀ t, b.getD i false = t → (if t then (1 : Int) else 0) :: [] = [if b.getD i false then 1 else 0] := fun t h => by rw [h]
    refine condF (fun hq => ?_) (fun hq => ?_)
    all_goals
      conv => whnf
      refine condT (by simp [hl]; try omega) ?_
      conv => whnf
      refine ⟨⟨i + 1, hlt⟩, ⟨[(2, some 4)], rfl, rfl, rfl, ⟨⟨rfl, rfl⟩, ⟨rfl, rfl⟩, ⟨rfl, rfl⟩, ⟨?_, rfl⟩, trivial⟩, ⟨⟨trivial, rfl, ?_⟩, ⟨rfl, rfl, rfl⟩, trivial⟩⟩, by show b.length - (i + 1) < b.length - i; omega⟩
      · show AV.int .i64 (IntKind.i64.wrap ((i : Int) + 1)) = AV.int .i64 ((i + 1 : Nat) : Int)
        rw [s64 (by omega)]
      · have hq' : b.getD i false = _ := hq
        rw [b1L_take b i hlt, hq']
        show some (Chunk.rowI .u16 (((b1L (b.take i)).drop 0).take i ++ ([_].drop 0).take 1)) = _
        rw [List.drop_zero, List.take_of_length_le (by omega)]
        rfl
  · obtain rfl : i = b.length := by omega
    refine condN (by simp) ?_
    conv => whnf
    rw [List.take_of_length_le (Nat.le_refl _)]
    exact ⟨rfl, rfl, rfl, rfl⟩
set_option maxRecDepth 20000 in
theorem takeB_tr (x : Pl) (f e a n : Int) (b : List Bool) (hb : b.length ≤ 2500) : PlT 134 [.ptr 0 0, repA f e a n (.roB b) .nils] x (.tup []) (x.kept (b1L b)) := by
  by_cases h4 : x.p.f > 4
  · have hk : x.kept (b1L b) = x := by unfold Pl.kept; rw [if_pos h4]
    rw [hk]
    refine plNorm rfl rfl (trF g134 b134 c134 ?_)
    conv => whnf
    refine condY (by simpa using h4) ?_
    conv => whnf
    exact ⟨rfl, rfl⟩
  · have hk : x.kept (b1L b) = { x with l := b1L b } := by unfold Pl.kept; rw [if_neg h4]
    rw [hk]
    refine plNorm rfl rfl (Tr.frzSt (takeB_raw x f e a n b hb h4) fun v s ⟨hv, h0, h2, hn⟩ => ⟨2, _, ⟨3, [(0, some (plC { x with l := b1L b }))]⟩, ⟨h2, hn.symm, fun k c' hk => ?_⟩, ?_, rfl⟩)
    · have hk0 : k = 0 := by
        by_cases e : 0 = k
        · exact e.symm
        · have : Mem.get ((0, some (plC { x with l := b1L b })) :: []) k = some c' := hk
          rw [get_ne e] at this; cases this
      subst hk0
      have hc : c' = plC { x with l := b1L b } := by
        have : some (plC { x with l := b1L b }) = some c' := hk
        simpa using this.symm
      subst hc
      refine ⟨by decide, _, h0, rfl, fun j hj => ?_⟩
      have hl : LeL (frzL 2 (.rowI .u16 (b1L b)) (plQ x (.sl 1 2 0 b.length))) (plQ x (.roI .u16 (b1L b))) := by
        refine ⟨Le.refl _, Le.refl _, Le.refl _, Le.refl _, Le.refl _, Le.refl _, Le.refl _, Le.refl _, Le.refl _, Le.refl _, Le.refl _, Le.refl _, Le.refl _, Le.refl _, Le.refl _, Le.refl _, Le.refl _, Le.refl _, Le.refl _, Le.refl _, Le.refl _, Le.refl _, ?_, trivial⟩
        rw [frz_row 2 .u16 _ _ (b1L_len b).symm]
        exact Le.refl _
      have := hl.get.2 j
      rw [frzL_getD _ _ _ _ hj] at this
      exact this
    · subst hv; rfl
end Go.Proofs.Ytomodeliimnddaa
set_option linter.unusedVariables false
set_option linter.unusedSimpArgs false
namespace Go.Proofs.Ytomodeliimnddaa
open Go.Ab
def a77 : ACode := (.seq (.reg [(iO 3 (.box (.t 1))), (iO 4 (.mov (.c (.bool false))))])
 (.seq (.seq (.reg [(iM 9 0), (iN 10 9), (iF 11 0 10), (iL 12 11), (iO 13 (.len false (.t 12))), (iO 14 (.mov (.c (.int .i64 0))))])
 (.block 0 (.loop (.seq (.reg [(iO 15 (.bin .lss .other (.t 14) (.t 13)))])
 (.seq (.cond (.t 15) .skip
 (.exit 0))
 (.seq (.block 1 (.seq (.reg [(iO 16 (.idx 1 none false (.t 12) (.t 14))), (iL 17 16), (iM 6 17)])
 (.seq (.seq (.draw [(zS 0 (iM 18 6)), (zS 1 (iN 19 18)), (zS 2 (iF 20 10 19)), (zS 3 (iL 21 20)), (zS 4 (iO 22 (.un .not (.t 21)))), ⟨5, ⟨(some 23), .mov (.t 22), none, true⟩, false, [], []⟩, (zS 6 (iG 24 (.mov (.t 6)) 23 false)), (zS 7 (iG 25 (.nilck (.t 24)) 23 false)), (zS 8 (iG 26 (.fld 11 1 false (.t 25)) 23 false)), (zS 9 (iG 27 (.load false 1 (.t 26)) 23 false)), (zS 10 (iG 28 (.fld 0 1 false (.t 3)) 23 false)), (zS 11 (iG 29 (.load false 1 (.t 28)) 23 false)), (zS 12 (iG 30 (.bin .neq .other (.t 27) (.t 29)) 23 false)), (zS 13 (iO 31 (.pick (.t 23) (.c (.bool true)) (.t 30)))), ⟨14, ⟨(some 32), .mov (.t 31), none, true⟩, false, [], []⟩, (zS 15 (iG 33 (.mov (.t 6)) 32 false)), (zS 16 (iG 34 (.nilck (.t 33)) 32 false)), (zS 17 (iG 35 (.fld 0 8 true (.t 34)) 32 false)), (zS 18 (iG 36 (.fld 0 1 false (.t 35)) 32 false)), (zS 19 (iG 37 (.load false 1 (.t 36)) 32 false)), (zS 20 (iG 38 (.fld 1 1 false (.t 3)) 32 false)), (zS 21 (iG 39 (.load false 1 (.t 38)) 32 false)), (zS 22 (iG 40 (.bin .neq .other (.t 37) (.t 39)) 32 false)), (zS 23 (iO 41 (.pick (.t 32) (.c (.bool true)) (.t 40))))])
 (.cond (.t 41) (.exit 1)
 .skip))
 (.seq (.draw [(zS 0 (iM 43 6)), (zS 1 (iN 44 43)), (zS 2 (iO 45 (.fld 13 6 true (.t 44)))), (zS 3 (iO 46 (.load true 6 (.t 45)))), (zS 4 (iF 47 2 3)), (zS 5 (iL 48 47)), (zS 10 (iO 7 (.alloc [(2, (.int .u8 0)), (2, (.int .u16 0)), (2, .nils)]))), ⟨6, (iO 49 (.call 58 [(.t 46), (.t 48)])), true, [], []⟩, (zS 7 (iM 42 49)), (zS 8 (iO 50 (.ext (.t 42) 0))), (zS 9 (iO 51 (.ext (.t 42) 1))), ⟨11, ⟨none, .store 6 (.t 7) (.t 50), none, false⟩, true, [10], []⟩, (zS 12 (iM 8 51))])
 (.seq (.block 2 (.seq (.reg [(iM 53 8), (iO 54 (.bin .neq .other (.t 53) (.c (.int .i64 0)))), (iM 52 54)])
 (.cond (.t 52) (.exit 1)
 (.seq (.reg [(iF 56 1 7), (iL 57 56), (iO 58 (.bin .neq .other (.t 57) (.c (.int .u8 0)))), (iM 55 58)])
 (.cond (.t 55) (.seq (.reg [(iM 59 6), (iO 60 (.call 133 [(.t 59)]))])
 (.seq (.reg [(iO 4 (.mov (.c (.bool true))))])
 .ret))
 .skip)))))
 (.seq (.reg [(iM 61 6), (iM 62 6), (iM 63 6), (iM 64 6), (iN 65 61), (iF 66 10 65), ⟨none, .store 1 (.t 66) (.c (.bool false)), none, false⟩, (iN 67 62), (iF 68 19 67), ⟨none, .store 1 (.t 68) (.c (.int .i64 0)), none, false⟩, (iN 69 63), (iF 70 20 69), ⟨none, .store 1 (.t 70) (.c (.bool false)), none, false⟩, (iN 71 64), (iF 72 21 71), ⟨none, .store 1 (.t 72) (.c (.int .i64 0)), none, false⟩])
 (.seq (.reg [(iM 73 6), (iO 74 (.load true 6 (.t 7))), (iO 75 (.call 134 [(.t 73), (.t 74)]))])
 (.seq (.reg [(iO 4 (.mov (.c (.bool true))))])
 .ret))))))))
 (.reg [(iO 76 (.bin .add .other (.t 14) (.c (.int .i64 1)))), (iM 14 76)])))))))
 (.seq (.reg [(iO 4 (.mov (.c (.bool false))))])
 .ret)))
def r77 : List ARes := [.t 4]
theorem c77 : compF Try.prog Try.f77 = some (a77, r77) := by kernel_rfl
theorem b77 : hasBody Try.prog 77 = true := by kernel_rfl
theorem g77 : Try.prog.funcs[77]? = some Try.f77 := by kernel_rfl
def Pl.rq (x : Pl) : Rq := ⟨x.qf, x.qa, x.qn, 0, x.qb, x.qr⟩
def hitB (id u : Int) (l : List Int) (x : Pl) : Bool := x.w && x.id == id && x.p.u == u && (orepS x.rq l).2 == 0
def gotP (l : List Int) (x : Pl) : Pl := if (orepS x.rq l).1.x = 0 then ({ x with w := false, ms := 0, st := false, ag := 0 } : Pl).kept (if x.qf = 1 ∨ x.qf = 2 then b1L (orepS x.rq l).1.b else (orepS x.rq l).1.r) else x.miss
def rpC (ro : Rp × Int) : Chunk := .obj [.int .u8 ro.1.f, .int .u8 ro.1.x, .int .u16 ro.1.a, .int .u16 ro.1.n, .roB ro.1.b, .roI .u16 ro.1.r]
def rpCB (ro : Rp × Int) : Chunk := .obj [.int .u8 ro.1.f, .int .u8 ro.1.x, .int .u16 ro.1.a, .int .u16 ro.1.n, .roB ro.1.b, .nils]
theorem finS_or (l : List Int) (r : Rp) : finS l r = (r, 0) ∨ finS l r = (Rp.zero, 30) := by
  unfold finS
  split
  · exact .inl rfl
  · exact .inr rfl
theorem orepS_bits (q : Rq) (l : List Int) (hl : l.length ≤ 30000) (hq : q.b.length ≤ 2500) : (orepS q l).1.b.length ≤ 2500 := by
  have hz : Rp.zero.b.length ≤ 2500 := by decide
  have hf : ∀ r : Rp, r.b.length ≤ 2500 → (finS l r).1.b.length ≤ 2500 := fun r h => by
    rcases finS_or l r with e | e <;> rw [e]
    · exact h
    · exact hz
  have hk : ∀ n, bitsK n ≤ 2500 := fun n => by unfold bitsK; repeat' split
                                               all_goals omega
  have ite : ∀ (c : Prop) [Decidable c] (a b : Rp × Int), (c → a.1.b.length ≤ 2500) → (¬ c → b.1.b.length ≤ 2500) → (if c then a else b).1.b.length ≤ 2500 := fun c _ a b h k => by
    by_cases hc : c
    · rw [if_pos hc]; exact h hc
    · rw [if_neg hc]; exact k hc
  unfold orepS orepT
  repeat' (refine ite _ _ _ (fun h => ?_) (fun h => ?_))
  all_goals first
    | exact hz
    | exact hq
    | exact hf _ hq
    | exact hf _ (Nat.zero_le _)
    | exact Nat.zero_le _
    | (show (bitsA _ _).length ≤ 2500; rw [bitsA_length]; exact hk _)
theorem orepS_nobits (q : Rq) (l : List Int) (h : ¬ (q.f = 1 ∨ q.f = 2)) (h4 : q.f ≤ 4) : (orepS q l).1.b = [] := by
  have hz : Rp.zero.b = [] := rfl
  have hf : ∀ r : Rp, r.b = [] → (finS l r).1.b = [] := fun r h => by
    rcases finS_or l r with e | e <;> rw [e]
    · exact h
    · exact hz
  have ite : ∀ (c : Prop) [Decidable c] (a b : Rp × Int), (c → a.1.b = []) → (¬ c → b.1.b = []) → (if c then a else b).1.b = [] := fun c _ a b h k => by
    by_cases hc : c
    · rw [if_pos hc]; exact h hc
    · rw [if_neg hc]; exact k hc
  unfold orepS orepT
  repeat' (refine ite _ _ _ (fun h => ?_) (fun h => ?_))
  all_goals first
    | exact hz
    | rfl
    | exact hf _ rfl
    | (exfalso; rename_i hx; have := eq_of_beq hx; omega)
    | (exfalso; simp only [beq_iff_eq] at *; omega)
set_option maxRecDepth 20000 in
theorem take1_tr {x : Pl} {f e a n : Int} {b : List Bool} {r : List Int} (h : x.p.f > 4 ∨ b = []) : PlT 134 [.ptr 0 0, repA f e a n (.roB b) (.roI .u16 r)] x (.tup []) (x.kept r) := by
  by_cases h4 : x.p.f > 4
  · have hk : x.kept r = x := by unfold Pl.kept; rw [if_pos h4]
    rw [hk]
    refine plNorm rfl rfl (trF g134 b134 c134 ?_)
    conv => whnf
    refine condY (by simpa using h4) ?_
    conv => whnf
    exact ⟨rfl, rfl⟩
  · obtain rfl : b = [] := h.resolve_left h4
    exact take0_tr _ _ _ _ _ _
def frO (id u : Int) (l : List Int) : Chunk := .obj [.int .u16 id, .int .u8 u, .roI .u8 l]
def fr3 (n : Nat) (last : Int) (o : AV) (id u : Int) (l : List Int) : Mem := [(0, some (msC n last o)), (1, some (mrC n)), (40, some (frO id u l))]
theorem fr3_skip (n : Nat) (last : Int) (o : AV) (id u : Int) (l : List Int) (r : Mem) (j : Nat) (hj : j < 37) : Mem.get (fr3 n last o id u l ++ r) (j + 3) = Mem.get r (j + 3) := by
  show Mem.get ((40, some (frO id u l)) :: r) (j + 3) = _
  exact get_ne (by omega)
theorem fr_get {X : List Pl} {n i : Nat} {last : Int} {o : AV} {id u : Int} {l : List Int} (hi : i ≤ 36) : (famT 41 X i (fr3 n last o id u l)).get 40 = some (frO id u l) := by
  show Mem.get ((i + 3, X[i]?.map plC) :: (fr3 n last o id u l ++ famL i 0 X)) 40 = _
  rw [get_ne (by omega)]; rfl
theorem fr3Sub {s : St} {n : Nat} {last : Int} {o : AV} {id u : Int} {l : List Int} (ho : OkO o) (hn : n ≤ 36) (h0 : s.get 0 = some (msC n last o)) (h1 : s.get 1 = some (mrC n)) (h2 : s.get 40 = some (frO id u l)) : memSub (rnm []) 41 s (fr3 n last o id u l) := by
  rcases ho with rfl | ⟨es, k, rfl⟩
  all_goals
    refine ⟨⟨rfl, rfl, h0⟩, ⟨fun j hj => ?_, rfl, h1⟩, ⟨rfl, rfl, h2⟩, trivial⟩
    show (Nat.ble (j % 36 + 3 + 1) 41 && true) = true
    rw [Nat.ble_eq_true_of_le (by omega)]; rfl
theorem fr3_low (n : Nat) (last : Int) (o : AV) (id u : Int) (l : List Int) : ∀ h, memN (liveOf (rnm []) (fr3 n last o id u l)) h = true → h < 3 ∨ 40 ≤ h := fun h hm => by
  rw [memN_iff] at hm
  have hm : h ∈ [0, 1, 40] := hm
  simp at hm
  omega
set_option maxRecDepth 20000 in
set_option maxHeartbeats 1000000 in
theorem Take_tr (X : List Pl) (last : Int) (o : AV) (id u : Int) (l : List Int) (ho : OkO o) (hX : X.length ≤ 36) (hl : l.length ≤ 30000) (hq : ∀ x ∈ X, 0 ≤ x.qn ∧ x.qn < 65536 ∧ x.qb.length ≤ 2500 ∧ x.qr.length ≤ 200 ∧ (x.w = true → x.qf = x.p.f)) :
    Tr Try.prog 77 [.ptr 0 0, .agg [.int .u16 id, .int .u8 u, .roI .u8 l]] (msS X last o) fun v s =>
      (∃ i, ∃ h : i < X.length, hitB id u l X[i] = true ∧ (∀ j (h : j < X.length), j < i → hitB id u l X[j] = false) ∧ v = .bool true ∧ s = msS (X.set i (gotP l X[i])) last o) ∨
      ((∀ j (h : j < X.length), hitB id u l X[j] = false) ∧ v = .bool false ∧ s = msS X last o) := by
  refine Tr.norm (K := fun v s => (∃ i, ∃ h : i < X.length, hitB id u l X[i] = true ∧ (∀ j (h : j < X.length), j < i → hitB id u l X[j] = false) ∧ v = .bool true ∧ s.get 0 = some (msC X.length last o) ∧ s.get 1 = some (mrC X.length) ∧ ∀ j (h : j < X.length), s.get (j + 3) = some (plC (if j = i then gotP l X[i] else X[j]))) ∨
      ((∀ j (h : j < X.length), hitB id u l X[j] = false) ∧ v = .bool false ∧ s.get 0 = some (msC X.length last o) ∧ s.get 1 = some (mrC X.length) ∧ ∀ j (h : j < X.length), s.get (j + 3) = some (plC X[j]))) ?_ ?_
  · refine trF g77 b77 c77 ?_
    conv => whnf
    refine loopI (α := {i : Nat // i ≤ X.length ∧ ∀ j (h : j < X.length), j < i → hitB id u l X[j] = false}) (fun i => [(3, .ptr 40 0), (12, .sl 1 1 0 X.length), (13, .int .i64 X.length), (14, .int .i64 i.1)]) (fun i => famT 41 X i.1 (fr3 X.length last o id u l)) (fun i => X.length - i.1) ⟨0, Nat.zero_le _, fun j h k => by omega⟩ ?_ fun ⟨i, hi, hbf⟩ => ?_
    · refine famNextN (i := 0) [] (by decide) rfl (fun _ _ _ => rfl) rfl (by omega) hX ⟨⟨rfl, rfl⟩, ⟨rfl, rfl⟩, ⟨rfl, rfl⟩, ⟨rfl, rfl⟩, trivial⟩ (fr3Sub ho hX rfl rfl rfl) rfl (fr3_low _ _ _ _ _ _) fun j hj => ?_
      show Mem.get ((40, _) :: (msS X last o).m) (j + 3) = _
      rw [get_ne (by omega)]
      exact msS_get hX hj
    · conv => whnf
      by_cases hlt : i < X.length
      · refine condY (by simp; omega) ?_
        conv => whnf
        refine condT (by simp; omega) ?_
        conv => whnf
        rw [mrC_ld hX hlt]
        conv => whnf
        have hxi : X[i]? = some X[i] := List.getElem?_eq_getElem hlt
        have hqx := hq X[i] (List.getElem_mem hlt)
        have hi36 : i ≤ 36 := by omega
        generalize hx : X[i] = x at *
        rw [ld_at (c := plC x)]
        rotate_left
        · rfl
        · exact getP_of (famT_get hxi)
        conv => whnf
        refine condF (fun hw => ?_) (fun hw => ?_)
        · have hw : x.w = true := by simpa using hw
          conv => whnf
          rw [ld_at (c := plC x)]
          rotate_left
          · rfl
          · exact getP_of (famT_get hxi)
          conv => whnf
          rw [ld_at (c := frO id u l)]
          rotate_left
          · rfl
          · exact getP_of (fr_get hi36)
          conv => whnf
          refine condF (fun hid => ?_) (fun hid => ?_)
          · have hid : x.id = id := by simpa using hid
            conv => whnf
            rw [ld_at (c := plC x)]
            rotate_left
            · rfl
            · exact getP_of (famT_get hxi)
            conv => whnf
            rw [ld_at (c := frO id u l)]
            rotate_left
            · rfl
            · exact getP_of (fr_get hi36)
            conv => whnf
            refine condF (fun hu => ?_) (fun hu => ?_)
            · have hu : x.p.u = u := by simpa using hu
              conv => whnf
              rw [ld_at (c := plC x)]
              rotate_left
              · rfl
              · exact getP_of (famT_get hxi)
              conv => whnf
              rw [ld_at (c := frO id u l)]
              rotate_left
              · rfl
              · exact getP_of (fr_get hi36)
              conv => whnf
              have hor : orepS x.rq l = orepS ⟨x.qf, x.qa, x.qn, 0, x.qb, x.qr⟩ l := rfl
              by_cases h12 : x.qf = 1 ∨ x.qf = 2
              · have hO := OpenReplyB_ev x.qf x.qa x.qn 0 x.qb x.qr l h12 hqx.1 hqx.2.1 hqx.2.2.1 hqx.2.2.2.1 hl
                have hrb : (orepS x.rq l).1.b.length ≤ 2500 := orepS_bits _ _ hl hqx.2.2.1
                refine Ev.call hO ?_
                rw [← hor]
                generalize hro : orepS x.rq l = ro at *
                have hro2 : ro = orepS ⟨x.qf, x.qa, x.qn, 0, x.qb, x.qr⟩ l := hor
                conv => whnf
                refine condF (fun he => ?_) (fun he => ?_)
                · have he : ro.2 = 0 := by simpa using he
                  have hyes : hitB id u l x = true := by simp [hitB, hw, hid, hu, hro, he]
                  conv => whnf
                  refine condF (fun hx0 => ?_) (fun hx0 => ?_)
                  · have hx0 : ro.1.x = 0 := by simpa using hx0
                    have hgot : gotP l x = ({ x with w := false, ms := 0, st := false, ag := 0 } : Pl).kept (b1L ro.1.b) := by unfold gotP; rw [hro, if_pos hx0, if_pos h12]
                    conv => whnf
                    rw [st_at (c := plC x) (c' := plC { x with w := false })]
                    rotate_left
                    · show Mem.get ((41, _) :: (41, _) :: _) (i + 3) = _
                      rw [get_ne (by omega), get_ne (by omega)]
                      exact famT_get (N := 41) (X := X) (i := i) (base := fr3 X.length last o id u l) hxi
                    · rfl
                    · rfl
                    · exact fun _ _ _ => nofun
                    conv => whnf
                    rw [st_at (c := plC { x with w := false }) (c' := plC { x with w := false, ms := 0 })]
                    rotate_left
                    · exact get_eq
                    · rfl
                    · rfl
                    · exact fun _ _ _ => nofun
                    conv => whnf
                    rw [st_at (c := plC { x with w := false, ms := 0 }) (c' := plC { x with w := false, ms := 0, st := false })]
                    rotate_left
                    · exact get_eq
                    · rfl
                    · rfl
                    · exact fun _ _ _ => nofun
                    conv => whnf
                    rw [st_at (c := plC { x with w := false, ms := 0, st := false }) (c' := plC { x with w := false, ms := 0, st := false, ag := 0 })]
                    rotate_left
                    · exact get_eq
                    · rfl
                    · rfl
                    · exact fun _ _ _ => nofun
                    conv => whnf
                    rw [ld_at (c := rpCB ro)]
                    rotate_left
                    · rfl
                    · show Mem.get ((i + 3, _) :: (i + 3, _) :: (i + 3, _) :: (i + 3, _) :: (41, _) :: _) 41 = _
                      rw [get_ne (by omega), get_ne (by omega), get_ne (by omega), get_ne (by omega)]
                      rfl
                    conv => whnf
                    refine plCall (takeB_tr _ _ _ _ _ _ hrb) rfl rfl rfl get_eq ?_
                    conv => whnf
                    refine .inl ⟨i, hlt, by rw [hx]; exact hyes, hbf, rfl, rfl, rfl, fun j hj => ?_⟩
                    by_cases e : j = i
                    · subst e
                      rw [if_pos rfl, hx, hgot]; exact get_eq
                    · rw [if_neg e]
                      show Mem.get ((i + 3, _) :: (i + 3, _) :: (i + 3, _) :: (i + 3, _) :: (i + 3, _) :: (i + 3, _) :: (41, _) :: (41, _) :: _) (j + 3) = _
                      rw [get_ne (by omega), get_ne (by omega), get_ne (by omega), get_ne (by omega), get_ne (by omega), get_ne (by omega), get_ne (by omega), get_ne (by omega)]
                      exact famT_all (N := 41) (X := X) (i := i) (base := fr3 X.length last o id u l) (fun r j hj => fr3_skip _ _ _ _ _ _ r j hj) hX hlt j hj
                  · have hx0 : ¬ ro.1.x = 0 := by simpa using hx0
                    have hgot : gotP l x = x.miss := by unfold gotP; rw [hro, if_neg hx0]
                    conv => whnf
                    refine plCall (miss_tr x) rfl rfl rfl ?_ ?_
                    · show Mem.get ((41, _) :: (41, _) :: _) (i + 3) = _
                      rw [get_ne (by omega), get_ne (by omega)]
                      exact famT_get (N := 41) (X := X) (i := i) (base := fr3 X.length last o id u l) hxi
                    conv => whnf
                    refine .inl ⟨i, hlt, by rw [hx]; exact hyes, hbf, rfl, rfl, rfl, fun j hj => ?_⟩
                    by_cases e : j = i
                    · subst e
                      rw [if_pos rfl, hx, hgot]; exact get_eq
                    · rw [if_neg e]
                      show Mem.get ((i + 3, _) :: (i + 3, _) :: (41, _) :: (41, _) :: _) (j + 3) = _
                      rw [get_ne (by omega), get_ne (by omega), get_ne (by omega), get_ne (by omega)]
                      exact famT_all (N := 41) (X := X) (i := i) (base := fr3 X.length last o id u l) (fun r j hj => fr3_skip _ _ _ _ _ _ r j hj) hX hlt j hj
                · have he : ¬ ro.2 = 0 := by simpa using he
                  have hno : hitB id u l x = false := by simp [hitB, hro, he]
                  conv => whnf
                  have hb2 : ∀ j (h : j < X.length), j < i + 1 → hitB id u l X[j] = false := fun j hj hji => by
                    by_cases e : j = i
                    · subst e; rw [hx]; exact hno
                    · exact hbf j hj (by omega)
                  refine ⟨⟨i + 1, hlt, hb2⟩, famNextN (i := i + 1) [] (by decide) rfl (fun _ _ _ => rfl) rfl (by omega) hX ⟨⟨rfl, rfl⟩, ⟨rfl, rfl⟩, ⟨rfl, rfl⟩, ⟨?_, rfl⟩, trivial⟩ (fr3Sub ho hX (by rfl) (by rfl) (by show Mem.get ((41, _) :: (41, _) :: _) 40 = _; rw [get_ne (by omega), get_ne (by omega)]; exact fr_get hi36)) rfl (fr3_low _ _ _ _ _ _) (fun j hj => by show Mem.get ((41, _) :: (41, _) :: _) (j + 3) = _; rw [get_ne (by omega), get_ne (by omega)]; exact famT_all (N := 41) (X := X) (i := i) (base := fr3 X.length last o id u l) (fun r j hj => fr3_skip _ _ _ _ _ _ r j hj) hX hlt j hj), by show X.length - (i + 1) < X.length - i; omega⟩
                  · show AV.int .i64 (IntKind.i64.wrap ((i : Int) + 1)) = AV.int .i64 ((i + 1 : Nat) : Int)
                    rw [s64 (by omega)]
              · have hO := OpenReplyF_ev x.qf x.qa x.qn 0 x.qb x.qr l hqx.1 hqx.2.1 hqx.2.2.1 hqx.2.2.2.1 hl
                have hrb : x.p.f > 4 ∨ (orepS x.rq l).1.b = [] := (Int.lt_or_le 4 x.p.f).imp (fun h => h) fun h => orepS_nobits x.rq _ h12 (by show x.qf ≤ 4; have := hqx.2.2.2.2 hw; omega)
                refine Ev.call hO ?_
                rw [← hor]
                generalize hro : orepS x.rq l = ro at *
                have hro2 : ro = orepS ⟨x.qf, x.qa, x.qn, 0, x.qb, x.qr⟩ l := hor
                conv => whnf
                refine condF (fun he => ?_) (fun he => ?_)
                · have he : ro.2 = 0 := by simpa using he
                  have hyes : hitB id u l x = true := by simp [hitB, hw, hid, hu, hro, he]
                  conv => whnf
                  refine condF (fun hx0 => ?_) (fun hx0 => ?_)
                  · have hx0 : ro.1.x = 0 := by simpa using hx0
                    have hgot : gotP l x = ({ x with w := false, ms := 0, st := false, ag := 0 } : Pl).kept ro.1.r := by unfold gotP; rw [hro, if_pos hx0, if_neg h12]
                    conv => whnf
                    rw [st_at (c := plC x) (c' := plC { x with w := false })]
                    rotate_left
                    · show Mem.get ((41, _) :: (41, _) :: _) (i + 3) = _
                      rw [get_ne (by omega), get_ne (by omega)]
                      exact famT_get (N := 41) (X := X) (i := i) (base := fr3 X.length last o id u l) hxi
                    · rfl
                    · rfl
                    · exact fun _ _ _ => nofun
                    conv => whnf
                    rw [st_at (c := plC { x with w := false }) (c' := plC { x with w := false, ms := 0 })]
                    rotate_left
                    · exact get_eq
                    · rfl
                    · rfl
                    · exact fun _ _ _ => nofun
                    conv => whnf
                    rw [st_at (c := plC { x with w := false, ms := 0 }) (c' := plC { x with w := false, ms := 0, st := false })]
                    rotate_left
                    · exact get_eq
                    · rfl
                    · rfl
                    · exact fun _ _ _ => nofun
                    conv => whnf
                    rw [st_at (c := plC { x with w := false, ms := 0, st := false }) (c' := plC { x with w := false, ms := 0, st := false, ag := 0 })]
                    rotate_left
                    · exact get_eq
                    · rfl
                    · rfl
                    · exact fun _ _ _ => nofun
                    conv => whnf
                    rw [ld_at (c := rpC ro)]
                    rotate_left
                    · rfl
                    · show Mem.get ((i + 3, _) :: (i + 3, _) :: (i + 3, _) :: (i + 3, _) :: (41, _) :: _) 41 = _
                      rw [get_ne (by omega), get_ne (by omega), get_ne (by omega), get_ne (by omega)]
                      rfl
                    conv => whnf
                    refine plCall (take1_tr (x := { x with w := false, ms := 0, st := false, ag := 0 }) hrb) rfl rfl rfl get_eq ?_
                    conv => whnf
                    refine .inl ⟨i, hlt, by rw [hx]; exact hyes, hbf, rfl, rfl, rfl, fun j hj => ?_⟩
                    by_cases e : j = i
                    · subst e
                      rw [if_pos rfl, hx, hgot]; exact get_eq
                    · rw [if_neg e]
                      show Mem.get ((i + 3, _) :: (i + 3, _) :: (i + 3, _) :: (i + 3, _) :: (i + 3, _) :: (i + 3, _) :: (41, _) :: (41, _) :: _) (j + 3) = _
                      rw [get_ne (by omega), get_ne (by omega), get_ne (by omega), get_ne (by omega), get_ne (by omega), get_ne (by omega), get_ne (by omega), get_ne (by omega)]
                      exact famT_all (N := 41) (X := X) (i := i) (base := fr3 X.length last o id u l) (fun r j hj => fr3_skip _ _ _ _ _ _ r j hj) hX hlt j hj
                  · have hx0 : ¬ ro.1.x = 0 := by simpa using hx0
                    have hgot : gotP l x = x.miss := by unfold gotP; rw [hro, if_neg hx0]
                    conv => whnf
                    refine plCall (miss_tr x) rfl rfl rfl ?_ ?_
                    · show Mem.get ((41, _) :: (41, _) :: _) (i + 3) = _
                      rw [get_ne (by omega), get_ne (by omega)]
                      exact famT_get (N := 41) (X := X) (i := i) (base := fr3 X.length last o id u l) hxi
                    conv => whnf
                    refine .inl ⟨i, hlt, by rw [hx]; exact hyes, hbf, rfl, rfl, rfl, fun j hj => ?_⟩
                    by_cases e : j = i
                    · subst e
                      rw [if_pos rfl, hx, hgot]; exact get_eq
                    · rw [if_neg e]
                      show Mem.get ((i + 3, _) :: (i + 3, _) :: (41, _) :: (41, _) :: _) (j + 3) = _
                      rw [get_ne (by omega), get_ne (by omega), get_ne (by omega), get_ne (by omega)]
                      exact famT_all (N := 41) (X := X) (i := i) (base := fr3 X.length last o id u l) (fun r j hj => fr3_skip _ _ _ _ _ _ r j hj) hX hlt j hj
                · have he : ¬ ro.2 = 0 := by simpa using he
                  have hno : hitB id u l x = false := by simp [hitB, hro, he]
                  conv => whnf
                  have hb2 : ∀ j (h : j < X.length), j < i + 1 → hitB id u l X[j] = false := fun j hj hji => by
                    by_cases e : j = i
                    · subst e; rw [hx]; exact hno
                    · exact hbf j hj (by omega)
                  refine ⟨⟨i + 1, hlt, hb2⟩, famNextN (i := i + 1) [] (by decide) rfl (fun _ _ _ => rfl) rfl (by omega) hX ⟨⟨rfl, rfl⟩, ⟨rfl, rfl⟩, ⟨rfl, rfl⟩, ⟨?_, rfl⟩, trivial⟩ (fr3Sub ho hX (by rfl) (by rfl) (by show Mem.get ((41, _) :: (41, _) :: _) 40 = _; rw [get_ne (by omega), get_ne (by omega)]; exact fr_get hi36)) rfl (fr3_low _ _ _ _ _ _) (fun j hj => by show Mem.get ((41, _) :: (41, _) :: _) (j + 3) = _; rw [get_ne (by omega), get_ne (by omega)]; exact famT_all (N := 41) (X := X) (i := i) (base := fr3 X.length last o id u l) (fun r j hj => fr3_skip _ _ _ _ _ _ r j hj) hX hlt j hj), by show X.length - (i + 1) < X.length - i; omega⟩
                  · show AV.int .i64 (IntKind.i64.wrap ((i : Int) + 1)) = AV.int .i64 ((i + 1 : Nat) : Int)
                    rw [s64 (by omega)]
            · have hu : ¬ x.p.u = u := by simpa using hu
              have hno : hitB id u l x = false := by simp [hitB, hu]
              conv => whnf
              have hb2 : ∀ j (h : j < X.length), j < i + 1 → hitB id u l X[j] = false := fun j hj hji => by
                by_cases e : j = i
                · subst e; rw [hx]; exact hno
                · exact hbf j hj (by omega)
              refine ⟨⟨i + 1, hlt, hb2⟩, famNextN (i := i + 1) [] (by decide) rfl (fun _ _ _ => rfl) rfl (by omega) hX ⟨⟨rfl, rfl⟩, ⟨rfl, rfl⟩, ⟨rfl, rfl⟩, ⟨?_, rfl⟩, trivial⟩ (fr3Sub ho hX (by rfl) (by rfl) (fr_get hi36)) rfl (fr3_low _ _ _ _ _ _) (famT_all (N := 41) (X := X) (i := i) (base := fr3 X.length last o id u l) (fun r j hj => fr3_skip _ _ _ _ _ _ r j hj) hX hlt), by show X.length - (i + 1) < X.length - i; omega⟩
              · show AV.int .i64 (IntKind.i64.wrap ((i : Int) + 1)) = AV.int .i64 ((i + 1 : Nat) : Int)
                rw [s64 (by omega)]
          · have hid : ¬ x.id = id := by simpa using hid
            have hno : hitB id u l x = false := by simp [hitB, hid]
            conv => whnf
            have hb2 : ∀ j (h : j < X.length), j < i + 1 → hitB id u l X[j] = false := fun j hj hji => by
              by_cases e : j = i
              · subst e; rw [hx]; exact hno
              · exact hbf j hj (by omega)
            refine ⟨⟨i + 1, hlt, hb2⟩, famNextN (i := i + 1) [] (by decide) rfl (fun _ _ _ => rfl) rfl (by omega) hX ⟨⟨rfl, rfl⟩, ⟨rfl, rfl⟩, ⟨rfl, rfl⟩, ⟨?_, rfl⟩, trivial⟩ (fr3Sub ho hX (by rfl) (by rfl) (fr_get hi36)) rfl (fr3_low _ _ _ _ _ _) (famT_all (N := 41) (X := X) (i := i) (base := fr3 X.length last o id u l) (fun r j hj => fr3_skip _ _ _ _ _ _ r j hj) hX hlt), by show X.length - (i + 1) < X.length - i; omega⟩
            · show AV.int .i64 (IntKind.i64.wrap ((i : Int) + 1)) = AV.int .i64 ((i + 1 : Nat) : Int)
              rw [s64 (by omega)]
        · have hw : x.w = false := by simpa using hw
          have hno : hitB id u l x = false := by simp [hitB, hw]
          conv => whnf
          have hb2 : ∀ j (h : j < X.length), j < i + 1 → hitB id u l X[j] = false := fun j hj hji => by
            by_cases e : j = i
            · subst e; rw [hx]; exact hno
            · exact hbf j hj (by omega)
          refine ⟨⟨i + 1, hlt, hb2⟩, famNextN (i := i + 1) [] (by decide) rfl (fun _ _ _ => rfl) rfl (by omega) hX ⟨⟨rfl, rfl⟩, ⟨rfl, rfl⟩, ⟨rfl, rfl⟩, ⟨?_, rfl⟩, trivial⟩ (fr3Sub ho hX (by rfl) (by rfl) (fr_get hi36)) rfl (fr3_low _ _ _ _ _ _) (famT_all (N := 41) (X := X) (i := i) (base := fr3 X.length last o id u l) (fun r j hj => fr3_skip _ _ _ _ _ _ r j hj) hX hlt), by show X.length - (i + 1) < X.length - i; omega⟩
          · show AV.int .i64 (IntKind.i64.wrap ((i : Int) + 1)) = AV.int .i64 ((i + 1 : Nat) : Int)
            rw [s64 (by omega)]
      · obtain rfl : i = X.length := by omega
        refine condN (by simp) ?_
        conv => whnf
        refine .inr ⟨fun j hj => hbf j hj hj, rfl, rfl, rfl, fun j hj => ?_⟩
        exact famT_ne (N := 41) (X := X) (i := X.length) (base := fr3 X.length last o id u l) (fun r j hj => fr3_skip _ _ _ _ _ _ r j hj) hj hX (by omega)
  · intro v s h
    rcases h with ⟨i, hi, h1, h2, hv, k0, k1, kf⟩ | ⟨h2, hv, k0, k1, kf⟩
    · subst hv
      have hlen : (X.set i (gotP l X[i])).length = X.length := List.length_set
      refine ⟨.bool true, msS (X.set i (gotP l X[i])) last o, ?_, .inl ⟨i, hi, h1, h2, rfl, rfl⟩⟩
      refine subFam (pre := msB (X.set i (gotP l X[i])).length last o) (k := 100) [] rfl rfl (by rw [hlen]; exact hX) (fun _ _ _ => rfl) rfl (fun h hm => .inl (base_low _ _ _ h hm)) ⟨⟨rfl, rfl⟩, trivial⟩ (by rw [hlen]; exact baseSub ho hX k0 k1) fun j hj _ => ?_
      have hj' : j < X.length := by rw [hlen] at hj; exact hj
      rw [kf j hj', List.getElem_set]
      by_cases e : j = i
      · subst e; rw [if_pos rfl]
      · rw [if_neg e, if_neg (fun e2 => e e2.symm)]
    · subst hv
      refine ⟨.bool false, msS X last o, ?_, .inr ⟨h2, rfl, rfl⟩⟩
      exact subFam (pre := msB X.length last o) (k := 100) [] rfl rfl hX (fun _ _ _ => rfl) rfl (fun h hm => .inl (base_low _ _ _ h hm)) ⟨⟨rfl, rfl⟩, trivial⟩ (baseSub ho hX k0 k1) fun j hj _ => kf j hj
end Go.Proofs.Ytomodeliimnddaa
set_option linter.unusedVariables false
set_option linter.unusedSimpArgs false
namespace Go.Proofs.Ytomodeliimnddaa
open Go.Ab
def a75 : ACode := (.seq (.seq (.reg [(iM 10 0), (iN 11 10), (iF 12 0 11), (iL 13 12), (iO 14 (.len false (.t 13))), (iO 15 (.mov (.c (.int .i64 0))))])
 (.block 0 (.loop (.seq (.reg [(iO 16 (.bin .lss .other (.t 15) (.t 14)))])
 (.seq (.cond (.t 16) .skip
 (.exit 0))
 (.seq (.block 1 (.seq (.reg [(iO 17 (.idx 1 none false (.t 13) (.t 15))), (iL 18 17), (iM 5 18)])
 (.seq (.reg [(iM 19 5), (iN 20 19), (iF 21 21 20), (iL 22 21), (iO 23 (.bin .add .other (.t 22) (.c (.int .i64 1)))), (iN 24 19), (iF 25 21 24), ⟨none, .store 1 (.t 25) (.t 23), none, false⟩])
 (.seq (.reg [(iM 26 5), (iN 27 26), (iF 28 9 27), (iL 29 28), (iO 30 (.bin .geq .other (.t 29) (.c (.int .i64 0))))])
 (.cond (.t 30) (.reg [(iM 31 5), (iN 32 31), (iF 33 9 32), (iL 34 33), (iO 35 (.bin .add .other (.t 34) (.c (.int .i64 1)))), (iN 36 31), (iF 37 9 36), ⟨none, .store 1 (.t 37) (.t 35), none, false⟩])
 .skip)))))
 (.reg [(iO 38 (.bin .add .other (.t 15) (.c (.int .i64 1)))), (iM 15 38)])))))))
 (.seq (.reg [(iM 39 0), (iN 40 39), (iF 41 0 40), (iL 42 41), (iO 43 (.len false (.t 42))), (iO 44 (.mov (.c (.int .i64 0))))])
 (.block 2 (.loop (.seq (.reg [(iO 45 (.bin .lss .other (.t 44) (.t 43)))])
 (.seq (.cond (.t 45) .skip
 (.exit 2))
 (.seq (.block 3 (.seq (.reg [(iO 46 (.idx 1 none false (.t 42) (.t 44))), (iL 47 46), (iM 7 47)])
 (.seq (.seq (.draw [(zS 0 (iM 48 7)), (zS 1 (iN 49 48)), (zS 2 (iF 50 10 49)), (zS 3 (iL 51 50)), ⟨4, ⟨(some 52), .mov (.t 51), none, true⟩, false, [], []⟩, (zS 5 (iG 53 (.mov (.t 7)) 52 false)), (zS 6 (iG 54 (.nilck (.t 53)) 52 false)), (zS 7 (iG 55 (.fld 9 1 false (.t 54)) 52 false)), (zS 8 (iG 56 (.load false 1 (.t 55)) 52 false)), (zS 9 (iG 57 (.bin .geq .other (.t 56) (.c (.int .i64 0))) 52 false)), ⟨10, ⟨(some 58), .mov (.t 57), (some (52, false)), true⟩, false, [], []⟩, (zS 11 (iG 59 (.mov (.t 7)) 58 true)), (zS 12 (iG 60 (.nilck (.t 59)) 58 true)), (zS 13 (iG 61 (.fld 9 1 false (.t 60)) 58 true)), (zS 14 (iG 62 (.load false 1 (.t 61)) 58 true)), (zS 15 (iG 63 (.mov (.t 7)) 58 true)), (zS 16 (iG 64 (.nilck (.t 63)) 58 true)), (zS 17 (iG 65 (.fld 0 8 true (.t 64)) 58 true)), (zS 18 (iG 66 (.fld 5 1 false (.t 65)) 58 true)), (zS 19 (iG 67 (.load false 1 (.t 66)) 58 true)), (zS 20 (iG 68 (.bin .lss .other (.t 62) (.t 67)) 58 true)), (zS 21 (iG 69 (.pick (.t 58) (.t 68) (.c (.bool false))) 52 false)), (zS 22 (iO 70 (.pick (.t 52) (.c (.bool true)) (.t 69))))])
 (.cond (.t 70) (.exit 3)
 .skip))
 (.seq (.reg [(iM 71 7), (iM 72 7), (iM 73 1), (iO 74 (.call 131 [(.t 72), (.t 73)])), (iN 75 71), (iO 76 (.fld 13 6 true (.t 75))), ⟨none, .store 6 (.t 76) (.t 74), none, false⟩])
 (.seq (.reg [(iM 77 7), (iM 78 0), (iN 79 78), (iO 80 (.fld 1 1 true (.t 79))), (iO 81 (.call 132 [(.t 80), (.c (.int .u32 1))])), (iO 82 (.conv (.int .u16) (.t 81))), (iN 83 77), (iF 84 11 83), ⟨none, .store 1 (.t 84) (.t 82), none, false⟩])
 (.seq (.reg [(iM 85 7), (iM 86 7), (iM 87 7), (iM 88 7), (iN 89 88), (iO 90 (.fld 0 8 true (.t 89))), (iF 91 6 90), (iL 92 91), (iN 93 85), (iF 94 10 93), ⟨none, .store 1 (.t 94) (.c (.bool true)), none, false⟩, (iN 95 86), (iF 96 12 95), ⟨none, .store 1 (.t 96) (.t 92), none, false⟩, (iN 97 87), (iF 98 9 97), ⟨none, .store 1 (.t 98) (.c (.int .i64 0)), none, false⟩])
 (.seq (.reg [(iM 100 7), (iN 101 100), (iO 102 (.fld 13 6 true (.t 101))), (iO 103 (.load true 6 (.t 102))), (iO 104 (.call 48 [(.t 103)])), (iM 99 104), (iO 105 (.ext (.t 99) 0)), (iO 106 (.ext (.t 99) 1)), (iM 8 105), (iM 9 106)])
 (.draw [(zS 0 (iM 107 0)), (zS 1 (iM 108 0)), (zS 2 (iN 109 108)), (zS 3 (iF 110 2 109)), (zS 4 (iL 111 110)), (zS 5 (iM 112 7)), (zS 6 (iN 113 112)), (zS 7 (iF 114 11 113)), (zS 8 (iL 115 114)), (zS 9 (iM 116 7)), (zS 10 (iN 117 116)), (zS 11 (iO 118 (.fld 0 8 true (.t 117)))), (zS 12 (iF 119 0 118)), (zS 13 (iL 120 119)), (zS 14 (iM 121 8)), (zS 15 (iO 122 (.build [(.int .u16 0), (.int .u8 0), .nils] [(0, 1, (.t 115)), (1, 1, (.t 120)), (2, 1, (.t 121))]))), (zS 16 (iO 123 (.bslice 3 .gen [(.int .u16 0), (.int .u8 0), .nils] [(0, 3, (.t 122))] 1))), ⟨17, (iO 124 (.app 3 32 (.t 111) (.t 123))), true, [16], []⟩, (zS 18 (iN 125 107)), (zS 19 (iF 126 2 125)), ⟨20, ⟨none, .store 1 (.t 126) (.t 124), none, false⟩, true, [16], []⟩]))))))))
 (.reg [(iO 127 (.bin .add .other (.t 44) (.c (.int .i64 1)))), (iM 44 127)]))))))))
def r75 : List ARes := []
theorem c75 : compF Try.prog Try.f75 = some (a75, r75) := by kernel_rfl
theorem b75 : hasBody Try.prog 75 = true := by kernel_rfl
theorem g75 : Try.prog.funcs[75]? = some Try.f75 := by kernel_rfl
def a132 : ACode := (.seq (.reg [(iO 4 (.mov (.c (.int .u32 0))))])
 (.seq (.reg [(iM 5 0), (iN 6 5), (iF 7 0 6), (iM 8 1), (iO 9 (.atom (.add .u32) [(.t 7), (.t 8)])), (iM 4 9)])
 .ret))
def r132 : List ARes := [.t 4]
theorem c132 : compF Try.prog Try.f132 = some (a132, r132) := by kernel_rfl
theorem b132 : hasBody Try.prog 132 = true := by kernel_rfl
theorem g132 : Try.prog.funcs[132]? = some Try.f132 := by kernel_rfl
def Pl.older (x : Pl) : Pl := { x with ag := IntKind.i64.wrap (x.ag + 1), si := if x.si ≥ 0 then IntKind.i64.wrap (x.si + 1) else x.si }
def Pl.due (x : Pl) : Bool := !(x.w || (decide (x.si ≥ 0) && decide (x.si < x.p.e)))
def Pl.asks (x : Pl) (I : Img) (n : Int) : Pl := { x with qf := (askQ I x).f, qa := (askQ I x).a, qn := (askQ I x).n, qb := (askQ I x).b, qr := (askQ I x).r, id := IntKind.u16.wrap n, w := true, le := x.p.t, si := 0 }
structure Fr where
  id : Int
  u : Int
  l : List Int
def frA (x : Fr) : List AV := [.int .u16 x.id, .int .u8 x.u, .roI .u8 x.l]
def frsA : List Fr → List AV
  | [] => []
  | x :: r => frA x ++ frsA r
theorem frsA_app : ∀ l r : List Fr, frsA (l ++ r) = frsA l ++ frsA r
  | [], r => rfl
  | x :: l, r => by
    show frA x ++ frsA (l ++ r) = _
    rw [frsA_app l r]; rfl
theorem frsA_len : ∀ l : List Fr, (frsA l).length = 3 * l.length
  | [] => rfl
  | x :: l => by
    show (frA x ++ frsA l).length = _
    rw [List.length_append, frsA_len l, List.length_cons]
    show 3 + 3 * l.length = _
    omega
theorem frsA_one : ∀ l : List Fr, (frsA l).all AV.one = true
  | [] => rfl
  | x :: l => by
    show (frA x ++ frsA l).all AV.one = true
    rw [List.all_append, frsA_one l]; rfl
theorem frsA_ren {ρ : Nat → Option Nat} : ∀ l : List Fr, renL ρ (frsA l) = frsA l
  | [] => rfl
  | x :: l => by
    show renL ρ (frA x ++ frsA l) = _
    rw [renL_app, frsA_ren l]; rfl
theorem frsA_hok {ρ : Nat → Option Nat} {N : Nat} : ∀ l : List Fr, hokL N ρ (frsA l) = true
  | [] => rfl
  | x :: l => hokL_app _ _ rfl (frsA_hok l)
def Pl.sends (x : Pl) (I : Img) (n : Int) : Fr := ⟨IntKind.u16.wrap n, x.p.u, encR (askQ I x).f (askQ I x).a (askQ I x).n 0 (askQ I x).b (askQ I x).r⟩
def bgN (X : List Pl) (I : Img) (last : Int) : Nat → List Pl × Int × List Fr
  | 0 => (X, last, [])
  | i + 1 => match X[i]? with
    | none => bgN X I last i
    | some x => if x.due then ((bgN X I last i).1.set i (x.asks I (IntKind.u32.wrap ((bgN X I last i).2.1 + 1))), IntKind.u32.wrap ((bgN X I last i).2.1 + 1), (bgN X I last i).2.2 ++ [x.sends I (IntKind.u32.wrap ((bgN X I last i).2.1 + 1))]) else bgN X I last i
def bgX (X : List Pl) (I : Img) (last : Int) (i : Nat) : List Pl := (bgN X I last i).1
def bgL (X : List Pl) (I : Img) (last : Int) (i : Nat) : Int := (bgN X I last i).2.1
def bgF (X : List Pl) (I : Img) (last : Int) (i : Nat) : List Fr := (bgN X I last i).2.2
theorem bg_some {X : List Pl} {I : Img} {last : Int} {i : Nat} {x : Pl} (h : X[i]? = some x) (hd : x.due = true) : bgX X I last (i + 1) = (bgX X I last i).set i (x.asks I (IntKind.u32.wrap (bgL X I last i + 1))) ∧ bgL X I last (i + 1) = IntKind.u32.wrap (bgL X I last i + 1) ∧ bgF X I last (i + 1) = bgF X I last i ++ [x.sends I (IntKind.u32.wrap (bgL X I last i + 1))] := by
  unfold bgX bgL bgF
  rw [bgN]
  simp only [h, hd, if_true, and_self]
theorem bg_no {X : List Pl} {I : Img} {last : Int} {i : Nat} {x : Pl} (h : X[i]? = some x) (hd : x.due = false) : bgN X I last (i + 1) = bgN X I last i := by
  rw [bgN]
  simp only [h, hd]
  rfl
theorem bgX_len (X : List Pl) (I : Img) (last : Int) : ∀ i, (bgX X I last i).length = X.length
  | 0 => rfl
  | i + 1 => by
    cases h : X[i]? with
    | none =>
      have : bgN X I last (i + 1) = bgN X I last i := by rw [bgN]; simp only [h]
      unfold bgX; rw [this]; exact bgX_len X I last i
    | some x =>
      cases hd : x.due with
      | true => rw [(bg_some h hd).1, List.length_set]; exact bgX_len X I last i
      | false => unfold bgX; rw [bg_no h hd]; exact bgX_len X I last i
theorem bgX_ge (X : List Pl) (I : Img) (last : Int) : ∀ i j, i ≤ j → (bgX X I last i)[j]? = X[j]?
  | 0, _, _ => rfl
  | i + 1, j, hj => by
    have ih := bgX_ge X I last i j (by omega)
    cases h : X[i]? with
    | none =>
      have : bgN X I last (i + 1) = bgN X I last i := by rw [bgN]; simp only [h]
      unfold bgX; rw [this]; exact ih
    | some x =>
      cases hd : x.due with
      | true => rw [(bg_some h hd).1, List.getElem?_set_ne (by omega)]; exact ih
      | false => unfold bgX; rw [bg_no h hd]; exact ih
theorem bgStep {Y : List Pl} {I : Img} {last : Int} {i : Nat} {x : Pl} {s : St} (hx : Y[i]? = some x) (hd : x.due = true) (h1 : s.get (i + 3) = some (plC (x.asks I (IntKind.u32.wrap (bgL Y I last i + 1))))) (h2 : ∀ j (h : j < (bgX Y I last i).length), j ≠ i → s.get (j + 3) = some (plC (bgX Y I last i)[j])) :
    ∀ j (h : j < (bgX Y I last (i + 1)).length), s.get (j + 3) = some (plC (bgX Y I last (i + 1))[j]) := fun j h => by
  have e := (bg_some (I := I) (last := last) hx hd).1
  have hj : j < (bgX Y I last i).length := by rw [bgX_len] at h ⊢; exact h
  have e2 : (bgX Y I last (i + 1))[j] = if i = j then x.asks I (IntKind.u32.wrap (bgL Y I last i + 1)) else (bgX Y I last i)[j] := by
    rw [List.getElem_of_eq e, List.getElem_set]
  rw [e2]
  by_cases k : i = j
  · rw [if_pos k, ← k]; exact h1
  · rw [if_neg k]; exact h2 j hj fun e => k e.symm
theorem bgF_le (X : List Pl) (I : Img) (last : Int) : ∀ i, (bgF X I last i).length ≤ i
  | 0 => Nat.le_refl _
  | i + 1 => by
    have ih := bgF_le X I last i
    cases h : X[i]? with
    | none =>
      have : bgN X I last (i + 1) = bgN X I last i := by rw [bgN]; simp only [h]
      unfold bgF; rw [this]; exact Nat.le_succ_of_le ih
    | some x =>
      cases hd : x.due with
      | true =>
        rw [(bg_some h hd).2.2, List.length_append]
        show _ + 1 ≤ _
        omega
      | false => unfold bgF; rw [bg_no h hd]; exact Nat.le_succ_of_le ih
theorem ask_a2 (I : Img) (x : Pl) : (askQ I x).a2 = 0 := by
  unfold askQ
  split
  · rfl
  · split <;> rfl
theorem ask_n (I : Img) (x : Pl) : 0 ≤ (askQ I x).n ∧ (askQ I x).n < 65536 := by
  unfold askQ
  split
  · exact ⟨(wrap16_range _).1, (wrap16_range _).2⟩
  · split <;> exact ⟨Int.le_refl 0, by show (0 : Int) < 65536; decide⟩
theorem ask_b (I : Img) (x : Pl) (h : x.p.n ≤ 64) : (askQ I x).b.length ≤ 64 := by
  unfold askQ
  split
  · exact Nat.zero_le _
  · split
    · show (List.map _ _).length ≤ _
      rw [List.length_map, List.length_range]; omega
    · exact Nat.zero_le _
theorem ask_r (I : Img) (x : Pl) (h : x.p.n ≤ 64) : (askQ I x).r.length ≤ 64 := by
  unfold askQ
  split
  · exact Nat.zero_le _
  · split
    · exact Nat.zero_le _
    · show (List.map _ _).length ≤ _
      rw [List.length_map, List.length_range]; omega
theorem rqA_ask (I : Img) (x : Pl) : rqA (askQ I x) = reqA (askQ I x).f (askQ I x).a (askQ I x).n 0 (.roB (askQ I x).b) (.roI .u16 (askQ I x).r) := by
  unfold rqA; rw [ask_a2]
theorem st_agg {get : Nat → Option Chunk} {sz h off : Nat} {c c' : Chunk} {l : List AV} (hg : get h = some c) (hp : c.put off l = some c') :
    storeA get sz (.ptr h off) (.agg l) = .ok (l.all AV.one && Nat.beq l.length sz && decide (off + sz ≤ c.size)) .undef (.set h c') := by
  simp only [storeA, hg, AV.flat, hp]
theorem app_at {get : Nat → Option Chunk} {nx : Nat} {ρ : AOpd → AV} {x y : AOpd} {h h2 : Nat} {fs : List Fr} {f : Fr} (hx : ρ x = .sl 3 h 0 fs.length) (hy : ρ y = .sl 3 h2 0 1) (hg : get h = some (.obj (frsA fs))) (hg2 : get h2 = some (.obj (frA f))) (hl : fs.length ≤ 1000) :
    opD get nx ρ (.app 3 32 x y) = .ok true (.sl 3 nx 0 (fs.length + 1)) (.app h (.obj (frsA (fs ++ [f])))) := by
  have e1 : ((frsA fs).drop 0).take (fs.length * 3) = frsA fs := by
    rw [List.drop_zero, List.take_of_length_le (by rw [frsA_len]; omega)]
  have e2 : ((frA f).drop 0).take (1 * 3) = frA f := rfl
  have e3 : (frA f).all AV.one = true := rfl
  have e4 : frsA (fs ++ [f]) = frsA fs ++ frA f := by rw [frsA_app]; show _ ++ (frA f ++ []) = _; rw [List.append_nil]
  have e5 : (frA f).length = 3 := rfl
  simp only [opD, hx, hy, appA, rowFrom, hg, hg2, lenA, Chunk.cat, e1, e2, e3, e4, frsA_one, frsA_len, e5]
  congr 1
  simp
  omega
def bg4 (n : Nat) (last : Int) (fs : List Fr) (I : Img) : Mem := [(0, some (msC n last (.sl 3 40 0 fs.length))), (1, some (mrC n)), (2, some (imC I)), (40, some (.obj (frsA fs)))]
theorem bg4_skip (n : Nat) (last : Int) (fs : List Fr) (I : Img) (r : Mem) (j : Nat) (hj : j < 37) : Mem.get (bg4 n last fs I ++ r) (j + 3) = Mem.get r (j + 3) := by
  show Mem.get ((40, some (.obj (frsA fs))) :: r) (j + 3) = _
  exact get_ne (by omega)
theorem bg4Sub {ρ : List (Nat × Option Nat)} {s : St} {n : Nat} {last : Int} {fs : List Fr} {I : Img} {t : Nat} (hr : ∀ h, h < 40 → rnm ρ h = some h) (h40 : rnm ρ 40 = some t) (hn : n ≤ 36) (h0 : s.get 0 = some (msC n last (.sl 3 t 0 fs.length))) (h1 : s.get 1 = some (mrC n)) (h2 : s.get 2 = some (imC I)) (h3 : s.get t = some (.obj (frsA fs))) : memSub (rnm ρ) 41 s (bg4 n last fs I) := by
  refine ⟨⟨?_, rfl, ?_⟩, ⟨fun j hj => ?_, rfl, ?_⟩, ⟨trivial, rfl, ?_⟩, ⟨frsA_hok _, rfl, ?_⟩, trivial⟩
  · show hokL 41 (rnm ρ) [.sl 1 1 0 n, .int .u32 last, .sl 3 40 0 fs.length] = true
    simp only [hokL, AV.hok, hr 1 (by decide), h40]
    rfl
  · rw [hr 0 (by decide)]
    show s.get 0 = some (.obj (renL (rnm ρ) [.sl 1 1 0 n, .int .u32 last, .sl 3 40 0 fs.length]))
    simp only [renL, AV.ren, hr 1 (by decide), h40]
    exact h0
  · show (Nat.ble (j % 36 + 3 + 1) 41 && (rnm ρ (j % 36 + 3)).isSome) = true
    rw [Nat.ble_eq_true_of_le (by omega), hr _ (by omega)]; rfl
  · rw [hr 1 (by decide)]
    show s.get 1 = some (.fn n fun j => (AV.ptr (j % 36 + 3) 0).ren (rnm ρ))
    rw [h1]
    unfold mrC
    congr 2
    funext j
    simp only [AV.ren, hr (j % 36 + 3) (by omega)]
  · rw [hr 2 (by decide)]; exact h2
  · rw [h40]
    show s.get t = some (.obj (renL _ (frsA fs)))
    rw [frsA_ren]; exact h3
theorem bg4_low (n : Nat) (last : Int) (fs : List Fr) (I : Img) {ρ : List (Nat × Option Nat)} {t : Nat} (hr : ∀ h, h < 40 → rnm ρ h = some h) (h40 : rnm ρ 40 = some t) (ht : 40 ≤ t) : nodupN (liveOf (rnm ρ) (bg4 n last fs I)) = true ∧ ∀ h, memN (liveOf (rnm ρ) (bg4 n last fs I)) h = true → h < 3 ∨ 40 ≤ h := by
  have e : liveOf (rnm ρ) (bg4 n last fs I) = [0, 1, 2, t] := by
    simp only [bg4, liveOf, hr 0 (by decide), hr 1 (by decide), hr 2 (by decide), h40]
  rw [e]
  refine ⟨?_, fun h hm => ?_⟩
  · have h0 : Nat.beq t 0 = false := beq_ne (by omega)
    have h1 : Nat.beq t 1 = false := beq_ne (by omega)
    have h2 : Nat.beq t 2 = false := beq_ne (by omega)
    simp [nodupN, memN, h0, h1, h2]
    exact ⟨⟨rfl, rfl⟩, rfl⟩
  · rw [memN_iff] at hm; simp at hm; omega
theorem bg4Sub0 {s : St} {n : Nat} {last : Int} {I : Img} (hn : n ≤ 36) (h0 : s.get 0 = some (msC n last .nils)) (h1 : s.get 1 = some (mrC n)) (h2 : s.get 2 = some (imC I)) : memSub (rnm [(40, none)]) 41 s (bg4 n last [] I) := by
  have hr : ∀ h, h < 40 → rnm [(40, none)] h = some h := fun h hh => by
    have b1 : Nat.beq 40 h = false := beq_ne (by omega)
    simp only [rnm, b1, cond_false]
  refine ⟨⟨rfl, rfl, h0⟩, ⟨fun j hj => ?_, rfl, ?_⟩, ⟨trivial, rfl, h2⟩, ⟨rfl, rfl, rfl⟩, trivial⟩
  · show (Nat.ble (j % 36 + 3 + 1) 41 && (rnm [(40, none)] (j % 36 + 3)).isSome) = true
    rw [Nat.ble_eq_true_of_le (by omega), hr _ (by omega)]; rfl
  · show s.get 1 = some (.fn n fun j => (AV.ptr (j % 36 + 3) 0).ren (rnm [(40, none)]))
    rw [h1]
    unfold mrC
    congr 2
    funext j
    simp only [AV.ren, hr (j % 36 + 3) (by omega)]
theorem rn40 {t h : Nat} (hh : h < 40) : rnm [(40, some t)] h = some h := by
  have b1 : Nat.beq 40 h = false := beq_ne (by omega)
  simp only [rnm, b1, cond_false]
set_option maxRecDepth 20000 in
set_option maxHeartbeats 1000000 in
theorem Begin_tr (X : List Pl) (last : Int) (I : Img) (hX : X.length ≤ 36) (hp : ∀ x ∈ X, 1 ≤ x.p.n ∧ x.p.n ≤ 64) : Tr Try.prog 75 [.ptr 0 0, .ptr 2 0] ⟨40, im3 X.length last .nils I ++ famL 100 0 X⟩ fun v s => v = .tup [] ∧
    s = ⟨41, bg4 X.length (bgL (X.map Pl.older) I last X.length) (bgF (X.map Pl.older) I last X.length) I ++ famL 100 0 (bgX (X.map Pl.older) I last X.length)⟩ := by
  refine Tr.norm (K := fun v s => v = .tup [] ∧ ∃ t, 40 ≤ t ∧ s.get 0 = some (msC X.length (bgL (X.map Pl.older) I last X.length) (.sl 3 t 0 (bgF (X.map Pl.older) I last X.length).length)) ∧ s.get 1 = some (mrC X.length) ∧ s.get 2 = some (imC I) ∧ s.get t = some (.obj (frsA (bgF (X.map Pl.older) I last X.length))) ∧ ∀ j (h : j < (bgX (X.map Pl.older) I last X.length).length), s.get (j + 3) = some (plC (bgX (X.map Pl.older) I last X.length)[j])) ?_ ?_
  · refine trF g75 b75 c75 ?_
    conv => whnf
    refine loopI (α := {i : Nat // i ≤ X.length}) (fun i => [(0, .ptr 0 0), (1, .ptr 2 0), (13, .sl 1 1 0 X.length), (14, .int .i64 X.length), (15, .int .i64 i.1)]) (fun i => famS (upTo Pl.older X i.1) i.1 (im3 X.length last .nils I)) (fun i => X.length - i.1) ⟨0, Nat.zero_le _⟩ ?_ fun ⟨i, hi⟩ => ?_
    · refine famNext rfl (by rw [upTo_len]; exact hX) ⟨⟨rfl, rfl⟩, ⟨rfl, rfl⟩, ⟨rfl, rfl⟩, ⟨rfl, rfl⟩, ⟨rfl, rfl⟩, trivial⟩ (im3Sub (.inl rfl) hX rfl rfl rfl) rfl (im3_low _ _ _ _) fun j hj => ?_
      have hj' : j < X.length := by rw [upTo_len] at hj; exact hj
      rw [upTo_get, if_neg (by show ¬ j < 0; omega)]
      exact fam0_get hj' rfl hX
    · conv => whnf
      by_cases hlt : i < X.length
      · refine condY (by simp; omega) ?_
        conv => whnf
        refine condT (by simp; omega) ?_
        conv => whnf
        rw [mrC_ld hX hlt]
        conv => whnf
        have hxi : (upTo Pl.older X i)[i]? = some X[i] := by
          rw [List.getElem?_eq_getElem (by rw [upTo_len]; exact hlt), upTo_get, if_neg (by omega)]
        generalize hx : X[i] = x at *
        rw [ld_at (c := plC x)]
        rotate_left
        · rfl
        · (first | exact get_eq | exact (get_ne (by omega)).trans get_eq | exact (get_ne (by omega)).trans ((get_ne (by omega)).trans get_eq) | exact (get_ne (by omega)).trans ((get_ne (by omega)).trans ((get_ne (by omega)).trans get_eq)) | exact getP_of get_eq | exact getP_of ((get_ne (by omega)).trans get_eq) | exact getP_of ((get_ne (by omega)).trans ((get_ne (by omega)).trans get_eq)) | exact famT_get hxi | exact getP_of (famT_get hxi))
        conv => whnf
        rw [st_at (c := plC x) (c' := plC { x with ag := IntKind.i64.wrap (x.ag + 1) })]
        rotate_left
        · (first | exact get_eq | exact (get_ne (by omega)).trans get_eq | exact (get_ne (by omega)).trans ((get_ne (by omega)).trans get_eq) | exact (get_ne (by omega)).trans ((get_ne (by omega)).trans ((get_ne (by omega)).trans get_eq)) | exact getP_of get_eq | exact getP_of ((get_ne (by omega)).trans get_eq) | exact getP_of ((get_ne (by omega)).trans ((get_ne (by omega)).trans get_eq)) | exact famT_get hxi | exact getP_of (famT_get hxi))
        · rfl
        · rfl
        · exact fun _ _ _ => nofun
        conv => whnf
        rw [ld_at (c := plC { x with ag := IntKind.i64.wrap (x.ag + 1) })]
        rotate_left
        · rfl
        · (first | exact get_eq | exact (get_ne (by omega)).trans get_eq | exact (get_ne (by omega)).trans ((get_ne (by omega)).trans get_eq) | exact (get_ne (by omega)).trans ((get_ne (by omega)).trans ((get_ne (by omega)).trans get_eq)) | exact getP_of get_eq | exact getP_of ((get_ne (by omega)).trans get_eq) | exact getP_of ((get_ne (by omega)).trans ((get_ne (by omega)).trans get_eq)) | exact famT_get hxi | exact getP_of (famT_get hxi))
        conv => whnf
        refine condF (fun h0 => ?_) (fun h0 => ?_)
        · have h0' : ¬ x.si ≥ 0 := by simpa using h0
          have ht : x.older = { x with ag := IntKind.i64.wrap (x.ag + 1) } := by unfold Pl.older; rw [if_neg h0']
          conv => whnf
          refine ⟨⟨i + 1, hlt⟩, famNext rfl (by rw [upTo_len]; exact hX) ⟨⟨rfl, rfl⟩, ⟨rfl, rfl⟩, ⟨rfl, rfl⟩, ⟨rfl, rfl⟩, ⟨?_, rfl⟩, trivial⟩ (im3Sub (.inl rfl) hX rfl rfl rfl) rfl (im3_low _ _ _ _) (upStep (base := im3 X.length last .nils I) hlt hx (fun _ _ => rfl) ?_ fun j hj => ?_), by show X.length - (i + 1) < X.length - i; omega⟩
          · show AV.int .i64 (IntKind.i64.wrap ((i : Int) + 1)) = AV.int .i64 ((i + 1 : Nat) : Int)
            rw [s64 (by omega)]
          · rw [ht]; exact get_eq
          · exact get_ne (by omega)
        · have h0' : x.si ≥ 0 := by simpa using h0
          have ht : x.older = { x with ag := IntKind.i64.wrap (x.ag + 1), si := IntKind.i64.wrap (x.si + 1) } := by unfold Pl.older; rw [if_pos h0']
          conv => whnf
          rw [ld_at (c := plC { x with ag := IntKind.i64.wrap (x.ag + 1) })]
          rotate_left
          · rfl
          · (first | exact get_eq | exact (get_ne (by omega)).trans get_eq | exact (get_ne (by omega)).trans ((get_ne (by omega)).trans get_eq) | exact (get_ne (by omega)).trans ((get_ne (by omega)).trans ((get_ne (by omega)).trans get_eq)) | exact getP_of get_eq | exact getP_of ((get_ne (by omega)).trans get_eq) | exact getP_of ((get_ne (by omega)).trans ((get_ne (by omega)).trans get_eq)) | exact famT_get hxi | exact getP_of (famT_get hxi))
          conv => whnf
          rw [st_at (c := plC { x with ag := IntKind.i64.wrap (x.ag + 1) }) (c' := plC { x with ag := IntKind.i64.wrap (x.ag + 1), si := IntKind.i64.wrap (x.si + 1) })]
          rotate_left
          · (first | exact get_eq | exact (get_ne (by omega)).trans get_eq | exact (get_ne (by omega)).trans ((get_ne (by omega)).trans get_eq) | exact (get_ne (by omega)).trans ((get_ne (by omega)).trans ((get_ne (by omega)).trans get_eq)) | exact getP_of get_eq | exact getP_of ((get_ne (by omega)).trans get_eq) | exact getP_of ((get_ne (by omega)).trans ((get_ne (by omega)).trans get_eq)) | exact famT_get hxi | exact getP_of (famT_get hxi))
          · rfl
          · rfl
          · exact fun _ _ _ => nofun
          conv => whnf
          refine ⟨⟨i + 1, hlt⟩, famNext rfl (by rw [upTo_len]; exact hX) ⟨⟨rfl, rfl⟩, ⟨rfl, rfl⟩, ⟨rfl, rfl⟩, ⟨rfl, rfl⟩, ⟨?_, rfl⟩, trivial⟩ (im3Sub (.inl rfl) hX rfl rfl rfl) rfl (im3_low _ _ _ _) (upStep (base := im3 X.length last .nils I) hlt hx (fun _ _ => rfl) ?_ fun j hj => ?_), by show X.length - (i + 1) < X.length - i; omega⟩
          · show AV.int .i64 (IntKind.i64.wrap ((i : Int) + 1)) = AV.int .i64 ((i + 1 : Nat) : Int)
            rw [s64 (by omega)]
          · rw [ht]; exact get_eq
          · exact (get_ne (by omega)).trans (get_ne (by omega))
      · obtain rfl : i = X.length := by omega
        refine condN (by simp) ?_
        conv => whnf
        have hup : upTo Pl.older X X.length = X.map Pl.older := upTo_all _ _
        rw [hup]
        have hXm : (X.map Pl.older).length = X.length := List.length_map _
        have hpm : ∀ x ∈ X.map Pl.older, 1 ≤ x.p.n ∧ x.p.n ≤ 64 := fun x hx => by
          obtain ⟨y, hy, rfl⟩ := List.mem_map.mp hx
          exact hp y hy
        generalize X.map Pl.older = Y at *
        refine loopI (α := {i : Nat // i ≤ X.length}) (fun i => [(0, .ptr 0 0), (1, .ptr 2 0), (42, .sl 1 1 0 X.length), (43, .int .i64 X.length), (44, .int .i64 i.1)]) (fun i => famT 41 (bgX Y I last i.1) i.1 (bg4 X.length (bgL Y I last i.1) (bgF Y I last i.1) I)) (fun i => X.length - i.1) ⟨0, Nat.zero_le _⟩ ?_ fun ⟨i, hi⟩ => ?_
        · refine famNextN (i := 0) [(40, none)] (by decide) rfl (fun h h1 h2 => ?_) rfl (by omega) (by rw [bgX_len, hXm]; exact hX) ⟨⟨rfl, rfl⟩, ⟨rfl, rfl⟩, ⟨rfl, rfl⟩, ⟨rfl, rfl⟩, ⟨rfl, rfl⟩, trivial⟩ (bg4Sub0 hX rfl rfl rfl) rfl (fun h hm => ?_) fun j hj => ?_
          · have b1 : Nat.beq 40 h = false := beq_ne (by omega)
            simp only [rnm, b1, cond_false]
          · rw [memN_iff] at hm
            have hm : h ∈ [0, 1, 2] := hm
            simp at hm
            omega
          · have hj' : j < Y.length := hj
            exact famS_ne (X := Y) (i := X.length) (base := im3 X.length last .nils I) (fun _ _ => rfl) hj' (by omega)
        · conv => whnf
          by_cases hlt : i < X.length
          · refine condY (by simp; omega) ?_
            conv => whnf
            refine condT (by simp; omega) ?_
            conv => whnf
            rw [mrC_ld hX hlt]
            conv => whnf
            have hiY : i < Y.length := by omega
            have hYi : Y[i]? = some Y[i] := List.getElem?_eq_getElem hiY
            have hxi : (bgX Y I last i)[i]? = some Y[i] := (bgX_ge Y I last i i (Nat.le_refl _)).trans hYi
            have hxp := hpm Y[i] (List.getElem_mem hiY)
            have hZ : (bgX Y I last i).length = X.length := by rw [bgX_len, hXm]
            have hF : (bgF Y I last i).length ≤ 36 := Nat.le_trans (bgF_le Y I last i) (by omega)
            generalize hx : Y[i] = x at *
            rw [ld_at (c := plC x)]
            rotate_left
            · rfl
            · (first | exact get_eq | exact (get_ne (by omega)).trans get_eq | exact (get_ne (by omega)).trans ((get_ne (by omega)).trans get_eq) | exact (get_ne (by omega)).trans ((get_ne (by omega)).trans ((get_ne (by omega)).trans get_eq)) | exact getP_of get_eq | exact getP_of ((get_ne (by omega)).trans get_eq) | exact getP_of ((get_ne (by omega)).trans ((get_ne (by omega)).trans get_eq)) | exact famT_get hxi | exact getP_of (famT_get hxi))
            conv => whnf
            refine condF (fun hw => ?_) (fun hw => ?_)
            · have hw : x.w = false := hw
              conv => whnf
              rw [ld_at (c := plC x)]
              rotate_left
              · rfl
              · (first | exact get_eq | exact (get_ne (by omega)).trans get_eq | exact (get_ne (by omega)).trans ((get_ne (by omega)).trans get_eq) | exact (get_ne (by omega)).trans ((get_ne (by omega)).trans ((get_ne (by omega)).trans get_eq)) | exact getP_of get_eq | exact getP_of ((get_ne (by omega)).trans get_eq) | exact getP_of ((get_ne (by omega)).trans ((get_ne (by omega)).trans get_eq)) | exact famT_get hxi | exact getP_of (famT_get hxi))
              conv => whnf
              refine condF (fun hs => ?_) (fun hs => ?_)
              · have hd : x.due = true := by unfold Pl.due; rw [hw, show decide (x.si ≥ 0) = false from hs]; rfl
                conv => whnf
                have hL : bgL Y I last i = bgL Y I last i := rfl
                refine askCall (h := i + 3) (h' := 2) (I := I) (x := x) hxp (by omega) (famT_get hxi) (by rfl) ?_
                rw [rqA_ask]
                conv => whnf
                rw [st_agg (c := plC x) (c' := plC { x with qf := (askQ I x).f, qa := (askQ I x).a, qn := (askQ I x).n, qb := (askQ I x).b, qr := (askQ I x).r })]
                rotate_left
                · exact get_eq
                · rfl
                conv => whnf
                refine trF g132 b132 c132 ?_
                conv => whnf
                rw [st_at (c := plC { x with qf := (askQ I x).f, qa := (askQ I x).a, qn := (askQ I x).n, qb := (askQ I x).b, qr := (askQ I x).r }) (c' := plC { x with qf := (askQ I x).f, qa := (askQ I x).a, qn := (askQ I x).n, qb := (askQ I x).b, qr := (askQ I x).r, id := IntKind.u16.wrap (IntKind.u32.wrap (bgL Y I last i + 1)) })]
                rotate_left
                · (first | exact get_eq | exact (get_ne (by omega)).trans get_eq | exact (get_ne (by omega)).trans ((get_ne (by omega)).trans get_eq) | exact (get_ne (by omega)).trans ((get_ne (by omega)).trans ((get_ne (by omega)).trans get_eq)) | exact getP_of get_eq | exact getP_of ((get_ne (by omega)).trans get_eq) | exact getP_of ((get_ne (by omega)).trans ((get_ne (by omega)).trans get_eq)) | exact famT_get hxi | exact getP_of (famT_get hxi))
                · rfl
                · rfl
                · exact fun _ _ _ => nofun
                conv => whnf
                rw [ld_at (c := plC { x with qf := (askQ I x).f, qa := (askQ I x).a, qn := (askQ I x).n, qb := (askQ I x).b, qr := (askQ I x).r, id := IntKind.u16.wrap (IntKind.u32.wrap (bgL Y I last i + 1)) })]
                rotate_left
                · rfl
                · (first | exact get_eq | exact (get_ne (by omega)).trans get_eq | exact (get_ne (by omega)).trans ((get_ne (by omega)).trans get_eq) | exact (get_ne (by omega)).trans ((get_ne (by omega)).trans ((get_ne (by omega)).trans get_eq)) | exact getP_of get_eq | exact getP_of ((get_ne (by omega)).trans get_eq) | exact getP_of ((get_ne (by omega)).trans ((get_ne (by omega)).trans get_eq)) | exact famT_get hxi | exact getP_of (famT_get hxi))
                conv => whnf
                rw [st_at (c := plC { x with qf := (askQ I x).f, qa := (askQ I x).a, qn := (askQ I x).n, qb := (askQ I x).b, qr := (askQ I x).r, id := IntKind.u16.wrap (IntKind.u32.wrap (bgL Y I last i + 1)) }) (c' := plC { x with qf := (askQ I x).f, qa := (askQ I x).a, qn := (askQ I x).n, qb := (askQ I x).b, qr := (askQ I x).r, id := IntKind.u16.wrap (IntKind.u32.wrap (bgL Y I last i + 1)), w := true })]
                rotate_left
                · (first | exact get_eq | exact (get_ne (by omega)).trans get_eq | exact (get_ne (by omega)).trans ((get_ne (by omega)).trans get_eq) | exact (get_ne (by omega)).trans ((get_ne (by omega)).trans ((get_ne (by omega)).trans get_eq)) | exact getP_of get_eq | exact getP_of ((get_ne (by omega)).trans get_eq) | exact getP_of ((get_ne (by omega)).trans ((get_ne (by omega)).trans get_eq)) | exact famT_get hxi | exact getP_of (famT_get hxi))
                · rfl
                · rfl
                · exact fun _ _ _ => nofun
                conv => whnf
                rw [st_at (c := plC { x with qf := (askQ I x).f, qa := (askQ I x).a, qn := (askQ I x).n, qb := (askQ I x).b, qr := (askQ I x).r, id := IntKind.u16.wrap (IntKind.u32.wrap (bgL Y I last i + 1)), w := true }) (c' := plC { x with qf := (askQ I x).f, qa := (askQ I x).a, qn := (askQ I x).n, qb := (askQ I x).b, qr := (askQ I x).r, id := IntKind.u16.wrap (IntKind.u32.wrap (bgL Y I last i + 1)), w := true, le := x.p.t })]
                rotate_left
                · (first | exact get_eq | exact (get_ne (by omega)).trans get_eq | exact (get_ne (by omega)).trans ((get_ne (by omega)).trans get_eq) | exact (get_ne (by omega)).trans ((get_ne (by omega)).trans ((get_ne (by omega)).trans get_eq)) | exact getP_of get_eq | exact getP_of ((get_ne (by omega)).trans get_eq) | exact getP_of ((get_ne (by omega)).trans ((get_ne (by omega)).trans get_eq)) | exact famT_get hxi | exact getP_of (famT_get hxi))
                · rfl
                · rfl
                · exact fun _ _ _ => nofun
                conv => whnf
                rw [st_at (c := plC { x with qf := (askQ I x).f, qa := (askQ I x).a, qn := (askQ I x).n, qb := (askQ I x).b, qr := (askQ I x).r, id := IntKind.u16.wrap (IntKind.u32.wrap (bgL Y I last i + 1)), w := true, le := x.p.t }) (c' := plC { x with qf := (askQ I x).f, qa := (askQ I x).a, qn := (askQ I x).n, qb := (askQ I x).b, qr := (askQ I x).r, id := IntKind.u16.wrap (IntKind.u32.wrap (bgL Y I last i + 1)), w := true, le := x.p.t, si := 0 })]
                rotate_left
                · (first | exact get_eq | exact (get_ne (by omega)).trans get_eq | exact (get_ne (by omega)).trans ((get_ne (by omega)).trans get_eq) | exact (get_ne (by omega)).trans ((get_ne (by omega)).trans ((get_ne (by omega)).trans get_eq)) | exact getP_of get_eq | exact getP_of ((get_ne (by omega)).trans get_eq) | exact getP_of ((get_ne (by omega)).trans ((get_ne (by omega)).trans get_eq)) | exact famT_get hxi | exact getP_of (famT_get hxi))
                · rfl
                · rfl
                · exact fun _ _ _ => nofun
                conv => whnf
                rw [ld_at (c := plC { x with qf := (askQ I x).f, qa := (askQ I x).a, qn := (askQ I x).n, qb := (askQ I x).b, qr := (askQ I x).r, id := IntKind.u16.wrap (IntKind.u32.wrap (bgL Y I last i + 1)), w := true, le := x.p.t, si := 0 })]
                rotate_left
                · rfl
                · (first | exact get_eq | exact (get_ne (by omega)).trans get_eq | exact (get_ne (by omega)).trans ((get_ne (by omega)).trans get_eq) | exact (get_ne (by omega)).trans ((get_ne (by omega)).trans ((get_ne (by omega)).trans get_eq)) | exact getP_of get_eq | exact getP_of ((get_ne (by omega)).trans get_eq) | exact getP_of ((get_ne (by omega)).trans ((get_ne (by omega)).trans get_eq)) | exact famT_get hxi | exact getP_of (famT_get hxi))
                conv => whnf
                refine Ev.call (Request_ev _ _ _ _ _ _ (ask_n I x).1 (ask_n I x).2 (Nat.le_trans (ask_b I x hxp.2) (by decide)) (Nat.le_trans (ask_r I x hxp.2) (by decide))) ?_
                conv => whnf
                rw [ld_at (c := plC { x with qf := (askQ I x).f, qa := (askQ I x).a, qn := (askQ I x).n, qb := (askQ I x).b, qr := (askQ I x).r, id := IntKind.u16.wrap (IntKind.u32.wrap (bgL Y I last i + 1)), w := true, le := x.p.t, si := 0 })]
                rotate_left
                · rfl
                · (first | exact get_eq | exact (get_ne (by omega)).trans get_eq | exact (get_ne (by omega)).trans ((get_ne (by omega)).trans get_eq) | exact (get_ne (by omega)).trans ((get_ne (by omega)).trans ((get_ne (by omega)).trans get_eq)) | exact getP_of get_eq | exact getP_of ((get_ne (by omega)).trans get_eq) | exact getP_of ((get_ne (by omega)).trans ((get_ne (by omega)).trans get_eq)) | exact famT_get hxi | exact getP_of (famT_get hxi))
                conv => whnf
                rw [ld_at (c := plC { x with qf := (askQ I x).f, qa := (askQ I x).a, qn := (askQ I x).n, qb := (askQ I x).b, qr := (askQ I x).r, id := IntKind.u16.wrap (IntKind.u32.wrap (bgL Y I last i + 1)), w := true, le := x.p.t, si := 0 })]
                rotate_left
                · rfl
                · (first | exact get_eq | exact (get_ne (by omega)).trans get_eq | exact (get_ne (by omega)).trans ((get_ne (by omega)).trans get_eq) | exact (get_ne (by omega)).trans ((get_ne (by omega)).trans ((get_ne (by omega)).trans get_eq)) | exact getP_of get_eq | exact getP_of ((get_ne (by omega)).trans get_eq) | exact getP_of ((get_ne (by omega)).trans ((get_ne (by omega)).trans get_eq)) | exact famT_get hxi | exact getP_of (famT_get hxi))
                conv => whnf
                rw [app_at (h := 40) (h2 := 41) (fs := bgF Y I last i) (f := x.sends I (IntKind.u32.wrap (bgL Y I last i + 1)))]
                rotate_left
                · rfl
                · rfl
                · show Mem.get ((41, _) :: (i + 3, _) :: (i + 3, _) :: (i + 3, _) :: (i + 3, _) :: (0, _) :: (i + 3, _) :: (i + 3, _) :: (2, _) :: (i + 3, _) :: (2, _) :: (i + 3, _) :: _) 40 = _
                  rw [get_ne (by omega), get_ne (by omega), get_ne (by omega), get_ne (by omega), get_ne (by omega), get_ne (by omega), get_ne (by omega), get_ne (by omega), get_ne (by omega), get_ne (by omega), get_ne (by omega), get_ne (by omega)]
                  rfl
                · rfl
                · omega
                conv => whnf
                obtain ⟨hbX, hbL, hbF⟩ := bg_some (I := I) (last := last) hYi hd
                refine ⟨⟨i + 1, hlt⟩, famNextN (i := i + 1) [(40, some 42)] (by decide) rfl (fun h _ h2 => rn40 h2) rfl (by omega) (by rw [bgX_len, hXm]; exact hX) ⟨⟨rfl, rfl⟩, ⟨rfl, rfl⟩, ⟨rfl, rfl⟩, ⟨rfl, rfl⟩, ⟨?_, rfl⟩, trivial⟩ (bg4Sub (fun h hh => rn40 hh) rfl hX ?_ ?_ ?_ ?_) (bg4_low _ _ _ _ (fun h hh => rn40 hh) rfl (by omega)).1 (bg4_low _ _ _ _ (fun h hh => rn40 hh) rfl (by omega)).2 (bgStep hYi hd ?_ fun j hj hji => ?_), by show X.length - (i + 1) < X.length - i; omega⟩
                · show AV.int .i64 (IntKind.i64.wrap ((i : Int) + 1)) = AV.int .i64 ((i + 1 : Nat) : Int)
                  rw [s64 (by omega)]
                · show _ = some (msC X.length (bgL Y I last (i + 1)) (.sl 3 42 0 (bgF Y I last (i + 1)).length))
                  rw [hbL, hbF, List.length_append]
                  rfl
                · rfl
                · rfl
                · show _ = some (Chunk.obj (frsA (bgF Y I last (i + 1))))
                  rw [hbF]
                  rfl
                · show Mem.get ((0, _) :: (42, _) :: (40, _) :: (41, _) :: (i + 3, _) :: _) (i + 3) = _
                  rw [get_ne (by omega), get_ne (by omega), get_ne (by omega), get_ne (by omega)]
                  exact get_eq
                · show Mem.get ((0, _) :: (42, _) :: (40, _) :: (41, _) :: (i + 3, _) :: (i + 3, _) :: (i + 3, _) :: (i + 3, _) :: (0, _) :: (i + 3, _) :: (i + 3, _) :: (2, _) :: (i + 3, _) :: (2, _) :: _) (j + 3) = _
                  have hZj : j < X.length := by rw [← hZ]; exact hj
                  rw [get_ne (by omega), get_ne (by omega), get_ne (by omega), get_ne (by omega), get_ne (by omega), get_ne (by omega), get_ne (by omega), get_ne (by omega), get_ne (by omega), get_ne (by omega), get_ne (by omega), get_ne (by omega), get_ne (by omega), get_ne (by omega)]
                  exact famT_ne (N := 41) (X := bgX Y I last i) (i := i) (base := bg4 X.length (bgL Y I last i) (bgF Y I last i) I) (fun r j hj => bg4_skip _ _ _ _ r j hj) hj (by rw [hZ]; exact hX) hji
              · conv => whnf
                rw [ld_at (c := plC x)]
                rotate_left
                · rfl
                · (first | exact get_eq | exact (get_ne (by omega)).trans get_eq | exact (get_ne (by omega)).trans ((get_ne (by omega)).trans get_eq) | exact (get_ne (by omega)).trans ((get_ne (by omega)).trans ((get_ne (by omega)).trans get_eq)) | exact getP_of get_eq | exact getP_of ((get_ne (by omega)).trans get_eq) | exact getP_of ((get_ne (by omega)).trans ((get_ne (by omega)).trans get_eq)) | exact famT_get hxi | exact getP_of (famT_get hxi))
                conv => whnf
                rw [ld_at (c := plC x)]
                rotate_left
                · rfl
                · (first | exact get_eq | exact (get_ne (by omega)).trans get_eq | exact (get_ne (by omega)).trans ((get_ne (by omega)).trans get_eq) | exact (get_ne (by omega)).trans ((get_ne (by omega)).trans ((get_ne (by omega)).trans get_eq)) | exact getP_of get_eq | exact getP_of ((get_ne (by omega)).trans get_eq) | exact getP_of ((get_ne (by omega)).trans ((get_ne (by omega)).trans get_eq)) | exact famT_get hxi | exact getP_of (famT_get hxi))
                conv => whnf
                refine condF (fun he => ?_) (fun he => ?_)
                · have hd : x.due = true := by unfold Pl.due; rw [hw, show decide (x.si < x.p.e) = false from he, Bool.and_false]; rfl
                  conv => whnf
                  have hL : bgL Y I last i = bgL Y I last i := rfl
                  refine askCall (h := i + 3) (h' := 2) (I := I) (x := x) hxp (by omega) (famT_get hxi) (by rfl) ?_
                  rw [rqA_ask]
                  conv => whnf
                  rw [st_agg (c := plC x) (c' := plC { x with qf := (askQ I x).f, qa := (askQ I x).a, qn := (askQ I x).n, qb := (askQ I x).b, qr := (askQ I x).r })]
                  rotate_left
                  · exact get_eq
                  · rfl
                  conv => whnf
                  refine trF g132 b132 c132 ?_
                  conv => whnf
                  rw [st_at (c := plC { x with qf := (askQ I x).f, qa := (askQ I x).a, qn := (askQ I x).n, qb := (askQ I x).b, qr := (askQ I x).r }) (c' := plC { x with qf := (askQ I x).f, qa := (askQ I x).a, qn := (askQ I x).n, qb := (askQ I x).b, qr := (askQ I x).r, id := IntKind.u16.wrap (IntKind.u32.wrap (bgL Y I last i + 1)) })]
                  rotate_left
                  · (first | exact get_eq | exact (get_ne (by omega)).trans get_eq | exact (get_ne (by omega)).trans ((get_ne (by omega)).trans get_eq) | exact (get_ne (by omega)).trans ((get_ne (by omega)).trans ((get_ne (by omega)).trans get_eq)) | exact getP_of get_eq | exact getP_of ((get_ne (by omega)).trans get_eq) | exact getP_of ((get_ne (by omega)).trans ((get_ne (by omega)).trans get_eq)) | exact famT_get hxi | exact getP_of (famT_get hxi))
                  · rfl
                  · rfl
                  · exact fun _ _ _ => nofun
                  conv => whnf
                  rw [ld_at (c := plC { x with qf := (askQ I x).f, qa := (askQ I x).a, qn := (askQ I x).n, qb := (askQ I x).b, qr := (askQ I x).r, id := IntKind.u16.wrap (IntKind.u32.wrap (bgL Y I last i + 1)) })]
                  rotate_left
                  · rfl
                  · (first | exact get_eq | exact (get_ne (by omega)).trans get_eq | exact (get_ne (by omega)).trans ((get_ne (by omega)).trans get_eq) | exact (get_ne (by omega)).trans ((get_ne (by omega)).trans ((get_ne (by omega)).trans get_eq)) | exact getP_of get_eq | exact getP_of ((get_ne (by omega)).trans get_eq) | exact getP_of ((get_ne (by omega)).trans ((get_ne (by omega)).trans get_eq)) | exact famT_get hxi | exact getP_of (famT_get hxi))
                  conv => whnf
                  rw [st_at (c := plC { x with qf := (askQ I x).f, qa := (askQ I x).a, qn := (askQ I x).n, qb := (askQ I x).b, qr := (askQ I x).r, id := IntKind.u16.wrap (IntKind.u32.wrap (bgL Y I last i + 1)) }) (c' := plC { x with qf := (askQ I x).f, qa := (askQ I x).a, qn := (askQ I x).n, qb := (askQ I x).b, qr := (askQ I x).r, id := IntKind.u16.wrap (IntKind.u32.wrap (bgL Y I last i + 1)), w := true })]
                  rotate_left
                  · (first | exact get_eq | exact (get_ne (by omega)).trans get_eq | exact (get_ne (by omega)).trans ((get_ne (by omega)).trans get_eq) | exact (get_ne (by omega)).trans ((get_ne (by omega)).trans ((get_ne (by omega)).trans get_eq)) | exact getP_of get_eq | exact getP_of ((get_ne (by omega)).trans get_eq) | exact getP_of ((get_ne (by omega)).trans ((get_ne (by omega)).trans get_eq)) | exact famT_get hxi | exact getP_of (famT_get hxi))
                  · rfl
                  · rfl
                  · exact fun _ _ _ => nofun
                  conv => whnf
                  rw [st_at (c := plC { x with qf := (askQ I x).f, qa := (askQ I x).a, qn := (askQ I x).n, qb := (askQ I x).b, qr := (askQ I x).r, id := IntKind.u16.wrap (IntKind.u32.wrap (bgL Y I last i + 1)), w := true }) (c' := plC { x with qf := (askQ I x).f, qa := (askQ I x).a, qn := (askQ I x).n, qb := (askQ I x).b, qr := (askQ I x).r, id := IntKind.u16.wrap (IntKind.u32.wrap (bgL Y I last i + 1)), w := true, le := x.p.t })]
                  rotate_left
                  · (first | exact get_eq | exact (get_ne (by omega)).trans get_eq | exact (get_ne (by omega)).trans ((get_ne (by omega)).trans get_eq) | exact (get_ne (by omega)).trans ((get_ne (by omega)).trans ((get_ne (by omega)).trans get_eq)) | exact getP_of get_eq | exact getP_of ((get_ne (by omega)).trans get_eq) | exact getP_of ((get_ne (by omega)).trans ((get_ne (by omega)).trans get_eq)) | exact famT_get hxi | exact getP_of (famT_get hxi))
                  · rfl
                  · rfl
                  · exact fun _ _ _ => nofun
                  conv => whnf
                  rw [st_at (c := plC { x with qf := (askQ I x).f, qa := (askQ I x).a, qn := (askQ I x).n, qb := (askQ I x).b, qr := (askQ I x).r, id := IntKind.u16.wrap (IntKind.u32.wrap (bgL Y I last i + 1)), w := true, le := x.p.t }) (c' := plC { x with qf := (askQ I x).f, qa := (askQ I x).a, qn := (askQ I x).n, qb := (askQ I x).b, qr := (askQ I x).r, id := IntKind.u16.wrap (IntKind.u32.wrap (bgL Y I last i + 1)), w := true, le := x.p.t, si := 0 })]
                  rotate_left
                  · (first | exact get_eq | exact (get_ne (by omega)).trans get_eq | exact (get_ne (by omega)).trans ((get_ne (by omega)).trans get_eq) | exact (get_ne (by omega)).trans ((get_ne (by omega)).trans ((get_ne (by omega)).trans get_eq)) | exact getP_of get_eq | exact getP_of ((get_ne (by omega)).trans get_eq) | exact getP_of ((get_ne (by omega)).trans ((get_ne (by omega)).trans get_eq)) | exact famT_get hxi | exact getP_of (famT_get hxi))
                  · rfl
                  · rfl
                  · exact fun _ _ _ => nofun
                  conv => whnf
                  rw [ld_at (c := plC { x with qf := (askQ I x).f, qa := (askQ I x).a, qn := (askQ I x).n, qb := (askQ I x).b, qr := (askQ I x).r, id := IntKind.u16.wrap (IntKind.u32.wrap (bgL Y I last i + 1)), w := true, le := x.p.t, si := 0 })]
                  rotate_left
                  · rfl
                  · (first | exact get_eq | exact (get_ne (by omega)).trans get_eq | exact (get_ne (by omega)).trans ((get_ne (by omega)).trans get_eq) | exact (get_ne (by omega)).trans ((get_ne (by omega)).trans ((get_ne (by omega)).trans get_eq)) | exact getP_of get_eq | exact getP_of ((get_ne (by omega)).trans get_eq) | exact getP_of ((get_ne (by omega)).trans ((get_ne (by omega)).trans get_eq)) | exact famT_get hxi | exact getP_of (famT_get hxi))
                  conv => whnf
                  refine Ev.call (Request_ev _ _ _ _ _ _ (ask_n I x).1 (ask_n I x).2 (Nat.le_trans (ask_b I x hxp.2) (by decide)) (Nat.le_trans (ask_r I x hxp.2) (by decide))) ?_
                  conv => whnf
                  rw [ld_at (c := plC { x with qf := (askQ I x).f, qa := (askQ I x).a, qn := (askQ I x).n, qb := (askQ I x).b, qr := (askQ I x).r, id := IntKind.u16.wrap (IntKind.u32.wrap (bgL Y I last i + 1)), w := true, le := x.p.t, si := 0 })]
                  rotate_left
                  · rfl
                  · (first | exact get_eq | exact (get_ne (by omega)).trans get_eq | exact (get_ne (by omega)).trans ((get_ne (by omega)).trans get_eq) | exact (get_ne (by omega)).trans ((get_ne (by omega)).trans ((get_ne (by omega)).trans get_eq)) | exact getP_of get_eq | exact getP_of ((get_ne (by omega)).trans get_eq) | exact getP_of ((get_ne (by omega)).trans ((get_ne (by omega)).trans get_eq)) | exact famT_get hxi | exact getP_of (famT_get hxi))
                  conv => whnf
                  rw [ld_at (c := plC { x with qf := (askQ I x).f, qa := (askQ I x).a, qn := (askQ I x).n, qb := (askQ I x).b, qr := (askQ I x).r, id := IntKind.u16.wrap (IntKind.u32.wrap (bgL Y I last i + 1)), w := true, le := x.p.t, si := 0 })]
                  rotate_left
                  · rfl
                  · (first | exact get_eq | exact (get_ne (by omega)).trans get_eq | exact (get_ne (by omega)).trans ((get_ne (by omega)).trans get_eq) | exact (get_ne (by omega)).trans ((get_ne (by omega)).trans ((get_ne (by omega)).trans get_eq)) | exact getP_of get_eq | exact getP_of ((get_ne (by omega)).trans get_eq) | exact getP_of ((get_ne (by omega)).trans ((get_ne (by omega)).trans get_eq)) | exact famT_get hxi | exact getP_of (famT_get hxi))
                  conv => whnf
                  rw [app_at (h := 40) (h2 := 41) (fs := bgF Y I last i) (f := x.sends I (IntKind.u32.wrap (bgL Y I last i + 1)))]
                  rotate_left
                  · rfl
                  · rfl
                  · show Mem.get ((41, _) :: (i + 3, _) :: (i + 3, _) :: (i + 3, _) :: (i + 3, _) :: (0, _) :: (i + 3, _) :: (i + 3, _) :: (2, _) :: (i + 3, _) :: (2, _) :: (i + 3, _) :: _) 40 = _
                    rw [get_ne (by omega), get_ne (by omega), get_ne (by omega), get_ne (by omega), get_ne (by omega), get_ne (by omega), get_ne (by omega), get_ne (by omega), get_ne (by omega), get_ne (by omega), get_ne (by omega), get_ne (by omega)]
                    rfl
                  · rfl
                  · omega
                  conv => whnf
                  obtain ⟨hbX, hbL, hbF⟩ := bg_some (I := I) (last := last) hYi hd
                  refine ⟨⟨i + 1, hlt⟩, famNextN (i := i + 1) [(40, some 42)] (by decide) rfl (fun h _ h2 => rn40 h2) rfl (by omega) (by rw [bgX_len, hXm]; exact hX) ⟨⟨rfl, rfl⟩, ⟨rfl, rfl⟩, ⟨rfl, rfl⟩, ⟨rfl, rfl⟩, ⟨?_, rfl⟩, trivial⟩ (bg4Sub (fun h hh => rn40 hh) rfl hX ?_ ?_ ?_ ?_) (bg4_low _ _ _ _ (fun h hh => rn40 hh) rfl (by omega)).1 (bg4_low _ _ _ _ (fun h hh => rn40 hh) rfl (by omega)).2 (bgStep hYi hd ?_ fun j hj hji => ?_), by show X.length - (i + 1) < X.length - i; omega⟩
                  · show AV.int .i64 (IntKind.i64.wrap ((i : Int) + 1)) = AV.int .i64 ((i + 1 : Nat) : Int)
                    rw [s64 (by omega)]
                  · show _ = some (msC X.length (bgL Y I last (i + 1)) (.sl 3 42 0 (bgF Y I last (i + 1)).length))
                    rw [hbL, hbF, List.length_append]
                    rfl
                  · rfl
                  · rfl
                  · show _ = some (Chunk.obj (frsA (bgF Y I last (i + 1))))
                    rw [hbF]
                    rfl
                  · show Mem.get ((0, _) :: (42, _) :: (40, _) :: (41, _) :: (i + 3, _) :: _) (i + 3) = _
                    rw [get_ne (by omega), get_ne (by omega), get_ne (by omega), get_ne (by omega)]
                    exact get_eq
                  · show Mem.get ((0, _) :: (42, _) :: (40, _) :: (41, _) :: (i + 3, _) :: (i + 3, _) :: (i + 3, _) :: (i + 3, _) :: (0, _) :: (i + 3, _) :: (i + 3, _) :: (2, _) :: (i + 3, _) :: (2, _) :: _) (j + 3) = _
                    have hZj : j < X.length := by rw [← hZ]; exact hj
                    rw [get_ne (by omega), get_ne (by omega), get_ne (by omega), get_ne (by omega), get_ne (by omega), get_ne (by omega), get_ne (by omega), get_ne (by omega), get_ne (by omega), get_ne (by omega), get_ne (by omega), get_ne (by omega), get_ne (by omega), get_ne (by omega)]
                    exact famT_ne (N := 41) (X := bgX Y I last i) (i := i) (base := bg4 X.length (bgL Y I last i) (bgF Y I last i) I) (fun r j hj => bg4_skip _ _ _ _ r j hj) hj (by rw [hZ]; exact hX) hji
                · have hd : x.due = false := by unfold Pl.due; rw [hw, show decide (x.si ≥ 0) = true from hs, show decide (x.si < x.p.e) = true from he]; rfl
                  conv => whnf
                  have hb := bg_no (I := I) (last := last) hYi hd
                  have hbX : bgX Y I last (i + 1) = bgX Y I last i := congrArg (fun p => p.1) hb
                  have hbL : bgL Y I last (i + 1) = bgL Y I last i := congrArg (fun p => p.2.1) hb
                  have hbF : bgF Y I last (i + 1) = bgF Y I last i := congrArg (fun p => p.2.2) hb
                  refine ⟨⟨i + 1, hlt⟩, ?_, by show X.length - (i + 1) < X.length - i; omega⟩
                  show SubW _ _ _ _ (famT 41 (bgX Y I last (i + 1)) (i + 1) (bg4 X.length (bgL Y I last (i + 1)) (bgF Y I last (i + 1)) I))
                  rw [hbX, hbL, hbF]
                  refine famNextN (i := i + 1) [(40, some 40)] (by decide) rfl (fun h _ h2 => rn40 h2) rfl (by omega) (by rw [hZ]; exact hX) ⟨⟨rfl, rfl⟩, ⟨rfl, rfl⟩, ⟨rfl, rfl⟩, ⟨rfl, rfl⟩, ⟨?_, rfl⟩, trivial⟩ (bg4Sub (fun h hh => rn40 hh) rfl hX ?_ ?_ ?_ ?_) (bg4_low _ _ _ _ (fun h hh => rn40 hh) rfl (by omega)).1 (bg4_low _ _ _ _ (fun h hh => rn40 hh) rfl (by omega)).2 ?_
                  · show AV.int .i64 (IntKind.i64.wrap ((i : Int) + 1)) = AV.int .i64 ((i + 1 : Nat) : Int)
                    rw [s64 (by omega)]
                  · rfl
                  · rfl
                  · rfl
                  · show Mem.get ((i + 3, _) :: _) 40 = _
                    rw [get_ne (by omega)]; rfl
                  · exact famT_all (N := 41) (X := bgX Y I last i) (i := i) (base := bg4 X.length (bgL Y I last i) (bgF Y I last i) I) (fun r j hj => bg4_skip _ _ _ _ r j hj) (by rw [hZ]; exact hX) (by omega)
            · have hw : x.w = true := hw
              have hd : x.due = false := by unfold Pl.due; rw [hw]; rfl
              conv => whnf
              have hb := bg_no (I := I) (last := last) hYi hd
              have hbX : bgX Y I last (i + 1) = bgX Y I last i := congrArg (fun p => p.1) hb
              have hbL : bgL Y I last (i + 1) = bgL Y I last i := congrArg (fun p => p.2.1) hb
              have hbF : bgF Y I last (i + 1) = bgF Y I last i := congrArg (fun p => p.2.2) hb
              refine ⟨⟨i + 1, hlt⟩, ?_, by show X.length - (i + 1) < X.length - i; omega⟩
              show SubW _ _ _ _ (famT 41 (bgX Y I last (i + 1)) (i + 1) (bg4 X.length (bgL Y I last (i + 1)) (bgF Y I last (i + 1)) I))
              rw [hbX, hbL, hbF]
              refine famNextN (i := i + 1) [(40, some 40)] (by decide) rfl (fun h _ h2 => rn40 h2) rfl (by omega) (by rw [hZ]; exact hX) ⟨⟨rfl, rfl⟩, ⟨rfl, rfl⟩, ⟨rfl, rfl⟩, ⟨rfl, rfl⟩, ⟨?_, rfl⟩, trivial⟩ (bg4Sub (fun h hh => rn40 hh) rfl hX ?_ ?_ ?_ ?_) (bg4_low _ _ _ _ (fun h hh => rn40 hh) rfl (by omega)).1 (bg4_low _ _ _ _ (fun h hh => rn40 hh) rfl (by omega)).2 ?_
              · show AV.int .i64 (IntKind.i64.wrap ((i : Int) + 1)) = AV.int .i64 ((i + 1 : Nat) : Int)
                rw [s64 (by omega)]
              · rfl
              · rfl
              · rfl
              · show Mem.get ((i + 3, _) :: _) 40 = _
                rw [get_ne (by omega)]; rfl
              · exact famT_all (N := 41) (X := bgX Y I last i) (i := i) (base := bg4 X.length (bgL Y I last i) (bgF Y I last i) I) (fun r j hj => bg4_skip _ _ _ _ r j hj) (by rw [hZ]; exact hX) (by omega)
          · obtain rfl : i = X.length := by omega
            refine condN (by simp) ?_
            conv => whnf
            refine ⟨rfl, 40, Nat.le_refl _, rfl, rfl, rfl, ?_, fun j hj => ?_⟩
            · show Mem.get ((X.length + 3, _) :: _) 40 = _
              rw [get_ne (by omega)]; rfl
            · exact famT_ne (N := 41) (X := bgX Y I last X.length) (i := X.length) (base := bg4 X.length (bgL Y I last X.length) (bgF Y I last X.length) I) (fun r j hj => bg4_skip _ _ _ _ r j hj) hj (by rw [bgX_len, hXm]; exact hX) (by rw [bgX_len] at hj; omega)
  · intro v s ⟨hv, t, ht, k0, k1, k2, k3, kf⟩
    refine ⟨.tup [], _, ?_, rfl, rfl⟩
    subst hv
    obtain ⟨l1, l2⟩ := bg4_low X.length (bgL (X.map Pl.older) I last X.length) (bgF (X.map Pl.older) I last X.length) I (ρ := [(40, some t)]) (t := t) (fun h hh => rn40 hh) rfl ht
    exact subFamN (pre := bg4 X.length (bgL (X.map Pl.older) I last X.length) (bgF (X.map Pl.older) I last X.length) I) (k := 100) [(40, some t)] (by decide) rfl rfl (by rw [bgX_len, List.length_map]; exact hX) (fun h _ h2 => rn40 h2) l1 (fun h hm => (l2 h hm).imp id .inl) ⟨⟨rfl, rfl⟩, trivial⟩ (bg4Sub (fun h hh => rn40 hh) rfl hX k0 k1 k2 k3) fun j hj _ => kf j hj
end Go.Proofs.Ytomodeliimnddaa
