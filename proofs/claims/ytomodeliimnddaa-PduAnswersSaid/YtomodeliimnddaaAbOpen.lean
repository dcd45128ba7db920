/- Contracts: bytes read as requests: pdu. -/
import Derived.Test.YtomodeliimnddaaAbReq2
import Derived.Test.YtomodeliimnddaaAbNums
import Derived.Test.YtomodeliimnddaaAbBits
set_option linter.unusedVariables false
set_option linter.unusedSimpArgs false
namespace Go.Ab
/-- a result, its rows as values -/
def FrzK (v2 v : AV) (s : St) : Prop := ∃ v1 s1, Frz v s v1 s1 ∧ Le v1 v2
theorem FrzK.le {v2 v : AV} {s : St} (h : Le v v2) : FrzK v2 v s := ⟨v, s, .refl _ _, h⟩
theorem FrzK.step {v2 v : AV} {s : St} (h : Nat) {c : Chunk} (hg : s.get h = some c) (ht : FrzK v2 (v.frz h c) (s.drop h)) : FrzK v2 v s := by
  obtain ⟨v1, s1, h1, h2⟩ := ht
  exact ⟨v1, s1, .step _ _ h c _ _ hg h1, h2⟩
theorem FrzK.ev {P : Program} {f : Nat} {args : List AV} {v : AV} (h0 : hokL 0 nor (v :: args) = true) (h : Tr P f args ⟨0, []⟩ (FrzK v)) : Ev P f args v := Ev.of h0 h
attribute [irreducible] FrzK
end Go.Ab
namespace Go.Proofs.Ytomodeliimnddaa
open Go.Ab
structure Rq where
  f : Int
  a : Int
  n : Int
  a2 : Int
  b : List Bool
  r : List Int
def rqA (q : Rq) : AV := reqA q.f q.a q.n q.a2 (.roB q.b) (.roI .u16 q.r)
def Rq.zero : Rq := ⟨0, 0, 0, 0, [], []⟩
def cutF (l : List Int) (k : Nat) : List Int := (l.drop k).take (l.length - k)
theorem cutF_eq (l : List Int) (k : Nat) : cutF l k = l.drop k := List.take_of_length_le (by simp)
def numAt (l : List Int) (i : Nat) : Int := num16 (l.getD i 0) (l.getD (i + 1) 0)
theorem number_ev (l : List Int) (hl : 2 ≤ l.length) : Ev Try.prog 151 [.roI .u8 l] (.int .u16 (numAt l 0)) := ⟨rfl, number_tr l hl⟩
theorem numbers_ev (l : List Int) (hl : l.length ≤ 100000) : Ev Try.prog 121 [.roI .u8 l] (.roI .u16 (numsN l (l.length / 2))) := Ev.row rfl (by rw [numsN_length]; exact numbers_tr l hl)
theorem bits_ev (l : List Int) (n : Int) (hl : l.length ≤ 100000) : Ev Try.prog 64 [.roI .u8 l, .int .i64 n] (.roB (bitsA l (bitsK n))) := by
  refine Ev.rowB rfl ?_
  rw [bitsA_length, ← bitsN_all]
  exact bits_tr l n hl
/- rung/pdu.opened -/
def a114 : ACode := (.seq (.reg [⟨(some 2), .alloc [(1, (.int .u8 0)), (3, (.int .u16 0)), (2, .nils)], none, false⟩, ⟨(some 3), .mov (.c (.bool false)), none, false⟩])
 (.seq (.seq (.reg [⟨(some 6), .mov (.t 0), none, false⟩, ⟨(some 7), .len false (.t 6), none, false⟩, ⟨(some 8), .bin .lss .other (.t 7) (.c (.int .i64 5)), none, false⟩])
 (.cond (.t 8) (.seq (.reg [⟨(some 9), .build [(.int .u8 0), (.int .u16 0), (.int .u16 0), (.int .u16 0), .nils, .nils] [], none, false⟩, ⟨none, .store 6 (.t 2) (.t 9), none, false⟩, ⟨(some 3), .mov (.c (.bool false)), none, false⟩])
 .ret)
 .skip))
 (.seq (.draw [⟨0, ⟨(some 10), .mov (.t 0), none, false⟩, false, [], []⟩, ⟨1, ⟨(some 11), .idx 1 none false (.t 10) (.c (.int .i64 0)), none, false⟩, false, [], []⟩, ⟨2, ⟨(some 12), .load false 1 (.t 11), none, false⟩, false, [], []⟩, ⟨3, ⟨(some 13), .mov (.t 0), none, false⟩, false, [], []⟩, ⟨4, ⟨(some 14), .slice (.sl 1) (.t 13) (some (.c (.int .i64 1))) none, none, false⟩, false, [], []⟩, ⟨7, ⟨(some 4), .alloc [(1, (.int .u8 0)), (3, (.int .u16 0)), (2, .nils)], none, false⟩, false, [], []⟩, ⟨5, ⟨(some 15), .call 151 [(.t 14)], none, false⟩, true, [], [(.t 11)]⟩, ⟨6, ⟨(some 16), .build [(.int .u8 0), (.int .u16 0), (.int .u16 0), (.int .u16 0), .nils, .nils] [(0, 1, (.t 12)), (1, 1, (.t 15))], none, false⟩, false, [], []⟩, ⟨8, ⟨none, .store 6 (.t 4) (.t 16), none, false⟩, true, [7], []⟩])
 (.seq (.reg [⟨(some 17), .mov (.t 0), none, false⟩, ⟨(some 18), .slice (.sl 1) (.t 17) (some (.c (.int .i64 3))) none, none, false⟩, ⟨(some 5), .mov (.t 18), none, false⟩])
 (.seq (.seq (.reg [⟨(some 19), .fld 0 1 false (.t 4), none, false⟩, ⟨(some 20), .load false 1 (.t 19), none, false⟩])
 (.block 0 (.seq (.seq (.reg [⟨(some 22), .bin .eql .other (.t 20) (.c (.int .u8 1)), none, false⟩, ⟨(some 21), .mov (.t 22), none, false⟩])
 (.cond (.t 21) .skip
 (.seq (.reg [⟨(some 23), .bin .eql .other (.t 20) (.c (.int .u8 2)), none, false⟩, ⟨(some 21), .mov (.t 23), none, false⟩])
 (.cond (.t 21) .skip
 (.seq (.reg [⟨(some 24), .bin .eql .other (.t 20) (.c (.int .u8 3)), none, false⟩, ⟨(some 21), .mov (.t 24), none, false⟩])
 (.cond (.t 21) .skip
 (.reg [⟨(some 25), .bin .eql .other (.t 20) (.c (.int .u8 4)), none, false⟩, ⟨(some 21), .mov (.t 25), none, false⟩])))))))
 (.cond (.t 21) (.reg [⟨(some 26), .mov (.t 5), none, false⟩, ⟨(some 27), .call 151 [(.t 26)], none, false⟩, ⟨(some 28), .fld 2 1 false (.t 4), none, false⟩, ⟨none, .store 1 (.t 28) (.t 27), none, false⟩])
 (.seq (.reg [⟨(some 30), .bin .eql .other (.t 20) (.c (.int .u8 5)), none, false⟩, ⟨(some 29), .mov (.t 30), none, false⟩])
 (.cond (.t 29) (.reg [⟨(some 31), .mov (.t 5), none, false⟩, ⟨(some 32), .call 151 [(.t 31)], none, false⟩, ⟨(some 33), .bin .eql .other (.t 32) (.c (.int .u16 65280)), none, false⟩, ⟨(some 34), .bslice 1 .bool [(.bool false)] [(0, 1, (.t 33))] 1, none, false⟩, ⟨(some 35), .fld 4 1 false (.t 4), none, false⟩, ⟨none, .store 1 (.t 35) (.t 34), none, false⟩])
 (.seq (.seq (.reg [⟨(some 37), .bin .eql .other (.t 20) (.c (.int .u8 6)), none, false⟩, ⟨(some 36), .mov (.t 37), none, false⟩])
 (.cond (.t 36) .skip
 (.reg [⟨(some 38), .bin .eql .other (.t 20) (.c (.int .u8 22)), none, false⟩, ⟨(some 36), .mov (.t 38), none, false⟩])))
 (.cond (.t 36) (.reg [⟨(some 39), .mov (.t 5), none, false⟩, ⟨(some 40), .call 121 [(.t 39)], none, false⟩, ⟨(some 41), .fld 5 1 false (.t 4), none, false⟩, ⟨none, .store 1 (.t 41) (.t 40), none, false⟩])
 (.seq (.reg [⟨(some 43), .bin .eql .other (.t 20) (.c (.int .u8 15)), none, false⟩, ⟨(some 42), .mov (.t 43), none, false⟩])
 (.cond (.t 42) (.seq (.seq (.reg [⟨(some 44), .mov (.t 5), none, false⟩, ⟨(some 45), .len false (.t 44), none, false⟩, ⟨(some 46), .bin .lss .other (.t 45) (.c (.int .i64 3)), none, false⟩])
 (.cond (.t 46) (.seq (.reg [⟨(some 47), .load true 6 (.t 4), none, false⟩, ⟨none, .store 6 (.t 2) (.t 47), none, false⟩, ⟨(some 3), .mov (.c (.bool false)), none, false⟩])
 .ret)
 .skip))
 (.draw [⟨0, ⟨(some 48), .mov (.t 5), none, false⟩, false, [], []⟩, ⟨1, ⟨(some 49), .slice (.sl 1) (.t 48) (some (.c (.int .i64 3))) none, none, false⟩, false, [], []⟩, ⟨2, ⟨(some 50), .mov (.t 5), none, false⟩, false, [], []⟩, ⟨3, ⟨(some 51), .call 151 [(.t 50)], none, false⟩, true, [], []⟩, ⟨4, ⟨(some 52), .conv (.int .i64) (.t 51), none, false⟩, false, [], []⟩, ⟨5, ⟨(some 53), .call 64 [(.t 49), (.t 52)], none, false⟩, true, [], []⟩, ⟨6, ⟨(some 54), .fld 4 1 false (.t 4), none, false⟩, false, [], []⟩, ⟨7, ⟨none, .store 1 (.t 54) (.t 53), none, false⟩, true, [], []⟩]))
 (.seq (.reg [⟨(some 56), .bin .eql .other (.t 20) (.c (.int .u8 16)), none, false⟩, ⟨(some 55), .mov (.t 56), none, false⟩])
 (.cond (.t 55) (.seq (.seq (.reg [⟨(some 57), .mov (.t 5), none, false⟩, ⟨(some 58), .len false (.t 57), none, false⟩, ⟨(some 59), .bin .lss .other (.t 58) (.c (.int .i64 3)), none, false⟩])
 (.cond (.t 59) (.seq (.reg [⟨(some 60), .load true 6 (.t 4), none, false⟩, ⟨none, .store 6 (.t 2) (.t 60), none, false⟩, ⟨(some 3), .mov (.c (.bool false)), none, false⟩])
 .ret)
 .skip))
 (.reg [⟨(some 61), .mov (.t 5), none, false⟩, ⟨(some 62), .slice (.sl 1) (.t 61) (some (.c (.int .i64 3))) none, none, false⟩, ⟨(some 63), .call 121 [(.t 62)], none, false⟩, ⟨(some 64), .fld 5 1 false (.t 4), none, false⟩, ⟨none, .store 1 (.t 64) (.t 63), none, false⟩]))
 (.seq (.reg [⟨(some 66), .bin .eql .other (.t 20) (.c (.int .u8 23)), none, false⟩, ⟨(some 65), .mov (.t 66), none, false⟩])
 (.cond (.t 65) (.seq (.seq (.reg [⟨(some 67), .mov (.t 5), none, false⟩, ⟨(some 68), .len false (.t 67), none, false⟩, ⟨(some 69), .bin .lss .other (.t 68) (.c (.int .i64 7)), none, false⟩])
 (.cond (.t 69) (.seq (.reg [⟨(some 70), .load true 6 (.t 4), none, false⟩, ⟨none, .store 6 (.t 2) (.t 70), none, false⟩, ⟨(some 3), .mov (.c (.bool false)), none, false⟩])
 .ret)
 .skip))
 (.draw [⟨0, ⟨(some 71), .mov (.t 5), none, false⟩, false, [], []⟩, ⟨2, ⟨(some 73), .mov (.t 5), none, false⟩, false, [], []⟩, ⟨3, ⟨(some 74), .slice (.sl 1) (.t 73) (some (.c (.int .i64 2))) none, none, false⟩, false, [], []⟩, ⟨5, ⟨(some 76), .mov (.t 5), none, false⟩, false, [], []⟩, ⟨6, ⟨(some 77), .slice (.sl 1) (.t 76) (some (.c (.int .i64 7))) none, none, false⟩, false, [], []⟩, ⟨1, ⟨(some 72), .call 151 [(.t 71)], none, false⟩, true, [], []⟩, ⟨8, ⟨(some 79), .fld 2 1 false (.t 4), none, false⟩, false, [], []⟩, ⟨4, ⟨(some 75), .call 151 [(.t 74)], none, false⟩, true, [], []⟩, ⟨7, ⟨(some 78), .call 121 [(.t 77)], none, false⟩, true, [], []⟩, ⟨9, ⟨none, .store 1 (.t 79) (.t 72), none, false⟩, true, [], []⟩, ⟨10, ⟨(some 80), .fld 3 1 false (.t 4), none, false⟩, false, [], []⟩, ⟨11, ⟨none, .store 1 (.t 80) (.t 75), none, false⟩, true, [], []⟩, ⟨12, ⟨(some 81), .fld 5 1 false (.t 4), none, false⟩, false, [], []⟩, ⟨13, ⟨none, .store 1 (.t 81) (.t 78), none, false⟩, true, [], []⟩]))
 .skip))))))))))))))
 (.seq (.reg [⟨(some 82), .load true 6 (.t 4), none, false⟩, ⟨none, .store 6 (.t 2) (.t 82), none, false⟩, ⟨(some 3), .mov (.c (.bool true)), none, false⟩])
 .ret))))))
def r114 : List ARes := [.cell 2 true 6, .t 3]
theorem c114 : compF Try.prog Try.f114 = some (a114, r114) := by kernel_rfl

theorem b114 : hasBody Try.prog 114 = true := by kernel_rfl
theorem g114 : Try.prog.funcs[114]? = some Try.f114 := by kernel_rfl

def openedT (f a : Int) (t : List Int) : Rq × Bool :=
  if f == 1 then (⟨f, a, numAt t 0, 0, [], []⟩, true)
  else if f == 2 then (⟨f, a, numAt t 0, 0, [], []⟩, true)
  else if f == 3 then (⟨f, a, numAt t 0, 0, [], []⟩, true)
  else if f == 4 then (⟨f, a, numAt t 0, 0, [], []⟩, true)
  else if f == 5 then (⟨f, a, 0, 0, [numAt t 0 == 65280], []⟩, true)
  else if f == 6 then (⟨f, a, 0, 0, [], numsN t (t.length / 2)⟩, true)
  else if f == 22 then (⟨f, a, 0, 0, [], numsN t (t.length / 2)⟩, true)
  else if f == 15 then (if decide ((t.length : Int) < 3) then (⟨f, a, 0, 0, [], []⟩, false) else (⟨f, a, 0, 0, bitsA (cutF t 3) (bitsK (IntKind.i64.wrap (numAt t 0))), []⟩, true))
  else if f == 16 then (if decide ((t.length : Int) < 3) then (⟨f, a, 0, 0, [], []⟩, false) else (⟨f, a, 0, 0, [], numsN (cutF t 3) ((cutF t 3).length / 2)⟩, true))
  else if f == 23 then (if decide ((t.length : Int) < 7) then (⟨f, a, 0, 0, [], []⟩, false) else (⟨f, a, numAt t 0, numAt (cutF t 2) 0, [], numsN (cutF t 7) ((cutF t 7).length / 2)⟩, true))
  else (⟨f, a, 0, 0, [], []⟩, true)
def openedS (l : List Int) : Rq × Bool := if decide ((l.length : Int) < 5) then (Rq.zero, false) else openedT (l.getD 0 0) (numAt (cutF l 1) 0) (cutF l 3)
theorem leReq {f a n a2 : Int} {B R : AV} {ok ok' : Bool} {q : Rq} (hf : f = q.f) (ha : a = q.a) (hn : n = q.n) (ha2 : a2 = q.a2) (hb : Le B (.roB q.b)) (hr : Le R (.roI .u16 q.r)) (hok : ok = ok') :
    Le (.tup [reqA f a n a2 B R, .bool ok]) (.tup [rqA q, .bool ok']) := by
  subst hf; subst ha; subst hn; subst ha2; subst hok
  exact Le.tup ⟨Le.agg ⟨Le.refl _, Le.refl _, Le.refl _, Le.refl _, hb, hr, trivial⟩, Le.refl _, trivial⟩
set_option maxRecDepth 20000 in
set_option maxHeartbeats 4000000 in
theorem opened_raw (l : List Int) (hl : l.length ≤ 1000) : Tr Try.prog 114 [.roI .u8 l] ⟨0, []⟩ (FrzK (.tup [rqA (openedS l).1, .bool (openedS l).2])) := by
  refine trF g114 b114 c114 ?_
  conv => whnf
  repeat' (first
    | (refine condY (by assumption) ?_; conv => whnf)
    | (refine condN (by assumption) ?_; conv => whnf)
    | (refine condT (by first | assumption | (simp [twos_length, packN_length, two8, cutF]; done) | (simp [twos_length, packN_length, two8, cutF]; omega) | (simp_all; done) | (simp_all; omega)) ?_; conv => whnf)
    | (refine condF (fun h => ?_) (fun h => ?_) <;> conv => whnf)
    | (refine ⟨rfl, ?_⟩; conv => whnf)
    | (refine Ev.call (number_ev _ (by first | (simp [twos_length, packN_length, two8, cutF]; done) | (simp [twos_length, packN_length, two8, cutF]; omega) | omega | (simp_all; omega))) ?_; conv => whnf)
    | (refine Ev.call (numbers_ev _ (by first | (simp [twos_length, packN_length, two8, cutF]; done) | (simp [twos_length, packN_length, two8, cutF]; omega) | omega | (simp_all; omega))) ?_; conv => whnf)
    | (refine Ev.call (bits_ev _ _ (by first | (simp [twos_length, packN_length, two8, cutF]; done) | (simp [twos_length, packN_length, two8, cutF]; omega) | omega | (simp_all; omega))) ?_; conv => whnf)
    )
  all_goals (try simp only [show Int.toNat 0 = 0 from rfl, show Int.toNat 1 = 1 from rfl, show Int.toNat 2 = 2 from rfl, show Int.toNat 3 = 3 from rfl, show Int.toNat 7 = 7 from rfl] at *)
  all_goals (generalize ho : openedS l = o; simp only [openedS, openedT, cutF, *, if_true, if_false, Bool.false_eq_true] at ho; try (first | erw [if_pos h] at ho | erw [if_neg (fun e => Bool.noConfusion (e.symm.trans h))] at ho))
  all_goals subst ho
  all_goals first
    | exact FrzK.le (leReq rfl rfl rfl rfl (by first | exact Le.refl _ | exact Le.nilB) (by first | exact Le.refl _ | exact Le.nilI _) rfl)
    | exact FrzK.step 2 rfl (FrzK.le (leReq rfl rfl rfl rfl (Le.refl _) (Le.nilI _) rfl))
theorem opened_ev (l : List Int) (hl : l.length ≤ 1000) : Ev Try.prog 114 [.roI .u8 l] (.tup [rqA (openedS l).1, .bool (openedS l).2]) := FrzK.ev rfl (opened_raw l hl)
end Go.Proofs.Ytomodeliimnddaa
