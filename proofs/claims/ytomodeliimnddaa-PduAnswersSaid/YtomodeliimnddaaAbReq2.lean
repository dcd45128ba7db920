/- Contracts: requests as bytes. -/
import Derived.Test.YtomodeliimnddaaAbReq
set_option linter.unusedVariables false
set_option linter.unusedSimpArgs false
namespace Go.Proofs.Ytomodeliimnddaa
open Go.Ab
/- rung/rungref3.two -/
def a111 : ACode := (.seq (.reg [⟨(some 4), .mov (.c .nils), none, false⟩])
 (.seq (.seq (.reg [⟨(some 5), .mov (.c (.int .i64 0)), none, false⟩])
 (.block 0 (.loop (.seq (.seq (.reg [⟨(some 6), .mov (.t 5), none, false⟩, ⟨(some 7), .mov (.t 1), none, false⟩, ⟨(some 8), .len false (.t 7), none, false⟩, ⟨(some 9), .bin .lss .other (.t 6) (.t 8), none, false⟩])
 (.cond (.t 9) .skip
 (.exit 0)))
 (.seq (.block 1 (.draw [⟨0, ⟨(some 12), .mov (.t 0), none, false⟩, false, [], []⟩, ⟨1, ⟨(some 13), .mov (.t 1), none, false⟩, false, [], []⟩, ⟨2, ⟨(some 14), .mov (.t 5), none, false⟩, false, [], []⟩, ⟨3, ⟨(some 15), .idx 1 none false (.t 13) (.t 14), none, false⟩, false, [], []⟩, ⟨4, ⟨(some 16), .load false 1 (.t 15), none, false⟩, false, [], []⟩, ⟨5, ⟨(some 17), .bin .shr .other (.t 16) (.c (.int .u64 8)), none, false⟩, false, [], []⟩, ⟨6, ⟨(some 18), .conv (.int .u8) (.t 17), none, false⟩, false, [], []⟩, ⟨7, ⟨(some 19), .mov (.t 1), none, false⟩, false, [], []⟩, ⟨8, ⟨(some 20), .mov (.t 5), none, false⟩, false, [], []⟩, ⟨9, ⟨(some 21), .idx 1 none false (.t 19) (.t 20), none, false⟩, false, [], []⟩, ⟨10, ⟨(some 22), .load false 1 (.t 21), none, false⟩, false, [], []⟩, ⟨11, ⟨(some 23), .conv (.int .u8) (.t 22), none, false⟩, false, [], []⟩, ⟨12, ⟨(some 24), .bslice 1 (.int .u8) [(.int .u8 0), (.int .u8 0)] [(0, 1, (.t 18)), (1, 1, (.t 23))] 2, none, false⟩, false, [], []⟩, ⟨13, ⟨(some 25), .app 1 1 (.t 12) (.t 24), none, false⟩, true, [12], []⟩, ⟨14, ⟨(some 0), .mov (.t 25), none, false⟩, false, [], []⟩]))
 (.reg [⟨(some 10), .mov (.t 5), none, false⟩, ⟨(some 11), .bin .add .other (.t 10) (.c (.int .i64 1)), none, false⟩, ⟨(some 5), .mov (.t 11), none, false⟩]))))))
 (.seq (.reg [⟨(some 26), .mov (.t 0), none, false⟩, ⟨(some 4), .mov (.t 26), none, false⟩])
 .ret)))
def r111 : List ARes := [.t 4]
theorem c111 : compF Try.prog Try.f111 = some (a111, r111) := by kernel_rfl

theorem b111 : hasBody Try.prog 111 = true := by kernel_rfl
theorem g111 : Try.prog.funcs[111]? = some Try.f111 := by kernel_rfl
/- rung/rungref3.within -/
def a112 : ACode := (.seq (.reg [⟨(some 6), .mov (.c (.bool false)), none, false⟩])
 (.seq (.reg [⟨(some 7), .mov (.t 0), none, false⟩, ⟨(some 8), .mov (.t 1), none, false⟩, ⟨(some 9), .bin .geq .other (.t 7) (.t 8), none, false⟩, ⟨(some 10), .mov (.t 9), none, true⟩, ⟨(some 11), .mov (.t 0), (some (10, true)), false⟩, ⟨(some 12), .mov (.t 2), (some (10, true)), false⟩, ⟨(some 13), .bin .leq .other (.t 11) (.t 12), (some (10, true)), false⟩, ⟨(some 14), .pick (.t 10) (.t 13) (.c (.bool false)), none, false⟩, ⟨(some 6), .mov (.t 14), none, false⟩])
 .ret))
def r112 : List ARes := [.t 6]
theorem c112 : compF Try.prog Try.f112 = some (a112, r112) := by kernel_rfl

theorem b112 : hasBody Try.prog 112 = true := by kernel_rfl
theorem g112 : Try.prog.funcs[112]? = some Try.f112 := by kernel_rfl
/- rung/rungref3.one -/
def a113 : ACode := (.seq (.reg [⟨(some 2), .mov (.c (.int .u16 0)), none, false⟩])
 (.seq (.seq (.reg [⟨(some 3), .mov (.t 0), none, false⟩])
 (.cond (.t 3) (.seq (.reg [⟨(some 2), .mov (.c (.int .u16 65280)), none, false⟩])
 .ret)
 .skip))
 (.seq (.reg [⟨(some 2), .mov (.c (.int .u16 0)), none, false⟩])
 .ret)))
def r113 : List ARes := [.t 2]
theorem c113 : compF Try.prog Try.f113 = some (a113, r113) := by kernel_rfl

theorem b113 : hasBody Try.prog 113 = true := by kernel_rfl
theorem g113 : Try.prog.funcs[113]? = some Try.f113 := by kernel_rfl

theorem one_ev (b : Bool) : Ev Try.prog 113 [.bool b] (.int .u16 (coilN b)) := by
  refine ⟨rfl, trF g113 b113 c113 ?_⟩
  cases b <;> (conv => whnf) <;> exact ⟨rfl, rfl⟩
def within3 (n a b : Int) : Bool := decide (a ≤ n) && decide (n ≤ b)
theorem within3_ev (n a b : Int) : Ev Try.prog 112 [.int .i64 n, .int .i64 a, .int .i64 b] (.bool (within3 n a b)) := by
  refine ⟨rfl, trF g112 b112 c112 ?_⟩
  conv => whnf
  refine condS (fun h => ?_) (fun h => ?_)
  · conv => whnf
    exact ⟨by simp only [within3]; simp at h; simp [h], rfl⟩
  · conv => whnf
    exact ⟨by simp only [within3]; simp at h; simp; omega, rfl⟩
theorem rtwo_tr (l m : List Int) (hl : l.length ≤ 1000) (hm : m.length ≤ 1000) : Tr Try.prog 111 [.sl 1 0 0 l.length, .roI .u16 m] ⟨1, [(0, some (.rowI .u8 l))]⟩ fun v s => v = .sl 1 1 0 (l ++ twos m).length ∧ s = ⟨2, [(1, some (.rowI .u8 (l ++ twos m)))]⟩ := by
  refine trF g111 b111 c111 ?_
  conv => whnf
  refine loopI (α := {i : Nat // i ≤ m.length}) (fun i => [(0, .sl 1 1 0 (l ++ twos (m.take i.1)).length), (1, .roI .u16 m), (5, .int .i64 i.1)]) (fun i => ⟨2, [(1, some (.rowI .u8 (l ++ twos (m.take i.1))))]⟩) (fun i => m.length - i.1) ⟨0, Nat.zero_le _⟩
    ⟨[(1, some 0)], rfl, rfl, rfl, ⟨⟨?_, rfl⟩, ⟨rfl, rfl⟩, ⟨rfl, rfl⟩, trivial⟩, ⟨trivial, rfl, by simp [twos, Chunk.ren]; rfl⟩, trivial⟩ fun ⟨i, hi⟩ => ?_
  · show AV.sl 1 0 0 l.length = AV.sl 1 0 0 (l ++ twos (m.take 0)).length
    simp [twos]
  conv => whnf
  by_cases hlt : i < m.length
  · refine condY (by simpa using hlt) ?_
    conv => whnf
    refine condT (by simpa using hlt) ?_
    conv => whnf
    refine condT (by simpa using hlt) ?_
    conv => whnf
    have hlen : (l ++ twos (m.take i)).length = l.length + 2 * i := by simp [twos_length]; omega
    refine condT (by simp [hlen]; omega) ?_
    conv => whnf
    have key : (l ++ twos (m.take i)) ++ two8 (m.getD i 0) = l ++ twos (m.take (i + 1)) := by rw [twos_take m i hlt, List.append_assoc]
    refine ⟨⟨i + 1, hlt⟩, ⟨[(1, some 3)], rfl, rfl, rfl, ⟨⟨?_, rfl⟩, ⟨rfl, rfl⟩, ⟨?_, rfl⟩, trivial⟩, ⟨⟨trivial, rfl, ?_⟩, trivial⟩⟩, by show m.length - (i + 1) < m.length - i; omega⟩
    · show AV.sl 1 3 0 ((l ++ twos (m.take i)).length + 2) = AV.sl 1 3 0 (l ++ twos (m.take (i + 1))).length
      rw [← key]; simp [two8]; omega
    · show AV.int .i64 (IntKind.i64.wrap ((i : Int) + 1)) = AV.int .i64 ((i + 1 : Nat) : Int)
      rw [IntWalk.i64_in _ (by omega)]; rfl
    · show some (Chunk.rowI .u8 (List.take (l ++ twos (m.take i)).length (List.drop 0 (l ++ twos (m.take i))) ++ List.take 2 (List.drop 0 (two8 (m.getD i 0))))) = some (Chunk.rowI .u8 (l ++ twos (m.take (i + 1))))
      rw [← key, List.drop_zero, List.take_length]; rfl
  · refine condN (by simpa using hlt) ?_
    conv => whnf
    have : i = m.length := by omega
    subst this
    refine ⟨by simp, by simp⟩
/- rung/pdu.Request -/
def a48 : ACode := (.seq (.reg [⟨(some 1), .box (.t 0), none, false⟩, ⟨(some 2), .mov (.c .nils), none, false⟩, ⟨(some 3), .mov (.c (.int .i64 0)), none, false⟩])
 (.seq (.reg [⟨(some 8), .load true 6 (.t 1), none, false⟩, ⟨(some 9), .call 109 [(.t 8)], none, false⟩, ⟨(some 7), .mov (.t 9), none, false⟩, ⟨(some 10), .ext (.t 7) 0, none, false⟩, ⟨(some 11), .ext (.t 7) 1, none, false⟩, ⟨(some 12), .ext (.t 7) 2, none, false⟩, ⟨(some 5), .alloc [(1, (.int .u8 0)), (3, (.int .u16 0)), (2, .nils)], none, false⟩, ⟨(some 4), .mov (.t 10), none, false⟩, ⟨none, .store 6 (.t 5) (.t 11), none, false⟩, ⟨(some 6), .mov (.t 12), none, false⟩])
 (.seq (.seq (.reg [⟨(some 13), .mov (.t 6), none, false⟩, ⟨(some 14), .un .not (.t 13), none, false⟩, ⟨(some 15), .mov (.t 14), none, true⟩, ⟨(some 16), .load true 6 (.t 1), (some (15, false)), false⟩, ⟨(some 17), .load true 6 (.t 5), (some (15, false)), false⟩, ⟨(some 18), .call 110 [(.t 16), (.t 17)], (some (15, false)), false⟩, ⟨(some 19), .un .not (.t 18), (some (15, false)), false⟩, ⟨(some 20), .pick (.t 15) (.c (.bool true)) (.t 19), none, false⟩])
 (.cond (.t 20) (.seq (.reg [⟨(some 2), .mov (.c .nils), none, false⟩, ⟨(some 3), .mov (.c (.int .i64 30)), none, false⟩])
 .ret)
 .skip))
 (.seq (.reg [⟨(some 21), .mov (.t 4), none, false⟩, ⟨(some 2), .mov (.t 21), none, false⟩, ⟨(some 3), .mov (.c (.int .i64 0)), none, false⟩])
 .ret))))
def r48 : List ARes := [.t 2, .t 3]
theorem c48 : compF Try.prog Try.f48 = some (a48, r48) := by kernel_rfl

theorem b48 : hasBody Try.prog 48 = true := by kernel_rfl
theorem g48 : Try.prog.funcs[48]? = some Try.f48 := by kernel_rfl
/- rung/rungref3.Request -/
def a49 : ACode := (.seq (.reg [⟨(some 1), .box (.t 0), none, false⟩, ⟨(some 2), .mov (.c .nils), none, false⟩, ⟨(some 3), .mov (.c (.int .i64 0)), none, false⟩])
 (.seq (.draw [⟨0, ⟨(some 9), .fld 2 1 false (.t 1), none, false⟩, false, [], []⟩, ⟨1, ⟨(some 10), .load false 1 (.t 9), none, false⟩, false, [], []⟩, ⟨2, ⟨(some 11), .conv (.int .i64) (.t 10), none, false⟩, false, [], []⟩, ⟨3, ⟨(some 12), .fld 4 1 false (.t 1), none, false⟩, false, [], []⟩, ⟨4, ⟨(some 13), .load false 1 (.t 12), none, false⟩, false, [], []⟩, ⟨5, ⟨(some 14), .len false (.t 13), none, false⟩, false, [], []⟩, ⟨6, ⟨(some 15), .fld 5 1 false (.t 1), none, false⟩, false, [], []⟩, ⟨7, ⟨(some 16), .load false 1 (.t 15), none, false⟩, false, [], []⟩, ⟨8, ⟨(some 17), .len false (.t 16), none, false⟩, false, [], []⟩, ⟨9, ⟨(some 4), .mov (.t 11), none, false⟩, false, [], []⟩, ⟨10, ⟨(some 5), .mov (.t 14), none, false⟩, false, [], []⟩, ⟨11, ⟨(some 6), .mov (.t 17), none, false⟩, false, [], []⟩])
 (.seq (.reg [⟨(some 18), .fld 0 1 false (.t 1), none, false⟩, ⟨(some 19), .load false 1 (.t 18), none, false⟩, ⟨(some 20), .bslice 1 (.int .u8) [(.int .u8 0)] [(0, 1, (.t 19))] 1, none, false⟩, ⟨(some 21), .fld 1 1 false (.t 1), none, false⟩, ⟨(some 22), .load false 1 (.t 21), none, false⟩, ⟨(some 23), .bslice 1 (.int .u16) [(.int .u16 0)] [(0, 1, (.t 22))] 1, none, false⟩, ⟨(some 24), .call 111 [(.t 20), (.t 23)], none, false⟩, ⟨(some 7), .mov (.t 24), none, false⟩])
 (.seq (.reg [⟨(some 8), .mov (.c (.bool false)), none, false⟩])
 (.seq (.seq (.reg [⟨(some 25), .fld 0 1 false (.t 1), none, false⟩, ⟨(some 26), .load false 1 (.t 25), none, false⟩])
 (.block 0 (.seq (.seq (.reg [⟨(some 28), .bin .eql .other (.t 26) (.c (.int .u8 1)), none, false⟩, ⟨(some 27), .mov (.t 28), none, false⟩])
 (.cond (.t 27) .skip
 (.reg [⟨(some 29), .bin .eql .other (.t 26) (.c (.int .u8 2)), none, false⟩, ⟨(some 27), .mov (.t 29), none, false⟩])))
 (.cond (.t 27) (.seq (.reg [⟨(some 30), .mov (.t 4), none, false⟩, ⟨(some 31), .call 112 [(.t 30), (.c (.int .i64 1)), (.c (.int .i64 2000))], none, false⟩, ⟨(some 32), .mov (.t 31), none, true⟩, ⟨(some 33), .mov (.t 5), (some (32, true)), false⟩, ⟨(some 34), .bin .eql .other (.t 33) (.c (.int .i64 0)), (some (32, true)), false⟩, ⟨(some 35), .pick (.t 32) (.t 34) (.c (.bool false)), none, false⟩, ⟨(some 36), .mov (.t 35), none, true⟩, ⟨(some 37), .mov (.t 6), (some (36, true)), false⟩, ⟨(some 38), .bin .eql .other (.t 37) (.c (.int .i64 0)), (some (36, true)), false⟩, ⟨(some 39), .pick (.t 36) (.t 38) (.c (.bool false)), none, false⟩, ⟨(some 40), .mov (.t 39), none, true⟩, ⟨(some 41), .fld 3 1 false (.t 1), (some (40, true)), false⟩, ⟨(some 42), .load false 1 (.t 41), (some (40, true)), false⟩, ⟨(some 43), .bin .eql .other (.t 42) (.c (.int .u16 0)), (some (40, true)), false⟩, ⟨(some 44), .pick (.t 40) (.t 43) (.c (.bool false)), none, false⟩, ⟨(some 8), .mov (.t 44), none, false⟩])
 (.reg [⟨(some 45), .mov (.t 7), none, false⟩, ⟨(some 46), .fld 2 1 false (.t 1), none, false⟩, ⟨(some 47), .load false 1 (.t 46), none, false⟩, ⟨(some 48), .bslice 1 (.int .u16) [(.int .u16 0)] [(0, 1, (.t 47))] 1, none, false⟩, ⟨(some 49), .call 111 [(.t 45), (.t 48)], none, false⟩, ⟨(some 7), .mov (.t 49), none, false⟩]))
 (.seq (.seq (.reg [⟨(some 51), .bin .eql .other (.t 26) (.c (.int .u8 3)), none, false⟩, ⟨(some 50), .mov (.t 51), none, false⟩])
 (.cond (.t 50) .skip
 (.reg [⟨(some 52), .bin .eql .other (.t 26) (.c (.int .u8 4)), none, false⟩, ⟨(some 50), .mov (.t 52), none, false⟩])))
 (.cond (.t 50) (.seq (.reg [⟨(some 53), .mov (.t 4), none, false⟩, ⟨(some 54), .call 112 [(.t 53), (.c (.int .i64 1)), (.c (.int .i64 125))], none, false⟩, ⟨(some 55), .mov (.t 54), none, true⟩, ⟨(some 56), .mov (.t 5), (some (55, true)), false⟩, ⟨(some 57), .bin .eql .other (.t 56) (.c (.int .i64 0)), (some (55, true)), false⟩, ⟨(some 58), .pick (.t 55) (.t 57) (.c (.bool false)), none, false⟩, ⟨(some 59), .mov (.t 58), none, true⟩, ⟨(some 60), .mov (.t 6), (some (59, true)), false⟩, ⟨(some 61), .bin .eql .other (.t 60) (.c (.int .i64 0)), (some (59, true)), false⟩, ⟨(some 62), .pick (.t 59) (.t 61) (.c (.bool false)), none, false⟩, ⟨(some 63), .mov (.t 62), none, true⟩, ⟨(some 64), .fld 3 1 false (.t 1), (some (63, true)), false⟩, ⟨(some 65), .load false 1 (.t 64), (some (63, true)), false⟩, ⟨(some 66), .bin .eql .other (.t 65) (.c (.int .u16 0)), (some (63, true)), false⟩, ⟨(some 67), .pick (.t 63) (.t 66) (.c (.bool false)), none, false⟩, ⟨(some 8), .mov (.t 67), none, false⟩])
 (.reg [⟨(some 68), .mov (.t 7), none, false⟩, ⟨(some 69), .fld 2 1 false (.t 1), none, false⟩, ⟨(some 70), .load false 1 (.t 69), none, false⟩, ⟨(some 71), .bslice 1 (.int .u16) [(.int .u16 0)] [(0, 1, (.t 70))] 1, none, false⟩, ⟨(some 72), .call 111 [(.t 68), (.t 71)], none, false⟩, ⟨(some 7), .mov (.t 72), none, false⟩]))
 (.seq (.reg [⟨(some 74), .bin .eql .other (.t 26) (.c (.int .u8 5)), none, false⟩, ⟨(some 73), .mov (.t 74), none, false⟩])
 (.cond (.t 73) (.seq (.reg [⟨(some 75), .mov (.t 4), none, false⟩, ⟨(some 76), .bin .eql .other (.t 75) (.c (.int .i64 0)), none, false⟩, ⟨(some 77), .mov (.t 76), none, true⟩, ⟨(some 78), .mov (.t 5), (some (77, true)), false⟩, ⟨(some 79), .bin .eql .other (.t 78) (.c (.int .i64 1)), (some (77, true)), false⟩, ⟨(some 80), .pick (.t 77) (.t 79) (.c (.bool false)), none, false⟩, ⟨(some 81), .mov (.t 80), none, true⟩, ⟨(some 82), .mov (.t 6), (some (81, true)), false⟩, ⟨(some 83), .bin .eql .other (.t 82) (.c (.int .i64 0)), (some (81, true)), false⟩, ⟨(some 84), .pick (.t 81) (.t 83) (.c (.bool false)), none, false⟩, ⟨(some 85), .mov (.t 84), none, true⟩, ⟨(some 86), .fld 3 1 false (.t 1), (some (85, true)), false⟩, ⟨(some 87), .load false 1 (.t 86), (some (85, true)), false⟩, ⟨(some 88), .bin .eql .other (.t 87) (.c (.int .u16 0)), (some (85, true)), false⟩, ⟨(some 89), .pick (.t 85) (.t 88) (.c (.bool false)), none, false⟩, ⟨(some 8), .mov (.t 89), none, false⟩])
 (.seq (.reg [⟨(some 90), .mov (.t 8), none, false⟩])
 (.cond (.t 90) (.reg [⟨(some 91), .mov (.t 7), none, false⟩, ⟨(some 92), .fld 4 1 false (.t 1), none, false⟩, ⟨(some 93), .load false 1 (.t 92), none, false⟩, ⟨(some 94), .idx 1 none false (.t 93) (.c (.int .i64 0)), none, false⟩, ⟨(some 95), .load false 1 (.t 94), none, false⟩, ⟨(some 96), .call 113 [(.t 95)], none, false⟩, ⟨(some 97), .bslice 1 (.int .u16) [(.int .u16 0)] [(0, 1, (.t 96))] 1, none, false⟩, ⟨(some 98), .call 111 [(.t 91), (.t 97)], none, false⟩, ⟨(some 7), .mov (.t 98), none, false⟩])
 .skip)))
 (.seq (.reg [⟨(some 100), .bin .eql .other (.t 26) (.c (.int .u8 6)), none, false⟩, ⟨(some 99), .mov (.t 100), none, false⟩])
 (.cond (.t 99) (.seq (.reg [⟨(some 101), .mov (.t 4), none, false⟩, ⟨(some 102), .bin .eql .other (.t 101) (.c (.int .i64 0)), none, false⟩, ⟨(some 103), .mov (.t 102), none, true⟩, ⟨(some 104), .mov (.t 5), (some (103, true)), false⟩, ⟨(some 105), .bin .eql .other (.t 104) (.c (.int .i64 0)), (some (103, true)), false⟩, ⟨(some 106), .pick (.t 103) (.t 105) (.c (.bool false)), none, false⟩, ⟨(some 107), .mov (.t 106), none, true⟩, ⟨(some 108), .mov (.t 6), (some (107, true)), false⟩, ⟨(some 109), .bin .eql .other (.t 108) (.c (.int .i64 1)), (some (107, true)), false⟩, ⟨(some 110), .pick (.t 107) (.t 109) (.c (.bool false)), none, false⟩, ⟨(some 111), .mov (.t 110), none, true⟩, ⟨(some 112), .fld 3 1 false (.t 1), (some (111, true)), false⟩, ⟨(some 113), .load false 1 (.t 112), (some (111, true)), false⟩, ⟨(some 114), .bin .eql .other (.t 113) (.c (.int .u16 0)), (some (111, true)), false⟩, ⟨(some 115), .pick (.t 111) (.t 114) (.c (.bool false)), none, false⟩, ⟨(some 8), .mov (.t 115), none, false⟩])
 (.reg [⟨(some 116), .mov (.t 7), none, false⟩, ⟨(some 117), .fld 5 1 false (.t 1), none, false⟩, ⟨(some 118), .load false 1 (.t 117), none, false⟩, ⟨(some 119), .call 111 [(.t 116), (.t 118)], none, false⟩, ⟨(some 7), .mov (.t 119), none, false⟩]))
 (.seq (.reg [⟨(some 121), .bin .eql .other (.t 26) (.c (.int .u8 15)), none, false⟩, ⟨(some 120), .mov (.t 121), none, false⟩])
 (.cond (.t 120) (.seq (.reg [⟨(some 122), .mov (.t 4), none, false⟩, ⟨(some 123), .bin .eql .other (.t 122) (.c (.int .i64 0)), none, false⟩, ⟨(some 124), .mov (.t 123), none, true⟩, ⟨(some 125), .mov (.t 5), (some (124, true)), false⟩, ⟨(some 126), .call 112 [(.t 125), (.c (.int .i64 1)), (.c (.int .i64 1968))], (some (124, true)), false⟩, ⟨(some 127), .pick (.t 124) (.t 126) (.c (.bool false)), none, false⟩, ⟨(some 128), .mov (.t 127), none, true⟩, ⟨(some 129), .mov (.t 6), (some (128, true)), false⟩, ⟨(some 130), .bin .eql .other (.t 129) (.c (.int .i64 0)), (some (128, true)), false⟩, ⟨(some 131), .pick (.t 128) (.t 130) (.c (.bool false)), none, false⟩, ⟨(some 132), .mov (.t 131), none, true⟩, ⟨(some 133), .fld 3 1 false (.t 1), (some (132, true)), false⟩, ⟨(some 134), .load false 1 (.t 133), (some (132, true)), false⟩, ⟨(some 135), .bin .eql .other (.t 134) (.c (.int .u16 0)), (some (132, true)), false⟩, ⟨(some 136), .pick (.t 132) (.t 135) (.c (.bool false)), none, false⟩, ⟨(some 8), .mov (.t 136), none, false⟩])
 (.draw [⟨0, ⟨(some 137), .mov (.t 7), none, false⟩, false, [], []⟩, ⟨1, ⟨(some 138), .mov (.t 5), none, false⟩, false, [], []⟩, ⟨2, ⟨(some 139), .conv (.int .u16) (.t 138), none, false⟩, false, [], []⟩, ⟨3, ⟨(some 140), .bslice 1 (.int .u16) [(.int .u16 0)] [(0, 1, (.t 139))] 1, none, false⟩, false, [], []⟩, ⟨5, ⟨(some 142), .mov (.t 5), none, false⟩, false, [], []⟩, ⟨6, ⟨(some 143), .bin .add .other (.t 142) (.c (.int .i64 7)), none, false⟩, false, [], []⟩, ⟨7, ⟨(some 144), .bin .quo .other (.t 143) (.c (.int .i64 8)), none, false⟩, false, [], []⟩, ⟨8, ⟨(some 145), .conv (.int .u8) (.t 144), none, false⟩, false, [], []⟩, ⟨9, ⟨(some 146), .bslice 1 (.int .u8) [(.int .u8 0)] [(0, 1, (.t 145))] 1, none, false⟩, false, [], []⟩, ⟨11, ⟨(some 148), .fld 4 1 false (.t 1), none, false⟩, false, [], []⟩, ⟨12, ⟨(some 149), .load false 1 (.t 148), none, false⟩, false, [], []⟩, ⟨4, ⟨(some 141), .call 111 [(.t 137), (.t 140)], none, false⟩, true, [3], [(.t 148)]⟩, ⟨10, ⟨(some 147), .app 1 1 (.t 141) (.t 146), none, false⟩, true, [3, 9], [(.t 148)]⟩, ⟨13, ⟨(some 150), .call 62 [(.t 149)], none, false⟩, true, [3, 9], []⟩, ⟨14, ⟨(some 151), .app 1 1 (.t 147) (.t 150), none, false⟩, true, [3, 9], []⟩, ⟨15, ⟨(some 7), .mov (.t 151), none, false⟩, false, [], []⟩]))
 (.seq (.reg [⟨(some 153), .bin .eql .other (.t 26) (.c (.int .u8 16)), none, false⟩, ⟨(some 152), .mov (.t 153), none, false⟩])
 (.cond (.t 152) (.seq (.reg [⟨(some 154), .mov (.t 4), none, false⟩, ⟨(some 155), .bin .eql .other (.t 154) (.c (.int .i64 0)), none, false⟩, ⟨(some 156), .mov (.t 155), none, true⟩, ⟨(some 157), .mov (.t 5), (some (156, true)), false⟩, ⟨(some 158), .bin .eql .other (.t 157) (.c (.int .i64 0)), (some (156, true)), false⟩, ⟨(some 159), .pick (.t 156) (.t 158) (.c (.bool false)), none, false⟩, ⟨(some 160), .mov (.t 159), none, true⟩, ⟨(some 161), .mov (.t 6), (some (160, true)), false⟩, ⟨(some 162), .call 112 [(.t 161), (.c (.int .i64 1)), (.c (.int .i64 123))], (some (160, true)), false⟩, ⟨(some 163), .pick (.t 160) (.t 162) (.c (.bool false)), none, false⟩, ⟨(some 164), .mov (.t 163), none, true⟩, ⟨(some 165), .fld 3 1 false (.t 1), (some (164, true)), false⟩, ⟨(some 166), .load false 1 (.t 165), (some (164, true)), false⟩, ⟨(some 167), .bin .eql .other (.t 166) (.c (.int .u16 0)), (some (164, true)), false⟩, ⟨(some 168), .pick (.t 164) (.t 167) (.c (.bool false)), none, false⟩, ⟨(some 8), .mov (.t 168), none, false⟩])
 (.draw [⟨0, ⟨(some 169), .mov (.t 7), none, false⟩, false, [], []⟩, ⟨1, ⟨(some 170), .mov (.t 6), none, false⟩, false, [], []⟩, ⟨2, ⟨(some 171), .conv (.int .u16) (.t 170), none, false⟩, false, [], []⟩, ⟨3, ⟨(some 172), .bslice 1 (.int .u16) [(.int .u16 0)] [(0, 1, (.t 171))] 1, none, false⟩, false, [], []⟩, ⟨5, ⟨(some 174), .mov (.t 6), none, false⟩, false, [], []⟩, ⟨6, ⟨(some 175), .bin .mul .other (.c (.int .i64 2)) (.t 174), none, false⟩, false, [], []⟩, ⟨7, ⟨(some 176), .conv (.int .u8) (.t 175), none, false⟩, false, [], []⟩, ⟨8, ⟨(some 177), .bslice 1 (.int .u8) [(.int .u8 0)] [(0, 1, (.t 176))] 1, none, false⟩, false, [], []⟩, ⟨10, ⟨(some 179), .fld 5 1 false (.t 1), none, false⟩, false, [], []⟩, ⟨11, ⟨(some 180), .load false 1 (.t 179), none, false⟩, false, [], []⟩, ⟨4, ⟨(some 173), .call 111 [(.t 169), (.t 172)], none, false⟩, true, [3], [(.t 179)]⟩, ⟨9, ⟨(some 178), .app 1 1 (.t 173) (.t 177), none, false⟩, true, [3, 8], [(.t 179)]⟩, ⟨12, ⟨(some 181), .call 111 [(.t 178), (.t 180)], none, false⟩, true, [3, 8], []⟩, ⟨13, ⟨(some 7), .mov (.t 181), none, false⟩, false, [], []⟩]))
 (.seq (.reg [⟨(some 183), .bin .eql .other (.t 26) (.c (.int .u8 22)), none, false⟩, ⟨(some 182), .mov (.t 183), none, false⟩])
 (.cond (.t 182) (.seq (.reg [⟨(some 184), .mov (.t 4), none, false⟩, ⟨(some 185), .bin .eql .other (.t 184) (.c (.int .i64 0)), none, false⟩, ⟨(some 186), .mov (.t 185), none, true⟩, ⟨(some 187), .mov (.t 5), (some (186, true)), false⟩, ⟨(some 188), .bin .eql .other (.t 187) (.c (.int .i64 0)), (some (186, true)), false⟩, ⟨(some 189), .pick (.t 186) (.t 188) (.c (.bool false)), none, false⟩, ⟨(some 190), .mov (.t 189), none, true⟩, ⟨(some 191), .mov (.t 6), (some (190, true)), false⟩, ⟨(some 192), .bin .eql .other (.t 191) (.c (.int .i64 2)), (some (190, true)), false⟩, ⟨(some 193), .pick (.t 190) (.t 192) (.c (.bool false)), none, false⟩, ⟨(some 194), .mov (.t 193), none, true⟩, ⟨(some 195), .fld 3 1 false (.t 1), (some (194, true)), false⟩, ⟨(some 196), .load false 1 (.t 195), (some (194, true)), false⟩, ⟨(some 197), .bin .eql .other (.t 196) (.c (.int .u16 0)), (some (194, true)), false⟩, ⟨(some 198), .pick (.t 194) (.t 197) (.c (.bool false)), none, false⟩, ⟨(some 8), .mov (.t 198), none, false⟩])
 (.reg [⟨(some 199), .mov (.t 7), none, false⟩, ⟨(some 200), .fld 5 1 false (.t 1), none, false⟩, ⟨(some 201), .load false 1 (.t 200), none, false⟩, ⟨(some 202), .call 111 [(.t 199), (.t 201)], none, false⟩, ⟨(some 7), .mov (.t 202), none, false⟩]))
 (.seq (.reg [⟨(some 204), .bin .eql .other (.t 26) (.c (.int .u8 23)), none, false⟩, ⟨(some 203), .mov (.t 204), none, false⟩])
 (.cond (.t 203) (.seq (.reg [⟨(some 205), .mov (.t 4), none, false⟩, ⟨(some 206), .call 112 [(.t 205), (.c (.int .i64 1)), (.c (.int .i64 125))], none, false⟩, ⟨(some 207), .mov (.t 206), none, true⟩, ⟨(some 208), .mov (.t 5), (some (207, true)), false⟩, ⟨(some 209), .bin .eql .other (.t 208) (.c (.int .i64 0)), (some (207, true)), false⟩, ⟨(some 210), .pick (.t 207) (.t 209) (.c (.bool false)), none, false⟩, ⟨(some 211), .mov (.t 210), none, true⟩, ⟨(some 212), .mov (.t 6), (some (211, true)), false⟩, ⟨(some 213), .call 112 [(.t 212), (.c (.int .i64 1)), (.c (.int .i64 121))], (some (211, true)), false⟩, ⟨(some 214), .pick (.t 211) (.t 213) (.c (.bool false)), none, false⟩, ⟨(some 8), .mov (.t 214), none, false⟩])
 (.draw [⟨0, ⟨(some 215), .mov (.t 7), none, false⟩, false, [], []⟩, ⟨1, ⟨(some 216), .fld 2 1 false (.t 1), none, false⟩, false, [], []⟩, ⟨2, ⟨(some 217), .load false 1 (.t 216), none, false⟩, false, [], []⟩, ⟨3, ⟨(some 218), .fld 3 1 false (.t 1), none, false⟩, false, [], []⟩, ⟨4, ⟨(some 219), .load false 1 (.t 218), none, false⟩, false, [], []⟩, ⟨5, ⟨(some 220), .mov (.t 6), none, false⟩, false, [], []⟩, ⟨6, ⟨(some 221), .conv (.int .u16) (.t 220), none, false⟩, false, [], []⟩, ⟨7, ⟨(some 222), .bslice 1 (.int .u16) [(.int .u16 0), (.int .u16 0), (.int .u16 0)] [(0, 1, (.t 217)), (1, 1, (.t 219)), (2, 1, (.t 221))] 3, none, false⟩, false, [], []⟩, ⟨9, ⟨(some 224), .mov (.t 6), none, false⟩, false, [], []⟩, ⟨10, ⟨(some 225), .bin .mul .other (.c (.int .i64 2)) (.t 224), none, false⟩, false, [], []⟩, ⟨11, ⟨(some 226), .conv (.int .u8) (.t 225), none, false⟩, false, [], []⟩, ⟨12, ⟨(some 227), .bslice 1 (.int .u8) [(.int .u8 0)] [(0, 1, (.t 226))] 1, none, false⟩, false, [], []⟩, ⟨14, ⟨(some 229), .fld 5 1 false (.t 1), none, false⟩, false, [], []⟩, ⟨15, ⟨(some 230), .load false 1 (.t 229), none, false⟩, false, [], []⟩, ⟨8, ⟨(some 223), .call 111 [(.t 215), (.t 222)], none, false⟩, true, [7], [(.t 229)]⟩, ⟨13, ⟨(some 228), .app 1 1 (.t 223) (.t 227), none, false⟩, true, [7, 12], [(.t 229)]⟩, ⟨16, ⟨(some 231), .call 111 [(.t 228), (.t 230)], none, false⟩, true, [7, 12], []⟩, ⟨17, ⟨(some 7), .mov (.t 231), none, false⟩, false, [], []⟩]))
 .skip))))))))))))))))))
 (.seq (.seq (.reg [⟨(some 232), .mov (.t 8), none, false⟩, ⟨(some 233), .un .not (.t 232), none, false⟩])
 (.cond (.t 233) (.seq (.reg [⟨(some 2), .mov (.c .nils), none, false⟩, ⟨(some 3), .mov (.c (.int .i64 30)), none, false⟩])
 .ret)
 .skip))
 (.seq (.reg [⟨(some 234), .mov (.t 7), none, false⟩, ⟨(some 2), .mov (.t 234), none, false⟩, ⟨(some 3), .mov (.c (.int .i64 0)), none, false⟩])
 .ret)))))))
def r49 : List ARes := [.t 2, .t 3]
theorem c49 : compF Try.prog Try.f49 = some (a49, r49) := by kernel_rfl

theorem b49 : hasBody Try.prog 49 = true := by kernel_rfl
theorem g49 : Try.prog.funcs[49]? = some Try.f49 := by kernel_rfl

theorem rtwo_call {h h2 len n : Nat} {l m : List Int} {s : St} {K : AV → St → Prop} (hg2 : s.get h2 = some (.rowI .u16 m)) (hg : s.get h = some (.rowI .u8 l)) (hne : Nat.beq h h2 = false) (hn : n = m.length) (hl : len = l.length) (hb : l.length ≤ 1000) (hm : m.length ≤ 1000)
    (k : openS s fun n t => K (.sl 1 n 0 (l ++ twos m).length) ⟨n + 1, (n, some (.rowI .u8 (l ++ twos m))) :: (h, none) :: (h2, none) :: t⟩) : Tr Try.prog 111 [.sl 1 h 0 len, .sl 1 h2 0 n] s K :=
  rowCall2 (rtwo_tr l m hb hm) hg2 hg hne hn hl k
theorem rtwo_call1 {h len : Nat} {l m : List Int} {s : St} {K : AV → St → Prop} (hg : s.get h = some (.rowI .u8 l)) (hl : len = l.length) (hb : l.length ≤ 1000) (hm : m.length ≤ 1000)
    (k : openS s fun n t => K (.sl 1 n 0 (l ++ twos m).length) ⟨n + 1, (n, some (.rowI .u8 (l ++ twos m))) :: (h, none) :: t⟩) : Tr Try.prog 111 [.sl 1 h 0 len, .roI .u16 m] s K :=
  rowCall (rtwo_tr l m hb hm) rfl hg hl k
theorem rpack_ev (l : List Bool) (hl : l.length ≤ 100000) : Ev Try.prog 62 [.roB l] (.roI .u8 (packN l l.length)) := Ev.row rfl (by rw [packN_length]; exact rpack_tr l hl)
def encOk (f n a2 : Int) (b : List Bool) (r : List Int) : Bool :=
  if f == 1 then withinB n 2000 && (b.length : Int) == 0 && (r.length : Int) == 0 && a2 == 0
  else if f == 2 then withinB n 2000 && (b.length : Int) == 0 && (r.length : Int) == 0 && a2 == 0
  else if f == 3 then withinB n 125 && (b.length : Int) == 0 && (r.length : Int) == 0 && a2 == 0
  else if f == 4 then withinB n 125 && (b.length : Int) == 0 && (r.length : Int) == 0 && a2 == 0
  else if f == 5 then n == 0 && (b.length : Int) == 1 && (r.length : Int) == 0 && a2 == 0
  else if f == 6 then n == 0 && (b.length : Int) == 0 && (r.length : Int) == 1 && a2 == 0
  else if f == 15 then n == 0 && withinB b.length 1968 && (r.length : Int) == 0 && a2 == 0
  else if f == 16 then n == 0 && (b.length : Int) == 0 && withinB r.length 123 && a2 == 0
  else if f == 22 then n == 0 && (b.length : Int) == 0 && (r.length : Int) == 2 && a2 == 0
  else if f == 23 then withinB n 125 && (b.length : Int) == 0 && withinB r.length 121
  else false
def encR (f a n a2 : Int) (b : List Bool) (r : List Int) : List Int := if encOk f n a2 b r then (reqS f a n a2 b r).row else []
def encE (f n a2 : Int) (b : List Bool) (r : List Int) : Int := if encOk f n a2 b r then 0 else 30
theorem within3_1 (n m : Int) : within3 n 1 m = withinB n m := rfl
theorem enc_own (f a n a2 : Int) (b : List Bool) (r : List Int) : ((reqS f a n a2 b r).ok && (f == f && a == a && n == (reqS f a n a2 b r).n && a2 == (reqS f a n a2 b r).a2 && b == (reqS f a n a2 b r).b && r == (reqS f a n a2 b r).r)) = encOk f n a2 b r := by
  by_cases h1 : f = 1
  · subst h1; rw [Bool.eq_iff_iff]; simp [reqS, encOk, withinB, ← List.length_eq_zero_iff] <;> omega
  by_cases h2 : f = 2
  · subst h2; rw [Bool.eq_iff_iff]; simp [reqS, encOk, withinB, ← List.length_eq_zero_iff] <;> omega
  by_cases h3 : f = 3
  · subst h3; rw [Bool.eq_iff_iff]; simp [reqS, encOk, withinB, ← List.length_eq_zero_iff] <;> omega
  by_cases h4 : f = 4
  · subst h4; rw [Bool.eq_iff_iff]; simp [reqS, encOk, withinB, ← List.length_eq_zero_iff] <;> omega
  by_cases h5 : f = 5
  · subst h5; rw [Bool.eq_iff_iff]; simp [reqS, encOk, withinB, ← List.length_eq_zero_iff] <;> omega
  by_cases h6 : f = 6
  · subst h6; rw [Bool.eq_iff_iff]; simp [reqS, encOk, withinB, ← List.length_eq_zero_iff] <;> omega
  by_cases h22 : f = 22
  · subst h22; rw [Bool.eq_iff_iff]; simp [reqS, encOk, withinB, ← List.length_eq_zero_iff] <;> omega
  by_cases h15 : f = 15
  · subst h15; rw [Bool.eq_iff_iff]; simp [reqS, encOk, withinB, ← List.length_eq_zero_iff] <;> omega
  by_cases h16 : f = 16
  · subst h16; rw [Bool.eq_iff_iff]; simp [reqS, encOk, withinB, ← List.length_eq_zero_iff] <;> omega
  by_cases h23 : f = 23
  · subst h23; rw [Bool.eq_iff_iff]; simp [reqS, encOk, withinB, ← List.length_eq_zero_iff] <;> omega
  simp [reqS, encOk, *]
theorem same_ev (f a n a2 f' a' n' a2' : Int) (b b' : List Bool) (r r' : List Int) (hb : b.length ≤ 100000) (hr : r.length ≤ 100000) :
    Ev Try.prog 110 [reqA f a n a2 (.roB b) (.roI .u16 r), reqA f' a' n' a2' (.roB b') (.roI .u16 r')] (.bool (f == f' && a == a' && n == n' && a2 == a2' && b == b' && r == r')) := ⟨rfl, same_tr f a n a2 f' a' n' a2' b b' r r' hb hr⟩
theorem RawK.err {row l : List Int} {e e' : Int} {h len : Nat} {s : St} (hg : s.get h = some (.rowI .u8 l)) (hl : len = l.length) (hr : l = row) (he : e = e') : RawK row [.int .i64 e'] (.tup [.sl 1 h 0 len, .int .i64 e]) s := by
  subst hr; subst he; subst hl
  unfold RawK
  exact ⟨_, Le.refl _, .inl ⟨h, rfl, hg⟩⟩
theorem RawK.err0 {row : List Int} {e e' : Int} {s : St} (hr : row = []) (he : e = e') : RawK row [.int .i64 e'] (.tup [.nils, .int .i64 e]) s := by
  subst hr; subst he
  unfold RawK
  exact ⟨_, Le.refl _, .inr ⟨rfl, rfl⟩⟩
theorem Request_raw (f a n a2 : Int) (b : List Bool) (r : List Int) (hn0 : 0 ≤ n) (hn1 : n < 65536) (hb : b.length ≤ 2500) (hr : r.length ≤ 500) :
    Tr Try.prog 48 [reqA f a n a2 (.roB b) (.roI .u16 r)] ⟨0, []⟩ (RawK (encR f a n a2 b r) [.int .i64 (encE f n a2 b r)]) := by
  have h1 := request_tr f a n a2 b r hn0 hn1 hb hr
  have h2 := enc_own f a n a2 b r
  unfold encR encE
  generalize encOk f n a2 b r = o at *
  generalize reqS f a n a2 b r = q at *
  refine trF g48 b48 c48 ?_
  conv => whnf
  refine Ret1.call h1 rfl rfl ?_
  conv => whnf
  refine condS (fun h => ?_) (fun h => ?_)
  · conv => whnf
    have : o = false := by rw [← h2, show q.ok = false by simpa using h]; rfl
    subst this
    exact RawK.err0 rfl rfl
  · conv => whnf
    refine Ev.call (same_ev _ _ _ _ _ _ _ _ _ _ _ _ (by omega) (by omega)) ?_
    conv => whnf
    rw [show q.ok = true by simpa using h, Bool.true_and] at h2
    rw [h2]
    cases o
    · conv => whnf
      exact RawK.err0 rfl rfl
    · conv => whnf
      exact RawK.err rfl rfl rfl rfl
theorem Request_tr (f a n a2 : Int) (b : List Bool) (r : List Int) (hn0 : 0 ≤ n) (hn1 : n < 65536) (hb : b.length ≤ 2500) (hr : r.length ≤ 500) :
    Tr Try.prog 48 [reqA f a n a2 (.roB b) (.roI .u16 r)] ⟨0, []⟩ (Ret1 (encR f a n a2 b r) [.int .i64 (encE f n a2 b r)]) :=
  Ret1.of rfl ((Request_raw f a n a2 b r hn0 hn1 hb hr).mono fun v s h => by unfold RawK at h; exact h)
theorem Request_ev (f a n a2 : Int) (b : List Bool) (r : List Int) (hn0 : 0 ≤ n) (hn1 : n < 65536) (hb : b.length ≤ 2500) (hr : r.length ≤ 500) :
    Ev Try.prog 48 [reqA f a n a2 (.roB b) (.roI .u16 r)] (.tup [.roI .u8 (encR f a n a2 b r), .int .i64 (encE f n a2 b r)]) := Ret1.ev rfl (Request_tr f a n a2 b r hn0 hn1 hb hr)
theorem row_take (X : List Int) (c : Int) : List.take (X.length + 1) (List.drop 0 (List.take X.length (List.drop 0 X) ++ List.take 1 (List.drop 0 [c]))) = X ++ [c] := by
  rw [List.drop_zero, List.drop_zero, List.drop_zero, List.take_length]
  exact List.take_of_length_le (by simp)
set_option maxRecDepth 20000 in
set_option maxHeartbeats 4000000 in
theorem rRequest_raw (f a n a2 : Int) (b : List Bool) (r : List Int) (hn0 : 0 ≤ n) (hn1 : n < 65536) (hb : b.length ≤ 2500) (hr : r.length ≤ 500) :
    Tr Try.prog 49 [reqA f a n a2 (.roB b) (.roI .u16 r)] ⟨0, []⟩ (RawK (encR f a n a2 b r) [.int .i64 (encE f n a2 b r)]) := by
  have hw : IntKind.i64.wrap n = n := IntWalk.i64_in _ (by omega)
  have h15 : IntKind.i64.wrap ((IntKind.i64.wrap ((b.length : Int) + 7)).tdiv 8) = (((b.length + 7) / 8 : Nat) : Int) := by
    rw [show IntKind.i64.wrap ((b.length : Int) + 7) = ((b.length + 7 : Nat) : Int) from w64 (i := b.length + 7) (by omega)]
    exact q64 (by omega)
  refine trF g49 b49 c49 ?_
  conv => whnf
  repeat' (first
    | (refine condY (by assumption) ?_; conv => whnf)
    | (refine condN (by assumption) ?_; conv => whnf)
    | (refine condT (by first | assumption | (simp [twos_length, packN_length, two8]; done) | (simp [twos_length, packN_length, two8]; omega) | (simp_all; done) | (simp_all; omega)) ?_; conv => whnf)
    | (refine condF (fun h => ?_) (fun h => ?_) <;> conv => whnf)
    | (refine ⟨rfl, ?_⟩; conv => whnf)
    | (refine rtwo_call rfl rfl rfl (by first | (simp [twos_length, packN_length, two8]; done) | (simp [twos_length, packN_length, two8]; omega) | omega) (by first | (simp [twos_length, packN_length, two8]; done) | (simp [twos_length, packN_length, two8]; omega) | omega) (by first | (simp [twos_length, packN_length, two8]; done) | (simp [twos_length, packN_length, two8]; omega) | omega) (by first | (simp [twos_length, packN_length, two8]; done) | (simp [twos_length, packN_length, two8]; omega) | omega) ?_; conv => whnf)
    | (refine rtwo_call1 rfl (by first | (simp [twos_length, packN_length, two8]; done) | (simp [twos_length, packN_length, two8]; omega) | omega) (by first | (simp [twos_length, packN_length, two8]; done) | (simp [twos_length, packN_length, two8]; omega) | omega) (by first | (simp [twos_length, packN_length, two8]; done) | (simp [twos_length, packN_length, two8]; omega) | omega) ?_; conv => whnf)
    | (refine Ev.call (within3_ev _ _ _) ?_; conv => whnf)
    | (refine Ev.call (one_ev _) ?_; conv => whnf)
    | (refine Ev.call (rpack_ev _ (by omega)) ?_; conv => whnf)
    )
  all_goals (simp only [within3_1, hw, h15] at *)
  all_goals first
    | (have hk : encOk f n a2 b r = false := by simp_all [encOk]
       exact RawK.err0 (by simp [encR, hk]) (by simp [encE, hk]))
    | (have hk : encOk f n a2 b r = true := by simp_all [encOk]
       refine RawK.err rfl (by first | rfl | (simp [packN_length]; done) | (simp [packN_length]; omega)) ?_ (by simp [encE, hk])
       simp only [encR, hk, if_true, reqS, *, Bool.false_eq_true, if_false]
       first | rfl | (simp [row15, rowR, pre3, packN_length, coilN, twos]; done) | (have h16 := eq_of_beq (show (f == 16) = true by assumption); subst h16; show _ = rowR (pre3 16 a) r; rfl) | (have h16 := eq_of_beq (show (f == 15) = true by assumption); subst h16; show _ = row15 15 a b; rw [row_take]; rfl) | (exfalso; simp_all; done))
theorem rRequest_ev (f a n a2 : Int) (b : List Bool) (r : List Int) (hn0 : 0 ≤ n) (hn1 : n < 65536) (hb : b.length ≤ 2500) (hr : r.length ≤ 500) :
    Ev Try.prog 49 [reqA f a n a2 (.roB b) (.roI .u16 r)] (.tup [.roI .u8 (encR f a n a2 b r), .int .i64 (encE f n a2 b r)]) :=
  Ret1.ev rfl (Ret1.of rfl ((rRequest_raw f a n a2 b r hn0 hn1 hb hr).mono fun v s h => by unfold RawK at h; exact h))
end Go.Proofs.Ytomodeliimnddaa
