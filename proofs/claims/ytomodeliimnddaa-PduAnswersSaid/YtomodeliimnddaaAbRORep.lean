/- Contracts: bytes read as replies: the document's. -/
import Derived.Test.YtomodeliimnddaaAbROpen
import Derived.Test.YtomodeliimnddaaAbORep
import Derived.Test.YtomodeliimnddaaAbPlain3
set_option linter.unusedVariables false
set_option linter.unusedSimpArgs false
namespace Go.Proofs.Ytomodeliimnddaa
open Go.Ab
/- rung/rungref3.same -/
def a123 : ACode := (.seq (.reg [⟨(some 4), .mov (.c (.bool false)), none, false⟩])
 (.seq (.reg [⟨(some 5), .mov (.t 0), none, false⟩, ⟨(some 6), .conv .toStr (.t 5), none, false⟩, ⟨(some 7), .mov (.t 1), none, false⟩, ⟨(some 8), .conv .toStr (.t 7), none, false⟩, ⟨(some 9), .bin .eql .other (.t 6) (.t 8), none, false⟩, ⟨(some 4), .mov (.t 9), none, false⟩])
 .ret))
def r123 : List ARes := [.t 4]
theorem c123 : compF Try.prog Try.f123 = some (a123, r123) := by kernel_rfl

/- rung/rungref3.OpenReply -/
def a59 : ACode := (.seq (.reg [⟨(some 2), .box (.t 0), none, false⟩, ⟨(some 4), .alloc [(2, (.int .u8 0)), (2, (.int .u16 0)), (2, .nils)], none, false⟩, ⟨(some 5), .mov (.c (.int .i64 0)), none, false⟩])
 (.seq (.reg [⟨(some 10), .load true 6 (.t 2), none, false⟩, ⟨(some 11), .call 49 [(.t 10)], none, false⟩, ⟨(some 9), .mov (.t 11), none, false⟩, ⟨(some 12), .ext (.t 9) 0, none, false⟩, ⟨(some 13), .ext (.t 9) 1, none, false⟩, ⟨(some 6), .mov (.t 12), none, false⟩, ⟨(some 7), .mov (.t 13), none, false⟩])
 (.seq (.seq (.reg [⟨(some 14), .mov (.t 7), none, false⟩, ⟨(some 15), .bin .neq .other (.t 14) (.c (.int .i64 0)), none, false⟩, ⟨(some 16), .mov (.t 15), none, true⟩, ⟨(some 17), .mov (.t 1), (some (16, false)), false⟩, ⟨(some 18), .len false (.t 17), (some (16, false)), false⟩, ⟨(some 19), .bin .lss .other (.t 18) (.c (.int .i64 2)), (some (16, false)), false⟩, ⟨(some 20), .pick (.t 16) (.c (.bool true)) (.t 19), none, false⟩])
 (.cond (.t 20) (.seq (.reg [⟨(some 21), .build [(.int .u8 0), (.int .u8 0), (.int .u16 0), (.int .u16 0), .nils, .nils] [], none, false⟩, ⟨none, .store 6 (.t 4) (.t 21), none, false⟩, ⟨(some 5), .mov (.c (.int .i64 30)), none, false⟩])
 .ret)
 .skip))
 (.seq (.seq (.draw [⟨0, ⟨(some 22), .mov (.t 1), none, false⟩, false, [], []⟩, ⟨1, ⟨(some 23), .idx 1 none false (.t 22) (.c (.int .i64 0)), none, false⟩, false, [], []⟩, ⟨2, ⟨(some 24), .load false 1 (.t 23), none, false⟩, false, [], []⟩, ⟨3, ⟨(some 25), .fld 0 1 false (.t 2), none, false⟩, false, [], []⟩, ⟨4, ⟨(some 26), .load false 1 (.t 25), none, false⟩, false, [], []⟩, ⟨5, ⟨(some 27), .bin .or .other (.t 26) (.c (.int .u8 128)), none, false⟩, false, [], []⟩, ⟨6, ⟨(some 28), .bin .eql .other (.t 24) (.t 27), none, false⟩, false, [], []⟩])
 (.cond (.t 28) (.seq (.seq (.reg [⟨(some 29), .mov (.t 1), none, false⟩, ⟨(some 30), .len false (.t 29), none, false⟩, ⟨(some 31), .bin .neq .other (.t 30) (.c (.int .i64 2)), none, false⟩, ⟨(some 32), .mov (.t 31), none, true⟩, ⟨(some 33), .mov (.t 1), (some (32, false)), false⟩, ⟨(some 34), .idx 1 none false (.t 33) (.c (.int .i64 1)), (some (32, false)), false⟩, ⟨(some 35), .load false 1 (.t 34), (some (32, false)), false⟩, ⟨(some 36), .bin .eql .other (.t 35) (.c (.int .u8 0)), (some (32, false)), false⟩, ⟨(some 37), .pick (.t 32) (.c (.bool true)) (.t 36), none, false⟩])
 (.cond (.t 37) (.seq (.reg [⟨(some 38), .build [(.int .u8 0), (.int .u8 0), (.int .u16 0), (.int .u16 0), .nils, .nils] [], none, false⟩, ⟨none, .store 6 (.t 4) (.t 38), none, false⟩, ⟨(some 5), .mov (.c (.int .i64 30)), none, false⟩])
 .ret)
 .skip))
 (.seq (.draw [⟨0, ⟨(some 39), .fld 0 1 false (.t 2), none, false⟩, false, [], []⟩, ⟨1, ⟨(some 40), .load false 1 (.t 39), none, false⟩, false, [], []⟩, ⟨2, ⟨(some 41), .mov (.t 1), none, false⟩, false, [], []⟩, ⟨3, ⟨(some 42), .idx 1 none false (.t 41) (.c (.int .i64 1)), none, false⟩, false, [], []⟩, ⟨4, ⟨(some 43), .load false 1 (.t 42), none, false⟩, false, [], []⟩, ⟨5, ⟨(some 44), .build [(.int .u8 0), (.int .u8 0), (.int .u16 0), (.int .u16 0), .nils, .nils] [(0, 1, (.t 40)), (1, 1, (.t 43))], none, false⟩, false, [], []⟩, ⟨6, ⟨none, .store 6 (.t 4) (.t 44), none, false⟩, true, [], []⟩, ⟨7, ⟨(some 5), .mov (.c (.int .i64 0)), none, false⟩, false, [], []⟩])
 .ret))
 .skip))
 (.seq (.seq (.draw [⟨0, ⟨(some 45), .mov (.t 1), none, false⟩, false, [], []⟩, ⟨1, ⟨(some 46), .idx 1 none false (.t 45) (.c (.int .i64 0)), none, false⟩, false, [], []⟩, ⟨2, ⟨(some 47), .load false 1 (.t 46), none, false⟩, false, [], []⟩, ⟨3, ⟨(some 48), .fld 0 1 false (.t 2), none, false⟩, false, [], []⟩, ⟨4, ⟨(some 49), .load false 1 (.t 48), none, false⟩, false, [], []⟩, ⟨5, ⟨(some 50), .bin .neq .other (.t 47) (.t 49), none, false⟩, false, [], []⟩])
 (.cond (.t 50) (.seq (.reg [⟨(some 51), .build [(.int .u8 0), (.int .u8 0), (.int .u16 0), (.int .u16 0), .nils, .nils] [], none, false⟩, ⟨none, .store 6 (.t 4) (.t 51), none, false⟩, ⟨(some 5), .mov (.c (.int .i64 30)), none, false⟩])
 .ret)
 .skip))
 (.seq (.reg [⟨(some 52), .fld 0 1 false (.t 2), none, false⟩, ⟨(some 53), .load false 1 (.t 52), none, false⟩, ⟨(some 54), .build [(.int .u8 0), (.int .u8 0), (.int .u16 0), (.int .u16 0), .nils, .nils] [(0, 1, (.t 53))], none, false⟩, ⟨(some 8), .alloc [(2, (.int .u8 0)), (2, (.int .u16 0)), (2, .nils)], none, false⟩, ⟨none, .store 6 (.t 8) (.t 54), none, false⟩])
 (.seq (.seq (.reg [⟨(some 55), .fld 0 1 false (.t 2), none, false⟩, ⟨(some 56), .load false 1 (.t 55), none, false⟩])
 (.block 0 (.seq (.seq (.reg [⟨(some 70), .bin .eql .other (.t 56) (.c (.int .u8 1)), none, false⟩, ⟨(some 69), .mov (.t 70), none, false⟩])
 (.cond (.t 69) .skip
 (.reg [⟨(some 71), .bin .eql .other (.t 56) (.c (.int .u8 2)), none, false⟩, ⟨(some 69), .mov (.t 71), none, false⟩])))
 (.cond (.t 69) (.seq (.seq (.draw [⟨0, ⟨(some 72), .mov (.t 1), none, false⟩, false, [], []⟩, ⟨1, ⟨(some 73), .idx 1 none false (.t 72) (.c (.int .i64 1)), none, false⟩, false, [], []⟩, ⟨2, ⟨(some 74), .load false 1 (.t 73), none, false⟩, false, [], []⟩, ⟨3, ⟨(some 75), .conv (.int .i64) (.t 74), none, false⟩, false, [], []⟩, ⟨4, ⟨(some 76), .fld 2 1 false (.t 2), none, false⟩, false, [], []⟩, ⟨5, ⟨(some 77), .load false 1 (.t 76), none, false⟩, false, [], []⟩, ⟨6, ⟨(some 78), .conv (.int .i64) (.t 77), none, false⟩, false, [], []⟩, ⟨7, ⟨(some 79), .bin .add .other (.t 78) (.c (.int .i64 7)), none, false⟩, false, [], []⟩, ⟨8, ⟨(some 80), .bin .quo .other (.t 79) (.c (.int .i64 8)), none, false⟩, false, [], []⟩, ⟨9, ⟨(some 81), .bin .neq .other (.t 75) (.t 80), none, false⟩, false, [], []⟩, ⟨10, ⟨(some 82), .mov (.t 81), none, true⟩, false, [], []⟩, ⟨11, ⟨(some 83), .mov (.t 1), (some (82, false)), false⟩, false, [], []⟩, ⟨12, ⟨(some 84), .len false (.t 83), (some (82, false)), false⟩, false, [], []⟩, ⟨13, ⟨(some 85), .mov (.t 1), (some (82, false)), false⟩, false, [], []⟩, ⟨14, ⟨(some 86), .idx 1 none false (.t 85) (.c (.int .i64 1)), (some (82, false)), false⟩, false, [], []⟩, ⟨15, ⟨(some 87), .load false 1 (.t 86), (some (82, false)), false⟩, false, [], []⟩, ⟨16, ⟨(some 88), .conv (.int .i64) (.t 87), (some (82, false)), false⟩, false, [], []⟩, ⟨17, ⟨(some 89), .bin .add .other (.c (.int .i64 2)) (.t 88), (some (82, false)), false⟩, false, [], []⟩, ⟨18, ⟨(some 90), .bin .neq .other (.t 84) (.t 89), (some (82, false)), false⟩, false, [], []⟩, ⟨19, ⟨(some 91), .pick (.t 82) (.c (.bool true)) (.t 90), none, false⟩, false, [], []⟩])
 (.cond (.t 91) (.seq (.reg [⟨(some 92), .build [(.int .u8 0), (.int .u8 0), (.int .u16 0), (.int .u16 0), .nils, .nils] [], none, false⟩, ⟨none, .store 6 (.t 4) (.t 92), none, false⟩, ⟨(some 5), .mov (.c (.int .i64 30)), none, false⟩])
 .ret)
 .skip))
 (.draw [⟨0, ⟨(some 93), .mov (.t 1), none, false⟩, false, [], []⟩, ⟨1, ⟨(some 94), .slice (.sl 1) (.t 93) (some (.c (.int .i64 2))) none, none, false⟩, false, [], []⟩, ⟨2, ⟨(some 95), .fld 2 1 false (.t 2), none, false⟩, false, [], []⟩, ⟨3, ⟨(some 96), .load false 1 (.t 95), none, false⟩, false, [], []⟩, ⟨4, ⟨(some 97), .conv (.int .i64) (.t 96), none, false⟩, false, [], []⟩, ⟨5, ⟨(some 98), .call 67 [(.t 94), (.t 97)], none, false⟩, true, [], []⟩, ⟨6, ⟨(some 99), .fld 4 1 false (.t 8), none, false⟩, false, [], []⟩, ⟨7, ⟨none, .store 1 (.t 99) (.t 98), none, false⟩, true, [], []⟩]))
 (.seq (.seq (.reg [⟨(some 101), .bin .eql .other (.t 56) (.c (.int .u8 3)), none, false⟩, ⟨(some 100), .mov (.t 101), none, false⟩])
 (.cond (.t 100) .skip
 (.seq (.reg [⟨(some 102), .bin .eql .other (.t 56) (.c (.int .u8 4)), none, false⟩, ⟨(some 100), .mov (.t 102), none, false⟩])
 (.cond (.t 100) .skip
 (.reg [⟨(some 103), .bin .eql .other (.t 56) (.c (.int .u8 23)), none, false⟩, ⟨(some 100), .mov (.t 103), none, false⟩])))))
 (.cond (.t 100) (.seq (.seq (.draw [⟨0, ⟨(some 104), .mov (.t 1), none, false⟩, false, [], []⟩, ⟨1, ⟨(some 105), .idx 1 none false (.t 104) (.c (.int .i64 1)), none, false⟩, false, [], []⟩, ⟨2, ⟨(some 106), .load false 1 (.t 105), none, false⟩, false, [], []⟩, ⟨3, ⟨(some 107), .conv (.int .i64) (.t 106), none, false⟩, false, [], []⟩, ⟨4, ⟨(some 108), .fld 2 1 false (.t 2), none, false⟩, false, [], []⟩, ⟨5, ⟨(some 109), .load false 1 (.t 108), none, false⟩, false, [], []⟩, ⟨6, ⟨(some 110), .conv (.int .i64) (.t 109), none, false⟩, false, [], []⟩, ⟨7, ⟨(some 111), .bin .mul .other (.c (.int .i64 2)) (.t 110), none, false⟩, false, [], []⟩, ⟨8, ⟨(some 112), .bin .neq .other (.t 107) (.t 111), none, false⟩, false, [], []⟩, ⟨9, ⟨(some 113), .mov (.t 112), none, true⟩, false, [], []⟩, ⟨10, ⟨(some 114), .mov (.t 1), (some (113, false)), false⟩, false, [], []⟩, ⟨11, ⟨(some 115), .len false (.t 114), (some (113, false)), false⟩, false, [], []⟩, ⟨12, ⟨(some 116), .mov (.t 1), (some (113, false)), false⟩, false, [], []⟩, ⟨13, ⟨(some 117), .idx 1 none false (.t 116) (.c (.int .i64 1)), (some (113, false)), false⟩, false, [], []⟩, ⟨14, ⟨(some 118), .load false 1 (.t 117), (some (113, false)), false⟩, false, [], []⟩, ⟨15, ⟨(some 119), .conv (.int .i64) (.t 118), (some (113, false)), false⟩, false, [], []⟩, ⟨16, ⟨(some 120), .bin .add .other (.c (.int .i64 2)) (.t 119), (some (113, false)), false⟩, false, [], []⟩, ⟨17, ⟨(some 121), .bin .neq .other (.t 115) (.t 120), (some (113, false)), false⟩, false, [], []⟩, ⟨18, ⟨(some 122), .pick (.t 113) (.c (.bool true)) (.t 121), none, false⟩, false, [], []⟩])
 (.cond (.t 122) (.seq (.reg [⟨(some 123), .build [(.int .u8 0), (.int .u8 0), (.int .u16 0), (.int .u16 0), .nils, .nils] [], none, false⟩, ⟨none, .store 6 (.t 4) (.t 123), none, false⟩, ⟨(some 5), .mov (.c (.int .i64 30)), none, false⟩])
 .ret)
 .skip))
 (.reg [⟨(some 124), .mov (.t 1), none, false⟩, ⟨(some 125), .slice (.sl 1) (.t 124) (some (.c (.int .i64 2))) none, none, false⟩, ⟨(some 126), .call 117 [(.t 125)], none, false⟩, ⟨(some 127), .fld 5 1 false (.t 8), none, false⟩, ⟨none, .store 1 (.t 127) (.t 126), none, false⟩]))
 (.seq (.seq (.reg [⟨(some 129), .bin .eql .other (.t 56) (.c (.int .u8 5)), none, false⟩, ⟨(some 128), .mov (.t 129), none, false⟩])
 (.cond (.t 128) .skip
 (.seq (.reg [⟨(some 130), .bin .eql .other (.t 56) (.c (.int .u8 6)), none, false⟩, ⟨(some 128), .mov (.t 130), none, false⟩])
 (.cond (.t 128) .skip
 (.reg [⟨(some 131), .bin .eql .other (.t 56) (.c (.int .u8 22)), none, false⟩, ⟨(some 128), .mov (.t 131), none, false⟩])))))
 (.cond (.t 128) (.seq (.seq (.reg [⟨(some 132), .mov (.t 1), none, false⟩, ⟨(some 133), .mov (.t 6), none, false⟩, ⟨(some 134), .call 123 [(.t 132), (.t 133)], none, false⟩, ⟨(some 135), .un .not (.t 134), none, false⟩])
 (.cond (.t 135) (.seq (.reg [⟨(some 136), .build [(.int .u8 0), (.int .u8 0), (.int .u16 0), (.int .u16 0), .nils, .nils] [], none, false⟩, ⟨none, .store 6 (.t 4) (.t 136), none, false⟩, ⟨(some 5), .mov (.c (.int .i64 30)), none, false⟩])
 .ret)
 .skip))
 (.draw [⟨0, ⟨(some 137), .fld 1 1 false (.t 2), none, false⟩, false, [], []⟩, ⟨1, ⟨(some 138), .load false 1 (.t 137), none, false⟩, false, [], []⟩, ⟨2, ⟨(some 139), .fld 4 1 false (.t 2), none, false⟩, false, [], []⟩, ⟨3, ⟨(some 140), .load false 1 (.t 139), none, false⟩, false, [], []⟩, ⟨4, ⟨(some 141), .fld 5 1 false (.t 2), none, false⟩, false, [], []⟩, ⟨5, ⟨(some 142), .load false 1 (.t 141), none, false⟩, false, [], []⟩, ⟨6, ⟨(some 143), .fld 2 1 false (.t 8), none, false⟩, false, [], []⟩, ⟨7, ⟨none, .store 1 (.t 143) (.t 138), none, false⟩, true, [], [(.t 139), (.t 141)]⟩, ⟨8, ⟨(some 144), .fld 4 1 false (.t 8), none, false⟩, false, [], []⟩, ⟨9, ⟨none, .store 1 (.t 144) (.t 140), none, false⟩, true, [], [(.t 141)]⟩, ⟨10, ⟨(some 145), .fld 5 1 false (.t 8), none, false⟩, false, [], []⟩, ⟨11, ⟨none, .store 1 (.t 145) (.t 142), none, false⟩, true, [], []⟩]))
 (.seq (.seq (.reg [⟨(some 57), .mov (.t 1), none, false⟩, ⟨(some 58), .mov (.t 6), none, false⟩, ⟨(some 59), .slice (.sl 1) (.t 58) none (some (.c (.int .i64 5))), none, false⟩, ⟨(some 60), .call 123 [(.t 57), (.t 59)], none, false⟩, ⟨(some 61), .un .not (.t 60), none, false⟩])
 (.cond (.t 61) (.seq (.reg [⟨(some 62), .build [(.int .u8 0), (.int .u8 0), (.int .u16 0), (.int .u16 0), .nils, .nils] [], none, false⟩, ⟨none, .store 6 (.t 4) (.t 62), none, false⟩, ⟨(some 5), .mov (.c (.int .i64 30)), none, false⟩])
 .ret)
 .skip))
 (.draw [⟨0, ⟨(some 63), .fld 1 1 false (.t 2), none, false⟩, false, [], []⟩, ⟨1, ⟨(some 64), .load false 1 (.t 63), none, false⟩, false, [], []⟩, ⟨2, ⟨(some 65), .mov (.t 1), none, false⟩, false, [], []⟩, ⟨4, ⟨(some 67), .fld 2 1 false (.t 8), none, false⟩, false, [], []⟩, ⟨3, ⟨(some 66), .call 116 [(.t 65), (.c (.int .i64 3))], none, false⟩, true, [], [(.t 63)]⟩, ⟨5, ⟨none, .store 1 (.t 67) (.t 64), none, false⟩, true, [], []⟩, ⟨6, ⟨(some 68), .fld 3 1 false (.t 8), none, false⟩, false, [], []⟩, ⟨7, ⟨none, .store 1 (.t 68) (.t 66), none, false⟩, true, [], []⟩]))))))))))
 (.seq (.reg [⟨(some 146), .load true 6 (.t 8), none, false⟩, ⟨none, .store 6 (.t 4) (.t 146), none, false⟩, ⟨(some 5), .mov (.c (.int .i64 0)), none, false⟩])
 .ret))))))))
def r59 : List ARes := [.cell 4 true 6, .t 5]
theorem c59 : compF Try.prog Try.f59 = some (a59, r59) := by kernel_rfl


theorem b123 : hasBody Try.prog 123 = true := by kernel_rfl
theorem g123 : Try.prog.funcs[123]? = some Try.f123 := by kernel_rfl
theorem b59 : hasBody Try.prog 59 = true := by kernel_rfl
theorem g59 : Try.prog.funcs[59]? = some Try.f59 := by kernel_rfl
theorem rsame_ev (l m : List Int) (hl : isB l) (hm : isB m) : Ev Try.prog 123 [.roI .u8 l, .roI .u8 m] (.bool (l == m)) := by
  refine FrzK.ev rfl (trF g123 b123 c123 ?_)
  conv => whnf
  refine FrzK.le (leBool ?_)
  have e : ((bytesStr l).toList == (bytesStr m).toList) = (l == m) := by
    rw [ByteArray.toList_eq, ByteArray.toList_eq, Bool.eq_iff_iff]
    simp only [beq_iff_eq]
    exact ⟨fun h => map_inj l m hl hm h, fun h => by rw [h]⟩
  exact e
def rorepT (q : Rq) (l asked : List Int) : Rp × Int :=
  if q.f == 1 then (if IntKind.i64.wrap (l.getD 1 0) != nB q.n || (l.length : Int) != IntKind.i64.wrap (2 + IntKind.i64.wrap (l.getD 1 0)) then (Rp.zero, 30) else (⟨q.f, 0, 0, 0, bitsA (cutF l 2) (bitsK (IntKind.i64.wrap q.n)), []⟩, 0))
  else if q.f == 2 then (if IntKind.i64.wrap (l.getD 1 0) != nB q.n || (l.length : Int) != IntKind.i64.wrap (2 + IntKind.i64.wrap (l.getD 1 0)) then (Rp.zero, 30) else (⟨q.f, 0, 0, 0, bitsA (cutF l 2) (bitsK (IntKind.i64.wrap q.n)), []⟩, 0))
  else if q.f == 3 then (if IntKind.i64.wrap (l.getD 1 0) != IntKind.i64.wrap (2 * IntKind.i64.wrap q.n) || (l.length : Int) != IntKind.i64.wrap (2 + IntKind.i64.wrap (l.getD 1 0)) then (Rp.zero, 30) else (⟨q.f, 0, 0, 0, [], numsN (cutF l 2) ((cutF l 2).length / 2)⟩, 0))
  else if q.f == 4 then (if IntKind.i64.wrap (l.getD 1 0) != IntKind.i64.wrap (2 * IntKind.i64.wrap q.n) || (l.length : Int) != IntKind.i64.wrap (2 + IntKind.i64.wrap (l.getD 1 0)) then (Rp.zero, 30) else (⟨q.f, 0, 0, 0, [], numsN (cutF l 2) ((cutF l 2).length / 2)⟩, 0))
  else if q.f == 23 then (if IntKind.i64.wrap (l.getD 1 0) != IntKind.i64.wrap (2 * IntKind.i64.wrap q.n) || (l.length : Int) != IntKind.i64.wrap (2 + IntKind.i64.wrap (l.getD 1 0)) then (Rp.zero, 30) else (⟨q.f, 0, 0, 0, [], numsN (cutF l 2) ((cutF l 2).length / 2)⟩, 0))
  else if q.f == 5 then (if !(l == asked) then (Rp.zero, 30) else (⟨q.f, 0, q.a, 0, q.b, q.r⟩, 0))
  else if q.f == 6 then (if !(l == asked) then (Rp.zero, 30) else (⟨q.f, 0, q.a, 0, q.b, q.r⟩, 0))
  else if q.f == 22 then (if !(l == asked) then (Rp.zero, 30) else (⟨q.f, 0, q.a, 0, q.b, q.r⟩, 0))
  else (if !(l == asked.take 5) then (Rp.zero, 30) else (⟨q.f, 0, q.a, numAt l 3, [], []⟩, 0))
def rorepA (q : Rq) (l asked : List Int) (e : Int) : Rp × Int :=
  if e != 0 then (Rp.zero, 30)
  else if decide ((l.length : Int) < 2) then (Rp.zero, 30)
  else if l.getD 0 0 == or128 q.f then (if (l.length : Int) != 2 then (Rp.zero, 30) else if l.getD 1 0 == 0 then (Rp.zero, 30) else (⟨q.f, l.getD 1 0, 0, 0, [], []⟩, 0))
  else if l.getD 0 0 != q.f then (Rp.zero, 30)
  else rorepT q l asked
def rorepS (q : Rq) (l : List Int) : Rp × Int := rorepA q l (encR q.f q.a q.n q.a2 q.b q.r) (encE q.f q.n q.a2 q.b q.r)
theorem enc5 (f a n a2 : Int) (b : List Bool) (r : List Int) (h : encE f n a2 b r = 0) : 5 ≤ (encR f a n a2 b r).length := by
  have hk : encOk f n a2 b r = true := by
    by_cases hk : encOk f n a2 b r = true
    · exact hk
    · unfold encE at h; rw [if_neg hk] at h; omega
  exact (expl_enc f a n a2 b r hk).2.2.1
set_option maxRecDepth 20000 in
set_option maxHeartbeats 4000000 in
theorem rOpenReply_raw (f a n a2 : Int) (b : List Bool) (r : List Int) (l : List Int) (hf : 0 ≤ f ∧ f < 256) (hn0 : 0 ≤ n) (hn1 : n < 65536) (hb : b.length ≤ 2500) (hr : r.length ≤ 200) (hl : l.length ≤ 1000) (hB : isB l) :
    Tr Try.prog 59 [reqA f a n a2 (.roB b) (.roI .u16 r), .roI .u8 l] ⟨0, []⟩ (FrzK (.tup [rpA (rorepS ⟨f, a, n, a2, b, r⟩ l).1, .int .i64 (rorepS ⟨f, a, n, a2, b, r⟩ l).2])) := by
  have hAB := enc_byte f a n a2 b r hf.1 hf.2
  have hA5 := enc5 f a n a2 b r
  refine trF g59 b59 c59 ?_
  conv => whnf
  refine Ev.call (rRequest_ev f a n a2 b r hn0 hn1 hb (by omega)) ?_
  conv => whnf
  unfold rorepS
  show _
  generalize encR f a n a2 b r = asked at *
  generalize encE f n a2 b r = e at *
  have hT5 : isB (asked.take 5) := fun x hx => hAB x (List.mem_of_mem_take hx)
  repeat' (first
    | (refine condY (by assumption) ?_; conv => whnf)
    | (refine condN (by assumption) ?_; conv => whnf)
    | (refine condT (by first | assumption | (simp; omega) | (have := hA5 (by simp_all); simp; omega) | (simp_all; done) | (simp_all; omega)) ?_; conv => whnf)
    | (refine condF (fun h => ?_) (fun h => ?_) <;> conv => whnf)
    | (refine ⟨rfl, ?_⟩; conv => whnf)
    | (refine Ev.call (rregs_ev _ (by first | omega | (simp [cutF, numsN_length, bitsA_length]; done) | (simp [cutF, numsN_length, bitsA_length]; omega) | (simp_all; omega))) ?_; conv => whnf)
    | (refine Ev.call (rbits_ev _ _ (by first | omega | (simp [cutF, numsN_length, bitsA_length]; done) | (simp [cutF, numsN_length, bitsA_length]; omega) | (simp_all; omega))) ?_; conv => whnf)
    | (refine Ev.call (rsame_ev _ _ hB hAB) ?_; conv => whnf)
    | (refine Ev.call (rsame_ev _ _ hB hT5) ?_; conv => whnf)
    | (refine Ev.call (at_ev' l 3 3 rfl (by
        have h5 := hA5 (by simp_all)
        have h6 : l = asked.take 5 := by simp_all
        rw [h6]; simp; omega) (by omega)) ?_; conv => whnf)
    )
  all_goals (try simp only [show Int.toNat 0 = 0 from rfl, show Int.toNat 1 = 1 from rfl, show Int.toNat 2 = 2 from rfl] at *)
  all_goals (try have hx : (l.getD 0 0 == or128 f) = false := by assumption)
  all_goals (try have hx : (l.getD 0 0 == or128 f) = true := by assumption)
  all_goals (try have hy : (!(l == asked.take 5)) = false := by assumption)
  all_goals (try have hy : (!(l == asked.take 5)) = true := by assumption)
  all_goals (generalize ho : rorepA ⟨f, a, n, a2, b, r⟩ l asked e = o; simp only [rorepA, rorepT, cutF, nB, *, if_true, if_false, Bool.false_eq_true, Bool.or_false, Bool.false_or, Bool.true_or, Bool.or_true, Bool.and_true, Bool.true_and, Bool.false_and, Bool.and_false] at ho)
  all_goals (try (first | erw [if_pos h] at ho | erw [if_neg (fun e => Bool.noConfusion (e.symm.trans h))] at ho))
  all_goals subst ho
  all_goals first
    | exact FrzK.le (leRep rfl rfl rfl rfl (by first | exact Le.refl _ | exact Le.nilB) (by first | exact Le.refl _ | exact Le.nilI _) rfl)
theorem rOpenReply_ev (f a n a2 : Int) (b : List Bool) (r : List Int) (l : List Int) (hf : 0 ≤ f ∧ f < 256) (hn0 : 0 ≤ n) (hn1 : n < 65536) (hb : b.length ≤ 2500) (hr : r.length ≤ 200) (hl : l.length ≤ 1000) (hB : isB l) :
    Ev Try.prog 59 [reqA f a n a2 (.roB b) (.roI .u16 r), .roI .u8 l] (.tup [rpA (rorepS ⟨f, a, n, a2, b, r⟩ l).1, .int .i64 (rorepS ⟨f, a, n, a2, b, r⟩ l).2]) := FrzK.ev rfl (rOpenReply_raw f a n a2 b r l hf hn0 hn1 hb hr hl hB)
end Go.Proofs.Ytomodeliimnddaa
