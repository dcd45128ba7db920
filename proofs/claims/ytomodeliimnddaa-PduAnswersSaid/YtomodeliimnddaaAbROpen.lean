/- Contracts: bytes read as requests: the document's. -/
import Derived.Test.YtomodeliimnddaaAbOpen2
set_option linter.unusedVariables false
set_option linter.unusedSimpArgs false
namespace Go.Proofs.Ytomodeliimnddaa
open Go.Ab
/- rung/rungref3.at -/
def a116 : ACode := (.seq (.reg [⟨(some 4), .mov (.c (.int .u16 0)), none, false⟩])
 (.seq (.draw [⟨0, ⟨(some 5), .mov (.t 0), none, false⟩, false, [], []⟩, ⟨1, ⟨(some 6), .mov (.t 1), none, false⟩, false, [], []⟩, ⟨2, ⟨(some 7), .idx 1 none false (.t 5) (.t 6), none, false⟩, false, [], []⟩, ⟨3, ⟨(some 8), .load false 1 (.t 7), none, false⟩, false, [], []⟩, ⟨4, ⟨(some 9), .conv (.int .u16) (.t 8), none, false⟩, false, [], []⟩, ⟨5, ⟨(some 10), .bin .shl .other (.t 9) (.c (.int .u64 8)), none, false⟩, false, [], []⟩, ⟨6, ⟨(some 11), .mov (.t 0), none, false⟩, false, [], []⟩, ⟨7, ⟨(some 12), .mov (.t 1), none, false⟩, false, [], []⟩, ⟨8, ⟨(some 13), .bin .add .other (.t 12) (.c (.int .i64 1)), none, false⟩, false, [], []⟩, ⟨9, ⟨(some 14), .idx 1 none false (.t 11) (.t 13), none, false⟩, false, [], []⟩, ⟨10, ⟨(some 15), .load false 1 (.t 14), none, false⟩, false, [], []⟩, ⟨11, ⟨(some 16), .conv (.int .u16) (.t 15), none, false⟩, false, [], []⟩, ⟨12, ⟨(some 17), .bin .or .other (.t 10) (.t 16), none, false⟩, false, [], []⟩, ⟨13, ⟨(some 4), .mov (.t 17), none, false⟩, false, [], []⟩])
 .ret))
def r116 : List ARes := [.t 4]
theorem c116 : compF Try.prog Try.f116 = some (a116, r116) := by kernel_rfl

theorem b116 : hasBody Try.prog 116 = true := by kernel_rfl
theorem g116 : Try.prog.funcs[116]? = some Try.f116 := by kernel_rfl
/- rung/rungref3.regs -/
def a117 : ACode := (.seq (.reg [⟨(some 2), .mov (.c .nils), none, false⟩])
 (.seq (.reg [⟨(some 3), .mov (.c .nils), none, false⟩])
 (.seq (.seq (.reg [⟨(some 4), .mov (.c (.int .i64 0)), none, false⟩])
 (.block 0 (.loop (.seq (.seq (.reg [⟨(some 5), .mov (.t 4), none, false⟩, ⟨(some 6), .bin .add .other (.t 5) (.c (.int .i64 1)), none, false⟩, ⟨(some 7), .mov (.t 0), none, false⟩, ⟨(some 8), .len false (.t 7), none, false⟩, ⟨(some 9), .bin .lss .other (.t 6) (.t 8), none, false⟩])
 (.cond (.t 9) .skip
 (.exit 0)))
 (.seq (.block 1 (.reg [⟨(some 12), .mov (.t 3), none, false⟩, ⟨(some 13), .mov (.t 0), none, false⟩, ⟨(some 14), .mov (.t 4), none, false⟩, ⟨(some 15), .call 116 [(.t 13), (.t 14)], none, false⟩, ⟨(some 16), .bslice 1 (.int .u16) [(.int .u16 0)] [(0, 1, (.t 15))] 1, none, false⟩, ⟨(some 17), .app 1 2 (.t 12) (.t 16), none, false⟩, ⟨(some 3), .mov (.t 17), none, false⟩]))
 (.reg [⟨(some 10), .mov (.t 4), none, false⟩, ⟨(some 11), .bin .add .other (.t 10) (.c (.int .i64 2)), none, false⟩, ⟨(some 4), .mov (.t 11), none, false⟩]))))))
 (.seq (.reg [⟨(some 18), .mov (.t 3), none, false⟩, ⟨(some 2), .mov (.t 18), none, false⟩])
 .ret))))
def r117 : List ARes := [.t 2]
theorem c117 : compF Try.prog Try.f117 = some (a117, r117) := by kernel_rfl

theorem b117 : hasBody Try.prog 117 = true := by kernel_rfl
theorem g117 : Try.prog.funcs[117]? = some Try.f117 := by kernel_rfl
/- rung/rungref3.OpenRequest -/
def a54 : ACode := (.seq (.reg [⟨(some 2), .alloc [(1, (.int .u8 0)), (3, (.int .u16 0)), (2, .nils)], none, false⟩, ⟨(some 3), .mov (.c (.int .i64 0)), none, false⟩])
 (.seq (.seq (.reg [⟨(some 10), .mov (.t 0), none, false⟩, ⟨(some 11), .len false (.t 10), none, false⟩, ⟨(some 12), .bin .lss .other (.t 11) (.c (.int .i64 5)), none, false⟩])
 (.cond (.t 12) (.seq (.reg [⟨(some 13), .build [(.int .u8 0), (.int .u16 0), (.int .u16 0), (.int .u16 0), .nils, .nils] [], none, false⟩, ⟨none, .store 6 (.t 2) (.t 13), none, false⟩, ⟨(some 3), .mov (.c (.int .i64 30)), none, false⟩])
 .ret)
 .skip))
 (.seq (.draw [⟨0, ⟨(some 14), .mov (.t 0), none, false⟩, false, [], []⟩, ⟨1, ⟨(some 15), .idx 1 none false (.t 14) (.c (.int .i64 0)), none, false⟩, false, [], []⟩, ⟨2, ⟨(some 16), .load false 1 (.t 15), none, false⟩, false, [], []⟩, ⟨3, ⟨(some 17), .mov (.t 0), none, false⟩, false, [], []⟩, ⟨6, ⟨(some 4), .alloc [(1, (.int .u8 0)), (3, (.int .u16 0)), (2, .nils)], none, false⟩, false, [], []⟩, ⟨4, ⟨(some 18), .call 116 [(.t 17), (.c (.int .i64 1))], none, false⟩, true, [], [(.t 15)]⟩, ⟨5, ⟨(some 19), .build [(.int .u8 0), (.int .u16 0), (.int .u16 0), (.int .u16 0), .nils, .nils] [(0, 1, (.t 16)), (1, 1, (.t 18))], none, false⟩, false, [], []⟩, ⟨7, ⟨none, .store 6 (.t 4) (.t 19), none, false⟩, true, [6], []⟩])
 (.seq (.reg [⟨(some 20), .mov (.t 0), none, false⟩, ⟨(some 21), .call 116 [(.t 20), (.c (.int .i64 3))], none, false⟩, ⟨(some 5), .mov (.t 21), none, false⟩])
 (.seq (.reg [⟨(some 6), .mov (.c (.bool false)), none, false⟩])
 (.seq (.seq (.reg [⟨(some 22), .fld 0 1 false (.t 4), none, false⟩, ⟨(some 23), .load false 1 (.t 22), none, false⟩])
 (.block 0 (.seq (.seq (.reg [⟨(some 25), .bin .eql .other (.t 23) (.c (.int .u8 1)), none, false⟩, ⟨(some 24), .mov (.t 25), none, false⟩])
 (.cond (.t 24) .skip
 (.seq (.reg [⟨(some 26), .bin .eql .other (.t 23) (.c (.int .u8 2)), none, false⟩, ⟨(some 24), .mov (.t 26), none, false⟩])
 (.cond (.t 24) .skip
 (.seq (.reg [⟨(some 27), .bin .eql .other (.t 23) (.c (.int .u8 3)), none, false⟩, ⟨(some 24), .mov (.t 27), none, false⟩])
 (.cond (.t 24) .skip
 (.reg [⟨(some 28), .bin .eql .other (.t 23) (.c (.int .u8 4)), none, false⟩, ⟨(some 24), .mov (.t 28), none, false⟩])))))))
 (.cond (.t 24) (.reg [⟨(some 29), .mov (.t 5), none, false⟩, ⟨(some 30), .fld 2 1 false (.t 4), none, false⟩, ⟨none, .store 1 (.t 30) (.t 29), none, false⟩])
 (.seq (.reg [⟨(some 32), .bin .eql .other (.t 23) (.c (.int .u8 5)), none, false⟩, ⟨(some 31), .mov (.t 32), none, false⟩])
 (.cond (.t 31) (.reg [⟨(some 33), .mov (.t 5), none, false⟩, ⟨(some 34), .bin .eql .other (.t 33) (.c (.int .u16 65280)), none, false⟩, ⟨(some 35), .bslice 1 .bool [(.bool false)] [(0, 1, (.t 34))] 1, none, false⟩, ⟨(some 36), .fld 4 1 false (.t 4), none, false⟩, ⟨none, .store 1 (.t 36) (.t 35), none, false⟩])
 (.seq (.reg [⟨(some 38), .bin .eql .other (.t 23) (.c (.int .u8 6)), none, false⟩, ⟨(some 37), .mov (.t 38), none, false⟩])
 (.cond (.t 37) (.reg [⟨(some 39), .mov (.t 5), none, false⟩, ⟨(some 40), .bslice 1 (.int .u16) [(.int .u16 0)] [(0, 1, (.t 39))] 1, none, false⟩, ⟨(some 41), .fld 5 1 false (.t 4), none, false⟩, ⟨none, .store 1 (.t 41) (.t 40), none, false⟩])
 (.seq (.reg [⟨(some 43), .bin .eql .other (.t 23) (.c (.int .u8 15)), none, false⟩, ⟨(some 42), .mov (.t 43), none, false⟩])
 (.cond (.t 42) (.seq (.seq (.reg [⟨(some 44), .mov (.t 0), none, false⟩, ⟨(some 45), .len false (.t 44), none, false⟩, ⟨(some 46), .bin .lss .other (.t 45) (.c (.int .i64 6)), none, false⟩, ⟨(some 47), .mov (.t 46), none, true⟩, ⟨(some 48), .mov (.t 5), (some (47, false)), false⟩, ⟨(some 49), .bin .lss .other (.t 48) (.c (.int .u16 1)), (some (47, false)), false⟩, ⟨(some 50), .pick (.t 47) (.c (.bool true)) (.t 49), none, false⟩, ⟨(some 51), .mov (.t 50), none, true⟩, ⟨(some 52), .mov (.t 5), (some (51, false)), false⟩, ⟨(some 53), .bin .gtr .other (.t 52) (.c (.int .u16 1968)), (some (51, false)), false⟩, ⟨(some 54), .pick (.t 51) (.c (.bool true)) (.t 53), none, false⟩, ⟨(some 55), .mov (.t 54), none, true⟩, ⟨(some 56), .mov (.t 0), (some (55, false)), false⟩, ⟨(some 57), .len false (.t 56), (some (55, false)), false⟩, ⟨(some 58), .mov (.t 0), (some (55, false)), false⟩, ⟨(some 59), .idx 1 none false (.t 58) (.c (.int .i64 5)), (some (55, false)), false⟩, ⟨(some 60), .load false 1 (.t 59), (some (55, false)), false⟩, ⟨(some 61), .conv (.int .i64) (.t 60), (some (55, false)), false⟩, ⟨(some 62), .bin .add .other (.c (.int .i64 6)) (.t 61), (some (55, false)), false⟩, ⟨(some 63), .bin .neq .other (.t 57) (.t 62), (some (55, false)), false⟩, ⟨(some 64), .pick (.t 55) (.c (.bool true)) (.t 63), none, false⟩])
 (.cond (.t 64) (.seq (.reg [⟨(some 65), .build [(.int .u8 0), (.int .u16 0), (.int .u16 0), (.int .u16 0), .nils, .nils] [], none, false⟩, ⟨none, .store 6 (.t 2) (.t 65), none, false⟩, ⟨(some 3), .mov (.c (.int .i64 30)), none, false⟩])
 .ret)
 .skip))
 (.reg [⟨(some 66), .mov (.t 0), none, false⟩, ⟨(some 67), .slice (.sl 1) (.t 66) (some (.c (.int .i64 6))) none, none, false⟩, ⟨(some 68), .mov (.t 5), none, false⟩, ⟨(some 69), .conv (.int .i64) (.t 68), none, false⟩, ⟨(some 70), .call 67 [(.t 67), (.t 69)], none, false⟩, ⟨(some 71), .fld 4 1 false (.t 4), none, false⟩, ⟨none, .store 1 (.t 71) (.t 70), none, false⟩, ⟨(some 6), .mov (.c (.bool true)), none, false⟩]))
 (.seq (.reg [⟨(some 73), .bin .eql .other (.t 23) (.c (.int .u8 16)), none, false⟩, ⟨(some 72), .mov (.t 73), none, false⟩])
 (.cond (.t 72) (.seq (.seq (.reg [⟨(some 74), .mov (.t 0), none, false⟩, ⟨(some 75), .len false (.t 74), none, false⟩, ⟨(some 76), .bin .lss .other (.t 75) (.c (.int .i64 6)), none, false⟩])
 (.cond (.t 76) (.seq (.reg [⟨(some 77), .build [(.int .u8 0), (.int .u16 0), (.int .u16 0), (.int .u16 0), .nils, .nils] [], none, false⟩, ⟨none, .store 6 (.t 2) (.t 77), none, false⟩, ⟨(some 3), .mov (.c (.int .i64 30)), none, false⟩])
 .ret)
 .skip))
 (.reg [⟨(some 78), .mov (.t 0), none, false⟩, ⟨(some 79), .slice (.sl 1) (.t 78) (some (.c (.int .i64 6))) none, none, false⟩, ⟨(some 80), .call 117 [(.t 79)], none, false⟩, ⟨(some 81), .fld 5 1 false (.t 4), none, false⟩, ⟨none, .store 1 (.t 81) (.t 80), none, false⟩]))
 (.seq (.reg [⟨(some 83), .bin .eql .other (.t 23) (.c (.int .u8 22)), none, false⟩, ⟨(some 82), .mov (.t 83), none, false⟩])
 (.cond (.t 82) (.reg [⟨(some 84), .mov (.t 0), none, false⟩, ⟨(some 85), .slice (.sl 1) (.t 84) (some (.c (.int .i64 3))) none, none, false⟩, ⟨(some 86), .call 117 [(.t 85)], none, false⟩, ⟨(some 87), .fld 5 1 false (.t 4), none, false⟩, ⟨none, .store 1 (.t 87) (.t 86), none, false⟩])
 (.seq (.reg [⟨(some 89), .bin .eql .other (.t 23) (.c (.int .u8 23)), none, false⟩, ⟨(some 88), .mov (.t 89), none, false⟩])
 (.cond (.t 88) (.seq (.seq (.reg [⟨(some 90), .mov (.t 0), none, false⟩, ⟨(some 91), .len false (.t 90), none, false⟩, ⟨(some 92), .bin .lss .other (.t 91) (.c (.int .i64 10)), none, false⟩])
 (.cond (.t 92) (.seq (.reg [⟨(some 93), .build [(.int .u8 0), (.int .u16 0), (.int .u16 0), (.int .u16 0), .nils, .nils] [], none, false⟩, ⟨none, .store 6 (.t 2) (.t 93), none, false⟩, ⟨(some 3), .mov (.c (.int .i64 30)), none, false⟩])
 .ret)
 .skip))
 (.draw [⟨0, ⟨(some 94), .mov (.t 5), none, false⟩, false, [], []⟩, ⟨1, ⟨(some 95), .mov (.t 0), none, false⟩, false, [], []⟩, ⟨3, ⟨(some 97), .mov (.t 0), none, false⟩, false, [], []⟩, ⟨4, ⟨(some 98), .slice (.sl 1) (.t 97) (some (.c (.int .i64 10))) none, none, false⟩, false, [], []⟩, ⟨6, ⟨(some 100), .fld 2 1 false (.t 4), none, false⟩, false, [], []⟩, ⟨2, ⟨(some 96), .call 116 [(.t 95), (.c (.int .i64 5))], none, false⟩, true, [], []⟩, ⟨5, ⟨(some 99), .call 117 [(.t 98)], none, false⟩, true, [], []⟩, ⟨7, ⟨none, .store 1 (.t 100) (.t 94), none, false⟩, true, [], []⟩, ⟨8, ⟨(some 101), .fld 3 1 false (.t 4), none, false⟩, false, [], []⟩, ⟨9, ⟨none, .store 1 (.t 101) (.t 96), none, false⟩, true, [], []⟩, ⟨10, ⟨(some 102), .fld 5 1 false (.t 4), none, false⟩, false, [], []⟩, ⟨11, ⟨none, .store 1 (.t 102) (.t 99), none, false⟩, true, [], []⟩]))
 .skip))))))))))))))))
 (.seq (.reg [⟨(some 104), .load true 6 (.t 4), none, false⟩, ⟨(some 105), .call 49 [(.t 104)], none, false⟩, ⟨(some 103), .mov (.t 105), none, false⟩, ⟨(some 106), .ext (.t 103) 0, none, false⟩, ⟨(some 107), .ext (.t 103) 1, none, false⟩, ⟨(some 7), .mov (.t 106), none, false⟩, ⟨(some 8), .mov (.t 107), none, false⟩])
 (.seq (.seq (.reg [⟨(some 108), .mov (.t 8), none, false⟩, ⟨(some 109), .bin .neq .other (.t 108) (.c (.int .i64 0)), none, false⟩, ⟨(some 110), .mov (.t 109), none, true⟩, ⟨(some 111), .mov (.t 7), (some (110, false)), false⟩, ⟨(some 112), .len false (.t 111), (some (110, false)), false⟩, ⟨(some 113), .mov (.t 0), (some (110, false)), false⟩, ⟨(some 114), .len false (.t 113), (some (110, false)), false⟩, ⟨(some 115), .bin .neq .other (.t 112) (.t 114), (some (110, false)), false⟩, ⟨(some 116), .pick (.t 110) (.c (.bool true)) (.t 115), none, false⟩])
 (.cond (.t 116) (.seq (.reg [⟨(some 117), .build [(.int .u8 0), (.int .u16 0), (.int .u16 0), (.int .u16 0), .nils, .nils] [], none, false⟩, ⟨none, .store 6 (.t 2) (.t 117), none, false⟩, ⟨(some 3), .mov (.c (.int .i64 30)), none, false⟩])
 .ret)
 .skip))
 (.seq (.seq (.reg [⟨(some 9), .mov (.c (.int .i64 0)), none, false⟩])
 (.block 1 (.loop (.seq (.seq (.reg [⟨(some 118), .mov (.t 9), none, false⟩, ⟨(some 119), .mov (.t 0), none, false⟩, ⟨(some 120), .len false (.t 119), none, false⟩, ⟨(some 121), .bin .lss .other (.t 118) (.t 120), none, false⟩])
 (.cond (.t 121) .skip
 (.exit 1)))
 (.seq (.block 2 (.seq (.draw [⟨0, ⟨(some 124), .mov (.t 7), none, false⟩, false, [], []⟩, ⟨1, ⟨(some 125), .mov (.t 9), none, false⟩, false, [], []⟩, ⟨2, ⟨(some 126), .idx 1 none false (.t 124) (.t 125), none, false⟩, false, [], []⟩, ⟨3, ⟨(some 127), .load false 1 (.t 126), none, false⟩, false, [], []⟩, ⟨4, ⟨(some 128), .mov (.t 0), none, false⟩, false, [], []⟩, ⟨5, ⟨(some 129), .mov (.t 9), none, false⟩, false, [], []⟩, ⟨6, ⟨(some 130), .idx 1 none false (.t 128) (.t 129), none, false⟩, false, [], []⟩, ⟨7, ⟨(some 131), .load false 1 (.t 130), none, false⟩, false, [], []⟩, ⟨8, ⟨(some 132), .bin .neq .other (.t 127) (.t 131), none, false⟩, false, [], []⟩, ⟨9, ⟨(some 133), .mov (.t 132), none, true⟩, false, [], []⟩, ⟨10, ⟨(some 134), .mov (.t 6), (some (133, true)), false⟩, false, [], []⟩, ⟨11, ⟨(some 135), .mov (.t 134), (some (133, true)), true⟩, false, [], []⟩, ⟨12, ⟨(some 136), .mov (.t 9), (some (135, true)), false⟩, false, [], []⟩, ⟨13, ⟨(some 137), .mov (.t 0), (some (135, true)), false⟩, false, [], []⟩, ⟨14, ⟨(some 138), .len false (.t 137), (some (135, true)), false⟩, false, [], []⟩, ⟨15, ⟨(some 139), .bin .sub .other (.t 138) (.c (.int .i64 1)), (some (135, true)), false⟩, false, [], []⟩, ⟨16, ⟨(some 140), .bin .eql .other (.t 136) (.t 139), (some (135, true)), false⟩, false, [], []⟩, ⟨17, ⟨(some 141), .pick (.t 135) (.t 140) (.c (.bool false)), (some (133, true)), false⟩, false, [], []⟩, ⟨18, ⟨(some 142), .un .not (.t 141), (some (133, true)), false⟩, false, [], []⟩, ⟨19, ⟨(some 143), .pick (.t 133) (.t 142) (.c (.bool false)), none, false⟩, false, [], []⟩])
 (.cond (.t 143) (.seq (.reg [⟨(some 144), .build [(.int .u8 0), (.int .u16 0), (.int .u16 0), (.int .u16 0), .nils, .nils] [], none, false⟩, ⟨none, .store 6 (.t 2) (.t 144), none, false⟩, ⟨(some 3), .mov (.c (.int .i64 30)), none, false⟩])
 .ret)
 .skip)))
 (.reg [⟨(some 122), .mov (.t 9), none, false⟩, ⟨(some 123), .bin .add .other (.t 122) (.c (.int .i64 1)), none, false⟩, ⟨(some 9), .mov (.t 123), none, false⟩]))))))
 (.seq (.reg [⟨(some 145), .load true 6 (.t 4), none, false⟩, ⟨none, .store 6 (.t 2) (.t 145), none, false⟩, ⟨(some 3), .mov (.c (.int .i64 0)), none, false⟩])
 .ret))))))))))
def r54 : List ARes := [.cell 2 true 6, .t 3]
theorem c54 : compF Try.prog Try.f54 = some (a54, r54) := by kernel_rfl

theorem b54 : hasBody Try.prog 54 = true := by kernel_rfl
theorem g54 : Try.prog.funcs[54]? = some Try.f54 := by kernel_rfl

theorem at_ev (l : List Int) (i : Nat) (h : i + 1 < l.length) (hl : l.length ≤ 100000) : Ev Try.prog 116 [.roI .u8 l, .int .i64 i] (.int .u16 (numAt l i)) := by
  refine FrzK.ev rfl (trF g116 b116 c116 ?_)
  have h1 : IntKind.i64.wrap ((i : Int) + 1) = ((i + 1 : Nat) : Int) := by rw [IntWalk.i64_in _ (by omega)]; rfl
  conv => whnf
  refine condT (by simp; omega) ?_
  conv => whnf
  refine condT (by simp only [h1]; simp; omega) ?_
  conv => whnf
  simp only [h1]
  exact FrzK.le (Le.refl _)
theorem at_ev' (l : List Int) (i : Int) (k : Nat) (hk : i = k) (h : k + 1 < l.length) (hl : l.length ≤ 100000) : Ev Try.prog 116 [.roI .u8 l, .int .i64 i] (.int .u16 (numAt l k)) := by subst hk; exact at_ev l k h hl
theorem rregs_tr (l : List Int) (hl : l.length ≤ 100000) : Tr Try.prog 117 [.roI .u8 l] ⟨0, []⟩ fun v s => v = .sl 1 0 0 (numsN l (l.length / 2)).length ∧ s = ⟨1, [(0, some (.rowI .u16 (numsN l (l.length / 2))))]⟩ := by
  refine Tr.norm (K := fun v s => (∃ h, v = .sl 1 h 0 (numsN l (l.length / 2)).length ∧ s.get h = some (.rowI .u16 (numsN l (l.length / 2)))) ∨ (numsN l (l.length / 2) = [] ∧ v = .nils)) ?_ fun v s h => ?_
  · refine trF g117 b117 c117 ?_
    conv => whnf
    refine loopI (α := {i : Nat // i ≤ l.length / 2}) (fun i => [(0, .roI .u8 l), (3, .sl 1 0 0 i.1), (4, .int .i64 (2 * i.1 : Nat))]) (fun i => ⟨1, [(0, some (.rowI .u16 (numsN l i.1)))]⟩) (fun i => l.length / 2 - i.1) ⟨0, Nat.zero_le _⟩
      ⟨[(0, none)], rfl, rfl, rfl, ⟨⟨rfl, rfl⟩, ⟨rfl, rfl⟩, ⟨rfl, rfl⟩, trivial⟩, ⟨trivial, rfl, rfl⟩, trivial⟩ fun ⟨i, hi⟩ => ?_
    conv => whnf
    have h1 : IntKind.i64.wrap (((2 * i : Nat) : Int) + 1) = ((2 * i + 1 : Nat) : Int) := by rw [IntWalk.i64_in _ (by omega)]; rfl
    have h2 : IntKind.i64.wrap (((2 * i : Nat) : Int) + 2) = ((2 * (i + 1) : Nat) : Int) := by rw [IntWalk.i64_in _ (by omega)]; rfl
    by_cases hlt : i < l.length / 2
    · refine condY (by simp only [h1]; simp; omega) ?_
      conv => whnf
      refine Ev.call (at_ev l (2 * i) (by omega) hl) ?_
      conv => whnf
      refine condT (by simp [numsN_length]; omega) ?_
      conv => whnf
      refine ⟨⟨i + 1, hlt⟩, ⟨[(0, some 2)], rfl, rfl, rfl, ⟨⟨rfl, rfl⟩, ⟨rfl, rfl⟩, ⟨?_, rfl⟩, trivial⟩, ⟨⟨trivial, rfl, ?_⟩, trivial⟩⟩, by show l.length / 2 - (i + 1) < l.length / 2 - i; omega⟩
      · show AV.int .i64 (IntKind.i64.wrap (((2 * i : Nat) : Int) + 2)) = AV.int .i64 ((2 * (i + 1) : Nat) : Int)
        rw [h2]
      · show some (Chunk.rowI .u16 (List.take i (List.drop 0 (numsN l i)) ++ List.take 1 (List.drop 0 [numAt l (2 * i)]))) = some (Chunk.rowI .u16 (numsN l (i + 1)))
        rw [List.drop_zero, List.take_of_length_le (by rw [numsN_length]; omega)]
        rfl
    · refine condN (by simp only [h1]; simp; omega) ?_
      conv => whnf
      have : i = l.length / 2 := by omega
      subst this
      exact .inl ⟨0, by rw [numsN_length], rfl⟩
  · refine ⟨_, _, ?_, rfl, rfl⟩
    rcases h with ⟨h, rfl, hg⟩ | ⟨hn, rfl⟩
    · exact ⟨[(0, some h)], rfl, rfl, rfl, ⟨⟨rfl, rfl⟩, trivial⟩, ⟨⟨trivial, rfl, hg⟩, trivial⟩⟩
    · rw [hn]
      exact ⟨[(0, none)], rfl, rfl, rfl, ⟨⟨rfl, rfl⟩, trivial⟩, ⟨⟨trivial, rfl, rfl⟩, trivial⟩⟩
theorem rregs_ev (l : List Int) (hl : l.length ≤ 100000) : Ev Try.prog 117 [.roI .u8 l] (.roI .u16 (numsN l (l.length / 2))) := Ev.row rfl (rregs_tr l hl)
theorem rbits_ev (l : List Int) (n : Int) (hl : l.length ≤ 100000) : Ev Try.prog 67 [.roI .u8 l, .int .i64 n] (.roB (bitsA l (bitsK n))) := by
  refine Ev.rowB rfl ?_
  rw [bitsA_length]
  exact rbits_tr l n hl
def rOpenT (f a v : Int) (l : List Int) : Option (Rq × Bool) :=
  if f == 1 then some (⟨f, a, v, 0, [], []⟩, false)
  else if f == 2 then some (⟨f, a, v, 0, [], []⟩, false)
  else if f == 3 then some (⟨f, a, v, 0, [], []⟩, false)
  else if f == 4 then some (⟨f, a, v, 0, [], []⟩, false)
  else if f == 5 then some (⟨f, a, 0, 0, [v == 65280], []⟩, false)
  else if f == 6 then some (⟨f, a, 0, 0, [], [v]⟩, false)
  else if f == 15 then (if decide ((l.length : Int) < 6) || decide (v < 1) || decide (v > 1968) || (l.length : Int) != IntKind.i64.wrap (6 + IntKind.i64.wrap (l.getD 5 0)) then none else some (⟨f, a, 0, 0, bitsA (cutF l 6) (bitsK (IntKind.i64.wrap v)), []⟩, true))
  else if f == 16 then (if decide ((l.length : Int) < 6) then none else some (⟨f, a, 0, 0, [], numsN (cutF l 6) ((cutF l 6).length / 2)⟩, false))
  else if f == 22 then some (⟨f, a, 0, 0, [], numsN (cutF l 3) ((cutF l 3).length / 2)⟩, false)
  else if f == 23 then (if decide ((l.length : Int) < 10) then none else some (⟨f, a, v, numAt l 5, [], numsN (cutF l 10) ((cutF l 10).length / 2)⟩, false))
  else some (⟨f, a, 0, 0, [], []⟩, false)
def rOpenS (l : List Int) : Option (Rq × Bool) := if decide ((l.length : Int) < 5) then none else rOpenT (l.getD 0 0) (numAt l 1) (numAt l 3) l
def agreeB (row l : List Int) (sp : Bool) (j : Nat) : Bool := row.getD j 0 == l.getD j 0 || (sp && (j : Int) == ((l.length - 1 : Nat) : Int))
def decT (l : List Int) (o : Option (Rq × Bool)) : Rq × Int :=
  match o with
  | none => (Rq.zero, 30)
  | some (q, sp) => if encE q.f q.n q.a2 q.b q.r == 0 && ((encR q.f q.a q.n q.a2 q.b q.r).length : Int) == l.length && (List.range l.length).all (agreeB (encR q.f q.a q.n q.a2 q.b q.r) l sp) then (q, 0) else (Rq.zero, 30)
def decR (l : List Int) : Rq × Int := decT l (rOpenS l)
def OkR (o : Option (Rq × Bool)) : Prop := ∀ q sp, o = some (q, sp) → InR q
theorem rOpenT_range (f a v : Int) (l : List Int) (hv : 0 ≤ v ∧ v < 65536) (hl : l.length ≤ 1000) : OkR (rOpenT f a v l) := by
  intro q sp
  have h2 := bitsK_le (IntKind.i64.wrap v)
  unfold rOpenT
  by_cases h1 : (f == 1) = true
  · rw [if_pos h1]; (intro h; first | (simp only [Option.some.injEq, Prod.mk.injEq] at h; obtain ⟨rfl, _⟩ := h; simp only [InR, hv.1, hv.2, numAt0, numAtL, bitsA_length, numsN_length, cutF_eq, List.length_nil, List.length_cons, List.length_drop, true_and]; omega) | (simp only [Option.some.injEq, Prod.mk.injEq] at h; obtain ⟨rfl, _⟩ := h; simp only [InR, hv.1, hv.2, numAt0, numAtL, bitsA_length, numsN_length, cutF_eq, List.length_nil, List.length_cons, List.length_drop, true_and]; done) | cases h)
  rw [if_neg h1]
  by_cases h2 : (f == 2) = true
  · rw [if_pos h2]; (intro h; first | (simp only [Option.some.injEq, Prod.mk.injEq] at h; obtain ⟨rfl, _⟩ := h; simp only [InR, hv.1, hv.2, numAt0, numAtL, bitsA_length, numsN_length, cutF_eq, List.length_nil, List.length_cons, List.length_drop, true_and]; omega) | (simp only [Option.some.injEq, Prod.mk.injEq] at h; obtain ⟨rfl, _⟩ := h; simp only [InR, hv.1, hv.2, numAt0, numAtL, bitsA_length, numsN_length, cutF_eq, List.length_nil, List.length_cons, List.length_drop, true_and]; done) | cases h)
  rw [if_neg h2]
  by_cases h3 : (f == 3) = true
  · rw [if_pos h3]; (intro h; first | (simp only [Option.some.injEq, Prod.mk.injEq] at h; obtain ⟨rfl, _⟩ := h; simp only [InR, hv.1, hv.2, numAt0, numAtL, bitsA_length, numsN_length, cutF_eq, List.length_nil, List.length_cons, List.length_drop, true_and]; omega) | (simp only [Option.some.injEq, Prod.mk.injEq] at h; obtain ⟨rfl, _⟩ := h; simp only [InR, hv.1, hv.2, numAt0, numAtL, bitsA_length, numsN_length, cutF_eq, List.length_nil, List.length_cons, List.length_drop, true_and]; done) | cases h)
  rw [if_neg h3]
  by_cases h4 : (f == 4) = true
  · rw [if_pos h4]; (intro h; first | (simp only [Option.some.injEq, Prod.mk.injEq] at h; obtain ⟨rfl, _⟩ := h; simp only [InR, hv.1, hv.2, numAt0, numAtL, bitsA_length, numsN_length, cutF_eq, List.length_nil, List.length_cons, List.length_drop, true_and]; omega) | (simp only [Option.some.injEq, Prod.mk.injEq] at h; obtain ⟨rfl, _⟩ := h; simp only [InR, hv.1, hv.2, numAt0, numAtL, bitsA_length, numsN_length, cutF_eq, List.length_nil, List.length_cons, List.length_drop, true_and]; done) | cases h)
  rw [if_neg h4]
  by_cases h5 : (f == 5) = true
  · rw [if_pos h5]; (intro h; first | (simp only [Option.some.injEq, Prod.mk.injEq] at h; obtain ⟨rfl, _⟩ := h; simp only [InR, hv.1, hv.2, numAt0, numAtL, bitsA_length, numsN_length, cutF_eq, List.length_nil, List.length_cons, List.length_drop, true_and]; omega) | (simp only [Option.some.injEq, Prod.mk.injEq] at h; obtain ⟨rfl, _⟩ := h; simp only [InR, hv.1, hv.2, numAt0, numAtL, bitsA_length, numsN_length, cutF_eq, List.length_nil, List.length_cons, List.length_drop, true_and]; done) | cases h)
  rw [if_neg h5]
  by_cases h6 : (f == 6) = true
  · rw [if_pos h6]; (intro h; first | (simp only [Option.some.injEq, Prod.mk.injEq] at h; obtain ⟨rfl, _⟩ := h; simp only [InR, hv.1, hv.2, numAt0, numAtL, bitsA_length, numsN_length, cutF_eq, List.length_nil, List.length_cons, List.length_drop, true_and]; omega) | (simp only [Option.some.injEq, Prod.mk.injEq] at h; obtain ⟨rfl, _⟩ := h; simp only [InR, hv.1, hv.2, numAt0, numAtL, bitsA_length, numsN_length, cutF_eq, List.length_nil, List.length_cons, List.length_drop, true_and]; done) | cases h)
  rw [if_neg h6]
  by_cases h15 : (f == 15) = true
  · rw [if_pos h15]; by_cases g : (decide ((l.length : Int) < 6) || decide (v < 1) || decide (v > 1968) || (l.length : Int) != IntKind.i64.wrap (6 + IntKind.i64.wrap (l.getD 5 0))) = true
    · rw [if_pos g]; (intro h; first | (simp only [Option.some.injEq, Prod.mk.injEq] at h; obtain ⟨rfl, _⟩ := h; simp only [InR, hv.1, hv.2, numAt0, numAtL, bitsA_length, numsN_length, cutF_eq, List.length_nil, List.length_cons, List.length_drop, true_and]; omega) | (simp only [Option.some.injEq, Prod.mk.injEq] at h; obtain ⟨rfl, _⟩ := h; simp only [InR, hv.1, hv.2, numAt0, numAtL, bitsA_length, numsN_length, cutF_eq, List.length_nil, List.length_cons, List.length_drop, true_and]; done) | cases h)
    · rw [if_neg g]; (intro h; first | (simp only [Option.some.injEq, Prod.mk.injEq] at h; obtain ⟨rfl, _⟩ := h; simp only [InR, hv.1, hv.2, numAt0, numAtL, bitsA_length, numsN_length, cutF_eq, List.length_nil, List.length_cons, List.length_drop, true_and]; omega) | (simp only [Option.some.injEq, Prod.mk.injEq] at h; obtain ⟨rfl, _⟩ := h; simp only [InR, hv.1, hv.2, numAt0, numAtL, bitsA_length, numsN_length, cutF_eq, List.length_nil, List.length_cons, List.length_drop, true_and]; done) | cases h)
  rw [if_neg h15]
  by_cases h16 : (f == 16) = true
  · rw [if_pos h16]; by_cases g : decide ((l.length : Int) < 6) = true
    · rw [if_pos g]; (intro h; first | (simp only [Option.some.injEq, Prod.mk.injEq] at h; obtain ⟨rfl, _⟩ := h; simp only [InR, hv.1, hv.2, numAt0, numAtL, bitsA_length, numsN_length, cutF_eq, List.length_nil, List.length_cons, List.length_drop, true_and]; omega) | (simp only [Option.some.injEq, Prod.mk.injEq] at h; obtain ⟨rfl, _⟩ := h; simp only [InR, hv.1, hv.2, numAt0, numAtL, bitsA_length, numsN_length, cutF_eq, List.length_nil, List.length_cons, List.length_drop, true_and]; done) | cases h)
    · rw [if_neg g]; (intro h; first | (simp only [Option.some.injEq, Prod.mk.injEq] at h; obtain ⟨rfl, _⟩ := h; simp only [InR, hv.1, hv.2, numAt0, numAtL, bitsA_length, numsN_length, cutF_eq, List.length_nil, List.length_cons, List.length_drop, true_and]; omega) | (simp only [Option.some.injEq, Prod.mk.injEq] at h; obtain ⟨rfl, _⟩ := h; simp only [InR, hv.1, hv.2, numAt0, numAtL, bitsA_length, numsN_length, cutF_eq, List.length_nil, List.length_cons, List.length_drop, true_and]; done) | cases h)
  rw [if_neg h16]
  by_cases h22 : (f == 22) = true
  · rw [if_pos h22]; (intro h; first | (simp only [Option.some.injEq, Prod.mk.injEq] at h; obtain ⟨rfl, _⟩ := h; simp only [InR, hv.1, hv.2, numAt0, numAtL, bitsA_length, numsN_length, cutF_eq, List.length_nil, List.length_cons, List.length_drop, true_and]; omega) | (simp only [Option.some.injEq, Prod.mk.injEq] at h; obtain ⟨rfl, _⟩ := h; simp only [InR, hv.1, hv.2, numAt0, numAtL, bitsA_length, numsN_length, cutF_eq, List.length_nil, List.length_cons, List.length_drop, true_and]; done) | cases h)
  rw [if_neg h22]
  by_cases h23 : (f == 23) = true
  · rw [if_pos h23]; by_cases g : decide ((l.length : Int) < 10) = true
    · rw [if_pos g]; (intro h; first | (simp only [Option.some.injEq, Prod.mk.injEq] at h; obtain ⟨rfl, _⟩ := h; simp only [InR, hv.1, hv.2, numAt0, numAtL, bitsA_length, numsN_length, cutF_eq, List.length_nil, List.length_cons, List.length_drop, true_and]; omega) | (simp only [Option.some.injEq, Prod.mk.injEq] at h; obtain ⟨rfl, _⟩ := h; simp only [InR, hv.1, hv.2, numAt0, numAtL, bitsA_length, numsN_length, cutF_eq, List.length_nil, List.length_cons, List.length_drop, true_and]; done) | cases h)
    · rw [if_neg g]; (intro h; first | (simp only [Option.some.injEq, Prod.mk.injEq] at h; obtain ⟨rfl, _⟩ := h; simp only [InR, hv.1, hv.2, numAt0, numAtL, bitsA_length, numsN_length, cutF_eq, List.length_nil, List.length_cons, List.length_drop, true_and]; omega) | (simp only [Option.some.injEq, Prod.mk.injEq] at h; obtain ⟨rfl, _⟩ := h; simp only [InR, hv.1, hv.2, numAt0, numAtL, bitsA_length, numsN_length, cutF_eq, List.length_nil, List.length_cons, List.length_drop, true_and]; done) | cases h)
  rw [if_neg h23]
  (intro h; first | (simp only [Option.some.injEq, Prod.mk.injEq] at h; obtain ⟨rfl, _⟩ := h; simp only [InR, hv.1, hv.2, numAt0, numAtL, bitsA_length, numsN_length, cutF_eq, List.length_nil, List.length_cons, List.length_drop, true_and]; omega) | (simp only [Option.some.injEq, Prod.mk.injEq] at h; obtain ⟨rfl, _⟩ := h; simp only [InR, hv.1, hv.2, numAt0, numAtL, bitsA_length, numsN_length, cutF_eq, List.length_nil, List.length_cons, List.length_drop, true_and]; done) | cases h)
theorem rOpen_range (l : List Int) (hl : l.length ≤ 1000) : OkR (rOpenS l) := by
  unfold rOpenS
  split
  · intro q sp h; cases h
  · exact rOpenT_range _ _ _ _ ⟨numAt0 _ _, numAtL _ _⟩ hl
def finR (q : Rq) (row l : List Int) (sp : Bool) (e : Int) : Rq × Int := if e == 0 && (row.length : Int) == l.length && (List.range l.length).all (agreeB row l sp) then (q, 0) else (Rq.zero, 30)
theorem decT_some (l : List Int) (q : Rq) (sp : Bool) : decT l (some (q, sp)) = finR q (encR q.f q.a q.n q.a2 q.b q.r) l sp (encE q.f q.n q.a2 q.b q.r) := rfl
theorem finR_no (q : Rq) (row l : List Int) (sp : Bool) (e : Int) (h : e ≠ 0 ∨ row.length ≠ l.length ∨ ∃ i, i < l.length ∧ agreeB row l sp i = false) : finR q row l sp e = (Rq.zero, 30) := by
  unfold finR
  rw [if_neg]
  intro hc
  simp only [Bool.and_eq_true, beq_iff_eq, List.all_eq_true, List.mem_range] at hc
  obtain ⟨⟨h1, h2⟩, h3⟩ := hc
  rcases h with h | h | ⟨i, hi, h⟩
  · exact h h1
  · omega
  · rw [h3 i hi] at h; cases h
theorem finR_yes (q : Rq) (row l : List Int) (sp : Bool) (e : Int) (h1 : e = 0) (h2 : row.length = l.length) (h3 : ∀ i, i < l.length → agreeB row l sp i = true) : finR q row l sp e = (q, 0) := by
  unfold finR
  rw [if_pos]
  simp only [Bool.and_eq_true, beq_iff_eq, List.all_eq_true, List.mem_range]
  exact ⟨⟨h1, by omega⟩, h3⟩
def nb (x : Bool) (q : Rq) : AV := bif x then .nils else .roB q.b
def nr (x : Bool) (q : Rq) : AV := bif x then .nils else .roI .u16 q.r
set_option maxRecDepth 20000 in
set_option maxHeartbeats 4000000 in
theorem rOpen_raw (l : List Int) (hl : l.length ≤ 1000) : Tr Try.prog 54 [.roI .u8 l] ⟨0, []⟩ (FrzK (.tup [rqA (decR l).1, .int .i64 (decR l).2])) := by
  have hok := rOpen_range l hl
  unfold decR
  generalize ho : rOpenS l = o at *
  refine trZ [104] [35, 40] g54 b54 c54 ?_
  conv => whnf
  refine condF (fun h => ?_) (fun h => ?_)
  · conv => whnf
    repeat' (first
      | (refine condT (by first | assumption | (simp [cutF]; done) | (simp [cutF]; omega) | (simp_all; done) | (simp_all; omega)) ?_; conv => whnf)
      | (refine ⟨rfl, ?_⟩; conv => whnf)
      | (refine Ev.call (at_ev' l 1 1 rfl (by first | (simp [cutF]; done) | (simp [cutF]; omega) | omega | (simp_all; omega)) (by omega)) ?_; conv => whnf)
      | (refine Ev.call (at_ev' l 3 3 rfl (by first | (simp [cutF]; done) | (simp [cutF]; omega) | omega | (simp_all; omega)) (by omega)) ?_; conv => whnf)
      )
    refine joinI (α := {x : Bool × Bool // o.isSome = true ∧ (x.1 = true → (o.getD (Rq.zero, false)).1.b = []) ∧ (x.2 = true → (o.getD (Rq.zero, false)).1.r = [])})
      (fun x => [(0, .roI .u8 l), (2, .ptr 0 0), (4, .ptr 1 0), (6, .bool (o.getD (Rq.zero, false)).2)])
      (fun x => ⟨2, [(1, some (.obj [.int .u8 (o.getD (Rq.zero, false)).1.f, .int .u16 (o.getD (Rq.zero, false)).1.a, .int .u16 (o.getD (Rq.zero, false)).1.n, .int .u16 (o.getD (Rq.zero, false)).1.a2, nb x.1.1 (o.getD (Rq.zero, false)).1, nr x.1.2 (o.getD (Rq.zero, false)).1])), (0, some (.obj [.int .u8 0, .int .u16 0, .int .u16 0, .int .u16 0, .nils, .nils]))]⟩) ?_ ?_
    · conv => whnf
      repeat' (first
        | (refine condY (by assumption) ?_; conv => whnf)
        | (refine condN (by assumption) ?_; conv => whnf)
        | (refine condT (by first | assumption | (simp [cutF]; done) | (simp [cutF]; omega) | (simp_all; done) | (simp_all; omega)) ?_; conv => whnf)
        | (refine condF (fun h => ?_) (fun h => ?_) <;> conv => whnf)
        | (refine ⟨rfl, ?_⟩; conv => whnf)
        | (refine Ev.call (at_ev' l 5 5 rfl (by first | (simp [cutF]; done) | (simp [cutF]; omega) | omega | (simp_all; omega)) (by omega)) ?_; conv => whnf)
        | (refine Ev.call (rregs_ev _ (by first | (simp [cutF]; done) | (simp [cutF]; omega) | omega | (simp_all; omega))) ?_; conv => whnf)
        | (refine Ev.call (rbits_ev _ _ (by first | (simp [cutF]; done) | (simp [cutF]; omega) | omega | (simp_all; omega))) ?_; conv => whnf)
        )
      all_goals (try simp only [show Int.toNat 0 = 0 from rfl, show Int.toNat 1 = 1 from rfl, show Int.toNat 3 = 3 from rfl, show Int.toNat 5 = 5 from rfl, show Int.toNat 6 = 6 from rfl, show Int.toNat 10 = 10 from rfl] at *)
      all_goals (simp only [rOpenS, rOpenT, cutF, *, if_true, if_false, Bool.false_eq_true, Bool.or_false, Bool.false_or, Bool.true_or, Bool.or_true] at ho)
      all_goals (try (first | erw [if_pos h] at ho | erw [if_neg (fun e => Bool.noConfusion (e.symm.trans h))] at ho))
      all_goals subst ho
      all_goals first
        | exact ⟨⟨(true, true), rfl, fun _ => rfl, fun _ => rfl⟩, [], rfl, rfl, rfl, ⟨⟨rfl, rfl⟩, ⟨rfl, rfl⟩, ⟨rfl, rfl⟩, ⟨rfl, rfl⟩, trivial⟩, ⟨⟨rfl, rfl, rfl⟩, ⟨rfl, rfl, rfl⟩, trivial⟩⟩
        | exact ⟨⟨(true, false), rfl, fun _ => rfl, fun h => nomatch h⟩, [], rfl, rfl, rfl, ⟨⟨rfl, rfl⟩, ⟨rfl, rfl⟩, ⟨rfl, rfl⟩, ⟨rfl, rfl⟩, trivial⟩, ⟨⟨rfl, rfl, rfl⟩, ⟨rfl, rfl, rfl⟩, trivial⟩⟩
        | exact ⟨⟨(false, true), rfl, fun h => nomatch h, fun _ => rfl⟩, [], rfl, rfl, rfl, ⟨⟨rfl, rfl⟩, ⟨rfl, rfl⟩, ⟨rfl, rfl⟩, ⟨rfl, rfl⟩, trivial⟩, ⟨⟨rfl, rfl, rfl⟩, ⟨rfl, rfl, rfl⟩, trivial⟩⟩
        | exact FrzK.le (leReqE rfl rfl rfl rfl Le.nilB (Le.nilI _) rfl)
        | (refine ⟨⟨(false, true), rfl, fun h => Bool.noConfusion h, fun _ => rfl⟩, [], rfl, rfl, rfl, ⟨⟨rfl, rfl⟩, ⟨rfl, rfl⟩, ⟨rfl, rfl⟩, ⟨rfl, rfl⟩, trivial⟩, ?_⟩; refine ⟨⟨rfl, rfl, ?_⟩, ⟨rfl, rfl, rfl⟩, trivial⟩; rfl)
    · rintro ⟨⟨bn, rn⟩, hs, hb0, hr0⟩
      cases o with
      | none => cases hs
      | some qs =>
      obtain ⟨q, sp⟩ := qs
      obtain ⟨hn0, hn1, hqb, hqr⟩ := hok q sp rfl
      have kb : bn = true → q.b = [] := hb0
      have kr : rn = true → q.r = [] := hr0
      have hR := rRequest_ev q.f q.a q.n q.a2 q.b q.r hn0 hn1 hqb hqr
      rw [decT_some]
      generalize encR q.f q.a q.n q.a2 q.b q.r = row at *
      generalize encE q.f q.n q.a2 q.b q.r = e at *
      cases bn <;> cases rn
      · conv => whnf
        refine Tr.le (args' := [reqA q.f q.a q.n q.a2 (.roB q.b) (.roI .u16 q.r)]) ⟨Le.agg ⟨Le.refl _, Le.refl _, Le.refl _, Le.refl _, Le.refl _, Le.refl _, trivial⟩, trivial⟩ (Ev.call hR ?_)
        conv => whnf
        refine condS (fun h => ?_) (fun h => ?_)
        · conv => whnf
          rw [finR_no q row l sp e (.inl (by simpa using h))]
          exact FrzK.le (leReqE rfl rfl rfl rfl Le.nilB (Le.nilI _) rfl)
        conv => whnf
        refine condS (fun h' => ?_) (fun h' => ?_)
        · conv => whnf
          rw [finR_no q row l sp e (.inr (.inl (by simp at h'; omega)))]
          exact FrzK.le (leReqE rfl rfl rfl rfl Le.nilB (Le.nilI _) rfl)
        conv => whnf
        have he : e = 0 := by simpa using h
        have hlen : row.length = l.length := by simp at h'; omega
        refine loopI (α := {i : Nat // i ≤ l.length ∧ ∀ j, j < i → agreeB row l sp j = true}) (fun i => [(0, .roI .u8 l), (2, .ptr 0 0), (4, .ptr 1 0), (6, .bool sp), (7, .roI .u8 row), (9, .int .i64 i.1)])
          (fun i => ⟨2, [(1, some (.obj [.int .u8 q.f, .int .u16 q.a, .int .u16 q.n, .int .u16 q.a2, .roB q.b, .roI .u16 q.r])), (0, some (.obj [.int .u8 0, .int .u16 0, .int .u16 0, .int .u16 0, .nils, .nils]))]⟩) (fun i => l.length - i.1) ⟨0, Nat.zero_le _, fun j hj => absurd hj (Nat.not_lt_zero j)⟩
          ⟨[], rfl, rfl, rfl, ⟨⟨rfl, rfl⟩, ⟨rfl, rfl⟩, ⟨rfl, rfl⟩, ⟨rfl, rfl⟩, ⟨rfl, rfl⟩, ⟨rfl, rfl⟩, trivial⟩, ⟨⟨rfl, rfl, rfl⟩, ⟨rfl, rfl, rfl⟩, trivial⟩⟩ fun ⟨i, hi, hag⟩ => ?_
        conv => whnf
        have hl1 : IntKind.i64.wrap ((l.length : Int) - 1) = (l.length : Int) - 1 := IntWalk.i64_in _ (by omega)
        by_cases hlt : i < l.length
        · refine condY (by simpa using hlt) ?_
          conv => whnf
          refine condT (by simp; omega) ?_
          conv => whnf
          refine condT (by simpa using hlt) ?_
          conv => whnf
          have step : agreeB row l sp i = true → ∃ x' : {i : Nat // i ≤ l.length ∧ ∀ j, j < i → agreeB row l sp j = true}, x'.1 = i + 1 := fun ha => ⟨⟨i + 1, hlt, fun j hj => by
            by_cases hji : j = i
            · rw [hji]; exact ha
            · exact hag j (by omega)⟩, rfl⟩
          have next : ∀ (x' : {i : Nat // i ≤ l.length ∧ ∀ j, j < i → agreeB row l sp j = true}), x'.1 = i + 1 → AV.int .i64 (IntKind.i64.wrap ((i : Int) + 1)) = AV.int .i64 (x'.1 : Int) := fun x' hx => by
            rw [hx, IntWalk.i64_in _ (by omega)]; rfl
          refine condF (fun g => ?_) (fun g => ?_)
          · conv => whnf
            obtain ⟨x', hx⟩ := step (by unfold agreeB; rw [show (row.getD i 0 == l.getD i 0) = true by simpa using g]; rfl)
            refine ⟨x', ⟨[], rfl, rfl, rfl, ⟨⟨rfl, rfl⟩, ⟨rfl, rfl⟩, ⟨rfl, rfl⟩, ⟨rfl, rfl⟩, ⟨rfl, rfl⟩, ⟨next x' hx, rfl⟩, trivial⟩, ⟨⟨rfl, rfl, rfl⟩, ⟨rfl, rfl, rfl⟩, trivial⟩⟩, by show l.length - x'.1 < l.length - i; omega⟩
          · conv => whnf
            cases sp
            · conv => whnf
              rw [finR_no q row l false e (.inr (.inr ⟨i, hlt, by unfold agreeB; rw [show (row.getD i 0 == l.getD i 0) = false by simpa using g]; rfl⟩))]
              exact FrzK.le (leReqE rfl rfl rfl rfl Le.nilB (Le.nilI _) rfl)
            · conv => whnf
              by_cases hL : i = l.length - 1
              · refine condN ?_ ?_
                · rw [hl1]; simp; omega
                conv => whnf
                obtain ⟨x', hx⟩ := step (by unfold agreeB; simp [hL])
                refine ⟨x', ⟨[], rfl, rfl, rfl, ⟨⟨rfl, rfl⟩, ⟨rfl, rfl⟩, ⟨rfl, rfl⟩, ⟨rfl, rfl⟩, ⟨rfl, rfl⟩, ⟨next x' hx, rfl⟩, trivial⟩, ⟨⟨rfl, rfl, rfl⟩, ⟨rfl, rfl, rfl⟩, trivial⟩⟩, by show l.length - x'.1 < l.length - i; omega⟩
              · refine condY ?_ ?_
                · rw [hl1]; simp; omega
                conv => whnf
                rw [finR_no q row l true e (.inr (.inr ⟨i, hlt, by unfold agreeB; rw [show (row.getD i 0 == l.getD i 0) = false by simpa using g]; simp; omega⟩))]
                exact FrzK.le (leReqE rfl rfl rfl rfl Le.nilB (Le.nilI _) rfl)
        · refine condN (by simpa using hlt) ?_
          conv => whnf
          rw [finR_yes q row l sp e he hlen (fun j hj => hag j (by omega))]
          exact FrzK.le (leReqE rfl rfl rfl rfl (Le.refl _) (Le.refl _) rfl)
      · conv => whnf
        refine Tr.le (args' := [reqA q.f q.a q.n q.a2 (.roB q.b) (.roI .u16 q.r)]) ⟨Le.agg ⟨Le.refl _, Le.refl _, Le.refl _, Le.refl _, Le.refl _, (by rw [kr rfl]; exact Le.nilI _), trivial⟩, trivial⟩ (Ev.call hR ?_)
        conv => whnf
        refine condS (fun h => ?_) (fun h => ?_)
        · conv => whnf
          rw [finR_no q row l sp e (.inl (by simpa using h))]
          exact FrzK.le (leReqE rfl rfl rfl rfl Le.nilB (Le.nilI _) rfl)
        conv => whnf
        refine condS (fun h' => ?_) (fun h' => ?_)
        · conv => whnf
          rw [finR_no q row l sp e (.inr (.inl (by simp at h'; omega)))]
          exact FrzK.le (leReqE rfl rfl rfl rfl Le.nilB (Le.nilI _) rfl)
        conv => whnf
        have he : e = 0 := by simpa using h
        have hlen : row.length = l.length := by simp at h'; omega
        refine loopI (α := {i : Nat // i ≤ l.length ∧ ∀ j, j < i → agreeB row l sp j = true}) (fun i => [(0, .roI .u8 l), (2, .ptr 0 0), (4, .ptr 1 0), (6, .bool sp), (7, .roI .u8 row), (9, .int .i64 i.1)])
          (fun i => ⟨2, [(1, some (.obj [.int .u8 q.f, .int .u16 q.a, .int .u16 q.n, .int .u16 q.a2, .roB q.b, .nils])), (0, some (.obj [.int .u8 0, .int .u16 0, .int .u16 0, .int .u16 0, .nils, .nils]))]⟩) (fun i => l.length - i.1) ⟨0, Nat.zero_le _, fun j hj => absurd hj (Nat.not_lt_zero j)⟩
          ⟨[], rfl, rfl, rfl, ⟨⟨rfl, rfl⟩, ⟨rfl, rfl⟩, ⟨rfl, rfl⟩, ⟨rfl, rfl⟩, ⟨rfl, rfl⟩, ⟨rfl, rfl⟩, trivial⟩, ⟨⟨rfl, rfl, rfl⟩, ⟨rfl, rfl, rfl⟩, trivial⟩⟩ fun ⟨i, hi, hag⟩ => ?_
        conv => whnf
        have hl1 : IntKind.i64.wrap ((l.length : Int) - 1) = (l.length : Int) - 1 := IntWalk.i64_in _ (by omega)
        by_cases hlt : i < l.length
        · refine condY (by simpa using hlt) ?_
          conv => whnf
          refine condT (by simp; omega) ?_
          conv => whnf
          refine condT (by simpa using hlt) ?_
          conv => whnf
          have step : agreeB row l sp i = true → ∃ x' : {i : Nat // i ≤ l.length ∧ ∀ j, j < i → agreeB row l sp j = true}, x'.1 = i + 1 := fun ha => ⟨⟨i + 1, hlt, fun j hj => by
            by_cases hji : j = i
            · rw [hji]; exact ha
            · exact hag j (by omega)⟩, rfl⟩
          have next : ∀ (x' : {i : Nat // i ≤ l.length ∧ ∀ j, j < i → agreeB row l sp j = true}), x'.1 = i + 1 → AV.int .i64 (IntKind.i64.wrap ((i : Int) + 1)) = AV.int .i64 (x'.1 : Int) := fun x' hx => by
            rw [hx, IntWalk.i64_in _ (by omega)]; rfl
          refine condF (fun g => ?_) (fun g => ?_)
          · conv => whnf
            obtain ⟨x', hx⟩ := step (by unfold agreeB; rw [show (row.getD i 0 == l.getD i 0) = true by simpa using g]; rfl)
            refine ⟨x', ⟨[], rfl, rfl, rfl, ⟨⟨rfl, rfl⟩, ⟨rfl, rfl⟩, ⟨rfl, rfl⟩, ⟨rfl, rfl⟩, ⟨rfl, rfl⟩, ⟨next x' hx, rfl⟩, trivial⟩, ⟨⟨rfl, rfl, rfl⟩, ⟨rfl, rfl, rfl⟩, trivial⟩⟩, by show l.length - x'.1 < l.length - i; omega⟩
          · conv => whnf
            cases sp
            · conv => whnf
              rw [finR_no q row l false e (.inr (.inr ⟨i, hlt, by unfold agreeB; rw [show (row.getD i 0 == l.getD i 0) = false by simpa using g]; rfl⟩))]
              exact FrzK.le (leReqE rfl rfl rfl rfl Le.nilB (Le.nilI _) rfl)
            · conv => whnf
              by_cases hL : i = l.length - 1
              · refine condN ?_ ?_
                · rw [hl1]; simp; omega
                conv => whnf
                obtain ⟨x', hx⟩ := step (by unfold agreeB; simp [hL])
                refine ⟨x', ⟨[], rfl, rfl, rfl, ⟨⟨rfl, rfl⟩, ⟨rfl, rfl⟩, ⟨rfl, rfl⟩, ⟨rfl, rfl⟩, ⟨rfl, rfl⟩, ⟨next x' hx, rfl⟩, trivial⟩, ⟨⟨rfl, rfl, rfl⟩, ⟨rfl, rfl, rfl⟩, trivial⟩⟩, by show l.length - x'.1 < l.length - i; omega⟩
              · refine condY ?_ ?_
                · rw [hl1]; simp; omega
                conv => whnf
                rw [finR_no q row l true e (.inr (.inr ⟨i, hlt, by unfold agreeB; rw [show (row.getD i 0 == l.getD i 0) = false by simpa using g]; simp; omega⟩))]
                exact FrzK.le (leReqE rfl rfl rfl rfl Le.nilB (Le.nilI _) rfl)
        · refine condN (by simpa using hlt) ?_
          conv => whnf
          rw [finR_yes q row l sp e he hlen (fun j hj => hag j (by omega))]
          exact FrzK.le (leReqE rfl rfl rfl rfl (Le.refl _) (by rw [kr rfl]; exact Le.nilI _) rfl)
      · conv => whnf
        refine Tr.le (args' := [reqA q.f q.a q.n q.a2 (.roB q.b) (.roI .u16 q.r)]) ⟨Le.agg ⟨Le.refl _, Le.refl _, Le.refl _, Le.refl _, (by rw [kb rfl]; exact Le.nilB), Le.refl _, trivial⟩, trivial⟩ (Ev.call hR ?_)
        conv => whnf
        refine condS (fun h => ?_) (fun h => ?_)
        · conv => whnf
          rw [finR_no q row l sp e (.inl (by simpa using h))]
          exact FrzK.le (leReqE rfl rfl rfl rfl Le.nilB (Le.nilI _) rfl)
        conv => whnf
        refine condS (fun h' => ?_) (fun h' => ?_)
        · conv => whnf
          rw [finR_no q row l sp e (.inr (.inl (by simp at h'; omega)))]
          exact FrzK.le (leReqE rfl rfl rfl rfl Le.nilB (Le.nilI _) rfl)
        conv => whnf
        have he : e = 0 := by simpa using h
        have hlen : row.length = l.length := by simp at h'; omega
        refine loopI (α := {i : Nat // i ≤ l.length ∧ ∀ j, j < i → agreeB row l sp j = true}) (fun i => [(0, .roI .u8 l), (2, .ptr 0 0), (4, .ptr 1 0), (6, .bool sp), (7, .roI .u8 row), (9, .int .i64 i.1)])
          (fun i => ⟨2, [(1, some (.obj [.int .u8 q.f, .int .u16 q.a, .int .u16 q.n, .int .u16 q.a2, .nils, .roI .u16 q.r])), (0, some (.obj [.int .u8 0, .int .u16 0, .int .u16 0, .int .u16 0, .nils, .nils]))]⟩) (fun i => l.length - i.1) ⟨0, Nat.zero_le _, fun j hj => absurd hj (Nat.not_lt_zero j)⟩
          ⟨[], rfl, rfl, rfl, ⟨⟨rfl, rfl⟩, ⟨rfl, rfl⟩, ⟨rfl, rfl⟩, ⟨rfl, rfl⟩, ⟨rfl, rfl⟩, ⟨rfl, rfl⟩, trivial⟩, ⟨⟨rfl, rfl, rfl⟩, ⟨rfl, rfl, rfl⟩, trivial⟩⟩ fun ⟨i, hi, hag⟩ => ?_
        conv => whnf
        have hl1 : IntKind.i64.wrap ((l.length : Int) - 1) = (l.length : Int) - 1 := IntWalk.i64_in _ (by omega)
        by_cases hlt : i < l.length
        · refine condY (by simpa using hlt) ?_
          conv => whnf
          refine condT (by simp; omega) ?_
          conv => whnf
          refine condT (by simpa using hlt) ?_
          conv => whnf
          have step : agreeB row l sp i = true → ∃ x' : {i : Nat // i ≤ l.length ∧ ∀ j, j < i → agreeB row l sp j = true}, x'.1 = i + 1 := fun ha => ⟨⟨i + 1, hlt, fun j hj => by
            by_cases hji : j = i
            · rw [hji]; exact ha
            · exact hag j (by omega)⟩, rfl⟩
          have next : ∀ (x' : {i : Nat // i ≤ l.length ∧ ∀ j, j < i → agreeB row l sp j = true}), x'.1 = i + 1 → AV.int .i64 (IntKind.i64.wrap ((i : Int) + 1)) = AV.int .i64 (x'.1 : Int) := fun x' hx => by
            rw [hx, IntWalk.i64_in _ (by omega)]; rfl
          refine condF (fun g => ?_) (fun g => ?_)
          · conv => whnf
            obtain ⟨x', hx⟩ := step (by unfold agreeB; rw [show (row.getD i 0 == l.getD i 0) = true by simpa using g]; rfl)
            refine ⟨x', ⟨[], rfl, rfl, rfl, ⟨⟨rfl, rfl⟩, ⟨rfl, rfl⟩, ⟨rfl, rfl⟩, ⟨rfl, rfl⟩, ⟨rfl, rfl⟩, ⟨next x' hx, rfl⟩, trivial⟩, ⟨⟨rfl, rfl, rfl⟩, ⟨rfl, rfl, rfl⟩, trivial⟩⟩, by show l.length - x'.1 < l.length - i; omega⟩
          · conv => whnf
            cases sp
            · conv => whnf
              rw [finR_no q row l false e (.inr (.inr ⟨i, hlt, by unfold agreeB; rw [show (row.getD i 0 == l.getD i 0) = false by simpa using g]; rfl⟩))]
              exact FrzK.le (leReqE rfl rfl rfl rfl Le.nilB (Le.nilI _) rfl)
            · conv => whnf
              by_cases hL : i = l.length - 1
              · refine condN ?_ ?_
                · rw [hl1]; simp; omega
                conv => whnf
                obtain ⟨x', hx⟩ := step (by unfold agreeB; simp [hL])
                refine ⟨x', ⟨[], rfl, rfl, rfl, ⟨⟨rfl, rfl⟩, ⟨rfl, rfl⟩, ⟨rfl, rfl⟩, ⟨rfl, rfl⟩, ⟨rfl, rfl⟩, ⟨next x' hx, rfl⟩, trivial⟩, ⟨⟨rfl, rfl, rfl⟩, ⟨rfl, rfl, rfl⟩, trivial⟩⟩, by show l.length - x'.1 < l.length - i; omega⟩
              · refine condY ?_ ?_
                · rw [hl1]; simp; omega
                conv => whnf
                rw [finR_no q row l true e (.inr (.inr ⟨i, hlt, by unfold agreeB; rw [show (row.getD i 0 == l.getD i 0) = false by simpa using g]; simp; omega⟩))]
                exact FrzK.le (leReqE rfl rfl rfl rfl Le.nilB (Le.nilI _) rfl)
        · refine condN (by simpa using hlt) ?_
          conv => whnf
          rw [finR_yes q row l sp e he hlen (fun j hj => hag j (by omega))]
          exact FrzK.le (leReqE rfl rfl rfl rfl (by rw [kb rfl]; exact Le.nilB) (Le.refl _) rfl)
      · conv => whnf
        refine Tr.le (args' := [reqA q.f q.a q.n q.a2 (.roB q.b) (.roI .u16 q.r)]) ⟨Le.agg ⟨Le.refl _, Le.refl _, Le.refl _, Le.refl _, (by rw [kb rfl]; exact Le.nilB), (by rw [kr rfl]; exact Le.nilI _), trivial⟩, trivial⟩ (Ev.call hR ?_)
        conv => whnf
        refine condS (fun h => ?_) (fun h => ?_)
        · conv => whnf
          rw [finR_no q row l sp e (.inl (by simpa using h))]
          exact FrzK.le (leReqE rfl rfl rfl rfl Le.nilB (Le.nilI _) rfl)
        conv => whnf
        refine condS (fun h' => ?_) (fun h' => ?_)
        · conv => whnf
          rw [finR_no q row l sp e (.inr (.inl (by simp at h'; omega)))]
          exact FrzK.le (leReqE rfl rfl rfl rfl Le.nilB (Le.nilI _) rfl)
        conv => whnf
        have he : e = 0 := by simpa using h
        have hlen : row.length = l.length := by simp at h'; omega
        refine loopI (α := {i : Nat // i ≤ l.length ∧ ∀ j, j < i → agreeB row l sp j = true}) (fun i => [(0, .roI .u8 l), (2, .ptr 0 0), (4, .ptr 1 0), (6, .bool sp), (7, .roI .u8 row), (9, .int .i64 i.1)])
          (fun i => ⟨2, [(1, some (.obj [.int .u8 q.f, .int .u16 q.a, .int .u16 q.n, .int .u16 q.a2, .nils, .nils])), (0, some (.obj [.int .u8 0, .int .u16 0, .int .u16 0, .int .u16 0, .nils, .nils]))]⟩) (fun i => l.length - i.1) ⟨0, Nat.zero_le _, fun j hj => absurd hj (Nat.not_lt_zero j)⟩
          ⟨[], rfl, rfl, rfl, ⟨⟨rfl, rfl⟩, ⟨rfl, rfl⟩, ⟨rfl, rfl⟩, ⟨rfl, rfl⟩, ⟨rfl, rfl⟩, ⟨rfl, rfl⟩, trivial⟩, ⟨⟨rfl, rfl, rfl⟩, ⟨rfl, rfl, rfl⟩, trivial⟩⟩ fun ⟨i, hi, hag⟩ => ?_
        conv => whnf
        have hl1 : IntKind.i64.wrap ((l.length : Int) - 1) = (l.length : Int) - 1 := IntWalk.i64_in _ (by omega)
        by_cases hlt : i < l.length
        · refine condY (by simpa using hlt) ?_
          conv => whnf
          refine condT (by simp; omega) ?_
          conv => whnf
          refine condT (by simpa using hlt) ?_
          conv => whnf
          have step : agreeB row l sp i = true → ∃ x' : {i : Nat // i ≤ l.length ∧ ∀ j, j < i → agreeB row l sp j = true}, x'.1 = i + 1 := fun ha => ⟨⟨i + 1, hlt, fun j hj => by
            by_cases hji : j = i
            · rw [hji]; exact ha
            · exact hag j (by omega)⟩, rfl⟩
          have next : ∀ (x' : {i : Nat // i ≤ l.length ∧ ∀ j, j < i → agreeB row l sp j = true}), x'.1 = i + 1 → AV.int .i64 (IntKind.i64.wrap ((i : Int) + 1)) = AV.int .i64 (x'.1 : Int) := fun x' hx => by
            rw [hx, IntWalk.i64_in _ (by omega)]; rfl
          refine condF (fun g => ?_) (fun g => ?_)
          · conv => whnf
            obtain ⟨x', hx⟩ := step (by unfold agreeB; rw [show (row.getD i 0 == l.getD i 0) = true by simpa using g]; rfl)
            refine ⟨x', ⟨[], rfl, rfl, rfl, ⟨⟨rfl, rfl⟩, ⟨rfl, rfl⟩, ⟨rfl, rfl⟩, ⟨rfl, rfl⟩, ⟨rfl, rfl⟩, ⟨next x' hx, rfl⟩, trivial⟩, ⟨⟨rfl, rfl, rfl⟩, ⟨rfl, rfl, rfl⟩, trivial⟩⟩, by show l.length - x'.1 < l.length - i; omega⟩
          · conv => whnf
            cases sp
            · conv => whnf
              rw [finR_no q row l false e (.inr (.inr ⟨i, hlt, by unfold agreeB; rw [show (row.getD i 0 == l.getD i 0) = false by simpa using g]; rfl⟩))]
              exact FrzK.le (leReqE rfl rfl rfl rfl Le.nilB (Le.nilI _) rfl)
            · conv => whnf
              by_cases hL : i = l.length - 1
              · refine condN ?_ ?_
                · rw [hl1]; simp; omega
                conv => whnf
                obtain ⟨x', hx⟩ := step (by unfold agreeB; simp [hL])
                refine ⟨x', ⟨[], rfl, rfl, rfl, ⟨⟨rfl, rfl⟩, ⟨rfl, rfl⟩, ⟨rfl, rfl⟩, ⟨rfl, rfl⟩, ⟨rfl, rfl⟩, ⟨next x' hx, rfl⟩, trivial⟩, ⟨⟨rfl, rfl, rfl⟩, ⟨rfl, rfl, rfl⟩, trivial⟩⟩, by show l.length - x'.1 < l.length - i; omega⟩
              · refine condY ?_ ?_
                · rw [hl1]; simp; omega
                conv => whnf
                rw [finR_no q row l true e (.inr (.inr ⟨i, hlt, by unfold agreeB; rw [show (row.getD i 0 == l.getD i 0) = false by simpa using g]; simp; omega⟩))]
                exact FrzK.le (leReqE rfl rfl rfl rfl Le.nilB (Le.nilI _) rfl)
        · refine condN (by simpa using hlt) ?_
          conv => whnf
          rw [finR_yes q row l sp e he hlen (fun j hj => hag j (by omega))]
          exact FrzK.le (leReqE rfl rfl rfl rfl (by rw [kb rfl]; exact Le.nilB) (by rw [kr rfl]; exact Le.nilI _) rfl)
  · conv => whnf
    have : o = none := by rw [← ho]; unfold rOpenS; rw [if_pos h]
    subst this
    exact FrzK.le (leReqE rfl rfl rfl rfl Le.nilB (Le.nilI _) rfl)
theorem rOpen_ev (l : List Int) (hl : l.length ≤ 1000) : Ev Try.prog 54 [.roI .u8 l] (.tup [rqA (decR l).1, .int .i64 (decR l).2]) := FrzK.ev rfl (rOpen_raw l hl)
end Go.Proofs.Ytomodeliimnddaa
