/- Contracts: layer 3's examples. -/
import Derived.Test.YtomodeliimnddaaAbRep2
import Derived.Test.YtomodeliimnddaaAbOpen2
import Derived.Test.YtomodeliimnddaaAbHelp
set_option linter.unusedVariables false
set_option linter.unusedSimpArgs false
namespace Go.Proofs.Ytomodeliimnddaa
open Go.Ab
/- rung/pdu.OpenReply -/
def a58 : ACode := (.seq (.reg [⟨(some 2), .box (.t 0), none, false⟩, ⟨(some 4), .alloc [(2, (.int .u8 0)), (2, (.int .u16 0)), (2, .nils)], none, false⟩, ⟨(some 5), .mov (.c (.int .i64 0)), none, false⟩])
 (.seq (.reg [⟨(some 13), .build [(.int .u8 0), (.int .u8 0), (.int .u16 0), (.int .u16 0), .nils, .nils] [], none, false⟩, ⟨(some 6), .alloc [(2, (.int .u8 0)), (2, (.int .u16 0)), (2, .nils)], none, false⟩, ⟨none, .store 6 (.t 6) (.t 13), none, false⟩])
 (.seq (.seq (.reg [⟨(some 15), .load true 6 (.t 2), none, false⟩, ⟨(some 16), .call 48 [(.t 15)], none, false⟩, ⟨(some 14), .mov (.t 16), none, false⟩, ⟨(some 17), .ext (.t 14) 0, none, false⟩, ⟨(some 18), .ext (.t 14) 1, none, false⟩, ⟨(some 7), .mov (.t 17), none, false⟩, ⟨(some 8), .mov (.t 18), none, false⟩])
 (.seq (.reg [⟨(some 19), .mov (.t 8), none, false⟩, ⟨(some 20), .bin .neq .other (.t 19) (.c (.int .i64 0)), none, false⟩, ⟨(some 21), .mov (.t 20), none, true⟩, ⟨(some 22), .mov (.t 1), (some (21, false)), false⟩, ⟨(some 23), .len false (.t 22), (some (21, false)), false⟩, ⟨(some 24), .bin .lss .other (.t 23) (.c (.int .i64 2)), (some (21, false)), false⟩, ⟨(some 25), .pick (.t 21) (.c (.bool true)) (.t 24), none, false⟩])
 (.cond (.t 25) (.seq (.reg [⟨(some 26), .load true 6 (.t 6), none, false⟩, ⟨none, .store 6 (.t 4) (.t 26), none, false⟩, ⟨(some 5), .mov (.c (.int .i64 30)), none, false⟩])
 .ret)
 .skip)))
 (.seq (.seq (.draw [⟨0, ⟨(some 27), .mov (.t 1), none, false⟩, false, [], []⟩, ⟨1, ⟨(some 28), .idx 1 none false (.t 27) (.c (.int .i64 0)), none, false⟩, false, [], []⟩, ⟨2, ⟨(some 29), .load false 1 (.t 28), none, false⟩, false, [], []⟩, ⟨3, ⟨(some 30), .fld 0 1 false (.t 2), none, false⟩, false, [], []⟩, ⟨4, ⟨(some 31), .load false 1 (.t 30), none, false⟩, false, [], []⟩, ⟨5, ⟨(some 32), .bin .or .other (.t 31) (.c (.int .u8 128)), none, false⟩, false, [], []⟩, ⟨6, ⟨(some 33), .bin .eql .other (.t 29) (.t 32), none, false⟩, false, [], []⟩])
 (.cond (.t 33) (.seq (.seq (.reg [⟨(some 34), .mov (.t 1), none, false⟩, ⟨(some 35), .len false (.t 34), none, false⟩, ⟨(some 36), .bin .neq .other (.t 35) (.c (.int .i64 2)), none, false⟩, ⟨(some 37), .mov (.t 36), none, true⟩, ⟨(some 38), .mov (.t 1), (some (37, false)), false⟩, ⟨(some 39), .idx 1 none false (.t 38) (.c (.int .i64 1)), (some (37, false)), false⟩, ⟨(some 40), .load false 1 (.t 39), (some (37, false)), false⟩, ⟨(some 41), .bin .eql .other (.t 40) (.c (.int .u8 0)), (some (37, false)), false⟩, ⟨(some 42), .pick (.t 37) (.c (.bool true)) (.t 41), none, false⟩])
 (.cond (.t 42) (.seq (.reg [⟨(some 43), .load true 6 (.t 6), none, false⟩, ⟨none, .store 6 (.t 4) (.t 43), none, false⟩, ⟨(some 5), .mov (.c (.int .i64 30)), none, false⟩])
 .ret)
 .skip))
 (.seq (.draw [⟨0, ⟨(some 44), .fld 0 1 false (.t 2), none, false⟩, false, [], []⟩, ⟨1, ⟨(some 45), .load false 1 (.t 44), none, false⟩, false, [], []⟩, ⟨2, ⟨(some 46), .mov (.t 1), none, false⟩, false, [], []⟩, ⟨3, ⟨(some 47), .idx 1 none false (.t 46) (.c (.int .i64 1)), none, false⟩, false, [], []⟩, ⟨4, ⟨(some 48), .load false 1 (.t 47), none, false⟩, false, [], []⟩, ⟨5, ⟨(some 49), .build [(.int .u8 0), (.int .u8 0), (.int .u16 0), (.int .u16 0), .nils, .nils] [(0, 1, (.t 45)), (1, 1, (.t 48))], none, false⟩, false, [], []⟩, ⟨6, ⟨none, .store 6 (.t 4) (.t 49), none, false⟩, true, [], []⟩, ⟨7, ⟨(some 5), .mov (.c (.int .i64 0)), none, false⟩, false, [], []⟩])
 .ret))
 .skip))
 (.seq (.reg [⟨(some 50), .fld 0 1 false (.t 2), none, false⟩, ⟨(some 51), .load false 1 (.t 50), none, false⟩, ⟨(some 52), .build [(.int .u8 0), (.int .u8 0), (.int .u16 0), (.int .u16 0), .nils, .nils] [(0, 1, (.t 51))], none, false⟩, ⟨(some 9), .alloc [(2, (.int .u8 0)), (2, (.int .u16 0)), (2, .nils)], none, false⟩, ⟨none, .store 6 (.t 9) (.t 52), none, false⟩])
 (.seq (.seq (.reg [⟨(some 53), .fld 0 1 false (.t 2), none, false⟩, ⟨(some 54), .load false 1 (.t 53), none, false⟩])
 (.block 0 (.seq (.seq (.reg [⟨(some 56), .bin .eql .other (.t 54) (.c (.int .u8 1)), none, false⟩, ⟨(some 55), .mov (.t 56), none, false⟩])
 (.cond (.t 55) .skip
 (.reg [⟨(some 57), .bin .eql .other (.t 54) (.c (.int .u8 2)), none, false⟩, ⟨(some 55), .mov (.t 57), none, false⟩])))
 (.cond (.t 55) (.seq (.reg [⟨(some 58), .fld 2 1 false (.t 2), none, false⟩, ⟨(some 59), .load false 1 (.t 58), none, false⟩, ⟨(some 60), .conv (.int .i64) (.t 59), none, false⟩, ⟨(some 61), .bin .add .other (.t 60) (.c (.int .i64 7)), none, false⟩, ⟨(some 62), .bin .quo .other (.t 61) (.c (.int .i64 8)), none, false⟩, ⟨(some 10), .mov (.t 62), none, false⟩])
 (.seq (.seq (.draw [⟨0, ⟨(some 63), .mov (.t 1), none, false⟩, false, [], []⟩, ⟨1, ⟨(some 64), .idx 1 none false (.t 63) (.c (.int .i64 0)), none, false⟩, false, [], []⟩, ⟨2, ⟨(some 65), .load false 1 (.t 64), none, false⟩, false, [], []⟩, ⟨3, ⟨(some 66), .fld 0 1 false (.t 2), none, false⟩, false, [], []⟩, ⟨4, ⟨(some 67), .load false 1 (.t 66), none, false⟩, false, [], []⟩, ⟨5, ⟨(some 68), .bin .neq .other (.t 65) (.t 67), none, false⟩, false, [], []⟩, ⟨6, ⟨(some 69), .mov (.t 68), none, true⟩, false, [], []⟩, ⟨7, ⟨(some 70), .mov (.t 1), (some (69, false)), false⟩, false, [], []⟩, ⟨8, ⟨(some 71), .idx 1 none false (.t 70) (.c (.int .i64 1)), (some (69, false)), false⟩, false, [], []⟩, ⟨9, ⟨(some 72), .load false 1 (.t 71), (some (69, false)), false⟩, false, [], []⟩, ⟨10, ⟨(some 73), .conv (.int .i64) (.t 72), (some (69, false)), false⟩, false, [], []⟩, ⟨11, ⟨(some 74), .mov (.t 10), (some (69, false)), false⟩, false, [], []⟩, ⟨12, ⟨(some 75), .bin .neq .other (.t 73) (.t 74), (some (69, false)), false⟩, false, [], []⟩, ⟨13, ⟨(some 76), .pick (.t 69) (.c (.bool true)) (.t 75), none, false⟩, false, [], []⟩, ⟨14, ⟨(some 77), .mov (.t 76), none, true⟩, false, [], []⟩, ⟨15, ⟨(some 78), .mov (.t 1), (some (77, false)), false⟩, false, [], []⟩, ⟨16, ⟨(some 79), .len false (.t 78), (some (77, false)), false⟩, false, [], []⟩, ⟨17, ⟨(some 80), .mov (.t 10), (some (77, false)), false⟩, false, [], []⟩, ⟨18, ⟨(some 81), .bin .add .other (.t 80) (.c (.int .i64 2)), (some (77, false)), false⟩, false, [], []⟩, ⟨19, ⟨(some 82), .bin .neq .other (.t 79) (.t 81), (some (77, false)), false⟩, false, [], []⟩, ⟨20, ⟨(some 83), .pick (.t 77) (.c (.bool true)) (.t 82), none, false⟩, false, [], []⟩])
 (.cond (.t 83) (.seq (.reg [⟨(some 84), .load true 6 (.t 6), none, false⟩, ⟨none, .store 6 (.t 4) (.t 84), none, false⟩, ⟨(some 5), .mov (.c (.int .i64 30)), none, false⟩])
 .ret)
 .skip))
 (.seq (.draw [⟨0, ⟨(some 85), .mov (.t 1), none, false⟩, false, [], []⟩, ⟨1, ⟨(some 86), .slice (.sl 1) (.t 85) (some (.c (.int .i64 2))) none, none, false⟩, false, [], []⟩, ⟨2, ⟨(some 87), .fld 2 1 false (.t 2), none, false⟩, false, [], []⟩, ⟨3, ⟨(some 88), .load false 1 (.t 87), none, false⟩, false, [], []⟩, ⟨4, ⟨(some 89), .conv (.int .i64) (.t 88), none, false⟩, false, [], []⟩, ⟨5, ⟨(some 90), .call 64 [(.t 86), (.t 89)], none, false⟩, true, [], []⟩, ⟨6, ⟨(some 91), .fld 4 1 false (.t 9), none, false⟩, false, [], []⟩, ⟨7, ⟨none, .store 1 (.t 91) (.t 90), none, false⟩, true, [], []⟩])
 (.seq (.reg [⟨(some 92), .load true 6 (.t 9), none, false⟩, ⟨none, .store 6 (.t 4) (.t 92), none, false⟩, ⟨(some 5), .mov (.c (.int .i64 0)), none, false⟩])
 .ret))))
 (.seq (.seq (.reg [⟨(some 94), .bin .eql .other (.t 54) (.c (.int .u8 3)), none, false⟩, ⟨(some 93), .mov (.t 94), none, false⟩])
 (.cond (.t 93) .skip
 (.seq (.reg [⟨(some 95), .bin .eql .other (.t 54) (.c (.int .u8 4)), none, false⟩, ⟨(some 93), .mov (.t 95), none, false⟩])
 (.cond (.t 93) .skip
 (.reg [⟨(some 96), .bin .eql .other (.t 54) (.c (.int .u8 23)), none, false⟩, ⟨(some 93), .mov (.t 96), none, false⟩])))))
 (.cond (.t 93) (.seq (.reg [⟨(some 97), .mov (.t 1), none, false⟩, ⟨(some 98), .slice (.sl 1) (.t 97) (some (.c (.int .i64 2))) none, none, false⟩, ⟨(some 99), .call 121 [(.t 98)], none, false⟩, ⟨(some 100), .fld 5 1 false (.t 9), none, false⟩, ⟨none, .store 1 (.t 100) (.t 99), none, false⟩])
 (.seq (.reg [⟨(some 101), .fld 5 1 false (.t 9), none, false⟩, ⟨(some 102), .load false 1 (.t 101), none, false⟩, ⟨(some 103), .len false (.t 102), none, false⟩, ⟨(some 104), .fld 2 1 false (.t 2), none, false⟩, ⟨(some 105), .load false 1 (.t 104), none, false⟩, ⟨(some 106), .conv (.int .i64) (.t 105), none, false⟩, ⟨(some 107), .bin .neq .other (.t 103) (.t 106), none, false⟩])
 (.cond (.t 107) (.seq (.reg [⟨(some 108), .load true 6 (.t 6), none, false⟩, ⟨none, .store 6 (.t 4) (.t 108), none, false⟩, ⟨(some 5), .mov (.c (.int .i64 30)), none, false⟩])
 .ret)
 .skip)))
 (.seq (.seq (.reg [⟨(some 110), .bin .eql .other (.t 54) (.c (.int .u8 5)), none, false⟩, ⟨(some 109), .mov (.t 110), none, false⟩])
 (.cond (.t 109) .skip
 (.seq (.reg [⟨(some 111), .bin .eql .other (.t 54) (.c (.int .u8 6)), none, false⟩, ⟨(some 109), .mov (.t 111), none, false⟩])
 (.cond (.t 109) .skip
 (.reg [⟨(some 112), .bin .eql .other (.t 54) (.c (.int .u8 22)), none, false⟩, ⟨(some 109), .mov (.t 112), none, false⟩])))))
 (.cond (.t 109) (.draw [⟨0, ⟨(some 113), .fld 1 1 false (.t 2), none, false⟩, false, [], []⟩, ⟨1, ⟨(some 114), .load false 1 (.t 113), none, false⟩, false, [], []⟩, ⟨2, ⟨(some 115), .fld 4 1 false (.t 2), none, false⟩, false, [], []⟩, ⟨3, ⟨(some 116), .load false 1 (.t 115), none, false⟩, false, [], []⟩, ⟨5, ⟨(some 118), .fld 5 1 false (.t 2), none, false⟩, false, [], []⟩, ⟨6, ⟨(some 119), .load false 1 (.t 118), none, false⟩, false, [], []⟩, ⟨8, ⟨(some 121), .fld 2 1 false (.t 9), none, false⟩, false, [], []⟩, ⟨4, ⟨(some 117), .call 122 [(.t 116)], none, false⟩, true, [], [(.t 113), (.t 118)]⟩, ⟨7, ⟨(some 120), .call 101 [(.t 119)], none, false⟩, true, [], [(.t 113)]⟩, ⟨9, ⟨none, .store 1 (.t 121) (.t 114), none, false⟩, true, [], []⟩, ⟨10, ⟨(some 122), .fld 4 1 false (.t 9), none, false⟩, false, [], []⟩, ⟨11, ⟨none, .store 1 (.t 122) (.t 117), none, false⟩, true, [], []⟩, ⟨12, ⟨(some 123), .fld 5 1 false (.t 9), none, false⟩, false, [], []⟩, ⟨13, ⟨none, .store 1 (.t 123) (.t 120), none, false⟩, true, [], []⟩])
 (.seq (.reg [⟨(some 125), .bin .eql .other (.t 54) (.c (.int .u8 15)), none, false⟩, ⟨(some 124), .mov (.t 125), none, false⟩])
 (.cond (.t 124) (.draw [⟨0, ⟨(some 126), .fld 1 1 false (.t 2), none, false⟩, false, [], []⟩, ⟨1, ⟨(some 127), .load false 1 (.t 126), none, false⟩, false, [], []⟩, ⟨2, ⟨(some 128), .fld 4 1 false (.t 2), none, false⟩, false, [], []⟩, ⟨3, ⟨(some 129), .load false 1 (.t 128), none, false⟩, false, [], []⟩, ⟨4, ⟨(some 130), .len false (.t 129), none, false⟩, false, [], []⟩, ⟨5, ⟨(some 131), .conv (.int .u16) (.t 130), none, false⟩, false, [], []⟩, ⟨6, ⟨(some 132), .fld 2 1 false (.t 9), none, false⟩, false, [], []⟩, ⟨7, ⟨none, .store 1 (.t 132) (.t 127), none, false⟩, true, [], [(.t 128)]⟩, ⟨8, ⟨(some 133), .fld 3 1 false (.t 9), none, false⟩, false, [], []⟩, ⟨9, ⟨none, .store 1 (.t 133) (.t 131), none, false⟩, true, [], []⟩])
 (.seq (.reg [⟨(some 135), .bin .eql .other (.t 54) (.c (.int .u8 16)), none, false⟩, ⟨(some 134), .mov (.t 135), none, false⟩])
 (.cond (.t 134) (.draw [⟨0, ⟨(some 136), .fld 1 1 false (.t 2), none, false⟩, false, [], []⟩, ⟨1, ⟨(some 137), .load false 1 (.t 136), none, false⟩, false, [], []⟩, ⟨2, ⟨(some 138), .fld 5 1 false (.t 2), none, false⟩, false, [], []⟩, ⟨3, ⟨(some 139), .load false 1 (.t 138), none, false⟩, false, [], []⟩, ⟨4, ⟨(some 140), .len false (.t 139), none, false⟩, false, [], []⟩, ⟨5, ⟨(some 141), .conv (.int .u16) (.t 140), none, false⟩, false, [], []⟩, ⟨6, ⟨(some 142), .fld 2 1 false (.t 9), none, false⟩, false, [], []⟩, ⟨7, ⟨none, .store 1 (.t 142) (.t 137), none, false⟩, true, [], [(.t 138)]⟩, ⟨8, ⟨(some 143), .fld 3 1 false (.t 9), none, false⟩, false, [], []⟩, ⟨9, ⟨none, .store 1 (.t 143) (.t 141), none, false⟩, true, [], []⟩])
 .skip))))))))))))
 (.seq (.seq (.reg [⟨(some 145), .load true 6 (.t 9), none, false⟩, ⟨(some 146), .call 56 [(.t 145)], none, false⟩, ⟨(some 144), .mov (.t 146), none, false⟩, ⟨(some 147), .ext (.t 144) 0, none, false⟩, ⟨(some 148), .ext (.t 144) 1, none, false⟩, ⟨(some 11), .mov (.t 147), none, false⟩, ⟨(some 12), .mov (.t 148), none, false⟩])
 (.seq (.reg [⟨(some 149), .mov (.t 12), none, false⟩, ⟨(some 150), .bin .neq .other (.t 149) (.c (.int .i64 0)), none, false⟩, ⟨(some 151), .mov (.t 150), none, true⟩, ⟨(some 152), .mov (.t 11), (some (151, false)), false⟩, ⟨(some 153), .mov (.t 1), (some (151, false)), false⟩, ⟨(some 154), .call 115 [(.t 152), (.t 153)], (some (151, false)), false⟩, ⟨(some 155), .un .not (.t 154), (some (151, false)), false⟩, ⟨(some 156), .pick (.t 151) (.c (.bool true)) (.t 155), none, false⟩])
 (.cond (.t 156) (.seq (.reg [⟨(some 157), .load true 6 (.t 6), none, false⟩, ⟨none, .store 6 (.t 4) (.t 157), none, false⟩, ⟨(some 5), .mov (.c (.int .i64 30)), none, false⟩])
 .ret)
 .skip)))
 (.seq (.reg [⟨(some 158), .load true 6 (.t 9), none, false⟩, ⟨none, .store 6 (.t 4) (.t 158), none, false⟩, ⟨(some 5), .mov (.c (.int .i64 0)), none, false⟩])
 .ret))))))))
def r58 : List ARes := [.cell 4 true 6, .t 5]
theorem c58 : compF Try.prog Try.f58 = some (a58, r58) := by kernel_rfl

theorem b58 : hasBody Try.prog 58 = true := by kernel_rfl
theorem g58 : Try.prog.funcs[58]? = some Try.f58 := by kernel_rfl
/- rung/runglaw3.known -/
def a46 : ACode := (.seq (.reg [⟨(some 0), .mov (.c (.bool false)), none, false⟩])
 (.seq (.reg [⟨(some 12), .build [(.int .u8 0), (.int .u16 0), (.int .u16 0), (.int .u16 0), .nils, .nils] [(0, 1, (.c (.int .u8 3))), (1, 1, (.c (.int .u16 107))), (2, 1, (.c (.int .u16 3)))], none, false⟩, ⟨(some 13), .call 48 [(.t 12)], none, false⟩, ⟨(some 11), .mov (.t 13), none, false⟩, ⟨(some 14), .ext (.t 11) 0, none, false⟩, ⟨(some 15), .ext (.t 11) 1, none, false⟩, ⟨(some 1), .mov (.t 14), none, false⟩, ⟨(some 2), .mov (.t 15), none, false⟩])
 (.seq (.reg [⟨(some 17), .mov (.t 1), none, false⟩, ⟨(some 18), .call 51 [(.t 17)], none, false⟩, ⟨(some 16), .mov (.t 18), none, false⟩, ⟨(some 19), .ext (.t 16) 0, none, false⟩, ⟨(some 20), .ext (.t 16) 1, none, false⟩, ⟨(some 3), .alloc [(1, (.int .u8 0)), (3, (.int .u16 0)), (2, .nils)], none, false⟩, ⟨none, .store 6 (.t 3) (.t 19), none, false⟩, ⟨(some 4), .mov (.t 20), none, false⟩])
 (.seq (.reg [⟨(some 22), .build [(.int .u8 0), (.int .u8 0), (.int .u16 0), (.int .u16 0), .nils, .nils] [(0, 1, (.c (.int .u8 1))), (1, 1, (.c (.int .u8 2)))], none, false⟩, ⟨(some 23), .call 56 [(.t 22)], none, false⟩, ⟨(some 21), .mov (.t 23), none, false⟩, ⟨(some 24), .ext (.t 21) 0, none, false⟩, ⟨(some 25), .ext (.t 21) 1, none, false⟩, ⟨(some 5), .mov (.t 24), none, false⟩, ⟨(some 6), .mov (.t 25), none, false⟩])
 (.seq (.reg [⟨(some 27), .load true 6 (.t 3), none, false⟩, ⟨(some 28), .bslice 1 (.int .u8) [(.int .u8 0), (.int .u8 0), (.int .u8 0), (.int .u8 0), (.int .u8 0), (.int .u8 0), (.int .u8 0), (.int .u8 0)] [(0, 1, (.c (.int .u8 3))), (1, 1, (.c (.int .u8 6))), (2, 1, (.c (.int .u8 0))), (3, 1, (.c (.int .u8 1))), (4, 1, (.c (.int .u8 0))), (5, 1, (.c (.int .u8 2))), (6, 1, (.c (.int .u8 0))), (7, 1, (.c (.int .u8 3)))] 8, none, false⟩, ⟨(some 29), .call 58 [(.t 27), (.t 28)], none, false⟩, ⟨(some 26), .mov (.t 29), none, false⟩, ⟨(some 30), .ext (.t 26) 0, none, false⟩, ⟨(some 31), .ext (.t 26) 1, none, false⟩, ⟨(some 7), .alloc [(2, (.int .u8 0)), (2, (.int .u16 0)), (2, .nils)], none, false⟩, ⟨none, .store 6 (.t 7) (.t 30), none, false⟩, ⟨(some 8), .mov (.t 31), none, false⟩])
 (.seq (.reg [⟨(some 33), .load true 6 (.t 3), none, false⟩, ⟨(some 34), .bslice 1 (.int .u8) [(.int .u8 0), (.int .u8 0), (.int .u8 0), (.int .u8 0), (.int .u8 0), (.int .u8 0)] [(0, 1, (.c (.int .u8 3))), (1, 1, (.c (.int .u8 4))), (2, 1, (.c (.int .u8 0))), (3, 1, (.c (.int .u8 1))), (4, 1, (.c (.int .u8 0))), (5, 1, (.c (.int .u8 2)))] 6, none, false⟩, ⟨(some 35), .call 58 [(.t 33), (.t 34)], none, false⟩, ⟨(some 32), .mov (.t 35), none, false⟩, ⟨(some 36), .ext (.t 32) 0, none, false⟩, ⟨(some 37), .ext (.t 32) 1, none, false⟩, ⟨(some 9), .alloc [(2, (.int .u8 0)), (2, (.int .u16 0)), (2, .nils)], none, false⟩, ⟨none, .store 6 (.t 9) (.t 36), none, false⟩, ⟨(some 10), .mov (.t 37), none, false⟩])
 (.seq (.reg [⟨(some 38), .mov (.t 2), none, false⟩, ⟨(some 39), .mov (.t 4), none, false⟩, ⟨(some 40), .bin .add .other (.t 38) (.t 39), none, false⟩, ⟨(some 41), .mov (.t 6), none, false⟩, ⟨(some 42), .bin .add .other (.t 40) (.t 41), none, false⟩, ⟨(some 43), .mov (.t 8), none, false⟩, ⟨(some 44), .bin .add .other (.t 42) (.t 43), none, false⟩, ⟨(some 45), .bin .eql .other (.t 44) (.c (.int .i64 0)), none, false⟩, ⟨(some 46), .mov (.t 45), none, true⟩, ⟨(some 47), .mov (.t 1), (some (46, true)), false⟩, ⟨(some 48), .bslice 1 (.int .u8) [(.int .u8 0), (.int .u8 0), (.int .u8 0), (.int .u8 0), (.int .u8 0)] [(0, 1, (.c (.int .u8 3))), (1, 1, (.c (.int .u8 0))), (2, 1, (.c (.int .u8 107))), (3, 1, (.c (.int .u8 0))), (4, 1, (.c (.int .u8 3)))] 5, (some (46, true)), false⟩, ⟨(some 49), .call 50 [(.t 47), (.t 48)], (some (46, true)), false⟩, ⟨(some 50), .pick (.t 46) (.t 49) (.c (.bool false)), none, false⟩, ⟨(some 51), .mov (.t 50), none, true⟩, ⟨(some 52), .fld 2 1 false (.t 3), (some (51, true)), false⟩, ⟨(some 53), .load false 1 (.t 52), (some (51, true)), false⟩, ⟨(some 54), .bin .eql .other (.t 53) (.c (.int .u16 3)), (some (51, true)), false⟩, ⟨(some 55), .pick (.t 51) (.t 54) (.c (.bool false)), none, false⟩, ⟨(some 56), .mov (.t 55), none, true⟩, ⟨(some 57), .mov (.t 5), (some (56, true)), false⟩, ⟨(some 58), .bslice 1 (.int .u8) [(.int .u8 0), (.int .u8 0)] [(0, 1, (.c (.int .u8 129))), (1, 1, (.c (.int .u8 2)))] 2, (some (56, true)), false⟩, ⟨(some 59), .call 50 [(.t 57), (.t 58)], (some (56, true)), false⟩, ⟨(some 60), .pick (.t 56) (.t 59) (.c (.bool false)), none, false⟩, ⟨(some 61), .mov (.t 60), none, true⟩, ⟨(some 62), .fld 5 1 false (.t 7), (some (61, true)), false⟩, ⟨(some 63), .load false 1 (.t 62), (some (61, true)), false⟩, ⟨(some 64), .len false (.t 63), (some (61, true)), false⟩, ⟨(some 65), .bin .eql .other (.t 64) (.c (.int .i64 3)), (some (61, true)), false⟩, ⟨(some 66), .pick (.t 61) (.t 65) (.c (.bool false)), none, false⟩, ⟨(some 67), .mov (.t 66), none, true⟩, ⟨(some 68), .fld 5 1 false (.t 7), (some (67, true)), false⟩, ⟨(some 69), .load false 1 (.t 68), (some (67, true)), false⟩, ⟨(some 70), .idx 1 none false (.t 69) (.c (.int .i64 2)), (some (67, true)), false⟩, ⟨(some 71), .load false 1 (.t 70), (some (67, true)), false⟩, ⟨(some 72), .bin .eql .other (.t 71) (.c (.int .u16 3)), (some (67, true)), false⟩, ⟨(some 73), .pick (.t 67) (.t 72) (.c (.bool false)), none, false⟩, ⟨(some 74), .mov (.t 73), none, true⟩, ⟨(some 75), .mov (.t 10), (some (74, true)), false⟩, ⟨(some 76), .bin .eql .other (.t 75) (.c (.int .i64 30)), (some (74, true)), false⟩, ⟨(some 77), .pick (.t 74) (.t 76) (.c (.bool false)), none, false⟩, ⟨(some 78), .mov (.t 77), none, true⟩, ⟨(some 79), .call 65 [(.c (.int .u8 23))], (some (78, true)), false⟩, ⟨(some 80), .pick (.t 78) (.t 79) (.c (.bool false)), none, false⟩, ⟨(some 81), .mov (.t 80), none, true⟩, ⟨(some 82), .call 65 [(.c (.int .u8 7))], (some (81, true)), false⟩, ⟨(some 83), .un .not (.t 82), (some (81, true)), false⟩, ⟨(some 84), .pick (.t 81) (.t 83) (.c (.bool false)), none, false⟩, ⟨(some 0), .mov (.t 84), none, false⟩])
 .ret)))))))
def r46 : List ARes := [.t 0]
theorem c46 : compF Try.prog Try.f46 = some (a46, r46) := by kernel_rfl

theorem b46 : hasBody Try.prog 46 = true := by kernel_rfl
theorem g46 : Try.prog.funcs[46]? = some Try.f46 := by kernel_rfl
/- rung/runglaw3.light -/
def a47 : ACode := (.seq (.reg [⟨(some 1), .box (.t 0), none, false⟩, ⟨(some 2), .mov (.c (.bool false)), none, false⟩])
 (.seq (.reg [⟨(some 3), .fld 4 1 false (.t 1), none, false⟩, ⟨(some 4), .load false 1 (.t 3), none, false⟩, ⟨(some 5), .len false (.t 4), none, false⟩, ⟨(some 6), .bin .leq .other (.t 5) (.c (.int .i64 2500)), none, false⟩, ⟨(some 7), .mov (.t 6), none, true⟩, ⟨(some 8), .fld 5 1 false (.t 1), (some (7, true)), false⟩, ⟨(some 9), .load false 1 (.t 8), (some (7, true)), false⟩, ⟨(some 10), .len false (.t 9), (some (7, true)), false⟩, ⟨(some 11), .bin .leq .other (.t 10) (.c (.int .i64 200)), (some (7, true)), false⟩, ⟨(some 12), .pick (.t 7) (.t 11) (.c (.bool false)), none, false⟩, ⟨(some 2), .mov (.t 12), none, false⟩])
 .ret))
def r47 : List ARes := [.t 2]
theorem c47 : compF Try.prog Try.f47 = some (a47, r47) := by kernel_rfl

theorem b47 : hasBody Try.prog 47 = true := by kernel_rfl
theorem g47 : Try.prog.funcs[47]? = some Try.f47 := by kernel_rfl
/- rung/runglaw3.lightly -/
def a55 : ACode := (.seq (.reg [⟨(some 1), .box (.t 0), none, false⟩, ⟨(some 2), .mov (.c (.bool false)), none, false⟩])
 (.seq (.reg [⟨(some 3), .fld 4 1 false (.t 1), none, false⟩, ⟨(some 4), .load false 1 (.t 3), none, false⟩, ⟨(some 5), .len false (.t 4), none, false⟩, ⟨(some 6), .bin .leq .other (.t 5) (.c (.int .i64 2500)), none, false⟩, ⟨(some 7), .mov (.t 6), none, true⟩, ⟨(some 8), .fld 5 1 false (.t 1), (some (7, true)), false⟩, ⟨(some 9), .load false 1 (.t 8), (some (7, true)), false⟩, ⟨(some 10), .len false (.t 9), (some (7, true)), false⟩, ⟨(some 11), .bin .leq .other (.t 10) (.c (.int .i64 200)), (some (7, true)), false⟩, ⟨(some 12), .pick (.t 7) (.t 11) (.c (.bool false)), none, false⟩, ⟨(some 2), .mov (.t 12), none, false⟩])
 .ret))
def r55 : List ARes := [.t 2]
theorem c55 : compF Try.prog Try.f55 = some (a55, r55) := by kernel_rfl

theorem b55 : hasBody Try.prog 55 = true := by kernel_rfl
theorem g55 : Try.prog.funcs[55]? = some Try.f55 := by kernel_rfl

theorem leReqN {f a n a2 : Int} {B R : AV} {b : List Bool} {r : List Int} (hb : Le B (.roB b)) (hr : Le R (.roI .u16 r)) : LeL [reqA f a n a2 B R] [reqA f a n a2 (.roB b) (.roI .u16 r)] :=
  ⟨Le.agg ⟨Le.refl _, Le.refl _, Le.refl _, Le.refl _, hb, hr, trivial⟩, trivial⟩
theorem leRepN {f a n a2 : Int} {B R : AV} {b : List Bool} {r : List Int} (hb : Le B (.roB b)) (hr : Le R (.roI .u16 r)) : LeL [repA f a n a2 B R] [repA f a n a2 (.roB b) (.roI .u16 r)] :=
  ⟨Le.agg ⟨Le.refl _, Le.refl _, Le.refl _, Le.refl _, hb, hr, trivial⟩, trivial⟩
theorem leRep {f x a n : Int} {B R : AV} {e e' : Int} {f' x' a' n' : Int} {b : List Bool} {r : List Int} (hf : f = f') (hx : x = x') (ha : a = a') (hn : n = n') (hb : Le B (.roB b)) (hr : Le R (.roI .u16 r)) (he : e = e') :
    Le (.tup [repA f x a n B R, .int .i64 e]) (.tup [repA f' x' a' n' (.roB b) (.roI .u16 r), .int .i64 e']) := by
  subst hf; subst ha; subst hn; subst hx; subst he
  exact Le.tup ⟨Le.agg ⟨Le.refl _, Le.refl _, Le.refl _, Le.refl _, hb, hr, trivial⟩, Le.refl _, trivial⟩
theorem bytes_ev (l m : List Int) : Ev Try.prog 50 [.roI .u8 l, .roI .u8 m] (.bool ((bytesStr l).toList == (bytesStr m).toList)) := ⟨rfl, bytes_tr l m⟩
theorem kreq : Ev Try.prog 48 [reqA 3 107 3 0 (.roB []) (.roI .u16 [])] (.tup [.roI .u8 [3, 0, 107, 0, 3], .int .i64 0]) := by
  have h := Request_ev 3 107 3 0 [] [] (by decide) (by decide) (by decide) (by decide)
  rw [show encR 3 107 3 0 [] [] = [3, 0, 107, 0, 3] by kernel_rfl, show encE 3 3 0 [] [] = 0 by kernel_rfl] at h
  exact h
theorem kopen : Ev Try.prog 51 [.roI .u8 [3, 0, 107, 0, 3]] (.tup [reqA 3 107 3 0 (.roB []) (.roI .u16 []), .int .i64 0]) := by
  have h := OpenRequest_ev [3, 0, 107, 0, 3] (by decide)
  rw [show decS [3, 0, 107, 0, 3] = (⟨3, 107, 3, 0, [], []⟩, 0) by kernel_rfl] at h
  exact h
theorem krep : Ev Try.prog 56 [repA 1 2 0 0 (.roB []) (.roI .u16 [])] (.tup [.roI .u8 [129, 2], .int .i64 0]) := by
  have h := Reply_ev 1 2 0 0 [] [] (by decide) (by decide) (by decide) (by decide)
  rw [show repB 1 2 0 0 [] [] = [129, 2] by kernel_rfl, show repE 1 2 0 0 [] [] = 0 by kernel_rfl] at h
  exact h
theorem krep2 : Ev Try.prog 56 [repA 3 0 0 0 (.roB []) (.roI .u16 [1, 2, 3])] (.tup [.roI .u8 [3, 6, 0, 1, 0, 2, 0, 3], .int .i64 0]) := by
  have h := Reply_ev 3 0 0 0 [] [1, 2, 3] (by decide) (by decide) (by decide) (by decide)
  rw [show repB 3 0 0 0 [] [1, 2, 3] = [3, 6, 0, 1, 0, 2, 0, 3] by kernel_rfl, show repE 3 0 0 0 [] [1, 2, 3] = 0 by kernel_rfl] at h
  exact h
theorem knums : Ev Try.prog 121 [.roI .u8 [0, 1, 0, 2, 0, 3]] (.roI .u16 [1, 2, 3]) := by
  have h := numbers_ev [0, 1, 0, 2, 0, 3] (by decide)
  rw [show numsN [0, 1, 0, 2, 0, 3] (([0, 1, 0, 2, 0, 3] : List Int).length / 2) = [1, 2, 3] by kernel_rfl] at h
  exact h
theorem knums2 : Ev Try.prog 121 [.roI .u8 [0, 1, 0, 2]] (.roI .u16 [1, 2]) := by
  have h := numbers_ev [0, 1, 0, 2] (by decide)
  rw [show numsN [0, 1, 0, 2] (([0, 1, 0, 2] : List Int).length / 2) = [1, 2] by kernel_rfl] at h
  exact h
theorem korep : Ev Try.prog 58 [reqA 3 107 3 0 (.roB []) (.roI .u16 []), .roI .u8 [3, 6, 0, 1, 0, 2, 0, 3]] (.tup [repA 3 0 0 0 (.roB []) (.roI .u16 [1, 2, 3]), .int .i64 0]) := by
  refine FrzK.ev rfl ?_
  refine trF g58 b58 c58 ?_
  conv => whnf
  refine Ev.call kreq ?_
  conv => whnf
  refine Ev.call knums ?_
  conv => whnf
  refine Tr.le (leRepN Le.nilB (Le.refl _)) (Ev.call krep2 ?_)
  conv => whnf
  refine Ev.call (equal8_ev [3, 6, 0, 1, 0, 2, 0, 3] [3, 6, 0, 1, 0, 2, 0, 3] (by decide)) ?_
  conv => whnf
  exact FrzK.le (leRep rfl rfl rfl rfl Le.nilB (Le.refl _) rfl)
theorem korep2 : Ev Try.prog 58 [reqA 3 107 3 0 (.roB []) (.roI .u16 []), .roI .u8 [3, 4, 0, 1, 0, 2]] (.tup [repA 0 0 0 0 (.roB []) (.roI .u16 []), .int .i64 30]) := by
  refine FrzK.ev rfl ?_
  refine trF g58 b58 c58 ?_
  conv => whnf
  refine Ev.call kreq ?_
  conv => whnf
  refine Ev.call knums2 ?_
  conv => whnf
  exact FrzK.le (leRep rfl rfl rfl rfl Le.nilB (Le.nilI _) rfl)
theorem known_ev (x : Int) : Ev Try.prog 65 [.int .u8 x] (.bool (knownB x)) := ⟨rfl, known_tr x⟩
theorem kb1 : Ev Try.prog 50 [.roI .u8 [3, 0, 107, 0, 3], .roI .u8 [3, 0, 107, 0, 3]] (.bool true) := by
  have h := bytes_ev [3, 0, 107, 0, 3] [3, 0, 107, 0, 3]
  rwa [beq_self_eq_true] at h
theorem kb2 : Ev Try.prog 50 [.roI .u8 [129, 2], .roI .u8 [129, 2]] (.bool true) := by
  have h := bytes_ev [129, 2] [129, 2]
  rwa [beq_self_eq_true] at h
theorem known3 : Ev Try.prog 46 [] (.bool true) := by
  refine FrzK.ev rfl ?_
  refine trF g46 b46 c46 ?_
  conv => whnf
  refine Tr.le (leReqN Le.nilB (Le.nilI _)) (Ev.call kreq ?_)
  conv => whnf
  refine Ev.call kopen ?_
  conv => whnf
  refine Tr.le (leRepN Le.nilB (Le.nilI _)) (Ev.call krep ?_)
  conv => whnf
  refine Tr.lend (0 + 1) rfl (Ev.call korep ?_)
  conv => whnf
  refine Tr.lend (0 + 1 + 1 + 1) rfl (Ev.call korep2 ?_)
  conv => whnf
  refine Tr.lend 5 rfl (Ev.call kb1 ?_)
  conv => whnf
  refine Tr.lend 6 rfl (Ev.call kb2 ?_)
  conv => whnf
  refine Ev.call (known_ev 23) ?_
  conv => whnf
  refine Ev.call (known_ev 7) ?_
  conv => whnf
  exact FrzK.le (Le.refl _)
end Go.Proofs.Ytomodeliimnddaa
