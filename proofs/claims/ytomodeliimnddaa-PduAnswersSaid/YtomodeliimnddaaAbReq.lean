/- Contracts: pdu.request. -/
import Derived.Test.YtomodeliimnddaaAbPdu1
import Derived.Test.YtomodeliimnddaaAbPack
import Derived.Test.YtomodeliimnddaaAbSame
import Derived.Test.YtomodeliimnddaaAbEv
set_option linter.unusedVariables false
set_option linter.unusedSimpArgs false
namespace Go.Proofs.Ytomodeliimnddaa
open Go.Ab
/- rung/pdu.request -/
def a109 : ACode := (.seq (.reg [⟨(some 1), .box (.t 0), none, false⟩, ⟨(some 2), .mov (.c .nils), none, false⟩, ⟨(some 3), .alloc [(1, (.int .u8 0)), (3, (.int .u16 0)), (2, .nils)], none, false⟩, ⟨(some 4), .mov (.c (.bool false)), none, false⟩])
 (.seq (.reg [⟨(some 9), .fld 0 1 false (.t 1), none, false⟩, ⟨(some 10), .load false 1 (.t 9), none, false⟩, ⟨(some 11), .fld 1 1 false (.t 1), none, false⟩, ⟨(some 12), .load false 1 (.t 11), none, false⟩, ⟨(some 13), .build [(.int .u8 0), (.int .u16 0), (.int .u16 0), (.int .u16 0), .nils, .nils] [(0, 1, (.t 10)), (1, 1, (.t 12))], none, false⟩, ⟨(some 5), .alloc [(1, (.int .u8 0)), (3, (.int .u16 0)), (2, .nils)], none, false⟩, ⟨none, .store 6 (.t 5) (.t 13), none, false⟩])
 (.seq (.reg [⟨(some 14), .fld 0 1 false (.t 1), none, false⟩, ⟨(some 15), .load false 1 (.t 14), none, false⟩, ⟨(some 16), .bslice 1 (.int .u8) [(.int .u8 0)] [(0, 1, (.t 15))] 1, none, false⟩, ⟨(some 17), .fld 1 1 false (.t 1), none, false⟩, ⟨(some 18), .load false 1 (.t 17), none, false⟩, ⟨(some 19), .call 146 [(.t 16), (.t 18)], none, false⟩, ⟨(some 6), .mov (.t 19), none, false⟩])
 (.seq (.seq (.reg [⟨(some 20), .fld 0 1 false (.t 1), none, false⟩, ⟨(some 21), .load false 1 (.t 20), none, false⟩])
 (.block 0 (.seq (.seq (.reg [⟨(some 23), .bin .eql .other (.t 21) (.c (.int .u8 1)), none, false⟩, ⟨(some 22), .mov (.t 23), none, false⟩])
 (.cond (.t 22) .skip
 (.reg [⟨(some 24), .bin .eql .other (.t 21) (.c (.int .u8 2)), none, false⟩, ⟨(some 22), .mov (.t 24), none, false⟩])))
 (.cond (.t 22) (.seq (.reg [⟨(some 25), .fld 2 1 false (.t 1), none, false⟩, ⟨(some 26), .load false 1 (.t 25), none, false⟩, ⟨(some 27), .fld 2 1 false (.t 5), none, false⟩, ⟨none, .store 1 (.t 27) (.t 26), none, false⟩])
 (.seq (.draw [⟨0, ⟨(some 28), .mov (.t 6), none, false⟩, false, [], []⟩, ⟨1, ⟨(some 29), .fld 2 1 false (.t 1), none, false⟩, false, [], []⟩, ⟨2, ⟨(some 30), .load false 1 (.t 29), none, false⟩, false, [], []⟩, ⟨4, ⟨(some 32), .load true 6 (.t 5), none, false⟩, false, [], []⟩, ⟨5, ⟨(some 33), .fld 2 1 false (.t 1), none, false⟩, false, [], []⟩, ⟨6, ⟨(some 34), .load false 1 (.t 33), none, false⟩, false, [], []⟩, ⟨3, ⟨(some 31), .call 146 [(.t 28), (.t 30)], none, false⟩, true, [], [(.t 5), (.t 33)]⟩, ⟨7, ⟨(some 35), .call 147 [(.t 34), (.c (.int .u16 2000))], none, false⟩, true, [], [(.t 5)]⟩, ⟨8, ⟨(some 2), .mov (.t 31), none, false⟩, false, [], []⟩, ⟨9, ⟨none, .store 6 (.t 3) (.t 32), none, false⟩, true, [], []⟩, ⟨10, ⟨(some 4), .mov (.t 35), none, false⟩, false, [], []⟩])
 .ret))
 (.seq (.seq (.reg [⟨(some 37), .bin .eql .other (.t 21) (.c (.int .u8 3)), none, false⟩, ⟨(some 36), .mov (.t 37), none, false⟩])
 (.cond (.t 36) .skip
 (.reg [⟨(some 38), .bin .eql .other (.t 21) (.c (.int .u8 4)), none, false⟩, ⟨(some 36), .mov (.t 38), none, false⟩])))
 (.cond (.t 36) (.seq (.reg [⟨(some 39), .fld 2 1 false (.t 1), none, false⟩, ⟨(some 40), .load false 1 (.t 39), none, false⟩, ⟨(some 41), .fld 2 1 false (.t 5), none, false⟩, ⟨none, .store 1 (.t 41) (.t 40), none, false⟩])
 (.seq (.draw [⟨0, ⟨(some 42), .mov (.t 6), none, false⟩, false, [], []⟩, ⟨1, ⟨(some 43), .fld 2 1 false (.t 1), none, false⟩, false, [], []⟩, ⟨2, ⟨(some 44), .load false 1 (.t 43), none, false⟩, false, [], []⟩, ⟨4, ⟨(some 46), .load true 6 (.t 5), none, false⟩, false, [], []⟩, ⟨5, ⟨(some 47), .fld 2 1 false (.t 1), none, false⟩, false, [], []⟩, ⟨6, ⟨(some 48), .load false 1 (.t 47), none, false⟩, false, [], []⟩, ⟨3, ⟨(some 45), .call 146 [(.t 42), (.t 44)], none, false⟩, true, [], [(.t 5), (.t 47)]⟩, ⟨7, ⟨(some 49), .call 147 [(.t 48), (.c (.int .u16 125))], none, false⟩, true, [], [(.t 5)]⟩, ⟨8, ⟨(some 2), .mov (.t 45), none, false⟩, false, [], []⟩, ⟨9, ⟨none, .store 6 (.t 3) (.t 46), none, false⟩, true, [], []⟩, ⟨10, ⟨(some 4), .mov (.t 49), none, false⟩, false, [], []⟩])
 .ret))
 (.seq (.reg [⟨(some 51), .bin .eql .other (.t 21) (.c (.int .u8 5)), none, false⟩, ⟨(some 50), .mov (.t 51), none, false⟩])
 (.cond (.t 50) (.seq (.reg [⟨(some 52), .fld 4 1 false (.t 1), none, false⟩, ⟨(some 53), .load false 1 (.t 52), none, false⟩, ⟨(some 54), .fld 4 1 false (.t 5), none, false⟩, ⟨none, .store 1 (.t 54) (.t 53), none, false⟩])
 (.seq (.draw [⟨0, ⟨(some 55), .mov (.t 6), none, false⟩, false, [], []⟩, ⟨1, ⟨(some 56), .fld 4 1 false (.t 1), none, false⟩, false, [], []⟩, ⟨2, ⟨(some 57), .load false 1 (.t 56), none, false⟩, false, [], []⟩, ⟨3, ⟨(some 58), .len false (.t 57), none, false⟩, false, [], []⟩, ⟨4, ⟨(some 59), .bin .eql .other (.t 58) (.c (.int .i64 1)), none, false⟩, false, [], []⟩, ⟨5, ⟨(some 60), .mov (.t 59), none, true⟩, false, [], []⟩, ⟨6, ⟨(some 61), .fld 4 1 false (.t 1), (some (60, true)), false⟩, false, [], []⟩, ⟨7, ⟨(some 62), .load false 1 (.t 61), (some (60, true)), false⟩, false, [], []⟩, ⟨8, ⟨(some 63), .idx 1 none false (.t 62) (.c (.int .i64 0)), (some (60, true)), false⟩, false, [], []⟩, ⟨9, ⟨(some 64), .load false 1 (.t 63), (some (60, true)), false⟩, false, [], []⟩, ⟨10, ⟨(some 65), .pick (.t 60) (.t 64) (.c (.bool false)), none, false⟩, false, [], []⟩, ⟨12, ⟨(some 67), .load true 6 (.t 5), none, false⟩, false, [], []⟩, ⟨13, ⟨(some 68), .fld 4 1 false (.t 1), none, false⟩, false, [], []⟩, ⟨14, ⟨(some 69), .load false 1 (.t 68), none, false⟩, false, [], []⟩, ⟨15, ⟨(some 70), .len false (.t 69), none, false⟩, false, [], []⟩, ⟨16, ⟨(some 71), .bin .eql .other (.t 70) (.c (.int .i64 1)), none, false⟩, false, [], []⟩, ⟨11, ⟨(some 66), .call 148 [(.t 55), (.t 65)], none, false⟩, true, [], [(.t 5), (.t 68)]⟩, ⟨17, ⟨(some 2), .mov (.t 66), none, false⟩, false, [], []⟩, ⟨18, ⟨none, .store 6 (.t 3) (.t 67), none, false⟩, true, [], [(.t 68)]⟩, ⟨19, ⟨(some 4), .mov (.t 71), none, false⟩, false, [], []⟩])
 .ret))
 (.seq (.seq (.reg [⟨(some 73), .bin .eql .other (.t 21) (.c (.int .u8 6)), none, false⟩, ⟨(some 72), .mov (.t 73), none, false⟩])
 (.cond (.t 72) .skip
 (.reg [⟨(some 74), .bin .eql .other (.t 21) (.c (.int .u8 22)), none, false⟩, ⟨(some 72), .mov (.t 74), none, false⟩])))
 (.cond (.t 72) (.seq (.reg [⟨(some 75), .fld 5 1 false (.t 1), none, false⟩, ⟨(some 76), .load false 1 (.t 75), none, false⟩, ⟨(some 77), .fld 5 1 false (.t 5), none, false⟩, ⟨none, .store 1 (.t 77) (.t 76), none, false⟩])
 (.seq (.reg [⟨(some 7), .mov (.c (.int .i64 1)), none, false⟩])
 (.seq (.seq (.reg [⟨(some 78), .fld 0 1 false (.t 1), none, false⟩, ⟨(some 79), .load false 1 (.t 78), none, false⟩, ⟨(some 80), .bin .eql .other (.t 79) (.c (.int .u8 22)), none, false⟩])
 (.cond (.t 80) (.reg [⟨(some 7), .mov (.c (.int .i64 2)), none, false⟩])
 .skip))
 (.seq (.draw [⟨0, ⟨(some 81), .mov (.t 6), none, false⟩, false, [], []⟩, ⟨1, ⟨(some 82), .fld 5 1 false (.t 1), none, false⟩, false, [], []⟩, ⟨2, ⟨(some 83), .load false 1 (.t 82), none, false⟩, false, [], []⟩, ⟨4, ⟨(some 85), .load true 6 (.t 5), none, false⟩, false, [], []⟩, ⟨5, ⟨(some 86), .fld 5 1 false (.t 1), none, false⟩, false, [], []⟩, ⟨6, ⟨(some 87), .load false 1 (.t 86), none, false⟩, false, [], []⟩, ⟨7, ⟨(some 88), .len false (.t 87), none, false⟩, false, [], []⟩, ⟨8, ⟨(some 89), .mov (.t 7), none, false⟩, false, [], []⟩, ⟨9, ⟨(some 90), .bin .eql .other (.t 88) (.t 89), none, false⟩, false, [], []⟩, ⟨3, ⟨(some 84), .call 149 [(.t 81), (.t 83)], none, false⟩, true, [], [(.t 5), (.t 86)]⟩, ⟨10, ⟨(some 2), .mov (.t 84), none, false⟩, false, [], []⟩, ⟨11, ⟨none, .store 6 (.t 3) (.t 85), none, false⟩, true, [], [(.t 86)]⟩, ⟨12, ⟨(some 4), .mov (.t 90), none, false⟩, false, [], []⟩])
 .ret))))
 (.seq (.reg [⟨(some 92), .bin .eql .other (.t 21) (.c (.int .u8 15)), none, false⟩, ⟨(some 91), .mov (.t 92), none, false⟩])
 (.cond (.t 91) (.seq (.reg [⟨(some 93), .fld 4 1 false (.t 1), none, false⟩, ⟨(some 94), .load false 1 (.t 93), none, false⟩, ⟨(some 95), .fld 4 1 false (.t 5), none, false⟩, ⟨none, .store 1 (.t 95) (.t 94), none, false⟩])
 (.seq (.reg [⟨(some 96), .fld 4 1 false (.t 1), none, false⟩, ⟨(some 97), .load false 1 (.t 96), none, false⟩, ⟨(some 98), .call 61 [(.t 97)], none, false⟩, ⟨(some 8), .mov (.t 98), none, false⟩])
 (.seq (.reg [⟨(some 99), .mov (.t 6), none, false⟩, ⟨(some 100), .fld 4 1 false (.t 1), none, false⟩, ⟨(some 101), .load false 1 (.t 100), none, false⟩, ⟨(some 102), .len false (.t 101), none, false⟩, ⟨(some 103), .conv (.int .u16) (.t 102), none, false⟩, ⟨(some 104), .call 146 [(.t 99), (.t 103)], none, false⟩, ⟨(some 105), .mov (.t 8), none, false⟩, ⟨(some 106), .len false (.t 105), none, false⟩, ⟨(some 107), .conv (.int .u8) (.t 106), none, false⟩, ⟨(some 108), .bslice 1 (.int .u8) [(.int .u8 0)] [(0, 1, (.t 107))] 1, none, false⟩, ⟨(some 109), .app 1 1 (.t 104) (.t 108), none, false⟩, ⟨(some 6), .mov (.t 109), none, false⟩])
 (.seq (.draw [⟨0, ⟨(some 110), .mov (.t 6), none, false⟩, false, [], []⟩, ⟨1, ⟨(some 111), .mov (.t 8), none, false⟩, false, [], []⟩, ⟨3, ⟨(some 113), .load true 6 (.t 5), none, false⟩, false, [], []⟩, ⟨4, ⟨(some 114), .fld 4 1 false (.t 1), none, false⟩, false, [], []⟩, ⟨5, ⟨(some 115), .load false 1 (.t 114), none, false⟩, false, [], []⟩, ⟨6, ⟨(some 116), .len false (.t 115), none, false⟩, false, [], []⟩, ⟨2, ⟨(some 112), .app 1 1 (.t 110) (.t 111), none, false⟩, true, [], [(.t 5), (.t 114)]⟩, ⟨7, ⟨(some 117), .call 150 [(.t 116), (.c (.int .i64 1968))], none, false⟩, true, [], [(.t 5)]⟩, ⟨8, ⟨(some 2), .mov (.t 112), none, false⟩, false, [], []⟩, ⟨9, ⟨none, .store 6 (.t 3) (.t 113), none, false⟩, true, [], []⟩, ⟨10, ⟨(some 4), .mov (.t 117), none, false⟩, false, [], []⟩])
 .ret))))
 (.seq (.reg [⟨(some 119), .bin .eql .other (.t 21) (.c (.int .u8 16)), none, false⟩, ⟨(some 118), .mov (.t 119), none, false⟩])
 (.cond (.t 118) (.seq (.reg [⟨(some 120), .fld 5 1 false (.t 1), none, false⟩, ⟨(some 121), .load false 1 (.t 120), none, false⟩, ⟨(some 122), .fld 5 1 false (.t 5), none, false⟩, ⟨none, .store 1 (.t 122) (.t 121), none, false⟩])
 (.seq (.draw [⟨0, ⟨(some 123), .mov (.t 6), none, false⟩, false, [], []⟩, ⟨1, ⟨(some 124), .fld 5 1 false (.t 1), none, false⟩, false, [], []⟩, ⟨2, ⟨(some 125), .load false 1 (.t 124), none, false⟩, false, [], []⟩, ⟨3, ⟨(some 126), .len false (.t 125), none, false⟩, false, [], []⟩, ⟨4, ⟨(some 127), .conv (.int .u16) (.t 126), none, false⟩, false, [], []⟩, ⟨6, ⟨(some 129), .fld 5 1 false (.t 1), none, false⟩, false, [], []⟩, ⟨7, ⟨(some 130), .load false 1 (.t 129), none, false⟩, false, [], []⟩, ⟨8, ⟨(some 131), .len false (.t 130), none, false⟩, false, [], []⟩, ⟨9, ⟨(some 132), .bin .mul .other (.c (.int .i64 2)) (.t 131), none, false⟩, false, [], []⟩, ⟨10, ⟨(some 133), .conv (.int .u8) (.t 132), none, false⟩, false, [], []⟩, ⟨11, ⟨(some 134), .bslice 1 (.int .u8) [(.int .u8 0)] [(0, 1, (.t 133))] 1, none, false⟩, false, [], []⟩, ⟨5, ⟨(some 128), .call 146 [(.t 123), (.t 127)], none, false⟩, true, [], [(.t 129)]⟩, ⟨12, ⟨(some 135), .app 1 1 (.t 128) (.t 134), none, false⟩, true, [11], []⟩, ⟨13, ⟨(some 6), .mov (.t 135), none, false⟩, false, [], []⟩])
 (.seq (.draw [⟨0, ⟨(some 136), .mov (.t 6), none, false⟩, false, [], []⟩, ⟨1, ⟨(some 137), .fld 5 1 false (.t 1), none, false⟩, false, [], []⟩, ⟨2, ⟨(some 138), .load false 1 (.t 137), none, false⟩, false, [], []⟩, ⟨4, ⟨(some 140), .load true 6 (.t 5), none, false⟩, false, [], []⟩, ⟨5, ⟨(some 141), .fld 5 1 false (.t 1), none, false⟩, false, [], []⟩, ⟨6, ⟨(some 142), .load false 1 (.t 141), none, false⟩, false, [], []⟩, ⟨7, ⟨(some 143), .len false (.t 142), none, false⟩, false, [], []⟩, ⟨3, ⟨(some 139), .call 149 [(.t 136), (.t 138)], none, false⟩, true, [], [(.t 5), (.t 141)]⟩, ⟨8, ⟨(some 144), .call 150 [(.t 143), (.c (.int .i64 123))], none, false⟩, true, [], [(.t 5)]⟩, ⟨9, ⟨(some 2), .mov (.t 139), none, false⟩, false, [], []⟩, ⟨10, ⟨none, .store 6 (.t 3) (.t 140), none, false⟩, true, [], []⟩, ⟨11, ⟨(some 4), .mov (.t 144), none, false⟩, false, [], []⟩])
 .ret)))
 (.seq (.reg [⟨(some 146), .bin .eql .other (.t 21) (.c (.int .u8 23)), none, false⟩, ⟨(some 145), .mov (.t 146), none, false⟩])
 (.cond (.t 145) (.seq (.draw [⟨0, ⟨(some 147), .fld 2 1 false (.t 1), none, false⟩, false, [], []⟩, ⟨1, ⟨(some 148), .load false 1 (.t 147), none, false⟩, false, [], []⟩, ⟨2, ⟨(some 149), .fld 3 1 false (.t 1), none, false⟩, false, [], []⟩, ⟨3, ⟨(some 150), .load false 1 (.t 149), none, false⟩, false, [], []⟩, ⟨4, ⟨(some 151), .fld 5 1 false (.t 1), none, false⟩, false, [], []⟩, ⟨5, ⟨(some 152), .load false 1 (.t 151), none, false⟩, false, [], []⟩, ⟨6, ⟨(some 153), .fld 2 1 false (.t 5), none, false⟩, false, [], []⟩, ⟨7, ⟨none, .store 1 (.t 153) (.t 148), none, false⟩, true, [], [(.t 149), (.t 151)]⟩, ⟨8, ⟨(some 154), .fld 3 1 false (.t 5), none, false⟩, false, [], []⟩, ⟨9, ⟨none, .store 1 (.t 154) (.t 150), none, false⟩, true, [], [(.t 151)]⟩, ⟨10, ⟨(some 155), .fld 5 1 false (.t 5), none, false⟩, false, [], []⟩, ⟨11, ⟨none, .store 1 (.t 155) (.t 152), none, false⟩, true, [], []⟩])
 (.seq (.draw [⟨0, ⟨(some 156), .mov (.t 6), none, false⟩, false, [], []⟩, ⟨1, ⟨(some 157), .fld 2 1 false (.t 1), none, false⟩, false, [], []⟩, ⟨2, ⟨(some 158), .load false 1 (.t 157), none, false⟩, false, [], []⟩, ⟨4, ⟨(some 160), .fld 3 1 false (.t 1), none, false⟩, false, [], []⟩, ⟨5, ⟨(some 161), .load false 1 (.t 160), none, false⟩, false, [], []⟩, ⟨3, ⟨(some 159), .call 146 [(.t 156), (.t 158)], none, false⟩, true, [], [(.t 160)]⟩, ⟨6, ⟨(some 162), .call 146 [(.t 159), (.t 161)], none, false⟩, true, [], []⟩, ⟨7, ⟨(some 6), .mov (.t 162), none, false⟩, false, [], []⟩])
 (.seq (.draw [⟨0, ⟨(some 163), .mov (.t 6), none, false⟩, false, [], []⟩, ⟨1, ⟨(some 164), .fld 5 1 false (.t 1), none, false⟩, false, [], []⟩, ⟨2, ⟨(some 165), .load false 1 (.t 164), none, false⟩, false, [], []⟩, ⟨3, ⟨(some 166), .len false (.t 165), none, false⟩, false, [], []⟩, ⟨4, ⟨(some 167), .conv (.int .u16) (.t 166), none, false⟩, false, [], []⟩, ⟨6, ⟨(some 169), .fld 5 1 false (.t 1), none, false⟩, false, [], []⟩, ⟨7, ⟨(some 170), .load false 1 (.t 169), none, false⟩, false, [], []⟩, ⟨8, ⟨(some 171), .len false (.t 170), none, false⟩, false, [], []⟩, ⟨9, ⟨(some 172), .bin .mul .other (.c (.int .i64 2)) (.t 171), none, false⟩, false, [], []⟩, ⟨10, ⟨(some 173), .conv (.int .u8) (.t 172), none, false⟩, false, [], []⟩, ⟨11, ⟨(some 174), .bslice 1 (.int .u8) [(.int .u8 0)] [(0, 1, (.t 173))] 1, none, false⟩, false, [], []⟩, ⟨5, ⟨(some 168), .call 146 [(.t 163), (.t 167)], none, false⟩, true, [], [(.t 169)]⟩, ⟨12, ⟨(some 175), .app 1 1 (.t 168) (.t 174), none, false⟩, true, [11], []⟩, ⟨13, ⟨(some 6), .mov (.t 175), none, false⟩, false, [], []⟩])
 (.seq (.draw [⟨0, ⟨(some 176), .mov (.t 6), none, false⟩, false, [], []⟩, ⟨1, ⟨(some 177), .fld 5 1 false (.t 1), none, false⟩, false, [], []⟩, ⟨2, ⟨(some 178), .load false 1 (.t 177), none, false⟩, false, [], []⟩, ⟨4, ⟨(some 180), .load true 6 (.t 5), none, false⟩, false, [], []⟩, ⟨5, ⟨(some 181), .fld 2 1 false (.t 1), none, false⟩, false, [], []⟩, ⟨6, ⟨(some 182), .load false 1 (.t 181), none, false⟩, false, [], []⟩, ⟨7, ⟨(some 183), .conv (.int .i64) (.t 182), none, false⟩, false, [], []⟩, ⟨3, ⟨(some 179), .call 149 [(.t 176), (.t 178)], none, false⟩, true, [], [(.t 5), (.t 181)]⟩, ⟨8, ⟨(some 184), .call 150 [(.t 183), (.c (.int .i64 125))], none, false⟩, true, [], [(.t 5)]⟩, ⟨9, ⟨(some 185), .mov (.t 184), none, true⟩, false, [], []⟩, ⟨10, ⟨(some 186), .fld 5 1 false (.t 1), (some (185, true)), false⟩, false, [], []⟩, ⟨11, ⟨(some 187), .load false 1 (.t 186), (some (185, true)), false⟩, false, [], []⟩, ⟨12, ⟨(some 188), .len false (.t 187), (some (185, true)), false⟩, false, [], []⟩, ⟨13, ⟨(some 189), .call 150 [(.t 188), (.c (.int .i64 121))], (some (185, true)), false⟩, true, [], [(.t 5)]⟩, ⟨14, ⟨(some 190), .pick (.t 185) (.t 189) (.c (.bool false)), none, false⟩, false, [], []⟩, ⟨15, ⟨(some 2), .mov (.t 179), none, false⟩, false, [], []⟩, ⟨16, ⟨none, .store 6 (.t 3) (.t 180), none, false⟩, true, [], []⟩, ⟨17, ⟨(some 4), .mov (.t 190), none, false⟩, false, [], []⟩])
 .ret))))
 .skip))))))))))))))))
 (.seq (.draw [⟨0, ⟨(some 191), .load true 6 (.t 5), none, false⟩, false, [], []⟩, ⟨1, ⟨(some 2), .mov (.c .nils), none, false⟩, false, [], []⟩, ⟨2, ⟨none, .store 6 (.t 3) (.t 191), none, false⟩, true, [], []⟩, ⟨3, ⟨(some 4), .mov (.c (.bool false)), none, false⟩, false, [], []⟩])
 .ret)))))
def r109 : List ARes := [.t 2, .cell 3 true 6, .t 4]
theorem c109 : compF Try.prog Try.f109 = some (a109, r109) := by kernel_rfl

theorem b109 : hasBody Try.prog 109 = true := by kernel_rfl
theorem g109 : Try.prog.funcs[109]? = some Try.f109 := by kernel_rfl

def pre3 (f a : Int) : List Int := [f] ++ two8 a
structure ReqS where
  row : List Int
  n : Int
  a2 : Int
  b : List Bool
  r : List Int
  ok : Bool
def row15 (f a : Int) (b : List Bool) : List Int := pre3 f a ++ two8 (IntKind.u16.wrap b.length) ++ [IntKind.u8.wrap ((b.length + 7) / 8 : Nat)] ++ packN b b.length
def rowR (p : List Int) (r : List Int) : List Int := p ++ two8 (IntKind.u16.wrap r.length) ++ [IntKind.u8.wrap (IntKind.i64.wrap (2 * r.length))] ++ twos r
def reqS (f a n a2 : Int) (b : List Bool) (r : List Int) : ReqS :=
  if f == 1 then ⟨pre3 f a ++ two8 n, n, 0, [], [], withinB n 2000⟩
  else if f == 2 then ⟨pre3 f a ++ two8 n, n, 0, [], [], withinB n 2000⟩
  else if f == 3 then ⟨pre3 f a ++ two8 n, n, 0, [], [], withinB n 125⟩
  else if f == 4 then ⟨pre3 f a ++ two8 n, n, 0, [], [], withinB n 125⟩
  else if f == 5 then ⟨pre3 f a ++ two8 (coilN ((b.length : Int) == 1 && b.getD 0 false)), 0, 0, b, [], (b.length : Int) == 1⟩
  else if f == 6 then ⟨pre3 f a ++ twos r, 0, 0, [], r, (r.length : Int) == 1⟩
  else if f == 22 then ⟨pre3 f a ++ twos r, 0, 0, [], r, (r.length : Int) == 2⟩
  else if f == 15 then ⟨row15 f a b, 0, 0, b, [], withinB b.length 1968⟩
  else if f == 16 then ⟨rowR (pre3 f a) r, 0, 0, [], r, withinB r.length 123⟩
  else if f == 23 then ⟨rowR (pre3 f a ++ two8 n ++ two8 a2) r, n, a2, [], r, withinB n 125 && withinB r.length 121⟩
  else ⟨[], 0, 0, [], [], false⟩
theorem two_len (l : List Int) (x : Int) : (l ++ two8 x).length = l.length + 2 := by simp [two8]
theorem two_call {h len : Nat} {l : List Int} {x : Int} {s : St} {K : AV → St → Prop} (hg : s.get h = some (.rowI .u8 l)) (hl : len = l.length) (hb : l.length ≤ 100000)
    (k : openS s fun n m => K (.sl 1 n 0 (l ++ two8 x).length) ⟨n + 1, (n, some (.rowI .u8 (l ++ two8 x))) :: (h, none) :: m⟩) : Tr Try.prog 146 [.sl 1 h 0 len, .int .u16 x] s K :=
  rowCall (by rw [two_len]; exact two_tr l x hb) rfl hg hl k
theorem regs_len (l m : List Int) : (l ++ twos m).length = l.length + 2 * m.length := by simp [twos_length]
theorem regs_call {h len : Nat} {l m : List Int} {s : St} {K : AV → St → Prop} (hg : s.get h = some (.rowI .u8 l)) (hl : len = l.length) (hb : l.length ≤ 1000) (hm : m.length ≤ 1000)
    (k : openS s fun n t => K (.sl 1 n 0 (l ++ twos m).length) ⟨n + 1, (n, some (.rowI .u8 (l ++ twos m))) :: (h, none) :: t⟩) : Tr Try.prog 149 [.sl 1 h 0 len, .roI .u16 m] s K :=
  rowCall (by rw [regs_len]; exact regs_tr l m hb hm) rfl hg hl k
theorem coil_ev (l : List Int) (b : Bool) (hl : l.length ≤ 100000) : Tr Try.prog 148 [.sl 1 0 0 l.length, .bool b] ⟨1, [(0, some (.rowI .u8 l))]⟩ fun v s => v = .sl 1 1 0 (l ++ two8 (coilN b)).length ∧ s = ⟨2, [(1, some (.rowI .u8 (l ++ two8 (coilN b))))]⟩ := by
  refine Tr.norm (coil_tr l b hl) fun v s ⟨hv, hs⟩ => ?_
  subst hv; subst hs
  rw [two_len]
  refine ⟨_, _, ?_, rfl, rfl⟩
  exact ⟨[], rfl, rfl, rfl, ⟨⟨rfl, rfl⟩, trivial⟩, ⟨⟨trivial, rfl, rfl⟩, trivial⟩⟩
theorem coil_call {h len : Nat} {l : List Int} {b : Bool} {s : St} {K : AV → St → Prop} (hg : s.get h = some (.rowI .u8 l)) (hl : len = l.length) (hb : l.length ≤ 100000)
    (k : openS s fun n m => K (.sl 1 n 0 (l ++ two8 (coilN b)).length) ⟨n + 1, (n, some (.rowI .u8 (l ++ two8 (coilN b)))) :: (h, none) :: m⟩) : Tr Try.prog 148 [.sl 1 h 0 len, .bool b] s K :=
  rowCall (coil_ev l b hb) rfl hg hl k
theorem pack_ev (l : List Bool) (hl : l.length ≤ 100000) : Ev Try.prog 61 [.roB l] (.roI .u8 (packN l l.length)) := Ev.row rfl (by rw [packN_length]; exact pack_tr l hl)
theorem within_ev (n m : Int) : Ev Try.prog 150 [.int .i64 n, .int .i64 m] (.bool (withinB n m)) := ⟨rfl, within_tr n m⟩
theorem within16_ev (n m : Int) : Ev Try.prog 147 [.int .u16 n, .int .u16 m] (.bool (withinB n m)) := ⟨rfl, within16_tr n m⟩
/-- what request hands back, as it comes -/
def RawK (row : List Int) (rest : List AV) (v : AV) (s : St) : Prop := ∃ v', Le v v' ∧ ((∃ h, v' = .tup (.sl 1 h 0 row.length :: rest) ∧ s.get h = some (.rowI .u8 row)) ∨ (row = [] ∧ v' = .tup (.nils :: rest)))
attribute [irreducible] RawK
def reqR (f a : Int) (q : ReqS) : List AV := [reqA f a q.n q.a2 (.roB q.b) (.roI .u16 q.r), .bool q.ok]
theorem RawK.req {f a n a2 : Int} {q : ReqS} {B R : AV} {s : St} {h len : Nat} {ok : Bool} {l : List Int} (hg : s.get h = some (.rowI .u8 l)) (he : l = q.row) (hl : len = l.length) (hn : n = q.n) (ha : a2 = q.a2) (hb : Le B (.roB q.b)) (hr : Le R (.roI .u16 q.r)) (hok : ok = q.ok) :
    RawK q.row (reqR f a q) (.tup [.sl 1 h 0 len, reqA f a n a2 B R, .bool ok]) s := by
  subst hl; subst he; subst hn; subst ha; subst hok
  unfold RawK
  refine ⟨_, ?_, .inl ⟨h, rfl, hg⟩⟩
  exact Le.tup ⟨Le.refl _, Le.agg ⟨Le.refl _, Le.refl _, Le.refl _, Le.refl _, hb, hr, trivial⟩, Le.refl _, trivial⟩
theorem RawK.req0 {f a n a2 : Int} {q : ReqS} {B R : AV} {s : St} {ok : Bool} (hg : q.row = []) (hn : n = q.n) (ha : a2 = q.a2) (hb : Le B (.roB q.b)) (hr : Le R (.roI .u16 q.r)) (hok : ok = q.ok) :
    RawK q.row (reqR f a q) (.tup [.nils, reqA f a n a2 B R, .bool ok]) s := by
  subst hn; subst ha; subst hok
  unfold RawK
  refine ⟨_, ?_, .inr ⟨hg, rfl⟩⟩
  exact Le.tup ⟨Le.refl _, Le.agg ⟨Le.refl _, Le.refl _, Le.refl _, Le.refl _, hb, hr, trivial⟩, Le.refl _, trivial⟩
theorem request_raw (f a n a2 : Int) (b : List Bool) (r : List Int) (hn0 : 0 ≤ n) (hn1 : n < 65536) (hb : b.length ≤ 2500) (hr : r.length ≤ 500) : Tr Try.prog 109 [reqA f a n a2 (.roB b) (.roI .u16 r)] ⟨0, []⟩ (RawK (reqS f a n a2 b r).row (reqR f a (reqS f a n a2 b r))) := by
  have hw : IntKind.i64.wrap n = n := IntWalk.i64_in _ (by omega)
  refine trF g109 b109 c109 ?_
  conv => whnf
  repeat' (first
    | (refine condY (by assumption) ?_; conv => whnf)
    | (refine condN (by assumption) ?_; conv => whnf)
    | (refine condT (by first | assumption | (simp [twos_length, packN_length, two8]; done) | (simp [twos_length, packN_length, two8]; omega) | (simp_all; done) | (simp_all; omega)) ?_; conv => whnf)
    | (refine condF (fun h => ?_) (fun h => ?_) <;> conv => whnf)
    | (refine ⟨rfl, ?_⟩; conv => whnf)
    | (refine two_call rfl (by first | (simp [twos_length, packN_length, two8]; done) | (simp [twos_length, packN_length, two8]; omega) | omega) (by first | (simp [twos_length, packN_length, two8]; done) | (simp [twos_length, packN_length, two8]; omega) | omega) ?_; conv => whnf)
    | (refine coil_call rfl (by first | (simp [twos_length, packN_length, two8]; done) | (simp [twos_length, packN_length, two8]; omega) | omega) (by first | (simp [twos_length, packN_length, two8]; done) | (simp [twos_length, packN_length, two8]; omega) | omega) ?_; conv => whnf)
    | (refine regs_call rfl (by first | (simp [twos_length, packN_length, two8]; done) | (simp [twos_length, packN_length, two8]; omega) | omega) (by first | (simp [twos_length, packN_length, two8]; done) | (simp [twos_length, packN_length, two8]; omega) | omega) (by omega) ?_; conv => whnf)
    | (refine Ev.call (within16_ev _ _) ?_; conv => whnf)
    | (refine Ev.call (within_ev _ _) ?_; conv => whnf)
    | (refine Ev.call (pack_ev _ (by omega)) ?_; conv => whnf)
    )
  all_goals (generalize hq : reqS f a n a2 b r = q; simp only [reqS, *, if_true, if_false, Bool.false_eq_true, Bool.true_and, Bool.false_and] at hq; subst hq)
  all_goals try (rw [hw] at *)
  all_goals first
    | (exfalso; have h1 : f = 6 := eq_of_beq (by assumption); have h2 : f = 22 := eq_of_beq (by assumption); omega)
    | exact RawK.req rfl (by first | rfl | (simp [row15, rowR, pre3, packN_length, coilN, two8]; done)) (by first | rfl | (simp [twos_length, packN_length, two8]; done) | (simp [twos_length, packN_length, two8]; omega)) rfl rfl (by first | exact Le.refl _ | exact Le.nilB) (by first | exact Le.refl _ | exact Le.nilI _) (by first | rfl | (simp [*]; done))
    | exact RawK.req0 rfl rfl rfl (by first | exact Le.refl _ | exact Le.nilB) (by first | exact Le.refl _ | exact Le.nilI _) rfl
theorem request_tr (f a n a2 : Int) (b : List Bool) (r : List Int) (hn0 : 0 ≤ n) (hn1 : n < 65536) (hb : b.length ≤ 2500) (hr : r.length ≤ 500) :
    Tr Try.prog 109 [reqA f a n a2 (.roB b) (.roI .u16 r)] ⟨0, []⟩ (Ret1 (reqS f a n a2 b r).row (reqR f a (reqS f a n a2 b r))) :=
  Ret1.of rfl ((request_raw f a n a2 b r hn0 hn1 hb hr).mono fun v s h => by unfold RawK at h; exact h)
end Go.Proofs.Ytomodeliimnddaa
