/- Contracts: pdu.request. Contracts: requests as bytes. Contracts: bytes read as requests: pdu. Contracts: bytes read as requests. Contracts: replies as bytes: pdu. Contracts: replies as bytes. Contracts: layer 3's examples. -/
import Derived.Test.YtomodeliimnddaaHEngD
set_option linter.unusedVariables false
set_option linter.unusedSimpArgs false
namespace Go.Proofs.Ytomodeliimnddaa
open Go.Ab
/- rung/pdu.request -/
def a109 : ACode := (.seq (.reg [⟨(some 1), .box (.t 0), none, false⟩, ⟨(some 2), .mov (.c .nils), none, false⟩, ⟨(some 3), .alloc [(1, (.int .u8 0)), (3, (.int .u16 0)), (2, .nils)], none, false⟩, ⟨(some 4), .mov (.c (.bool false)), none, false⟩])
 (.seq (.reg [⟨(some 9), .fld 0 1 false (.t 1), none, false⟩, ⟨(some 10), .load false 1 (.t 9), none, false⟩, ⟨(some 11), .fld 1 1 false (.t 1), none, false⟩, ⟨(some 12), .load false 1 (.t 11), none, false⟩, ⟨(some 13), .build [(.int .u8 0), (.int .u16 0), (.int .u16 0), (.int .u16 0), .nils, .nils] [(0, 1, (.t 10)), (1, 1, (.t 12))], none, false⟩, ⟨(some 5), .alloc [(1, (.int .u8 0)), (3, (.int .u16 0)), (2, .nils)], none, false⟩, ⟨none, .store 6 (.t 5) (.t 13), none, false⟩])
 (.seq (.reg [⟨(some 14), .fld 0 1 false (.t 1), none, false⟩, ⟨(some 15), .load false 1 (.t 14), none, false⟩, ⟨(some 16), .bslice 1 (.int .u8) [(.int .u8 0)] [(0, 1, (.t 15))] 1, none, false⟩, ⟨(some 17), .fld 1 1 false (.t 1), none, false⟩, ⟨(some 18), .load false 1 (.t 17), none, false⟩, ⟨(some 19), .call 146 [(.t 16), (.t 18)], none, false⟩, ⟨(some 6), .mov (.t 19), none, false⟩])
 (.seq (.seq (.reg [⟨(some 20), .fld 0 1 false (.t 1), none, false⟩, ⟨(some 21), .load false 1 (.t 20), none, false⟩])
 (.block 0 (.seq (.seq (.reg [⟨(some 23), .bin .eql .other (.t 21) (.c (.int .u8 1)), none, false⟩, ⟨(some 22), .mov (.t 23), none, false⟩])
 (.cond (.t 22) .skip
 (.reg [⟨(some 24), .bin .eql .other (.t 21) (.c (.int .u8 2)), none, false⟩, ⟨(some 22), .mov (.t 24), none, false⟩])))
 (.cond (.t 22) (.seq (.reg [⟨(some 25), .fld 2 1 false (.t 1), none, false⟩, ⟨(some 26), .load false 1 (.t 25), none, false⟩, ⟨(some 27), .fld 2 1 false (.t 5), none, false⟩, ⟨none, .store 1 (.t 27) (.t 26), none, false⟩])
 (.seq (.draw [⟨0, ⟨(some 28), .mov (.t 6), none, false⟩, false, [], []⟩, ⟨1, ⟨(some 29), .fld 2 1 false (.t 1), none, false⟩, false, [], []⟩, ⟨2, ⟨(some 30), .load false 1 (.t 29), none, false⟩, false, [], []⟩, ⟨4, ⟨(some 32), .load true 6 (.t 5), none, false⟩, false, [], []⟩, ⟨5, ⟨(some 33), .fld 2 1 false (.t 1), none, false⟩, false, [], []⟩, ⟨6, ⟨(some 34), .load false 1 (.t 33), none, false⟩, false, [], []⟩, ⟨3, ⟨(some 31), .call 146 [(.t 28), (.t 30)], none, false⟩, true, [], [(.t 5), (.t 33)]⟩, ⟨7, ⟨(some 35), .call 147 [(.t 34), (.c (.int .u16 2000))], none, false⟩, true, [], [(.t 5)]⟩, ⟨8, ⟨(some 2), .mov (.t 31), none, false⟩, false, [], []⟩, ⟨9, ⟨none, .store 6 (.t 3) (.t 32), none, false⟩, true, [], []⟩, ⟨10, ⟨(some 4), .mov (.t 35), none, false⟩, false, [], []⟩])
 .ret))
 (.seq (.seq (.reg [⟨(some 37), .bin .eql .other (.t 21) (.c (.int .u8 3)), none, false⟩, ⟨(some 36), .mov (.t 37), none, false⟩])
 (.cond (.t 36) .skip
 (.reg [⟨(some 38), .bin .eql .other (.t 21) (.c (.int .u8 4)), none, false⟩, ⟨(some 36), .mov (.t 38), none, false⟩])))
 (.cond (.t 36) (.seq (.reg [⟨(some 39), .fld 2 1 false (.t 1), none, false⟩, ⟨(some 40), .load false 1 (.t 39), none, false⟩, ⟨(some 41), .fld 2 1 false (.t 5), none, false⟩, ⟨none, .store 1 (.t 41) (.t 40), none, false⟩])
 (.seq (.draw [⟨0, ⟨(some 42), .mov (.t 6), none, false⟩, false, [], []⟩, ⟨1, ⟨(some 43), .fld 2 1 false (.t 1), none, false⟩, false, [], []⟩, ⟨2, ⟨(some 44), .load false 1 (.t 43), none, false⟩, false, [], []⟩, ⟨4, ⟨(some 46), .load true 6 (.t 5), none, false⟩, false, [], []⟩, ⟨5, ⟨(some 47), .fld 2 1 false (.t 1), none, false⟩, false, [], []⟩, ⟨6, ⟨(some 48), .load false 1 (.t 47), none, false⟩, false, [], []⟩, ⟨3, ⟨(some 45), .call 146 [(.t 42), (.t 44)], none, false⟩, true, [], [(.t 5), (.t 47)]⟩, ⟨7, ⟨(some 49), .call 147 [(.t 48), (.c (.int .u16 125))], none, false⟩, true, [], [(.t 5)]⟩, ⟨8, ⟨(some 2), .mov (.t 45), none, false⟩, false, [], []⟩, ⟨9, ⟨none, .store 6 (.t 3) (.t 46), none, false⟩, true, [], []⟩, ⟨10, ⟨(some 4), .mov (.t 49), none, false⟩, false, [], []⟩])
 .ret))
 (.seq (.reg [⟨(some 51), .bin .eql .other (.t 21) (.c (.int .u8 5)), none, false⟩, ⟨(some 50), .mov (.t 51), none, false⟩])
 (.cond (.t 50) (.seq (.reg [⟨(some 52), .fld 4 1 false (.t 1), none, false⟩, ⟨(some 53), .load false 1 (.t 52), none, false⟩, ⟨(some 54), .fld 4 1 false (.t 5), none, false⟩, ⟨none, .store 1 (.t 54) (.t 53), none, false⟩])
 (.seq (.draw [⟨0, ⟨(some 55), .mov (.t 6), none, false⟩, false, [], []⟩, ⟨1, ⟨(some 56), .fld 4 1 false (.t 1), none, false⟩, false, [], []⟩, ⟨2, ⟨(some 57), .load false 1 (.t 56), none, false⟩, false, [], []⟩, ⟨3, ⟨(some 58), .len false (.t 57), none, false⟩, false, [], []⟩, ⟨4, ⟨(some 59), .bin .eql .other (.t 58) (.c (.int .i64 1)), none, false⟩, false, [], []⟩, ⟨5, ⟨(some 60), .mov (.t 59), none, true⟩, false, [], []⟩, ⟨6, ⟨(some 61), .fld 4 1 false (.t 1), (some (60, true)), false⟩, false, [], []⟩, ⟨7, ⟨(some 62), .load false 1 (.t 61), (some (60, true)), false⟩, false, [], []⟩, ⟨8, ⟨(some 63), .idx 1 none false (.t 62) (.c (.int .i64 0)), (some (60, true)), false⟩, false, [], []⟩, ⟨9, ⟨(some 64), .load false 1 (.t 63), (some (60, true)), false⟩, false, [], []⟩, ⟨10, ⟨(some 65), .pick (.t 60) (.t 64) (.c (.bool false)), none, false⟩, false, [], []⟩, ⟨12, ⟨(some 67), .load true 6 (.t 5), none, false⟩, false, [], []⟩, ⟨13, ⟨(some 68), .fld 4 1 false (.t 1), none, false⟩, false, [], []⟩, ⟨14, ⟨(some 69), .load false 1 (.t 68), none, false⟩, false, [], []⟩, ⟨15, ⟨(some 70), .len false (.t 69), none, false⟩, false, [], []⟩, ⟨16, ⟨(some 71), .bin .eql .other (.t 70) (.c (.int .i64 1)), none, false⟩, false, [], []⟩, ⟨11, ⟨(some 66), .call 148 [(.t 55), (.t 65)], none, false⟩, true, [], [(.t 5), (.t 68)]⟩, ⟨17, ⟨(some 2), .mov (.t 66), none, false⟩, false, [], []⟩, ⟨18, ⟨none, .store 6 (.t 3) (.t 67), none, false⟩, true, [], [(.t 68)]⟩, ⟨19, ⟨(some 4), .mov (.t 71), none, false⟩, false, [], []⟩])
 .ret))
 (.seq (.seq (.reg [⟨(some 73), .bin .eql .other (.t 21) (.c (.int .u8 6)), none, false⟩, ⟨(some 72), .mov (.t 73), none, false⟩])
 (.cond (.t 72) .skip
 (.reg [⟨(some 74), .bin .eql .other (.t 21) (.c (.int .u8 22)), none, false⟩, ⟨(some 72), .mov (.t 74), none, false⟩])))
 (.cond (.t 72) (.seq (.reg [⟨(some 75), .fld 5 1 false (.t 1), none, false⟩, ⟨(some 76), .load false 1 (.t 75), none, false⟩, ⟨(some 77), .fld 5 1 false (.t 5), none, false⟩, ⟨none, .store 1 (.t 77) (.t 76), none, false⟩])
 (.seq (.reg [⟨(some 7), .mov (.c (.int .i64 1)), none, false⟩])
 (.seq (.seq (.reg [⟨(some 78), .fld 0 1 false (.t 1), none, false⟩, ⟨(some 79), .load false 1 (.t 78), none, false⟩, ⟨(some 80), .bin .eql .other (.t 79) (.c (.int .u8 22)), none, false⟩])
 (.cond (.t 80) (.reg [⟨(some 7), .mov (.c (.int .i64 2)), none, false⟩])
 .skip))
 (.seq (.draw [⟨0, ⟨(some 81), .mov (.t 6), none, false⟩, false, [], []⟩, ⟨1, ⟨(some 82), .fld 5 1 false (.t 1), none, false⟩, false, [], []⟩, ⟨2, ⟨(some 83), .load false 1 (.t 82), none, false⟩, false, [], []⟩, ⟨4, ⟨(some 85), .load true 6 (.t 5), none, false⟩, false, [], []⟩, ⟨5, ⟨(some 86), .fld 5 1 false (.t 1), none, false⟩, false, [], []⟩, ⟨6, ⟨(some 87), .load false 1 (.t 86), none, false⟩, false, [], []⟩, ⟨7, ⟨(some 88), .len false (.t 87), none, false⟩, false, [], []⟩, ⟨8, ⟨(some 89), .mov (.t 7), none, false⟩, false, [], []⟩, ⟨9, ⟨(some 90), .bin .eql .other (.t 88) (.t 89), none, false⟩, false, [], []⟩, ⟨3, ⟨(some 84), .call 149 [(.t 81), (.t 83)], none, false⟩, true, [], [(.t 5), (.t 86)]⟩, ⟨10, ⟨(some 2), .mov (.t 84), none, false⟩, false, [], []⟩, ⟨11, ⟨none, .store 6 (.t 3) (.t 85), none, false⟩, true, [], [(.t 86)]⟩, ⟨12, ⟨(some 4), .mov (.t 90), none, false⟩, false, [], []⟩])
 .ret))))
 (.seq (.reg [⟨(some 92), .bin .eql .other (.t 21) (.c (.int .u8 15)), none, false⟩, ⟨(some 91), .mov (.t 92), none, false⟩])
 (.cond (.t 91) (.seq (.reg [⟨(some 93), .fld 4 1 false (.t 1), none, false⟩, ⟨(some 94), .load false 1 (.t 93), none, false⟩, ⟨(some 95), .fld 4 1 false (.t 5), none, false⟩, ⟨none, .store 1 (.t 95) (.t 94), none, false⟩])
 (.seq (.reg [⟨(some 96), .fld 4 1 false (.t 1), none, false⟩, ⟨(some 97), .load false 1 (.t 96), none, false⟩, ⟨(some 98), .call 61 [(.t 97)], none, false⟩, ⟨(some 8), .mov (.t 98), none, false⟩])
 (.seq (.reg [⟨(some 99), .mov (.t 6), none, false⟩, ⟨(some 100), .fld 4 1 false (.t 1), none, false⟩, ⟨(some 101), .load false 1 (.t 100), none, false⟩, ⟨(some 102), .len false (.t 101), none, false⟩, ⟨(some 103), .conv (.int .u16) (.t 102), none, false⟩, ⟨(some 104), .call 146 [(.t 99), (.t 103)], none, false⟩, ⟨(some 105), .mov (.t 8), none, false⟩, ⟨(some 106), .len false (.t 105), none, false⟩, ⟨(some 107), .conv (.int .u8) (.t 106), none, false⟩, ⟨(some 108), .bslice 1 (.int .u8) [(.int .u8 0)] [(0, 1, (.t 107))] 1, none, false⟩, ⟨(some 109), .app 1 1 (.t 104) (.t 108), none, false⟩, ⟨(some 6), .mov (.t 109), none, false⟩])
 (.seq (.draw [⟨0, ⟨(some 110), .mov (.t 6), none, false⟩, false, [], []⟩, ⟨1, ⟨(some 111), .mov (.t 8), none, false⟩, false, [], []⟩, ⟨3, ⟨(some 113), .load true 6 (.t 5), none, false⟩, false, [], []⟩, ⟨4, ⟨(some 114), .fld 4 1 false (.t 1), none, false⟩, false, [], []⟩, ⟨5, ⟨(some 115), .load false 1 (.t 114), none, false⟩, false, [], []⟩, ⟨6, ⟨(some 116), .len false (.t 115), none, false⟩, false, [], []⟩, ⟨2, ⟨(some 112), .app 1 1 (.t 110) (.t 111), none, false⟩, true, [], [(.t 5), (.t 114)]⟩, ⟨7, ⟨(some 117), .call 150 [(.t 116), (.c (.int .i64 1968))], none, false⟩, true, [], [(.t 5)]⟩, ⟨8, ⟨(some 2), .mov (.t 112), none, false⟩, false, [], []⟩, ⟨9, ⟨none, .store 6 (.t 3) (.t 113), none, false⟩, true, [], []⟩, ⟨10, ⟨(some 4), .mov (.t 117), none, false⟩, false, [], []⟩])
 .ret))))
 (.seq (.reg [⟨(some 119), .bin .eql .other (.t 21) (.c (.int .u8 16)), none, false⟩, ⟨(some 118), .mov (.t 119), none, false⟩])
 (.cond (.t 118) (.seq (.reg [⟨(some 120), .fld 5 1 false (.t 1), none, false⟩, ⟨(some 121), .load false 1 (.t 120), none, false⟩, ⟨(some 122), .fld 5 1 false (.t 5), none, false⟩, ⟨none, .store 1 (.t 122) (.t 121), none, false⟩])
 (.seq (.draw [⟨0, ⟨(some 123), .mov (.t 6), none, false⟩, false, [], []⟩, ⟨1, ⟨(some 124), .fld 5 1 false (.t 1), none, false⟩, false, [], []⟩, ⟨2, ⟨(some 125), .load false 1 (.t 124), none, false⟩, false, [], []⟩, ⟨3, ⟨(some 126), .len false (.t 125), none, false⟩, false, [], []⟩, ⟨4, ⟨(some 127), .conv (.int .u16) (.t 126), none, false⟩, false, [], []⟩, ⟨6, ⟨(some 129), .fld 5 1 false (.t 1), none, false⟩, false, [], []⟩, ⟨7, ⟨(some 130), .load false 1 (.t 129), none, false⟩, false, [], []⟩, ⟨8, ⟨(some 131), .len false (.t 130), none, false⟩, false, [], []⟩, ⟨9, ⟨(some 132), .bin .mul .other (.c (.int .i64 2)) (.t 131), none, false⟩, false, [], []⟩, ⟨10, ⟨(some 133), .conv (.int .u8) (.t 132), none, false⟩, false, [], []⟩, ⟨11, ⟨(some 134), .bslice 1 (.int .u8) [(.int .u8 0)] [(0, 1, (.t 133))] 1, none, false⟩, false, [], []⟩, ⟨5, ⟨(some 128), .call 146 [(.t 123), (.t 127)], none, false⟩, true, [], [(.t 129)]⟩, ⟨12, ⟨(some 135), .app 1 1 (.t 128) (.t 134), none, false⟩, true, [11], []⟩, ⟨13, ⟨(some 6), .mov (.t 135), none, false⟩, false, [], []⟩])
 (.seq (.draw [⟨0, ⟨(some 136), .mov (.t 6), none, false⟩, false, [], []⟩, ⟨1, ⟨(some 137), .fld 5 1 false (.t 1), none, false⟩, false, [], []⟩, ⟨2, ⟨(some 138), .load false 1 (.t 137), none, false⟩, false, [], []⟩, ⟨4, ⟨(some 140), .load true 6 (.t 5), none, false⟩, false, [], []⟩, ⟨5, ⟨(some 141), .fld 5 1 false (.t 1), none, false⟩, false, [], []⟩, ⟨6, ⟨(some 142), .load false 1 (.t 141), none, false⟩, false, [], []⟩, ⟨7, ⟨(some 143), .len false (.t 142), none, false⟩, false, [], []⟩, ⟨3, ⟨(some 139), .call 149 [(.t 136), (.t 138)], none, false⟩, true, [], [(.t 5), (.t 141)]⟩, ⟨8, ⟨(some 144), .call 150 [(.t 143), (.c (.int .i64 123))], none, false⟩, true, [], [(.t 5)]⟩, ⟨9, ⟨(some 2), .mov (.t 139), none, false⟩, false, [], []⟩, ⟨10, ⟨none, .store 6 (.t 3) (.t 140), none, false⟩, true, [], []⟩, ⟨11, ⟨(some 4), .mov (.t 144), none, false⟩, false, [], []⟩])
 .ret)))
 (.seq (.reg [⟨(some 146), .bin .eql .other (.t 21) (.c (.int .u8 23)), none, false⟩, ⟨(some 145), .mov (.t 146), none, false⟩])
 (.cond (.t 145) (.seq (.draw [⟨0, ⟨(some 147), .fld 2 1 false (.t 1), none, false⟩, false, [], []⟩, ⟨1, ⟨(some 148), .load false 1 (.t 147), none, false⟩, false, [], []⟩, ⟨2, ⟨(some 149), .fld 3 1 false (.t 1), none, false⟩, false, [], []⟩, ⟨3, ⟨(some 150), .load false 1 (.t 149), none, false⟩, false, [], []⟩, ⟨4, ⟨(some 151), .fld 5 1 false (.t 1), none, false⟩, false, [], []⟩, ⟨5, ⟨(some 152), .load false 1 (.t 151), none, false⟩, false, [], []⟩, ⟨6, ⟨(some 153), .fld 2 1 false (.t 5), none, false⟩, false, [], []⟩, ⟨7, ⟨none, .store 1 (.t 153) (.t 148), none, false⟩, true, [], [(.t 149), (.t 151)]⟩, ⟨8, ⟨(some 154), .fld 3 1 false (.t 5), none, false⟩, false, [], []⟩, ⟨9, ⟨none, .store 1 (.t 154) (.t 150), none, false⟩, true, [], [(.t 151)]⟩, ⟨10, ⟨(some 155), .fld 5 1 false (.t 5), none, false⟩, false, [], []⟩, ⟨11, ⟨none, .store 1 (.t 155) (.t 152), none, false⟩, true, [], []⟩])
 (.seq (.draw [⟨0, ⟨(some 156), .mov (.t 6), none, false⟩, false, [], []⟩, ⟨1, ⟨(some 157), .fld 2 1 false (.t 1), none, false⟩, false, [], []⟩, ⟨2, ⟨(some 158), .load false 1 (.t 157), none, false⟩, false, [], []⟩, ⟨4, ⟨(some 160), .fld 3 1 false (.t 1), none, false⟩, false, [], []⟩, ⟨5, ⟨(some 161), .load false 1 (.t 160), none, false⟩, false, [], []⟩, ⟨3, ⟨(some 159), .call 146 [(.t 156), (.t 158)], none, false⟩, true, [], [(.t 160)]⟩, ⟨6, ⟨(some 162), .call 146 [(.t 159), (.t 161)], none, false⟩, true, [], []⟩, ⟨7, ⟨(some 6), .mov (.t 162), none, false⟩, false, [], []⟩])
 (.seq (.draw [⟨0, ⟨(some 163), .mov (.t 6), none, false⟩, false, [], []⟩, ⟨1, ⟨(some 164), .fld 5 1 false (.t 1), none, false⟩, false, [], []⟩, ⟨2, ⟨(some 165), .load false 1 (.t 164), none, false⟩, false, [], []⟩, ⟨3, ⟨(some 166), .len false (.t 165), none, false⟩, false, [], []⟩, ⟨4, ⟨(some 167), .conv (.int .u16) (.t 166), none, false⟩, false, [], []⟩, ⟨6, ⟨(some 169), .fld 5 1 false (.t 1), none, false⟩, false, [], []⟩, ⟨7, ⟨(some 170), .load false 1 (.t 169), none, false⟩, false, [], []⟩, ⟨8, ⟨(some 171), .len false (.t 170), none, false⟩, false, [], []⟩, ⟨9, ⟨(some 172), .bin .mul .other (.c (.int .i64 2)) (.t 171), none, false⟩, false, [], []⟩, ⟨10, ⟨(some 173), .conv (.int .u8) (.t 172), none, false⟩, false, [], []⟩, ⟨11, ⟨(some 174), .bslice 1 (.int .u8) [(.int .u8 0)] [(0, 1, (.t 173))] 1, none, false⟩, false, [], []⟩, ⟨5, ⟨(some 168), .call 146 [(.t 163), (.t 167)], none, false⟩, true, [], [(.t 169)]⟩, ⟨12, ⟨(some 175), .app 1 1 (.t 168) (.t 174), none, false⟩, true, [11], []⟩, ⟨13, ⟨(some 6), .mov (.t 175), none, false⟩, false, [], []⟩])
 (.seq (.draw [⟨0, ⟨(some 176), .mov (.t 6), none, false⟩, false, [], []⟩, ⟨1, ⟨(some 177), .fld 5 1 false (.t 1), none, false⟩, false, [], []⟩, ⟨2, ⟨(some 178), .load false 1 (.t 177), none, false⟩, false, [], []⟩, ⟨4, ⟨(some 180), .load true 6 (.t 5), none, false⟩, false, [], []⟩, ⟨5, ⟨(some 181), .fld 2 1 false (.t 1), none, false⟩, false, [], []⟩, ⟨6, ⟨(some 182), .load false 1 (.t 181), none, false⟩, false, [], []⟩, ⟨7, ⟨(some 183), .conv (.int .i64) (.t 182), none, false⟩, false, [], []⟩, ⟨3, ⟨(some 179), .call 149 [(.t 176), (.t 178)], none, false⟩, true, [], [(.t 5), (.t 181)]⟩, ⟨8, ⟨(some 184), .call 150 [(.t 183), (.c (.int .i64 125))], none, false⟩, true, [], [(.t 5)]⟩, ⟨9, ⟨(some 185), .mov (.t 184), none, true⟩, false, [], []⟩, ⟨10, ⟨(some 186), .fld 5 1 false (.t 1), (some (185, true)), false⟩, false, [], []⟩, ⟨11, ⟨(some 187), .load false 1 (.t 186), (some (185, true)), false⟩, false, [], []⟩, ⟨12, ⟨(some 188), .len false (.t 187), (some (185, true)), false⟩, false, [], []⟩, ⟨13, ⟨(some 189), .call 150 [(.t 188), (.c (.int .i64 121))], (some (185, true)), false⟩, true, [], [(.t 5)]⟩, ⟨14, ⟨(some 190), .pick (.t 185) (.t 189) (.c (.bool false)), none, false⟩, false, [], []⟩, ⟨15, ⟨(some 2), .mov (.t 179), none, false⟩, false, [], []⟩, ⟨16, ⟨none, .store 6 (.t 3) (.t 180), none, false⟩, true, [], []⟩, ⟨17, ⟨(some 4), .mov (.t 190), none, false⟩, false, [], []⟩])
 .ret))))
 .skip))))))))))))))))
 (.seq (.draw [⟨0, ⟨(some 191), .load true 6 (.t 5), none, false⟩, false, [], []⟩, ⟨1, ⟨(some 2), .mov (.c .nils), none, false⟩, false, [], []⟩, ⟨2, ⟨none, .store 6 (.t 3) (.t 191), none, false⟩, true, [], []⟩, ⟨3, ⟨(some 4), .mov (.c (.bool false)), none, false⟩, false, [], []⟩])
 .ret)))))
def r109 : List ARes := [.t 2, .cell 3 true 6, .t 4]
theorem c109 : compF Try.prog Try.f109 = some (a109, r109) := by kernel_rfl

theorem b109 : hasBody Try.prog 109 = true := by kernel_rfl
theorem g109 : Try.prog.funcs[109]? = some Try.f109 := by kernel_rfl

def pre3 (f a : Int) : List Int := [f] ++ two8 a
structure ReqS where
  row : List Int
  n : Int
  a2 : Int
  b : List Bool
  r : List Int
  ok : Bool
def row15 (f a : Int) (b : List Bool) : List Int := pre3 f a ++ two8 (IntKind.u16.wrap b.length) ++ [IntKind.u8.wrap ((b.length + 7) / 8 : Nat)] ++ packN b b.length
def rowR (p : List Int) (r : List Int) : List Int := p ++ two8 (IntKind.u16.wrap r.length) ++ [IntKind.u8.wrap (IntKind.i64.wrap (2 * r.length))] ++ twos r
def reqS (f a n a2 : Int) (b : List Bool) (r : List Int) : ReqS :=
  if f == 1 then ⟨pre3 f a ++ two8 n, n, 0, [], [], withinB n 2000⟩
  else if f == 2 then ⟨pre3 f a ++ two8 n, n, 0, [], [], withinB n 2000⟩
  else if f == 3 then ⟨pre3 f a ++ two8 n, n, 0, [], [], withinB n 125⟩
  else if f == 4 then ⟨pre3 f a ++ two8 n, n, 0, [], [], withinB n 125⟩
  else if f == 5 then ⟨pre3 f a ++ two8 (coilN ((b.length : Int) == 1 && b.getD 0 false)), 0, 0, b, [], (b.length : Int) == 1⟩
  else if f == 6 then ⟨pre3 f a ++ twos r, 0, 0, [], r, (r.length : Int) == 1⟩
  else if f == 22 then ⟨pre3 f a ++ twos r, 0, 0, [], r, (r.length : Int) == 2⟩
  else if f == 15 then ⟨row15 f a b, 0, 0, b, [], withinB b.length 1968⟩
  else if f == 16 then ⟨rowR (pre3 f a) r, 0, 0, [], r, withinB r.length 123⟩
  else if f == 23 then ⟨rowR (pre3 f a ++ two8 n ++ two8 a2) r, n, a2, [], r, withinB n 125 && withinB r.length 121⟩
  else ⟨[], 0, 0, [], [], false⟩
theorem two_len (l : List Int) (x : Int) : (l ++ two8 x).length = l.length + 2 := by simp [two8]
theorem two_call {h len : Nat} {l : List Int} {x : Int} {s : St} {K : AV → St → Prop} (hg : s.get h = some (.rowI .u8 l)) (hl : len = l.length) (hb : l.length ≤ 100000)
    (k : openS s fun n m => K (.sl 1 n 0 (l ++ two8 x).length) ⟨n + 1, (n, some (.rowI .u8 (l ++ two8 x))) :: (h, none) :: m⟩) : Tr Try.prog 146 [.sl 1 h 0 len, .int .u16 x] s K :=
  rowCall (by rw [two_len]; exact two_tr l x hb) rfl hg hl k
theorem regs_len (l m : List Int) : (l ++ twos m).length = l.length + 2 * m.length := by simp [twos_length]
theorem regs_call {h len : Nat} {l m : List Int} {s : St} {K : AV → St → Prop} (hg : s.get h = some (.rowI .u8 l)) (hl : len = l.length) (hb : l.length ≤ 1000) (hm : m.length ≤ 1000)
    (k : openS s fun n t => K (.sl 1 n 0 (l ++ twos m).length) ⟨n + 1, (n, some (.rowI .u8 (l ++ twos m))) :: (h, none) :: t⟩) : Tr Try.prog 149 [.sl 1 h 0 len, .roI .u16 m] s K :=
  rowCall (by rw [regs_len]; exact regs_tr l m hb hm) rfl hg hl k
theorem coil_ev (l : List Int) (b : Bool) (hl : l.length ≤ 100000) : Tr Try.prog 148 [.sl 1 0 0 l.length, .bool b] ⟨1, [(0, some (.rowI .u8 l))]⟩ fun v s => v = .sl 1 1 0 (l ++ two8 (coilN b)).length ∧ s = ⟨2, [(1, some (.rowI .u8 (l ++ two8 (coilN b))))]⟩ := by
  refine Tr.norm (coil_tr l b hl) fun v s ⟨hv, hs⟩ => ?_
  subst hv; subst hs
  rw [two_len]
  refine ⟨_, _, ?_, rfl, rfl⟩
  exact ⟨[], rfl, rfl, rfl, ⟨⟨rfl, rfl⟩, trivial⟩, ⟨⟨trivial, rfl, rfl⟩, trivial⟩⟩
theorem coil_call {h len : Nat} {l : List Int} {b : Bool} {s : St} {K : AV → St → Prop} (hg : s.get h = some (.rowI .u8 l)) (hl : len = l.length) (hb : l.length ≤ 100000)
    (k : openS s fun n m => K (.sl 1 n 0 (l ++ two8 (coilN b)).length) ⟨n + 1, (n, some (.rowI .u8 (l ++ two8 (coilN b)))) :: (h, none) :: m⟩) : Tr Try.prog 148 [.sl 1 h 0 len, .bool b] s K :=
  rowCall (coil_ev l b hb) rfl hg hl k
theorem pack_ev (l : List Bool) (hl : l.length ≤ 100000) : Ev Try.prog 61 [.roB l] (.roI .u8 (packN l l.length)) := Ev.row rfl (by rw [packN_length]; exact pack_tr l hl)
theorem within_ev (n m : Int) : Ev Try.prog 150 [.int .i64 n, .int .i64 m] (.bool (withinB n m)) := ⟨rfl, within_tr n m⟩
theorem within16_ev (n m : Int) : Ev Try.prog 147 [.int .u16 n, .int .u16 m] (.bool (withinB n m)) := ⟨rfl, within16_tr n m⟩
/-- what request hands back, as it comes -/
def RawK (row : List Int) (rest : List AV) (v : AV) (s : St) : Prop := ∃ v', Le v v' ∧ ((∃ h, v' = .tup (.sl 1 h 0 row.length :: rest) ∧ s.get h = some (.rowI .u8 row)) ∨ (row = [] ∧ v' = .tup (.nils :: rest)))
attribute [irreducible] RawK
def reqR (f a : Int) (q : ReqS) : List AV := [reqA f a q.n q.a2 (.roB q.b) (.roI .u16 q.r), .bool q.ok]
theorem RawK.req {f a n a2 : Int} {q : ReqS} {B R : AV} {s : St} {h len : Nat} {ok : Bool} {l : List Int} (hg : s.get h = some (.rowI .u8 l)) (he : l = q.row) (hl : len = l.length) (hn : n = q.n) (ha : a2 = q.a2) (hb : Le B (.roB q.b)) (hr : Le R (.roI .u16 q.r)) (hok : ok = q.ok) :
    RawK q.row (reqR f a q) (.tup [.sl 1 h 0 len, reqA f a n a2 B R, .bool ok]) s := by
  subst hl; subst he; subst hn; subst ha; subst hok
  unfold RawK
  refine ⟨_, ?_, .inl ⟨h, rfl, hg⟩⟩
  exact Le.tup ⟨Le.refl _, Le.agg ⟨Le.refl _, Le.refl _, Le.refl _, Le.refl _, hb, hr, trivial⟩, Le.refl _, trivial⟩
theorem RawK.req0 {f a n a2 : Int} {q : ReqS} {B R : AV} {s : St} {ok : Bool} (hg : q.row = []) (hn : n = q.n) (ha : a2 = q.a2) (hb : Le B (.roB q.b)) (hr : Le R (.roI .u16 q.r)) (hok : ok = q.ok) :
    RawK q.row (reqR f a q) (.tup [.nils, reqA f a n a2 B R, .bool ok]) s := by
  subst hn; subst ha; subst hok
  unfold RawK
  refine ⟨_, ?_, .inr ⟨hg, rfl⟩⟩
  exact Le.tup ⟨Le.refl _, Le.agg ⟨Le.refl _, Le.refl _, Le.refl _, Le.refl _, hb, hr, trivial⟩, Le.refl _, trivial⟩
theorem request_raw (f a n a2 : Int) (b : List Bool) (r : List Int) (hn0 : 0 ≤ n) (hn1 : n < 65536) (hb : b.length ≤ 2500) (hr : r.length ≤ 500) : Tr Try.prog 109 [reqA f a n a2 (.roB b) (.roI .u16 r)] ⟨0, []⟩ (RawK (reqS f a n a2 b r).row (reqR f a (reqS f a n a2 b r))) := by
  have hw : IntKind.i64.wrap n = n := IntWalk.i64_in _ (by omega)
  refine trF g109 b109 c109 ?_
  conv => whnf
  repeat' (first
    | (refine condY (by assumption) ?_; conv => whnf)
    | (refine condN (by assumption) ?_; conv => whnf)
    | (refine condT (by first | assumption | (simp [twos_length, packN_length, two8]; done) | (simp [twos_length, packN_length, two8]; omega) | (simp_all; done) | (simp_all; omega)) ?_; conv => whnf)
    | (refine condF (fun h => ?_) (fun h => ?_) <;> conv => whnf)
    | (refine ⟨rfl, ?_⟩; conv => whnf)
    | (refine two_call rfl (by first | (simp [twos_length, packN_length, two8]; done) | (simp [twos_length, packN_length, two8]; omega) | omega) (by first | (simp [twos_length, packN_length, two8]; done) | (simp [twos_length, packN_length, two8]; omega) | omega) ?_; conv => whnf)
    | (refine coil_call rfl (by first | (simp [twos_length, packN_length, two8]; done) | (simp [twos_length, packN_length, two8]; omega) | omega) (by first | (simp [twos_length, packN_length, two8]; done) | (simp [twos_length, packN_length, two8]; omega) | omega) ?_; conv => whnf)
    | (refine regs_call rfl (by first | (simp [twos_length, packN_length, two8]; done) | (simp [twos_length, packN_length, two8]; omega) | omega) (by first | (simp [twos_length, packN_length, two8]; done) | (simp [twos_length, packN_length, two8]; omega) | omega) (by omega) ?_; conv => whnf)
    | (refine Ev.call (within16_ev _ _) ?_; conv => whnf)
    | (refine Ev.call (within_ev _ _) ?_; conv => whnf)
    | (refine Ev.call (pack_ev _ (by omega)) ?_; conv => whnf)
    )
  all_goals (generalize hq : reqS f a n a2 b r = q; simp only [reqS, *, if_true, if_false, Bool.false_eq_true, Bool.true_and, Bool.false_and] at hq; subst hq)
  all_goals try (rw [hw] at *)
  all_goals first
    | (exfalso; have h1 : f = 6 := eq_of_beq (by assumption); have h2 : f = 22 := eq_of_beq (by assumption); omega)
    | exact RawK.req rfl (by first | rfl | (simp [row15, rowR, pre3, packN_length, coilN, two8]; done)) (by first | rfl | (simp [twos_length, packN_length, two8]; done) | (simp [twos_length, packN_length, two8]; omega)) rfl rfl (by first | exact Le.refl _ | exact Le.nilB) (by first | exact Le.refl _ | exact Le.nilI _) (by first | rfl | (simp [*]; done))
    | exact RawK.req0 rfl rfl rfl (by first | exact Le.refl _ | exact Le.nilB) (by first | exact Le.refl _ | exact Le.nilI _) rfl
theorem request_tr (f a n a2 : Int) (b : List Bool) (r : List Int) (hn0 : 0 ≤ n) (hn1 : n < 65536) (hb : b.length ≤ 2500) (hr : r.length ≤ 500) :
    Tr Try.prog 109 [reqA f a n a2 (.roB b) (.roI .u16 r)] ⟨0, []⟩ (Ret1 (reqS f a n a2 b r).row (reqR f a (reqS f a n a2 b r))) :=
  Ret1.of rfl ((request_raw f a n a2 b r hn0 hn1 hb hr).mono fun v s h => by unfold RawK at h; exact h)
end Go.Proofs.Ytomodeliimnddaa
set_option linter.unusedVariables false
set_option linter.unusedSimpArgs false
namespace Go.Proofs.Ytomodeliimnddaa
open Go.Ab
/- rung/rungref3.two -/
def a111 : ACode := (.seq (.reg [⟨(some 4), .mov (.c .nils), none, false⟩])
 (.seq (.seq (.reg [⟨(some 5), .mov (.c (.int .i64 0)), none, false⟩])
 (.block 0 (.loop (.seq (.seq (.reg [⟨(some 6), .mov (.t 5), none, false⟩, ⟨(some 7), .mov (.t 1), none, false⟩, ⟨(some 8), .len false (.t 7), none, false⟩, ⟨(some 9), .bin .lss .other (.t 6) (.t 8), none, false⟩])
 (.cond (.t 9) .skip
 (.exit 0)))
 (.seq (.block 1 (.draw [⟨0, ⟨(some 12), .mov (.t 0), none, false⟩, false, [], []⟩, ⟨1, ⟨(some 13), .mov (.t 1), none, false⟩, false, [], []⟩, ⟨2, ⟨(some 14), .mov (.t 5), none, false⟩, false, [], []⟩, ⟨3, ⟨(some 15), .idx 1 none false (.t 13) (.t 14), none, false⟩, false, [], []⟩, ⟨4, ⟨(some 16), .load false 1 (.t 15), none, false⟩, false, [], []⟩, ⟨5, ⟨(some 17), .bin .shr .other (.t 16) (.c (.int .u64 8)), none, false⟩, false, [], []⟩, ⟨6, ⟨(some 18), .conv (.int .u8) (.t 17), none, false⟩, false, [], []⟩, ⟨7, ⟨(some 19), .mov (.t 1), none, false⟩, false, [], []⟩, ⟨8, ⟨(some 20), .mov (.t 5), none, false⟩, false, [], []⟩, ⟨9, ⟨(some 21), .idx 1 none false (.t 19) (.t 20), none, false⟩, false, [], []⟩, ⟨10, ⟨(some 22), .load false 1 (.t 21), none, false⟩, false, [], []⟩, ⟨11, ⟨(some 23), .conv (.int .u8) (.t 22), none, false⟩, false, [], []⟩, ⟨12, ⟨(some 24), .bslice 1 (.int .u8) [(.int .u8 0), (.int .u8 0)] [(0, 1, (.t 18)), (1, 1, (.t 23))] 2, none, false⟩, false, [], []⟩, ⟨13, ⟨(some 25), .app 1 1 (.t 12) (.t 24), none, false⟩, true, [12], []⟩, ⟨14, ⟨(some 0), .mov (.t 25), none, false⟩, false, [], []⟩]))
 (.reg [⟨(some 10), .mov (.t 5), none, false⟩, ⟨(some 11), .bin .add .other (.t 10) (.c (.int .i64 1)), none, false⟩, ⟨(some 5), .mov (.t 11), none, false⟩]))))))
 (.seq (.reg [⟨(some 26), .mov (.t 0), none, false⟩, ⟨(some 4), .mov (.t 26), none, false⟩])
 .ret)))
def r111 : List ARes := [.t 4]
theorem c111 : compF Try.prog Try.f111 = some (a111, r111) := by kernel_rfl

theorem b111 : hasBody Try.prog 111 = true := by kernel_rfl
theorem g111 : Try.prog.funcs[111]? = some Try.f111 := by kernel_rfl
/- rung/rungref3.within -/
def a112 : ACode := (.seq (.reg [⟨(some 6), .mov (.c (.bool false)), none, false⟩])
 (.seq (.reg [⟨(some 7), .mov (.t 0), none, false⟩, ⟨(some 8), .mov (.t 1), none, false⟩, ⟨(some 9), .bin .geq .other (.t 7) (.t 8), none, false⟩, ⟨(some 10), .mov (.t 9), none, true⟩, ⟨(some 11), .mov (.t 0), (some (10, true)), false⟩, ⟨(some 12), .mov (.t 2), (some (10, true)), false⟩, ⟨(some 13), .bin .leq .other (.t 11) (.t 12), (some (10, true)), false⟩, ⟨(some 14), .pick (.t 10) (.t 13) (.c (.bool false)), none, false⟩, ⟨(some 6), .mov (.t 14), none, false⟩])
 .ret))
def r112 : List ARes := [.t 6]
theorem c112 : compF Try.prog Try.f112 = some (a112, r112) := by kernel_rfl

theorem b112 : hasBody Try.prog 112 = true := by kernel_rfl
theorem g112 : Try.prog.funcs[112]? = some Try.f112 := by kernel_rfl
/- rung/rungref3.one -/
def a113 : ACode := (.seq (.reg [⟨(some 2), .mov (.c (.int .u16 0)), none, false⟩])
 (.seq (.seq (.reg [⟨(some 3), .mov (.t 0), none, false⟩])
 (.cond (.t 3) (.seq (.reg [⟨(some 2), .mov (.c (.int .u16 65280)), none, false⟩])
 .ret)
 .skip))
 (.seq (.reg [⟨(some 2), .mov (.c (.int .u16 0)), none, false⟩])
 .ret)))
def r113 : List ARes := [.t 2]
theorem c113 : compF Try.prog Try.f113 = some (a113, r113) := by kernel_rfl

theorem b113 : hasBody Try.prog 113 = true := by kernel_rfl
theorem g113 : Try.prog.funcs[113]? = some Try.f113 := by kernel_rfl

theorem one_ev (b : Bool) : Ev Try.prog 113 [.bool b] (.int .u16 (coilN b)) := by
  refine ⟨rfl, trF g113 b113 c113 ?_⟩
  cases b <;> (conv => whnf) <;> exact ⟨rfl, rfl⟩
def within3 (n a b : Int) : Bool := decide (a ≤ n) && decide (n ≤ b)
theorem within3_ev (n a b : Int) : Ev Try.prog 112 [.int .i64 n, .int .i64 a, .int .i64 b] (.bool (within3 n a b)) := by
  refine ⟨rfl, trF g112 b112 c112 ?_⟩
  conv => whnf
  refine condS (fun h => ?_) (fun h => ?_)
  · conv => whnf
    exact ⟨by simp only [within3]; simp at h; simp [h], rfl⟩
  · conv => whnf
    exact ⟨by simp only [within3]; simp at h; simp; omega, rfl⟩
theorem rtwo_tr (l m : List Int) (hl : l.length ≤ 1000) (hm : m.length ≤ 1000) : Tr Try.prog 111 [.sl 1 0 0 l.length, .roI .u16 m] ⟨1, [(0, some (.rowI .u8 l))]⟩ fun v s => v = .sl 1 1 0 (l ++ twos m).length ∧ s = ⟨2, [(1, some (.rowI .u8 (l ++ twos m)))]⟩ := by
  refine trF g111 b111 c111 ?_
  conv => whnf
  refine loopI (α := {i : Nat // i ≤ m.length}) (fun i => [(0, .sl 1 1 0 (l ++ twos (m.take i.1)).length), (1, .roI .u16 m), (5, .int .i64 i.1)]) (fun i => ⟨2, [(1, some (.rowI .u8 (l ++ twos (m.take i.1))))]⟩) (fun i => m.length - i.1) ⟨0, Nat.zero_le _⟩
    ⟨[(1, some 0)], rfl, rfl, rfl, ⟨⟨?_, rfl⟩, ⟨rfl, rfl⟩, ⟨rfl, rfl⟩, trivial⟩, ⟨trivial, rfl, by simp [twos, Chunk.ren]; rfl⟩, trivial⟩ fun ⟨i, hi⟩ => ?_
  · show AV.sl 1 0 0 l.length = AV.sl 1 0 0 (l ++ twos (m.take 0)).length
    simp [twos]
  conv => whnf
  by_cases hlt : i < m.length
  · refine condY (by simpa using hlt) ?_
    conv => whnf
    refine condT (by simpa using hlt) ?_
    conv => whnf
    refine condT (by simpa using hlt) ?_
    conv => whnf
    have hlen : (l ++ twos (m.take i)).length = l.length + 2 * i := by simp [twos_length]; omega
    refine condT (by simp [hlen]; omega) ?_
    conv => whnf
    have key : (l ++ twos (m.take i)) ++ two8 (m.getD i 0) = l ++ twos (m.take (i + 1)) := by rw [twos_take m i hlt, List.append_assoc]
    refine ⟨⟨i + 1, hlt⟩, ⟨[(1, some 3)], rfl, rfl, rfl, ⟨⟨?_, rfl⟩, ⟨rfl, rfl⟩, ⟨?_, rfl⟩, trivial⟩, ⟨⟨trivial, rfl, ?_⟩, trivial⟩⟩, by show m.length - (i + 1) < m.length - i; omega⟩
    · show AV.sl 1 3 0 ((l ++ twos (m.take i)).length + 2) = AV.sl 1 3 0 (l ++ twos (m.take (i + 1))).length
      rw [← key]; simp [two8]; omega
    · show AV.int .i64 (IntKind.i64.wrap ((i : Int) + 1)) = AV.int .i64 ((i + 1 : Nat) : Int)
      rw [IntWalk.i64_in _ (by omega)]; rfl
    · show some (Chunk.rowI .u8 (List.take (l ++ twos (m.take i)).length (List.drop 0 (l ++ twos (m.take i))) ++ List.take 2 (List.drop 0 (two8 (m.getD i 0))))) = some (Chunk.rowI .u8 (l ++ twos (m.take (i + 1))))
      rw [← key, List.drop_zero, List.take_length]; rfl
  · refine condN (by simpa using hlt) ?_
    conv => whnf
    have : i = m.length := by omega
    subst this
    refine ⟨by simp, by simp⟩
/- rung/pdu.Request -/
def a48 : ACode := (.seq (.reg [⟨(some 1), .box (.t 0), none, false⟩, ⟨(some 2), .mov (.c .nils), none, false⟩, ⟨(some 3), .mov (.c (.int .i64 0)), none, false⟩])
 (.seq (.reg [⟨(some 8), .load true 6 (.t 1), none, false⟩, ⟨(some 9), .call 109 [(.t 8)], none, false⟩, ⟨(some 7), .mov (.t 9), none, false⟩, ⟨(some 10), .ext (.t 7) 0, none, false⟩, ⟨(some 11), .ext (.t 7) 1, none, false⟩, ⟨(some 12), .ext (.t 7) 2, none, false⟩, ⟨(some 5), .alloc [(1, (.int .u8 0)), (3, (.int .u16 0)), (2, .nils)], none, false⟩, ⟨(some 4), .mov (.t 10), none, false⟩, ⟨none, .store 6 (.t 5) (.t 11), none, false⟩, ⟨(some 6), .mov (.t 12), none, false⟩])
 (.seq (.seq (.reg [⟨(some 13), .mov (.t 6), none, false⟩, ⟨(some 14), .un .not (.t 13), none, false⟩, ⟨(some 15), .mov (.t 14), none, true⟩, ⟨(some 16), .load true 6 (.t 1), (some (15, false)), false⟩, ⟨(some 17), .load true 6 (.t 5), (some (15, false)), false⟩, ⟨(some 18), .call 110 [(.t 16), (.t 17)], (some (15, false)), false⟩, ⟨(some 19), .un .not (.t 18), (some (15, false)), false⟩, ⟨(some 20), .pick (.t 15) (.c (.bool true)) (.t 19), none, false⟩])
 (.cond (.t 20) (.seq (.reg [⟨(some 2), .mov (.c .nils), none, false⟩, ⟨(some 3), .mov (.c (.int .i64 30)), none, false⟩])
 .ret)
 .skip))
 (.seq (.reg [⟨(some 21), .mov (.t 4), none, false⟩, ⟨(some 2), .mov (.t 21), none, false⟩, ⟨(some 3), .mov (.c (.int .i64 0)), none, false⟩])
 .ret))))
def r48 : List ARes := [.t 2, .t 3]
theorem c48 : compF Try.prog Try.f48 = some (a48, r48) := by kernel_rfl

theorem b48 : hasBody Try.prog 48 = true := by kernel_rfl
theorem g48 : Try.prog.funcs[48]? = some Try.f48 := by kernel_rfl
/- rung/rungref3.Request -/
def a49 : ACode := (.seq (.reg [⟨(some 1), .box (.t 0), none, false⟩, ⟨(some 2), .mov (.c .nils), none, false⟩, ⟨(some 3), .mov (.c (.int .i64 0)), none, false⟩])
 (.seq (.draw [⟨0, ⟨(some 9), .fld 2 1 false (.t 1), none, false⟩, false, [], []⟩, ⟨1, ⟨(some 10), .load false 1 (.t 9), none, false⟩, false, [], []⟩, ⟨2, ⟨(some 11), .conv (.int .i64) (.t 10), none, false⟩, false, [], []⟩, ⟨3, ⟨(some 12), .fld 4 1 false (.t 1), none, false⟩, false, [], []⟩, ⟨4, ⟨(some 13), .load false 1 (.t 12), none, false⟩, false, [], []⟩, ⟨5, ⟨(some 14), .len false (.t 13), none, false⟩, false, [], []⟩, ⟨6, ⟨(some 15), .fld 5 1 false (.t 1), none, false⟩, false, [], []⟩, ⟨7, ⟨(some 16), .load false 1 (.t 15), none, false⟩, false, [], []⟩, ⟨8, ⟨(some 17), .len false (.t 16), none, false⟩, false, [], []⟩, ⟨9, ⟨(some 4), .mov (.t 11), none, false⟩, false, [], []⟩, ⟨10, ⟨(some 5), .mov (.t 14), none, false⟩, false, [], []⟩, ⟨11, ⟨(some 6), .mov (.t 17), none, false⟩, false, [], []⟩])
 (.seq (.reg [⟨(some 18), .fld 0 1 false (.t 1), none, false⟩, ⟨(some 19), .load false 1 (.t 18), none, false⟩, ⟨(some 20), .bslice 1 (.int .u8) [(.int .u8 0)] [(0, 1, (.t 19))] 1, none, false⟩, ⟨(some 21), .fld 1 1 false (.t 1), none, false⟩, ⟨(some 22), .load false 1 (.t 21), none, false⟩, ⟨(some 23), .bslice 1 (.int .u16) [(.int .u16 0)] [(0, 1, (.t 22))] 1, none, false⟩, ⟨(some 24), .call 111 [(.t 20), (.t 23)], none, false⟩, ⟨(some 7), .mov (.t 24), none, false⟩])
 (.seq (.reg [⟨(some 8), .mov (.c (.bool false)), none, false⟩])
 (.seq (.seq (.reg [⟨(some 25), .fld 0 1 false (.t 1), none, false⟩, ⟨(some 26), .load false 1 (.t 25), none, false⟩])
 (.block 0 (.seq (.seq (.reg [⟨(some 28), .bin .eql .other (.t 26) (.c (.int .u8 1)), none, false⟩, ⟨(some 27), .mov (.t 28), none, false⟩])
 (.cond (.t 27) .skip
 (.reg [⟨(some 29), .bin .eql .other (.t 26) (.c (.int .u8 2)), none, false⟩, ⟨(some 27), .mov (.t 29), none, false⟩])))
 (.cond (.t 27) (.seq (.reg [⟨(some 30), .mov (.t 4), none, false⟩, ⟨(some 31), .call 112 [(.t 30), (.c (.int .i64 1)), (.c (.int .i64 2000))], none, false⟩, ⟨(some 32), .mov (.t 31), none, true⟩, ⟨(some 33), .mov (.t 5), (some (32, true)), false⟩, ⟨(some 34), .bin .eql .other (.t 33) (.c (.int .i64 0)), (some (32, true)), false⟩, ⟨(some 35), .pick (.t 32) (.t 34) (.c (.bool false)), none, false⟩, ⟨(some 36), .mov (.t 35), none, true⟩, ⟨(some 37), .mov (.t 6), (some (36, true)), false⟩, ⟨(some 38), .bin .eql .other (.t 37) (.c (.int .i64 0)), (some (36, true)), false⟩, ⟨(some 39), .pick (.t 36) (.t 38) (.c (.bool false)), none, false⟩, ⟨(some 40), .mov (.t 39), none, true⟩, ⟨(some 41), .fld 3 1 false (.t 1), (some (40, true)), false⟩, ⟨(some 42), .load false 1 (.t 41), (some (40, true)), false⟩, ⟨(some 43), .bin .eql .other (.t 42) (.c (.int .u16 0)), (some (40, true)), false⟩, ⟨(some 44), .pick (.t 40) (.t 43) (.c (.bool false)), none, false⟩, ⟨(some 8), .mov (.t 44), none, false⟩])
 (.reg [⟨(some 45), .mov (.t 7), none, false⟩, ⟨(some 46), .fld 2 1 false (.t 1), none, false⟩, ⟨(some 47), .load false 1 (.t 46), none, false⟩, ⟨(some 48), .bslice 1 (.int .u16) [(.int .u16 0)] [(0, 1, (.t 47))] 1, none, false⟩, ⟨(some 49), .call 111 [(.t 45), (.t 48)], none, false⟩, ⟨(some 7), .mov (.t 49), none, false⟩]))
 (.seq (.seq (.reg [⟨(some 51), .bin .eql .other (.t 26) (.c (.int .u8 3)), none, false⟩, ⟨(some 50), .mov (.t 51), none, false⟩])
 (.cond (.t 50) .skip
 (.reg [⟨(some 52), .bin .eql .other (.t 26) (.c (.int .u8 4)), none, false⟩, ⟨(some 50), .mov (.t 52), none, false⟩])))
 (.cond (.t 50) (.seq (.reg [⟨(some 53), .mov (.t 4), none, false⟩, ⟨(some 54), .call 112 [(.t 53), (.c (.int .i64 1)), (.c (.int .i64 125))], none, false⟩, ⟨(some 55), .mov (.t 54), none, true⟩, ⟨(some 56), .mov (.t 5), (some (55, true)), false⟩, ⟨(some 57), .bin .eql .other (.t 56) (.c (.int .i64 0)), (some (55, true)), false⟩, ⟨(some 58), .pick (.t 55) (.t 57) (.c (.bool false)), none, false⟩, ⟨(some 59), .mov (.t 58), none, true⟩, ⟨(some 60), .mov (.t 6), (some (59, true)), false⟩, ⟨(some 61), .bin .eql .other (.t 60) (.c (.int .i64 0)), (some (59, true)), false⟩, ⟨(some 62), .pick (.t 59) (.t 61) (.c (.bool false)), none, false⟩, ⟨(some 63), .mov (.t 62), none, true⟩, ⟨(some 64), .fld 3 1 false (.t 1), (some (63, true)), false⟩, ⟨(some 65), .load false 1 (.t 64), (some (63, true)), false⟩, ⟨(some 66), .bin .eql .other (.t 65) (.c (.int .u16 0)), (some (63, true)), false⟩, ⟨(some 67), .pick (.t 63) (.t 66) (.c (.bool false)), none, false⟩, ⟨(some 8), .mov (.t 67), none, false⟩])
 (.reg [⟨(some 68), .mov (.t 7), none, false⟩, ⟨(some 69), .fld 2 1 false (.t 1), none, false⟩, ⟨(some 70), .load false 1 (.t 69), none, false⟩, ⟨(some 71), .bslice 1 (.int .u16) [(.int .u16 0)] [(0, 1, (.t 70))] 1, none, false⟩, ⟨(some 72), .call 111 [(.t 68), (.t 71)], none, false⟩, ⟨(some 7), .mov (.t 72), none, false⟩]))
 (.seq (.reg [⟨(some 74), .bin .eql .other (.t 26) (.c (.int .u8 5)), none, false⟩, ⟨(some 73), .mov (.t 74), none, false⟩])
 (.cond (.t 73) (.seq (.reg [⟨(some 75), .mov (.t 4), none, false⟩, ⟨(some 76), .bin .eql .other (.t 75) (.c (.int .i64 0)), none, false⟩, ⟨(some 77), .mov (.t 76), none, true⟩, ⟨(some 78), .mov (.t 5), (some (77, true)), false⟩, ⟨(some 79), .bin .eql .other (.t 78) (.c (.int .i64 1)), (some (77, true)), false⟩, ⟨(some 80), .pick (.t 77) (.t 79) (.c (.bool false)), none, false⟩, ⟨(some 81), .mov (.t 80), none, true⟩, ⟨(some 82), .mov (.t 6), (some (81, true)), false⟩, ⟨(some 83), .bin .eql .other (.t 82) (.c (.int .i64 0)), (some (81, true)), false⟩, ⟨(some 84), .pick (.t 81) (.t 83) (.c (.bool false)), none, false⟩, ⟨(some 85), .mov (.t 84), none, true⟩, ⟨(some 86), .fld 3 1 false (.t 1), (some (85, true)), false⟩, ⟨(some 87), .load false 1 (.t 86), (some (85, true)), false⟩, ⟨(some 88), .bin .eql .other (.t 87) (.c (.int .u16 0)), (some (85, true)), false⟩, ⟨(some 89), .pick (.t 85) (.t 88) (.c (.bool false)), none, false⟩, ⟨(some 8), .mov (.t 89), none, false⟩])
 (.seq (.reg [⟨(some 90), .mov (.t 8), none, false⟩])
 (.cond (.t 90) (.reg [⟨(some 91), .mov (.t 7), none, false⟩, ⟨(some 92), .fld 4 1 false (.t 1), none, false⟩, ⟨(some 93), .load false 1 (.t 92), none, false⟩, ⟨(some 94), .idx 1 none false (.t 93) (.c (.int .i64 0)), none, false⟩, ⟨(some 95), .load false 1 (.t 94), none, false⟩, ⟨(some 96), .call 113 [(.t 95)], none, false⟩, ⟨(some 97), .bslice 1 (.int .u16) [(.int .u16 0)] [(0, 1, (.t 96))] 1, none, false⟩, ⟨(some 98), .call 111 [(.t 91), (.t 97)], none, false⟩, ⟨(some 7), .mov (.t 98), none, false⟩])
 .skip)))
 (.seq (.reg [⟨(some 100), .bin .eql .other (.t 26) (.c (.int .u8 6)), none, false⟩, ⟨(some 99), .mov (.t 100), none, false⟩])
 (.cond (.t 99) (.seq (.reg [⟨(some 101), .mov (.t 4), none, false⟩, ⟨(some 102), .bin .eql .other (.t 101) (.c (.int .i64 0)), none, false⟩, ⟨(some 103), .mov (.t 102), none, true⟩, ⟨(some 104), .mov (.t 5), (some (103, true)), false⟩, ⟨(some 105), .bin .eql .other (.t 104) (.c (.int .i64 0)), (some (103, true)), false⟩, ⟨(some 106), .pick (.t 103) (.t 105) (.c (.bool false)), none, false⟩, ⟨(some 107), .mov (.t 106), none, true⟩, ⟨(some 108), .mov (.t 6), (some (107, true)), false⟩, ⟨(some 109), .bin .eql .other (.t 108) (.c (.int .i64 1)), (some (107, true)), false⟩, ⟨(some 110), .pick (.t 107) (.t 109) (.c (.bool false)), none, false⟩, ⟨(some 111), .mov (.t 110), none, true⟩, ⟨(some 112), .fld 3 1 false (.t 1), (some (111, true)), false⟩, ⟨(some 113), .load false 1 (.t 112), (some (111, true)), false⟩, ⟨(some 114), .bin .eql .other (.t 113) (.c (.int .u16 0)), (some (111, true)), false⟩, ⟨(some 115), .pick (.t 111) (.t 114) (.c (.bool false)), none, false⟩, ⟨(some 8), .mov (.t 115), none, false⟩])
 (.reg [⟨(some 116), .mov (.t 7), none, false⟩, ⟨(some 117), .fld 5 1 false (.t 1), none, false⟩, ⟨(some 118), .load false 1 (.t 117), none, false⟩, ⟨(some 119), .call 111 [(.t 116), (.t 118)], none, false⟩, ⟨(some 7), .mov (.t 119), none, false⟩]))
 (.seq (.reg [⟨(some 121), .bin .eql .other (.t 26) (.c (.int .u8 15)), none, false⟩, ⟨(some 120), .mov (.t 121), none, false⟩])
 (.cond (.t 120) (.seq (.reg [⟨(some 122), .mov (.t 4), none, false⟩, ⟨(some 123), .bin .eql .other (.t 122) (.c (.int .i64 0)), none, false⟩, ⟨(some 124), .mov (.t 123), none, true⟩, ⟨(some 125), .mov (.t 5), (some (124, true)), false⟩, ⟨(some 126), .call 112 [(.t 125), (.c (.int .i64 1)), (.c (.int .i64 1968))], (some (124, true)), false⟩, ⟨(some 127), .pick (.t 124) (.t 126) (.c (.bool false)), none, false⟩, ⟨(some 128), .mov (.t 127), none, true⟩, ⟨(some 129), .mov (.t 6), (some (128, true)), false⟩, ⟨(some 130), .bin .eql .other (.t 129) (.c (.int .i64 0)), (some (128, true)), false⟩, ⟨(some 131), .pick (.t 128) (.t 130) (.c (.bool false)), none, false⟩, ⟨(some 132), .mov (.t 131), none, true⟩, ⟨(some 133), .fld 3 1 false (.t 1), (some (132, true)), false⟩, ⟨(some 134), .load false 1 (.t 133), (some (132, true)), false⟩, ⟨(some 135), .bin .eql .other (.t 134) (.c (.int .u16 0)), (some (132, true)), false⟩, ⟨(some 136), .pick (.t 132) (.t 135) (.c (.bool false)), none, false⟩, ⟨(some 8), .mov (.t 136), none, false⟩])
 (.draw [⟨0, ⟨(some 137), .mov (.t 7), none, false⟩, false, [], []⟩, ⟨1, ⟨(some 138), .mov (.t 5), none, false⟩, false, [], []⟩, ⟨2, ⟨(some 139), .conv (.int .u16) (.t 138), none, false⟩, false, [], []⟩, ⟨3, ⟨(some 140), .bslice 1 (.int .u16) [(.int .u16 0)] [(0, 1, (.t 139))] 1, none, false⟩, false, [], []⟩, ⟨5, ⟨(some 142), .mov (.t 5), none, false⟩, false, [], []⟩, ⟨6, ⟨(some 143), .bin .add .other (.t 142) (.c (.int .i64 7)), none, false⟩, false, [], []⟩, ⟨7, ⟨(some 144), .bin .quo .other (.t 143) (.c (.int .i64 8)), none, false⟩, false, [], []⟩, ⟨8, ⟨(some 145), .conv (.int .u8) (.t 144), none, false⟩, false, [], []⟩, ⟨9, ⟨(some 146), .bslice 1 (.int .u8) [(.int .u8 0)] [(0, 1, (.t 145))] 1, none, false⟩, false, [], []⟩, ⟨11, ⟨(some 148), .fld 4 1 false (.t 1), none, false⟩, false, [], []⟩, ⟨12, ⟨(some 149), .load false 1 (.t 148), none, false⟩, false, [], []⟩, ⟨4, ⟨(some 141), .call 111 [(.t 137), (.t 140)], none, false⟩, true, [3], [(.t 148)]⟩, ⟨10, ⟨(some 147), .app 1 1 (.t 141) (.t 146), none, false⟩, true, [3, 9], [(.t 148)]⟩, ⟨13, ⟨(some 150), .call 62 [(.t 149)], none, false⟩, true, [3, 9], []⟩, ⟨14, ⟨(some 151), .app 1 1 (.t 147) (.t 150), none, false⟩, true, [3, 9], []⟩, ⟨15, ⟨(some 7), .mov (.t 151), none, false⟩, false, [], []⟩]))
 (.seq (.reg [⟨(some 153), .bin .eql .other (.t 26) (.c (.int .u8 16)), none, false⟩, ⟨(some 152), .mov (.t 153), none, false⟩])
 (.cond (.t 152) (.seq (.reg [⟨(some 154), .mov (.t 4), none, false⟩, ⟨(some 155), .bin .eql .other (.t 154) (.c (.int .i64 0)), none, false⟩, ⟨(some 156), .mov (.t 155), none, true⟩, ⟨(some 157), .mov (.t 5), (some (156, true)), false⟩, ⟨(some 158), .bin .eql .other (.t 157) (.c (.int .i64 0)), (some (156, true)), false⟩, ⟨(some 159), .pick (.t 156) (.t 158) (.c (.bool false)), none, false⟩, ⟨(some 160), .mov (.t 159), none, true⟩, ⟨(some 161), .mov (.t 6), (some (160, true)), false⟩, ⟨(some 162), .call 112 [(.t 161), (.c (.int .i64 1)), (.c (.int .i64 123))], (some (160, true)), false⟩, ⟨(some 163), .pick (.t 160) (.t 162) (.c (.bool false)), none, false⟩, ⟨(some 164), .mov (.t 163), none, true⟩, ⟨(some 165), .fld 3 1 false (.t 1), (some (164, true)), false⟩, ⟨(some 166), .load false 1 (.t 165), (some (164, true)), false⟩, ⟨(some 167), .bin .eql .other (.t 166) (.c (.int .u16 0)), (some (164, true)), false⟩, ⟨(some 168), .pick (.t 164) (.t 167) (.c (.bool false)), none, false⟩, ⟨(some 8), .mov (.t 168), none, false⟩])
 (.draw [⟨0, ⟨(some 169), .mov (.t 7), none, false⟩, false, [], []⟩, ⟨1, ⟨(some 170), .mov (.t 6), none, false⟩, false, [], []⟩, ⟨2, ⟨(some 171), .conv (.int .u16) (.t 170), none, false⟩, false, [], []⟩, ⟨3, ⟨(some 172), .bslice 1 (.int .u16) [(.int .u16 0)] [(0, 1, (.t 171))] 1, none, false⟩, false, [], []⟩, ⟨5, ⟨(some 174), .mov (.t 6), none, false⟩, false, [], []⟩, ⟨6, ⟨(some 175), .bin .mul .other (.c (.int .i64 2)) (.t 174), none, false⟩, false, [], []⟩, ⟨7, ⟨(some 176), .conv (.int .u8) (.t 175), none, false⟩, false, [], []⟩, ⟨8, ⟨(some 177), .bslice 1 (.int .u8) [(.int .u8 0)] [(0, 1, (.t 176))] 1, none, false⟩, false, [], []⟩, ⟨10, ⟨(some 179), .fld 5 1 false (.t 1), none, false⟩, false, [], []⟩, ⟨11, ⟨(some 180), .load false 1 (.t 179), none, false⟩, false, [], []⟩, ⟨4, ⟨(some 173), .call 111 [(.t 169), (.t 172)], none, false⟩, true, [3], [(.t 179)]⟩, ⟨9, ⟨(some 178), .app 1 1 (.t 173) (.t 177), none, false⟩, true, [3, 8], [(.t 179)]⟩, ⟨12, ⟨(some 181), .call 111 [(.t 178), (.t 180)], none, false⟩, true, [3, 8], []⟩, ⟨13, ⟨(some 7), .mov (.t 181), none, false⟩, false, [], []⟩]))
 (.seq (.reg [⟨(some 183), .bin .eql .other (.t 26) (.c (.int .u8 22)), none, false⟩, ⟨(some 182), .mov (.t 183), none, false⟩])
 (.cond (.t 182) (.seq (.reg [⟨(some 184), .mov (.t 4), none, false⟩, ⟨(some 185), .bin .eql .other (.t 184) (.c (.int .i64 0)), none, false⟩, ⟨(some 186), .mov (.t 185), none, true⟩, ⟨(some 187), .mov (.t 5), (some (186, true)), false⟩, ⟨(some 188), .bin .eql .other (.t 187) (.c (.int .i64 0)), (some (186, true)), false⟩, ⟨(some 189), .pick (.t 186) (.t 188) (.c (.bool false)), none, false⟩, ⟨(some 190), .mov (.t 189), none, true⟩, ⟨(some 191), .mov (.t 6), (some (190, true)), false⟩, ⟨(some 192), .bin .eql .other (.t 191) (.c (.int .i64 2)), (some (190, true)), false⟩, ⟨(some 193), .pick (.t 190) (.t 192) (.c (.bool false)), none, false⟩, ⟨(some 194), .mov (.t 193), none, true⟩, ⟨(some 195), .fld 3 1 false (.t 1), (some (194, true)), false⟩, ⟨(some 196), .load false 1 (.t 195), (some (194, true)), false⟩, ⟨(some 197), .bin .eql .other (.t 196) (.c (.int .u16 0)), (some (194, true)), false⟩, ⟨(some 198), .pick (.t 194) (.t 197) (.c (.bool false)), none, false⟩, ⟨(some 8), .mov (.t 198), none, false⟩])
 (.reg [⟨(some 199), .mov (.t 7), none, false⟩, ⟨(some 200), .fld 5 1 false (.t 1), none, false⟩, ⟨(some 201), .load false 1 (.t 200), none, false⟩, ⟨(some 202), .call 111 [(.t 199), (.t 201)], none, false⟩, ⟨(some 7), .mov (.t 202), none, false⟩]))
 (.seq (.reg [⟨(some 204), .bin .eql .other (.t 26) (.c (.int .u8 23)), none, false⟩, ⟨(some 203), .mov (.t 204), none, false⟩])
 (.cond (.t 203) (.seq (.reg [⟨(some 205), .mov (.t 4), none, false⟩, ⟨(some 206), .call 112 [(.t 205), (.c (.int .i64 1)), (.c (.int .i64 125))], none, false⟩, ⟨(some 207), .mov (.t 206), none, true⟩, ⟨(some 208), .mov (.t 5), (some (207, true)), false⟩, ⟨(some 209), .bin .eql .other (.t 208) (.c (.int .i64 0)), (some (207, true)), false⟩, ⟨(some 210), .pick (.t 207) (.t 209) (.c (.bool false)), none, false⟩, ⟨(some 211), .mov (.t 210), none, true⟩, ⟨(some 212), .mov (.t 6), (some (211, true)), false⟩, ⟨(some 213), .call 112 [(.t 212), (.c (.int .i64 1)), (.c (.int .i64 121))], (some (211, true)), false⟩, ⟨(some 214), .pick (.t 211) (.t 213) (.c (.bool false)), none, false⟩, ⟨(some 8), .mov (.t 214), none, false⟩])
 (.draw [⟨0, ⟨(some 215), .mov (.t 7), none, false⟩, false, [], []⟩, ⟨1, ⟨(some 216), .fld 2 1 false (.t 1), none, false⟩, false, [], []⟩, ⟨2, ⟨(some 217), .load false 1 (.t 216), none, false⟩, false, [], []⟩, ⟨3, ⟨(some 218), .fld 3 1 false (.t 1), none, false⟩, false, [], []⟩, ⟨4, ⟨(some 219), .load false 1 (.t 218), none, false⟩, false, [], []⟩, ⟨5, ⟨(some 220), .mov (.t 6), none, false⟩, false, [], []⟩, ⟨6, ⟨(some 221), .conv (.int .u16) (.t 220), none, false⟩, false, [], []⟩, ⟨7, ⟨(some 222), .bslice 1 (.int .u16) [(.int .u16 0), (.int .u16 0), (.int .u16 0)] [(0, 1, (.t 217)), (1, 1, (.t 219)), (2, 1, (.t 221))] 3, none, false⟩, false, [], []⟩, ⟨9, ⟨(some 224), .mov (.t 6), none, false⟩, false, [], []⟩, ⟨10, ⟨(some 225), .bin .mul .other (.c (.int .i64 2)) (.t 224), none, false⟩, false, [], []⟩, ⟨11, ⟨(some 226), .conv (.int .u8) (.t 225), none, false⟩, false, [], []⟩, ⟨12, ⟨(some 227), .bslice 1 (.int .u8) [(.int .u8 0)] [(0, 1, (.t 226))] 1, none, false⟩, false, [], []⟩, ⟨14, ⟨(some 229), .fld 5 1 false (.t 1), none, false⟩, false, [], []⟩, ⟨15, ⟨(some 230), .load false 1 (.t 229), none, false⟩, false, [], []⟩, ⟨8, ⟨(some 223), .call 111 [(.t 215), (.t 222)], none, false⟩, true, [7], [(.t 229)]⟩, ⟨13, ⟨(some 228), .app 1 1 (.t 223) (.t 227), none, false⟩, true, [7, 12], [(.t 229)]⟩, ⟨16, ⟨(some 231), .call 111 [(.t 228), (.t 230)], none, false⟩, true, [7, 12], []⟩, ⟨17, ⟨(some 7), .mov (.t 231), none, false⟩, false, [], []⟩]))
 .skip))))))))))))))))))
 (.seq (.seq (.reg [⟨(some 232), .mov (.t 8), none, false⟩, ⟨(some 233), .un .not (.t 232), none, false⟩])
 (.cond (.t 233) (.seq (.reg [⟨(some 2), .mov (.c .nils), none, false⟩, ⟨(some 3), .mov (.c (.int .i64 30)), none, false⟩])
 .ret)
 .skip))
 (.seq (.reg [⟨(some 234), .mov (.t 7), none, false⟩, ⟨(some 2), .mov (.t 234), none, false⟩, ⟨(some 3), .mov (.c (.int .i64 0)), none, false⟩])
 .ret)))))))
def r49 : List ARes := [.t 2, .t 3]
theorem c49 : compF Try.prog Try.f49 = some (a49, r49) := by kernel_rfl

theorem b49 : hasBody Try.prog 49 = true := by kernel_rfl
theorem g49 : Try.prog.funcs[49]? = some Try.f49 := by kernel_rfl

theorem rtwo_call {h h2 len n : Nat} {l m : List Int} {s : St} {K : AV → St → Prop} (hg2 : s.get h2 = some (.rowI .u16 m)) (hg : s.get h = some (.rowI .u8 l)) (hne : Nat.beq h h2 = false) (hn : n = m.length) (hl : len = l.length) (hb : l.length ≤ 1000) (hm : m.length ≤ 1000)
    (k : openS s fun n t => K (.sl 1 n 0 (l ++ twos m).length) ⟨n + 1, (n, some (.rowI .u8 (l ++ twos m))) :: (h, none) :: (h2, none) :: t⟩) : Tr Try.prog 111 [.sl 1 h 0 len, .sl 1 h2 0 n] s K :=
  rowCall2 (rtwo_tr l m hb hm) hg2 hg hne hn hl k
theorem rtwo_call1 {h len : Nat} {l m : List Int} {s : St} {K : AV → St → Prop} (hg : s.get h = some (.rowI .u8 l)) (hl : len = l.length) (hb : l.length ≤ 1000) (hm : m.length ≤ 1000)
    (k : openS s fun n t => K (.sl 1 n 0 (l ++ twos m).length) ⟨n + 1, (n, some (.rowI .u8 (l ++ twos m))) :: (h, none) :: t⟩) : Tr Try.prog 111 [.sl 1 h 0 len, .roI .u16 m] s K :=
  rowCall (rtwo_tr l m hb hm) rfl hg hl k
theorem rpack_ev (l : List Bool) (hl : l.length ≤ 100000) : Ev Try.prog 62 [.roB l] (.roI .u8 (packN l l.length)) := Ev.row rfl (by rw [packN_length]; exact rpack_tr l hl)
def encOk (f n a2 : Int) (b : List Bool) (r : List Int) : Bool :=
  if f == 1 then withinB n 2000 && (b.length : Int) == 0 && (r.length : Int) == 0 && a2 == 0
  else if f == 2 then withinB n 2000 && (b.length : Int) == 0 && (r.length : Int) == 0 && a2 == 0
  else if f == 3 then withinB n 125 && (b.length : Int) == 0 && (r.length : Int) == 0 && a2 == 0
  else if f == 4 then withinB n 125 && (b.length : Int) == 0 && (r.length : Int) == 0 && a2 == 0
  else if f == 5 then n == 0 && (b.length : Int) == 1 && (r.length : Int) == 0 && a2 == 0
  else if f == 6 then n == 0 && (b.length : Int) == 0 && (r.length : Int) == 1 && a2 == 0
  else if f == 15 then n == 0 && withinB b.length 1968 && (r.length : Int) == 0 && a2 == 0
  else if f == 16 then n == 0 && (b.length : Int) == 0 && withinB r.length 123 && a2 == 0
  else if f == 22 then n == 0 && (b.length : Int) == 0 && (r.length : Int) == 2 && a2 == 0
  else if f == 23 then withinB n 125 && (b.length : Int) == 0 && withinB r.length 121
  else false
def encR (f a n a2 : Int) (b : List Bool) (r : List Int) : List Int := if encOk f n a2 b r then (reqS f a n a2 b r).row else []
def encE (f n a2 : Int) (b : List Bool) (r : List Int) : Int := if encOk f n a2 b r then 0 else 30
theorem within3_1 (n m : Int) : within3 n 1 m = withinB n m := rfl
theorem enc_own (f a n a2 : Int) (b : List Bool) (r : List Int) : ((reqS f a n a2 b r).ok && (f == f && a == a && n == (reqS f a n a2 b r).n && a2 == (reqS f a n a2 b r).a2 && b == (reqS f a n a2 b r).b && r == (reqS f a n a2 b r).r)) = encOk f n a2 b r := by
  by_cases h1 : f = 1
  · subst h1; rw [Bool.eq_iff_iff]; simp [reqS, encOk, withinB, ← List.length_eq_zero_iff] <;> omega
  by_cases h2 : f = 2
  · subst h2; rw [Bool.eq_iff_iff]; simp [reqS, encOk, withinB, ← List.length_eq_zero_iff] <;> omega
  by_cases h3 : f = 3
  · subst h3; rw [Bool.eq_iff_iff]; simp [reqS, encOk, withinB, ← List.length_eq_zero_iff] <;> omega
  by_cases h4 : f = 4
  · subst h4; rw [Bool.eq_iff_iff]; simp [reqS, encOk, withinB, ← List.length_eq_zero_iff] <;> omega
  by_cases h5 : f = 5
  · subst h5; rw [Bool.eq_iff_iff]; simp [reqS, encOk, withinB, ← List.length_eq_zero_iff] <;> omega
  by_cases h6 : f = 6
  · subst h6; rw [Bool.eq_iff_iff]; simp [reqS, encOk, withinB, ← List.length_eq_zero_iff] <;> omega
  by_cases h22 : f = 22
  · subst h22; rw [Bool.eq_iff_iff]; simp [reqS, encOk, withinB, ← List.length_eq_zero_iff] <;> omega
  by_cases h15 : f = 15
  · subst h15; rw [Bool.eq_iff_iff]; simp [reqS, encOk, withinB, ← List.length_eq_zero_iff] <;> omega
  by_cases h16 : f = 16
  · subst h16; rw [Bool.eq_iff_iff]; simp [reqS, encOk, withinB, ← List.length_eq_zero_iff] <;> omega
  by_cases h23 : f = 23
  · subst h23; rw [Bool.eq_iff_iff]; simp [reqS, encOk, withinB, ← List.length_eq_zero_iff] <;> omega
  simp [reqS, encOk, *]
theorem same_ev (f a n a2 f' a' n' a2' : Int) (b b' : List Bool) (r r' : List Int) (hb : b.length ≤ 100000) (hr : r.length ≤ 100000) :
    Ev Try.prog 110 [reqA f a n a2 (.roB b) (.roI .u16 r), reqA f' a' n' a2' (.roB b') (.roI .u16 r')] (.bool (f == f' && a == a' && n == n' && a2 == a2' && b == b' && r == r')) := ⟨rfl, same_tr f a n a2 f' a' n' a2' b b' r r' hb hr⟩
theorem RawK.err {row l : List Int} {e e' : Int} {h len : Nat} {s : St} (hg : s.get h = some (.rowI .u8 l)) (hl : len = l.length) (hr : l = row) (he : e = e') : RawK row [.int .i64 e'] (.tup [.sl 1 h 0 len, .int .i64 e]) s := by
  subst hr; subst he; subst hl
  unfold RawK
  exact ⟨_, Le.refl _, .inl ⟨h, rfl, hg⟩⟩
theorem RawK.err0 {row : List Int} {e e' : Int} {s : St} (hr : row = []) (he : e = e') : RawK row [.int .i64 e'] (.tup [.nils, .int .i64 e]) s := by
  subst hr; subst he
  unfold RawK
  exact ⟨_, Le.refl _, .inr ⟨rfl, rfl⟩⟩
theorem Request_raw (f a n a2 : Int) (b : List Bool) (r : List Int) (hn0 : 0 ≤ n) (hn1 : n < 65536) (hb : b.length ≤ 2500) (hr : r.length ≤ 500) :
    Tr Try.prog 48 [reqA f a n a2 (.roB b) (.roI .u16 r)] ⟨0, []⟩ (RawK (encR f a n a2 b r) [.int .i64 (encE f n a2 b r)]) := by
  have h1 := request_tr f a n a2 b r hn0 hn1 hb hr
  have h2 := enc_own f a n a2 b r
  unfold encR encE
  generalize encOk f n a2 b r = o at *
  generalize reqS f a n a2 b r = q at *
  refine trF g48 b48 c48 ?_
  conv => whnf
  refine Ret1.call h1 rfl rfl ?_
  conv => whnf
  refine condS (fun h => ?_) (fun h => ?_)
  · conv => whnf
    have : o = false := by rw [← h2, show q.ok = false by simpa using h]; rfl
    subst this
    exact RawK.err0 rfl rfl
  · conv => whnf
    refine Ev.call (same_ev _ _ _ _ _ _ _ _ _ _ _ _ (by omega) (by omega)) ?_
    conv => whnf
    rw [show q.ok = true by simpa using h, Bool.true_and] at h2
    rw [h2]
    cases o
    · conv => whnf
      exact RawK.err0 rfl rfl
    · conv => whnf
      exact RawK.err rfl rfl rfl rfl
theorem Request_tr (f a n a2 : Int) (b : List Bool) (r : List Int) (hn0 : 0 ≤ n) (hn1 : n < 65536) (hb : b.length ≤ 2500) (hr : r.length ≤ 500) :
    Tr Try.prog 48 [reqA f a n a2 (.roB b) (.roI .u16 r)] ⟨0, []⟩ (Ret1 (encR f a n a2 b r) [.int .i64 (encE f n a2 b r)]) :=
  Ret1.of rfl ((Request_raw f a n a2 b r hn0 hn1 hb hr).mono fun v s h => by unfold RawK at h; exact h)
theorem Request_ev (f a n a2 : Int) (b : List Bool) (r : List Int) (hn0 : 0 ≤ n) (hn1 : n < 65536) (hb : b.length ≤ 2500) (hr : r.length ≤ 500) :
    Ev Try.prog 48 [reqA f a n a2 (.roB b) (.roI .u16 r)] (.tup [.roI .u8 (encR f a n a2 b r), .int .i64 (encE f n a2 b r)]) := Ret1.ev rfl (Request_tr f a n a2 b r hn0 hn1 hb hr)
theorem row_take (X : List Int) (c : Int) : List.take (X.length + 1) (List.drop 0 (List.take X.length (List.drop 0 X) ++ List.take 1 (List.drop 0 [c]))) = X ++ [c] := by
  rw [List.drop_zero, List.drop_zero, List.drop_zero, List.take_length]
  exact List.take_of_length_le (by simp)
set_option maxRecDepth 20000 in
set_option maxHeartbeats 4000000 in
theorem rRequest_raw (f a n a2 : Int) (b : List Bool) (r : List Int) (hn0 : 0 ≤ n) (hn1 : n < 65536) (hb : b.length ≤ 2500) (hr : r.length ≤ 500) :
    Tr Try.prog 49 [reqA f a n a2 (.roB b) (.roI .u16 r)] ⟨0, []⟩ (RawK (encR f a n a2 b r) [.int .i64 (encE f n a2 b r)]) := by
  have hw : IntKind.i64.wrap n = n := IntWalk.i64_in _ (by omega)
  have h15 : IntKind.i64.wrap ((IntKind.i64.wrap ((b.length : Int) + 7)).tdiv 8) = (((b.length + 7) / 8 : Nat) : Int) := by
    rw [show IntKind.i64.wrap ((b.length : Int) + 7) = ((b.length + 7 : Nat) : Int) from w64 (i := b.length + 7) (by omega)]
    exact q64 (by omega)
  refine trF g49 b49 c49 ?_
  conv => whnf
  repeat' (first
    | (refine condY (by assumption) ?_; conv => whnf)
    | (refine condN (by assumption) ?_; conv => whnf)
    | (refine condT (by first | assumption | (simp [twos_length, packN_length, two8]; done) | (simp [twos_length, packN_length, two8]; omega) | (simp_all; done) | (simp_all; omega)) ?_; conv => whnf)
    | (refine condF (fun h => ?_) (fun h => ?_) <;> conv => whnf)
    | (refine ⟨rfl, ?_⟩; conv => whnf)
    | (refine rtwo_call rfl rfl rfl (by first | (simp [twos_length, packN_length, two8]; done) | (simp [twos_length, packN_length, two8]; omega) | omega) (by first | (simp [twos_length, packN_length, two8]; done) | (simp [twos_length, packN_length, two8]; omega) | omega) (by first | (simp [twos_length, packN_length, two8]; done) | (simp [twos_length, packN_length, two8]; omega) | omega) (by first | (simp [twos_length, packN_length, two8]; done) | (simp [twos_length, packN_length, two8]; omega) | omega) ?_; conv => whnf)
    | (refine rtwo_call1 rfl (by first | (simp [twos_length, packN_length, two8]; done) | (simp [twos_length, packN_length, two8]; omega) | omega) (by first | (simp [twos_length, packN_length, two8]; done) | (simp [twos_length, packN_length, two8]; omega) | omega) (by first | (simp [twos_length, packN_length, two8]; done) | (simp [twos_length, packN_length, two8]; omega) | omega) ?_; conv => whnf)
    | (refine Ev.call (within3_ev _ _ _) ?_; conv => whnf)
    | (refine Ev.call (one_ev _) ?_; conv => whnf)
    | (refine Ev.call (rpack_ev _ (by omega)) ?_; conv => whnf)
    )
  all_goals (simp only [within3_1, hw, h15] at *)
  all_goals first
    | (have hk : encOk f n a2 b r = false := by simp_all [encOk]
       exact RawK.err0 (by simp [encR, hk]) (by simp [encE, hk]))
    | (have hk : encOk f n a2 b r = true := by simp_all [encOk]
       refine RawK.err rfl (by first | rfl | (simp [packN_length]; done) | (simp [packN_length]; omega)) ?_ (by simp [encE, hk])
       simp only [encR, hk, if_true, reqS, *, Bool.false_eq_true, if_false]
       first | rfl | (simp [row15, rowR, pre3, packN_length, coilN, twos]; done) | (have h16 := eq_of_beq (show (f == 16) = true by assumption); subst h16; show _ = rowR (pre3 16 a) r; rfl) | (have h16 := eq_of_beq (show (f == 15) = true by assumption); subst h16; show _ = row15 15 a b; rw [row_take]; rfl) | (exfalso; simp_all; done))
theorem rRequest_ev (f a n a2 : Int) (b : List Bool) (r : List Int) (hn0 : 0 ≤ n) (hn1 : n < 65536) (hb : b.length ≤ 2500) (hr : r.length ≤ 500) :
    Ev Try.prog 49 [reqA f a n a2 (.roB b) (.roI .u16 r)] (.tup [.roI .u8 (encR f a n a2 b r), .int .i64 (encE f n a2 b r)]) :=
  Ret1.ev rfl (Ret1.of rfl ((rRequest_raw f a n a2 b r hn0 hn1 hb hr).mono fun v s h => by unfold RawK at h; exact h))
end Go.Proofs.Ytomodeliimnddaa
set_option linter.unusedVariables false
set_option linter.unusedSimpArgs false
namespace Go.Ab
end Go.Ab
namespace Go.Proofs.Ytomodeliimnddaa
open Go.Ab
structure Rq where
  f : Int
  a : Int
  n : Int
  a2 : Int
  b : List Bool
  r : List Int
def rqA (q : Rq) : AV := reqA q.f q.a q.n q.a2 (.roB q.b) (.roI .u16 q.r)
def Rq.zero : Rq := ⟨0, 0, 0, 0, [], []⟩
def cutF (l : List Int) (k : Nat) : List Int := (l.drop k).take (l.length - k)
theorem cutF_eq (l : List Int) (k : Nat) : cutF l k = l.drop k := List.take_of_length_le (by simp)
def numAt (l : List Int) (i : Nat) : Int := num16 (l.getD i 0) (l.getD (i + 1) 0)
theorem number_ev (l : List Int) (hl : 2 ≤ l.length) : Ev Try.prog 151 [.roI .u8 l] (.int .u16 (numAt l 0)) := ⟨rfl, number_tr l hl⟩
theorem numbers_ev (l : List Int) (hl : l.length ≤ 100000) : Ev Try.prog 121 [.roI .u8 l] (.roI .u16 (numsN l (l.length / 2))) := Ev.row rfl (by rw [numsN_length]; exact numbers_tr l hl)
theorem bits_ev (l : List Int) (n : Int) (hl : l.length ≤ 100000) : Ev Try.prog 64 [.roI .u8 l, .int .i64 n] (.roB (bitsA l (bitsK n))) := by
  refine Ev.rowB rfl ?_
  rw [bitsA_length, ← bitsN_all]
  exact bits_tr l n hl
/- rung/pdu.opened -/
def a114 : ACode := (.seq (.reg [⟨(some 2), .alloc [(1, (.int .u8 0)), (3, (.int .u16 0)), (2, .nils)], none, false⟩, ⟨(some 3), .mov (.c (.bool false)), none, false⟩])
 (.seq (.seq (.reg [⟨(some 6), .mov (.t 0), none, false⟩, ⟨(some 7), .len false (.t 6), none, false⟩, ⟨(some 8), .bin .lss .other (.t 7) (.c (.int .i64 5)), none, false⟩])
 (.cond (.t 8) (.seq (.reg [⟨(some 9), .build [(.int .u8 0), (.int .u16 0), (.int .u16 0), (.int .u16 0), .nils, .nils] [], none, false⟩, ⟨none, .store 6 (.t 2) (.t 9), none, false⟩, ⟨(some 3), .mov (.c (.bool false)), none, false⟩])
 .ret)
 .skip))
 (.seq (.draw [⟨0, ⟨(some 10), .mov (.t 0), none, false⟩, false, [], []⟩, ⟨1, ⟨(some 11), .idx 1 none false (.t 10) (.c (.int .i64 0)), none, false⟩, false, [], []⟩, ⟨2, ⟨(some 12), .load false 1 (.t 11), none, false⟩, false, [], []⟩, ⟨3, ⟨(some 13), .mov (.t 0), none, false⟩, false, [], []⟩, ⟨4, ⟨(some 14), .slice (.sl 1) (.t 13) (some (.c (.int .i64 1))) none, none, false⟩, false, [], []⟩, ⟨7, ⟨(some 4), .alloc [(1, (.int .u8 0)), (3, (.int .u16 0)), (2, .nils)], none, false⟩, false, [], []⟩, ⟨5, ⟨(some 15), .call 151 [(.t 14)], none, false⟩, true, [], [(.t 11)]⟩, ⟨6, ⟨(some 16), .build [(.int .u8 0), (.int .u16 0), (.int .u16 0), (.int .u16 0), .nils, .nils] [(0, 1, (.t 12)), (1, 1, (.t 15))], none, false⟩, false, [], []⟩, ⟨8, ⟨none, .store 6 (.t 4) (.t 16), none, false⟩, true, [7], []⟩])
 (.seq (.reg [⟨(some 17), .mov (.t 0), none, false⟩, ⟨(some 18), .slice (.sl 1) (.t 17) (some (.c (.int .i64 3))) none, none, false⟩, ⟨(some 5), .mov (.t 18), none, false⟩])
 (.seq (.seq (.reg [⟨(some 19), .fld 0 1 false (.t 4), none, false⟩, ⟨(some 20), .load false 1 (.t 19), none, false⟩])
 (.block 0 (.seq (.seq (.reg [⟨(some 22), .bin .eql .other (.t 20) (.c (.int .u8 1)), none, false⟩, ⟨(some 21), .mov (.t 22), none, false⟩])
 (.cond (.t 21) .skip
 (.seq (.reg [⟨(some 23), .bin .eql .other (.t 20) (.c (.int .u8 2)), none, false⟩, ⟨(some 21), .mov (.t 23), none, false⟩])
 (.cond (.t 21) .skip
 (.seq (.reg [⟨(some 24), .bin .eql .other (.t 20) (.c (.int .u8 3)), none, false⟩, ⟨(some 21), .mov (.t 24), none, false⟩])
 (.cond (.t 21) .skip
 (.reg [⟨(some 25), .bin .eql .other (.t 20) (.c (.int .u8 4)), none, false⟩, ⟨(some 21), .mov (.t 25), none, false⟩])))))))
 (.cond (.t 21) (.reg [⟨(some 26), .mov (.t 5), none, false⟩, ⟨(some 27), .call 151 [(.t 26)], none, false⟩, ⟨(some 28), .fld 2 1 false (.t 4), none, false⟩, ⟨none, .store 1 (.t 28) (.t 27), none, false⟩])
 (.seq (.reg [⟨(some 30), .bin .eql .other (.t 20) (.c (.int .u8 5)), none, false⟩, ⟨(some 29), .mov (.t 30), none, false⟩])
 (.cond (.t 29) (.reg [⟨(some 31), .mov (.t 5), none, false⟩, ⟨(some 32), .call 151 [(.t 31)], none, false⟩, ⟨(some 33), .bin .eql .other (.t 32) (.c (.int .u16 65280)), none, false⟩, ⟨(some 34), .bslice 1 .bool [(.bool false)] [(0, 1, (.t 33))] 1, none, false⟩, ⟨(some 35), .fld 4 1 false (.t 4), none, false⟩, ⟨none, .store 1 (.t 35) (.t 34), none, false⟩])
 (.seq (.seq (.reg [⟨(some 37), .bin .eql .other (.t 20) (.c (.int .u8 6)), none, false⟩, ⟨(some 36), .mov (.t 37), none, false⟩])
 (.cond (.t 36) .skip
 (.reg [⟨(some 38), .bin .eql .other (.t 20) (.c (.int .u8 22)), none, false⟩, ⟨(some 36), .mov (.t 38), none, false⟩])))
 (.cond (.t 36) (.reg [⟨(some 39), .mov (.t 5), none, false⟩, ⟨(some 40), .call 121 [(.t 39)], none, false⟩, ⟨(some 41), .fld 5 1 false (.t 4), none, false⟩, ⟨none, .store 1 (.t 41) (.t 40), none, false⟩])
 (.seq (.reg [⟨(some 43), .bin .eql .other (.t 20) (.c (.int .u8 15)), none, false⟩, ⟨(some 42), .mov (.t 43), none, false⟩])
 (.cond (.t 42) (.seq (.seq (.reg [⟨(some 44), .mov (.t 5), none, false⟩, ⟨(some 45), .len false (.t 44), none, false⟩, ⟨(some 46), .bin .lss .other (.t 45) (.c (.int .i64 3)), none, false⟩])
 (.cond (.t 46) (.seq (.reg [⟨(some 47), .load true 6 (.t 4), none, false⟩, ⟨none, .store 6 (.t 2) (.t 47), none, false⟩, ⟨(some 3), .mov (.c (.bool false)), none, false⟩])
 .ret)
 .skip))
 (.draw [⟨0, ⟨(some 48), .mov (.t 5), none, false⟩, false, [], []⟩, ⟨1, ⟨(some 49), .slice (.sl 1) (.t 48) (some (.c (.int .i64 3))) none, none, false⟩, false, [], []⟩, ⟨2, ⟨(some 50), .mov (.t 5), none, false⟩, false, [], []⟩, ⟨3, ⟨(some 51), .call 151 [(.t 50)], none, false⟩, true, [], []⟩, ⟨4, ⟨(some 52), .conv (.int .i64) (.t 51), none, false⟩, false, [], []⟩, ⟨5, ⟨(some 53), .call 64 [(.t 49), (.t 52)], none, false⟩, true, [], []⟩, ⟨6, ⟨(some 54), .fld 4 1 false (.t 4), none, false⟩, false, [], []⟩, ⟨7, ⟨none, .store 1 (.t 54) (.t 53), none, false⟩, true, [], []⟩]))
 (.seq (.reg [⟨(some 56), .bin .eql .other (.t 20) (.c (.int .u8 16)), none, false⟩, ⟨(some 55), .mov (.t 56), none, false⟩])
 (.cond (.t 55) (.seq (.seq (.reg [⟨(some 57), .mov (.t 5), none, false⟩, ⟨(some 58), .len false (.t 57), none, false⟩, ⟨(some 59), .bin .lss .other (.t 58) (.c (.int .i64 3)), none, false⟩])
 (.cond (.t 59) (.seq (.reg [⟨(some 60), .load true 6 (.t 4), none, false⟩, ⟨none, .store 6 (.t 2) (.t 60), none, false⟩, ⟨(some 3), .mov (.c (.bool false)), none, false⟩])
 .ret)
 .skip))
 (.reg [⟨(some 61), .mov (.t 5), none, false⟩, ⟨(some 62), .slice (.sl 1) (.t 61) (some (.c (.int .i64 3))) none, none, false⟩, ⟨(some 63), .call 121 [(.t 62)], none, false⟩, ⟨(some 64), .fld 5 1 false (.t 4), none, false⟩, ⟨none, .store 1 (.t 64) (.t 63), none, false⟩]))
 (.seq (.reg [⟨(some 66), .bin .eql .other (.t 20) (.c (.int .u8 23)), none, false⟩, ⟨(some 65), .mov (.t 66), none, false⟩])
 (.cond (.t 65) (.seq (.seq (.reg [⟨(some 67), .mov (.t 5), none, false⟩, ⟨(some 68), .len false (.t 67), none, false⟩, ⟨(some 69), .bin .lss .other (.t 68) (.c (.int .i64 7)), none, false⟩])
 (.cond (.t 69) (.seq (.reg [⟨(some 70), .load true 6 (.t 4), none, false⟩, ⟨none, .store 6 (.t 2) (.t 70), none, false⟩, ⟨(some 3), .mov (.c (.bool false)), none, false⟩])
 .ret)
 .skip))
 (.draw [⟨0, ⟨(some 71), .mov (.t 5), none, false⟩, false, [], []⟩, ⟨2, ⟨(some 73), .mov (.t 5), none, false⟩, false, [], []⟩, ⟨3, ⟨(some 74), .slice (.sl 1) (.t 73) (some (.c (.int .i64 2))) none, none, false⟩, false, [], []⟩, ⟨5, ⟨(some 76), .mov (.t 5), none, false⟩, false, [], []⟩, ⟨6, ⟨(some 77), .slice (.sl 1) (.t 76) (some (.c (.int .i64 7))) none, none, false⟩, false, [], []⟩, ⟨1, ⟨(some 72), .call 151 [(.t 71)], none, false⟩, true, [], []⟩, ⟨8, ⟨(some 79), .fld 2 1 false (.t 4), none, false⟩, false, [], []⟩, ⟨4, ⟨(some 75), .call 151 [(.t 74)], none, false⟩, true, [], []⟩, ⟨7, ⟨(some 78), .call 121 [(.t 77)], none, false⟩, true, [], []⟩, ⟨9, ⟨none, .store 1 (.t 79) (.t 72), none, false⟩, true, [], []⟩, ⟨10, ⟨(some 80), .fld 3 1 false (.t 4), none, false⟩, false, [], []⟩, ⟨11, ⟨none, .store 1 (.t 80) (.t 75), none, false⟩, true, [], []⟩, ⟨12, ⟨(some 81), .fld 5 1 false (.t 4), none, false⟩, false, [], []⟩, ⟨13, ⟨none, .store 1 (.t 81) (.t 78), none, false⟩, true, [], []⟩]))
 .skip))))))))))))))
 (.seq (.reg [⟨(some 82), .load true 6 (.t 4), none, false⟩, ⟨none, .store 6 (.t 2) (.t 82), none, false⟩, ⟨(some 3), .mov (.c (.bool true)), none, false⟩])
 .ret))))))
def r114 : List ARes := [.cell 2 true 6, .t 3]
theorem c114 : compF Try.prog Try.f114 = some (a114, r114) := by kernel_rfl

theorem b114 : hasBody Try.prog 114 = true := by kernel_rfl
theorem g114 : Try.prog.funcs[114]? = some Try.f114 := by kernel_rfl

def openedT (f a : Int) (t : List Int) : Rq × Bool :=
  if f == 1 then (⟨f, a, numAt t 0, 0, [], []⟩, true)
  else if f == 2 then (⟨f, a, numAt t 0, 0, [], []⟩, true)
  else if f == 3 then (⟨f, a, numAt t 0, 0, [], []⟩, true)
  else if f == 4 then (⟨f, a, numAt t 0, 0, [], []⟩, true)
  else if f == 5 then (⟨f, a, 0, 0, [numAt t 0 == 65280], []⟩, true)
  else if f == 6 then (⟨f, a, 0, 0, [], numsN t (t.length / 2)⟩, true)
  else if f == 22 then (⟨f, a, 0, 0, [], numsN t (t.length / 2)⟩, true)
  else if f == 15 then (if decide ((t.length : Int) < 3) then (⟨f, a, 0, 0, [], []⟩, false) else (⟨f, a, 0, 0, bitsA (cutF t 3) (bitsK (IntKind.i64.wrap (numAt t 0))), []⟩, true))
  else if f == 16 then (if decide ((t.length : Int) < 3) then (⟨f, a, 0, 0, [], []⟩, false) else (⟨f, a, 0, 0, [], numsN (cutF t 3) ((cutF t 3).length / 2)⟩, true))
  else if f == 23 then (if decide ((t.length : Int) < 7) then (⟨f, a, 0, 0, [], []⟩, false) else (⟨f, a, numAt t 0, numAt (cutF t 2) 0, [], numsN (cutF t 7) ((cutF t 7).length / 2)⟩, true))
  else (⟨f, a, 0, 0, [], []⟩, true)
def openedS (l : List Int) : Rq × Bool := if decide ((l.length : Int) < 5) then (Rq.zero, false) else openedT (l.getD 0 0) (numAt (cutF l 1) 0) (cutF l 3)
theorem leReq {f a n a2 : Int} {B R : AV} {ok ok' : Bool} {q : Rq} (hf : f = q.f) (ha : a = q.a) (hn : n = q.n) (ha2 : a2 = q.a2) (hb : Le B (.roB q.b)) (hr : Le R (.roI .u16 q.r)) (hok : ok = ok') :
    Le (.tup [reqA f a n a2 B R, .bool ok]) (.tup [rqA q, .bool ok']) := by
  subst hf; subst ha; subst hn; subst ha2; subst hok
  exact Le.tup ⟨Le.agg ⟨Le.refl _, Le.refl _, Le.refl _, Le.refl _, hb, hr, trivial⟩, Le.refl _, trivial⟩
set_option maxRecDepth 20000 in
set_option maxHeartbeats 4000000 in
theorem opened_raw (l : List Int) (hl : l.length ≤ 1000) : Tr Try.prog 114 [.roI .u8 l] ⟨0, []⟩ (FrzK (.tup [rqA (openedS l).1, .bool (openedS l).2])) := by
  refine trF g114 b114 c114 ?_
  conv => whnf
  repeat' (first
    | (refine condY (by assumption) ?_; conv => whnf)
    | (refine condN (by assumption) ?_; conv => whnf)
    | (refine condT (by first | assumption | (simp [twos_length, packN_length, two8, cutF]; done) | (simp [twos_length, packN_length, two8, cutF]; omega) | (simp_all; done) | (simp_all; omega)) ?_; conv => whnf)
    | (refine condF (fun h => ?_) (fun h => ?_) <;> conv => whnf)
    | (refine ⟨rfl, ?_⟩; conv => whnf)
    | (refine Ev.call (number_ev _ (by first | (simp [twos_length, packN_length, two8, cutF]; done) | (simp [twos_length, packN_length, two8, cutF]; omega) | omega | (simp_all; omega))) ?_; conv => whnf)
    | (refine Ev.call (numbers_ev _ (by first | (simp [twos_length, packN_length, two8, cutF]; done) | (simp [twos_length, packN_length, two8, cutF]; omega) | omega | (simp_all; omega))) ?_; conv => whnf)
    | (refine Ev.call (bits_ev _ _ (by first | (simp [twos_length, packN_length, two8, cutF]; done) | (simp [twos_length, packN_length, two8, cutF]; omega) | omega | (simp_all; omega))) ?_; conv => whnf)
    )
  all_goals (try simp only [show Int.toNat 0 = 0 from rfl, show Int.toNat 1 = 1 from rfl, show Int.toNat 2 = 2 from rfl, show Int.toNat 3 = 3 from rfl, show Int.toNat 7 = 7 from rfl] at *)
  all_goals (generalize ho : openedS l = o; simp only [openedS, openedT, cutF, *, if_true, if_false, Bool.false_eq_true] at ho; try (first | erw [if_pos h] at ho | erw [if_neg (fun e => Bool.noConfusion (e.symm.trans h))] at ho))
  all_goals subst ho
  all_goals first
    | exact FrzK.le (leReq rfl rfl rfl rfl (by first | exact Le.refl _ | exact Le.nilB) (by first | exact Le.refl _ | exact Le.nilI _) rfl)
    | exact FrzK.step 2 rfl (FrzK.le (leReq rfl rfl rfl rfl (Le.refl _) (Le.nilI _) rfl))
theorem opened_ev (l : List Int) (hl : l.length ≤ 1000) : Ev Try.prog 114 [.roI .u8 l] (.tup [rqA (openedS l).1, .bool (openedS l).2]) := FrzK.ev rfl (opened_raw l hl)
end Go.Proofs.Ytomodeliimnddaa
set_option linter.unusedVariables false
set_option linter.unusedSimpArgs false
namespace Go.Proofs.Ytomodeliimnddaa
open Go.Ab
theorem wrap16_range (n : Int) : 0 ≤ IntKind.u16.wrap n ∧ IntKind.u16.wrap n < 65536 := ⟨Int.emod_nonneg _ (by decide), Int.emod_lt_of_pos _ (by decide)⟩
theorem numAt_range (l : List Int) (i : Nat) : 0 ≤ numAt l i ∧ numAt l i < 65536 := wrap16_range _
theorem bitsK_le (n : Int) : bitsK n ≤ 2000 := by
  unfold bitsK
  split <;> omega
theorem numAt0 (l : List Int) (i : Nat) : 0 ≤ numAt l i := (numAt_range l i).1
theorem numAtL (l : List Int) (i : Nat) : numAt l i < 65536 := (numAt_range l i).2
def InR (q : Rq) : Prop := 0 ≤ q.n ∧ q.n < 65536 ∧ q.b.length ≤ 2500 ∧ q.r.length ≤ 500
theorem openedT_range (f a : Int) (t : List Int) (hl : t.length ≤ 1000) : InR (openedT f a t).1 := by
  have h2 := bitsK_le (IntKind.i64.wrap (numAt t 0))
  unfold openedT
  by_cases h1 : (f == 1) = true
  · rw [if_pos h1]; (simp only [InR, numAt0, numAtL, bitsA_length, numsN_length, cutF_eq, List.length_nil, List.length_cons, List.length_drop, true_and]; try omega)
  rw [if_neg h1]
  by_cases h2 : (f == 2) = true
  · rw [if_pos h2]; (simp only [InR, numAt0, numAtL, bitsA_length, numsN_length, cutF_eq, List.length_nil, List.length_cons, List.length_drop, true_and]; try omega)
  rw [if_neg h2]
  by_cases h3 : (f == 3) = true
  · rw [if_pos h3]; (simp only [InR, numAt0, numAtL, bitsA_length, numsN_length, cutF_eq, List.length_nil, List.length_cons, List.length_drop, true_and]; try omega)
  rw [if_neg h3]
  by_cases h4 : (f == 4) = true
  · rw [if_pos h4]; (simp only [InR, numAt0, numAtL, bitsA_length, numsN_length, cutF_eq, List.length_nil, List.length_cons, List.length_drop, true_and]; try omega)
  rw [if_neg h4]
  by_cases h5 : (f == 5) = true
  · rw [if_pos h5]; (simp only [InR, numAt0, numAtL, bitsA_length, numsN_length, cutF_eq, List.length_nil, List.length_cons, List.length_drop, true_and]; try omega)
  rw [if_neg h5]
  by_cases h6 : (f == 6) = true
  · rw [if_pos h6]; (simp only [InR, numAt0, numAtL, bitsA_length, numsN_length, cutF_eq, List.length_nil, List.length_cons, List.length_drop, true_and]; try omega)
  rw [if_neg h6]
  by_cases h22 : (f == 22) = true
  · rw [if_pos h22]; (simp only [InR, numAt0, numAtL, bitsA_length, numsN_length, cutF_eq, List.length_nil, List.length_cons, List.length_drop, true_and]; try omega)
  rw [if_neg h22]
  by_cases h15 : (f == 15) = true
  · rw [if_pos h15]; by_cases g : decide ((t.length : Int) < 3) = true
    · rw [if_pos g]; (simp only [InR, numAt0, numAtL, bitsA_length, numsN_length, cutF_eq, List.length_nil, List.length_cons, List.length_drop, true_and]; try omega)
    · rw [if_neg g]; (simp only [InR, numAt0, numAtL, bitsA_length, numsN_length, cutF_eq, List.length_nil, List.length_cons, List.length_drop, true_and]; try omega)
  rw [if_neg h15]
  by_cases h16 : (f == 16) = true
  · rw [if_pos h16]; by_cases g : decide ((t.length : Int) < 3) = true
    · rw [if_pos g]; (simp only [InR, numAt0, numAtL, bitsA_length, numsN_length, cutF_eq, List.length_nil, List.length_cons, List.length_drop, true_and]; try omega)
    · rw [if_neg g]; (simp only [InR, numAt0, numAtL, bitsA_length, numsN_length, cutF_eq, List.length_nil, List.length_cons, List.length_drop, true_and]; try omega)
  rw [if_neg h16]
  by_cases h23 : (f == 23) = true
  · rw [if_pos h23]; by_cases g : decide ((t.length : Int) < 7) = true
    · rw [if_pos g]; (simp only [InR, numAt0, numAtL, bitsA_length, numsN_length, cutF_eq, List.length_nil, List.length_cons, List.length_drop, true_and]; try omega)
    · rw [if_neg g]; (simp only [InR, numAt0, numAtL, bitsA_length, numsN_length, cutF_eq, List.length_nil, List.length_cons, List.length_drop, true_and]; try omega)
  rw [if_neg h23]
  (simp only [InR, numAt0, numAtL, bitsA_length, numsN_length, cutF_eq, List.length_nil, List.length_cons, List.length_drop, true_and]; try omega)
theorem opened_range (l : List Int) (hl : l.length ≤ 1000) : 0 ≤ (openedS l).1.n ∧ (openedS l).1.n < 65536 ∧ (openedS l).1.b.length ≤ 2500 ∧ (openedS l).1.r.length ≤ 500 := by
  unfold openedS
  split
  · exact ⟨by decide, by decide, by decide, by decide⟩
  · exact openedT_range _ _ _ (by rw [cutF_eq]; simp; omega)
theorem opened_len (l : List Int) (h : (openedS l).2 = true) : 5 ≤ l.length := by
  unfold openedS at h
  split at h
  · cases h
  · rename_i h1
    simp only [decide_eq_true_eq] at h1
    omega
theorem encR_len (f a n a2 : Int) (b : List Bool) (r : List Int) (hb : b.length ≤ 2500) (hr : r.length ≤ 500) : (encR f a n a2 b r).length ≤ 2000 := by
  unfold encR
  split
  · unfold reqS
    repeat' split
    all_goals (simp [twos_length, packN_length, row15, rowR, pre3, two8]; try omega)
  · simp
theorem equal8_ev (l m : List Int) (hl : l.length ≤ 100000) : Ev Try.prog 115 [.roI .u8 l, .roI .u8 m] (.bool (l == m)) := ⟨rfl, equal8_tr l m hl⟩
theorem equal8_call {h len : Nat} {l m : List Int} {s : St} {K : AV → St → Prop} (hg : s.get h = some (.rowI .u8 l)) (hl : len = l.length) (hb : l.length ≤ 100000)
    (k : K (.bool (l == m)) (s.drop h)) : Tr Try.prog 115 [.sl 1 h 0 len, .roI .u8 m] s K := by
  refine Tr.lend h hg ?_
  have : frzL h (.rowI .u8 l) [.sl 1 h 0 len, .roI .u8 m] = [.roI .u8 l, .roI .u8 m] := by
    simp only [frzL, frz_row h .u8 l len hl]; rfl
  rw [this]
  exact Ev.call (equal8_ev l m hb) k
/- rung/pdu.OpenRequest -/
def a51 : ACode := (.seq (.reg [⟨(some 2), .alloc [(1, (.int .u8 0)), (3, (.int .u16 0)), (2, .nils)], none, false⟩, ⟨(some 3), .mov (.c (.int .i64 0)), none, false⟩])
 (.seq (.reg [⟨(some 11), .mov (.t 0), none, false⟩, ⟨(some 12), .call 114 [(.t 11)], none, false⟩, ⟨(some 10), .mov (.t 12), none, false⟩, ⟨(some 13), .ext (.t 10) 0, none, false⟩, ⟨(some 14), .ext (.t 10) 1, none, false⟩, ⟨(some 4), .alloc [(1, (.int .u8 0)), (3, (.int .u16 0)), (2, .nils)], none, false⟩, ⟨none, .store 6 (.t 4) (.t 13), none, false⟩, ⟨(some 5), .mov (.t 14), none, false⟩])
 (.seq (.seq (.reg [⟨(some 15), .mov (.t 5), none, false⟩, ⟨(some 16), .un .not (.t 15), none, false⟩])
 (.cond (.t 16) (.seq (.reg [⟨(some 17), .build [(.int .u8 0), (.int .u16 0), (.int .u16 0), (.int .u16 0), .nils, .nils] [], none, false⟩, ⟨none, .store 6 (.t 2) (.t 17), none, false⟩, ⟨(some 3), .mov (.c (.int .i64 30)), none, false⟩])
 .ret)
 .skip))
 (.seq (.reg [⟨(some 19), .load true 6 (.t 4), none, false⟩, ⟨(some 20), .call 48 [(.t 19)], none, false⟩, ⟨(some 18), .mov (.t 20), none, false⟩, ⟨(some 21), .ext (.t 18) 0, none, false⟩, ⟨(some 22), .ext (.t 18) 1, none, false⟩, ⟨(some 6), .mov (.t 21), none, false⟩, ⟨(some 7), .mov (.t 22), none, false⟩])
 (.seq (.seq (.reg [⟨(some 23), .fld 0 1 false (.t 4), none, false⟩, ⟨(some 24), .load false 1 (.t 23), none, false⟩, ⟨(some 25), .bin .eql .other (.t 24) (.c (.int .u8 15)), none, false⟩, ⟨(some 26), .mov (.t 25), none, true⟩, ⟨(some 27), .mov (.t 6), (some (26, true)), false⟩, ⟨(some 28), .len false (.t 27), (some (26, true)), false⟩, ⟨(some 29), .mov (.t 0), (some (26, true)), false⟩, ⟨(some 30), .len false (.t 29), (some (26, true)), false⟩, ⟨(some 31), .bin .eql .other (.t 28) (.t 30), (some (26, true)), false⟩, ⟨(some 32), .pick (.t 26) (.t 31) (.c (.bool false)), none, false⟩])
 (.cond (.t 32) (.seq (.reg [⟨(some 33), .mov (.t 0), none, false⟩, ⟨(some 34), .len false (.t 33), none, false⟩, ⟨(some 35), .bin .sub .other (.t 34) (.c (.int .i64 1)), none, false⟩, ⟨(some 8), .mov (.t 35), none, false⟩])
 (.seq (.reg [⟨(some 36), .fld 4 1 false (.t 4), none, false⟩, ⟨(some 37), .load false 1 (.t 36), none, false⟩, ⟨(some 38), .len false (.t 37), none, false⟩, ⟨(some 39), .bin .rem .other (.t 38) (.c (.int .i64 8)), none, false⟩, ⟨(some 40), .conv (.int .u64) (.t 39), none, false⟩, ⟨(some 9), .mov (.t 40), none, false⟩])
 (.seq (.reg [⟨(some 41), .mov (.t 9), none, false⟩, ⟨(some 42), .bin .gtr .other (.t 41) (.c (.int .u64 0)), none, false⟩, ⟨(some 43), .mov (.t 42), none, true⟩, ⟨(some 44), .mov (.t 7), (some (43, true)), false⟩, ⟨(some 45), .bin .eql .other (.t 44) (.c (.int .i64 0)), (some (43, true)), false⟩, ⟨(some 46), .pick (.t 43) (.t 45) (.c (.bool false)), none, false⟩])
 (.cond (.t 46) (.draw [⟨0, ⟨(some 47), .mov (.t 6), none, false⟩, false, [], []⟩, ⟨1, ⟨(some 48), .mov (.t 8), none, false⟩, false, [], []⟩, ⟨2, ⟨(some 49), .idx 1 none false (.t 47) (.t 48), none, false⟩, false, [], []⟩, ⟨3, ⟨(some 50), .load false 1 (.t 49), none, false⟩, false, [], []⟩, ⟨4, ⟨(some 51), .mov (.t 0), none, false⟩, false, [], []⟩, ⟨5, ⟨(some 52), .mov (.t 8), none, false⟩, false, [], []⟩, ⟨6, ⟨(some 53), .idx 1 none false (.t 51) (.t 52), none, false⟩, false, [], []⟩, ⟨7, ⟨(some 54), .load false 1 (.t 53), none, false⟩, false, [], []⟩, ⟨8, ⟨(some 55), .mov (.t 9), none, false⟩, false, [], []⟩, ⟨9, ⟨(some 56), .bin .shr .other (.t 54) (.t 55), none, false⟩, false, [], []⟩, ⟨10, ⟨(some 57), .mov (.t 9), none, false⟩, false, [], []⟩, ⟨11, ⟨(some 58), .bin .shl .other (.t 56) (.t 57), none, false⟩, false, [], []⟩, ⟨12, ⟨(some 59), .bin .or .other (.t 50) (.t 58), none, false⟩, false, [], []⟩, ⟨13, ⟨(some 60), .idx 1 none false (.t 47) (.t 48), none, false⟩, false, [], []⟩, ⟨14, ⟨none, .store 1 (.t 60) (.t 59), none, false⟩, true, [], []⟩])
 .skip))))
 .skip))
 (.seq (.seq (.reg [⟨(some 61), .mov (.t 7), none, false⟩, ⟨(some 62), .bin .neq .other (.t 61) (.c (.int .i64 0)), none, false⟩, ⟨(some 63), .mov (.t 62), none, true⟩, ⟨(some 64), .mov (.t 6), (some (63, false)), false⟩, ⟨(some 65), .mov (.t 0), (some (63, false)), false⟩, ⟨(some 66), .call 115 [(.t 64), (.t 65)], (some (63, false)), false⟩, ⟨(some 67), .un .not (.t 66), (some (63, false)), false⟩, ⟨(some 68), .pick (.t 63) (.c (.bool true)) (.t 67), none, false⟩])
 (.cond (.t 68) (.seq (.reg [⟨(some 69), .build [(.int .u8 0), (.int .u16 0), (.int .u16 0), (.int .u16 0), .nils, .nils] [], none, false⟩, ⟨none, .store 6 (.t 2) (.t 69), none, false⟩, ⟨(some 3), .mov (.c (.int .i64 30)), none, false⟩])
 .ret)
 .skip))
 (.seq (.reg [⟨(some 70), .load true 6 (.t 4), none, false⟩, ⟨none, .store 6 (.t 2) (.t 70), none, false⟩, ⟨(some 3), .mov (.c (.int .i64 0)), none, false⟩])
 .ret)))))))
def r51 : List ARes := [.cell 2 true 6, .t 3]
theorem c51 : compF Try.prog Try.f51 = some (a51, r51) := by kernel_rfl

theorem b51 : hasBody Try.prog 51 = true := by kernel_rfl
theorem g51 : Try.prog.funcs[51]? = some Try.f51 := by kernel_rfl

def lastB (a b : Int) (n : Nat) : Int := IntKind.u8.wrap (BitVec.ofInt 8 a ||| BitVec.ofInt 8 (IntKind.u8.wrap (b.fdiv (2 ^ min (n % 8) 8) * 2 ^ min (n % 8) 8))).toNat
def againS (q : Rq) (l row : List Int) (e : Int) : List Int :=
  if q.f == 15 && (row.length : Int) == l.length && decide (((q.b.length % 8 : Nat) : Int) > 0) && e == 0 then row.set (l.length - 1) (lastB (row.getD (l.length - 1) 0) (l.getD (l.length - 1) 0) q.b.length) else row
def decS (l : List Int) : Rq × Int :=
  if (openedS l).2 then
    (if encE (openedS l).1.f (openedS l).1.n (openedS l).1.a2 (openedS l).1.b (openedS l).1.r == 0 && againS (openedS l).1 l (encR (openedS l).1.f (openedS l).1.a (openedS l).1.n (openedS l).1.a2 (openedS l).1.b (openedS l).1.r) (encE (openedS l).1.f (openedS l).1.n (openedS l).1.a2 (openedS l).1.b (openedS l).1.r) == l then ((openedS l).1, 0) else (Rq.zero, 30))
  else (Rq.zero, 30)
theorem leReqE {f a n a2 : Int} {B R : AV} {e e' : Int} {q : Rq} (hf : f = q.f) (ha : a = q.a) (hn : n = q.n) (ha2 : a2 = q.a2) (hb : Le B (.roB q.b)) (hr : Le R (.roI .u16 q.r)) (he : e = e') :
    Le (.tup [reqA f a n a2 B R, .int .i64 e]) (.tup [rqA q, .int .i64 e']) := by
  subst hf; subst ha; subst hn; subst ha2; subst he
  exact Le.tup ⟨Le.agg ⟨Le.refl _, Le.refl _, Le.refl _, Le.refl _, hb, hr, trivial⟩, Le.refl _, trivial⟩
set_option maxRecDepth 20000 in
set_option maxHeartbeats 4000000 in
theorem OpenRequest_raw (l : List Int) (hl : l.length ≤ 1000) : Tr Try.prog 51 [.roI .u8 l] ⟨0, []⟩ (FrzK (.tup [rqA (decS l).1, .int .i64 (decS l).2])) := by
  obtain ⟨hn0, hn1, hb, hr⟩ := opened_range l hl
  have hO := opened_ev l hl
  have h5 := opened_len l
  have hrow := encR_len (openedS l).1.f (openedS l).1.a (openedS l).1.n (openedS l).1.a2 (openedS l).1.b (openedS l).1.r hb hr
  unfold decS
  generalize openedS l = o at *
  obtain ⟨q, ok⟩ := o
  have hR := Request_tr q.f q.a q.n q.a2 q.b q.r hn0 hn1 hb hr
  simp only at *
  generalize encR q.f q.a q.n q.a2 q.b q.r = row at *
  generalize encE q.f q.n q.a2 q.b q.r = e at *
  cases ok
  · simp only [Bool.false_eq_true, if_false]
    refine trF g51 b51 c51 ?_
    conv => whnf
    refine Ev.call hO ?_
    conv => whnf
    exact FrzK.le (leReqE rfl rfl rfl rfl Le.nilB (Le.nilI _) rfl)
  · simp only [if_true]
    have h5 : 5 ≤ l.length := h5 rfl
    have hl1 : IntKind.i64.wrap ((l.length : Int) - 1) = ((l.length - 1 : Nat) : Int) := by rw [IntWalk.i64_in _ (by omega)]; omega
    have hm : IntKind.u64.wrap ((q.b.length : Int).tmod 8) = ((q.b.length % 8 : Nat) : Int) := by
      rw [r64']
      exact Int.emod_eq_of_lt (by omega) (by show ((q.b.length % 8 : Nat) : Int) < 18446744073709551616; omega)
    refine trF g51 b51 c51 ?_
    conv => whnf
    refine Ev.call hO ?_
    conv => whnf
    refine Ret1.call hR rfl rfl ?_
    conv => whnf
    repeat' (first
      | (refine condY (by assumption) ?_; conv => whnf)
      | (refine condN (by assumption) ?_; conv => whnf)
      | (refine condT (by simp only [hl1]; simp_all; omega) ?_; conv => whnf)
      | (refine condT (by simp only [hl1, Chunk.ld]; simp_all; omega) ?_; conv => whnf)
      | (refine condT (by show decide (0 + (IntKind.i64.wrap ((l.length : Int) - 1)).toNat * 1 + 1 ≤ row.length) = true; simp only [hl1]; simp_all; omega) ?_; conv => whnf)
      | (refine condF (fun h => ?_) (fun h => ?_) <;> conv => whnf)
      | (refine ⟨rfl, ?_⟩; conv => whnf)
      | (refine equal8_call rfl (by first | rfl | simp) (by first | omega | (simp; omega)) ?_; conv => whnf)
      )
    all_goals (simp only [hl1, hm, Int.toNat_natCast, Nat.zero_add, Nat.mul_one] at *)
    all_goals first
      | (have h8 : againS q l row e = row := by
           unfold againS
           rw [show decide (((q.b.length % 8 : Nat) : Int) > 0) = false from h]
           simp
         have hk : (e == 0 && againS q l row e == l) = true := by rw [h8]; simp_all
         simp only [hk, if_true]
         exact FrzK.le (leReqE rfl rfl rfl rfl (Le.refl _) (Le.refl _) rfl))
      | (have h8 : againS q l row e = row := by
           unfold againS
           rw [show decide (((q.b.length % 8 : Nat) : Int) > 0) = false from h]
           simp
         have hk : (e == 0 && againS q l row e == l) = false := by rw [h8]; simp_all
         simp only [hk, Bool.false_eq_true, if_false]
         exact FrzK.le (leReqE rfl rfl rfl rfl Le.nilB (Le.nilI _) rfl))
      | (have h8 : againS q l row e = row.set (l.length - 1) (lastB (row.getD (l.length - 1) 0) (l.getD (l.length - 1) 0) q.b.length) := by
           unfold againS
           rw [show (q.f == 15) = true by assumption, show ((row.length : Int) == l.length) = true by assumption, show decide (((q.b.length % 8 : Nat) : Int) > 0) = true by assumption, show (e == 0) = true by assumption]
           rfl
         have h' : (!(row.set (l.length - 1) (lastB (row.getD (l.length - 1) 0) (l.getD (l.length - 1) 0) q.b.length) == l)) = false := h
         have hk : (e == 0 && againS q l row e == l) = true := by
           rw [h8, show (e == 0) = true by assumption, Bool.true_and]
           simpa using h'
         simp only [hk, if_true]
         exact FrzK.le (leReqE rfl rfl rfl rfl (Le.refl _) (Le.refl _) rfl))
      | (have h8 : againS q l row e = row.set (l.length - 1) (lastB (row.getD (l.length - 1) 0) (l.getD (l.length - 1) 0) q.b.length) := by
           unfold againS
           rw [show (q.f == 15) = true by assumption, show ((row.length : Int) == l.length) = true by assumption, show decide (((q.b.length % 8 : Nat) : Int) > 0) = true by assumption, show (e == 0) = true by assumption]
           rfl
         have h' : (!(row.set (l.length - 1) (lastB (row.getD (l.length - 1) 0) (l.getD (l.length - 1) 0) q.b.length) == l)) = true := h
         have hk : (e == 0 && againS q l row e == l) = false := by
           rw [h8, show (e == 0) = true by assumption, Bool.true_and]
           simpa using h'
         simp only [hk, Bool.false_eq_true, if_false]
         exact FrzK.le (leReqE rfl rfl rfl rfl Le.nilB (Le.nilI _) rfl))
      | (have hk : (e == 0 && againS q l row e == l) = false := by first | (simp_all [againS]; done) | (simp_all [againS, lastB]; done)
         simp only [hk, Bool.false_eq_true, if_false]
         exact FrzK.le (leReqE rfl rfl rfl rfl Le.nilB (Le.nilI _) rfl))
      | (have hk : (e == 0 && againS q l row e == l) = true := by first | (simp_all [againS]; done) | (simp_all [againS, lastB]; done)
         simp only [hk, if_true]
         exact FrzK.le (leReqE rfl rfl rfl rfl (Le.refl _) (Le.refl _) rfl))
theorem OpenRequest_ev (l : List Int) (hl : l.length ≤ 1000) : Ev Try.prog 51 [.roI .u8 l] (.tup [rqA (decS l).1, .int .i64 (decS l).2]) := FrzK.ev rfl (OpenRequest_raw l hl)
end Go.Proofs.Ytomodeliimnddaa
set_option linter.unusedVariables false
set_option linter.unusedSimpArgs false
namespace Go.Proofs.Ytomodeliimnddaa
open Go.Ab
/- rung/pdu.reply -/
def a118 : ACode := (.seq (.reg [⟨(some 1), .box (.t 0), none, false⟩, ⟨(some 2), .mov (.c .nils), none, false⟩, ⟨(some 3), .alloc [(2, (.int .u8 0)), (2, (.int .u16 0)), (2, .nils)], none, false⟩, ⟨(some 4), .mov (.c (.bool false)), none, false⟩])
 (.seq (.reg [⟨(some 8), .fld 0 1 false (.t 1), none, false⟩, ⟨(some 9), .load false 1 (.t 8), none, false⟩, ⟨(some 10), .build [(.int .u8 0), (.int .u8 0), (.int .u16 0), (.int .u16 0), .nils, .nils] [(0, 1, (.t 9))], none, false⟩, ⟨(some 5), .alloc [(2, (.int .u8 0)), (2, (.int .u16 0)), (2, .nils)], none, false⟩, ⟨none, .store 6 (.t 5) (.t 10), none, false⟩])
 (.seq (.seq (.reg [⟨(some 11), .fld 1 1 false (.t 1), none, false⟩, ⟨(some 12), .load false 1 (.t 11), none, false⟩, ⟨(some 13), .bin .neq .other (.t 12) (.c (.int .u8 0)), none, false⟩])
 (.cond (.t 13) (.seq (.reg [⟨(some 14), .fld 1 1 false (.t 1), none, false⟩, ⟨(some 15), .load false 1 (.t 14), none, false⟩, ⟨(some 16), .fld 1 1 false (.t 5), none, false⟩, ⟨none, .store 1 (.t 16) (.t 15), none, false⟩])
 (.seq (.draw [⟨0, ⟨(some 17), .fld 0 1 false (.t 1), none, false⟩, false, [], []⟩, ⟨1, ⟨(some 18), .load false 1 (.t 17), none, false⟩, false, [], []⟩, ⟨2, ⟨(some 19), .bin .or .other (.t 18) (.c (.int .u8 128)), none, false⟩, false, [], []⟩, ⟨3, ⟨(some 20), .fld 1 1 false (.t 1), none, false⟩, false, [], []⟩, ⟨4, ⟨(some 21), .load false 1 (.t 20), none, false⟩, false, [], []⟩, ⟨5, ⟨(some 22), .bslice 1 (.int .u8) [(.int .u8 0), (.int .u8 0)] [(0, 1, (.t 19)), (1, 1, (.t 21))] 2, none, false⟩, false, [], []⟩, ⟨6, ⟨(some 23), .load true 6 (.t 5), none, false⟩, false, [], []⟩, ⟨7, ⟨(some 24), .fld 0 1 false (.t 1), none, false⟩, false, [], []⟩, ⟨8, ⟨(some 25), .load false 1 (.t 24), none, false⟩, false, [], []⟩, ⟨9, ⟨(some 26), .bin .lss .other (.t 25) (.c (.int .u8 128)), none, false⟩, false, [], []⟩, ⟨10, ⟨(some 2), .mov (.t 22), none, false⟩, false, [], []⟩, ⟨11, ⟨none, .store 6 (.t 3) (.t 23), none, false⟩, true, [5], [(.t 24)]⟩, ⟨12, ⟨(some 4), .mov (.t 26), none, false⟩, false, [], []⟩])
 .ret))
 .skip))
 (.seq (.reg [⟨(some 27), .fld 0 1 false (.t 1), none, false⟩, ⟨(some 28), .load false 1 (.t 27), none, false⟩, ⟨(some 29), .bslice 1 (.int .u8) [(.int .u8 0)] [(0, 1, (.t 28))] 1, none, false⟩, ⟨(some 6), .mov (.t 29), none, false⟩])
 (.seq (.seq (.reg [⟨(some 30), .fld 0 1 false (.t 1), none, false⟩, ⟨(some 31), .load false 1 (.t 30), none, false⟩])
 (.block 0 (.seq (.seq (.reg [⟨(some 33), .bin .eql .other (.t 31) (.c (.int .u8 1)), none, false⟩, ⟨(some 32), .mov (.t 33), none, false⟩])
 (.cond (.t 32) .skip
 (.reg [⟨(some 34), .bin .eql .other (.t 31) (.c (.int .u8 2)), none, false⟩, ⟨(some 32), .mov (.t 34), none, false⟩])))
 (.cond (.t 32) (.seq (.reg [⟨(some 35), .fld 4 1 false (.t 1), none, false⟩, ⟨(some 36), .load false 1 (.t 35), none, false⟩, ⟨(some 37), .fld 4 1 false (.t 5), none, false⟩, ⟨none, .store 1 (.t 37) (.t 36), none, false⟩])
 (.seq (.reg [⟨(some 38), .fld 4 1 false (.t 1), none, false⟩, ⟨(some 39), .load false 1 (.t 38), none, false⟩, ⟨(some 40), .call 61 [(.t 39)], none, false⟩, ⟨(some 7), .mov (.t 40), none, false⟩])
 (.seq (.draw [⟨0, ⟨(some 41), .mov (.t 6), none, false⟩, false, [], []⟩, ⟨1, ⟨(some 42), .mov (.t 7), none, false⟩, false, [], []⟩, ⟨2, ⟨(some 43), .len false (.t 42), none, false⟩, false, [], []⟩, ⟨3, ⟨(some 44), .conv (.int .u8) (.t 43), none, false⟩, false, [], []⟩, ⟨4, ⟨(some 45), .bslice 1 (.int .u8) [(.int .u8 0)] [(0, 1, (.t 44))] 1, none, false⟩, false, [], []⟩, ⟨6, ⟨(some 47), .mov (.t 7), none, false⟩, false, [], []⟩, ⟨8, ⟨(some 49), .load true 6 (.t 5), none, false⟩, false, [], []⟩, ⟨9, ⟨(some 50), .fld 4 1 false (.t 1), none, false⟩, false, [], []⟩, ⟨10, ⟨(some 51), .load false 1 (.t 50), none, false⟩, false, [], []⟩, ⟨11, ⟨(some 52), .len false (.t 51), none, false⟩, false, [], []⟩, ⟨5, ⟨(some 46), .app 1 1 (.t 41) (.t 45), none, false⟩, true, [4], [(.t 5), (.t 50)]⟩, ⟨7, ⟨(some 48), .app 1 1 (.t 46) (.t 47), none, false⟩, true, [4], [(.t 5), (.t 50)]⟩, ⟨12, ⟨(some 53), .call 150 [(.t 52), (.c (.int .i64 2000))], none, false⟩, true, [4], [(.t 5)]⟩, ⟨13, ⟨(some 2), .mov (.t 48), none, false⟩, false, [], []⟩, ⟨14, ⟨none, .store 6 (.t 3) (.t 49), none, false⟩, true, [4], []⟩, ⟨15, ⟨(some 4), .mov (.t 53), none, false⟩, false, [], []⟩])
 .ret)))
 (.seq (.seq (.reg [⟨(some 55), .bin .eql .other (.t 31) (.c (.int .u8 3)), none, false⟩, ⟨(some 54), .mov (.t 55), none, false⟩])
 (.cond (.t 54) .skip
 (.seq (.reg [⟨(some 56), .bin .eql .other (.t 31) (.c (.int .u8 4)), none, false⟩, ⟨(some 54), .mov (.t 56), none, false⟩])
 (.cond (.t 54) .skip
 (.reg [⟨(some 57), .bin .eql .other (.t 31) (.c (.int .u8 23)), none, false⟩, ⟨(some 54), .mov (.t 57), none, false⟩])))))
 (.cond (.t 54) (.seq (.reg [⟨(some 58), .fld 5 1 false (.t 1), none, false⟩, ⟨(some 59), .load false 1 (.t 58), none, false⟩, ⟨(some 60), .fld 5 1 false (.t 5), none, false⟩, ⟨none, .store 1 (.t 60) (.t 59), none, false⟩])
 (.seq (.draw [⟨0, ⟨(some 61), .mov (.t 6), none, false⟩, false, [], []⟩, ⟨1, ⟨(some 62), .fld 5 1 false (.t 1), none, false⟩, false, [], []⟩, ⟨2, ⟨(some 63), .load false 1 (.t 62), none, false⟩, false, [], []⟩, ⟨3, ⟨(some 64), .len false (.t 63), none, false⟩, false, [], []⟩, ⟨4, ⟨(some 65), .bin .mul .other (.c (.int .i64 2)) (.t 64), none, false⟩, false, [], []⟩, ⟨5, ⟨(some 66), .conv (.int .u8) (.t 65), none, false⟩, false, [], []⟩, ⟨6, ⟨(some 67), .bslice 1 (.int .u8) [(.int .u8 0)] [(0, 1, (.t 66))] 1, none, false⟩, false, [], []⟩, ⟨8, ⟨(some 69), .fld 5 1 false (.t 1), none, false⟩, false, [], []⟩, ⟨9, ⟨(some 70), .load false 1 (.t 69), none, false⟩, false, [], []⟩, ⟨11, ⟨(some 72), .load true 6 (.t 5), none, false⟩, false, [], []⟩, ⟨12, ⟨(some 73), .fld 5 1 false (.t 1), none, false⟩, false, [], []⟩, ⟨13, ⟨(some 74), .load false 1 (.t 73), none, false⟩, false, [], []⟩, ⟨14, ⟨(some 75), .len false (.t 74), none, false⟩, false, [], []⟩, ⟨7, ⟨(some 68), .app 1 1 (.t 61) (.t 67), none, false⟩, true, [6], [(.t 69), (.t 5), (.t 73)]⟩, ⟨10, ⟨(some 71), .call 149 [(.t 68), (.t 70)], none, false⟩, true, [6], [(.t 5), (.t 73)]⟩, ⟨15, ⟨(some 76), .call 150 [(.t 75), (.c (.int .i64 125))], none, false⟩, true, [6], [(.t 5)]⟩, ⟨16, ⟨(some 2), .mov (.t 71), none, false⟩, false, [], []⟩, ⟨17, ⟨none, .store 6 (.t 3) (.t 72), none, false⟩, true, [6], []⟩, ⟨18, ⟨(some 4), .mov (.t 76), none, false⟩, false, [], []⟩])
 .ret))
 .skip))))))
 (.seq (.reg [⟨(some 77), .fld 2 1 false (.t 1), none, false⟩, ⟨(some 78), .load false 1 (.t 77), none, false⟩, ⟨(some 79), .fld 2 1 false (.t 5), none, false⟩, ⟨none, .store 1 (.t 79) (.t 78), none, false⟩])
 (.seq (.reg [⟨(some 80), .mov (.t 6), none, false⟩, ⟨(some 81), .fld 2 1 false (.t 1), none, false⟩, ⟨(some 82), .load false 1 (.t 81), none, false⟩, ⟨(some 83), .call 146 [(.t 80), (.t 82)], none, false⟩, ⟨(some 6), .mov (.t 83), none, false⟩])
 (.seq (.seq (.reg [⟨(some 84), .fld 0 1 false (.t 1), none, false⟩, ⟨(some 85), .load false 1 (.t 84), none, false⟩])
 (.block 1 (.seq (.reg [⟨(some 87), .bin .eql .other (.t 85) (.c (.int .u8 5)), none, false⟩, ⟨(some 86), .mov (.t 87), none, false⟩])
 (.cond (.t 86) (.seq (.reg [⟨(some 88), .fld 4 1 false (.t 1), none, false⟩, ⟨(some 89), .load false 1 (.t 88), none, false⟩, ⟨(some 90), .fld 4 1 false (.t 5), none, false⟩, ⟨none, .store 1 (.t 90) (.t 89), none, false⟩])
 (.seq (.draw [⟨0, ⟨(some 91), .mov (.t 6), none, false⟩, false, [], []⟩, ⟨1, ⟨(some 92), .fld 4 1 false (.t 1), none, false⟩, false, [], []⟩, ⟨2, ⟨(some 93), .load false 1 (.t 92), none, false⟩, false, [], []⟩, ⟨3, ⟨(some 94), .len false (.t 93), none, false⟩, false, [], []⟩, ⟨4, ⟨(some 95), .bin .eql .other (.t 94) (.c (.int .i64 1)), none, false⟩, false, [], []⟩, ⟨5, ⟨(some 96), .mov (.t 95), none, true⟩, false, [], []⟩, ⟨6, ⟨(some 97), .fld 4 1 false (.t 1), (some (96, true)), false⟩, false, [], []⟩, ⟨7, ⟨(some 98), .load false 1 (.t 97), (some (96, true)), false⟩, false, [], []⟩, ⟨8, ⟨(some 99), .idx 1 none false (.t 98) (.c (.int .i64 0)), (some (96, true)), false⟩, false, [], []⟩, ⟨9, ⟨(some 100), .load false 1 (.t 99), (some (96, true)), false⟩, false, [], []⟩, ⟨10, ⟨(some 101), .pick (.t 96) (.t 100) (.c (.bool false)), none, false⟩, false, [], []⟩, ⟨12, ⟨(some 103), .load true 6 (.t 5), none, false⟩, false, [], []⟩, ⟨13, ⟨(some 104), .fld 4 1 false (.t 1), none, false⟩, false, [], []⟩, ⟨14, ⟨(some 105), .load false 1 (.t 104), none, false⟩, false, [], []⟩, ⟨15, ⟨(some 106), .len false (.t 105), none, false⟩, false, [], []⟩, ⟨16, ⟨(some 107), .bin .eql .other (.t 106) (.c (.int .i64 1)), none, false⟩, false, [], []⟩, ⟨11, ⟨(some 102), .call 148 [(.t 91), (.t 101)], none, false⟩, true, [], [(.t 5), (.t 104)]⟩, ⟨17, ⟨(some 2), .mov (.t 102), none, false⟩, false, [], []⟩, ⟨18, ⟨none, .store 6 (.t 3) (.t 103), none, false⟩, true, [], [(.t 104)]⟩, ⟨19, ⟨(some 4), .mov (.t 107), none, false⟩, false, [], []⟩])
 .ret))
 (.seq (.reg [⟨(some 109), .bin .eql .other (.t 85) (.c (.int .u8 6)), none, false⟩, ⟨(some 108), .mov (.t 109), none, false⟩])
 (.cond (.t 108) (.seq (.reg [⟨(some 110), .fld 5 1 false (.t 1), none, false⟩, ⟨(some 111), .load false 1 (.t 110), none, false⟩, ⟨(some 112), .fld 5 1 false (.t 5), none, false⟩, ⟨none, .store 1 (.t 112) (.t 111), none, false⟩])
 (.seq (.draw [⟨0, ⟨(some 113), .mov (.t 6), none, false⟩, false, [], []⟩, ⟨1, ⟨(some 114), .fld 5 1 false (.t 1), none, false⟩, false, [], []⟩, ⟨2, ⟨(some 115), .load false 1 (.t 114), none, false⟩, false, [], []⟩, ⟨4, ⟨(some 117), .load true 6 (.t 5), none, false⟩, false, [], []⟩, ⟨5, ⟨(some 118), .fld 5 1 false (.t 1), none, false⟩, false, [], []⟩, ⟨6, ⟨(some 119), .load false 1 (.t 118), none, false⟩, false, [], []⟩, ⟨7, ⟨(some 120), .len false (.t 119), none, false⟩, false, [], []⟩, ⟨8, ⟨(some 121), .bin .eql .other (.t 120) (.c (.int .i64 1)), none, false⟩, false, [], []⟩, ⟨3, ⟨(some 116), .call 149 [(.t 113), (.t 115)], none, false⟩, true, [], [(.t 5), (.t 118)]⟩, ⟨9, ⟨(some 2), .mov (.t 116), none, false⟩, false, [], []⟩, ⟨10, ⟨none, .store 6 (.t 3) (.t 117), none, false⟩, true, [], [(.t 118)]⟩, ⟨11, ⟨(some 4), .mov (.t 121), none, false⟩, false, [], []⟩])
 .ret))
 (.seq (.reg [⟨(some 123), .bin .eql .other (.t 85) (.c (.int .u8 15)), none, false⟩, ⟨(some 122), .mov (.t 123), none, false⟩])
 (.cond (.t 122) (.seq (.reg [⟨(some 124), .fld 3 1 false (.t 1), none, false⟩, ⟨(some 125), .load false 1 (.t 124), none, false⟩, ⟨(some 126), .fld 3 1 false (.t 5), none, false⟩, ⟨none, .store 1 (.t 126) (.t 125), none, false⟩])
 (.seq (.draw [⟨0, ⟨(some 127), .mov (.t 6), none, false⟩, false, [], []⟩, ⟨1, ⟨(some 128), .fld 3 1 false (.t 1), none, false⟩, false, [], []⟩, ⟨2, ⟨(some 129), .load false 1 (.t 128), none, false⟩, false, [], []⟩, ⟨4, ⟨(some 131), .load true 6 (.t 5), none, false⟩, false, [], []⟩, ⟨5, ⟨(some 132), .fld 3 1 false (.t 1), none, false⟩, false, [], []⟩, ⟨6, ⟨(some 133), .load false 1 (.t 132), none, false⟩, false, [], []⟩, ⟨7, ⟨(some 134), .conv (.int .i64) (.t 133), none, false⟩, false, [], []⟩, ⟨3, ⟨(some 130), .call 146 [(.t 127), (.t 129)], none, false⟩, true, [], [(.t 5), (.t 132)]⟩, ⟨8, ⟨(some 135), .call 150 [(.t 134), (.c (.int .i64 1968))], none, false⟩, true, [], [(.t 5)]⟩, ⟨9, ⟨(some 2), .mov (.t 130), none, false⟩, false, [], []⟩, ⟨10, ⟨none, .store 6 (.t 3) (.t 131), none, false⟩, true, [], []⟩, ⟨11, ⟨(some 4), .mov (.t 135), none, false⟩, false, [], []⟩])
 .ret))
 (.seq (.reg [⟨(some 137), .bin .eql .other (.t 85) (.c (.int .u8 16)), none, false⟩, ⟨(some 136), .mov (.t 137), none, false⟩])
 (.cond (.t 136) (.seq (.reg [⟨(some 138), .fld 3 1 false (.t 1), none, false⟩, ⟨(some 139), .load false 1 (.t 138), none, false⟩, ⟨(some 140), .fld 3 1 false (.t 5), none, false⟩, ⟨none, .store 1 (.t 140) (.t 139), none, false⟩])
 (.seq (.draw [⟨0, ⟨(some 141), .mov (.t 6), none, false⟩, false, [], []⟩, ⟨1, ⟨(some 142), .fld 3 1 false (.t 1), none, false⟩, false, [], []⟩, ⟨2, ⟨(some 143), .load false 1 (.t 142), none, false⟩, false, [], []⟩, ⟨4, ⟨(some 145), .load true 6 (.t 5), none, false⟩, false, [], []⟩, ⟨5, ⟨(some 146), .fld 3 1 false (.t 1), none, false⟩, false, [], []⟩, ⟨6, ⟨(some 147), .load false 1 (.t 146), none, false⟩, false, [], []⟩, ⟨7, ⟨(some 148), .conv (.int .i64) (.t 147), none, false⟩, false, [], []⟩, ⟨3, ⟨(some 144), .call 146 [(.t 141), (.t 143)], none, false⟩, true, [], [(.t 5), (.t 146)]⟩, ⟨8, ⟨(some 149), .call 150 [(.t 148), (.c (.int .i64 123))], none, false⟩, true, [], [(.t 5)]⟩, ⟨9, ⟨(some 2), .mov (.t 144), none, false⟩, false, [], []⟩, ⟨10, ⟨none, .store 6 (.t 3) (.t 145), none, false⟩, true, [], []⟩, ⟨11, ⟨(some 4), .mov (.t 149), none, false⟩, false, [], []⟩])
 .ret))
 (.seq (.reg [⟨(some 151), .bin .eql .other (.t 85) (.c (.int .u8 22)), none, false⟩, ⟨(some 150), .mov (.t 151), none, false⟩])
 (.cond (.t 150) (.seq (.reg [⟨(some 152), .fld 5 1 false (.t 1), none, false⟩, ⟨(some 153), .load false 1 (.t 152), none, false⟩, ⟨(some 154), .fld 5 1 false (.t 5), none, false⟩, ⟨none, .store 1 (.t 154) (.t 153), none, false⟩])
 (.seq (.draw [⟨0, ⟨(some 155), .mov (.t 6), none, false⟩, false, [], []⟩, ⟨1, ⟨(some 156), .fld 5 1 false (.t 1), none, false⟩, false, [], []⟩, ⟨2, ⟨(some 157), .load false 1 (.t 156), none, false⟩, false, [], []⟩, ⟨4, ⟨(some 159), .load true 6 (.t 5), none, false⟩, false, [], []⟩, ⟨5, ⟨(some 160), .fld 5 1 false (.t 1), none, false⟩, false, [], []⟩, ⟨6, ⟨(some 161), .load false 1 (.t 160), none, false⟩, false, [], []⟩, ⟨7, ⟨(some 162), .len false (.t 161), none, false⟩, false, [], []⟩, ⟨8, ⟨(some 163), .bin .eql .other (.t 162) (.c (.int .i64 2)), none, false⟩, false, [], []⟩, ⟨3, ⟨(some 158), .call 149 [(.t 155), (.t 157)], none, false⟩, true, [], [(.t 5), (.t 160)]⟩, ⟨9, ⟨(some 2), .mov (.t 158), none, false⟩, false, [], []⟩, ⟨10, ⟨none, .store 6 (.t 3) (.t 159), none, false⟩, true, [], [(.t 160)]⟩, ⟨11, ⟨(some 4), .mov (.t 163), none, false⟩, false, [], []⟩])
 .ret))
 .skip))))))))))))
 (.seq (.draw [⟨0, ⟨(some 164), .load true 6 (.t 5), none, false⟩, false, [], []⟩, ⟨1, ⟨(some 2), .mov (.c .nils), none, false⟩, false, [], []⟩, ⟨2, ⟨none, .store 6 (.t 3) (.t 164), none, false⟩, true, [], []⟩, ⟨3, ⟨(some 4), .mov (.c (.bool false)), none, false⟩, false, [], []⟩])
 .ret)))))))))
def r118 : List ARes := [.t 2, .cell 3 true 6, .t 4]
theorem c118 : compF Try.prog Try.f118 = some (a118, r118) := by kernel_rfl

theorem b118 : hasBody Try.prog 118 = true := by kernel_rfl
theorem g118 : Try.prog.funcs[118]? = some Try.f118 := by kernel_rfl

def or128 (f : Int) : Int := IntKind.u8.wrap (BitVec.ofInt 8 f ||| BitVec.ofInt 8 128).toNat
structure RepS where
  row : List Int
  x : Int
  a : Int
  n : Int
  b : List Bool
  r : List Int
  ok : Bool
def repS (f x a n : Int) (b : List Bool) (r : List Int) : RepS :=
  if x != 0 then ⟨[or128 f, x], x, 0, 0, [], [], decide (f < 128)⟩
  else if f == 1 then ⟨[f] ++ [IntKind.u8.wrap ((b.length + 7) / 8 : Nat)] ++ packN b b.length, 0, 0, 0, b, [], withinB b.length 2000⟩
  else if f == 2 then ⟨[f] ++ [IntKind.u8.wrap ((b.length + 7) / 8 : Nat)] ++ packN b b.length, 0, 0, 0, b, [], withinB b.length 2000⟩
  else if f == 3 then ⟨[f] ++ [IntKind.u8.wrap (IntKind.i64.wrap (2 * r.length))] ++ twos r, 0, 0, 0, [], r, withinB r.length 125⟩
  else if f == 4 then ⟨[f] ++ [IntKind.u8.wrap (IntKind.i64.wrap (2 * r.length))] ++ twos r, 0, 0, 0, [], r, withinB r.length 125⟩
  else if f == 23 then ⟨[f] ++ [IntKind.u8.wrap (IntKind.i64.wrap (2 * r.length))] ++ twos r, 0, 0, 0, [], r, withinB r.length 125⟩
  else if f == 5 then ⟨[f] ++ two8 a ++ two8 (coilN ((b.length : Int) == 1 && b.getD 0 false)), 0, a, 0, b, [], (b.length : Int) == 1⟩
  else if f == 6 then ⟨[f] ++ two8 a ++ twos r, 0, a, 0, [], r, (r.length : Int) == 1⟩
  else if f == 15 then ⟨[f] ++ two8 a ++ two8 n, 0, a, n, [], [], withinB n 1968⟩
  else if f == 16 then ⟨[f] ++ two8 a ++ two8 n, 0, a, n, [], [], withinB n 123⟩
  else if f == 22 then ⟨[f] ++ two8 a ++ twos r, 0, a, 0, [], r, (r.length : Int) == 2⟩
  else ⟨[], 0, a, 0, [], [], false⟩
def repR (f : Int) (q : RepS) : List AV := [repA f q.x q.a q.n (.roB q.b) (.roI .u16 q.r), .bool q.ok]
theorem RawK.rep {f x a n : Int} {q : RepS} {B R : AV} {s : St} {h len : Nat} {ok : Bool} {l : List Int} (hg : s.get h = some (.rowI .u8 l)) (he : l = q.row) (hl : len = l.length) (hx : x = q.x) (ha : a = q.a) (hn : n = q.n) (hb : Le B (.roB q.b)) (hr : Le R (.roI .u16 q.r)) (hok : ok = q.ok) :
    RawK q.row (repR f q) (.tup [.sl 1 h 0 len, repA f x a n B R, .bool ok]) s := by
  subst hl; subst he; subst hn; subst ha; subst hok; subst hx
  unfold RawK
  refine ⟨_, ?_, .inl ⟨h, rfl, hg⟩⟩
  exact Le.tup ⟨Le.refl _, Le.agg ⟨Le.refl _, Le.refl _, Le.refl _, Le.refl _, hb, hr, trivial⟩, Le.refl _, trivial⟩
theorem RawK.rep0 {f x a n : Int} {q : RepS} {B R : AV} {s : St} {ok : Bool} (hg : q.row = []) (hx : x = q.x) (ha : a = q.a) (hn : n = q.n) (hb : Le B (.roB q.b)) (hr : Le R (.roI .u16 q.r)) (hok : ok = q.ok) :
    RawK q.row (repR f q) (.tup [.nils, repA f x a n B R, .bool ok]) s := by
  subst hn; subst ha; subst hok; subst hx
  unfold RawK
  refine ⟨_, ?_, .inr ⟨hg, rfl⟩⟩
  exact Le.tup ⟨Le.refl _, Le.agg ⟨Le.refl _, Le.refl _, Le.refl _, Le.refl _, hb, hr, trivial⟩, Le.refl _, trivial⟩
set_option maxRecDepth 20000 in
set_option maxHeartbeats 4000000 in
theorem reply_raw (f x a n : Int) (b : List Bool) (r : List Int) (hn0 : 0 ≤ n) (hn1 : n < 65536) (hb : b.length ≤ 2500) (hr : r.length ≤ 500) : Tr Try.prog 118 [repA f x a n (.roB b) (.roI .u16 r)] ⟨0, []⟩ (RawK (repS f x a n b r).row (repR f (repS f x a n b r))) := by
  have hw : IntKind.i64.wrap n = n := IntWalk.i64_in _ (by omega)
  refine trF g118 b118 c118 ?_
  conv => whnf
  repeat' (first
    | (refine condY (by assumption) ?_; conv => whnf)
    | (refine condN (by assumption) ?_; conv => whnf)
    | (refine condT (by first | assumption | (simp [twos_length, packN_length, two8]; done) | (simp [twos_length, packN_length, two8]; omega) | (simp_all; done) | (simp_all; omega)) ?_; conv => whnf)
    | (refine condF (fun h => ?_) (fun h => ?_) <;> conv => whnf)
    | (refine ⟨rfl, ?_⟩; conv => whnf)
    | (refine two_call rfl (by first | (simp [twos_length, packN_length, two8]; done) | (simp [twos_length, packN_length, two8]; omega) | omega) (by first | (simp [twos_length, packN_length, two8]; done) | (simp [twos_length, packN_length, two8]; omega) | omega) ?_; conv => whnf)
    | (refine coil_call rfl (by first | (simp [twos_length, packN_length, two8]; done) | (simp [twos_length, packN_length, two8]; omega) | omega) (by first | (simp [twos_length, packN_length, two8]; done) | (simp [twos_length, packN_length, two8]; omega) | omega) ?_; conv => whnf)
    | (refine regs_call rfl (by first | (simp [twos_length, packN_length, two8]; done) | (simp [twos_length, packN_length, two8]; omega) | omega) (by first | (simp [twos_length, packN_length, two8]; done) | (simp [twos_length, packN_length, two8]; omega) | omega) (by omega) ?_; conv => whnf)
    | (refine Ev.call (within16_ev _ _) ?_; conv => whnf)
    | (refine Ev.call (within_ev _ _) ?_; conv => whnf)
    | (refine Ev.call (pack_ev _ (by omega)) ?_; conv => whnf)
    )
  all_goals (generalize hq : repS f x a n b r = q; simp only [repS, *, if_true, if_false, Bool.false_eq_true, Bool.true_and, Bool.false_and] at hq; subst hq)
  all_goals try (rw [hw] at *)
  all_goals first
    | exact RawK.rep rfl (by first | rfl | (simp [packN_length, coilN, two8]; done)) (by first | rfl | (simp [twos_length, packN_length, two8]; done) | (simp [twos_length, packN_length, two8]; omega)) rfl rfl rfl (by first | exact Le.refl _ | exact Le.nilB) (by first | exact Le.refl _ | exact Le.nilI _) (by first | rfl | (simp [*]; done))
    | exact RawK.rep0 rfl rfl rfl rfl (by first | exact Le.refl _ | exact Le.nilB) (by first | exact Le.refl _ | exact Le.nilI _) rfl
theorem reply_tr (f x a n : Int) (b : List Bool) (r : List Int) (hn0 : 0 ≤ n) (hn1 : n < 65536) (hb : b.length ≤ 2500) (hr : r.length ≤ 500) :
    Tr Try.prog 118 [repA f x a n (.roB b) (.roI .u16 r)] ⟨0, []⟩ (Ret1 (repS f x a n b r).row (repR f (repS f x a n b r))) :=
  Ret1.of rfl ((reply_raw f x a n b r hn0 hn1 hb hr).mono fun v s h => by unfold RawK at h; exact h)
end Go.Proofs.Ytomodeliimnddaa
set_option linter.unusedVariables false
set_option linter.unusedSimpArgs false
namespace Go.Proofs.Ytomodeliimnddaa
open Go.Ab
/- rung/pdu.Reply -/
def a56 : ACode := (.seq (.reg [⟨(some 1), .box (.t 0), none, false⟩, ⟨(some 2), .mov (.c .nils), none, false⟩, ⟨(some 3), .mov (.c (.int .i64 0)), none, false⟩])
 (.seq (.reg [⟨(some 8), .load true 6 (.t 1), none, false⟩, ⟨(some 9), .call 118 [(.t 8)], none, false⟩, ⟨(some 7), .mov (.t 9), none, false⟩, ⟨(some 10), .ext (.t 7) 0, none, false⟩, ⟨(some 11), .ext (.t 7) 1, none, false⟩, ⟨(some 12), .ext (.t 7) 2, none, false⟩, ⟨(some 5), .alloc [(2, (.int .u8 0)), (2, (.int .u16 0)), (2, .nils)], none, false⟩, ⟨(some 4), .mov (.t 10), none, false⟩, ⟨none, .store 6 (.t 5) (.t 11), none, false⟩, ⟨(some 6), .mov (.t 12), none, false⟩])
 (.seq (.seq (.reg [⟨(some 13), .mov (.t 6), none, false⟩, ⟨(some 14), .un .not (.t 13), none, false⟩, ⟨(some 15), .mov (.t 14), none, true⟩, ⟨(some 16), .fld 2 1 false (.t 5), (some (15, false)), false⟩, ⟨(some 17), .load false 1 (.t 16), (some (15, false)), false⟩, ⟨(some 18), .fld 2 1 false (.t 1), (some (15, false)), false⟩, ⟨(some 19), .load false 1 (.t 18), (some (15, false)), false⟩, ⟨(some 20), .bin .neq .other (.t 17) (.t 19), (some (15, false)), false⟩, ⟨(some 21), .pick (.t 15) (.c (.bool true)) (.t 20), none, false⟩, ⟨(some 22), .mov (.t 21), none, true⟩, ⟨(some 23), .fld 3 1 false (.t 5), (some (22, false)), false⟩, ⟨(some 24), .load false 1 (.t 23), (some (22, false)), false⟩, ⟨(some 25), .fld 3 1 false (.t 1), (some (22, false)), false⟩, ⟨(some 26), .load false 1 (.t 25), (some (22, false)), false⟩, ⟨(some 27), .bin .neq .other (.t 24) (.t 26), (some (22, false)), false⟩, ⟨(some 28), .pick (.t 22) (.c (.bool true)) (.t 27), none, false⟩, ⟨(some 29), .mov (.t 28), none, true⟩, ⟨(some 30), .fld 4 1 false (.t 5), (some (29, false)), false⟩, ⟨(some 31), .load false 1 (.t 30), (some (29, false)), false⟩, ⟨(some 32), .fld 4 1 false (.t 1), (some (29, false)), false⟩, ⟨(some 33), .load false 1 (.t 32), (some (29, false)), false⟩, ⟨(some 34), .call 119 [(.t 31), (.t 33)], (some (29, false)), false⟩, ⟨(some 35), .un .not (.t 34), (some (29, false)), false⟩, ⟨(some 36), .pick (.t 29) (.c (.bool true)) (.t 35), none, false⟩, ⟨(some 37), .mov (.t 36), none, true⟩, ⟨(some 38), .fld 5 1 false (.t 5), (some (37, false)), false⟩, ⟨(some 39), .load false 1 (.t 38), (some (37, false)), false⟩, ⟨(some 40), .fld 5 1 false (.t 1), (some (37, false)), false⟩, ⟨(some 41), .load false 1 (.t 40), (some (37, false)), false⟩, ⟨(some 42), .call 120 [(.t 39), (.t 41)], (some (37, false)), false⟩, ⟨(some 43), .un .not (.t 42), (some (37, false)), false⟩, ⟨(some 44), .pick (.t 37) (.c (.bool true)) (.t 43), none, false⟩])
 (.cond (.t 44) (.seq (.reg [⟨(some 2), .mov (.c .nils), none, false⟩, ⟨(some 3), .mov (.c (.int .i64 30)), none, false⟩])
 .ret)
 .skip))
 (.seq (.reg [⟨(some 45), .mov (.t 4), none, false⟩, ⟨(some 2), .mov (.t 45), none, false⟩, ⟨(some 3), .mov (.c (.int .i64 0)), none, false⟩])
 .ret))))
def r56 : List ARes := [.t 2, .t 3]
theorem c56 : compF Try.prog Try.f56 = some (a56, r56) := by kernel_rfl

theorem b56 : hasBody Try.prog 56 = true := by kernel_rfl
theorem g56 : Try.prog.funcs[56]? = some Try.f56 := by kernel_rfl
/- rung/rungref3.Reply -/
def a57 : ACode := (.seq (.reg [⟨(some 1), .box (.t 0), none, false⟩, ⟨(some 2), .mov (.c .nils), none, false⟩, ⟨(some 3), .mov (.c (.int .i64 0)), none, false⟩])
 (.seq (.draw [⟨0, ⟨(some 9), .fld 3 1 false (.t 1), none, false⟩, false, [], []⟩, ⟨1, ⟨(some 10), .load false 1 (.t 9), none, false⟩, false, [], []⟩, ⟨2, ⟨(some 11), .conv (.int .i64) (.t 10), none, false⟩, false, [], []⟩, ⟨3, ⟨(some 12), .fld 4 1 false (.t 1), none, false⟩, false, [], []⟩, ⟨4, ⟨(some 13), .load false 1 (.t 12), none, false⟩, false, [], []⟩, ⟨5, ⟨(some 14), .len false (.t 13), none, false⟩, false, [], []⟩, ⟨6, ⟨(some 15), .fld 5 1 false (.t 1), none, false⟩, false, [], []⟩, ⟨7, ⟨(some 16), .load false 1 (.t 15), none, false⟩, false, [], []⟩, ⟨8, ⟨(some 17), .len false (.t 16), none, false⟩, false, [], []⟩, ⟨9, ⟨(some 4), .mov (.t 11), none, false⟩, false, [], []⟩, ⟨10, ⟨(some 5), .mov (.t 14), none, false⟩, false, [], []⟩, ⟨11, ⟨(some 6), .mov (.t 17), none, false⟩, false, [], []⟩])
 (.seq (.seq (.reg [⟨(some 18), .fld 1 1 false (.t 1), none, false⟩, ⟨(some 19), .load false 1 (.t 18), none, false⟩, ⟨(some 20), .bin .neq .other (.t 19) (.c (.int .u8 0)), none, false⟩])
 (.cond (.t 20) (.seq (.seq (.reg [⟨(some 21), .fld 0 1 false (.t 1), none, false⟩, ⟨(some 22), .load false 1 (.t 21), none, false⟩, ⟨(some 23), .bin .geq .other (.t 22) (.c (.int .u8 128)), none, false⟩, ⟨(some 24), .mov (.t 23), none, true⟩, ⟨(some 25), .mov (.t 4), (some (24, false)), false⟩, ⟨(some 26), .mov (.t 5), (some (24, false)), false⟩, ⟨(some 27), .bin .add .other (.t 25) (.t 26), (some (24, false)), false⟩, ⟨(some 28), .mov (.t 6), (some (24, false)), false⟩, ⟨(some 29), .bin .add .other (.t 27) (.t 28), (some (24, false)), false⟩, ⟨(some 30), .bin .neq .other (.t 29) (.c (.int .i64 0)), (some (24, false)), false⟩, ⟨(some 31), .pick (.t 24) (.c (.bool true)) (.t 30), none, false⟩, ⟨(some 32), .mov (.t 31), none, true⟩, ⟨(some 33), .fld 2 1 false (.t 1), (some (32, false)), false⟩, ⟨(some 34), .load false 1 (.t 33), (some (32, false)), false⟩, ⟨(some 35), .bin .neq .other (.t 34) (.c (.int .u16 0)), (some (32, false)), false⟩, ⟨(some 36), .pick (.t 32) (.c (.bool true)) (.t 35), none, false⟩])
 (.cond (.t 36) (.seq (.reg [⟨(some 2), .mov (.c .nils), none, false⟩, ⟨(some 3), .mov (.c (.int .i64 30)), none, false⟩])
 .ret)
 .skip))
 (.seq (.reg [⟨(some 37), .fld 0 1 false (.t 1), none, false⟩, ⟨(some 38), .load false 1 (.t 37), none, false⟩, ⟨(some 39), .bin .or .other (.t 38) (.c (.int .u8 128)), none, false⟩, ⟨(some 40), .fld 1 1 false (.t 1), none, false⟩, ⟨(some 41), .load false 1 (.t 40), none, false⟩, ⟨(some 42), .bslice 1 (.int .u8) [(.int .u8 0), (.int .u8 0)] [(0, 1, (.t 39)), (1, 1, (.t 41))] 2, none, false⟩, ⟨(some 2), .mov (.t 42), none, false⟩, ⟨(some 3), .mov (.c (.int .i64 0)), none, false⟩])
 .ret))
 .skip))
 (.seq (.reg [⟨(some 43), .fld 0 1 false (.t 1), none, false⟩, ⟨(some 44), .load false 1 (.t 43), none, false⟩, ⟨(some 45), .bslice 1 (.int .u8) [(.int .u8 0)] [(0, 1, (.t 44))] 1, none, false⟩, ⟨(some 7), .mov (.t 45), none, false⟩])
 (.seq (.reg [⟨(some 8), .mov (.c (.bool false)), none, false⟩])
 (.seq (.seq (.reg [⟨(some 46), .fld 0 1 false (.t 1), none, false⟩, ⟨(some 47), .load false 1 (.t 46), none, false⟩])
 (.block 0 (.seq (.seq (.reg [⟨(some 49), .bin .eql .other (.t 47) (.c (.int .u8 1)), none, false⟩, ⟨(some 48), .mov (.t 49), none, false⟩])
 (.cond (.t 48) .skip
 (.reg [⟨(some 50), .bin .eql .other (.t 47) (.c (.int .u8 2)), none, false⟩, ⟨(some 48), .mov (.t 50), none, false⟩])))
 (.cond (.t 48) (.seq (.reg [⟨(some 51), .mov (.t 5), none, false⟩, ⟨(some 52), .call 112 [(.t 51), (.c (.int .i64 1)), (.c (.int .i64 2000))], none, false⟩, ⟨(some 53), .mov (.t 52), none, true⟩, ⟨(some 54), .mov (.t 6), (some (53, true)), false⟩, ⟨(some 55), .bin .eql .other (.t 54) (.c (.int .i64 0)), (some (53, true)), false⟩, ⟨(some 56), .pick (.t 53) (.t 55) (.c (.bool false)), none, false⟩, ⟨(some 57), .mov (.t 56), none, true⟩, ⟨(some 58), .mov (.t 4), (some (57, true)), false⟩, ⟨(some 59), .bin .eql .other (.t 58) (.c (.int .i64 0)), (some (57, true)), false⟩, ⟨(some 60), .pick (.t 57) (.t 59) (.c (.bool false)), none, false⟩, ⟨(some 61), .mov (.t 60), none, true⟩, ⟨(some 62), .fld 2 1 false (.t 1), (some (61, true)), false⟩, ⟨(some 63), .load false 1 (.t 62), (some (61, true)), false⟩, ⟨(some 64), .bin .eql .other (.t 63) (.c (.int .u16 0)), (some (61, true)), false⟩, ⟨(some 65), .pick (.t 61) (.t 64) (.c (.bool false)), none, false⟩, ⟨(some 8), .mov (.t 65), none, false⟩])
 (.draw [⟨0, ⟨(some 66), .mov (.t 7), none, false⟩, false, [], []⟩, ⟨1, ⟨(some 67), .mov (.t 5), none, false⟩, false, [], []⟩, ⟨2, ⟨(some 68), .bin .add .other (.t 67) (.c (.int .i64 7)), none, false⟩, false, [], []⟩, ⟨3, ⟨(some 69), .bin .quo .other (.t 68) (.c (.int .i64 8)), none, false⟩, false, [], []⟩, ⟨4, ⟨(some 70), .conv (.int .u8) (.t 69), none, false⟩, false, [], []⟩, ⟨5, ⟨(some 71), .bslice 1 (.int .u8) [(.int .u8 0)] [(0, 1, (.t 70))] 1, none, false⟩, false, [], []⟩, ⟨7, ⟨(some 73), .fld 4 1 false (.t 1), none, false⟩, false, [], []⟩, ⟨8, ⟨(some 74), .load false 1 (.t 73), none, false⟩, false, [], []⟩, ⟨6, ⟨(some 72), .app 1 1 (.t 66) (.t 71), none, false⟩, true, [5], [(.t 73)]⟩, ⟨9, ⟨(some 75), .call 62 [(.t 74)], none, false⟩, true, [5], []⟩, ⟨10, ⟨(some 76), .app 1 1 (.t 72) (.t 75), none, false⟩, true, [5], []⟩, ⟨11, ⟨(some 7), .mov (.t 76), none, false⟩, false, [], []⟩]))
 (.seq (.seq (.reg [⟨(some 78), .bin .eql .other (.t 47) (.c (.int .u8 3)), none, false⟩, ⟨(some 77), .mov (.t 78), none, false⟩])
 (.cond (.t 77) .skip
 (.seq (.reg [⟨(some 79), .bin .eql .other (.t 47) (.c (.int .u8 4)), none, false⟩, ⟨(some 77), .mov (.t 79), none, false⟩])
 (.cond (.t 77) .skip
 (.reg [⟨(some 80), .bin .eql .other (.t 47) (.c (.int .u8 23)), none, false⟩, ⟨(some 77), .mov (.t 80), none, false⟩])))))
 (.cond (.t 77) (.seq (.reg [⟨(some 81), .mov (.t 6), none, false⟩, ⟨(some 82), .call 112 [(.t 81), (.c (.int .i64 1)), (.c (.int .i64 125))], none, false⟩, ⟨(some 83), .mov (.t 82), none, true⟩, ⟨(some 84), .mov (.t 5), (some (83, true)), false⟩, ⟨(some 85), .bin .eql .other (.t 84) (.c (.int .i64 0)), (some (83, true)), false⟩, ⟨(some 86), .pick (.t 83) (.t 85) (.c (.bool false)), none, false⟩, ⟨(some 87), .mov (.t 86), none, true⟩, ⟨(some 88), .mov (.t 4), (some (87, true)), false⟩, ⟨(some 89), .bin .eql .other (.t 88) (.c (.int .i64 0)), (some (87, true)), false⟩, ⟨(some 90), .pick (.t 87) (.t 89) (.c (.bool false)), none, false⟩, ⟨(some 91), .mov (.t 90), none, true⟩, ⟨(some 92), .fld 2 1 false (.t 1), (some (91, true)), false⟩, ⟨(some 93), .load false 1 (.t 92), (some (91, true)), false⟩, ⟨(some 94), .bin .eql .other (.t 93) (.c (.int .u16 0)), (some (91, true)), false⟩, ⟨(some 95), .pick (.t 91) (.t 94) (.c (.bool false)), none, false⟩, ⟨(some 8), .mov (.t 95), none, false⟩])
 (.draw [⟨0, ⟨(some 96), .mov (.t 7), none, false⟩, false, [], []⟩, ⟨1, ⟨(some 97), .mov (.t 6), none, false⟩, false, [], []⟩, ⟨2, ⟨(some 98), .bin .mul .other (.c (.int .i64 2)) (.t 97), none, false⟩, false, [], []⟩, ⟨3, ⟨(some 99), .conv (.int .u8) (.t 98), none, false⟩, false, [], []⟩, ⟨4, ⟨(some 100), .bslice 1 (.int .u8) [(.int .u8 0)] [(0, 1, (.t 99))] 1, none, false⟩, false, [], []⟩, ⟨6, ⟨(some 102), .fld 5 1 false (.t 1), none, false⟩, false, [], []⟩, ⟨7, ⟨(some 103), .load false 1 (.t 102), none, false⟩, false, [], []⟩, ⟨5, ⟨(some 101), .app 1 1 (.t 96) (.t 100), none, false⟩, true, [4], [(.t 102)]⟩, ⟨8, ⟨(some 104), .call 111 [(.t 101), (.t 103)], none, false⟩, true, [4], []⟩, ⟨9, ⟨(some 7), .mov (.t 104), none, false⟩, false, [], []⟩]))
 (.seq (.reg [⟨(some 106), .bin .eql .other (.t 47) (.c (.int .u8 5)), none, false⟩, ⟨(some 105), .mov (.t 106), none, false⟩])
 (.cond (.t 105) (.seq (.reg [⟨(some 107), .mov (.t 5), none, false⟩, ⟨(some 108), .bin .eql .other (.t 107) (.c (.int .i64 1)), none, false⟩, ⟨(some 109), .mov (.t 108), none, true⟩, ⟨(some 110), .mov (.t 6), (some (109, true)), false⟩, ⟨(some 111), .bin .eql .other (.t 110) (.c (.int .i64 0)), (some (109, true)), false⟩, ⟨(some 112), .pick (.t 109) (.t 111) (.c (.bool false)), none, false⟩, ⟨(some 113), .mov (.t 112), none, true⟩, ⟨(some 114), .mov (.t 4), (some (113, true)), false⟩, ⟨(some 115), .bin .eql .other (.t 114) (.c (.int .i64 0)), (some (113, true)), false⟩, ⟨(some 116), .pick (.t 113) (.t 115) (.c (.bool false)), none, false⟩, ⟨(some 8), .mov (.t 116), none, false⟩])
 (.seq (.reg [⟨(some 117), .mov (.t 8), none, false⟩])
 (.cond (.t 117) (.draw [⟨0, ⟨(some 118), .mov (.t 7), none, false⟩, false, [], []⟩, ⟨1, ⟨(some 119), .fld 2 1 false (.t 1), none, false⟩, false, [], []⟩, ⟨2, ⟨(some 120), .load false 1 (.t 119), none, false⟩, false, [], []⟩, ⟨3, ⟨(some 121), .fld 4 1 false (.t 1), none, false⟩, false, [], []⟩, ⟨4, ⟨(some 122), .load false 1 (.t 121), none, false⟩, false, [], []⟩, ⟨5, ⟨(some 123), .idx 1 none false (.t 122) (.c (.int .i64 0)), none, false⟩, false, [], []⟩, ⟨6, ⟨(some 124), .load false 1 (.t 123), none, false⟩, false, [], []⟩, ⟨7, ⟨(some 125), .call 113 [(.t 124)], none, false⟩, true, [], [(.t 119)]⟩, ⟨8, ⟨(some 126), .bslice 1 (.int .u16) [(.int .u16 0), (.int .u16 0)] [(0, 1, (.t 120)), (1, 1, (.t 125))] 2, none, false⟩, false, [], []⟩, ⟨9, ⟨(some 127), .call 111 [(.t 118), (.t 126)], none, false⟩, true, [8], []⟩, ⟨10, ⟨(some 7), .mov (.t 127), none, false⟩, false, [], []⟩])
 .skip)))
 (.seq (.reg [⟨(some 129), .bin .eql .other (.t 47) (.c (.int .u8 6)), none, false⟩, ⟨(some 128), .mov (.t 129), none, false⟩])
 (.cond (.t 128) (.seq (.reg [⟨(some 130), .mov (.t 6), none, false⟩, ⟨(some 131), .bin .eql .other (.t 130) (.c (.int .i64 1)), none, false⟩, ⟨(some 132), .mov (.t 131), none, true⟩, ⟨(some 133), .mov (.t 5), (some (132, true)), false⟩, ⟨(some 134), .bin .eql .other (.t 133) (.c (.int .i64 0)), (some (132, true)), false⟩, ⟨(some 135), .pick (.t 132) (.t 134) (.c (.bool false)), none, false⟩, ⟨(some 136), .mov (.t 135), none, true⟩, ⟨(some 137), .mov (.t 4), (some (136, true)), false⟩, ⟨(some 138), .bin .eql .other (.t 137) (.c (.int .i64 0)), (some (136, true)), false⟩, ⟨(some 139), .pick (.t 136) (.t 138) (.c (.bool false)), none, false⟩, ⟨(some 8), .mov (.t 139), none, false⟩])
 (.draw [⟨0, ⟨(some 140), .mov (.t 7), none, false⟩, false, [], []⟩, ⟨1, ⟨(some 141), .fld 2 1 false (.t 1), none, false⟩, false, [], []⟩, ⟨2, ⟨(some 142), .load false 1 (.t 141), none, false⟩, false, [], []⟩, ⟨3, ⟨(some 143), .bslice 1 (.int .u16) [(.int .u16 0)] [(0, 1, (.t 142))] 1, none, false⟩, false, [], []⟩, ⟨5, ⟨(some 145), .fld 5 1 false (.t 1), none, false⟩, false, [], []⟩, ⟨6, ⟨(some 146), .load false 1 (.t 145), none, false⟩, false, [], []⟩, ⟨4, ⟨(some 144), .call 111 [(.t 140), (.t 143)], none, false⟩, true, [3], [(.t 145)]⟩, ⟨7, ⟨(some 147), .call 111 [(.t 144), (.t 146)], none, false⟩, true, [3], []⟩, ⟨8, ⟨(some 7), .mov (.t 147), none, false⟩, false, [], []⟩]))
 (.seq (.reg [⟨(some 149), .bin .eql .other (.t 47) (.c (.int .u8 15)), none, false⟩, ⟨(some 148), .mov (.t 149), none, false⟩])
 (.cond (.t 148) (.seq (.reg [⟨(some 150), .mov (.t 4), none, false⟩, ⟨(some 151), .call 112 [(.t 150), (.c (.int .i64 1)), (.c (.int .i64 1968))], none, false⟩, ⟨(some 152), .mov (.t 151), none, true⟩, ⟨(some 153), .mov (.t 5), (some (152, true)), false⟩, ⟨(some 154), .mov (.t 6), (some (152, true)), false⟩, ⟨(some 155), .bin .add .other (.t 153) (.t 154), (some (152, true)), false⟩, ⟨(some 156), .bin .eql .other (.t 155) (.c (.int .i64 0)), (some (152, true)), false⟩, ⟨(some 157), .pick (.t 152) (.t 156) (.c (.bool false)), none, false⟩, ⟨(some 8), .mov (.t 157), none, false⟩])
 (.reg [⟨(some 158), .mov (.t 7), none, false⟩, ⟨(some 159), .fld 2 1 false (.t 1), none, false⟩, ⟨(some 160), .load false 1 (.t 159), none, false⟩, ⟨(some 161), .fld 3 1 false (.t 1), none, false⟩, ⟨(some 162), .load false 1 (.t 161), none, false⟩, ⟨(some 163), .bslice 1 (.int .u16) [(.int .u16 0), (.int .u16 0)] [(0, 1, (.t 160)), (1, 1, (.t 162))] 2, none, false⟩, ⟨(some 164), .call 111 [(.t 158), (.t 163)], none, false⟩, ⟨(some 7), .mov (.t 164), none, false⟩]))
 (.seq (.reg [⟨(some 166), .bin .eql .other (.t 47) (.c (.int .u8 16)), none, false⟩, ⟨(some 165), .mov (.t 166), none, false⟩])
 (.cond (.t 165) (.seq (.reg [⟨(some 167), .mov (.t 4), none, false⟩, ⟨(some 168), .call 112 [(.t 167), (.c (.int .i64 1)), (.c (.int .i64 123))], none, false⟩, ⟨(some 169), .mov (.t 168), none, true⟩, ⟨(some 170), .mov (.t 5), (some (169, true)), false⟩, ⟨(some 171), .mov (.t 6), (some (169, true)), false⟩, ⟨(some 172), .bin .add .other (.t 170) (.t 171), (some (169, true)), false⟩, ⟨(some 173), .bin .eql .other (.t 172) (.c (.int .i64 0)), (some (169, true)), false⟩, ⟨(some 174), .pick (.t 169) (.t 173) (.c (.bool false)), none, false⟩, ⟨(some 8), .mov (.t 174), none, false⟩])
 (.reg [⟨(some 175), .mov (.t 7), none, false⟩, ⟨(some 176), .fld 2 1 false (.t 1), none, false⟩, ⟨(some 177), .load false 1 (.t 176), none, false⟩, ⟨(some 178), .fld 3 1 false (.t 1), none, false⟩, ⟨(some 179), .load false 1 (.t 178), none, false⟩, ⟨(some 180), .bslice 1 (.int .u16) [(.int .u16 0), (.int .u16 0)] [(0, 1, (.t 177)), (1, 1, (.t 179))] 2, none, false⟩, ⟨(some 181), .call 111 [(.t 175), (.t 180)], none, false⟩, ⟨(some 7), .mov (.t 181), none, false⟩]))
 (.seq (.reg [⟨(some 183), .bin .eql .other (.t 47) (.c (.int .u8 22)), none, false⟩, ⟨(some 182), .mov (.t 183), none, false⟩])
 (.cond (.t 182) (.seq (.reg [⟨(some 184), .mov (.t 6), none, false⟩, ⟨(some 185), .bin .eql .other (.t 184) (.c (.int .i64 2)), none, false⟩, ⟨(some 186), .mov (.t 185), none, true⟩, ⟨(some 187), .mov (.t 5), (some (186, true)), false⟩, ⟨(some 188), .bin .eql .other (.t 187) (.c (.int .i64 0)), (some (186, true)), false⟩, ⟨(some 189), .pick (.t 186) (.t 188) (.c (.bool false)), none, false⟩, ⟨(some 190), .mov (.t 189), none, true⟩, ⟨(some 191), .mov (.t 4), (some (190, true)), false⟩, ⟨(some 192), .bin .eql .other (.t 191) (.c (.int .i64 0)), (some (190, true)), false⟩, ⟨(some 193), .pick (.t 190) (.t 192) (.c (.bool false)), none, false⟩, ⟨(some 8), .mov (.t 193), none, false⟩])
 (.draw [⟨0, ⟨(some 194), .mov (.t 7), none, false⟩, false, [], []⟩, ⟨1, ⟨(some 195), .fld 2 1 false (.t 1), none, false⟩, false, [], []⟩, ⟨2, ⟨(some 196), .load false 1 (.t 195), none, false⟩, false, [], []⟩, ⟨3, ⟨(some 197), .bslice 1 (.int .u16) [(.int .u16 0)] [(0, 1, (.t 196))] 1, none, false⟩, false, [], []⟩, ⟨5, ⟨(some 199), .fld 5 1 false (.t 1), none, false⟩, false, [], []⟩, ⟨6, ⟨(some 200), .load false 1 (.t 199), none, false⟩, false, [], []⟩, ⟨4, ⟨(some 198), .call 111 [(.t 194), (.t 197)], none, false⟩, true, [3], [(.t 199)]⟩, ⟨7, ⟨(some 201), .call 111 [(.t 198), (.t 200)], none, false⟩, true, [3], []⟩, ⟨8, ⟨(some 7), .mov (.t 201), none, false⟩, false, [], []⟩]))
 .skip))))))))))))))))
 (.seq (.seq (.reg [⟨(some 202), .mov (.t 8), none, false⟩, ⟨(some 203), .un .not (.t 202), none, false⟩])
 (.cond (.t 203) (.seq (.reg [⟨(some 2), .mov (.c .nils), none, false⟩, ⟨(some 3), .mov (.c (.int .i64 30)), none, false⟩])
 .ret)
 .skip))
 (.seq (.reg [⟨(some 204), .mov (.t 7), none, false⟩, ⟨(some 2), .mov (.t 204), none, false⟩, ⟨(some 3), .mov (.c (.int .i64 0)), none, false⟩])
 .ret))))))))
def r57 : List ARes := [.t 2, .t 3]
theorem c57 : compF Try.prog Try.f57 = some (a57, r57) := by kernel_rfl

theorem b57 : hasBody Try.prog 57 = true := by kernel_rfl
theorem g57 : Try.prog.funcs[57]? = some Try.f57 := by kernel_rfl

def repOk (f x a n : Int) (b : List Bool) (r : List Int) : Bool :=
  if x != 0 then decide (f < 128) && (n == 0 && (b.length : Int) == 0 && (r.length : Int) == 0) && a == 0
  else if f == 1 then withinB b.length 2000 && (r.length : Int) == 0 && n == 0 && a == 0
  else if f == 2 then withinB b.length 2000 && (r.length : Int) == 0 && n == 0 && a == 0
  else if f == 3 then withinB r.length 125 && (b.length : Int) == 0 && n == 0 && a == 0
  else if f == 4 then withinB r.length 125 && (b.length : Int) == 0 && n == 0 && a == 0
  else if f == 23 then withinB r.length 125 && (b.length : Int) == 0 && n == 0 && a == 0
  else if f == 5 then (b.length : Int) == 1 && (r.length : Int) == 0 && n == 0
  else if f == 6 then (r.length : Int) == 1 && (b.length : Int) == 0 && n == 0
  else if f == 15 then withinB n 1968 && ((b.length : Int) == 0 && (r.length : Int) == 0)
  else if f == 16 then withinB n 123 && ((b.length : Int) == 0 && (r.length : Int) == 0)
  else if f == 22 then (r.length : Int) == 2 && (b.length : Int) == 0 && n == 0
  else false
def repB (f x a n : Int) (b : List Bool) (r : List Int) : List Int := if repOk f x a n b r then (repS f x a n b r).row else []
def repE (f x a n : Int) (b : List Bool) (r : List Int) : Int := if repOk f x a n b r then 0 else 30
theorem rep_own (f x a n : Int) (b : List Bool) (r : List Int) : ((repS f x a n b r).ok && ((repS f x a n b r).a == a) && ((repS f x a n b r).n == n) && ((repS f x a n b r).b == b) && ((repS f x a n b r).r == r)) = repOk f x a n b r := by
  have e1 : ([] = b) ↔ b.length = 0 := by rw [List.length_eq_zero_iff]; exact eq_comm
  have e2 : ([] = r) ↔ r.length = 0 := by rw [List.length_eq_zero_iff]; exact eq_comm
  by_cases hx : x = 0
  · subst hx
    by_cases h1 : f = 1
    · subst h1; rw [Bool.eq_iff_iff]; simp [repS, repOk, withinB, @eq_comm _ [] b, @eq_comm _ [] r, ← List.length_eq_zero_iff] <;> omega
    by_cases h2 : f = 2
    · subst h2; rw [Bool.eq_iff_iff]; simp [repS, repOk, withinB, @eq_comm _ [] b, @eq_comm _ [] r, ← List.length_eq_zero_iff] <;> omega
    by_cases h3 : f = 3
    · subst h3; rw [Bool.eq_iff_iff]; simp [repS, repOk, withinB, @eq_comm _ [] b, @eq_comm _ [] r, ← List.length_eq_zero_iff] <;> omega
    by_cases h4 : f = 4
    · subst h4; rw [Bool.eq_iff_iff]; simp [repS, repOk, withinB, @eq_comm _ [] b, @eq_comm _ [] r, ← List.length_eq_zero_iff] <;> omega
    by_cases h23 : f = 23
    · subst h23; rw [Bool.eq_iff_iff]; simp [repS, repOk, withinB, @eq_comm _ [] b, @eq_comm _ [] r, ← List.length_eq_zero_iff] <;> omega
    by_cases h5 : f = 5
    · subst h5; rw [Bool.eq_iff_iff]; simp [repS, repOk, withinB, @eq_comm _ [] b, @eq_comm _ [] r, ← List.length_eq_zero_iff] <;> omega
    by_cases h6 : f = 6
    · subst h6; rw [Bool.eq_iff_iff]; simp [repS, repOk, withinB, @eq_comm _ [] b, @eq_comm _ [] r, ← List.length_eq_zero_iff] <;> omega
    by_cases h15 : f = 15
    · subst h15; rw [Bool.eq_iff_iff]; simp [repS, repOk, withinB, @eq_comm _ [] b, @eq_comm _ [] r, ← List.length_eq_zero_iff] <;> omega
    by_cases h16 : f = 16
    · subst h16; rw [Bool.eq_iff_iff]; simp [repS, repOk, withinB, @eq_comm _ [] b, @eq_comm _ [] r, ← List.length_eq_zero_iff] <;> omega
    by_cases h22 : f = 22
    · subst h22; rw [Bool.eq_iff_iff]; simp [repS, repOk, withinB, @eq_comm _ [] b, @eq_comm _ [] r, ← List.length_eq_zero_iff] <;> omega
    simp [repS, repOk, *]
  · rw [Bool.eq_iff_iff]; simp [repS, repOk, hx, @eq_comm _ [] b, @eq_comm _ [] r, ← List.length_eq_zero_iff] <;> omega
theorem equalB_ev (l m : List Bool) (hl : l.length ≤ 100000) : Ev Try.prog 119 [.roB l, .roB m] (.bool (l == m)) := ⟨rfl, equalB_tr l m hl⟩
theorem equal16_ev (l m : List Int) (hl : l.length ≤ 100000) : Ev Try.prog 120 [.roI .u16 l, .roI .u16 m] (.bool (l == m)) := ⟨rfl, equal16_tr l m hl⟩
theorem repS_len (f x a n : Int) (b : List Bool) (r : List Int) (hb : b.length ≤ 2500) (hr : r.length ≤ 500) : (repS f x a n b r).b.length ≤ 2500 ∧ (repS f x a n b r).r.length ≤ 500 := by
  unfold repS
  by_cases h : (x != 0) = true
  · rw [if_pos h]; simp
  rw [if_neg h]
  by_cases h1 : (f == 1) = true
  · rw [if_pos h1]; simp [hb, hr]
  rw [if_neg h1]
  by_cases h2 : (f == 2) = true
  · rw [if_pos h2]; simp [hb, hr]
  rw [if_neg h2]
  by_cases h3 : (f == 3) = true
  · rw [if_pos h3]; simp [hb, hr]
  rw [if_neg h3]
  by_cases h4 : (f == 4) = true
  · rw [if_pos h4]; simp [hb, hr]
  rw [if_neg h4]
  by_cases h23 : (f == 23) = true
  · rw [if_pos h23]; simp [hb, hr]
  rw [if_neg h23]
  by_cases h5 : (f == 5) = true
  · rw [if_pos h5]; simp [hb, hr]
  rw [if_neg h5]
  by_cases h6 : (f == 6) = true
  · rw [if_pos h6]; simp [hb, hr]
  rw [if_neg h6]
  by_cases h15 : (f == 15) = true
  · rw [if_pos h15]; simp [hb, hr]
  rw [if_neg h15]
  by_cases h16 : (f == 16) = true
  · rw [if_pos h16]; simp [hb, hr]
  rw [if_neg h16]
  by_cases h22 : (f == 22) = true
  · rw [if_pos h22]; simp [hb, hr]
  rw [if_neg h22]
  simp
set_option maxRecDepth 20000 in
set_option maxHeartbeats 4000000 in
theorem Reply_raw (f x a n : Int) (b : List Bool) (r : List Int) (hn0 : 0 ≤ n) (hn1 : n < 65536) (hb : b.length ≤ 2500) (hr : r.length ≤ 500) :
    Tr Try.prog 56 [repA f x a n (.roB b) (.roI .u16 r)] ⟨0, []⟩ (RawK (repB f x a n b r) [.int .i64 (repE f x a n b r)]) := by
  have h1 := reply_tr f x a n b r hn0 hn1 hb hr
  have h2 := rep_own f x a n b r
  obtain ⟨l1, l2⟩ := repS_len f x a n b r hb hr
  unfold repB repE
  generalize repOk f x a n b r = o at *
  generalize repS f x a n b r = q at *
  refine trF g56 b56 c56 ?_
  conv => whnf
  refine Ret1.call h1 rfl rfl ?_
  conv => whnf
  repeat' (first
    | (refine condY (by assumption) ?_; conv => whnf)
    | (refine condN (by assumption) ?_; conv => whnf)
    | (refine condF (fun h => ?_) (fun h => ?_) <;> conv => whnf)
    | (refine Ev.call (equalB_ev _ _ (by omega)) ?_; conv => whnf)
    | (refine Ev.call (equal16_ev _ _ (by omega)) ?_; conv => whnf)
    )
  all_goals first
    | (have ho : o = false := by rw [← h2]; simp_all
       subst ho
       exact RawK.err0 rfl rfl)
    | (have ho : o = true := by rw [← h2]; simp_all
       subst ho
       exact RawK.err rfl rfl rfl rfl)
theorem Reply_tr (f x a n : Int) (b : List Bool) (r : List Int) (hn0 : 0 ≤ n) (hn1 : n < 65536) (hb : b.length ≤ 2500) (hr : r.length ≤ 500) :
    Tr Try.prog 56 [repA f x a n (.roB b) (.roI .u16 r)] ⟨0, []⟩ (Ret1 (repB f x a n b r) [.int .i64 (repE f x a n b r)]) :=
  Ret1.of rfl ((Reply_raw f x a n b r hn0 hn1 hb hr).mono fun v s h => by unfold RawK at h; exact h)
theorem Reply_ev (f x a n : Int) (b : List Bool) (r : List Int) (hn0 : 0 ≤ n) (hn1 : n < 65536) (hb : b.length ≤ 2500) (hr : r.length ≤ 500) :
    Ev Try.prog 56 [repA f x a n (.roB b) (.roI .u16 r)] (.tup [.roI .u8 (repB f x a n b r), .int .i64 (repE f x a n b r)]) := Ret1.ev rfl (Reply_tr f x a n b r hn0 hn1 hb hr)
theorem not_t {c : Bool} (h : (!c) = true) : c = false := by cases c; rfl; cases h
theorem rrep_sums {n : Int} {b : List Bool} {r : List Int} (hn0 : 0 ≤ n) (hn1 : n < 65536) (hb : b.length ≤ 2500) (hr : r.length ≤ 500) : (IntKind.i64.wrap (IntKind.i64.wrap (n + b.length) + r.length) != 0) = !(n == 0 && (b.length : Int) == 0 && (r.length : Int) == 0) := by
  rw [IntWalk.i64_in (n + b.length) (by omega), IntWalk.i64_in _ (by omega)]
  rw [Bool.eq_iff_iff]; simp [← List.length_eq_zero_iff] <;> omega
theorem rrep_sum2 {b : List Bool} {r : List Int} (hb : b.length ≤ 2500) (hr : r.length ≤ 500) : (IntKind.i64.wrap ((b.length : Int) + r.length) == 0) = ((b.length : Int) == 0 && (r.length : Int) == 0) := by
  rw [IntWalk.i64_in _ (by omega)]
  rw [Bool.eq_iff_iff]; simp [← List.length_eq_zero_iff] <;> omega
set_option maxRecDepth 20000 in
set_option maxHeartbeats 4000000 in
theorem rReply_raw (f x a n : Int) (b : List Bool) (r : List Int) (hn0 : 0 ≤ n) (hn1 : n < 65536) (hb : b.length ≤ 2500) (hr : r.length ≤ 500) :
    Tr Try.prog 57 [repA f x a n (.roB b) (.roI .u16 r)] ⟨0, []⟩ (RawK (repB f x a n b r) [.int .i64 (repE f x a n b r)]) := by
  have hw : IntKind.i64.wrap n = n := IntWalk.i64_in _ (by omega)
  have h15 : IntKind.i64.wrap ((IntKind.i64.wrap ((b.length : Int) + 7)).tdiv 8) = (((b.length + 7) / 8 : Nat) : Int) := by
    rw [show IntKind.i64.wrap ((b.length : Int) + 7) = ((b.length + 7 : Nat) : Int) from w64 (i := b.length + 7) (by omega)]
    exact q64 (by omega)
  refine trF g57 b57 c57 ?_
  conv => whnf
  repeat' (first
    | (refine condY (by assumption) ?_; conv => whnf)
    | (refine condN (by assumption) ?_; conv => whnf)
    | (refine condT (by first | assumption | (simp [twos_length, packN_length, two8]; done) | (simp [twos_length, packN_length, two8]; omega) | (simp_all; done) | (simp_all; omega)) ?_; conv => whnf)
    | (refine condF (fun h => ?_) (fun h => ?_) <;> conv => whnf)
    | (refine ⟨rfl, ?_⟩; conv => whnf)
    | (refine rtwo_call rfl rfl rfl (by first | (simp [twos_length, packN_length, two8]; done) | (simp [twos_length, packN_length, two8]; omega) | omega) (by first | (simp [twos_length, packN_length, two8]; done) | (simp [twos_length, packN_length, two8]; omega) | omega) (by first | (simp [twos_length, packN_length, two8]; done) | (simp [twos_length, packN_length, two8]; omega) | omega) (by first | (simp [twos_length, packN_length, two8]; done) | (simp [twos_length, packN_length, two8]; omega) | omega) ?_; conv => whnf)
    | (refine rtwo_call1 rfl (by first | (simp [twos_length, packN_length, two8]; done) | (simp [twos_length, packN_length, two8]; omega) | omega) (by first | (simp [twos_length, packN_length, two8]; done) | (simp [twos_length, packN_length, two8]; omega) | omega) (by first | (simp [twos_length, packN_length, two8]; done) | (simp [twos_length, packN_length, two8]; omega) | omega) ?_; conv => whnf)
    | (refine Ev.call (within3_ev _ _ _) ?_; conv => whnf)
    | (refine Ev.call (one_ev _) ?_; conv => whnf)
    | (refine Ev.call (rpack_ev _ (by omega)) ?_; conv => whnf)
    )
  all_goals (simp only [within3_1, hw, h15, rrep_sums hn0 hn1 hb hr, rrep_sum2 hb hr] at *)
  all_goals first
    | (exfalso; simp_all; done)
    | (have hk : repOk f x a n b r = false := by
         first
           | (simp_all [repOk]; done)
           | (have hc := not_t h
              have e1 : ∀ k, (f == k) = true → f = k := fun k hk => eq_of_beq hk
              simp only [repOk, hc, Bool.and_false, Bool.false_and, ite_self]
              simp only [*, if_true, if_false, Bool.false_eq_true]
              done)
           | (have hc := not_t h
              have hf := eq_of_beq (show (f == 16) = true by assumption)
              have h0 : (x != 0) = false := by assumption
              simp only [repOk, hc, h0, hf, Bool.and_false, Bool.false_and]; rfl)
           | (have hc := not_t h
              have hf := eq_of_beq (show (f == 15) = true by assumption)
              have h0 : (x != 0) = false := by assumption
              simp only [repOk, hc, h0, hf, Bool.and_false, Bool.false_and]; rfl)
           | (have hc := not_t h
              have h0 : (x != 0) = true := by assumption
              simp only [repOk, hc, h0, Bool.and_false, Bool.false_and, if_true]; done)
           | (simp only [repOk, *, if_true, if_false, Bool.false_eq_true, Bool.true_and, Bool.and_true]; rw [show ((n == 0 && (b.length : Int) == 0 && (r.length : Int) == 0)) = false by simpa using h]; simp)
           | (simp only [repOk, *, if_true]; rw [show decide (f < 128) = false by simp at h ⊢; omega]; simp)
       exact RawK.err0 (by simp [repB, hk]) (by simp [repE, hk]))
    | (have hk : repOk f x a n b r = true := by simp_all [repOk]
       refine RawK.err rfl (by first | rfl | (simp [packN_length, twos_length, two8]; done) | (simp [packN_length, twos_length, two8]; omega)) ?_ (by simp [repE, hk])
       simp only [repB, hk, if_true, repS, *, Bool.false_eq_true, if_false]
       first | rfl | (simp [packN_length, coilN, twos, two8]; done))
theorem rReply_ev (f x a n : Int) (b : List Bool) (r : List Int) (hn0 : 0 ≤ n) (hn1 : n < 65536) (hb : b.length ≤ 2500) (hr : r.length ≤ 500) :
    Ev Try.prog 57 [repA f x a n (.roB b) (.roI .u16 r)] (.tup [.roI .u8 (repB f x a n b r), .int .i64 (repE f x a n b r)]) :=
  Ret1.ev rfl (Ret1.of rfl ((rReply_raw f x a n b r hn0 hn1 hb hr).mono fun v s h => by unfold RawK at h; exact h))
end Go.Proofs.Ytomodeliimnddaa
set_option linter.unusedVariables false
set_option linter.unusedSimpArgs false
namespace Go.Proofs.Ytomodeliimnddaa
open Go.Ab
/- rung/pdu.OpenReply -/
def a58 : ACode := (.seq (.reg [⟨(some 2), .box (.t 0), none, false⟩, ⟨(some 4), .alloc [(2, (.int .u8 0)), (2, (.int .u16 0)), (2, .nils)], none, false⟩, ⟨(some 5), .mov (.c (.int .i64 0)), none, false⟩])
 (.seq (.reg [⟨(some 13), .build [(.int .u8 0), (.int .u8 0), (.int .u16 0), (.int .u16 0), .nils, .nils] [], none, false⟩, ⟨(some 6), .alloc [(2, (.int .u8 0)), (2, (.int .u16 0)), (2, .nils)], none, false⟩, ⟨none, .store 6 (.t 6) (.t 13), none, false⟩])
 (.seq (.seq (.reg [⟨(some 15), .load true 6 (.t 2), none, false⟩, ⟨(some 16), .call 48 [(.t 15)], none, false⟩, ⟨(some 14), .mov (.t 16), none, false⟩, ⟨(some 17), .ext (.t 14) 0, none, false⟩, ⟨(some 18), .ext (.t 14) 1, none, false⟩, ⟨(some 7), .mov (.t 17), none, false⟩, ⟨(some 8), .mov (.t 18), none, false⟩])
 (.seq (.reg [⟨(some 19), .mov (.t 8), none, false⟩, ⟨(some 20), .bin .neq .other (.t 19) (.c (.int .i64 0)), none, false⟩, ⟨(some 21), .mov (.t 20), none, true⟩, ⟨(some 22), .mov (.t 1), (some (21, false)), false⟩, ⟨(some 23), .len false (.t 22), (some (21, false)), false⟩, ⟨(some 24), .bin .lss .other (.t 23) (.c (.int .i64 2)), (some (21, false)), false⟩, ⟨(some 25), .pick (.t 21) (.c (.bool true)) (.t 24), none, false⟩])
 (.cond (.t 25) (.seq (.reg [⟨(some 26), .load true 6 (.t 6), none, false⟩, ⟨none, .store 6 (.t 4) (.t 26), none, false⟩, ⟨(some 5), .mov (.c (.int .i64 30)), none, false⟩])
 .ret)
 .skip)))
 (.seq (.seq (.draw [⟨0, ⟨(some 27), .mov (.t 1), none, false⟩, false, [], []⟩, ⟨1, ⟨(some 28), .idx 1 none false (.t 27) (.c (.int .i64 0)), none, false⟩, false, [], []⟩, ⟨2, ⟨(some 29), .load false 1 (.t 28), none, false⟩, false, [], []⟩, ⟨3, ⟨(some 30), .fld 0 1 false (.t 2), none, false⟩, false, [], []⟩, ⟨4, ⟨(some 31), .load false 1 (.t 30), none, false⟩, false, [], []⟩, ⟨5, ⟨(some 32), .bin .or .other (.t 31) (.c (.int .u8 128)), none, false⟩, false, [], []⟩, ⟨6, ⟨(some 33), .bin .eql .other (.t 29) (.t 32), none, false⟩, false, [], []⟩])
 (.cond (.t 33) (.seq (.seq (.reg [⟨(some 34), .mov (.t 1), none, false⟩, ⟨(some 35), .len false (.t 34), none, false⟩, ⟨(some 36), .bin .neq .other (.t 35) (.c (.int .i64 2)), none, false⟩, ⟨(some 37), .mov (.t 36), none, true⟩, ⟨(some 38), .mov (.t 1), (some (37, false)), false⟩, ⟨(some 39), .idx 1 none false (.t 38) (.c (.int .i64 1)), (some (37, false)), false⟩, ⟨(some 40), .load false 1 (.t 39), (some (37, false)), false⟩, ⟨(some 41), .bin .eql .other (.t 40) (.c (.int .u8 0)), (some (37, false)), false⟩, ⟨(some 42), .pick (.t 37) (.c (.bool true)) (.t 41), none, false⟩])
 (.cond (.t 42) (.seq (.reg [⟨(some 43), .load true 6 (.t 6), none, false⟩, ⟨none, .store 6 (.t 4) (.t 43), none, false⟩, ⟨(some 5), .mov (.c (.int .i64 30)), none, false⟩])
 .ret)
 .skip))
 (.seq (.draw [⟨0, ⟨(some 44), .fld 0 1 false (.t 2), none, false⟩, false, [], []⟩, ⟨1, ⟨(some 45), .load false 1 (.t 44), none, false⟩, false, [], []⟩, ⟨2, ⟨(some 46), .mov (.t 1), none, false⟩, false, [], []⟩, ⟨3, ⟨(some 47), .idx 1 none false (.t 46) (.c (.int .i64 1)), none, false⟩, false, [], []⟩, ⟨4, ⟨(some 48), .load false 1 (.t 47), none, false⟩, false, [], []⟩, ⟨5, ⟨(some 49), .build [(.int .u8 0), (.int .u8 0), (.int .u16 0), (.int .u16 0), .nils, .nils] [(0, 1, (.t 45)), (1, 1, (.t 48))], none, false⟩, false, [], []⟩, ⟨6, ⟨none, .store 6 (.t 4) (.t 49), none, false⟩, true, [], []⟩, ⟨7, ⟨(some 5), .mov (.c (.int .i64 0)), none, false⟩, false, [], []⟩])
 .ret))
 .skip))
 (.seq (.reg [⟨(some 50), .fld 0 1 false (.t 2), none, false⟩, ⟨(some 51), .load false 1 (.t 50), none, false⟩, ⟨(some 52), .build [(.int .u8 0), (.int .u8 0), (.int .u16 0), (.int .u16 0), .nils, .nils] [(0, 1, (.t 51))], none, false⟩, ⟨(some 9), .alloc [(2, (.int .u8 0)), (2, (.int .u16 0)), (2, .nils)], none, false⟩, ⟨none, .store 6 (.t 9) (.t 52), none, false⟩])
 (.seq (.seq (.reg [⟨(some 53), .fld 0 1 false (.t 2), none, false⟩, ⟨(some 54), .load false 1 (.t 53), none, false⟩])
 (.block 0 (.seq (.seq (.reg [⟨(some 56), .bin .eql .other (.t 54) (.c (.int .u8 1)), none, false⟩, ⟨(some 55), .mov (.t 56), none, false⟩])
 (.cond (.t 55) .skip
 (.reg [⟨(some 57), .bin .eql .other (.t 54) (.c (.int .u8 2)), none, false⟩, ⟨(some 55), .mov (.t 57), none, false⟩])))
 (.cond (.t 55) (.seq (.reg [⟨(some 58), .fld 2 1 false (.t 2), none, false⟩, ⟨(some 59), .load false 1 (.t 58), none, false⟩, ⟨(some 60), .conv (.int .i64) (.t 59), none, false⟩, ⟨(some 61), .bin .add .other (.t 60) (.c (.int .i64 7)), none, false⟩, ⟨(some 62), .bin .quo .other (.t 61) (.c (.int .i64 8)), none, false⟩, ⟨(some 10), .mov (.t 62), none, false⟩])
 (.seq (.seq (.draw [⟨0, ⟨(some 63), .mov (.t 1), none, false⟩, false, [], []⟩, ⟨1, ⟨(some 64), .idx 1 none false (.t 63) (.c (.int .i64 0)), none, false⟩, false, [], []⟩, ⟨2, ⟨(some 65), .load false 1 (.t 64), none, false⟩, false, [], []⟩, ⟨3, ⟨(some 66), .fld 0 1 false (.t 2), none, false⟩, false, [], []⟩, ⟨4, ⟨(some 67), .load false 1 (.t 66), none, false⟩, false, [], []⟩, ⟨5, ⟨(some 68), .bin .neq .other (.t 65) (.t 67), none, false⟩, false, [], []⟩, ⟨6, ⟨(some 69), .mov (.t 68), none, true⟩, false, [], []⟩, ⟨7, ⟨(some 70), .mov (.t 1), (some (69, false)), false⟩, false, [], []⟩, ⟨8, ⟨(some 71), .idx 1 none false (.t 70) (.c (.int .i64 1)), (some (69, false)), false⟩, false, [], []⟩, ⟨9, ⟨(some 72), .load false 1 (.t 71), (some (69, false)), false⟩, false, [], []⟩, ⟨10, ⟨(some 73), .conv (.int .i64) (.t 72), (some (69, false)), false⟩, false, [], []⟩, ⟨11, ⟨(some 74), .mov (.t 10), (some (69, false)), false⟩, false, [], []⟩, ⟨12, ⟨(some 75), .bin .neq .other (.t 73) (.t 74), (some (69, false)), false⟩, false, [], []⟩, ⟨13, ⟨(some 76), .pick (.t 69) (.c (.bool true)) (.t 75), none, false⟩, false, [], []⟩, ⟨14, ⟨(some 77), .mov (.t 76), none, true⟩, false, [], []⟩, ⟨15, ⟨(some 78), .mov (.t 1), (some (77, false)), false⟩, false, [], []⟩, ⟨16, ⟨(some 79), .len false (.t 78), (some (77, false)), false⟩, false, [], []⟩, ⟨17, ⟨(some 80), .mov (.t 10), (some (77, false)), false⟩, false, [], []⟩, ⟨18, ⟨(some 81), .bin .add .other (.t 80) (.c (.int .i64 2)), (some (77, false)), false⟩, false, [], []⟩, ⟨19, ⟨(some 82), .bin .neq .other (.t 79) (.t 81), (some (77, false)), false⟩, false, [], []⟩, ⟨20, ⟨(some 83), .pick (.t 77) (.c (.bool true)) (.t 82), none, false⟩, false, [], []⟩])
 (.cond (.t 83) (.seq (.reg [⟨(some 84), .load true 6 (.t 6), none, false⟩, ⟨none, .store 6 (.t 4) (.t 84), none, false⟩, ⟨(some 5), .mov (.c (.int .i64 30)), none, false⟩])
 .ret)
 .skip))
 (.seq (.draw [⟨0, ⟨(some 85), .mov (.t 1), none, false⟩, false, [], []⟩, ⟨1, ⟨(some 86), .slice (.sl 1) (.t 85) (some (.c (.int .i64 2))) none, none, false⟩, false, [], []⟩, ⟨2, ⟨(some 87), .fld 2 1 false (.t 2), none, false⟩, false, [], []⟩, ⟨3, ⟨(some 88), .load false 1 (.t 87), none, false⟩, false, [], []⟩, ⟨4, ⟨(some 89), .conv (.int .i64) (.t 88), none, false⟩, false, [], []⟩, ⟨5, ⟨(some 90), .call 64 [(.t 86), (.t 89)], none, false⟩, true, [], []⟩, ⟨6, ⟨(some 91), .fld 4 1 false (.t 9), none, false⟩, false, [], []⟩, ⟨7, ⟨none, .store 1 (.t 91) (.t 90), none, false⟩, true, [], []⟩])
 (.seq (.reg [⟨(some 92), .load true 6 (.t 9), none, false⟩, ⟨none, .store 6 (.t 4) (.t 92), none, false⟩, ⟨(some 5), .mov (.c (.int .i64 0)), none, false⟩])
 .ret))))
 (.seq (.seq (.reg [⟨(some 94), .bin .eql .other (.t 54) (.c (.int .u8 3)), none, false⟩, ⟨(some 93), .mov (.t 94), none, false⟩])
 (.cond (.t 93) .skip
 (.seq (.reg [⟨(some 95), .bin .eql .other (.t 54) (.c (.int .u8 4)), none, false⟩, ⟨(some 93), .mov (.t 95), none, false⟩])
 (.cond (.t 93) .skip
 (.reg [⟨(some 96), .bin .eql .other (.t 54) (.c (.int .u8 23)), none, false⟩, ⟨(some 93), .mov (.t 96), none, false⟩])))))
 (.cond (.t 93) (.seq (.reg [⟨(some 97), .mov (.t 1), none, false⟩, ⟨(some 98), .slice (.sl 1) (.t 97) (some (.c (.int .i64 2))) none, none, false⟩, ⟨(some 99), .call 121 [(.t 98)], none, false⟩, ⟨(some 100), .fld 5 1 false (.t 9), none, false⟩, ⟨none, .store 1 (.t 100) (.t 99), none, false⟩])
 (.seq (.reg [⟨(some 101), .fld 5 1 false (.t 9), none, false⟩, ⟨(some 102), .load false 1 (.t 101), none, false⟩, ⟨(some 103), .len false (.t 102), none, false⟩, ⟨(some 104), .fld 2 1 false (.t 2), none, false⟩, ⟨(some 105), .load false 1 (.t 104), none, false⟩, ⟨(some 106), .conv (.int .i64) (.t 105), none, false⟩, ⟨(some 107), .bin .neq .other (.t 103) (.t 106), none, false⟩])
 (.cond (.t 107) (.seq (.reg [⟨(some 108), .load true 6 (.t 6), none, false⟩, ⟨none, .store 6 (.t 4) (.t 108), none, false⟩, ⟨(some 5), .mov (.c (.int .i64 30)), none, false⟩])
 .ret)
 .skip)))
 (.seq (.seq (.reg [⟨(some 110), .bin .eql .other (.t 54) (.c (.int .u8 5)), none, false⟩, ⟨(some 109), .mov (.t 110), none, false⟩])
 (.cond (.t 109) .skip
 (.seq (.reg [⟨(some 111), .bin .eql .other (.t 54) (.c (.int .u8 6)), none, false⟩, ⟨(some 109), .mov (.t 111), none, false⟩])
 (.cond (.t 109) .skip
 (.reg [⟨(some 112), .bin .eql .other (.t 54) (.c (.int .u8 22)), none, false⟩, ⟨(some 109), .mov (.t 112), none, false⟩])))))
 (.cond (.t 109) (.draw [⟨0, ⟨(some 113), .fld 1 1 false (.t 2), none, false⟩, false, [], []⟩, ⟨1, ⟨(some 114), .load false 1 (.t 113), none, false⟩, false, [], []⟩, ⟨2, ⟨(some 115), .fld 4 1 false (.t 2), none, false⟩, false, [], []⟩, ⟨3, ⟨(some 116), .load false 1 (.t 115), none, false⟩, false, [], []⟩, ⟨5, ⟨(some 118), .fld 5 1 false (.t 2), none, false⟩, false, [], []⟩, ⟨6, ⟨(some 119), .load false 1 (.t 118), none, false⟩, false, [], []⟩, ⟨8, ⟨(some 121), .fld 2 1 false (.t 9), none, false⟩, false, [], []⟩, ⟨4, ⟨(some 117), .call 122 [(.t 116)], none, false⟩, true, [], [(.t 113), (.t 118)]⟩, ⟨7, ⟨(some 120), .call 101 [(.t 119)], none, false⟩, true, [], [(.t 113)]⟩, ⟨9, ⟨none, .store 1 (.t 121) (.t 114), none, false⟩, true, [], []⟩, ⟨10, ⟨(some 122), .fld 4 1 false (.t 9), none, false⟩, false, [], []⟩, ⟨11, ⟨none, .store 1 (.t 122) (.t 117), none, false⟩, true, [], []⟩, ⟨12, ⟨(some 123), .fld 5 1 false (.t 9), none, false⟩, false, [], []⟩, ⟨13, ⟨none, .store 1 (.t 123) (.t 120), none, false⟩, true, [], []⟩])
 (.seq (.reg [⟨(some 125), .bin .eql .other (.t 54) (.c (.int .u8 15)), none, false⟩, ⟨(some 124), .mov (.t 125), none, false⟩])
 (.cond (.t 124) (.draw [⟨0, ⟨(some 126), .fld 1 1 false (.t 2), none, false⟩, false, [], []⟩, ⟨1, ⟨(some 127), .load false 1 (.t 126), none, false⟩, false, [], []⟩, ⟨2, ⟨(some 128), .fld 4 1 false (.t 2), none, false⟩, false, [], []⟩, ⟨3, ⟨(some 129), .load false 1 (.t 128), none, false⟩, false, [], []⟩, ⟨4, ⟨(some 130), .len false (.t 129), none, false⟩, false, [], []⟩, ⟨5, ⟨(some 131), .conv (.int .u16) (.t 130), none, false⟩, false, [], []⟩, ⟨6, ⟨(some 132), .fld 2 1 false (.t 9), none, false⟩, false, [], []⟩, ⟨7, ⟨none, .store 1 (.t 132) (.t 127), none, false⟩, true, [], [(.t 128)]⟩, ⟨8, ⟨(some 133), .fld 3 1 false (.t 9), none, false⟩, false, [], []⟩, ⟨9, ⟨none, .store 1 (.t 133) (.t 131), none, false⟩, true, [], []⟩])
 (.seq (.reg [⟨(some 135), .bin .eql .other (.t 54) (.c (.int .u8 16)), none, false⟩, ⟨(some 134), .mov (.t 135), none, false⟩])
 (.cond (.t 134) (.draw [⟨0, ⟨(some 136), .fld 1 1 false (.t 2), none, false⟩, false, [], []⟩, ⟨1, ⟨(some 137), .load false 1 (.t 136), none, false⟩, false, [], []⟩, ⟨2, ⟨(some 138), .fld 5 1 false (.t 2), none, false⟩, false, [], []⟩, ⟨3, ⟨(some 139), .load false 1 (.t 138), none, false⟩, false, [], []⟩, ⟨4, ⟨(some 140), .len false (.t 139), none, false⟩, false, [], []⟩, ⟨5, ⟨(some 141), .conv (.int .u16) (.t 140), none, false⟩, false, [], []⟩, ⟨6, ⟨(some 142), .fld 2 1 false (.t 9), none, false⟩, false, [], []⟩, ⟨7, ⟨none, .store 1 (.t 142) (.t 137), none, false⟩, true, [], [(.t 138)]⟩, ⟨8, ⟨(some 143), .fld 3 1 false (.t 9), none, false⟩, false, [], []⟩, ⟨9, ⟨none, .store 1 (.t 143) (.t 141), none, false⟩, true, [], []⟩])
 .skip))))))))))))
 (.seq (.seq (.reg [⟨(some 145), .load true 6 (.t 9), none, false⟩, ⟨(some 146), .call 56 [(.t 145)], none, false⟩, ⟨(some 144), .mov (.t 146), none, false⟩, ⟨(some 147), .ext (.t 144) 0, none, false⟩, ⟨(some 148), .ext (.t 144) 1, none, false⟩, ⟨(some 11), .mov (.t 147), none, false⟩, ⟨(some 12), .mov (.t 148), none, false⟩])
 (.seq (.reg [⟨(some 149), .mov (.t 12), none, false⟩, ⟨(some 150), .bin .neq .other (.t 149) (.c (.int .i64 0)), none, false⟩, ⟨(some 151), .mov (.t 150), none, true⟩, ⟨(some 152), .mov (.t 11), (some (151, false)), false⟩, ⟨(some 153), .mov (.t 1), (some (151, false)), false⟩, ⟨(some 154), .call 115 [(.t 152), (.t 153)], (some (151, false)), false⟩, ⟨(some 155), .un .not (.t 154), (some (151, false)), false⟩, ⟨(some 156), .pick (.t 151) (.c (.bool true)) (.t 155), none, false⟩])
 (.cond (.t 156) (.seq (.reg [⟨(some 157), .load true 6 (.t 6), none, false⟩, ⟨none, .store 6 (.t 4) (.t 157), none, false⟩, ⟨(some 5), .mov (.c (.int .i64 30)), none, false⟩])
 .ret)
 .skip)))
 (.seq (.reg [⟨(some 158), .load true 6 (.t 9), none, false⟩, ⟨none, .store 6 (.t 4) (.t 158), none, false⟩, ⟨(some 5), .mov (.c (.int .i64 0)), none, false⟩])
 .ret))))))))
def r58 : List ARes := [.cell 4 true 6, .t 5]
theorem c58 : compF Try.prog Try.f58 = some (a58, r58) := by kernel_rfl

theorem b58 : hasBody Try.prog 58 = true := by kernel_rfl
theorem g58 : Try.prog.funcs[58]? = some Try.f58 := by kernel_rfl
/- rung/runglaw3.known -/
def a46 : ACode := (.seq (.reg [⟨(some 0), .mov (.c (.bool false)), none, false⟩])
 (.seq (.reg [⟨(some 12), .build [(.int .u8 0), (.int .u16 0), (.int .u16 0), (.int .u16 0), .nils, .nils] [(0, 1, (.c (.int .u8 3))), (1, 1, (.c (.int .u16 107))), (2, 1, (.c (.int .u16 3)))], none, false⟩, ⟨(some 13), .call 48 [(.t 12)], none, false⟩, ⟨(some 11), .mov (.t 13), none, false⟩, ⟨(some 14), .ext (.t 11) 0, none, false⟩, ⟨(some 15), .ext (.t 11) 1, none, false⟩, ⟨(some 1), .mov (.t 14), none, false⟩, ⟨(some 2), .mov (.t 15), none, false⟩])
 (.seq (.reg [⟨(some 17), .mov (.t 1), none, false⟩, ⟨(some 18), .call 51 [(.t 17)], none, false⟩, ⟨(some 16), .mov (.t 18), none, false⟩, ⟨(some 19), .ext (.t 16) 0, none, false⟩, ⟨(some 20), .ext (.t 16) 1, none, false⟩, ⟨(some 3), .alloc [(1, (.int .u8 0)), (3, (.int .u16 0)), (2, .nils)], none, false⟩, ⟨none, .store 6 (.t 3) (.t 19), none, false⟩, ⟨(some 4), .mov (.t 20), none, false⟩])
 (.seq (.reg [⟨(some 22), .build [(.int .u8 0), (.int .u8 0), (.int .u16 0), (.int .u16 0), .nils, .nils] [(0, 1, (.c (.int .u8 1))), (1, 1, (.c (.int .u8 2)))], none, false⟩, ⟨(some 23), .call 56 [(.t 22)], none, false⟩, ⟨(some 21), .mov (.t 23), none, false⟩, ⟨(some 24), .ext (.t 21) 0, none, false⟩, ⟨(some 25), .ext (.t 21) 1, none, false⟩, ⟨(some 5), .mov (.t 24), none, false⟩, ⟨(some 6), .mov (.t 25), none, false⟩])
 (.seq (.reg [⟨(some 27), .load true 6 (.t 3), none, false⟩, ⟨(some 28), .bslice 1 (.int .u8) [(.int .u8 0), (.int .u8 0), (.int .u8 0), (.int .u8 0), (.int .u8 0), (.int .u8 0), (.int .u8 0), (.int .u8 0)] [(0, 1, (.c (.int .u8 3))), (1, 1, (.c (.int .u8 6))), (2, 1, (.c (.int .u8 0))), (3, 1, (.c (.int .u8 1))), (4, 1, (.c (.int .u8 0))), (5, 1, (.c (.int .u8 2))), (6, 1, (.c (.int .u8 0))), (7, 1, (.c (.int .u8 3)))] 8, none, false⟩, ⟨(some 29), .call 58 [(.t 27), (.t 28)], none, false⟩, ⟨(some 26), .mov (.t 29), none, false⟩, ⟨(some 30), .ext (.t 26) 0, none, false⟩, ⟨(some 31), .ext (.t 26) 1, none, false⟩, ⟨(some 7), .alloc [(2, (.int .u8 0)), (2, (.int .u16 0)), (2, .nils)], none, false⟩, ⟨none, .store 6 (.t 7) (.t 30), none, false⟩, ⟨(some 8), .mov (.t 31), none, false⟩])
 (.seq (.reg [⟨(some 33), .load true 6 (.t 3), none, false⟩, ⟨(some 34), .bslice 1 (.int .u8) [(.int .u8 0), (.int .u8 0), (.int .u8 0), (.int .u8 0), (.int .u8 0), (.int .u8 0)] [(0, 1, (.c (.int .u8 3))), (1, 1, (.c (.int .u8 4))), (2, 1, (.c (.int .u8 0))), (3, 1, (.c (.int .u8 1))), (4, 1, (.c (.int .u8 0))), (5, 1, (.c (.int .u8 2)))] 6, none, false⟩, ⟨(some 35), .call 58 [(.t 33), (.t 34)], none, false⟩, ⟨(some 32), .mov (.t 35), none, false⟩, ⟨(some 36), .ext (.t 32) 0, none, false⟩, ⟨(some 37), .ext (.t 32) 1, none, false⟩, ⟨(some 9), .alloc [(2, (.int .u8 0)), (2, (.int .u16 0)), (2, .nils)], none, false⟩, ⟨none, .store 6 (.t 9) (.t 36), none, false⟩, ⟨(some 10), .mov (.t 37), none, false⟩])
 (.seq (.reg [⟨(some 38), .mov (.t 2), none, false⟩, ⟨(some 39), .mov (.t 4), none, false⟩, ⟨(some 40), .bin .add .other (.t 38) (.t 39), none, false⟩, ⟨(some 41), .mov (.t 6), none, false⟩, ⟨(some 42), .bin .add .other (.t 40) (.t 41), none, false⟩, ⟨(some 43), .mov (.t 8), none, false⟩, ⟨(some 44), .bin .add .other (.t 42) (.t 43), none, false⟩, ⟨(some 45), .bin .eql .other (.t 44) (.c (.int .i64 0)), none, false⟩, ⟨(some 46), .mov (.t 45), none, true⟩, ⟨(some 47), .mov (.t 1), (some (46, true)), false⟩, ⟨(some 48), .bslice 1 (.int .u8) [(.int .u8 0), (.int .u8 0), (.int .u8 0), (.int .u8 0), (.int .u8 0)] [(0, 1, (.c (.int .u8 3))), (1, 1, (.c (.int .u8 0))), (2, 1, (.c (.int .u8 107))), (3, 1, (.c (.int .u8 0))), (4, 1, (.c (.int .u8 3)))] 5, (some (46, true)), false⟩, ⟨(some 49), .call 50 [(.t 47), (.t 48)], (some (46, true)), false⟩, ⟨(some 50), .pick (.t 46) (.t 49) (.c (.bool false)), none, false⟩, ⟨(some 51), .mov (.t 50), none, true⟩, ⟨(some 52), .fld 2 1 false (.t 3), (some (51, true)), false⟩, ⟨(some 53), .load false 1 (.t 52), (some (51, true)), false⟩, ⟨(some 54), .bin .eql .other (.t 53) (.c (.int .u16 3)), (some (51, true)), false⟩, ⟨(some 55), .pick (.t 51) (.t 54) (.c (.bool false)), none, false⟩, ⟨(some 56), .mov (.t 55), none, true⟩, ⟨(some 57), .mov (.t 5), (some (56, true)), false⟩, ⟨(some 58), .bslice 1 (.int .u8) [(.int .u8 0), (.int .u8 0)] [(0, 1, (.c (.int .u8 129))), (1, 1, (.c (.int .u8 2)))] 2, (some (56, true)), false⟩, ⟨(some 59), .call 50 [(.t 57), (.t 58)], (some (56, true)), false⟩, ⟨(some 60), .pick (.t 56) (.t 59) (.c (.bool false)), none, false⟩, ⟨(some 61), .mov (.t 60), none, true⟩, ⟨(some 62), .fld 5 1 false (.t 7), (some (61, true)), false⟩, ⟨(some 63), .load false 1 (.t 62), (some (61, true)), false⟩, ⟨(some 64), .len false (.t 63), (some (61, true)), false⟩, ⟨(some 65), .bin .eql .other (.t 64) (.c (.int .i64 3)), (some (61, true)), false⟩, ⟨(some 66), .pick (.t 61) (.t 65) (.c (.bool false)), none, false⟩, ⟨(some 67), .mov (.t 66), none, true⟩, ⟨(some 68), .fld 5 1 false (.t 7), (some (67, true)), false⟩, ⟨(some 69), .load false 1 (.t 68), (some (67, true)), false⟩, ⟨(some 70), .idx 1 none false (.t 69) (.c (.int .i64 2)), (some (67, true)), false⟩, ⟨(some 71), .load false 1 (.t 70), (some (67, true)), false⟩, ⟨(some 72), .bin .eql .other (.t 71) (.c (.int .u16 3)), (some (67, true)), false⟩, ⟨(some 73), .pick (.t 67) (.t 72) (.c (.bool false)), none, false⟩, ⟨(some 74), .mov (.t 73), none, true⟩, ⟨(some 75), .mov (.t 10), (some (74, true)), false⟩, ⟨(some 76), .bin .eql .other (.t 75) (.c (.int .i64 30)), (some (74, true)), false⟩, ⟨(some 77), .pick (.t 74) (.t 76) (.c (.bool false)), none, false⟩, ⟨(some 78), .mov (.t 77), none, true⟩, ⟨(some 79), .call 65 [(.c (.int .u8 23))], (some (78, true)), false⟩, ⟨(some 80), .pick (.t 78) (.t 79) (.c (.bool false)), none, false⟩, ⟨(some 81), .mov (.t 80), none, true⟩, ⟨(some 82), .call 65 [(.c (.int .u8 7))], (some (81, true)), false⟩, ⟨(some 83), .un .not (.t 82), (some (81, true)), false⟩, ⟨(some 84), .pick (.t 81) (.t 83) (.c (.bool false)), none, false⟩, ⟨(some 0), .mov (.t 84), none, false⟩])
 .ret)))))))
def r46 : List ARes := [.t 0]
theorem c46 : compF Try.prog Try.f46 = some (a46, r46) := by kernel_rfl

theorem b46 : hasBody Try.prog 46 = true := by kernel_rfl
theorem g46 : Try.prog.funcs[46]? = some Try.f46 := by kernel_rfl
/- rung/runglaw3.light -/
def a47 : ACode := (.seq (.reg [⟨(some 1), .box (.t 0), none, false⟩, ⟨(some 2), .mov (.c (.bool false)), none, false⟩])
 (.seq (.reg [⟨(some 3), .fld 4 1 false (.t 1), none, false⟩, ⟨(some 4), .load false 1 (.t 3), none, false⟩, ⟨(some 5), .len false (.t 4), none, false⟩, ⟨(some 6), .bin .leq .other (.t 5) (.c (.int .i64 2500)), none, false⟩, ⟨(some 7), .mov (.t 6), none, true⟩, ⟨(some 8), .fld 5 1 false (.t 1), (some (7, true)), false⟩, ⟨(some 9), .load false 1 (.t 8), (some (7, true)), false⟩, ⟨(some 10), .len false (.t 9), (some (7, true)), false⟩, ⟨(some 11), .bin .leq .other (.t 10) (.c (.int .i64 200)), (some (7, true)), false⟩, ⟨(some 12), .pick (.t 7) (.t 11) (.c (.bool false)), none, false⟩, ⟨(some 2), .mov (.t 12), none, false⟩])
 .ret))
def r47 : List ARes := [.t 2]
theorem c47 : compF Try.prog Try.f47 = some (a47, r47) := by kernel_rfl

theorem b47 : hasBody Try.prog 47 = true := by kernel_rfl
theorem g47 : Try.prog.funcs[47]? = some Try.f47 := by kernel_rfl
/- rung/runglaw3.lightly -/
def a55 : ACode := (.seq (.reg [⟨(some 1), .box (.t 0), none, false⟩, ⟨(some 2), .mov (.c (.bool false)), none, false⟩])
 (.seq (.reg [⟨(some 3), .fld 4 1 false (.t 1), none, false⟩, ⟨(some 4), .load false 1 (.t 3), none, false⟩, ⟨(some 5), .len false (.t 4), none, false⟩, ⟨(some 6), .bin .leq .other (.t 5) (.c (.int .i64 2500)), none, false⟩, ⟨(some 7), .mov (.t 6), none, true⟩, ⟨(some 8), .fld 5 1 false (.t 1), (some (7, true)), false⟩, ⟨(some 9), .load false 1 (.t 8), (some (7, true)), false⟩, ⟨(some 10), .len false (.t 9), (some (7, true)), false⟩, ⟨(some 11), .bin .leq .other (.t 10) (.c (.int .i64 200)), (some (7, true)), false⟩, ⟨(some 12), .pick (.t 7) (.t 11) (.c (.bool false)), none, false⟩, ⟨(some 2), .mov (.t 12), none, false⟩])
 .ret))
def r55 : List ARes := [.t 2]
theorem c55 : compF Try.prog Try.f55 = some (a55, r55) := by kernel_rfl

theorem b55 : hasBody Try.prog 55 = true := by kernel_rfl
theorem g55 : Try.prog.funcs[55]? = some Try.f55 := by kernel_rfl

theorem leReqN {f a n a2 : Int} {B R : AV} {b : List Bool} {r : List Int} (hb : Le B (.roB b)) (hr : Le R (.roI .u16 r)) : LeL [reqA f a n a2 B R] [reqA f a n a2 (.roB b) (.roI .u16 r)] :=
  ⟨Le.agg ⟨Le.refl _, Le.refl _, Le.refl _, Le.refl _, hb, hr, trivial⟩, trivial⟩
theorem leRepN {f a n a2 : Int} {B R : AV} {b : List Bool} {r : List Int} (hb : Le B (.roB b)) (hr : Le R (.roI .u16 r)) : LeL [repA f a n a2 B R] [repA f a n a2 (.roB b) (.roI .u16 r)] :=
  ⟨Le.agg ⟨Le.refl _, Le.refl _, Le.refl _, Le.refl _, hb, hr, trivial⟩, trivial⟩
theorem leRep {f x a n : Int} {B R : AV} {e e' : Int} {f' x' a' n' : Int} {b : List Bool} {r : List Int} (hf : f = f') (hx : x = x') (ha : a = a') (hn : n = n') (hb : Le B (.roB b)) (hr : Le R (.roI .u16 r)) (he : e = e') :
    Le (.tup [repA f x a n B R, .int .i64 e]) (.tup [repA f' x' a' n' (.roB b) (.roI .u16 r), .int .i64 e']) := by
  subst hf; subst ha; subst hn; subst hx; subst he
  exact Le.tup ⟨Le.agg ⟨Le.refl _, Le.refl _, Le.refl _, Le.refl _, hb, hr, trivial⟩, Le.refl _, trivial⟩
theorem bytes_ev (l m : List Int) : Ev Try.prog 50 [.roI .u8 l, .roI .u8 m] (.bool ((bytesStr l).toList == (bytesStr m).toList)) := ⟨rfl, bytes_tr l m⟩
theorem kreq : Ev Try.prog 48 [reqA 3 107 3 0 (.roB []) (.roI .u16 [])] (.tup [.roI .u8 [3, 0, 107, 0, 3], .int .i64 0]) := by
  have h := Request_ev 3 107 3 0 [] [] (by decide) (by decide) (by decide) (by decide)
  rw [show encR 3 107 3 0 [] [] = [3, 0, 107, 0, 3] by kernel_rfl, show encE 3 3 0 [] [] = 0 by kernel_rfl] at h
  exact h
theorem kopen : Ev Try.prog 51 [.roI .u8 [3, 0, 107, 0, 3]] (.tup [reqA 3 107 3 0 (.roB []) (.roI .u16 []), .int .i64 0]) := by
  have h := OpenRequest_ev [3, 0, 107, 0, 3] (by decide)
  rw [show decS [3, 0, 107, 0, 3] = (⟨3, 107, 3, 0, [], []⟩, 0) by kernel_rfl] at h
  exact h
theorem krep : Ev Try.prog 56 [repA 1 2 0 0 (.roB []) (.roI .u16 [])] (.tup [.roI .u8 [129, 2], .int .i64 0]) := by
  have h := Reply_ev 1 2 0 0 [] [] (by decide) (by decide) (by decide) (by decide)
  rw [show repB 1 2 0 0 [] [] = [129, 2] by kernel_rfl, show repE 1 2 0 0 [] [] = 0 by kernel_rfl] at h
  exact h
theorem krep2 : Ev Try.prog 56 [repA 3 0 0 0 (.roB []) (.roI .u16 [1, 2, 3])] (.tup [.roI .u8 [3, 6, 0, 1, 0, 2, 0, 3], .int .i64 0]) := by
  have h := Reply_ev 3 0 0 0 [] [1, 2, 3] (by decide) (by decide) (by decide) (by decide)
  rw [show repB 3 0 0 0 [] [1, 2, 3] = [3, 6, 0, 1, 0, 2, 0, 3] by kernel_rfl, show repE 3 0 0 0 [] [1, 2, 3] = 0 by kernel_rfl] at h
  exact h
theorem knums : Ev Try.prog 121 [.roI .u8 [0, 1, 0, 2, 0, 3]] (.roI .u16 [1, 2, 3]) := by
  have h := numbers_ev [0, 1, 0, 2, 0, 3] (by decide)
  rw [show numsN [0, 1, 0, 2, 0, 3] (([0, 1, 0, 2, 0, 3] : List Int).length / 2) = [1, 2, 3] by kernel_rfl] at h
  exact h
theorem knums2 : Ev Try.prog 121 [.roI .u8 [0, 1, 0, 2]] (.roI .u16 [1, 2]) := by
  have h := numbers_ev [0, 1, 0, 2] (by decide)
  rw [show numsN [0, 1, 0, 2] (([0, 1, 0, 2] : List Int).length / 2) = [1, 2] by kernel_rfl] at h
  exact h
theorem korep : Ev Try.prog 58 [reqA 3 107 3 0 (.roB []) (.roI .u16 []), .roI .u8 [3, 6, 0, 1, 0, 2, 0, 3]] (.tup [repA 3 0 0 0 (.roB []) (.roI .u16 [1, 2, 3]), .int .i64 0]) := by
  refine FrzK.ev rfl ?_
  refine trF g58 b58 c58 ?_
  conv => whnf
  refine Ev.call kreq ?_
  conv => whnf
  refine Ev.call knums ?_
  conv => whnf
  refine Tr.le (leRepN Le.nilB (Le.refl _)) (Ev.call krep2 ?_)
  conv => whnf
  refine Ev.call (equal8_ev [3, 6, 0, 1, 0, 2, 0, 3] [3, 6, 0, 1, 0, 2, 0, 3] (by decide)) ?_
  conv => whnf
  exact FrzK.le (leRep rfl rfl rfl rfl Le.nilB (Le.refl _) rfl)
theorem korep2 : Ev Try.prog 58 [reqA 3 107 3 0 (.roB []) (.roI .u16 []), .roI .u8 [3, 4, 0, 1, 0, 2]] (.tup [repA 0 0 0 0 (.roB []) (.roI .u16 []), .int .i64 30]) := by
  refine FrzK.ev rfl ?_
  refine trF g58 b58 c58 ?_
  conv => whnf
  refine Ev.call kreq ?_
  conv => whnf
  refine Ev.call knums2 ?_
  conv => whnf
  exact FrzK.le (leRep rfl rfl rfl rfl Le.nilB (Le.nilI _) rfl)
theorem known_ev (x : Int) : Ev Try.prog 65 [.int .u8 x] (.bool (knownB x)) := ⟨rfl, known_tr x⟩
theorem kb1 : Ev Try.prog 50 [.roI .u8 [3, 0, 107, 0, 3], .roI .u8 [3, 0, 107, 0, 3]] (.bool true) := by
  have h := bytes_ev [3, 0, 107, 0, 3] [3, 0, 107, 0, 3]
  rwa [beq_self_eq_true] at h
theorem kb2 : Ev Try.prog 50 [.roI .u8 [129, 2], .roI .u8 [129, 2]] (.bool true) := by
  have h := bytes_ev [129, 2] [129, 2]
  rwa [beq_self_eq_true] at h
theorem known3 : Ev Try.prog 46 [] (.bool true) := by
  refine FrzK.ev rfl ?_
  refine trF g46 b46 c46 ?_
  conv => whnf
  refine Tr.le (leReqN Le.nilB (Le.nilI _)) (Ev.call kreq ?_)
  conv => whnf
  refine Ev.call kopen ?_
  conv => whnf
  refine Tr.le (leRepN Le.nilB (Le.nilI _)) (Ev.call krep ?_)
  conv => whnf
  refine Tr.lend (0 + 1) rfl (Ev.call korep ?_)
  conv => whnf
  refine Tr.lend (0 + 1 + 1 + 1) rfl (Ev.call korep2 ?_)
  conv => whnf
  refine Tr.lend 5 rfl (Ev.call kb1 ?_)
  conv => whnf
  refine Tr.lend 6 rfl (Ev.call kb2 ?_)
  conv => whnf
  refine Ev.call (known_ev 23) ?_
  conv => whnf
  refine Ev.call (known_ev 7) ?_
  conv => whnf
  exact FrzK.le (Le.refl _)
end Go.Proofs.Ytomodeliimnddaa
