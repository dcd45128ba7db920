/- Contracts: replies as bytes: pdu. -/
import Derived.Test.YtomodeliimnddaaAbReq2
set_option linter.unusedVariables false
set_option linter.unusedSimpArgs false
namespace Go.Proofs.Ytomodeliimnddaa
open Go.Ab
/- rung/pdu.reply -/
def a118 : ACode := (.seq (.reg [⟨(some 1), .box (.t 0), none, false⟩, ⟨(some 2), .mov (.c .nils), none, false⟩, ⟨(some 3), .alloc [(2, (.int .u8 0)), (2, (.int .u16 0)), (2, .nils)], none, false⟩, ⟨(some 4), .mov (.c (.bool false)), none, false⟩])
 (.seq (.reg [⟨(some 8), .fld 0 1 false (.t 1), none, false⟩, ⟨(some 9), .load false 1 (.t 8), none, false⟩, ⟨(some 10), .build [(.int .u8 0), (.int .u8 0), (.int .u16 0), (.int .u16 0), .nils, .nils] [(0, 1, (.t 9))], none, false⟩, ⟨(some 5), .alloc [(2, (.int .u8 0)), (2, (.int .u16 0)), (2, .nils)], none, false⟩, ⟨none, .store 6 (.t 5) (.t 10), none, false⟩])
 (.seq (.seq (.reg [⟨(some 11), .fld 1 1 false (.t 1), none, false⟩, ⟨(some 12), .load false 1 (.t 11), none, false⟩, ⟨(some 13), .bin .neq .other (.t 12) (.c (.int .u8 0)), none, false⟩])
 (.cond (.t 13) (.seq (.reg [⟨(some 14), .fld 1 1 false (.t 1), none, false⟩, ⟨(some 15), .load false 1 (.t 14), none, false⟩, ⟨(some 16), .fld 1 1 false (.t 5), none, false⟩, ⟨none, .store 1 (.t 16) (.t 15), none, false⟩])
 (.seq (.draw [⟨0, ⟨(some 17), .fld 0 1 false (.t 1), none, false⟩, false, [], []⟩, ⟨1, ⟨(some 18), .load false 1 (.t 17), none, false⟩, false, [], []⟩, ⟨2, ⟨(some 19), .bin .or .other (.t 18) (.c (.int .u8 128)), none, false⟩, false, [], []⟩, ⟨3, ⟨(some 20), .fld 1 1 false (.t 1), none, false⟩, false, [], []⟩, ⟨4, ⟨(some 21), .load false 1 (.t 20), none, false⟩, false, [], []⟩, ⟨5, ⟨(some 22), .bslice 1 (.int .u8) [(.int .u8 0), (.int .u8 0)] [(0, 1, (.t 19)), (1, 1, (.t 21))] 2, none, false⟩, false, [], []⟩, ⟨6, ⟨(some 23), .load true 6 (.t 5), none, false⟩, false, [], []⟩, ⟨7, ⟨(some 24), .fld 0 1 false (.t 1), none, false⟩, false, [], []⟩, ⟨8, ⟨(some 25), .load false 1 (.t 24), none, false⟩, false, [], []⟩, ⟨9, ⟨(some 26), .bin .lss .other (.t 25) (.c (.int .u8 128)), none, false⟩, false, [], []⟩, ⟨10, ⟨(some 2), .mov (.t 22), none, false⟩, false, [], []⟩, ⟨11, ⟨none, .store 6 (.t 3) (.t 23), none, false⟩, true, [5], [(.t 24)]⟩, ⟨12, ⟨(some 4), .mov (.t 26), none, false⟩, false, [], []⟩])
 .ret))
 .skip))
 (.seq (.reg [⟨(some 27), .fld 0 1 false (.t 1), none, false⟩, ⟨(some 28), .load false 1 (.t 27), none, false⟩, ⟨(some 29), .bslice 1 (.int .u8) [(.int .u8 0)] [(0, 1, (.t 28))] 1, none, false⟩, ⟨(some 6), .mov (.t 29), none, false⟩])
 (.seq (.seq (.reg [⟨(some 30), .fld 0 1 false (.t 1), none, false⟩, ⟨(some 31), .load false 1 (.t 30), none, false⟩])
 (.block 0 (.seq (.seq (.reg [⟨(some 33), .bin .eql .other (.t 31) (.c (.int .u8 1)), none, false⟩, ⟨(some 32), .mov (.t 33), none, false⟩])
 (.cond (.t 32) .skip
 (.reg [⟨(some 34), .bin .eql .other (.t 31) (.c (.int .u8 2)), none, false⟩, ⟨(some 32), .mov (.t 34), none, false⟩])))
 (.cond (.t 32) (.seq (.reg [⟨(some 35), .fld 4 1 false (.t 1), none, false⟩, ⟨(some 36), .load false 1 (.t 35), none, false⟩, ⟨(some 37), .fld 4 1 false (.t 5), none, false⟩, ⟨none, .store 1 (.t 37) (.t 36), none, false⟩])
 (.seq (.reg [⟨(some 38), .fld 4 1 false (.t 1), none, false⟩, ⟨(some 39), .load false 1 (.t 38), none, false⟩, ⟨(some 40), .call 61 [(.t 39)], none, false⟩, ⟨(some 7), .mov (.t 40), none, false⟩])
 (.seq (.draw [⟨0, ⟨(some 41), .mov (.t 6), none, false⟩, false, [], []⟩, ⟨1, ⟨(some 42), .mov (.t 7), none, false⟩, false, [], []⟩, ⟨2, ⟨(some 43), .len false (.t 42), none, false⟩, false, [], []⟩, ⟨3, ⟨(some 44), .conv (.int .u8) (.t 43), none, false⟩, false, [], []⟩, ⟨4, ⟨(some 45), .bslice 1 (.int .u8) [(.int .u8 0)] [(0, 1, (.t 44))] 1, none, false⟩, false, [], []⟩, ⟨6, ⟨(some 47), .mov (.t 7), none, false⟩, false, [], []⟩, ⟨8, ⟨(some 49), .load true 6 (.t 5), none, false⟩, false, [], []⟩, ⟨9, ⟨(some 50), .fld 4 1 false (.t 1), none, false⟩, false, [], []⟩, ⟨10, ⟨(some 51), .load false 1 (.t 50), none, false⟩, false, [], []⟩, ⟨11, ⟨(some 52), .len false (.t 51), none, false⟩, false, [], []⟩, ⟨5, ⟨(some 46), .app 1 1 (.t 41) (.t 45), none, false⟩, true, [4], [(.t 5), (.t 50)]⟩, ⟨7, ⟨(some 48), .app 1 1 (.t 46) (.t 47), none, false⟩, true, [4], [(.t 5), (.t 50)]⟩, ⟨12, ⟨(some 53), .call 150 [(.t 52), (.c (.int .i64 2000))], none, false⟩, true, [4], [(.t 5)]⟩, ⟨13, ⟨(some 2), .mov (.t 48), none, false⟩, false, [], []⟩, ⟨14, ⟨none, .store 6 (.t 3) (.t 49), none, false⟩, true, [4], []⟩, ⟨15, ⟨(some 4), .mov (.t 53), none, false⟩, false, [], []⟩])
 .ret)))
 (.seq (.seq (.reg [⟨(some 55), .bin .eql .other (.t 31) (.c (.int .u8 3)), none, false⟩, ⟨(some 54), .mov (.t 55), none, false⟩])
 (.cond (.t 54) .skip
 (.seq (.reg [⟨(some 56), .bin .eql .other (.t 31) (.c (.int .u8 4)), none, false⟩, ⟨(some 54), .mov (.t 56), none, false⟩])
 (.cond (.t 54) .skip
 (.reg [⟨(some 57), .bin .eql .other (.t 31) (.c (.int .u8 23)), none, false⟩, ⟨(some 54), .mov (.t 57), none, false⟩])))))
 (.cond (.t 54) (.seq (.reg [⟨(some 58), .fld 5 1 false (.t 1), none, false⟩, ⟨(some 59), .load false 1 (.t 58), none, false⟩, ⟨(some 60), .fld 5 1 false (.t 5), none, false⟩, ⟨none, .store 1 (.t 60) (.t 59), none, false⟩])
 (.seq (.draw [⟨0, ⟨(some 61), .mov (.t 6), none, false⟩, false, [], []⟩, ⟨1, ⟨(some 62), .fld 5 1 false (.t 1), none, false⟩, false, [], []⟩, ⟨2, ⟨(some 63), .load false 1 (.t 62), none, false⟩, false, [], []⟩, ⟨3, ⟨(some 64), .len false (.t 63), none, false⟩, false, [], []⟩, ⟨4, ⟨(some 65), .bin .mul .other (.c (.int .i64 2)) (.t 64), none, false⟩, false, [], []⟩, ⟨5, ⟨(some 66), .conv (.int .u8) (.t 65), none, false⟩, false, [], []⟩, ⟨6, ⟨(some 67), .bslice 1 (.int .u8) [(.int .u8 0)] [(0, 1, (.t 66))] 1, none, false⟩, false, [], []⟩, ⟨8, ⟨(some 69), .fld 5 1 false (.t 1), none, false⟩, false, [], []⟩, ⟨9, ⟨(some 70), .load false 1 (.t 69), none, false⟩, false, [], []⟩, ⟨11, ⟨(some 72), .load true 6 (.t 5), none, false⟩, false, [], []⟩, ⟨12, ⟨(some 73), .fld 5 1 false (.t 1), none, false⟩, false, [], []⟩, ⟨13, ⟨(some 74), .load false 1 (.t 73), none, false⟩, false, [], []⟩, ⟨14, ⟨(some 75), .len false (.t 74), none, false⟩, false, [], []⟩, ⟨7, ⟨(some 68), .app 1 1 (.t 61) (.t 67), none, false⟩, true, [6], [(.t 69), (.t 5), (.t 73)]⟩, ⟨10, ⟨(some 71), .call 149 [(.t 68), (.t 70)], none, false⟩, true, [6], [(.t 5), (.t 73)]⟩, ⟨15, ⟨(some 76), .call 150 [(.t 75), (.c (.int .i64 125))], none, false⟩, true, [6], [(.t 5)]⟩, ⟨16, ⟨(some 2), .mov (.t 71), none, false⟩, false, [], []⟩, ⟨17, ⟨none, .store 6 (.t 3) (.t 72), none, false⟩, true, [6], []⟩, ⟨18, ⟨(some 4), .mov (.t 76), none, false⟩, false, [], []⟩])
 .ret))
 .skip))))))
 (.seq (.reg [⟨(some 77), .fld 2 1 false (.t 1), none, false⟩, ⟨(some 78), .load false 1 (.t 77), none, false⟩, ⟨(some 79), .fld 2 1 false (.t 5), none, false⟩, ⟨none, .store 1 (.t 79) (.t 78), none, false⟩])
 (.seq (.reg [⟨(some 80), .mov (.t 6), none, false⟩, ⟨(some 81), .fld 2 1 false (.t 1), none, false⟩, ⟨(some 82), .load false 1 (.t 81), none, false⟩, ⟨(some 83), .call 146 [(.t 80), (.t 82)], none, false⟩, ⟨(some 6), .mov (.t 83), none, false⟩])
 (.seq (.seq (.reg [⟨(some 84), .fld 0 1 false (.t 1), none, false⟩, ⟨(some 85), .load false 1 (.t 84), none, false⟩])
 (.block 1 (.seq (.reg [⟨(some 87), .bin .eql .other (.t 85) (.c (.int .u8 5)), none, false⟩, ⟨(some 86), .mov (.t 87), none, false⟩])
 (.cond (.t 86) (.seq (.reg [⟨(some 88), .fld 4 1 false (.t 1), none, false⟩, ⟨(some 89), .load false 1 (.t 88), none, false⟩, ⟨(some 90), .fld 4 1 false (.t 5), none, false⟩, ⟨none, .store 1 (.t 90) (.t 89), none, false⟩])
 (.seq (.draw [⟨0, ⟨(some 91), .mov (.t 6), none, false⟩, false, [], []⟩, ⟨1, ⟨(some 92), .fld 4 1 false (.t 1), none, false⟩, false, [], []⟩, ⟨2, ⟨(some 93), .load false 1 (.t 92), none, false⟩, false, [], []⟩, ⟨3, ⟨(some 94), .len false (.t 93), none, false⟩, false, [], []⟩, ⟨4, ⟨(some 95), .bin .eql .other (.t 94) (.c (.int .i64 1)), none, false⟩, false, [], []⟩, ⟨5, ⟨(some 96), .mov (.t 95), none, true⟩, false, [], []⟩, ⟨6, ⟨(some 97), .fld 4 1 false (.t 1), (some (96, true)), false⟩, false, [], []⟩, ⟨7, ⟨(some 98), .load false 1 (.t 97), (some (96, true)), false⟩, false, [], []⟩, ⟨8, ⟨(some 99), .idx 1 none false (.t 98) (.c (.int .i64 0)), (some (96, true)), false⟩, false, [], []⟩, ⟨9, ⟨(some 100), .load false 1 (.t 99), (some (96, true)), false⟩, false, [], []⟩, ⟨10, ⟨(some 101), .pick (.t 96) (.t 100) (.c (.bool false)), none, false⟩, false, [], []⟩, ⟨12, ⟨(some 103), .load true 6 (.t 5), none, false⟩, false, [], []⟩, ⟨13, ⟨(some 104), .fld 4 1 false (.t 1), none, false⟩, false, [], []⟩, ⟨14, ⟨(some 105), .load false 1 (.t 104), none, false⟩, false, [], []⟩, ⟨15, ⟨(some 106), .len false (.t 105), none, false⟩, false, [], []⟩, ⟨16, ⟨(some 107), .bin .eql .other (.t 106) (.c (.int .i64 1)), none, false⟩, false, [], []⟩, ⟨11, ⟨(some 102), .call 148 [(.t 91), (.t 101)], none, false⟩, true, [], [(.t 5), (.t 104)]⟩, ⟨17, ⟨(some 2), .mov (.t 102), none, false⟩, false, [], []⟩, ⟨18, ⟨none, .store 6 (.t 3) (.t 103), none, false⟩, true, [], [(.t 104)]⟩, ⟨19, ⟨(some 4), .mov (.t 107), none, false⟩, false, [], []⟩])
 .ret))
 (.seq (.reg [⟨(some 109), .bin .eql .other (.t 85) (.c (.int .u8 6)), none, false⟩, ⟨(some 108), .mov (.t 109), none, false⟩])
 (.cond (.t 108) (.seq (.reg [⟨(some 110), .fld 5 1 false (.t 1), none, false⟩, ⟨(some 111), .load false 1 (.t 110), none, false⟩, ⟨(some 112), .fld 5 1 false (.t 5), none, false⟩, ⟨none, .store 1 (.t 112) (.t 111), none, false⟩])
 (.seq (.draw [⟨0, ⟨(some 113), .mov (.t 6), none, false⟩, false, [], []⟩, ⟨1, ⟨(some 114), .fld 5 1 false (.t 1), none, false⟩, false, [], []⟩, ⟨2, ⟨(some 115), .load false 1 (.t 114), none, false⟩, false, [], []⟩, ⟨4, ⟨(some 117), .load true 6 (.t 5), none, false⟩, false, [], []⟩, ⟨5, ⟨(some 118), .fld 5 1 false (.t 1), none, false⟩, false, [], []⟩, ⟨6, ⟨(some 119), .load false 1 (.t 118), none, false⟩, false, [], []⟩, ⟨7, ⟨(some 120), .len false (.t 119), none, false⟩, false, [], []⟩, ⟨8, ⟨(some 121), .bin .eql .other (.t 120) (.c (.int .i64 1)), none, false⟩, false, [], []⟩, ⟨3, ⟨(some 116), .call 149 [(.t 113), (.t 115)], none, false⟩, true, [], [(.t 5), (.t 118)]⟩, ⟨9, ⟨(some 2), .mov (.t 116), none, false⟩, false, [], []⟩, ⟨10, ⟨none, .store 6 (.t 3) (.t 117), none, false⟩, true, [], [(.t 118)]⟩, ⟨11, ⟨(some 4), .mov (.t 121), none, false⟩, false, [], []⟩])
 .ret))
 (.seq (.reg [⟨(some 123), .bin .eql .other (.t 85) (.c (.int .u8 15)), none, false⟩, ⟨(some 122), .mov (.t 123), none, false⟩])
 (.cond (.t 122) (.seq (.reg [⟨(some 124), .fld 3 1 false (.t 1), none, false⟩, ⟨(some 125), .load false 1 (.t 124), none, false⟩, ⟨(some 126), .fld 3 1 false (.t 5), none, false⟩, ⟨none, .store 1 (.t 126) (.t 125), none, false⟩])
 (.seq (.draw [⟨0, ⟨(some 127), .mov (.t 6), none, false⟩, false, [], []⟩, ⟨1, ⟨(some 128), .fld 3 1 false (.t 1), none, false⟩, false, [], []⟩, ⟨2, ⟨(some 129), .load false 1 (.t 128), none, false⟩, false, [], []⟩, ⟨4, ⟨(some 131), .load true 6 (.t 5), none, false⟩, false, [], []⟩, ⟨5, ⟨(some 132), .fld 3 1 false (.t 1), none, false⟩, false, [], []⟩, ⟨6, ⟨(some 133), .load false 1 (.t 132), none, false⟩, false, [], []⟩, ⟨7, ⟨(some 134), .conv (.int .i64) (.t 133), none, false⟩, false, [], []⟩, ⟨3, ⟨(some 130), .call 146 [(.t 127), (.t 129)], none, false⟩, true, [], [(.t 5), (.t 132)]⟩, ⟨8, ⟨(some 135), .call 150 [(.t 134), (.c (.int .i64 1968))], none, false⟩, true, [], [(.t 5)]⟩, ⟨9, ⟨(some 2), .mov (.t 130), none, false⟩, false, [], []⟩, ⟨10, ⟨none, .store 6 (.t 3) (.t 131), none, false⟩, true, [], []⟩, ⟨11, ⟨(some 4), .mov (.t 135), none, false⟩, false, [], []⟩])
 .ret))
 (.seq (.reg [⟨(some 137), .bin .eql .other (.t 85) (.c (.int .u8 16)), none, false⟩, ⟨(some 136), .mov (.t 137), none, false⟩])
 (.cond (.t 136) (.seq (.reg [⟨(some 138), .fld 3 1 false (.t 1), none, false⟩, ⟨(some 139), .load false 1 (.t 138), none, false⟩, ⟨(some 140), .fld 3 1 false (.t 5), none, false⟩, ⟨none, .store 1 (.t 140) (.t 139), none, false⟩])
 (.seq (.draw [⟨0, ⟨(some 141), .mov (.t 6), none, false⟩, false, [], []⟩, ⟨1, ⟨(some 142), .fld 3 1 false (.t 1), none, false⟩, false, [], []⟩, ⟨2, ⟨(some 143), .load false 1 (.t 142), none, false⟩, false, [], []⟩, ⟨4, ⟨(some 145), .load true 6 (.t 5), none, false⟩, false, [], []⟩, ⟨5, ⟨(some 146), .fld 3 1 false (.t 1), none, false⟩, false, [], []⟩, ⟨6, ⟨(some 147), .load false 1 (.t 146), none, false⟩, false, [], []⟩, ⟨7, ⟨(some 148), .conv (.int .i64) (.t 147), none, false⟩, false, [], []⟩, ⟨3, ⟨(some 144), .call 146 [(.t 141), (.t 143)], none, false⟩, true, [], [(.t 5), (.t 146)]⟩, ⟨8, ⟨(some 149), .call 150 [(.t 148), (.c (.int .i64 123))], none, false⟩, true, [], [(.t 5)]⟩, ⟨9, ⟨(some 2), .mov (.t 144), none, false⟩, false, [], []⟩, ⟨10, ⟨none, .store 6 (.t 3) (.t 145), none, false⟩, true, [], []⟩, ⟨11, ⟨(some 4), .mov (.t 149), none, false⟩, false, [], []⟩])
 .ret))
 (.seq (.reg [⟨(some 151), .bin .eql .other (.t 85) (.c (.int .u8 22)), none, false⟩, ⟨(some 150), .mov (.t 151), none, false⟩])
 (.cond (.t 150) (.seq (.reg [⟨(some 152), .fld 5 1 false (.t 1), none, false⟩, ⟨(some 153), .load false 1 (.t 152), none, false⟩, ⟨(some 154), .fld 5 1 false (.t 5), none, false⟩, ⟨none, .store 1 (.t 154) (.t 153), none, false⟩])
 (.seq (.draw [⟨0, ⟨(some 155), .mov (.t 6), none, false⟩, false, [], []⟩, ⟨1, ⟨(some 156), .fld 5 1 false (.t 1), none, false⟩, false, [], []⟩, ⟨2, ⟨(some 157), .load false 1 (.t 156), none, false⟩, false, [], []⟩, ⟨4, ⟨(some 159), .load true 6 (.t 5), none, false⟩, false, [], []⟩, ⟨5, ⟨(some 160), .fld 5 1 false (.t 1), none, false⟩, false, [], []⟩, ⟨6, ⟨(some 161), .load false 1 (.t 160), none, false⟩, false, [], []⟩, ⟨7, ⟨(some 162), .len false (.t 161), none, false⟩, false, [], []⟩, ⟨8, ⟨(some 163), .bin .eql .other (.t 162) (.c (.int .i64 2)), none, false⟩, false, [], []⟩, ⟨3, ⟨(some 158), .call 149 [(.t 155), (.t 157)], none, false⟩, true, [], [(.t 5), (.t 160)]⟩, ⟨9, ⟨(some 2), .mov (.t 158), none, false⟩, false, [], []⟩, ⟨10, ⟨none, .store 6 (.t 3) (.t 159), none, false⟩, true, [], [(.t 160)]⟩, ⟨11, ⟨(some 4), .mov (.t 163), none, false⟩, false, [], []⟩])
 .ret))
 .skip))))))))))))
 (.seq (.draw [⟨0, ⟨(some 164), .load true 6 (.t 5), none, false⟩, false, [], []⟩, ⟨1, ⟨(some 2), .mov (.c .nils), none, false⟩, false, [], []⟩, ⟨2, ⟨none, .store 6 (.t 3) (.t 164), none, false⟩, true, [], []⟩, ⟨3, ⟨(some 4), .mov (.c (.bool false)), none, false⟩, false, [], []⟩])
 .ret)))))))))
def r118 : List ARes := [.t 2, .cell 3 true 6, .t 4]
theorem c118 : compF Try.prog Try.f118 = some (a118, r118) := by kernel_rfl

theorem b118 : hasBody Try.prog 118 = true := by kernel_rfl
theorem g118 : Try.prog.funcs[118]? = some Try.f118 := by kernel_rfl

def or128 (f : Int) : Int := IntKind.u8.wrap (BitVec.ofInt 8 f ||| BitVec.ofInt 8 128).toNat
structure RepS where
  row : List Int
  x : Int
  a : Int
  n : Int
  b : List Bool
  r : List Int
  ok : Bool
def repS (f x a n : Int) (b : List Bool) (r : List Int) : RepS :=
  if x != 0 then ⟨[or128 f, x], x, 0, 0, [], [], decide (f < 128)⟩
  else if f == 1 then ⟨[f] ++ [IntKind.u8.wrap ((b.length + 7) / 8 : Nat)] ++ packN b b.length, 0, 0, 0, b, [], withinB b.length 2000⟩
  else if f == 2 then ⟨[f] ++ [IntKind.u8.wrap ((b.length + 7) / 8 : Nat)] ++ packN b b.length, 0, 0, 0, b, [], withinB b.length 2000⟩
  else if f == 3 then ⟨[f] ++ [IntKind.u8.wrap (IntKind.i64.wrap (2 * r.length))] ++ twos r, 0, 0, 0, [], r, withinB r.length 125⟩
  else if f == 4 then ⟨[f] ++ [IntKind.u8.wrap (IntKind.i64.wrap (2 * r.length))] ++ twos r, 0, 0, 0, [], r, withinB r.length 125⟩
  else if f == 23 then ⟨[f] ++ [IntKind.u8.wrap (IntKind.i64.wrap (2 * r.length))] ++ twos r, 0, 0, 0, [], r, withinB r.length 125⟩
  else if f == 5 then ⟨[f] ++ two8 a ++ two8 (coilN ((b.length : Int) == 1 && b.getD 0 false)), 0, a, 0, b, [], (b.length : Int) == 1⟩
  else if f == 6 then ⟨[f] ++ two8 a ++ twos r, 0, a, 0, [], r, (r.length : Int) == 1⟩
  else if f == 15 then ⟨[f] ++ two8 a ++ two8 n, 0, a, n, [], [], withinB n 1968⟩
  else if f == 16 then ⟨[f] ++ two8 a ++ two8 n, 0, a, n, [], [], withinB n 123⟩
  else if f == 22 then ⟨[f] ++ two8 a ++ twos r, 0, a, 0, [], r, (r.length : Int) == 2⟩
  else ⟨[], 0, a, 0, [], [], false⟩
def repR (f : Int) (q : RepS) : List AV := [repA f q.x q.a q.n (.roB q.b) (.roI .u16 q.r), .bool q.ok]
theorem RawK.rep {f x a n : Int} {q : RepS} {B R : AV} {s : St} {h len : Nat} {ok : Bool} {l : List Int} (hg : s.get h = some (.rowI .u8 l)) (he : l = q.row) (hl : len = l.length) (hx : x = q.x) (ha : a = q.a) (hn : n = q.n) (hb : Le B (.roB q.b)) (hr : Le R (.roI .u16 q.r)) (hok : ok = q.ok) :
    RawK q.row (repR f q) (.tup [.sl 1 h 0 len, repA f x a n B R, .bool ok]) s := by
  subst hl; subst he; subst hn; subst ha; subst hok; subst hx
  unfold RawK
  refine ⟨_, ?_, .inl ⟨h, rfl, hg⟩⟩
  exact Le.tup ⟨Le.refl _, Le.agg ⟨Le.refl _, Le.refl _, Le.refl _, Le.refl _, hb, hr, trivial⟩, Le.refl _, trivial⟩
theorem RawK.rep0 {f x a n : Int} {q : RepS} {B R : AV} {s : St} {ok : Bool} (hg : q.row = []) (hx : x = q.x) (ha : a = q.a) (hn : n = q.n) (hb : Le B (.roB q.b)) (hr : Le R (.roI .u16 q.r)) (hok : ok = q.ok) :
    RawK q.row (repR f q) (.tup [.nils, repA f x a n B R, .bool ok]) s := by
  subst hn; subst ha; subst hok; subst hx
  unfold RawK
  refine ⟨_, ?_, .inr ⟨hg, rfl⟩⟩
  exact Le.tup ⟨Le.refl _, Le.agg ⟨Le.refl _, Le.refl _, Le.refl _, Le.refl _, hb, hr, trivial⟩, Le.refl _, trivial⟩
set_option maxRecDepth 20000 in
set_option maxHeartbeats 4000000 in
theorem reply_raw (f x a n : Int) (b : List Bool) (r : List Int) (hn0 : 0 ≤ n) (hn1 : n < 65536) (hb : b.length ≤ 2500) (hr : r.length ≤ 500) : Tr Try.prog 118 [repA f x a n (.roB b) (.roI .u16 r)] ⟨0, []⟩ (RawK (repS f x a n b r).row (repR f (repS f x a n b r))) := by
  have hw : IntKind.i64.wrap n = n := IntWalk.i64_in _ (by omega)
  refine trF g118 b118 c118 ?_
  conv => whnf
  repeat' (first
    | (refine condY (by assumption) ?_; conv => whnf)
    | (refine condN (by assumption) ?_; conv => whnf)
    | (refine condT (by first | assumption | (simp [twos_length, packN_length, two8]; done) | (simp [twos_length, packN_length, two8]; omega) | (simp_all; done) | (simp_all; omega)) ?_; conv => whnf)
    | (refine condF (fun h => ?_) (fun h => ?_) <;> conv => whnf)
    | (refine ⟨rfl, ?_⟩; conv => whnf)
    | (refine two_call rfl (by first | (simp [twos_length, packN_length, two8]; done) | (simp [twos_length, packN_length, two8]; omega) | omega) (by first | (simp [twos_length, packN_length, two8]; done) | (simp [twos_length, packN_length, two8]; omega) | omega) ?_; conv => whnf)
    | (refine coil_call rfl (by first | (simp [twos_length, packN_length, two8]; done) | (simp [twos_length, packN_length, two8]; omega) | omega) (by first | (simp [twos_length, packN_length, two8]; done) | (simp [twos_length, packN_length, two8]; omega) | omega) ?_; conv => whnf)
    | (refine regs_call rfl (by first | (simp [twos_length, packN_length, two8]; done) | (simp [twos_length, packN_length, two8]; omega) | omega) (by first | (simp [twos_length, packN_length, two8]; done) | (simp [twos_length, packN_length, two8]; omega) | omega) (by omega) ?_; conv => whnf)
    | (refine Ev.call (within16_ev _ _) ?_; conv => whnf)
    | (refine Ev.call (within_ev _ _) ?_; conv => whnf)
    | (refine Ev.call (pack_ev _ (by omega)) ?_; conv => whnf)
    )
  all_goals (generalize hq : repS f x a n b r = q; simp only [repS, *, if_true, if_false, Bool.false_eq_true, Bool.true_and, Bool.false_and] at hq; subst hq)
  all_goals try (rw [hw] at *)
  all_goals first
    | exact RawK.rep rfl (by first | rfl | (simp [packN_length, coilN, two8]; done)) (by first | rfl | (simp [twos_length, packN_length, two8]; done) | (simp [twos_length, packN_length, two8]; omega)) rfl rfl rfl (by first | exact Le.refl _ | exact Le.nilB) (by first | exact Le.refl _ | exact Le.nilI _) (by first | rfl | (simp [*]; done))
    | exact RawK.rep0 rfl rfl rfl rfl (by first | exact Le.refl _ | exact Le.nilB) (by first | exact Le.refl _ | exact Le.nilI _) rfl
theorem reply_tr (f x a n : Int) (b : List Bool) (r : List Int) (hn0 : 0 ≤ n) (hn1 : n < 65536) (hb : b.length ≤ 2500) (hr : r.length ≤ 500) :
    Tr Try.prog 118 [repA f x a n (.roB b) (.roI .u16 r)] ⟨0, []⟩ (Ret1 (repS f x a n b r).row (repR f (repS f x a n b r))) :=
  Ret1.of rfl ((reply_raw f x a n b r hn0 hn1 hb hr).mono fun v s h => by unfold RawK at h; exact h)
end Go.Proofs.Ytomodeliimnddaa
