/- Contracts: replies as bytes. -/
import Derived.Test.YtomodeliimnddaaAbRep
set_option linter.unusedVariables false
set_option linter.unusedSimpArgs false
namespace Go.Proofs.Ytomodeliimnddaa
open Go.Ab
/- rung/pdu.Reply -/
def a56 : ACode := (.seq (.reg [⟨(some 1), .box (.t 0), none, false⟩, ⟨(some 2), .mov (.c .nils), none, false⟩, ⟨(some 3), .mov (.c (.int .i64 0)), none, false⟩])
 (.seq (.reg [⟨(some 8), .load true 6 (.t 1), none, false⟩, ⟨(some 9), .call 118 [(.t 8)], none, false⟩, ⟨(some 7), .mov (.t 9), none, false⟩, ⟨(some 10), .ext (.t 7) 0, none, false⟩, ⟨(some 11), .ext (.t 7) 1, none, false⟩, ⟨(some 12), .ext (.t 7) 2, none, false⟩, ⟨(some 5), .alloc [(2, (.int .u8 0)), (2, (.int .u16 0)), (2, .nils)], none, false⟩, ⟨(some 4), .mov (.t 10), none, false⟩, ⟨none, .store 6 (.t 5) (.t 11), none, false⟩, ⟨(some 6), .mov (.t 12), none, false⟩])
 (.seq (.seq (.reg [⟨(some 13), .mov (.t 6), none, false⟩, ⟨(some 14), .un .not (.t 13), none, false⟩, ⟨(some 15), .mov (.t 14), none, true⟩, ⟨(some 16), .fld 2 1 false (.t 5), (some (15, false)), false⟩, ⟨(some 17), .load false 1 (.t 16), (some (15, false)), false⟩, ⟨(some 18), .fld 2 1 false (.t 1), (some (15, false)), false⟩, ⟨(some 19), .load false 1 (.t 18), (some (15, false)), false⟩, ⟨(some 20), .bin .neq .other (.t 17) (.t 19), (some (15, false)), false⟩, ⟨(some 21), .pick (.t 15) (.c (.bool true)) (.t 20), none, false⟩, ⟨(some 22), .mov (.t 21), none, true⟩, ⟨(some 23), .fld 3 1 false (.t 5), (some (22, false)), false⟩, ⟨(some 24), .load false 1 (.t 23), (some (22, false)), false⟩, ⟨(some 25), .fld 3 1 false (.t 1), (some (22, false)), false⟩, ⟨(some 26), .load false 1 (.t 25), (some (22, false)), false⟩, ⟨(some 27), .bin .neq .other (.t 24) (.t 26), (some (22, false)), false⟩, ⟨(some 28), .pick (.t 22) (.c (.bool true)) (.t 27), none, false⟩, ⟨(some 29), .mov (.t 28), none, true⟩, ⟨(some 30), .fld 4 1 false (.t 5), (some (29, false)), false⟩, ⟨(some 31), .load false 1 (.t 30), (some (29, false)), false⟩, ⟨(some 32), .fld 4 1 false (.t 1), (some (29, false)), false⟩, ⟨(some 33), .load false 1 (.t 32), (some (29, false)), false⟩, ⟨(some 34), .call 119 [(.t 31), (.t 33)], (some (29, false)), false⟩, ⟨(some 35), .un .not (.t 34), (some (29, false)), false⟩, ⟨(some 36), .pick (.t 29) (.c (.bool true)) (.t 35), none, false⟩, ⟨(some 37), .mov (.t 36), none, true⟩, ⟨(some 38), .fld 5 1 false (.t 5), (some (37, false)), false⟩, ⟨(some 39), .load false 1 (.t 38), (some (37, false)), false⟩, ⟨(some 40), .fld 5 1 false (.t 1), (some (37, false)), false⟩, ⟨(some 41), .load false 1 (.t 40), (some (37, false)), false⟩, ⟨(some 42), .call 120 [(.t 39), (.t 41)], (some (37, false)), false⟩, ⟨(some 43), .un .not (.t 42), (some (37, false)), false⟩, ⟨(some 44), .pick (.t 37) (.c (.bool true)) (.t 43), none, false⟩])
 (.cond (.t 44) (.seq (.reg [⟨(some 2), .mov (.c .nils), none, false⟩, ⟨(some 3), .mov (.c (.int .i64 30)), none, false⟩])
 .ret)
 .skip))
 (.seq (.reg [⟨(some 45), .mov (.t 4), none, false⟩, ⟨(some 2), .mov (.t 45), none, false⟩, ⟨(some 3), .mov (.c (.int .i64 0)), none, false⟩])
 .ret))))
def r56 : List ARes := [.t 2, .t 3]
theorem c56 : compF Try.prog Try.f56 = some (a56, r56) := by kernel_rfl

theorem b56 : hasBody Try.prog 56 = true := by kernel_rfl
theorem g56 : Try.prog.funcs[56]? = some Try.f56 := by kernel_rfl
/- rung/rungref3.Reply -/
def a57 : ACode := (.seq (.reg [⟨(some 1), .box (.t 0), none, false⟩, ⟨(some 2), .mov (.c .nils), none, false⟩, ⟨(some 3), .mov (.c (.int .i64 0)), none, false⟩])
 (.seq (.draw [⟨0, ⟨(some 9), .fld 3 1 false (.t 1), none, false⟩, false, [], []⟩, ⟨1, ⟨(some 10), .load false 1 (.t 9), none, false⟩, false, [], []⟩, ⟨2, ⟨(some 11), .conv (.int .i64) (.t 10), none, false⟩, false, [], []⟩, ⟨3, ⟨(some 12), .fld 4 1 false (.t 1), none, false⟩, false, [], []⟩, ⟨4, ⟨(some 13), .load false 1 (.t 12), none, false⟩, false, [], []⟩, ⟨5, ⟨(some 14), .len false (.t 13), none, false⟩, false, [], []⟩, ⟨6, ⟨(some 15), .fld 5 1 false (.t 1), none, false⟩, false, [], []⟩, ⟨7, ⟨(some 16), .load false 1 (.t 15), none, false⟩, false, [], []⟩, ⟨8, ⟨(some 17), .len false (.t 16), none, false⟩, false, [], []⟩, ⟨9, ⟨(some 4), .mov (.t 11), none, false⟩, false, [], []⟩, ⟨10, ⟨(some 5), .mov (.t 14), none, false⟩, false, [], []⟩, ⟨11, ⟨(some 6), .mov (.t 17), none, false⟩, false, [], []⟩])
 (.seq (.seq (.reg [⟨(some 18), .fld 1 1 false (.t 1), none, false⟩, ⟨(some 19), .load false 1 (.t 18), none, false⟩, ⟨(some 20), .bin .neq .other (.t 19) (.c (.int .u8 0)), none, false⟩])
 (.cond (.t 20) (.seq (.seq (.reg [⟨(some 21), .fld 0 1 false (.t 1), none, false⟩, ⟨(some 22), .load false 1 (.t 21), none, false⟩, ⟨(some 23), .bin .geq .other (.t 22) (.c (.int .u8 128)), none, false⟩, ⟨(some 24), .mov (.t 23), none, true⟩, ⟨(some 25), .mov (.t 4), (some (24, false)), false⟩, ⟨(some 26), .mov (.t 5), (some (24, false)), false⟩, ⟨(some 27), .bin .add .other (.t 25) (.t 26), (some (24, false)), false⟩, ⟨(some 28), .mov (.t 6), (some (24, false)), false⟩, ⟨(some 29), .bin .add .other (.t 27) (.t 28), (some (24, false)), false⟩, ⟨(some 30), .bin .neq .other (.t 29) (.c (.int .i64 0)), (some (24, false)), false⟩, ⟨(some 31), .pick (.t 24) (.c (.bool true)) (.t 30), none, false⟩, ⟨(some 32), .mov (.t 31), none, true⟩, ⟨(some 33), .fld 2 1 false (.t 1), (some (32, false)), false⟩, ⟨(some 34), .load false 1 (.t 33), (some (32, false)), false⟩, ⟨(some 35), .bin .neq .other (.t 34) (.c (.int .u16 0)), (some (32, false)), false⟩, ⟨(some 36), .pick (.t 32) (.c (.bool true)) (.t 35), none, false⟩])
 (.cond (.t 36) (.seq (.reg [⟨(some 2), .mov (.c .nils), none, false⟩, ⟨(some 3), .mov (.c (.int .i64 30)), none, false⟩])
 .ret)
 .skip))
 (.seq (.reg [⟨(some 37), .fld 0 1 false (.t 1), none, false⟩, ⟨(some 38), .load false 1 (.t 37), none, false⟩, ⟨(some 39), .bin .or .other (.t 38) (.c (.int .u8 128)), none, false⟩, ⟨(some 40), .fld 1 1 false (.t 1), none, false⟩, ⟨(some 41), .load false 1 (.t 40), none, false⟩, ⟨(some 42), .bslice 1 (.int .u8) [(.int .u8 0), (.int .u8 0)] [(0, 1, (.t 39)), (1, 1, (.t 41))] 2, none, false⟩, ⟨(some 2), .mov (.t 42), none, false⟩, ⟨(some 3), .mov (.c (.int .i64 0)), none, false⟩])
 .ret))
 .skip))
 (.seq (.reg [⟨(some 43), .fld 0 1 false (.t 1), none, false⟩, ⟨(some 44), .load false 1 (.t 43), none, false⟩, ⟨(some 45), .bslice 1 (.int .u8) [(.int .u8 0)] [(0, 1, (.t 44))] 1, none, false⟩, ⟨(some 7), .mov (.t 45), none, false⟩])
 (.seq (.reg [⟨(some 8), .mov (.c (.bool false)), none, false⟩])
 (.seq (.seq (.reg [⟨(some 46), .fld 0 1 false (.t 1), none, false⟩, ⟨(some 47), .load false 1 (.t 46), none, false⟩])
 (.block 0 (.seq (.seq (.reg [⟨(some 49), .bin .eql .other (.t 47) (.c (.int .u8 1)), none, false⟩, ⟨(some 48), .mov (.t 49), none, false⟩])
 (.cond (.t 48) .skip
 (.reg [⟨(some 50), .bin .eql .other (.t 47) (.c (.int .u8 2)), none, false⟩, ⟨(some 48), .mov (.t 50), none, false⟩])))
 (.cond (.t 48) (.seq (.reg [⟨(some 51), .mov (.t 5), none, false⟩, ⟨(some 52), .call 112 [(.t 51), (.c (.int .i64 1)), (.c (.int .i64 2000))], none, false⟩, ⟨(some 53), .mov (.t 52), none, true⟩, ⟨(some 54), .mov (.t 6), (some (53, true)), false⟩, ⟨(some 55), .bin .eql .other (.t 54) (.c (.int .i64 0)), (some (53, true)), false⟩, ⟨(some 56), .pick (.t 53) (.t 55) (.c (.bool false)), none, false⟩, ⟨(some 57), .mov (.t 56), none, true⟩, ⟨(some 58), .mov (.t 4), (some (57, true)), false⟩, ⟨(some 59), .bin .eql .other (.t 58) (.c (.int .i64 0)), (some (57, true)), false⟩, ⟨(some 60), .pick (.t 57) (.t 59) (.c (.bool false)), none, false⟩, ⟨(some 61), .mov (.t 60), none, true⟩, ⟨(some 62), .fld 2 1 false (.t 1), (some (61, true)), false⟩, ⟨(some 63), .load false 1 (.t 62), (some (61, true)), false⟩, ⟨(some 64), .bin .eql .other (.t 63) (.c (.int .u16 0)), (some (61, true)), false⟩, ⟨(some 65), .pick (.t 61) (.t 64) (.c (.bool false)), none, false⟩, ⟨(some 8), .mov (.t 65), none, false⟩])
 (.draw [⟨0, ⟨(some 66), .mov (.t 7), none, false⟩, false, [], []⟩, ⟨1, ⟨(some 67), .mov (.t 5), none, false⟩, false, [], []⟩, ⟨2, ⟨(some 68), .bin .add .other (.t 67) (.c (.int .i64 7)), none, false⟩, false, [], []⟩, ⟨3, ⟨(some 69), .bin .quo .other (.t 68) (.c (.int .i64 8)), none, false⟩, false, [], []⟩, ⟨4, ⟨(some 70), .conv (.int .u8) (.t 69), none, false⟩, false, [], []⟩, ⟨5, ⟨(some 71), .bslice 1 (.int .u8) [(.int .u8 0)] [(0, 1, (.t 70))] 1, none, false⟩, false, [], []⟩, ⟨7, ⟨(some 73), .fld 4 1 false (.t 1), none, false⟩, false, [], []⟩, ⟨8, ⟨(some 74), .load false 1 (.t 73), none, false⟩, false, [], []⟩, ⟨6, ⟨(some 72), .app 1 1 (.t 66) (.t 71), none, false⟩, true, [5], [(.t 73)]⟩, ⟨9, ⟨(some 75), .call 62 [(.t 74)], none, false⟩, true, [5], []⟩, ⟨10, ⟨(some 76), .app 1 1 (.t 72) (.t 75), none, false⟩, true, [5], []⟩, ⟨11, ⟨(some 7), .mov (.t 76), none, false⟩, false, [], []⟩]))
 (.seq (.seq (.reg [⟨(some 78), .bin .eql .other (.t 47) (.c (.int .u8 3)), none, false⟩, ⟨(some 77), .mov (.t 78), none, false⟩])
 (.cond (.t 77) .skip
 (.seq (.reg [⟨(some 79), .bin .eql .other (.t 47) (.c (.int .u8 4)), none, false⟩, ⟨(some 77), .mov (.t 79), none, false⟩])
 (.cond (.t 77) .skip
 (.reg [⟨(some 80), .bin .eql .other (.t 47) (.c (.int .u8 23)), none, false⟩, ⟨(some 77), .mov (.t 80), none, false⟩])))))
 (.cond (.t 77) (.seq (.reg [⟨(some 81), .mov (.t 6), none, false⟩, ⟨(some 82), .call 112 [(.t 81), (.c (.int .i64 1)), (.c (.int .i64 125))], none, false⟩, ⟨(some 83), .mov (.t 82), none, true⟩, ⟨(some 84), .mov (.t 5), (some (83, true)), false⟩, ⟨(some 85), .bin .eql .other (.t 84) (.c (.int .i64 0)), (some (83, true)), false⟩, ⟨(some 86), .pick (.t 83) (.t 85) (.c (.bool false)), none, false⟩, ⟨(some 87), .mov (.t 86), none, true⟩, ⟨(some 88), .mov (.t 4), (some (87, true)), false⟩, ⟨(some 89), .bin .eql .other (.t 88) (.c (.int .i64 0)), (some (87, true)), false⟩, ⟨(some 90), .pick (.t 87) (.t 89) (.c (.bool false)), none, false⟩, ⟨(some 91), .mov (.t 90), none, true⟩, ⟨(some 92), .fld 2 1 false (.t 1), (some (91, true)), false⟩, ⟨(some 93), .load false 1 (.t 92), (some (91, true)), false⟩, ⟨(some 94), .bin .eql .other (.t 93) (.c (.int .u16 0)), (some (91, true)), false⟩, ⟨(some 95), .pick (.t 91) (.t 94) (.c (.bool false)), none, false⟩, ⟨(some 8), .mov (.t 95), none, false⟩])
 (.draw [⟨0, ⟨(some 96), .mov (.t 7), none, false⟩, false, [], []⟩, ⟨1, ⟨(some 97), .mov (.t 6), none, false⟩, false, [], []⟩, ⟨2, ⟨(some 98), .bin .mul .other (.c (.int .i64 2)) (.t 97), none, false⟩, false, [], []⟩, ⟨3, ⟨(some 99), .conv (.int .u8) (.t 98), none, false⟩, false, [], []⟩, ⟨4, ⟨(some 100), .bslice 1 (.int .u8) [(.int .u8 0)] [(0, 1, (.t 99))] 1, none, false⟩, false, [], []⟩, ⟨6, ⟨(some 102), .fld 5 1 false (.t 1), none, false⟩, false, [], []⟩, ⟨7, ⟨(some 103), .load false 1 (.t 102), none, false⟩, false, [], []⟩, ⟨5, ⟨(some 101), .app 1 1 (.t 96) (.t 100), none, false⟩, true, [4], [(.t 102)]⟩, ⟨8, ⟨(some 104), .call 111 [(.t 101), (.t 103)], none, false⟩, true, [4], []⟩, ⟨9, ⟨(some 7), .mov (.t 104), none, false⟩, false, [], []⟩]))
 (.seq (.reg [⟨(some 106), .bin .eql .other (.t 47) (.c (.int .u8 5)), none, false⟩, ⟨(some 105), .mov (.t 106), none, false⟩])
 (.cond (.t 105) (.seq (.reg [⟨(some 107), .mov (.t 5), none, false⟩, ⟨(some 108), .bin .eql .other (.t 107) (.c (.int .i64 1)), none, false⟩, ⟨(some 109), .mov (.t 108), none, true⟩, ⟨(some 110), .mov (.t 6), (some (109, true)), false⟩, ⟨(some 111), .bin .eql .other (.t 110) (.c (.int .i64 0)), (some (109, true)), false⟩, ⟨(some 112), .pick (.t 109) (.t 111) (.c (.bool false)), none, false⟩, ⟨(some 113), .mov (.t 112), none, true⟩, ⟨(some 114), .mov (.t 4), (some (113, true)), false⟩, ⟨(some 115), .bin .eql .other (.t 114) (.c (.int .i64 0)), (some (113, true)), false⟩, ⟨(some 116), .pick (.t 113) (.t 115) (.c (.bool false)), none, false⟩, ⟨(some 8), .mov (.t 116), none, false⟩])
 (.seq (.reg [⟨(some 117), .mov (.t 8), none, false⟩])
 (.cond (.t 117) (.draw [⟨0, ⟨(some 118), .mov (.t 7), none, false⟩, false, [], []⟩, ⟨1, ⟨(some 119), .fld 2 1 false (.t 1), none, false⟩, false, [], []⟩, ⟨2, ⟨(some 120), .load false 1 (.t 119), none, false⟩, false, [], []⟩, ⟨3, ⟨(some 121), .fld 4 1 false (.t 1), none, false⟩, false, [], []⟩, ⟨4, ⟨(some 122), .load false 1 (.t 121), none, false⟩, false, [], []⟩, ⟨5, ⟨(some 123), .idx 1 none false (.t 122) (.c (.int .i64 0)), none, false⟩, false, [], []⟩, ⟨6, ⟨(some 124), .load false 1 (.t 123), none, false⟩, false, [], []⟩, ⟨7, ⟨(some 125), .call 113 [(.t 124)], none, false⟩, true, [], [(.t 119)]⟩, ⟨8, ⟨(some 126), .bslice 1 (.int .u16) [(.int .u16 0), (.int .u16 0)] [(0, 1, (.t 120)), (1, 1, (.t 125))] 2, none, false⟩, false, [], []⟩, ⟨9, ⟨(some 127), .call 111 [(.t 118), (.t 126)], none, false⟩, true, [8], []⟩, ⟨10, ⟨(some 7), .mov (.t 127), none, false⟩, false, [], []⟩])
 .skip)))
 (.seq (.reg [⟨(some 129), .bin .eql .other (.t 47) (.c (.int .u8 6)), none, false⟩, ⟨(some 128), .mov (.t 129), none, false⟩])
 (.cond (.t 128) (.seq (.reg [⟨(some 130), .mov (.t 6), none, false⟩, ⟨(some 131), .bin .eql .other (.t 130) (.c (.int .i64 1)), none, false⟩, ⟨(some 132), .mov (.t 131), none, true⟩, ⟨(some 133), .mov (.t 5), (some (132, true)), false⟩, ⟨(some 134), .bin .eql .other (.t 133) (.c (.int .i64 0)), (some (132, true)), false⟩, ⟨(some 135), .pick (.t 132) (.t 134) (.c (.bool false)), none, false⟩, ⟨(some 136), .mov (.t 135), none, true⟩, ⟨(some 137), .mov (.t 4), (some (136, true)), false⟩, ⟨(some 138), .bin .eql .other (.t 137) (.c (.int .i64 0)), (some (136, true)), false⟩, ⟨(some 139), .pick (.t 136) (.t 138) (.c (.bool false)), none, false⟩, ⟨(some 8), .mov (.t 139), none, false⟩])
 (.draw [⟨0, ⟨(some 140), .mov (.t 7), none, false⟩, false, [], []⟩, ⟨1, ⟨(some 141), .fld 2 1 false (.t 1), none, false⟩, false, [], []⟩, ⟨2, ⟨(some 142), .load false 1 (.t 141), none, false⟩, false, [], []⟩, ⟨3, ⟨(some 143), .bslice 1 (.int .u16) [(.int .u16 0)] [(0, 1, (.t 142))] 1, none, false⟩, false, [], []⟩, ⟨5, ⟨(some 145), .fld 5 1 false (.t 1), none, false⟩, false, [], []⟩, ⟨6, ⟨(some 146), .load false 1 (.t 145), none, false⟩, false, [], []⟩, ⟨4, ⟨(some 144), .call 111 [(.t 140), (.t 143)], none, false⟩, true, [3], [(.t 145)]⟩, ⟨7, ⟨(some 147), .call 111 [(.t 144), (.t 146)], none, false⟩, true, [3], []⟩, ⟨8, ⟨(some 7), .mov (.t 147), none, false⟩, false, [], []⟩]))
 (.seq (.reg [⟨(some 149), .bin .eql .other (.t 47) (.c (.int .u8 15)), none, false⟩, ⟨(some 148), .mov (.t 149), none, false⟩])
 (.cond (.t 148) (.seq (.reg [⟨(some 150), .mov (.t 4), none, false⟩, ⟨(some 151), .call 112 [(.t 150), (.c (.int .i64 1)), (.c (.int .i64 1968))], none, false⟩, ⟨(some 152), .mov (.t 151), none, true⟩, ⟨(some 153), .mov (.t 5), (some (152, true)), false⟩, ⟨(some 154), .mov (.t 6), (some (152, true)), false⟩, ⟨(some 155), .bin .add .other (.t 153) (.t 154), (some (152, true)), false⟩, ⟨(some 156), .bin .eql .other (.t 155) (.c (.int .i64 0)), (some (152, true)), false⟩, ⟨(some 157), .pick (.t 152) (.t 156) (.c (.bool false)), none, false⟩, ⟨(some 8), .mov (.t 157), none, false⟩])
 (.reg [⟨(some 158), .mov (.t 7), none, false⟩, ⟨(some 159), .fld 2 1 false (.t 1), none, false⟩, ⟨(some 160), .load false 1 (.t 159), none, false⟩, ⟨(some 161), .fld 3 1 false (.t 1), none, false⟩, ⟨(some 162), .load false 1 (.t 161), none, false⟩, ⟨(some 163), .bslice 1 (.int .u16) [(.int .u16 0), (.int .u16 0)] [(0, 1, (.t 160)), (1, 1, (.t 162))] 2, none, false⟩, ⟨(some 164), .call 111 [(.t 158), (.t 163)], none, false⟩, ⟨(some 7), .mov (.t 164), none, false⟩]))
 (.seq (.reg [⟨(some 166), .bin .eql .other (.t 47) (.c (.int .u8 16)), none, false⟩, ⟨(some 165), .mov (.t 166), none, false⟩])
 (.cond (.t 165) (.seq (.reg [⟨(some 167), .mov (.t 4), none, false⟩, ⟨(some 168), .call 112 [(.t 167), (.c (.int .i64 1)), (.c (.int .i64 123))], none, false⟩, ⟨(some 169), .mov (.t 168), none, true⟩, ⟨(some 170), .mov (.t 5), (some (169, true)), false⟩, ⟨(some 171), .mov (.t 6), (some (169, true)), false⟩, ⟨(some 172), .bin .add .other (.t 170) (.t 171), (some (169, true)), false⟩, ⟨(some 173), .bin .eql .other (.t 172) (.c (.int .i64 0)), (some (169, true)), false⟩, ⟨(some 174), .pick (.t 169) (.t 173) (.c (.bool false)), none, false⟩, ⟨(some 8), .mov (.t 174), none, false⟩])
 (.reg [⟨(some 175), .mov (.t 7), none, false⟩, ⟨(some 176), .fld 2 1 false (.t 1), none, false⟩, ⟨(some 177), .load false 1 (.t 176), none, false⟩, ⟨(some 178), .fld 3 1 false (.t 1), none, false⟩, ⟨(some 179), .load false 1 (.t 178), none, false⟩, ⟨(some 180), .bslice 1 (.int .u16) [(.int .u16 0), (.int .u16 0)] [(0, 1, (.t 177)), (1, 1, (.t 179))] 2, none, false⟩, ⟨(some 181), .call 111 [(.t 175), (.t 180)], none, false⟩, ⟨(some 7), .mov (.t 181), none, false⟩]))
 (.seq (.reg [⟨(some 183), .bin .eql .other (.t 47) (.c (.int .u8 22)), none, false⟩, ⟨(some 182), .mov (.t 183), none, false⟩])
 (.cond (.t 182) (.seq (.reg [⟨(some 184), .mov (.t 6), none, false⟩, ⟨(some 185), .bin .eql .other (.t 184) (.c (.int .i64 2)), none, false⟩, ⟨(some 186), .mov (.t 185), none, true⟩, ⟨(some 187), .mov (.t 5), (some (186, true)), false⟩, ⟨(some 188), .bin .eql .other (.t 187) (.c (.int .i64 0)), (some (186, true)), false⟩, ⟨(some 189), .pick (.t 186) (.t 188) (.c (.bool false)), none, false⟩, ⟨(some 190), .mov (.t 189), none, true⟩, ⟨(some 191), .mov (.t 4), (some (190, true)), false⟩, ⟨(some 192), .bin .eql .other (.t 191) (.c (.int .i64 0)), (some (190, true)), false⟩, ⟨(some 193), .pick (.t 190) (.t 192) (.c (.bool false)), none, false⟩, ⟨(some 8), .mov (.t 193), none, false⟩])
 (.draw [⟨0, ⟨(some 194), .mov (.t 7), none, false⟩, false, [], []⟩, ⟨1, ⟨(some 195), .fld 2 1 false (.t 1), none, false⟩, false, [], []⟩, ⟨2, ⟨(some 196), .load false 1 (.t 195), none, false⟩, false, [], []⟩, ⟨3, ⟨(some 197), .bslice 1 (.int .u16) [(.int .u16 0)] [(0, 1, (.t 196))] 1, none, false⟩, false, [], []⟩, ⟨5, ⟨(some 199), .fld 5 1 false (.t 1), none, false⟩, false, [], []⟩, ⟨6, ⟨(some 200), .load false 1 (.t 199), none, false⟩, false, [], []⟩, ⟨4, ⟨(some 198), .call 111 [(.t 194), (.t 197)], none, false⟩, true, [3], [(.t 199)]⟩, ⟨7, ⟨(some 201), .call 111 [(.t 198), (.t 200)], none, false⟩, true, [3], []⟩, ⟨8, ⟨(some 7), .mov (.t 201), none, false⟩, false, [], []⟩]))
 .skip))))))))))))))))
 (.seq (.seq (.reg [⟨(some 202), .mov (.t 8), none, false⟩, ⟨(some 203), .un .not (.t 202), none, false⟩])
 (.cond (.t 203) (.seq (.reg [⟨(some 2), .mov (.c .nils), none, false⟩, ⟨(some 3), .mov (.c (.int .i64 30)), none, false⟩])
 .ret)
 .skip))
 (.seq (.reg [⟨(some 204), .mov (.t 7), none, false⟩, ⟨(some 2), .mov (.t 204), none, false⟩, ⟨(some 3), .mov (.c (.int .i64 0)), none, false⟩])
 .ret))))))))
def r57 : List ARes := [.t 2, .t 3]
theorem c57 : compF Try.prog Try.f57 = some (a57, r57) := by kernel_rfl

theorem b57 : hasBody Try.prog 57 = true := by kernel_rfl
theorem g57 : Try.prog.funcs[57]? = some Try.f57 := by kernel_rfl

def repOk (f x a n : Int) (b : List Bool) (r : List Int) : Bool :=
  if x != 0 then decide (f < 128) && (n == 0 && (b.length : Int) == 0 && (r.length : Int) == 0) && a == 0
  else if f == 1 then withinB b.length 2000 && (r.length : Int) == 0 && n == 0 && a == 0
  else if f == 2 then withinB b.length 2000 && (r.length : Int) == 0 && n == 0 && a == 0
  else if f == 3 then withinB r.length 125 && (b.length : Int) == 0 && n == 0 && a == 0
  else if f == 4 then withinB r.length 125 && (b.length : Int) == 0 && n == 0 && a == 0
  else if f == 23 then withinB r.length 125 && (b.length : Int) == 0 && n == 0 && a == 0
  else if f == 5 then (b.length : Int) == 1 && (r.length : Int) == 0 && n == 0
  else if f == 6 then (r.length : Int) == 1 && (b.length : Int) == 0 && n == 0
  else if f == 15 then withinB n 1968 && ((b.length : Int) == 0 && (r.length : Int) == 0)
  else if f == 16 then withinB n 123 && ((b.length : Int) == 0 && (r.length : Int) == 0)
  else if f == 22 then (r.length : Int) == 2 && (b.length : Int) == 0 && n == 0
  else false
def repB (f x a n : Int) (b : List Bool) (r : List Int) : List Int := if repOk f x a n b r then (repS f x a n b r).row else []
def repE (f x a n : Int) (b : List Bool) (r : List Int) : Int := if repOk f x a n b r then 0 else 30
theorem rep_own (f x a n : Int) (b : List Bool) (r : List Int) : ((repS f x a n b r).ok && ((repS f x a n b r).a == a) && ((repS f x a n b r).n == n) && ((repS f x a n b r).b == b) && ((repS f x a n b r).r == r)) = repOk f x a n b r := by
  have e1 : ([] = b) ↔ b.length = 0 := by rw [List.length_eq_zero_iff]; exact eq_comm
  have e2 : ([] = r) ↔ r.length = 0 := by rw [List.length_eq_zero_iff]; exact eq_comm
  by_cases hx : x = 0
  · subst hx
    by_cases h1 : f = 1
    · subst h1; rw [Bool.eq_iff_iff]; simp [repS, repOk, withinB, @eq_comm _ [] b, @eq_comm _ [] r, ← List.length_eq_zero_iff] <;> omega
    by_cases h2 : f = 2
    · subst h2; rw [Bool.eq_iff_iff]; simp [repS, repOk, withinB, @eq_comm _ [] b, @eq_comm _ [] r, ← List.length_eq_zero_iff] <;> omega
    by_cases h3 : f = 3
    · subst h3; rw [Bool.eq_iff_iff]; simp [repS, repOk, withinB, @eq_comm _ [] b, @eq_comm _ [] r, ← List.length_eq_zero_iff] <;> omega
    by_cases h4 : f = 4
    · subst h4; rw [Bool.eq_iff_iff]; simp [repS, repOk, withinB, @eq_comm _ [] b, @eq_comm _ [] r, ← List.length_eq_zero_iff] <;> omega
    by_cases h23 : f = 23
    · subst h23; rw [Bool.eq_iff_iff]; simp [repS, repOk, withinB, @eq_comm _ [] b, @eq_comm _ [] r, ← List.length_eq_zero_iff] <;> omega
    by_cases h5 : f = 5
    · subst h5; rw [Bool.eq_iff_iff]; simp [repS, repOk, withinB, @eq_comm _ [] b, @eq_comm _ [] r, ← List.length_eq_zero_iff] <;> omega
    by_cases h6 : f = 6
    · subst h6; rw [Bool.eq_iff_iff]; simp [repS, repOk, withinB, @eq_comm _ [] b, @eq_comm _ [] r, ← List.length_eq_zero_iff] <;> omega
    by_cases h15 : f = 15
    · subst h15; rw [Bool.eq_iff_iff]; simp [repS, repOk, withinB, @eq_comm _ [] b, @eq_comm _ [] r, ← List.length_eq_zero_iff] <;> omega
    by_cases h16 : f = 16
    · subst h16; rw [Bool.eq_iff_iff]; simp [repS, repOk, withinB, @eq_comm _ [] b, @eq_comm _ [] r, ← List.length_eq_zero_iff] <;> omega
    by_cases h22 : f = 22
    · subst h22; rw [Bool.eq_iff_iff]; simp [repS, repOk, withinB, @eq_comm _ [] b, @eq_comm _ [] r, ← List.length_eq_zero_iff] <;> omega
    simp [repS, repOk, *]
  · rw [Bool.eq_iff_iff]; simp [repS, repOk, hx, @eq_comm _ [] b, @eq_comm _ [] r, ← List.length_eq_zero_iff] <;> omega
theorem equalB_ev (l m : List Bool) (hl : l.length ≤ 100000) : Ev Try.prog 119 [.roB l, .roB m] (.bool (l == m)) := ⟨rfl, equalB_tr l m hl⟩
theorem equal16_ev (l m : List Int) (hl : l.length ≤ 100000) : Ev Try.prog 120 [.roI .u16 l, .roI .u16 m] (.bool (l == m)) := ⟨rfl, equal16_tr l m hl⟩
theorem repS_len (f x a n : Int) (b : List Bool) (r : List Int) (hb : b.length ≤ 2500) (hr : r.length ≤ 500) : (repS f x a n b r).b.length ≤ 2500 ∧ (repS f x a n b r).r.length ≤ 500 := by
  unfold repS
  by_cases h : (x != 0) = true
  · rw [if_pos h]; simp
  rw [if_neg h]
  by_cases h1 : (f == 1) = true
  · rw [if_pos h1]; simp [hb, hr]
  rw [if_neg h1]
  by_cases h2 : (f == 2) = true
  · rw [if_pos h2]; simp [hb, hr]
  rw [if_neg h2]
  by_cases h3 : (f == 3) = true
  · rw [if_pos h3]; simp [hb, hr]
  rw [if_neg h3]
  by_cases h4 : (f == 4) = true
  · rw [if_pos h4]; simp [hb, hr]
  rw [if_neg h4]
  by_cases h23 : (f == 23) = true
  · rw [if_pos h23]; simp [hb, hr]
  rw [if_neg h23]
  by_cases h5 : (f == 5) = true
  · rw [if_pos h5]; simp [hb, hr]
  rw [if_neg h5]
  by_cases h6 : (f == 6) = true
  · rw [if_pos h6]; simp [hb, hr]
  rw [if_neg h6]
  by_cases h15 : (f == 15) = true
  · rw [if_pos h15]; simp [hb, hr]
  rw [if_neg h15]
  by_cases h16 : (f == 16) = true
  · rw [if_pos h16]; simp [hb, hr]
  rw [if_neg h16]
  by_cases h22 : (f == 22) = true
  · rw [if_pos h22]; simp [hb, hr]
  rw [if_neg h22]
  simp
set_option maxRecDepth 20000 in
set_option maxHeartbeats 4000000 in
theorem Reply_raw (f x a n : Int) (b : List Bool) (r : List Int) (hn0 : 0 ≤ n) (hn1 : n < 65536) (hb : b.length ≤ 2500) (hr : r.length ≤ 500) :
    Tr Try.prog 56 [repA f x a n (.roB b) (.roI .u16 r)] ⟨0, []⟩ (RawK (repB f x a n b r) [.int .i64 (repE f x a n b r)]) := by
  have h1 := reply_tr f x a n b r hn0 hn1 hb hr
  have h2 := rep_own f x a n b r
  obtain ⟨l1, l2⟩ := repS_len f x a n b r hb hr
  unfold repB repE
  generalize repOk f x a n b r = o at *
  generalize repS f x a n b r = q at *
  refine trF g56 b56 c56 ?_
  conv => whnf
  refine Ret1.call h1 rfl rfl ?_
  conv => whnf
  repeat' (first
    | (refine condY (by assumption) ?_; conv => whnf)
    | (refine condN (by assumption) ?_; conv => whnf)
    | (refine condF (fun h => ?_) (fun h => ?_) <;> conv => whnf)
    | (refine Ev.call (equalB_ev _ _ (by omega)) ?_; conv => whnf)
    | (refine Ev.call (equal16_ev _ _ (by omega)) ?_; conv => whnf)
    )
  all_goals first
    | (have ho : o = false := by rw [← h2]; simp_all
       subst ho
       exact RawK.err0 rfl rfl)
    | (have ho : o = true := by rw [← h2]; simp_all
       subst ho
       exact RawK.err rfl rfl rfl rfl)
theorem Reply_tr (f x a n : Int) (b : List Bool) (r : List Int) (hn0 : 0 ≤ n) (hn1 : n < 65536) (hb : b.length ≤ 2500) (hr : r.length ≤ 500) :
    Tr Try.prog 56 [repA f x a n (.roB b) (.roI .u16 r)] ⟨0, []⟩ (Ret1 (repB f x a n b r) [.int .i64 (repE f x a n b r)]) :=
  Ret1.of rfl ((Reply_raw f x a n b r hn0 hn1 hb hr).mono fun v s h => by unfold RawK at h; exact h)
theorem Reply_ev (f x a n : Int) (b : List Bool) (r : List Int) (hn0 : 0 ≤ n) (hn1 : n < 65536) (hb : b.length ≤ 2500) (hr : r.length ≤ 500) :
    Ev Try.prog 56 [repA f x a n (.roB b) (.roI .u16 r)] (.tup [.roI .u8 (repB f x a n b r), .int .i64 (repE f x a n b r)]) := Ret1.ev rfl (Reply_tr f x a n b r hn0 hn1 hb hr)
theorem not_t {c : Bool} (h : (!c) = true) : c = false := by cases c; rfl; cases h
theorem rrep_sums {n : Int} {b : List Bool} {r : List Int} (hn0 : 0 ≤ n) (hn1 : n < 65536) (hb : b.length ≤ 2500) (hr : r.length ≤ 500) : (IntKind.i64.wrap (IntKind.i64.wrap (n + b.length) + r.length) != 0) = !(n == 0 && (b.length : Int) == 0 && (r.length : Int) == 0) := by
  rw [IntWalk.i64_in (n + b.length) (by omega), IntWalk.i64_in _ (by omega)]
  rw [Bool.eq_iff_iff]; simp [← List.length_eq_zero_iff] <;> omega
theorem rrep_sum2 {b : List Bool} {r : List Int} (hb : b.length ≤ 2500) (hr : r.length ≤ 500) : (IntKind.i64.wrap ((b.length : Int) + r.length) == 0) = ((b.length : Int) == 0 && (r.length : Int) == 0) := by
  rw [IntWalk.i64_in _ (by omega)]
  rw [Bool.eq_iff_iff]; simp [← List.length_eq_zero_iff] <;> omega
set_option maxRecDepth 20000 in
set_option maxHeartbeats 4000000 in
theorem rReply_raw (f x a n : Int) (b : List Bool) (r : List Int) (hn0 : 0 ≤ n) (hn1 : n < 65536) (hb : b.length ≤ 2500) (hr : r.length ≤ 500) :
    Tr Try.prog 57 [repA f x a n (.roB b) (.roI .u16 r)] ⟨0, []⟩ (RawK (repB f x a n b r) [.int .i64 (repE f x a n b r)]) := by
  have hw : IntKind.i64.wrap n = n := IntWalk.i64_in _ (by omega)
  have h15 : IntKind.i64.wrap ((IntKind.i64.wrap ((b.length : Int) + 7)).tdiv 8) = (((b.length + 7) / 8 : Nat) : Int) := by
    rw [show IntKind.i64.wrap ((b.length : Int) + 7) = ((b.length + 7 : Nat) : Int) from w64 (i := b.length + 7) (by omega)]
    exact q64 (by omega)
  refine trF g57 b57 c57 ?_
  conv => whnf
  repeat' (first
    | (refine condY (by assumption) ?_; conv => whnf)
    | (refine condN (by assumption) ?_; conv => whnf)
    | (refine condT (by first | assumption | (simp [twos_length, packN_length, two8]; done) | (simp [twos_length, packN_length, two8]; omega) | (simp_all; done) | (simp_all; omega)) ?_; conv => whnf)
    | (refine condF (fun h => ?_) (fun h => ?_) <;> conv => whnf)
    | (refine ⟨rfl, ?_⟩; conv => whnf)
    | (refine rtwo_call rfl rfl rfl (by first | (simp [twos_length, packN_length, two8]; done) | (simp [twos_length, packN_length, two8]; omega) | omega) (by first | (simp [twos_length, packN_length, two8]; done) | (simp [twos_length, packN_length, two8]; omega) | omega) (by first | (simp [twos_length, packN_length, two8]; done) | (simp [twos_length, packN_length, two8]; omega) | omega) (by first | (simp [twos_length, packN_length, two8]; done) | (simp [twos_length, packN_length, two8]; omega) | omega) ?_; conv => whnf)
    | (refine rtwo_call1 rfl (by first | (simp [twos_length, packN_length, two8]; done) | (simp [twos_length, packN_length, two8]; omega) | omega) (by first | (simp [twos_length, packN_length, two8]; done) | (simp [twos_length, packN_length, two8]; omega) | omega) (by first | (simp [twos_length, packN_length, two8]; done) | (simp [twos_length, packN_length, two8]; omega) | omega) ?_; conv => whnf)
    | (refine Ev.call (within3_ev _ _ _) ?_; conv => whnf)
    | (refine Ev.call (one_ev _) ?_; conv => whnf)
    | (refine Ev.call (rpack_ev _ (by omega)) ?_; conv => whnf)
    )
  all_goals (simp only [within3_1, hw, h15, rrep_sums hn0 hn1 hb hr, rrep_sum2 hb hr] at *)
  all_goals first
    | (exfalso; simp_all; done)
    | (have hk : repOk f x a n b r = false := by
         first
           | (simp_all [repOk]; done)
           | (have hc := not_t h
              have e1 : ∀ k, (f == k) = true → f = k := fun k hk => eq_of_beq hk
              simp only [repOk, hc, Bool.and_false, Bool.false_and, ite_self]
              simp only [*, if_true, if_false, Bool.false_eq_true]
              done)
           | (have hc := not_t h
              have hf := eq_of_beq (show (f == 16) = true by assumption)
              have h0 : (x != 0) = false := by assumption
              simp only [repOk, hc, h0, hf, Bool.and_false, Bool.false_and]; rfl)
           | (have hc := not_t h
              have hf := eq_of_beq (show (f == 15) = true by assumption)
              have h0 : (x != 0) = false := by assumption
              simp only [repOk, hc, h0, hf, Bool.and_false, Bool.false_and]; rfl)
           | (have hc := not_t h
              have h0 : (x != 0) = true := by assumption
              simp only [repOk, hc, h0, Bool.and_false, Bool.false_and, if_true]; done)
           | (simp only [repOk, *, if_true, if_false, Bool.false_eq_true, Bool.true_and, Bool.and_true]; rw [show ((n == 0 && (b.length : Int) == 0 && (r.length : Int) == 0)) = false by simpa using h]; simp)
           | (simp only [repOk, *, if_true]; rw [show decide (f < 128) = false by simp at h ⊢; omega]; simp)
       exact RawK.err0 (by simp [repB, hk]) (by simp [repE, hk]))
    | (have hk : repOk f x a n b r = true := by simp_all [repOk]
       refine RawK.err rfl (by first | rfl | (simp [packN_length, twos_length, two8]; done) | (simp [packN_length, twos_length, two8]; omega)) ?_ (by simp [repE, hk])
       simp only [repB, hk, if_true, repS, *, Bool.false_eq_true, if_false]
       first | rfl | (simp [packN_length, coilN, twos, two8]; done))
theorem rReply_ev (f x a n : Int) (b : List Bool) (r : List Int) (hn0 : 0 ≤ n) (hn1 : n < 65536) (hb : b.length ≤ 2500) (hr : r.length ≤ 500) :
    Ev Try.prog 57 [repA f x a n (.roB b) (.roI .u16 r)] (.tup [.roI .u8 (repB f x a n b r), .int .i64 (repE f x a n b r)]) :=
  Ret1.ev rfl (Ret1.of rfl ((rReply_raw f x a n b r hn0 hn1 hb hr).mono fun v s h => by unfold RawK at h; exact h))
end Go.Proofs.Ytomodeliimnddaa
