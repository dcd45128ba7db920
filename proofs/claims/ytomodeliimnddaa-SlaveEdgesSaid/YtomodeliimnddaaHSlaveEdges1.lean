/- Contracts: a request is served: the document's. Statements of layer 11: an image has just the values that the document says; what is hidden, and when it shows. Contracts: images laid; images alike; the chapter's examples. Statements of layer 25: any bytes, any requests. Statements of layer 25: the ends of the tables. From a statement's arguments to the engine's values; a statement's row from a contract. -/
import Derived.Test.YtomodeliimnddaaRows
import Derived.WalkKit
import Derived.ProofKit
import Derived.OpenShut
import Derived.ShutString
import Derived.ChangeOld
import Derived.Below
import Derived.Deep.Grids
import Derived.Test.YtomodeliimnddaaHSlaveEdges0
import Derived.Test.YtomodeliimnddaaHPduA
import Derived.Test.YtomodeliimnddaaHImg
import Derived.Test.YtomodeliimnddaaHEngD
set_option linter.unusedVariables false
set_option linter.unusedSimpArgs false
namespace Go.Proofs.Ytomodeliimnddaa
open Go.Ab
/- rung/rungref25.Serve -/
def a92 : ACode := (.seq (.reg [⟨(some 4), .mov (.c .nils), none, false⟩])
 (.seq (.seq (.reg [⟨(some 21), .mov (.t 1), none, false⟩, ⟨(some 22), .len false (.t 21), none, false⟩, ⟨(some 23), .bin .eql .other (.t 22) (.c (.int .i64 0)), none, false⟩])
 (.cond (.t 23) (.seq (.reg [⟨(some 4), .mov (.c .nils), none, false⟩])
 .ret)
 .skip))
 (.seq (.reg [⟨(some 24), .mov (.t 1), none, false⟩, ⟨(some 25), .idx 1 none false (.t 24) (.c (.int .i64 0)), none, false⟩, ⟨(some 26), .load false 1 (.t 25), none, false⟩, ⟨(some 5), .mov (.t 26), none, false⟩])
 (.seq (.seq (.reg [⟨(some 27), .mov (.t 5), none, false⟩, ⟨(some 28), .call 66 [(.t 27)], none, false⟩, ⟨(some 29), .un .not (.t 28), none, false⟩])
 (.cond (.t 29) (.seq (.reg [⟨(some 30), .mov (.t 1), none, false⟩, ⟨(some 31), .call 95 [(.t 30), (.c (.int .u8 1))], none, false⟩, ⟨(some 4), .mov (.t 31), none, false⟩])
 .ret)
 .skip))
 (.seq (.reg [⟨(some 33), .mov (.t 1), none, false⟩, ⟨(some 34), .call 54 [(.t 33)], none, false⟩, ⟨(some 32), .mov (.t 34), none, false⟩, ⟨(some 35), .ext (.t 32) 0, none, false⟩, ⟨(some 36), .ext (.t 32) 1, none, false⟩, ⟨(some 6), .alloc [(1, (.int .u8 0)), (3, (.int .u16 0)), (2, .nils)], none, false⟩, ⟨none, .store 6 (.t 6) (.t 35), none, false⟩, ⟨(some 7), .mov (.t 36), none, false⟩])
 (.seq (.seq (.reg [⟨(some 37), .mov (.t 7), none, false⟩, ⟨(some 38), .bin .neq .other (.t 37) (.c (.int .i64 0)), none, false⟩, ⟨(some 39), .mov (.t 38), none, true⟩, ⟨(some 40), .mov (.t 5), (some (39, false)), false⟩, ⟨(some 41), .bin .eql .other (.t 40) (.c (.int .u8 5)), (some (39, false)), false⟩, ⟨(some 42), .mov (.t 41), (some (39, false)), true⟩, ⟨(some 43), .mov (.t 1), (some (42, true)), false⟩, ⟨(some 44), .idx 1 none false (.t 43) (.c (.int .i64 3)), (some (42, true)), false⟩, ⟨(some 45), .load false 1 (.t 44), (some (42, true)), false⟩, ⟨(some 46), .bin .neq .other (.t 45) (.c (.int .u8 0)), (some (42, true)), false⟩, ⟨(some 47), .mov (.t 46), (some (42, true)), true⟩, ⟨(some 48), .mov (.t 1), (some (47, true)), false⟩, ⟨(some 49), .idx 1 none false (.t 48) (.c (.int .i64 3)), (some (47, true)), false⟩, ⟨(some 50), .load false 1 (.t 49), (some (47, true)), false⟩, ⟨(some 51), .bin .neq .other (.t 50) (.c (.int .u8 255)), (some (47, true)), false⟩, ⟨(some 52), .pick (.t 47) (.t 51) (.c (.bool false)), (some (42, true)), false⟩, ⟨(some 53), .mov (.t 52), (some (42, true)), true⟩, ⟨(some 54), .mov (.t 1), (some (53, false)), false⟩, ⟨(some 55), .idx 1 none false (.t 54) (.c (.int .i64 4)), (some (53, false)), false⟩, ⟨(some 56), .load false 1 (.t 55), (some (53, false)), false⟩, ⟨(some 57), .bin .neq .other (.t 56) (.c (.int .u8 0)), (some (53, false)), false⟩, ⟨(some 58), .pick (.t 53) (.c (.bool true)) (.t 57), (some (42, true)), false⟩, ⟨(some 59), .pick (.t 42) (.t 58) (.c (.bool false)), (some (39, false)), false⟩, ⟨(some 60), .pick (.t 39) (.c (.bool true)) (.t 59), none, false⟩])
 (.cond (.t 60) (.seq (.reg [⟨(some 61), .mov (.t 1), none, false⟩, ⟨(some 62), .call 95 [(.t 61), (.c (.int .u8 3))], none, false⟩, ⟨(some 4), .mov (.t 62), none, false⟩])
 .ret)
 .skip))
 (.seq (.reg [⟨(some 63), .fld 2 1 false (.t 6), none, false⟩, ⟨(some 64), .load false 1 (.t 63), none, false⟩, ⟨(some 65), .conv (.int .i64) (.t 64), none, false⟩, ⟨(some 66), .fld 4 1 false (.t 6), none, false⟩, ⟨(some 67), .load false 1 (.t 66), none, false⟩, ⟨(some 68), .len false (.t 67), none, false⟩, ⟨(some 69), .fld 5 1 false (.t 6), none, false⟩, ⟨(some 70), .load false 1 (.t 69), none, false⟩, ⟨(some 71), .len false (.t 70), none, false⟩, ⟨(some 72), .mx3 (.t 65) (.t 68) (.t 71), none, false⟩, ⟨(some 8), .mov (.t 72), none, false⟩])
 (.seq (.seq (.reg [⟨(some 73), .mov (.t 5), none, false⟩])
 (.block 0 (.seq (.reg [⟨(some 75), .bin .eql .other (.t 73) (.c (.int .u8 22)), none, false⟩, ⟨(some 74), .mov (.t 75), none, false⟩])
 (.cond (.t 74) (.reg [⟨(some 8), .mov (.c (.int .i64 1)), none, false⟩])
 (.seq (.reg [⟨(some 77), .bin .eql .other (.t 73) (.c (.int .u8 23)), none, false⟩, ⟨(some 76), .mov (.t 77), none, false⟩])
 (.cond (.t 76) (.seq (.reg [⟨(some 78), .fld 2 1 false (.t 6), none, false⟩, ⟨(some 79), .load false 1 (.t 78), none, false⟩, ⟨(some 80), .conv (.int .i64) (.t 79), none, false⟩, ⟨(some 8), .mov (.t 80), none, false⟩])
 (.seq (.draw [⟨0, ⟨(some 81), .fld 3 1 false (.t 6), none, false⟩, false, [], []⟩, ⟨1, ⟨(some 82), .load false 1 (.t 81), none, false⟩, false, [], []⟩, ⟨2, ⟨(some 83), .conv (.int .i64) (.t 82), none, false⟩, false, [], []⟩, ⟨3, ⟨(some 84), .fld 5 1 false (.t 6), none, false⟩, false, [], []⟩, ⟨4, ⟨(some 85), .load false 1 (.t 84), none, false⟩, false, [], []⟩, ⟨5, ⟨(some 86), .len false (.t 85), none, false⟩, false, [], []⟩, ⟨6, ⟨(some 87), .bin .add .other (.t 83) (.t 86), none, false⟩, false, [], []⟩, ⟨7, ⟨(some 88), .mov (.t 5), none, false⟩, false, [], []⟩, ⟨8, ⟨(some 89), .call 138 [(.t 88)], none, false⟩, true, [], [(.t 81), (.t 84)]⟩, ⟨9, ⟨(some 90), .bin .gtr .other (.t 87) (.t 89), none, false⟩, false, [], []⟩])
 (.cond (.t 90) (.seq (.reg [⟨(some 91), .mov (.t 1), none, false⟩, ⟨(some 92), .call 95 [(.t 91), (.c (.int .u8 2))], none, false⟩, ⟨(some 4), .mov (.t 92), none, false⟩])
 .ret)
 .skip)))
 .skip))))))
 (.seq (.seq (.draw [⟨0, ⟨(some 93), .fld 1 1 false (.t 6), none, false⟩, false, [], []⟩, ⟨1, ⟨(some 94), .load false 1 (.t 93), none, false⟩, false, [], []⟩, ⟨2, ⟨(some 95), .conv (.int .i64) (.t 94), none, false⟩, false, [], []⟩, ⟨3, ⟨(some 96), .mov (.t 8), none, false⟩, false, [], []⟩, ⟨4, ⟨(some 97), .bin .add .other (.t 95) (.t 96), none, false⟩, false, [], []⟩, ⟨5, ⟨(some 98), .mov (.t 5), none, false⟩, false, [], []⟩, ⟨6, ⟨(some 99), .call 138 [(.t 98)], none, false⟩, true, [], [(.t 93)]⟩, ⟨7, ⟨(some 100), .bin .gtr .other (.t 97) (.t 99), none, false⟩, false, [], []⟩])
 (.cond (.t 100) (.seq (.reg [⟨(some 101), .mov (.t 1), none, false⟩, ⟨(some 102), .call 95 [(.t 101), (.c (.int .u8 2))], none, false⟩, ⟨(some 4), .mov (.t 102), none, false⟩])
 .ret)
 .skip))
 (.seq (.reg [⟨(some 103), .mov (.t 5), none, false⟩, ⟨(some 104), .fld 1 1 false (.t 6), none, false⟩, ⟨(some 105), .load false 1 (.t 104), none, false⟩, ⟨(some 106), .build [(.int .u8 0), (.int .u8 0), (.int .u16 0), (.int .u16 0), .nils, .nils] [(0, 1, (.t 103)), (2, 1, (.t 105))], none, false⟩, ⟨(some 9), .alloc [(2, (.int .u8 0)), (2, (.int .u16 0)), (2, .nils)], none, false⟩, ⟨none, .store 6 (.t 9) (.t 106), none, false⟩])
 (.seq (.reg [⟨(some 107), .fld 1 1 false (.t 6), none, false⟩, ⟨(some 108), .load false 1 (.t 107), none, false⟩, ⟨(some 109), .conv (.int .i64) (.t 108), none, false⟩, ⟨(some 10), .mov (.t 109), none, false⟩])
 (.seq (.seq (.reg [⟨(some 110), .mov (.t 5), none, false⟩])
 (.block 1 (.seq (.seq (.reg [⟨(some 112), .bin .eql .other (.t 110) (.c (.int .u8 1)), none, false⟩, ⟨(some 111), .mov (.t 112), none, false⟩])
 (.cond (.t 111) .skip
 (.reg [⟨(some 113), .bin .eql .other (.t 110) (.c (.int .u8 2)), none, false⟩, ⟨(some 111), .mov (.t 113), none, false⟩])))
 (.cond (.t 111) (.seq (.reg [⟨(some 114), .fld 2 1 false (.t 9), none, false⟩, ⟨none, .store 1 (.t 114) (.c (.int .u16 0)), none, false⟩])
 (.seq (.reg [⟨(some 11), .mov (.c (.int .i64 0)), none, false⟩])
 (.block 2 (.loop (.seq (.seq (.reg [⟨(some 115), .mov (.t 11), none, false⟩, ⟨(some 116), .mov (.t 8), none, false⟩, ⟨(some 117), .bin .lss .other (.t 115) (.t 116), none, false⟩])
 (.cond (.t 117) .skip
 (.exit 2)))
 (.seq (.block 3 (.draw [⟨0, ⟨(some 120), .fld 4 1 false (.t 9), none, false⟩, false, [], []⟩, ⟨1, ⟨(some 121), .load false 1 (.t 120), none, false⟩, false, [], []⟩, ⟨2, ⟨(some 122), .mov (.t 0), none, false⟩, false, [], []⟩, ⟨3, ⟨(some 123), .mov (.t 5), none, false⟩, false, [], []⟩, ⟨4, ⟨(some 124), .mov (.t 10), none, false⟩, false, [], []⟩, ⟨5, ⟨(some 125), .mov (.t 11), none, false⟩, false, [], []⟩, ⟨6, ⟨(some 126), .bin .add .other (.t 124) (.t 125), none, false⟩, false, [], []⟩, ⟨7, ⟨(some 127), .call 139 [(.t 122), (.t 123), (.t 126)], none, false⟩, true, [], [(.t 120)]⟩, ⟨8, ⟨(some 128), .bin .neq .other (.t 127) (.c (.int .u16 0)), none, false⟩, false, [], []⟩, ⟨9, ⟨(some 129), .bslice 1 .bool [(.bool false)] [(0, 1, (.t 128))] 1, none, false⟩, false, [], []⟩, ⟨10, ⟨(some 130), .app 1 1 (.t 121) (.t 129), none, false⟩, true, [9], []⟩, ⟨11, ⟨(some 131), .fld 4 1 false (.t 9), none, false⟩, false, [], []⟩, ⟨12, ⟨none, .store 1 (.t 131) (.t 130), none, false⟩, true, [9], []⟩]))
 (.reg [⟨(some 118), .mov (.t 11), none, false⟩, ⟨(some 119), .bin .add .other (.t 118) (.c (.int .i64 1)), none, false⟩, ⟨(some 11), .mov (.t 119), none, false⟩])))))))
 (.seq (.seq (.reg [⟨(some 133), .bin .eql .other (.t 110) (.c (.int .u8 3)), none, false⟩, ⟨(some 132), .mov (.t 133), none, false⟩])
 (.cond (.t 132) .skip
 (.seq (.reg [⟨(some 134), .bin .eql .other (.t 110) (.c (.int .u8 4)), none, false⟩, ⟨(some 132), .mov (.t 134), none, false⟩])
 (.cond (.t 132) .skip
 (.reg [⟨(some 135), .bin .eql .other (.t 110) (.c (.int .u8 23)), none, false⟩, ⟨(some 132), .mov (.t 135), none, false⟩])))))
 (.cond (.t 132) (.seq (.reg [⟨(some 136), .fld 2 1 false (.t 9), none, false⟩, ⟨none, .store 1 (.t 136) (.c (.int .u16 0)), none, false⟩])
 (.seq (.seq (.reg [⟨(some 12), .mov (.c (.int .i64 0)), none, false⟩])
 (.block 4 (.loop (.seq (.seq (.reg [⟨(some 137), .mov (.t 12), none, false⟩, ⟨(some 138), .fld 5 1 false (.t 6), none, false⟩, ⟨(some 139), .load false 1 (.t 138), none, false⟩, ⟨(some 140), .len false (.t 139), none, false⟩, ⟨(some 141), .bin .lss .other (.t 137) (.t 140), none, false⟩])
 (.cond (.t 141) .skip
 (.exit 4)))
 (.seq (.block 5 (.draw [⟨0, ⟨(some 144), .mov (.t 0), none, false⟩, false, [], []⟩, ⟨1, ⟨(some 145), .mov (.t 5), none, false⟩, false, [], []⟩, ⟨2, ⟨(some 146), .fld 3 1 false (.t 6), none, false⟩, false, [], []⟩, ⟨3, ⟨(some 147), .load false 1 (.t 146), none, false⟩, false, [], []⟩, ⟨4, ⟨(some 148), .conv (.int .i64) (.t 147), none, false⟩, false, [], []⟩, ⟨5, ⟨(some 149), .mov (.t 12), none, false⟩, false, [], []⟩, ⟨6, ⟨(some 150), .bin .add .other (.t 148) (.t 149), none, false⟩, false, [], []⟩, ⟨7, ⟨(some 151), .fld 5 1 false (.t 6), none, false⟩, false, [], []⟩, ⟨8, ⟨(some 152), .load false 1 (.t 151), none, false⟩, false, [], []⟩, ⟨9, ⟨(some 153), .mov (.t 12), none, false⟩, false, [], []⟩, ⟨10, ⟨(some 154), .idx 1 none false (.t 152) (.t 153), none, false⟩, false, [], []⟩, ⟨11, ⟨(some 155), .load false 1 (.t 154), none, false⟩, false, [], []⟩, ⟨12, ⟨(some 156), .call 140 [(.t 144), (.t 145), (.t 150), (.t 155)], none, false⟩, true, [], []⟩]))
 (.reg [⟨(some 142), .mov (.t 12), none, false⟩, ⟨(some 143), .bin .add .other (.t 142) (.c (.int .i64 1)), none, false⟩, ⟨(some 12), .mov (.t 143), none, false⟩]))))))
 (.seq (.reg [⟨(some 13), .mov (.c (.int .i64 0)), none, false⟩])
 (.block 6 (.loop (.seq (.seq (.reg [⟨(some 157), .mov (.t 13), none, false⟩, ⟨(some 158), .mov (.t 8), none, false⟩, ⟨(some 159), .bin .lss .other (.t 157) (.t 158), none, false⟩])
 (.cond (.t 159) .skip
 (.exit 6)))
 (.seq (.block 7 (.draw [⟨0, ⟨(some 162), .fld 5 1 false (.t 9), none, false⟩, false, [], []⟩, ⟨1, ⟨(some 163), .load false 1 (.t 162), none, false⟩, false, [], []⟩, ⟨2, ⟨(some 164), .mov (.t 0), none, false⟩, false, [], []⟩, ⟨3, ⟨(some 165), .mov (.t 5), none, false⟩, false, [], []⟩, ⟨4, ⟨(some 166), .mov (.t 10), none, false⟩, false, [], []⟩, ⟨5, ⟨(some 167), .mov (.t 13), none, false⟩, false, [], []⟩, ⟨6, ⟨(some 168), .bin .add .other (.t 166) (.t 167), none, false⟩, false, [], []⟩, ⟨7, ⟨(some 169), .call 139 [(.t 164), (.t 165), (.t 168)], none, false⟩, true, [], [(.t 162)]⟩, ⟨8, ⟨(some 170), .bslice 1 (.int .u16) [(.int .u16 0)] [(0, 1, (.t 169))] 1, none, false⟩, false, [], []⟩, ⟨9, ⟨(some 171), .app 1 2 (.t 163) (.t 170), none, false⟩, true, [8], []⟩, ⟨10, ⟨(some 172), .fld 5 1 false (.t 9), none, false⟩, false, [], []⟩, ⟨11, ⟨none, .store 1 (.t 172) (.t 171), none, false⟩, true, [8], []⟩]))
 (.reg [⟨(some 160), .mov (.t 13), none, false⟩, ⟨(some 161), .bin .add .other (.t 160) (.c (.int .i64 1)), none, false⟩, ⟨(some 13), .mov (.t 161), none, false⟩]))))))))
 (.seq (.seq (.reg [⟨(some 174), .bin .eql .other (.t 110) (.c (.int .u8 5)), none, false⟩, ⟨(some 173), .mov (.t 174), none, false⟩])
 (.cond (.t 173) .skip
 (.reg [⟨(some 175), .bin .eql .other (.t 110) (.c (.int .u8 15)), none, false⟩, ⟨(some 173), .mov (.t 175), none, false⟩])))
 (.cond (.t 173) (.seq (.seq (.reg [⟨(some 14), .mov (.c (.int .i64 0)), none, false⟩])
 (.block 8 (.loop (.seq (.seq (.reg [⟨(some 176), .mov (.t 14), none, false⟩, ⟨(some 177), .mov (.t 8), none, false⟩, ⟨(some 178), .bin .lss .other (.t 176) (.t 177), none, false⟩])
 (.cond (.t 178) .skip
 (.exit 8)))
 (.seq (.block 9 (.seq (.reg [⟨(some 15), .mov (.c (.int .u16 0)), none, false⟩])
 (.seq (.seq (.reg [⟨(some 181), .fld 4 1 false (.t 6), none, false⟩, ⟨(some 182), .load false 1 (.t 181), none, false⟩, ⟨(some 183), .mov (.t 14), none, false⟩, ⟨(some 184), .idx 1 none false (.t 182) (.t 183), none, false⟩, ⟨(some 185), .load false 1 (.t 184), none, false⟩])
 (.cond (.t 185) (.reg [⟨(some 15), .mov (.c (.int .u16 1)), none, false⟩])
 .skip))
 (.reg [⟨(some 186), .mov (.t 0), none, false⟩, ⟨(some 187), .mov (.t 5), none, false⟩, ⟨(some 188), .mov (.t 10), none, false⟩, ⟨(some 189), .mov (.t 14), none, false⟩, ⟨(some 190), .bin .add .other (.t 188) (.t 189), none, false⟩, ⟨(some 191), .mov (.t 15), none, false⟩, ⟨(some 192), .call 140 [(.t 186), (.t 187), (.t 190), (.t 191)], none, false⟩]))))
 (.reg [⟨(some 179), .mov (.t 14), none, false⟩, ⟨(some 180), .bin .add .other (.t 179) (.c (.int .i64 1)), none, false⟩, ⟨(some 14), .mov (.t 180), none, false⟩]))))))
 (.seq (.reg [⟨(some 193), .fld 4 1 false (.t 6), none, false⟩, ⟨(some 194), .load false 1 (.t 193), none, false⟩, ⟨(some 195), .fld 4 1 false (.t 9), none, false⟩, ⟨none, .store 1 (.t 195) (.t 194), none, false⟩])
 (.seq (.reg [⟨(some 196), .mov (.t 5), none, false⟩, ⟨(some 197), .bin .eql .other (.t 196) (.c (.int .u8 15)), none, false⟩])
 (.cond (.t 197) (.reg [⟨(some 198), .mov (.t 8), none, false⟩, ⟨(some 199), .conv (.int .u16) (.t 198), none, false⟩, ⟨(some 200), .fld 4 1 false (.t 9), none, false⟩, ⟨none, .store 1 (.t 200) (.c .nils), none, false⟩, ⟨(some 201), .fld 3 1 false (.t 9), none, false⟩, ⟨none, .store 1 (.t 201) (.t 199), none, false⟩])
 .skip))))
 (.seq (.seq (.reg [⟨(some 203), .bin .eql .other (.t 110) (.c (.int .u8 6)), none, false⟩, ⟨(some 202), .mov (.t 203), none, false⟩])
 (.cond (.t 202) .skip
 (.reg [⟨(some 204), .bin .eql .other (.t 110) (.c (.int .u8 16)), none, false⟩, ⟨(some 202), .mov (.t 204), none, false⟩])))
 (.cond (.t 202) (.seq (.seq (.reg [⟨(some 16), .mov (.c (.int .i64 0)), none, false⟩])
 (.block 10 (.loop (.seq (.seq (.reg [⟨(some 205), .mov (.t 16), none, false⟩, ⟨(some 206), .mov (.t 8), none, false⟩, ⟨(some 207), .bin .lss .other (.t 205) (.t 206), none, false⟩])
 (.cond (.t 207) .skip
 (.exit 10)))
 (.seq (.block 11 (.reg [⟨(some 210), .mov (.t 0), none, false⟩, ⟨(some 211), .mov (.t 5), none, false⟩, ⟨(some 212), .mov (.t 10), none, false⟩, ⟨(some 213), .mov (.t 16), none, false⟩, ⟨(some 214), .bin .add .other (.t 212) (.t 213), none, false⟩, ⟨(some 215), .fld 5 1 false (.t 6), none, false⟩, ⟨(some 216), .load false 1 (.t 215), none, false⟩, ⟨(some 217), .mov (.t 16), none, false⟩, ⟨(some 218), .idx 1 none false (.t 216) (.t 217), none, false⟩, ⟨(some 219), .load false 1 (.t 218), none, false⟩, ⟨(some 220), .call 140 [(.t 210), (.t 211), (.t 214), (.t 219)], none, false⟩]))
 (.reg [⟨(some 208), .mov (.t 16), none, false⟩, ⟨(some 209), .bin .add .other (.t 208) (.c (.int .i64 1)), none, false⟩, ⟨(some 16), .mov (.t 209), none, false⟩]))))))
 (.seq (.reg [⟨(some 221), .fld 5 1 false (.t 6), none, false⟩, ⟨(some 222), .load false 1 (.t 221), none, false⟩, ⟨(some 223), .fld 5 1 false (.t 9), none, false⟩, ⟨none, .store 1 (.t 223) (.t 222), none, false⟩])
 (.seq (.reg [⟨(some 224), .mov (.t 5), none, false⟩, ⟨(some 225), .bin .eql .other (.t 224) (.c (.int .u8 16)), none, false⟩])
 (.cond (.t 225) (.reg [⟨(some 226), .mov (.t 8), none, false⟩, ⟨(some 227), .conv (.int .u16) (.t 226), none, false⟩, ⟨(some 228), .fld 5 1 false (.t 9), none, false⟩, ⟨none, .store 1 (.t 228) (.c .nils), none, false⟩, ⟨(some 229), .fld 3 1 false (.t 9), none, false⟩, ⟨none, .store 1 (.t 229) (.t 227), none, false⟩])
 .skip))))
 (.seq (.reg [⟨(some 231), .bin .eql .other (.t 110) (.c (.int .u8 22)), none, false⟩, ⟨(some 230), .mov (.t 231), none, false⟩])
 (.cond (.t 230) (.seq (.draw [⟨0, ⟨(some 232), .fld 5 1 false (.t 6), none, false⟩, false, [], []⟩, ⟨1, ⟨(some 233), .load false 1 (.t 232), none, false⟩, false, [], []⟩, ⟨2, ⟨(some 234), .idx 1 none false (.t 233) (.c (.int .i64 0)), none, false⟩, false, [], []⟩, ⟨3, ⟨(some 235), .load false 1 (.t 234), none, false⟩, false, [], []⟩, ⟨4, ⟨(some 236), .fld 5 1 false (.t 6), none, false⟩, false, [], []⟩, ⟨5, ⟨(some 237), .load false 1 (.t 236), none, false⟩, false, [], []⟩, ⟨6, ⟨(some 238), .idx 1 none false (.t 237) (.c (.int .i64 1)), none, false⟩, false, [], []⟩, ⟨7, ⟨(some 239), .load false 1 (.t 238), none, false⟩, false, [], []⟩, ⟨8, ⟨(some 17), .mov (.t 235), none, false⟩, false, [], []⟩, ⟨9, ⟨(some 18), .mov (.t 239), none, false⟩, false, [], []⟩])
 (.seq (.reg [⟨(some 240), .mov (.t 0), none, false⟩, ⟨(some 241), .mov (.t 5), none, false⟩, ⟨(some 242), .mov (.t 10), none, false⟩, ⟨(some 243), .mov (.t 0), none, false⟩, ⟨(some 244), .mov (.t 5), none, false⟩, ⟨(some 245), .mov (.t 10), none, false⟩, ⟨(some 246), .call 139 [(.t 243), (.t 244), (.t 245)], none, false⟩, ⟨(some 247), .mov (.t 17), none, false⟩, ⟨(some 248), .bin .and .other (.t 246) (.t 247), none, false⟩, ⟨(some 249), .mov (.t 18), none, false⟩, ⟨(some 250), .mov (.t 17), none, false⟩, ⟨(some 251), .bin .andNot .other (.t 249) (.t 250), none, false⟩, ⟨(some 252), .bin .or .other (.t 248) (.t 251), none, false⟩, ⟨(some 253), .call 140 [(.t 240), (.t 241), (.t 242), (.t 252)], none, false⟩])
 (.reg [⟨(some 254), .fld 5 1 false (.t 6), none, false⟩, ⟨(some 255), .load false 1 (.t 254), none, false⟩, ⟨(some 256), .fld 5 1 false (.t 9), none, false⟩, ⟨none, .store 1 (.t 256) (.t 255), none, false⟩])))
 .skip))))))))))))
 (.seq (.reg [⟨(some 258), .load true 6 (.t 9), none, false⟩, ⟨(some 259), .call 57 [(.t 258)], none, false⟩, ⟨(some 257), .mov (.t 259), none, false⟩, ⟨(some 260), .ext (.t 257) 0, none, false⟩, ⟨(some 261), .ext (.t 257) 1, none, false⟩, ⟨(some 19), .mov (.t 260), none, false⟩, ⟨(some 20), .mov (.t 261), none, false⟩])
 (.seq (.reg [⟨(some 262), .mov (.t 19), none, false⟩, ⟨(some 4), .mov (.t 262), none, false⟩])
 .ret))))))))))))))
def r92 : List ARes := [.t 4]
theorem c92 : compF Try.prog Try.f92 = some (a92, r92) := by kernel_rfl

theorem b92 : hasBody Try.prog 92 = true := by kernel_rfl
theorem g92 : Try.prog.funcs[92]? = some Try.f92 := by kernel_rfl

theorem tbl_has (p q n : Int) (hp : p ≠ 0) (hq : q ≠ 0 ∨ szA q = 0) (hz : 0 ≤ szA q) (hn : 0 ≤ n) : ((tblP p q n).1 != 0) = decide (n < szA p + szA q) := by
  unfold tblP
  rw [if_neg (by omega)]
  by_cases h1 : n < szA p
  · rw [if_pos h1, Bool.eq_iff_iff]; simp [hp]; omega
  · rw [if_neg h1]
    by_cases h2 : n - szA p < szA q
    · rw [if_pos h2, Bool.eq_iff_iff]
      have : q ≠ 0 := by
        rcases hq with h | h
        · exact h
        · omega
      simp [this]; omega
    · rw [if_neg h2, Bool.eq_iff_iff]; simp; omega
theorem hasB_eq (f a n : Int) (hf : knownB f = true) (ha : 0 ≤ a) (hn : 1 ≤ n) : hasB f a n = !decide (a + n > szF f) := by
  simp only [knownB, Bool.or_eq_true, beq_iff_eq] at hf
  have key : ∀ p q S : Int, p ≠ 0 → (q ≠ 0 ∨ szA q = 0) → 0 ≤ szA q → szA p + szA q = S → (((tblP p q a).1 != 0) && ((tblP p q (a + n - 1)).1 != 0)) = !decide (a + n > S) := fun p q S h1 h2 h3 h4 => by
    rw [tbl_has p q a h1 h2 h3 ha, tbl_has p q (a + n - 1) h1 h2 h3 (by omega), h4, Bool.eq_iff_iff]
    simp; omega
  rcases hf with ((((((((rfl | rfl) | rfl) | rfl) | rfl) | rfl) | rfl) | rfl) | rfl) | rfl
  · exact key 2 3 256 (by decide) (by first | exact .inl (by decide) | exact .inr rfl) (by decide) rfl
  · exact key 1 0 128 (by decide) (by first | exact .inl (by decide) | exact .inr rfl) (by decide) rfl
  · exact key 5 6 128 (by decide) (by first | exact .inl (by decide) | exact .inr rfl) (by decide) rfl
  · exact key 4 0 64 (by decide) (by first | exact .inl (by decide) | exact .inr rfl) (by decide) rfl
  · exact key 2 3 256 (by decide) (by first | exact .inl (by decide) | exact .inr rfl) (by decide) rfl
  · exact key 5 6 128 (by decide) (by first | exact .inl (by decide) | exact .inr rfl) (by decide) rfl
  · exact key 2 3 256 (by decide) (by first | exact .inl (by decide) | exact .inr rfl) (by decide) rfl
  · exact key 5 6 128 (by decide) (by first | exact .inl (by decide) | exact .inr rfl) (by decide) rfl
  · exact key 5 6 128 (by decide) (by first | exact .inl (by decide) | exact .inr rfl) (by decide) rfl
  · exact key 5 6 128 (by decide) (by first | exact .inl (by decide) | exact .inr rfl) (by decide) rfl
theorem dec5 (l : List Int) (h : (decS l).2 = 0) (hf : l.getD 0 0 = 5) : (l.getD 3 0 = 0 ∨ l.getD 3 0 = 255) ∧ l.getD 4 0 = 0 ∧ 5 ≤ l.length := by
  by_cases h5 : l.length < 5
  · rw [decS_no l (by unfold openedS; rw [if_pos (by simp; omega)])] at h
    cases h
  · have hS := opS l (by omega)
    rw [hf] at hS
    have hO : openedS l = (⟨5, numAt l 1, 0, 0, [numAt (l.drop 3) 0 == 65280], []⟩, true) := by rw [hS]; rfl
    rw [decS_def l _ hO] at h
    split at h
    · rename_i hc
      simp only [Bool.and_eq_true, beq_iff_eq] at hc
      have hl := hc.2
      rw [again_not15 _ _ _ _ rfl] at hl
      have he : encR 5 (numAt l 1) 0 0 [numAt (l.drop 3) 0 == 65280] [] = (reqS 5 (numAt l 1) 0 0 [numAt (l.drop 3) 0 == 65280] []).row := by
        unfold encR; rw [if_pos (by rfl)]
      simp only [he] at hl
      have hg : ∀ k, l.getD k 0 = (reqS 5 (numAt l 1) 0 0 [numAt (l.drop 3) 0 == 65280] []).row.getD k 0 := fun k => by rw [hl]
      rw [hg 3, hg 4]
      refine ⟨?_, ?_, by omega⟩
      · generalize (numAt (l.drop 3) 0 == 65280) = c
        cases c
        · left; rfl
        · right; rfl
      · generalize (numAt (l.drop 3) 0 == 65280) = c
        cases c <;> rfl
    · cases h
theorem frz_repB (h : Nat) (f x a n : Int) (L : List Bool) (len : Nat) (hl : len = L.length) : frzL h (.rowB L) [repA f x a n (.sl 1 h 0 len) .nils] = [repA f x a n (.roB L) .nils] := by
  show [AV.agg [_, _, _, _, AV.frz h (.rowB L) (.sl 1 h 0 len), _]] = _
  rw [frz_rowB h L len hl]; rfl
theorem frz_repI (h : Nat) (f x a n : Int) (L : List Int) (len : Nat) (hl : len = L.length) : frzL h (.rowI .u16 L) [repA f x a n .nils (.sl 1 h 0 len)] = [repA f x a n .nils (.roI .u16 L)] := by
  show [AV.agg [_, _, _, _, _, AV.frz h (.rowI .u16 L) (.sl 1 h 0 len)]] = _
  rw [frz_row h .u16 L len hl]; rfl
theorem leRepZ {f x a n : Int} {B R : AV} {b : List Bool} {r : List Int} (hb : Le B (.roB b)) (hr : Le R (.roI .u16 r)) : LeL [repA f x a n B R] [repA f x a n (.roB b) (.roI .u16 r)] :=
  ⟨Le.agg ⟨Le.refl _, Le.refl _, Le.refl _, Le.refl _, hb, hr, trivial⟩, trivial⟩
set_option maxRecDepth 20000 in
theorem rs6_tr (I : Img) (l : List Int) (hl : l.length ≤ 1000) (hB : isB l) (h0 : l ≠ []) (hf : l.getD 0 0 = 6) : RmT 92 [.ptr 0 0, .roI .u8 l] I (.roI .u8 (serveB I l)) (serveI I l) := by
  refine FrzB.rm rfl (trF g92 b92 c92 ?_)
  conv => whnf
  have hlen : 0 < l.length := by
    cases l with
    | nil => exact absurd rfl h0
    | cons a t => simp
  refine condN (by simp; omega) ?_
  conv => whnf
  refine condT (by simp; omega) ?_
  conv => whnf
  rw [show l.getD (Int.toNat 0) 0 = 6 from hf]
  refine Ev.call (rknown_ev 6) ?_
  conv => whnf
  have hO := rOpen_ev l hl
  rw [dec_same l hB hl] at hO
  have hS : serveB I l = (if (decS l).2 = 0 then (if thereB (decS l).1.f (decS l).1.a (decS l).1.n (decS l).1.a2 (decS l).1.b (decS l).1.r then doesB I (decS l).1.f (decS l).1.a (decS l).1.n (decS l).1.a2 (decS l).1.b (decS l).1.r else excB l 2) else excB l 3) := by
    unfold serveB; rw [if_neg h0, if_pos (by rw [hf]; rfl)]
  have hI : serveI I l = (if (decS l).2 = 0 then (if thereB (decS l).1.f (decS l).1.a (decS l).1.n (decS l).1.a2 (decS l).1.b (decS l).1.r then doesI I (decS l).1.f (decS l).1.a (decS l).1.n (decS l).1.a2 (decS l).1.b (decS l).1.r else I) else I) := by
    unfold serveI; rw [if_neg h0, if_pos (by rw [hf]; rfl)]
  have hq := decS_ok l hl
  have h5 := dec5 l
  generalize decS l = d at *
  obtain ⟨⟨f, a, n, a2, b, r⟩, e⟩ := d
  have hO : Ev Try.prog 54 [.roI .u8 l] (.tup [reqA f a n a2 (.roB b) (.roI .u16 r), .int .i64 e]) := hO
  refine Ev.call hO ?_
  clear hO
  conv => whnf
  by_cases he : e ≠ 0
  · rw [if_neg he] at hS hI
    refine condY (by simp [he]) ?_
    conv => whnf
    refine Ev.call (rexc_ev l 3) ?_
    conv => whnf
    rw [hS, hI]
    exact FrzB.le (Le.refl _) rfl
  have he : e = 0 := by simpa using he
  obtain ⟨hf', hQ⟩ := hq he
  have hf' : f = l.getD 0 0 := hf'
  have hQ2 : OkQ f a n a2 b r := hQ
  clear hQ
  rw [hf] at hf'
  subst hf'
  have h5 := h5 he
  subst he
  rw [if_pos rfl] at hS hI
  have hS2 : serveB I l = (if thereB 6 a n a2 b r then doesB I 6 a n a2 b r else excB l 2) := hS
  have hI2 : serveI I l = (if thereB 6 a n a2 b r then doesI I 6 a n a2 b r else I) := hI
  clear hq
  obtain ⟨ha, hn, ha2, hb, hr, hx, ok⟩ := hQ2
  have hx0 : ∀ x ∈ r, 0 ≤ x := fun x h => (hx x h).1
  rw [hS2, hI2]
  clear hS hI hS2 hI2
  conv => whnf
  have hk : encOk 6 n a2 b r = true := ok
  simp [encOk, withinB] at hk
  have hwa : IntKind.i64.wrap a = a := w64i (by omega) (by omega)
  have hw : IntKind.i64.wrap (a + (r.length : Int)) = a + (r.length : Int) := w64i (by omega) (by omega)
  have hT : thereB 6 a n a2 b r = !decide (a + (r.length : Int) > szF 6) := by
    rw [← hasB_eq 6 a (r.length : Int) rfl ha.1 (by omega)]; rfl
  rw [hT]
  refine Ev.call (rsizeF_ev 6) ?_
  conv => whnf
  have hM : (if (r.length : Int) > if (b.length : Int) > IntKind.i64.wrap n then (b.length : Int) else IntKind.i64.wrap n then (r.length : Int) else if (b.length : Int) > IntKind.i64.wrap n then (b.length : Int) else IntKind.i64.wrap n) = (r.length : Int) := by
    have hwn : IntKind.i64.wrap n = n := w64i (by omega) (by omega)
    rw [hwn]
    simp [hk]
    try (first | omega | (intro h; simp [h]))
  rw [hM]
  rw [hwa, hw]
  refine ⟨rfl, ?_⟩
  conv => whnf
  by_cases hh : decide (a + (r.length : Int) > szF 6) = true
  · have hc : ¬ ((!decide (a + (r.length : Int) > szF 6)) = true) := by rw [hh]; simp
    rw [if_neg hc, if_neg hc]
    refine condY hh ?_
    conv => whnf
    refine Ev.call (rexc_ev l 2) ?_
    conv => whnf
    exact FrzB.le (Le.refl _) rfl
  have hh' : decide (a + (r.length : Int) > szF 6) = false := by simpa using hh
  have hc : (!decide (a + (r.length : Int) > szF 6)) = true := by rw [hh']; rfl
  rw [if_pos hc, if_pos hc]
  refine condN hh' ?_
  conv => whnf
  rw [hwa]
  refine loopI (α := {i : Nat // i ≤ r.length}) (fun i => [(0, .ptr 0 0), (5, .int .u8 6), (6, .ptr 1 0), (8, .int .i64 r.length), (9, .ptr 2 0), (10, .int .i64 a), (16, .int .i64 i.1)])
      (fun i => ⟨3, [(0, some (rmC (tpsN I 6 a r i.1))), (1, some (.obj [.int .u8 6, .int .u16 a, .int .u16 n, .int .u16 a2, .roB b, .roI .u16 r])), (2, some (.obj [.int .u8 6, .int .u8 0, .int .u16 a, .int .u16 0, .nils, .nils]))]⟩) (fun i => r.length - i.1) ⟨0, Nat.zero_le _⟩
      ⟨[], rfl, rfl, rfl, ⟨⟨rfl, rfl⟩, ⟨rfl, rfl⟩, ⟨rfl, rfl⟩, ⟨rfl, rfl⟩, ⟨rfl, rfl⟩, ⟨rfl, rfl⟩, ⟨rfl, rfl⟩, trivial⟩, ⟨⟨trivial, rfl, rfl⟩, ⟨rfl, rfl, rfl⟩, ⟨rfl, rfl, rfl⟩, trivial⟩⟩ fun ⟨i, hi⟩ => ?_
  conv => whnf
  by_cases hlt : i < r.length
  · refine condY (by simp; omega) ?_
    conv => whnf
    refine condT (by simp; omega) ?_
    conv => whnf
    rw [show IntKind.i64.wrap (a + ((i : Nat) : Int)) = a + i from w64i (by omega) (by omega)]
    refine blkCall (rput_tr (tpsN I 6 a r i) 6 (a + i) (r.getD i 0) (by omega) (by omega)) rfl rfl rfl ?_
    conv => whnf
    refine ⟨⟨i + 1, hlt⟩, ⟨[], rfl, rfl, rfl, ⟨⟨rfl, rfl⟩, ⟨rfl, rfl⟩, ⟨rfl, rfl⟩, ⟨rfl, rfl⟩, ⟨rfl, rfl⟩, ⟨rfl, rfl⟩, ⟨?_, rfl⟩, trivial⟩, ⟨⟨trivial, rfl, rfl⟩, ⟨rfl, rfl, rfl⟩, ⟨rfl, rfl, rfl⟩, trivial⟩⟩, by show r.length - (i + 1) < r.length - i; omega⟩
    show AV.int .i64 (IntKind.i64.wrap ((i : Int) + 1)) = AV.int .i64 ((i + 1 : Nat) : Int)
    rw [s64 (by omega)]
  · obtain rfl : i = r.length := by omega
    refine condN (by simp) ?_
    conv => whnf
    refine Tr.le (leRepZ Le.nilB (Le.refl _)) (Ev.call (rReply_ev 6 0 a 0 [] r (by omega) (by omega) (by first | omega | (simp; done) | (simp; omega)) (by first | omega | (simp; done) | (simp; omega))) ?_)
    conv => whnf
    exact FrzB.le (Le.refl _) rfl
set_option maxRecDepth 20000 in
theorem rs16_tr (I : Img) (l : List Int) (hl : l.length ≤ 1000) (hB : isB l) (h0 : l ≠ []) (hf : l.getD 0 0 = 16) : RmT 92 [.ptr 0 0, .roI .u8 l] I (.roI .u8 (serveB I l)) (serveI I l) := by
  refine FrzB.rm rfl (trF g92 b92 c92 ?_)
  conv => whnf
  have hlen : 0 < l.length := by
    cases l with
    | nil => exact absurd rfl h0
    | cons a t => simp
  refine condN (by simp; omega) ?_
  conv => whnf
  refine condT (by simp; omega) ?_
  conv => whnf
  rw [show l.getD (Int.toNat 0) 0 = 16 from hf]
  refine Ev.call (rknown_ev 16) ?_
  conv => whnf
  have hO := rOpen_ev l hl
  rw [dec_same l hB hl] at hO
  have hS : serveB I l = (if (decS l).2 = 0 then (if thereB (decS l).1.f (decS l).1.a (decS l).1.n (decS l).1.a2 (decS l).1.b (decS l).1.r then doesB I (decS l).1.f (decS l).1.a (decS l).1.n (decS l).1.a2 (decS l).1.b (decS l).1.r else excB l 2) else excB l 3) := by
    unfold serveB; rw [if_neg h0, if_pos (by rw [hf]; rfl)]
  have hI : serveI I l = (if (decS l).2 = 0 then (if thereB (decS l).1.f (decS l).1.a (decS l).1.n (decS l).1.a2 (decS l).1.b (decS l).1.r then doesI I (decS l).1.f (decS l).1.a (decS l).1.n (decS l).1.a2 (decS l).1.b (decS l).1.r else I) else I) := by
    unfold serveI; rw [if_neg h0, if_pos (by rw [hf]; rfl)]
  have hq := decS_ok l hl
  have h5 := dec5 l
  generalize decS l = d at *
  obtain ⟨⟨f, a, n, a2, b, r⟩, e⟩ := d
  have hO : Ev Try.prog 54 [.roI .u8 l] (.tup [reqA f a n a2 (.roB b) (.roI .u16 r), .int .i64 e]) := hO
  refine Ev.call hO ?_
  clear hO
  conv => whnf
  by_cases he : e ≠ 0
  · rw [if_neg he] at hS hI
    refine condY (by simp [he]) ?_
    conv => whnf
    refine Ev.call (rexc_ev l 3) ?_
    conv => whnf
    rw [hS, hI]
    exact FrzB.le (Le.refl _) rfl
  have he : e = 0 := by simpa using he
  obtain ⟨hf', hQ⟩ := hq he
  have hf' : f = l.getD 0 0 := hf'
  have hQ2 : OkQ f a n a2 b r := hQ
  clear hQ
  rw [hf] at hf'
  subst hf'
  have h5 := h5 he
  subst he
  rw [if_pos rfl] at hS hI
  have hS2 : serveB I l = (if thereB 16 a n a2 b r then doesB I 16 a n a2 b r else excB l 2) := hS
  have hI2 : serveI I l = (if thereB 16 a n a2 b r then doesI I 16 a n a2 b r else I) := hI
  clear hq
  obtain ⟨ha, hn, ha2, hb, hr, hx, ok⟩ := hQ2
  have hx0 : ∀ x ∈ r, 0 ≤ x := fun x h => (hx x h).1
  rw [hS2, hI2]
  clear hS hI hS2 hI2
  conv => whnf
  have hk : encOk 16 n a2 b r = true := ok
  simp [encOk, withinB] at hk
  have hwa : IntKind.i64.wrap a = a := w64i (by omega) (by omega)
  have hw : IntKind.i64.wrap (a + (r.length : Int)) = a + (r.length : Int) := w64i (by omega) (by omega)
  have hT : thereB 16 a n a2 b r = !decide (a + (r.length : Int) > szF 16) := by
    rw [← hasB_eq 16 a (r.length : Int) rfl ha.1 (by omega)]; rfl
  rw [hT]
  refine Ev.call (rsizeF_ev 16) ?_
  conv => whnf
  have hM : (if (r.length : Int) > if (b.length : Int) > IntKind.i64.wrap n then (b.length : Int) else IntKind.i64.wrap n then (r.length : Int) else if (b.length : Int) > IntKind.i64.wrap n then (b.length : Int) else IntKind.i64.wrap n) = (r.length : Int) := by
    have hwn : IntKind.i64.wrap n = n := w64i (by omega) (by omega)
    rw [hwn]
    simp [hk]
    try (first | omega | (intro h; simp [h]))
  rw [hM]
  rw [hwa, hw]
  refine ⟨rfl, ?_⟩
  conv => whnf
  by_cases hh : decide (a + (r.length : Int) > szF 16) = true
  · have hc : ¬ ((!decide (a + (r.length : Int) > szF 16)) = true) := by rw [hh]; simp
    rw [if_neg hc, if_neg hc]
    refine condY hh ?_
    conv => whnf
    refine Ev.call (rexc_ev l 2) ?_
    conv => whnf
    exact FrzB.le (Le.refl _) rfl
  have hh' : decide (a + (r.length : Int) > szF 16) = false := by simpa using hh
  have hc : (!decide (a + (r.length : Int) > szF 16)) = true := by rw [hh']; rfl
  rw [if_pos hc, if_pos hc]
  refine condN hh' ?_
  conv => whnf
  rw [hwa]
  refine loopI (α := {i : Nat // i ≤ r.length}) (fun i => [(0, .ptr 0 0), (5, .int .u8 16), (6, .ptr 1 0), (8, .int .i64 r.length), (9, .ptr 2 0), (10, .int .i64 a), (16, .int .i64 i.1)])
      (fun i => ⟨3, [(0, some (rmC (tpsN I 16 a r i.1))), (1, some (.obj [.int .u8 16, .int .u16 a, .int .u16 n, .int .u16 a2, .roB b, .roI .u16 r])), (2, some (.obj [.int .u8 16, .int .u8 0, .int .u16 a, .int .u16 0, .nils, .nils]))]⟩) (fun i => r.length - i.1) ⟨0, Nat.zero_le _⟩
      ⟨[], rfl, rfl, rfl, ⟨⟨rfl, rfl⟩, ⟨rfl, rfl⟩, ⟨rfl, rfl⟩, ⟨rfl, rfl⟩, ⟨rfl, rfl⟩, ⟨rfl, rfl⟩, ⟨rfl, rfl⟩, trivial⟩, ⟨⟨trivial, rfl, rfl⟩, ⟨rfl, rfl, rfl⟩, ⟨rfl, rfl, rfl⟩, trivial⟩⟩ fun ⟨i, hi⟩ => ?_
  conv => whnf
  by_cases hlt : i < r.length
  · refine condY (by simp; omega) ?_
    conv => whnf
    refine condT (by simp; omega) ?_
    conv => whnf
    rw [show IntKind.i64.wrap (a + ((i : Nat) : Int)) = a + i from w64i (by omega) (by omega)]
    refine blkCall (rput_tr (tpsN I 16 a r i) 16 (a + i) (r.getD i 0) (by omega) (by omega)) rfl rfl rfl ?_
    conv => whnf
    refine ⟨⟨i + 1, hlt⟩, ⟨[], rfl, rfl, rfl, ⟨⟨rfl, rfl⟩, ⟨rfl, rfl⟩, ⟨rfl, rfl⟩, ⟨rfl, rfl⟩, ⟨rfl, rfl⟩, ⟨rfl, rfl⟩, ⟨?_, rfl⟩, trivial⟩, ⟨⟨trivial, rfl, rfl⟩, ⟨rfl, rfl, rfl⟩, ⟨rfl, rfl, rfl⟩, trivial⟩⟩, by show r.length - (i + 1) < r.length - i; omega⟩
    show AV.int .i64 (IntKind.i64.wrap ((i : Int) + 1)) = AV.int .i64 ((i + 1 : Nat) : Int)
    rw [s64 (by omega)]
  · obtain rfl : i = r.length := by omega
    refine condN (by simp) ?_
    conv => whnf
    rw [wLen _ (by omega)]
    refine Tr.le (leRepZ Le.nilB (Le.nilI _)) (Ev.call (rReply_ev 16 0 a r.length [] [] (by omega) (by omega) (by first | omega | (simp; done) | (simp; omega)) (by first | omega | (simp; done) | (simp; omega))) ?_)
    conv => whnf
    exact FrzB.le (Le.refl _) rfl
set_option maxRecDepth 20000 in
theorem rs15_tr (I : Img) (l : List Int) (hl : l.length ≤ 1000) (hB : isB l) (h0 : l ≠ []) (hf : l.getD 0 0 = 15) : RmT 92 [.ptr 0 0, .roI .u8 l] I (.roI .u8 (serveB I l)) (serveI I l) := by
  refine FrzB.rm rfl (trF g92 b92 c92 ?_)
  conv => whnf
  have hlen : 0 < l.length := by
    cases l with
    | nil => exact absurd rfl h0
    | cons a t => simp
  refine condN (by simp; omega) ?_
  conv => whnf
  refine condT (by simp; omega) ?_
  conv => whnf
  rw [show l.getD (Int.toNat 0) 0 = 15 from hf]
  refine Ev.call (rknown_ev 15) ?_
  conv => whnf
  have hO := rOpen_ev l hl
  rw [dec_same l hB hl] at hO
  have hS : serveB I l = (if (decS l).2 = 0 then (if thereB (decS l).1.f (decS l).1.a (decS l).1.n (decS l).1.a2 (decS l).1.b (decS l).1.r then doesB I (decS l).1.f (decS l).1.a (decS l).1.n (decS l).1.a2 (decS l).1.b (decS l).1.r else excB l 2) else excB l 3) := by
    unfold serveB; rw [if_neg h0, if_pos (by rw [hf]; rfl)]
  have hI : serveI I l = (if (decS l).2 = 0 then (if thereB (decS l).1.f (decS l).1.a (decS l).1.n (decS l).1.a2 (decS l).1.b (decS l).1.r then doesI I (decS l).1.f (decS l).1.a (decS l).1.n (decS l).1.a2 (decS l).1.b (decS l).1.r else I) else I) := by
    unfold serveI; rw [if_neg h0, if_pos (by rw [hf]; rfl)]
  have hq := decS_ok l hl
  have h5 := dec5 l
  generalize decS l = d at *
  obtain ⟨⟨f, a, n, a2, b, r⟩, e⟩ := d
  have hO : Ev Try.prog 54 [.roI .u8 l] (.tup [reqA f a n a2 (.roB b) (.roI .u16 r), .int .i64 e]) := hO
  refine Ev.call hO ?_
  clear hO
  conv => whnf
  by_cases he : e ≠ 0
  · rw [if_neg he] at hS hI
    refine condY (by simp [he]) ?_
    conv => whnf
    refine Ev.call (rexc_ev l 3) ?_
    conv => whnf
    rw [hS, hI]
    exact FrzB.le (Le.refl _) rfl
  have he : e = 0 := by simpa using he
  obtain ⟨hf', hQ⟩ := hq he
  have hf' : f = l.getD 0 0 := hf'
  have hQ2 : OkQ f a n a2 b r := hQ
  clear hQ
  rw [hf] at hf'
  subst hf'
  have h5 := h5 he
  subst he
  rw [if_pos rfl] at hS hI
  have hS2 : serveB I l = (if thereB 15 a n a2 b r then doesB I 15 a n a2 b r else excB l 2) := hS
  have hI2 : serveI I l = (if thereB 15 a n a2 b r then doesI I 15 a n a2 b r else I) := hI
  clear hq
  obtain ⟨ha, hn, ha2, hb, hr, hx, ok⟩ := hQ2
  have hx0 : ∀ x ∈ r, 0 ≤ x := fun x h => (hx x h).1
  rw [hS2, hI2]
  clear hS hI hS2 hI2
  conv => whnf
  have hk : encOk 15 n a2 b r = true := ok
  simp [encOk, withinB] at hk
  have hwa : IntKind.i64.wrap a = a := w64i (by omega) (by omega)
  have hw : IntKind.i64.wrap (a + (b.length : Int)) = a + (b.length : Int) := w64i (by omega) (by omega)
  have hT : thereB 15 a n a2 b r = !decide (a + (b.length : Int) > szF 15) := by
    rw [← hasB_eq 15 a (b.length : Int) rfl ha.1 (by omega)]; rfl
  rw [hT]
  refine Ev.call (rsizeF_ev 15) ?_
  conv => whnf
  have hM : (if (r.length : Int) > if (b.length : Int) > IntKind.i64.wrap n then (b.length : Int) else IntKind.i64.wrap n then (r.length : Int) else if (b.length : Int) > IntKind.i64.wrap n then (b.length : Int) else IntKind.i64.wrap n) = (b.length : Int) := by
    have hwn : IntKind.i64.wrap n = n := w64i (by omega) (by omega)
    rw [hwn]
    simp [hk]
    try (first | omega | (intro h; simp [h]))
  rw [hM]
  rw [hwa, hw]
  refine ⟨rfl, ?_⟩
  conv => whnf
  by_cases hh : decide (a + (b.length : Int) > szF 15) = true
  · have hc : ¬ ((!decide (a + (b.length : Int) > szF 15)) = true) := by rw [hh]; simp
    rw [if_neg hc, if_neg hc]
    refine condY hh ?_
    conv => whnf
    refine Ev.call (rexc_ev l 2) ?_
    conv => whnf
    exact FrzB.le (Le.refl _) rfl
  have hh' : decide (a + (b.length : Int) > szF 15) = false := by simpa using hh
  have hc : (!decide (a + (b.length : Int) > szF 15)) = true := by rw [hh']; rfl
  rw [if_pos hc, if_pos hc]
  refine condN hh' ?_
  conv => whnf
  rw [hwa]
  refine loopI (α := {i : Nat // i ≤ b.length}) (fun i => [(0, .ptr 0 0), (5, .int .u8 15), (6, .ptr 1 0), (8, .int .i64 b.length), (9, .ptr 2 0), (10, .int .i64 a), (14, .int .i64 i.1)])
      (fun i => ⟨3, [(0, some (rmC (tpsN I 15 a (b.map bitI) i.1))), (1, some (.obj [.int .u8 15, .int .u16 a, .int .u16 n, .int .u16 a2, .roB b, .roI .u16 r])), (2, some (.obj [.int .u8 15, .int .u8 0, .int .u16 a, .int .u16 0, .nils, .nils]))]⟩) (fun i => b.length - i.1) ⟨0, Nat.zero_le _⟩
      ⟨[], rfl, rfl, rfl, ⟨⟨rfl, rfl⟩, ⟨rfl, rfl⟩, ⟨rfl, rfl⟩, ⟨rfl, rfl⟩, ⟨rfl, rfl⟩, ⟨rfl, rfl⟩, ⟨rfl, rfl⟩, trivial⟩, ⟨⟨trivial, rfl, rfl⟩, ⟨rfl, rfl, rfl⟩, ⟨rfl, rfl, rfl⟩, trivial⟩⟩ fun ⟨i, hi⟩ => ?_
  conv => whnf
  by_cases hlt : i < b.length
  · refine condY (by simp; omega) ?_
    conv => whnf
    refine condT (by simp; omega) ?_
    conv => whnf
    have hg : (b.map bitI).getD i 0 = bitI (b.getD i false) := by simp [List.getD_eq_getElem?_getD, List.getElem?_eq_getElem hlt]
    have hs : ∀ K : Img → Prop, K (tpsN I 15 a (b.map bitI) (i + 1)) → K (tp (tpsN I 15 a (b.map bitI) i) 15 (a + i) (bitI (b.getD i false))) := fun K h => by rw [← hg]; exact h
    refine condF (fun h => ?_) (fun h => ?_)
    · have hv : bitI (b.getD i false) = 0 := by
        have : b.getD i false = false := h
        rw [this]; rfl
      rw [hv] at hs
      conv => whnf
      rw [show IntKind.i64.wrap (a + ((i : Nat) : Int)) = a + i from w64i (by omega) (by omega)]
      refine blkCall (rput_tr (tpsN I 15 a (b.map bitI) i) 15 (a + i) 0 (by omega) (by omega)) rfl rfl rfl ?_
      conv => whnf
      refine ⟨⟨i + 1, hlt⟩, ⟨[], rfl, rfl, rfl, ⟨⟨rfl, rfl⟩, ⟨rfl, rfl⟩, ⟨rfl, rfl⟩, ⟨rfl, rfl⟩, ⟨rfl, rfl⟩, ⟨rfl, rfl⟩, ⟨?_, rfl⟩, trivial⟩, ⟨⟨trivial, rfl, ?_⟩, ⟨rfl, rfl, rfl⟩, ⟨rfl, rfl, rfl⟩, trivial⟩⟩, by show b.length - (i + 1) < b.length - i; omega⟩
      · show AV.int .i64 (IntKind.i64.wrap ((i : Int) + 1)) = AV.int .i64 ((i + 1 : Nat) : Int)
        rw [s64 (by omega)]
      · exact hs (fun J => some (rmC J) = some (rmC (tpsN I 15 a (b.map bitI) (i + 1)))) rfl
    · have hv : bitI (b.getD i false) = 1 := by
        have : b.getD i false = true := h
        rw [this]; rfl
      rw [hv] at hs
      conv => whnf
      rw [show IntKind.i64.wrap (a + ((i : Nat) : Int)) = a + i from w64i (by omega) (by omega)]
      refine blkCall (rput_tr (tpsN I 15 a (b.map bitI) i) 15 (a + i) 1 (by omega) (by omega)) rfl rfl rfl ?_
      conv => whnf
      refine ⟨⟨i + 1, hlt⟩, ⟨[], rfl, rfl, rfl, ⟨⟨rfl, rfl⟩, ⟨rfl, rfl⟩, ⟨rfl, rfl⟩, ⟨rfl, rfl⟩, ⟨rfl, rfl⟩, ⟨rfl, rfl⟩, ⟨?_, rfl⟩, trivial⟩, ⟨⟨trivial, rfl, ?_⟩, ⟨rfl, rfl, rfl⟩, ⟨rfl, rfl, rfl⟩, trivial⟩⟩, by show b.length - (i + 1) < b.length - i; omega⟩
      · show AV.int .i64 (IntKind.i64.wrap ((i : Int) + 1)) = AV.int .i64 ((i + 1 : Nat) : Int)
        rw [s64 (by omega)]
      · exact hs (fun J => some (rmC J) = some (rmC (tpsN I 15 a (b.map bitI) (i + 1)))) rfl
  · obtain rfl : i = b.length := by omega
    have hT : doesI I 15 a n a2 b r = tpsN I 15 a (b.map bitI) b.length := by show tpsN _ _ _ _ _ = _; rw [List.length_map]
    rw [hT]
    refine condN (by simp) ?_
    conv => whnf
    rw [wLen _ (by omega)]
    refine Tr.le (leRepZ Le.nilB (Le.nilI _)) (Ev.call (rReply_ev 15 0 a b.length [] [] (by omega) (by omega) (by first | omega | (simp; done) | (simp; omega)) (by first | omega | (simp; done) | (simp; omega))) ?_)
    conv => whnf
    exact FrzB.le (Le.refl _) rfl
set_option maxRecDepth 20000 in
theorem rs22_tr (I : Img) (l : List Int) (hl : l.length ≤ 1000) (hB : isB l) (h0 : l ≠ []) (hf : l.getD 0 0 = 22) : RmT 92 [.ptr 0 0, .roI .u8 l] I (.roI .u8 (serveB I l)) (serveI I l) := by
  refine FrzB.rm rfl (trF g92 b92 c92 ?_)
  conv => whnf
  have hlen : 0 < l.length := by
    cases l with
    | nil => exact absurd rfl h0
    | cons a t => simp
  refine condN (by simp; omega) ?_
  conv => whnf
  refine condT (by simp; omega) ?_
  conv => whnf
  rw [show l.getD (Int.toNat 0) 0 = 22 from hf]
  refine Ev.call (rknown_ev 22) ?_
  conv => whnf
  have hO := rOpen_ev l hl
  rw [dec_same l hB hl] at hO
  have hS : serveB I l = (if (decS l).2 = 0 then (if thereB (decS l).1.f (decS l).1.a (decS l).1.n (decS l).1.a2 (decS l).1.b (decS l).1.r then doesB I (decS l).1.f (decS l).1.a (decS l).1.n (decS l).1.a2 (decS l).1.b (decS l).1.r else excB l 2) else excB l 3) := by
    unfold serveB; rw [if_neg h0, if_pos (by rw [hf]; rfl)]
  have hI : serveI I l = (if (decS l).2 = 0 then (if thereB (decS l).1.f (decS l).1.a (decS l).1.n (decS l).1.a2 (decS l).1.b (decS l).1.r then doesI I (decS l).1.f (decS l).1.a (decS l).1.n (decS l).1.a2 (decS l).1.b (decS l).1.r else I) else I) := by
    unfold serveI; rw [if_neg h0, if_pos (by rw [hf]; rfl)]
  have hq := decS_ok l hl
  have h5 := dec5 l
  generalize decS l = d at *
  obtain ⟨⟨f, a, n, a2, b, r⟩, e⟩ := d
  have hO : Ev Try.prog 54 [.roI .u8 l] (.tup [reqA f a n a2 (.roB b) (.roI .u16 r), .int .i64 e]) := hO
  refine Ev.call hO ?_
  clear hO
  conv => whnf
  by_cases he : e ≠ 0
  · rw [if_neg he] at hS hI
    refine condY (by simp [he]) ?_
    conv => whnf
    refine Ev.call (rexc_ev l 3) ?_
    conv => whnf
    rw [hS, hI]
    exact FrzB.le (Le.refl _) rfl
  have he : e = 0 := by simpa using he
  obtain ⟨hf', hQ⟩ := hq he
  have hf' : f = l.getD 0 0 := hf'
  have hQ2 : OkQ f a n a2 b r := hQ
  clear hQ
  rw [hf] at hf'
  subst hf'
  have h5 := h5 he
  subst he
  rw [if_pos rfl] at hS hI
  have hS2 : serveB I l = (if thereB 22 a n a2 b r then doesB I 22 a n a2 b r else excB l 2) := hS
  have hI2 : serveI I l = (if thereB 22 a n a2 b r then doesI I 22 a n a2 b r else I) := hI
  clear hq
  obtain ⟨ha, hn, ha2, hb, hr, hx, ok⟩ := hQ2
  have hx0 : ∀ x ∈ r, 0 ≤ x := fun x h => (hx x h).1
  rw [hS2, hI2]
  clear hS hI hS2 hI2
  conv => whnf
  have hk : encOk 22 n a2 b r = true := ok
  simp [encOk, withinB] at hk
  have hwa : IntKind.i64.wrap a = a := w64i (by omega) (by omega)
  have hw : IntKind.i64.wrap (a + 1) = a + 1 := w64i (by omega) (by omega)
  have hT : thereB 22 a n a2 b r = !decide (a + 1 > szF 22) := by
    rw [← hasB_eq 22 a 1 rfl ha.1 (by omega)]; rfl
  rw [hT]
  refine Ev.call (rsizeF_ev 22) ?_
  conv => whnf
  rw [hwa, hw]
  refine ⟨rfl, ?_⟩
  conv => whnf
  by_cases hh : decide (a + 1 > szF 22) = true
  · have hc : ¬ ((!decide (a + 1 > szF 22)) = true) := by rw [hh]; simp
    rw [if_neg hc, if_neg hc]
    refine condY hh ?_
    conv => whnf
    refine Ev.call (rexc_ev l 2) ?_
    conv => whnf
    exact FrzB.le (Le.refl _) rfl
  have hh' : decide (a + 1 > szF 22) = false := by simpa using hh
  have hc : (!decide (a + 1 > szF 22)) = true := by rw [hh']; rfl
  rw [if_pos hc, if_pos hc]
  refine condN hh' ?_
  conv => whnf
  rw [hwa]
  refine condT (by simp; omega) ?_
  conv => whnf
  refine condT (by simp; omega) ?_
  conv => whnf
  refine blkCall (rget_tr I 22 a (by omega) (by omega)) rfl rfl rfl ?_
  conv => whnf
  refine blkCall (rput_tr I 22 a (maskV (tg I.o 22 a) (r.getD 0 0) (r.getD 1 0)) (by omega) (by omega)) rfl rfl rfl ?_
  conv => whnf
  refine Tr.le (leRepZ Le.nilB (Le.refl _)) (Ev.call (rReply_ev 22 0 a 0 [] r (by omega) (by omega) (by first | omega | (simp; done) | (simp; omega)) (by first | omega | (simp; done) | (simp; omega))) ?_)
  conv => whnf
  exact FrzB.le (Le.refl _) rfl
set_option maxRecDepth 20000 in
theorem rs23_tr (I : Img) (l : List Int) (hl : l.length ≤ 1000) (hB : isB l) (h0 : l ≠ []) (hf : l.getD 0 0 = 23) : RmT 92 [.ptr 0 0, .roI .u8 l] I (.roI .u8 (serveB I l)) (serveI I l) := by
  refine FrzB.rm rfl (trF g92 b92 c92 ?_)
  conv => whnf
  have hlen : 0 < l.length := by
    cases l with
    | nil => exact absurd rfl h0
    | cons a t => simp
  refine condN (by simp; omega) ?_
  conv => whnf
  refine condT (by simp; omega) ?_
  conv => whnf
  rw [show l.getD (Int.toNat 0) 0 = 23 from hf]
  refine Ev.call (rknown_ev 23) ?_
  conv => whnf
  have hO := rOpen_ev l hl
  rw [dec_same l hB hl] at hO
  have hS : serveB I l = (if (decS l).2 = 0 then (if thereB (decS l).1.f (decS l).1.a (decS l).1.n (decS l).1.a2 (decS l).1.b (decS l).1.r then doesB I (decS l).1.f (decS l).1.a (decS l).1.n (decS l).1.a2 (decS l).1.b (decS l).1.r else excB l 2) else excB l 3) := by
    unfold serveB; rw [if_neg h0, if_pos (by rw [hf]; rfl)]
  have hI : serveI I l = (if (decS l).2 = 0 then (if thereB (decS l).1.f (decS l).1.a (decS l).1.n (decS l).1.a2 (decS l).1.b (decS l).1.r then doesI I (decS l).1.f (decS l).1.a (decS l).1.n (decS l).1.a2 (decS l).1.b (decS l).1.r else I) else I) := by
    unfold serveI; rw [if_neg h0, if_pos (by rw [hf]; rfl)]
  have hq := decS_ok l hl
  have h5 := dec5 l
  generalize decS l = d at *
  obtain ⟨⟨f, a, n, a2, b, r⟩, e⟩ := d
  have hO : Ev Try.prog 54 [.roI .u8 l] (.tup [reqA f a n a2 (.roB b) (.roI .u16 r), .int .i64 e]) := hO
  refine Ev.call hO ?_
  clear hO
  conv => whnf
  by_cases he : e ≠ 0
  · rw [if_neg he] at hS hI
    refine condY (by simp [he]) ?_
    conv => whnf
    refine Ev.call (rexc_ev l 3) ?_
    conv => whnf
    rw [hS, hI]
    exact FrzB.le (Le.refl _) rfl
  have he : e = 0 := by simpa using he
  obtain ⟨hf', hQ⟩ := hq he
  have hf' : f = l.getD 0 0 := hf'
  have hQ2 : OkQ f a n a2 b r := hQ
  clear hQ
  rw [hf] at hf'
  subst hf'
  have h5 := h5 he
  subst he
  rw [if_pos rfl] at hS hI
  have hS2 : serveB I l = (if thereB 23 a n a2 b r then doesB I 23 a n a2 b r else excB l 2) := hS
  have hI2 : serveI I l = (if thereB 23 a n a2 b r then doesI I 23 a n a2 b r else I) := hI
  clear hq
  obtain ⟨ha, hn, ha2, hb, hr, hx, ok⟩ := hQ2
  have hx0 : ∀ x ∈ r, 0 ≤ x := fun x h => (hx x h).1
  rw [hS2, hI2]
  clear hS hI hS2 hI2
  conv => whnf
  have hk : encOk 23 n a2 b r = true := ok
  simp [encOk, withinB] at hk
  have hwa : IntKind.i64.wrap a = a := w64i (by omega) (by omega)
  have hw : IntKind.i64.wrap (a + n) = a + n := w64i (by omega) (by omega)
  have hwa2 : IntKind.i64.wrap a2 = a2 := w64i (by omega) (by omega)
  have hwn : IntKind.i64.wrap n = n := w64i (by omega) (by omega)
  have hw2 : IntKind.i64.wrap (a2 + r.length) = a2 + r.length := w64i (by omega) (by omega)
  have hT : thereB 23 a n a2 b r = (!decide (a + n > szF 23) && !decide (a2 + r.length > szF 23)) := by
    rw [← hasB_eq 23 a n rfl ha.1 (by omega), ← hasB_eq 23 a2 r.length rfl ha2.1 (by omega)]; rfl
  rw [hT]
  refine Ev.call (rsizeF_ev 23) ?_
  conv => whnf
  refine ⟨rfl, ?_⟩
  conv => whnf
  refine ⟨rfl, ?_⟩
  conv => whnf
  rw [hwa2, hw2]
  by_cases h2 : decide (a2 + r.length > szF 23) = true
  · have hc : ¬ ((!decide (a + n > szF 23) && !decide (a2 + r.length > szF 23)) = true) := by rw [h2]; simp
    rw [if_neg hc, if_neg hc]
    refine condY h2 ?_
    conv => whnf
    refine Ev.call (rexc_ev l 2) ?_
    conv => whnf
    exact FrzB.le (Le.refl _) rfl
  have h2' : decide (a2 + r.length > szF 23) = false := by simpa using h2
  refine condN h2' ?_
  conv => whnf
  refine Ev.call (rsizeF_ev 23) ?_
  conv => whnf
  refine ⟨rfl, ?_⟩
  conv => whnf
  rw [hwa, hwn, hw]
  by_cases hh : decide (a + n > szF 23) = true
  · have hc : ¬ ((!decide (a + n > szF 23) && !decide (a2 + r.length > szF 23)) = true) := by rw [hh]; simp
    rw [if_neg hc, if_neg hc]
    refine condY hh ?_
    conv => whnf
    refine Ev.call (rexc_ev l 2) ?_
    conv => whnf
    exact FrzB.le (Le.refl _) rfl
  have hh' : decide (a + n > szF 23) = false := by simpa using hh
  have hc : (!decide (a + n > szF 23) && !decide (a2 + r.length > szF 23)) = true := by rw [hh', h2']; rfl
  rw [if_pos hc, if_pos hc]
  refine condN hh' ?_
  conv => whnf
  rw [hwa]
  refine loopI (α := {i : Nat // i ≤ r.length}) (fun i => [(0, .ptr 0 0), (5, .int .u8 23), (6, .ptr 1 0), (8, .int .i64 n), (9, .ptr 2 0), (10, .int .i64 a), (12, .int .i64 i.1)])
      (fun i => ⟨3, [(0, some (rmC (tpsN I 23 a2 r i.1))), (1, some (.obj [.int .u8 23, .int .u16 a, .int .u16 n, .int .u16 a2, .roB b, .roI .u16 r])), (2, some (.obj [.int .u8 23, .int .u8 0, .int .u16 0, .int .u16 0, .nils, .nils]))]⟩) (fun i => r.length - i.1) ⟨0, Nat.zero_le _⟩
      ⟨[], rfl, rfl, rfl, ⟨⟨rfl, rfl⟩, ⟨rfl, rfl⟩, ⟨rfl, rfl⟩, ⟨rfl, rfl⟩, ⟨rfl, rfl⟩, ⟨rfl, rfl⟩, ⟨rfl, rfl⟩, trivial⟩, ⟨⟨trivial, rfl, rfl⟩, ⟨rfl, rfl, rfl⟩, ⟨rfl, rfl, rfl⟩, trivial⟩⟩ fun ⟨i, hi⟩ => ?_
  conv => whnf
  by_cases hlt : i < r.length
  · refine condY (by simp; omega) ?_
    conv => whnf
    refine condT (by simp; omega) ?_
    conv => whnf
    rw [hwa2, show IntKind.i64.wrap (a2 + ((i : Nat) : Int)) = a2 + i from w64i (by omega) (by omega)]
    refine blkCall (rput_tr (tpsN I 23 a2 r i) 23 (a2 + i) (r.getD i 0) (by omega) (by omega)) rfl rfl rfl ?_
    conv => whnf
    refine ⟨⟨i + 1, hlt⟩, ⟨[], rfl, rfl, rfl, ⟨⟨rfl, rfl⟩, ⟨rfl, rfl⟩, ⟨rfl, rfl⟩, ⟨rfl, rfl⟩, ⟨rfl, rfl⟩, ⟨rfl, rfl⟩, ⟨?_, rfl⟩, trivial⟩, ⟨⟨trivial, rfl, rfl⟩, ⟨rfl, rfl, rfl⟩, ⟨rfl, rfl, rfl⟩, trivial⟩⟩, by show r.length - (i + 1) < r.length - i; omega⟩
    show AV.int .i64 (IntKind.i64.wrap ((i : Int) + 1)) = AV.int .i64 ((i + 1 : Nat) : Int)
    rw [s64 (by omega)]
  obtain rfl : i = r.length := by omega
  refine condN (by simp) ?_
  conv => whnf
  refine loopI (α := {i : Nat // i ≤ n.toNat}) (fun i => [(0, .ptr 0 0), (5, .int .u8 23), (8, .int .i64 n), (9, .ptr 2 0), (10, .int .i64 a), (13, .int .i64 i.1)])
      (fun i => ⟨4, [(3, some (.rowI .u16 (tgs (tps I 23 a2 r).o 23 a i.1))), (0, some (rmC (tps I 23 a2 r))), (2, some (.obj [.int .u8 23, .int .u8 0, .int .u16 0, .int .u16 0, .nils, .sl 1 3 0 i.1]))]⟩) (fun i => n.toNat - i.1) ⟨0, Nat.zero_le _⟩
      ⟨[(3, none)], rfl, rfl, rfl, ⟨⟨rfl, rfl⟩, ⟨rfl, rfl⟩, ⟨rfl, rfl⟩, ⟨rfl, rfl⟩, ⟨rfl, rfl⟩, ⟨rfl, rfl⟩, trivial⟩, ⟨⟨trivial, rfl, rfl⟩, ⟨trivial, rfl, rfl⟩, ⟨rfl, rfl, rfl⟩, trivial⟩⟩ fun ⟨i, hi⟩ => ?_
  conv => whnf
  by_cases hlt : i < n.toNat
  · have hl : (tgs (tps I 23 a2 r).o 23 a i).length = i := by simp [tgs_length]
    refine condY (by simp; omega) ?_
    conv => whnf
    rw [show IntKind.i64.wrap (a + ((i : Nat) : Int)) = a + i from w64i (by omega) (by omega)]
    refine blkCall (rget_tr (tps I 23 a2 r) 23 (a + i) (by omega) (by omega)) rfl rfl rfl ?_
    conv => whnf
    refine ⟨rfl, ?_⟩
    conv => whnf
    refine condT (by simp [tgs_length]; omega) ?_
    conv => whnf
    refine ⟨⟨i + 1, hlt⟩, ⟨[(3, some 5)], rfl, rfl, rfl, ⟨⟨rfl, rfl⟩, ⟨rfl, rfl⟩, ⟨rfl, rfl⟩, ⟨rfl, rfl⟩, ⟨rfl, rfl⟩, ⟨?_, rfl⟩, trivial⟩, ⟨⟨trivial, rfl, ?_⟩, ⟨trivial, rfl, rfl⟩, ⟨rfl, rfl, rfl⟩, trivial⟩⟩, by show n.toNat - (i + 1) < n.toNat - i; omega⟩
    · show AV.int .i64 (IntKind.i64.wrap ((i : Int) + 1)) = AV.int .i64 ((i + 1 : Nat) : Int)
      rw [s64 (by omega)]
    · show some (Chunk.rowI .u16 (((tgs (tps I 23 a2 r).o 23 a i).drop 0).take i ++ ([tg (tps I 23 a2 r).o 23 (a + i)].drop 0).take 1)) = some (Chunk.rowI .u16 (tgs (tps I 23 a2 r).o 23 a (i + 1)))
      rw [tgs_succ, List.drop_zero]
      conv => lhs; rw [List.take_of_length_le (by omega)]
      rfl
  · obtain rfl : i = n.toNat := by omega
    refine condN (by simp; omega) ?_
    conv => whnf
    refine lend1 (h := 3) (n := 0) (v := .nils) rfl (frz_repI 3 23 0 0 0 _ _ (by simp [tgs_length])) ?_
    refine Tr.le (leRepZ Le.nilB (Le.refl _)) (Ev.call (rReply_ev 23 0 0 0 [] (tgs (tps I 23 a2 r).o 23 a n.toNat) (by omega) (by omega) (by simp) (by simp [tgs_length]; omega)) ?_)
    conv => whnf
    exact FrzB.le (Le.refl _) rfl
set_option maxRecDepth 20000 in
theorem rs5_tr (I : Img) (l : List Int) (hl : l.length ≤ 1000) (hB : isB l) (h0 : l ≠ []) (hf : l.getD 0 0 = 5) : RmT 92 [.ptr 0 0, .roI .u8 l] I (.roI .u8 (serveB I l)) (serveI I l) := by
  refine FrzB.rm rfl (trF g92 b92 c92 ?_)
  conv => whnf
  have hlen : 0 < l.length := by
    cases l with
    | nil => exact absurd rfl h0
    | cons a t => simp
  refine condN (by simp; omega) ?_
  conv => whnf
  refine condT (by simp; omega) ?_
  conv => whnf
  rw [show l.getD (Int.toNat 0) 0 = 5 from hf]
  refine Ev.call (rknown_ev 5) ?_
  conv => whnf
  have hO := rOpen_ev l hl
  rw [dec_same l hB hl] at hO
  have hS : serveB I l = (if (decS l).2 = 0 then (if thereB (decS l).1.f (decS l).1.a (decS l).1.n (decS l).1.a2 (decS l).1.b (decS l).1.r then doesB I (decS l).1.f (decS l).1.a (decS l).1.n (decS l).1.a2 (decS l).1.b (decS l).1.r else excB l 2) else excB l 3) := by
    unfold serveB; rw [if_neg h0, if_pos (by rw [hf]; rfl)]
  have hI : serveI I l = (if (decS l).2 = 0 then (if thereB (decS l).1.f (decS l).1.a (decS l).1.n (decS l).1.a2 (decS l).1.b (decS l).1.r then doesI I (decS l).1.f (decS l).1.a (decS l).1.n (decS l).1.a2 (decS l).1.b (decS l).1.r else I) else I) := by
    unfold serveI; rw [if_neg h0, if_pos (by rw [hf]; rfl)]
  have hq := decS_ok l hl
  have h5 := dec5 l
  generalize decS l = d at *
  obtain ⟨⟨f, a, n, a2, b, r⟩, e⟩ := d
  have hO : Ev Try.prog 54 [.roI .u8 l] (.tup [reqA f a n a2 (.roB b) (.roI .u16 r), .int .i64 e]) := hO
  refine Ev.call hO ?_
  clear hO
  conv => whnf
  by_cases he : e ≠ 0
  · rw [if_neg he] at hS hI
    refine condY (by simp [he]) ?_
    conv => whnf
    refine Ev.call (rexc_ev l 3) ?_
    conv => whnf
    rw [hS, hI]
    exact FrzB.le (Le.refl _) rfl
  have he : e = 0 := by simpa using he
  obtain ⟨hf', hQ⟩ := hq he
  have hf' : f = l.getD 0 0 := hf'
  have hQ2 : OkQ f a n a2 b r := hQ
  clear hQ
  rw [hf] at hf'
  subst hf'
  have h5 := h5 he
  subst he
  rw [if_pos rfl] at hS hI
  have hS2 : serveB I l = (if thereB 5 a n a2 b r then doesB I 5 a n a2 b r else excB l 2) := hS
  have hI2 : serveI I l = (if thereB 5 a n a2 b r then doesI I 5 a n a2 b r else I) := hI
  clear hq
  obtain ⟨ha, hn, ha2, hb, hr, hx, ok⟩ := hQ2
  have hx0 : ∀ x ∈ r, 0 ≤ x := fun x h => (hx x h).1
  rw [hS2, hI2]
  clear hS hI hS2 hI2
  conv => whnf
  obtain ⟨h53, h54, h5l⟩ := h5 rfl hf
  refine condT (by simp; omega) ?_
  conv => whnf
  rcases h53 with h53 | h53
  · refine condN (by rw [show l.getD (Int.toNat 3) 0 = 0 from h53]; rfl) ?_
    conv => whnf
    refine condT (by simp; omega) ?_
    conv => whnf
    refine condN (by rw [show l.getD (Int.toNat 4) 0 = 0 from h54]; rfl) ?_
    conv => whnf
    have hk : encOk 5 n a2 b r = true := ok
    simp [encOk, withinB] at hk
    have hwa : IntKind.i64.wrap a = a := w64i (by omega) (by omega)
    have hw : IntKind.i64.wrap (a + (b.length : Int)) = a + (b.length : Int) := w64i (by omega) (by omega)
    have hT : thereB 5 a n a2 b r = !decide (a + (b.length : Int) > szF 5) := by
      rw [← hasB_eq 5 a (b.length : Int) rfl ha.1 (by omega)]; rfl
    rw [hT]
    refine Ev.call (rsizeF_ev 5) ?_
    conv => whnf
    have hM : (if (r.length : Int) > if (b.length : Int) > IntKind.i64.wrap n then (b.length : Int) else IntKind.i64.wrap n then (r.length : Int) else if (b.length : Int) > IntKind.i64.wrap n then (b.length : Int) else IntKind.i64.wrap n) = (b.length : Int) := by
      have hwn : IntKind.i64.wrap n = n := w64i (by omega) (by omega)
      rw [hwn]
      simp [hk]
      try (first | omega | (intro h; simp [h]))
    rw [hM]
    rw [hwa, hw]
    refine ⟨rfl, ?_⟩
    conv => whnf
    by_cases hh : decide (a + (b.length : Int) > szF 5) = true
    · have hc : ¬ ((!decide (a + (b.length : Int) > szF 5)) = true) := by rw [hh]; simp
      rw [if_neg hc, if_neg hc]
      refine condY hh ?_
      conv => whnf
      refine Ev.call (rexc_ev l 2) ?_
      conv => whnf
      exact FrzB.le (Le.refl _) rfl
    have hh' : decide (a + (b.length : Int) > szF 5) = false := by simpa using hh
    have hc : (!decide (a + (b.length : Int) > szF 5)) = true := by rw [hh']; rfl
    rw [if_pos hc, if_pos hc]
    refine condN hh' ?_
    conv => whnf
    rw [hwa]
    refine loopI (α := {i : Nat // i ≤ b.length}) (fun i => [(0, .ptr 0 0), (5, .int .u8 5), (6, .ptr 1 0), (8, .int .i64 b.length), (9, .ptr 2 0), (10, .int .i64 a), (14, .int .i64 i.1)])
        (fun i => ⟨3, [(0, some (rmC (tpsN I 5 a (b.map bitI) i.1))), (1, some (.obj [.int .u8 5, .int .u16 a, .int .u16 n, .int .u16 a2, .roB b, .roI .u16 r])), (2, some (.obj [.int .u8 5, .int .u8 0, .int .u16 a, .int .u16 0, .nils, .nils]))]⟩) (fun i => b.length - i.1) ⟨0, Nat.zero_le _⟩
        ⟨[], rfl, rfl, rfl, ⟨⟨rfl, rfl⟩, ⟨rfl, rfl⟩, ⟨rfl, rfl⟩, ⟨rfl, rfl⟩, ⟨rfl, rfl⟩, ⟨rfl, rfl⟩, ⟨rfl, rfl⟩, trivial⟩, ⟨⟨trivial, rfl, rfl⟩, ⟨rfl, rfl, rfl⟩, ⟨rfl, rfl, rfl⟩, trivial⟩⟩ fun ⟨i, hi⟩ => ?_
    conv => whnf
    by_cases hlt : i < b.length
    · refine condY (by simp; omega) ?_
      conv => whnf
      refine condT (by simp; omega) ?_
      conv => whnf
      have hg : (b.map bitI).getD i 0 = bitI (b.getD i false) := by simp [List.getD_eq_getElem?_getD, List.getElem?_eq_getElem hlt]
      have hs : ∀ K : Img → Prop, K (tpsN I 5 a (b.map bitI) (i + 1)) → K (tp (tpsN I 5 a (b.map bitI) i) 5 (a + i) (bitI (b.getD i false))) := fun K h => by rw [← hg]; exact h
      refine condF (fun h => ?_) (fun h => ?_)
      · have hv : bitI (b.getD i false) = 0 := by
          have : b.getD i false = false := h
          rw [this]; rfl
        rw [hv] at hs
        conv => whnf
        rw [show IntKind.i64.wrap (a + ((i : Nat) : Int)) = a + i from w64i (by omega) (by omega)]
        refine blkCall (rput_tr (tpsN I 5 a (b.map bitI) i) 5 (a + i) 0 (by omega) (by omega)) rfl rfl rfl ?_
        conv => whnf
        refine ⟨⟨i + 1, hlt⟩, ⟨[], rfl, rfl, rfl, ⟨⟨rfl, rfl⟩, ⟨rfl, rfl⟩, ⟨rfl, rfl⟩, ⟨rfl, rfl⟩, ⟨rfl, rfl⟩, ⟨rfl, rfl⟩, ⟨?_, rfl⟩, trivial⟩, ⟨⟨trivial, rfl, ?_⟩, ⟨rfl, rfl, rfl⟩, ⟨rfl, rfl, rfl⟩, trivial⟩⟩, by show b.length - (i + 1) < b.length - i; omega⟩
        · show AV.int .i64 (IntKind.i64.wrap ((i : Int) + 1)) = AV.int .i64 ((i + 1 : Nat) : Int)
          rw [s64 (by omega)]
        · exact hs (fun J => some (rmC J) = some (rmC (tpsN I 5 a (b.map bitI) (i + 1)))) rfl
      · have hv : bitI (b.getD i false) = 1 := by
          have : b.getD i false = true := h
          rw [this]; rfl
        rw [hv] at hs
        conv => whnf
        rw [show IntKind.i64.wrap (a + ((i : Nat) : Int)) = a + i from w64i (by omega) (by omega)]
        refine blkCall (rput_tr (tpsN I 5 a (b.map bitI) i) 5 (a + i) 1 (by omega) (by omega)) rfl rfl rfl ?_
        conv => whnf
        refine ⟨⟨i + 1, hlt⟩, ⟨[], rfl, rfl, rfl, ⟨⟨rfl, rfl⟩, ⟨rfl, rfl⟩, ⟨rfl, rfl⟩, ⟨rfl, rfl⟩, ⟨rfl, rfl⟩, ⟨rfl, rfl⟩, ⟨?_, rfl⟩, trivial⟩, ⟨⟨trivial, rfl, ?_⟩, ⟨rfl, rfl, rfl⟩, ⟨rfl, rfl, rfl⟩, trivial⟩⟩, by show b.length - (i + 1) < b.length - i; omega⟩
        · show AV.int .i64 (IntKind.i64.wrap ((i : Int) + 1)) = AV.int .i64 ((i + 1 : Nat) : Int)
          rw [s64 (by omega)]
        · exact hs (fun J => some (rmC J) = some (rmC (tpsN I 5 a (b.map bitI) (i + 1)))) rfl
    · obtain rfl : i = b.length := by omega
      have hT : doesI I 5 a n a2 b r = tpsN I 5 a (b.map bitI) b.length := by show tpsN _ _ _ _ _ = _; rw [List.length_map]
      rw [hT]
      refine condN (by simp) ?_
      conv => whnf
      refine Tr.le (leRepZ (Le.refl _) (Le.nilI _)) (Ev.call (rReply_ev 5 0 a 0 b [] (by omega) (by omega) (by first | omega | (simp; done) | (simp; omega)) (by first | omega | (simp; done) | (simp; omega))) ?_)
      conv => whnf
      exact FrzB.le (Le.refl _) rfl

  · refine condY (by rw [show l.getD (Int.toNat 3) 0 = 255 from h53]; rfl) ?_
    conv => whnf
    refine condT (by simp; omega) ?_
    conv => whnf
    refine condN (by rw [show l.getD (Int.toNat 3) 0 = 255 from h53]; rfl) ?_
    conv => whnf
    refine condT (by simp; omega) ?_
    conv => whnf
    refine condN (by rw [show l.getD (Int.toNat 4) 0 = 0 from h54]; rfl) ?_
    conv => whnf
    have hk : encOk 5 n a2 b r = true := ok
    simp [encOk, withinB] at hk
    have hwa : IntKind.i64.wrap a = a := w64i (by omega) (by omega)
    have hw : IntKind.i64.wrap (a + (b.length : Int)) = a + (b.length : Int) := w64i (by omega) (by omega)
    have hT : thereB 5 a n a2 b r = !decide (a + (b.length : Int) > szF 5) := by
      rw [← hasB_eq 5 a (b.length : Int) rfl ha.1 (by omega)]; rfl
    rw [hT]
    refine Ev.call (rsizeF_ev 5) ?_
    conv => whnf
    have hM : (if (r.length : Int) > if (b.length : Int) > IntKind.i64.wrap n then (b.length : Int) else IntKind.i64.wrap n then (r.length : Int) else if (b.length : Int) > IntKind.i64.wrap n then (b.length : Int) else IntKind.i64.wrap n) = (b.length : Int) := by
      have hwn : IntKind.i64.wrap n = n := w64i (by omega) (by omega)
      rw [hwn]
      simp [hk]
      try (first | omega | (intro h; simp [h]))
    rw [hM]
    rw [hwa, hw]
    refine ⟨rfl, ?_⟩
    conv => whnf
    by_cases hh : decide (a + (b.length : Int) > szF 5) = true
    · have hc : ¬ ((!decide (a + (b.length : Int) > szF 5)) = true) := by rw [hh]; simp
      rw [if_neg hc, if_neg hc]
      refine condY hh ?_
      conv => whnf
      refine Ev.call (rexc_ev l 2) ?_
      conv => whnf
      exact FrzB.le (Le.refl _) rfl
    have hh' : decide (a + (b.length : Int) > szF 5) = false := by simpa using hh
    have hc : (!decide (a + (b.length : Int) > szF 5)) = true := by rw [hh']; rfl
    rw [if_pos hc, if_pos hc]
    refine condN hh' ?_
    conv => whnf
    rw [hwa]
    refine loopI (α := {i : Nat // i ≤ b.length}) (fun i => [(0, .ptr 0 0), (5, .int .u8 5), (6, .ptr 1 0), (8, .int .i64 b.length), (9, .ptr 2 0), (10, .int .i64 a), (14, .int .i64 i.1)])
        (fun i => ⟨3, [(0, some (rmC (tpsN I 5 a (b.map bitI) i.1))), (1, some (.obj [.int .u8 5, .int .u16 a, .int .u16 n, .int .u16 a2, .roB b, .roI .u16 r])), (2, some (.obj [.int .u8 5, .int .u8 0, .int .u16 a, .int .u16 0, .nils, .nils]))]⟩) (fun i => b.length - i.1) ⟨0, Nat.zero_le _⟩
        ⟨[], rfl, rfl, rfl, ⟨⟨rfl, rfl⟩, ⟨rfl, rfl⟩, ⟨rfl, rfl⟩, ⟨rfl, rfl⟩, ⟨rfl, rfl⟩, ⟨rfl, rfl⟩, ⟨rfl, rfl⟩, trivial⟩, ⟨⟨trivial, rfl, rfl⟩, ⟨rfl, rfl, rfl⟩, ⟨rfl, rfl, rfl⟩, trivial⟩⟩ fun ⟨i, hi⟩ => ?_
    conv => whnf
    by_cases hlt : i < b.length
    · refine condY (by simp; omega) ?_
      conv => whnf
      refine condT (by simp; omega) ?_
      conv => whnf
      have hg : (b.map bitI).getD i 0 = bitI (b.getD i false) := by simp [List.getD_eq_getElem?_getD, List.getElem?_eq_getElem hlt]
      have hs : ∀ K : Img → Prop, K (tpsN I 5 a (b.map bitI) (i + 1)) → K (tp (tpsN I 5 a (b.map bitI) i) 5 (a + i) (bitI (b.getD i false))) := fun K h => by rw [← hg]; exact h
      refine condF (fun h => ?_) (fun h => ?_)
      · have hv : bitI (b.getD i false) = 0 := by
          have : b.getD i false = false := h
          rw [this]; rfl
        rw [hv] at hs
        conv => whnf
        rw [show IntKind.i64.wrap (a + ((i : Nat) : Int)) = a + i from w64i (by omega) (by omega)]
        refine blkCall (rput_tr (tpsN I 5 a (b.map bitI) i) 5 (a + i) 0 (by omega) (by omega)) rfl rfl rfl ?_
        conv => whnf
        refine ⟨⟨i + 1, hlt⟩, ⟨[], rfl, rfl, rfl, ⟨⟨rfl, rfl⟩, ⟨rfl, rfl⟩, ⟨rfl, rfl⟩, ⟨rfl, rfl⟩, ⟨rfl, rfl⟩, ⟨rfl, rfl⟩, ⟨?_, rfl⟩, trivial⟩, ⟨⟨trivial, rfl, ?_⟩, ⟨rfl, rfl, rfl⟩, ⟨rfl, rfl, rfl⟩, trivial⟩⟩, by show b.length - (i + 1) < b.length - i; omega⟩
        · show AV.int .i64 (IntKind.i64.wrap ((i : Int) + 1)) = AV.int .i64 ((i + 1 : Nat) : Int)
          rw [s64 (by omega)]
        · exact hs (fun J => some (rmC J) = some (rmC (tpsN I 5 a (b.map bitI) (i + 1)))) rfl
      · have hv : bitI (b.getD i false) = 1 := by
          have : b.getD i false = true := h
          rw [this]; rfl
        rw [hv] at hs
        conv => whnf
        rw [show IntKind.i64.wrap (a + ((i : Nat) : Int)) = a + i from w64i (by omega) (by omega)]
        refine blkCall (rput_tr (tpsN I 5 a (b.map bitI) i) 5 (a + i) 1 (by omega) (by omega)) rfl rfl rfl ?_
        conv => whnf
        refine ⟨⟨i + 1, hlt⟩, ⟨[], rfl, rfl, rfl, ⟨⟨rfl, rfl⟩, ⟨rfl, rfl⟩, ⟨rfl, rfl⟩, ⟨rfl, rfl⟩, ⟨rfl, rfl⟩, ⟨rfl, rfl⟩, ⟨?_, rfl⟩, trivial⟩, ⟨⟨trivial, rfl, ?_⟩, ⟨rfl, rfl, rfl⟩, ⟨rfl, rfl, rfl⟩, trivial⟩⟩, by show b.length - (i + 1) < b.length - i; omega⟩
        · show AV.int .i64 (IntKind.i64.wrap ((i : Int) + 1)) = AV.int .i64 ((i + 1 : Nat) : Int)
          rw [s64 (by omega)]
        · exact hs (fun J => some (rmC J) = some (rmC (tpsN I 5 a (b.map bitI) (i + 1)))) rfl
    · obtain rfl : i = b.length := by omega
      have hT : doesI I 5 a n a2 b r = tpsN I 5 a (b.map bitI) b.length := by show tpsN _ _ _ _ _ = _; rw [List.length_map]
      rw [hT]
      refine condN (by simp) ?_
      conv => whnf
      refine Tr.le (leRepZ (Le.refl _) (Le.nilI _)) (Ev.call (rReply_ev 5 0 a 0 b [] (by omega) (by omega) (by first | omega | (simp; done) | (simp; omega)) (by first | omega | (simp; done) | (simp; omega))) ?_)
      conv => whnf
      exact FrzB.le (Le.refl _) rfl

set_option maxRecDepth 20000 in
theorem rs1_tr (I : Img) (l : List Int) (hl : l.length ≤ 1000) (hB : isB l) (h0 : l ≠ []) (hf : l.getD 0 0 = 1) : RmT 92 [.ptr 0 0, .roI .u8 l] I (.roI .u8 (serveB I l)) (serveI I l) := by
  refine FrzB.rm rfl (trF g92 b92 c92 ?_)
  conv => whnf
  have hlen : 0 < l.length := by
    cases l with
    | nil => exact absurd rfl h0
    | cons a t => simp
  refine condN (by simp; omega) ?_
  conv => whnf
  refine condT (by simp; omega) ?_
  conv => whnf
  rw [show l.getD (Int.toNat 0) 0 = 1 from hf]
  refine Ev.call (rknown_ev 1) ?_
  conv => whnf
  have hO := rOpen_ev l hl
  rw [dec_same l hB hl] at hO
  have hS : serveB I l = (if (decS l).2 = 0 then (if thereB (decS l).1.f (decS l).1.a (decS l).1.n (decS l).1.a2 (decS l).1.b (decS l).1.r then doesB I (decS l).1.f (decS l).1.a (decS l).1.n (decS l).1.a2 (decS l).1.b (decS l).1.r else excB l 2) else excB l 3) := by
    unfold serveB; rw [if_neg h0, if_pos (by rw [hf]; rfl)]
  have hI : serveI I l = (if (decS l).2 = 0 then (if thereB (decS l).1.f (decS l).1.a (decS l).1.n (decS l).1.a2 (decS l).1.b (decS l).1.r then doesI I (decS l).1.f (decS l).1.a (decS l).1.n (decS l).1.a2 (decS l).1.b (decS l).1.r else I) else I) := by
    unfold serveI; rw [if_neg h0, if_pos (by rw [hf]; rfl)]
  have hq := decS_ok l hl
  have h5 := dec5 l
  generalize decS l = d at *
  obtain ⟨⟨f, a, n, a2, b, r⟩, e⟩ := d
  have hO : Ev Try.prog 54 [.roI .u8 l] (.tup [reqA f a n a2 (.roB b) (.roI .u16 r), .int .i64 e]) := hO
  refine Ev.call hO ?_
  clear hO
  conv => whnf
  by_cases he : e ≠ 0
  · rw [if_neg he] at hS hI
    refine condY (by simp [he]) ?_
    conv => whnf
    refine Ev.call (rexc_ev l 3) ?_
    conv => whnf
    rw [hS, hI]
    exact FrzB.le (Le.refl _) rfl
  have he : e = 0 := by simpa using he
  obtain ⟨hf', hQ⟩ := hq he
  have hf' : f = l.getD 0 0 := hf'
  have hQ2 : OkQ f a n a2 b r := hQ
  clear hQ
  rw [hf] at hf'
  subst hf'
  have h5 := h5 he
  subst he
  rw [if_pos rfl] at hS hI
  have hS2 : serveB I l = (if thereB 1 a n a2 b r then doesB I 1 a n a2 b r else excB l 2) := hS
  have hI2 : serveI I l = (if thereB 1 a n a2 b r then doesI I 1 a n a2 b r else I) := hI
  clear hq
  obtain ⟨ha, hn, ha2, hb, hr, hx, ok⟩ := hQ2
  have hx0 : ∀ x ∈ r, 0 ≤ x := fun x h => (hx x h).1
  rw [hS2, hI2]
  clear hS hI hS2 hI2
  conv => whnf
  have hk : encOk 1 n a2 b r = true := ok
  simp [encOk, withinB] at hk
  have hwa : IntKind.i64.wrap a = a := w64i (by omega) (by omega)
  have hw : IntKind.i64.wrap (a + n) = a + n := w64i (by omega) (by omega)
  have hT : thereB 1 a n a2 b r = !decide (a + n > szF 1) := by
    rw [← hasB_eq 1 a n rfl ha.1 (by omega)]; rfl
  rw [hT]
  refine Ev.call (rsizeF_ev 1) ?_
  conv => whnf
  have hM : (if (r.length : Int) > if (b.length : Int) > IntKind.i64.wrap n then (b.length : Int) else IntKind.i64.wrap n then (r.length : Int) else if (b.length : Int) > IntKind.i64.wrap n then (b.length : Int) else IntKind.i64.wrap n) = n := by
    have hwn : IntKind.i64.wrap n = n := w64i (by omega) (by omega)
    rw [hwn]
    simp [hk]
    try (first | omega | (intro h; simp [h]))
  rw [hM]
  rw [hwa, hw]
  refine ⟨rfl, ?_⟩
  conv => whnf
  by_cases hh : decide (a + n > szF 1) = true
  · have hc : ¬ ((!decide (a + n > szF 1)) = true) := by rw [hh]; simp
    rw [if_neg hc, if_neg hc]
    refine condY hh ?_
    conv => whnf
    refine Ev.call (rexc_ev l 2) ?_
    conv => whnf
    exact FrzB.le (Le.refl _) rfl
  have hh' : decide (a + n > szF 1) = false := by simpa using hh
  have hc : (!decide (a + n > szF 1)) = true := by rw [hh']; rfl
  rw [if_pos hc, if_pos hc]
  refine condN hh' ?_
  conv => whnf
  rw [hwa]
  refine loopI (α := {i : Nat // i ≤ n.toNat}) (fun i => [(0, .ptr 0 0), (5, .int .u8 1), (8, .int .i64 n), (9, .ptr 2 0), (10, .int .i64 a), (11, .int .i64 i.1)])
      (fun i => ⟨4, [(3, some (.rowB ((tgs I.o 1 a i.1).map fun x => x != 0))), (0, some (rmC I)), (2, some (.obj [.int .u8 1, .int .u8 0, .int .u16 0, .int .u16 0, .sl 1 3 0 i.1, .nils]))]⟩) (fun i => n.toNat - i.1) ⟨0, Nat.zero_le _⟩
      ⟨[(3, none)], rfl, rfl, rfl, ⟨⟨rfl, rfl⟩, ⟨rfl, rfl⟩, ⟨rfl, rfl⟩, ⟨rfl, rfl⟩, ⟨rfl, rfl⟩, ⟨rfl, rfl⟩, trivial⟩, ⟨⟨trivial, rfl, rfl⟩, ⟨trivial, rfl, rfl⟩, ⟨rfl, rfl, rfl⟩, trivial⟩⟩ fun ⟨i, hi⟩ => ?_
  conv => whnf
  by_cases hlt : i < n.toNat
  · have hl : ((tgs I.o 1 a i).map fun x => x != 0).length = i := by simp [tgs_length]
    refine condY (by simp; omega) ?_
    conv => whnf
    rw [show IntKind.i64.wrap (a + ((i : Nat) : Int)) = a + i from w64i (by omega) (by omega)]
    refine blkCall (rget_tr I 1 (a + i) (by omega) (by omega)) rfl rfl rfl ?_
    conv => whnf
    refine ⟨rfl, ?_⟩
    conv => whnf
    refine condT (by simp [tgs_length]; omega) ?_
    conv => whnf
    refine ⟨⟨i + 1, hlt⟩, ⟨[(3, some 5)], rfl, rfl, rfl, ⟨⟨rfl, rfl⟩, ⟨rfl, rfl⟩, ⟨rfl, rfl⟩, ⟨rfl, rfl⟩, ⟨rfl, rfl⟩, ⟨?_, rfl⟩, trivial⟩, ⟨⟨trivial, rfl, ?_⟩, ⟨trivial, rfl, rfl⟩, ⟨rfl, rfl, rfl⟩, trivial⟩⟩, by show n.toNat - (i + 1) < n.toNat - i; omega⟩
    · show AV.int .i64 (IntKind.i64.wrap ((i : Int) + 1)) = AV.int .i64 ((i + 1 : Nat) : Int)
      rw [s64 (by omega)]
    · show some (Chunk.rowB ((((tgs I.o 1 a i).map fun x => x != 0).drop 0).take i ++ ([tg I.o 1 (a + i) != 0].drop 0).take 1)) = some (Chunk.rowB ((tgs I.o 1 a (i + 1)).map fun x => x != 0))
      rw [tgs_succ, List.drop_zero, List.map_append]
      conv => lhs; rw [List.take_of_length_le (by omega)]
      rfl
  · obtain rfl : i = n.toNat := by omega
    refine condN (by simp; omega) ?_
    conv => whnf
    refine lend1 (h := 3) (n := 0) (v := .nils) rfl (frz_repB 3 1 0 0 0 _ _ (by simp [tgs_length])) ?_
    refine Tr.le (leRepZ (Le.refl _) (Le.nilI _)) (Ev.call (rReply_ev 1 0 0 0 ((tgs I.o 1 a n.toNat).map fun x => x != 0) [] (by omega) (by omega) (by simp [tgs_length]; omega) (by simp)) ?_)
    conv => whnf
    exact FrzB.le (Le.refl _) rfl
set_option maxRecDepth 20000 in
theorem rs2_tr (I : Img) (l : List Int) (hl : l.length ≤ 1000) (hB : isB l) (h0 : l ≠ []) (hf : l.getD 0 0 = 2) : RmT 92 [.ptr 0 0, .roI .u8 l] I (.roI .u8 (serveB I l)) (serveI I l) := by
  refine FrzB.rm rfl (trF g92 b92 c92 ?_)
  conv => whnf
  have hlen : 0 < l.length := by
    cases l with
    | nil => exact absurd rfl h0
    | cons a t => simp
  refine condN (by simp; omega) ?_
  conv => whnf
  refine condT (by simp; omega) ?_
  conv => whnf
  rw [show l.getD (Int.toNat 0) 0 = 2 from hf]
  refine Ev.call (rknown_ev 2) ?_
  conv => whnf
  have hO := rOpen_ev l hl
  rw [dec_same l hB hl] at hO
  have hS : serveB I l = (if (decS l).2 = 0 then (if thereB (decS l).1.f (decS l).1.a (decS l).1.n (decS l).1.a2 (decS l).1.b (decS l).1.r then doesB I (decS l).1.f (decS l).1.a (decS l).1.n (decS l).1.a2 (decS l).1.b (decS l).1.r else excB l 2) else excB l 3) := by
    unfold serveB; rw [if_neg h0, if_pos (by rw [hf]; rfl)]
  have hI : serveI I l = (if (decS l).2 = 0 then (if thereB (decS l).1.f (decS l).1.a (decS l).1.n (decS l).1.a2 (decS l).1.b (decS l).1.r then doesI I (decS l).1.f (decS l).1.a (decS l).1.n (decS l).1.a2 (decS l).1.b (decS l).1.r else I) else I) := by
    unfold serveI; rw [if_neg h0, if_pos (by rw [hf]; rfl)]
  have hq := decS_ok l hl
  have h5 := dec5 l
  generalize decS l = d at *
  obtain ⟨⟨f, a, n, a2, b, r⟩, e⟩ := d
  have hO : Ev Try.prog 54 [.roI .u8 l] (.tup [reqA f a n a2 (.roB b) (.roI .u16 r), .int .i64 e]) := hO
  refine Ev.call hO ?_
  clear hO
  conv => whnf
  by_cases he : e ≠ 0
  · rw [if_neg he] at hS hI
    refine condY (by simp [he]) ?_
    conv => whnf
    refine Ev.call (rexc_ev l 3) ?_
    conv => whnf
    rw [hS, hI]
    exact FrzB.le (Le.refl _) rfl
  have he : e = 0 := by simpa using he
  obtain ⟨hf', hQ⟩ := hq he
  have hf' : f = l.getD 0 0 := hf'
  have hQ2 : OkQ f a n a2 b r := hQ
  clear hQ
  rw [hf] at hf'
  subst hf'
  have h5 := h5 he
  subst he
  rw [if_pos rfl] at hS hI
  have hS2 : serveB I l = (if thereB 2 a n a2 b r then doesB I 2 a n a2 b r else excB l 2) := hS
  have hI2 : serveI I l = (if thereB 2 a n a2 b r then doesI I 2 a n a2 b r else I) := hI
  clear hq
  obtain ⟨ha, hn, ha2, hb, hr, hx, ok⟩ := hQ2
  have hx0 : ∀ x ∈ r, 0 ≤ x := fun x h => (hx x h).1
  rw [hS2, hI2]
  clear hS hI hS2 hI2
  conv => whnf
  have hk : encOk 2 n a2 b r = true := ok
  simp [encOk, withinB] at hk
  have hwa : IntKind.i64.wrap a = a := w64i (by omega) (by omega)
  have hw : IntKind.i64.wrap (a + n) = a + n := w64i (by omega) (by omega)
  have hT : thereB 2 a n a2 b r = !decide (a + n > szF 2) := by
    rw [← hasB_eq 2 a n rfl ha.1 (by omega)]; rfl
  rw [hT]
  refine Ev.call (rsizeF_ev 2) ?_
  conv => whnf
  have hM : (if (r.length : Int) > if (b.length : Int) > IntKind.i64.wrap n then (b.length : Int) else IntKind.i64.wrap n then (r.length : Int) else if (b.length : Int) > IntKind.i64.wrap n then (b.length : Int) else IntKind.i64.wrap n) = n := by
    have hwn : IntKind.i64.wrap n = n := w64i (by omega) (by omega)
    rw [hwn]
    simp [hk]
    try (first | omega | (intro h; simp [h]))
  rw [hM]
  rw [hwa, hw]
  refine ⟨rfl, ?_⟩
  conv => whnf
  by_cases hh : decide (a + n > szF 2) = true
  · have hc : ¬ ((!decide (a + n > szF 2)) = true) := by rw [hh]; simp
    rw [if_neg hc, if_neg hc]
    refine condY hh ?_
    conv => whnf
    refine Ev.call (rexc_ev l 2) ?_
    conv => whnf
    exact FrzB.le (Le.refl _) rfl
  have hh' : decide (a + n > szF 2) = false := by simpa using hh
  have hc : (!decide (a + n > szF 2)) = true := by rw [hh']; rfl
  rw [if_pos hc, if_pos hc]
  refine condN hh' ?_
  conv => whnf
  rw [hwa]
  refine loopI (α := {i : Nat // i ≤ n.toNat}) (fun i => [(0, .ptr 0 0), (5, .int .u8 2), (8, .int .i64 n), (9, .ptr 2 0), (10, .int .i64 a), (11, .int .i64 i.1)])
      (fun i => ⟨4, [(3, some (.rowB ((tgs I.o 2 a i.1).map fun x => x != 0))), (0, some (rmC I)), (2, some (.obj [.int .u8 2, .int .u8 0, .int .u16 0, .int .u16 0, .sl 1 3 0 i.1, .nils]))]⟩) (fun i => n.toNat - i.1) ⟨0, Nat.zero_le _⟩
      ⟨[(3, none)], rfl, rfl, rfl, ⟨⟨rfl, rfl⟩, ⟨rfl, rfl⟩, ⟨rfl, rfl⟩, ⟨rfl, rfl⟩, ⟨rfl, rfl⟩, ⟨rfl, rfl⟩, trivial⟩, ⟨⟨trivial, rfl, rfl⟩, ⟨trivial, rfl, rfl⟩, ⟨rfl, rfl, rfl⟩, trivial⟩⟩ fun ⟨i, hi⟩ => ?_
  conv => whnf
  by_cases hlt : i < n.toNat
  · have hl : ((tgs I.o 2 a i).map fun x => x != 0).length = i := by simp [tgs_length]
    refine condY (by simp; omega) ?_
    conv => whnf
    rw [show IntKind.i64.wrap (a + ((i : Nat) : Int)) = a + i from w64i (by omega) (by omega)]
    refine blkCall (rget_tr I 2 (a + i) (by omega) (by omega)) rfl rfl rfl ?_
    conv => whnf
    refine ⟨rfl, ?_⟩
    conv => whnf
    refine condT (by simp [tgs_length]; omega) ?_
    conv => whnf
    refine ⟨⟨i + 1, hlt⟩, ⟨[(3, some 5)], rfl, rfl, rfl, ⟨⟨rfl, rfl⟩, ⟨rfl, rfl⟩, ⟨rfl, rfl⟩, ⟨rfl, rfl⟩, ⟨rfl, rfl⟩, ⟨?_, rfl⟩, trivial⟩, ⟨⟨trivial, rfl, ?_⟩, ⟨trivial, rfl, rfl⟩, ⟨rfl, rfl, rfl⟩, trivial⟩⟩, by show n.toNat - (i + 1) < n.toNat - i; omega⟩
    · show AV.int .i64 (IntKind.i64.wrap ((i : Int) + 1)) = AV.int .i64 ((i + 1 : Nat) : Int)
      rw [s64 (by omega)]
    · show some (Chunk.rowB ((((tgs I.o 2 a i).map fun x => x != 0).drop 0).take i ++ ([tg I.o 2 (a + i) != 0].drop 0).take 1)) = some (Chunk.rowB ((tgs I.o 2 a (i + 1)).map fun x => x != 0))
      rw [tgs_succ, List.drop_zero, List.map_append]
      conv => lhs; rw [List.take_of_length_le (by omega)]
      rfl
  · obtain rfl : i = n.toNat := by omega
    refine condN (by simp; omega) ?_
    conv => whnf
    refine lend1 (h := 3) (n := 0) (v := .nils) rfl (frz_repB 3 2 0 0 0 _ _ (by simp [tgs_length])) ?_
    refine Tr.le (leRepZ (Le.refl _) (Le.nilI _)) (Ev.call (rReply_ev 2 0 0 0 ((tgs I.o 2 a n.toNat).map fun x => x != 0) [] (by omega) (by omega) (by simp [tgs_length]; omega) (by simp)) ?_)
    conv => whnf
    exact FrzB.le (Le.refl _) rfl
set_option maxRecDepth 20000 in
theorem rs3_tr (I : Img) (l : List Int) (hl : l.length ≤ 1000) (hB : isB l) (h0 : l ≠ []) (hf : l.getD 0 0 = 3) : RmT 92 [.ptr 0 0, .roI .u8 l] I (.roI .u8 (serveB I l)) (serveI I l) := by
  refine FrzB.rm rfl (trF g92 b92 c92 ?_)
  conv => whnf
  have hlen : 0 < l.length := by
    cases l with
    | nil => exact absurd rfl h0
    | cons a t => simp
  refine condN (by simp; omega) ?_
  conv => whnf
  refine condT (by simp; omega) ?_
  conv => whnf
  rw [show l.getD (Int.toNat 0) 0 = 3 from hf]
  refine Ev.call (rknown_ev 3) ?_
  conv => whnf
  have hO := rOpen_ev l hl
  rw [dec_same l hB hl] at hO
  have hS : serveB I l = (if (decS l).2 = 0 then (if thereB (decS l).1.f (decS l).1.a (decS l).1.n (decS l).1.a2 (decS l).1.b (decS l).1.r then doesB I (decS l).1.f (decS l).1.a (decS l).1.n (decS l).1.a2 (decS l).1.b (decS l).1.r else excB l 2) else excB l 3) := by
    unfold serveB; rw [if_neg h0, if_pos (by rw [hf]; rfl)]
  have hI : serveI I l = (if (decS l).2 = 0 then (if thereB (decS l).1.f (decS l).1.a (decS l).1.n (decS l).1.a2 (decS l).1.b (decS l).1.r then doesI I (decS l).1.f (decS l).1.a (decS l).1.n (decS l).1.a2 (decS l).1.b (decS l).1.r else I) else I) := by
    unfold serveI; rw [if_neg h0, if_pos (by rw [hf]; rfl)]
  have hq := decS_ok l hl
  have h5 := dec5 l
  generalize decS l = d at *
  obtain ⟨⟨f, a, n, a2, b, r⟩, e⟩ := d
  have hO : Ev Try.prog 54 [.roI .u8 l] (.tup [reqA f a n a2 (.roB b) (.roI .u16 r), .int .i64 e]) := hO
  refine Ev.call hO ?_
  clear hO
  conv => whnf
  by_cases he : e ≠ 0
  · rw [if_neg he] at hS hI
    refine condY (by simp [he]) ?_
    conv => whnf
    refine Ev.call (rexc_ev l 3) ?_
    conv => whnf
    rw [hS, hI]
    exact FrzB.le (Le.refl _) rfl
  have he : e = 0 := by simpa using he
  obtain ⟨hf', hQ⟩ := hq he
  have hf' : f = l.getD 0 0 := hf'
  have hQ2 : OkQ f a n a2 b r := hQ
  clear hQ
  rw [hf] at hf'
  subst hf'
  have h5 := h5 he
  subst he
  rw [if_pos rfl] at hS hI
  have hS2 : serveB I l = (if thereB 3 a n a2 b r then doesB I 3 a n a2 b r else excB l 2) := hS
  have hI2 : serveI I l = (if thereB 3 a n a2 b r then doesI I 3 a n a2 b r else I) := hI
  clear hq
  obtain ⟨ha, hn, ha2, hb, hr, hx, ok⟩ := hQ2
  have hx0 : ∀ x ∈ r, 0 ≤ x := fun x h => (hx x h).1
  rw [hS2, hI2]
  clear hS hI hS2 hI2
  conv => whnf
  have hk : encOk 3 n a2 b r = true := ok
  simp [encOk, withinB] at hk
  have hwa : IntKind.i64.wrap a = a := w64i (by omega) (by omega)
  have hw : IntKind.i64.wrap (a + n) = a + n := w64i (by omega) (by omega)
  have hT : thereB 3 a n a2 b r = !decide (a + n > szF 3) := by
    rw [← hasB_eq 3 a n rfl ha.1 (by omega)]; rfl
  rw [hT]
  refine Ev.call (rsizeF_ev 3) ?_
  conv => whnf
  have hM : (if (r.length : Int) > if (b.length : Int) > IntKind.i64.wrap n then (b.length : Int) else IntKind.i64.wrap n then (r.length : Int) else if (b.length : Int) > IntKind.i64.wrap n then (b.length : Int) else IntKind.i64.wrap n) = n := by
    have hwn : IntKind.i64.wrap n = n := w64i (by omega) (by omega)
    rw [hwn]
    simp [hk]
    try (first | omega | (intro h; simp [h]))
  rw [hM]
  rw [hwa, hw]
  refine ⟨rfl, ?_⟩
  conv => whnf
  by_cases hh : decide (a + n > szF 3) = true
  · have hc : ¬ ((!decide (a + n > szF 3)) = true) := by rw [hh]; simp
    rw [if_neg hc, if_neg hc]
    refine condY hh ?_
    conv => whnf
    refine Ev.call (rexc_ev l 2) ?_
    conv => whnf
    exact FrzB.le (Le.refl _) rfl
  have hh' : decide (a + n > szF 3) = false := by simpa using hh
  have hc : (!decide (a + n > szF 3)) = true := by rw [hh']; rfl
  rw [if_pos hc, if_pos hc]
  refine condN hh' ?_
  conv => whnf
  rw [hwa]
  obtain ⟨⟨⟨hn', rfl⟩, rfl⟩, rfl⟩ := hk
  refine loopI (α := Unit) (fun _ => [(0, .ptr 0 0), (5, .int .u8 3), (6, .ptr 1 0), (8, .int .i64 n), (9, .ptr 2 0), (10, .int .i64 a), (12, .int .i64 0)])
      (fun _ => ⟨3, [(0, some (rmC I)), (1, some (.obj [.int .u8 3, .int .u16 a, .int .u16 n, .int .u16 0, .roB [], .roI .u16 []])), (2, some (.obj [.int .u8 3, .int .u8 0, .int .u16 0, .int .u16 0, .nils, .nils]))]⟩) (fun _ => 0) ()
      ⟨[], rfl, rfl, rfl, ⟨⟨rfl, rfl⟩, ⟨rfl, rfl⟩, ⟨rfl, rfl⟩, ⟨rfl, rfl⟩, ⟨rfl, rfl⟩, ⟨rfl, rfl⟩, ⟨rfl, rfl⟩, trivial⟩, ⟨⟨trivial, rfl, rfl⟩, ⟨rfl, rfl, rfl⟩, ⟨rfl, rfl, rfl⟩, trivial⟩⟩ fun _ => ?_
  conv => whnf
  refine loopI (α := {i : Nat // i ≤ n.toNat}) (fun i => [(0, .ptr 0 0), (5, .int .u8 3), (8, .int .i64 n), (9, .ptr 2 0), (10, .int .i64 a), (13, .int .i64 i.1)])
      (fun i => ⟨4, [(3, some (.rowI .u16 (tgs I.o 3 a i.1))), (0, some (rmC I)), (2, some (.obj [.int .u8 3, .int .u8 0, .int .u16 0, .int .u16 0, .nils, .sl 1 3 0 i.1]))]⟩) (fun i => n.toNat - i.1) ⟨0, Nat.zero_le _⟩
      ⟨[(3, none)], rfl, rfl, rfl, ⟨⟨rfl, rfl⟩, ⟨rfl, rfl⟩, ⟨rfl, rfl⟩, ⟨rfl, rfl⟩, ⟨rfl, rfl⟩, ⟨rfl, rfl⟩, trivial⟩, ⟨⟨trivial, rfl, rfl⟩, ⟨trivial, rfl, rfl⟩, ⟨rfl, rfl, rfl⟩, trivial⟩⟩ fun ⟨i, hi⟩ => ?_
  conv => whnf
  by_cases hlt : i < n.toNat
  · have hl : (tgs I.o 3 a i).length = i := by simp [tgs_length]
    refine condY (by simp; omega) ?_
    conv => whnf
    rw [show IntKind.i64.wrap (a + ((i : Nat) : Int)) = a + i from w64i (by omega) (by omega)]
    refine blkCall (rget_tr I 3 (a + i) (by omega) (by omega)) rfl rfl rfl ?_
    conv => whnf
    refine ⟨rfl, ?_⟩
    conv => whnf
    refine condT (by simp [tgs_length]; omega) ?_
    conv => whnf
    refine ⟨⟨i + 1, hlt⟩, ⟨[(3, some 5)], rfl, rfl, rfl, ⟨⟨rfl, rfl⟩, ⟨rfl, rfl⟩, ⟨rfl, rfl⟩, ⟨rfl, rfl⟩, ⟨rfl, rfl⟩, ⟨?_, rfl⟩, trivial⟩, ⟨⟨trivial, rfl, ?_⟩, ⟨trivial, rfl, rfl⟩, ⟨rfl, rfl, rfl⟩, trivial⟩⟩, by show n.toNat - (i + 1) < n.toNat - i; omega⟩
    · show AV.int .i64 (IntKind.i64.wrap ((i : Int) + 1)) = AV.int .i64 ((i + 1 : Nat) : Int)
      rw [s64 (by omega)]
    · show some (Chunk.rowI .u16 (((tgs I.o 3 a i).drop 0).take i ++ ([tg I.o 3 (a + i)].drop 0).take 1)) = some (Chunk.rowI .u16 (tgs I.o 3 a (i + 1)))
      rw [tgs_succ, List.drop_zero]
      conv => lhs; rw [List.take_of_length_le (by omega)]
      rfl
  · obtain rfl : i = n.toNat := by omega
    refine condN (by simp; omega) ?_
    conv => whnf
    refine lend1 (h := 3) (n := 0) (v := .nils) rfl (frz_repI 3 3 0 0 0 _ _ (by simp [tgs_length])) ?_
    refine Tr.le (leRepZ Le.nilB (Le.refl _)) (Ev.call (rReply_ev 3 0 0 0 [] (tgs I.o 3 a n.toNat) (by omega) (by omega) (by simp) (by simp [tgs_length]; omega)) ?_)
    conv => whnf
    exact FrzB.le (Le.refl _) rfl
set_option maxRecDepth 20000 in
theorem rs4_tr (I : Img) (l : List Int) (hl : l.length ≤ 1000) (hB : isB l) (h0 : l ≠ []) (hf : l.getD 0 0 = 4) : RmT 92 [.ptr 0 0, .roI .u8 l] I (.roI .u8 (serveB I l)) (serveI I l) := by
  refine FrzB.rm rfl (trF g92 b92 c92 ?_)
  conv => whnf
  have hlen : 0 < l.length := by
    cases l with
    | nil => exact absurd rfl h0
    | cons a t => simp
  refine condN (by simp; omega) ?_
  conv => whnf
  refine condT (by simp; omega) ?_
  conv => whnf
  rw [show l.getD (Int.toNat 0) 0 = 4 from hf]
  refine Ev.call (rknown_ev 4) ?_
  conv => whnf
  have hO := rOpen_ev l hl
  rw [dec_same l hB hl] at hO
  have hS : serveB I l = (if (decS l).2 = 0 then (if thereB (decS l).1.f (decS l).1.a (decS l).1.n (decS l).1.a2 (decS l).1.b (decS l).1.r then doesB I (decS l).1.f (decS l).1.a (decS l).1.n (decS l).1.a2 (decS l).1.b (decS l).1.r else excB l 2) else excB l 3) := by
    unfold serveB; rw [if_neg h0, if_pos (by rw [hf]; rfl)]
  have hI : serveI I l = (if (decS l).2 = 0 then (if thereB (decS l).1.f (decS l).1.a (decS l).1.n (decS l).1.a2 (decS l).1.b (decS l).1.r then doesI I (decS l).1.f (decS l).1.a (decS l).1.n (decS l).1.a2 (decS l).1.b (decS l).1.r else I) else I) := by
    unfold serveI; rw [if_neg h0, if_pos (by rw [hf]; rfl)]
  have hq := decS_ok l hl
  have h5 := dec5 l
  generalize decS l = d at *
  obtain ⟨⟨f, a, n, a2, b, r⟩, e⟩ := d
  have hO : Ev Try.prog 54 [.roI .u8 l] (.tup [reqA f a n a2 (.roB b) (.roI .u16 r), .int .i64 e]) := hO
  refine Ev.call hO ?_
  clear hO
  conv => whnf
  by_cases he : e ≠ 0
  · rw [if_neg he] at hS hI
    refine condY (by simp [he]) ?_
    conv => whnf
    refine Ev.call (rexc_ev l 3) ?_
    conv => whnf
    rw [hS, hI]
    exact FrzB.le (Le.refl _) rfl
  have he : e = 0 := by simpa using he
  obtain ⟨hf', hQ⟩ := hq he
  have hf' : f = l.getD 0 0 := hf'
  have hQ2 : OkQ f a n a2 b r := hQ
  clear hQ
  rw [hf] at hf'
  subst hf'
  have h5 := h5 he
  subst he
  rw [if_pos rfl] at hS hI
  have hS2 : serveB I l = (if thereB 4 a n a2 b r then doesB I 4 a n a2 b r else excB l 2) := hS
  have hI2 : serveI I l = (if thereB 4 a n a2 b r then doesI I 4 a n a2 b r else I) := hI
  clear hq
  obtain ⟨ha, hn, ha2, hb, hr, hx, ok⟩ := hQ2
  have hx0 : ∀ x ∈ r, 0 ≤ x := fun x h => (hx x h).1
  rw [hS2, hI2]
  clear hS hI hS2 hI2
  conv => whnf
  have hk : encOk 4 n a2 b r = true := ok
  simp [encOk, withinB] at hk
  have hwa : IntKind.i64.wrap a = a := w64i (by omega) (by omega)
  have hw : IntKind.i64.wrap (a + n) = a + n := w64i (by omega) (by omega)
  have hT : thereB 4 a n a2 b r = !decide (a + n > szF 4) := by
    rw [← hasB_eq 4 a n rfl ha.1 (by omega)]; rfl
  rw [hT]
  refine Ev.call (rsizeF_ev 4) ?_
  conv => whnf
  have hM : (if (r.length : Int) > if (b.length : Int) > IntKind.i64.wrap n then (b.length : Int) else IntKind.i64.wrap n then (r.length : Int) else if (b.length : Int) > IntKind.i64.wrap n then (b.length : Int) else IntKind.i64.wrap n) = n := by
    have hwn : IntKind.i64.wrap n = n := w64i (by omega) (by omega)
    rw [hwn]
    simp [hk]
    try (first | omega | (intro h; simp [h]))
  rw [hM]
  rw [hwa, hw]
  refine ⟨rfl, ?_⟩
  conv => whnf
  by_cases hh : decide (a + n > szF 4) = true
  · have hc : ¬ ((!decide (a + n > szF 4)) = true) := by rw [hh]; simp
    rw [if_neg hc, if_neg hc]
    refine condY hh ?_
    conv => whnf
    refine Ev.call (rexc_ev l 2) ?_
    conv => whnf
    exact FrzB.le (Le.refl _) rfl
  have hh' : decide (a + n > szF 4) = false := by simpa using hh
  have hc : (!decide (a + n > szF 4)) = true := by rw [hh']; rfl
  rw [if_pos hc, if_pos hc]
  refine condN hh' ?_
  conv => whnf
  rw [hwa]
  obtain ⟨⟨⟨hn', rfl⟩, rfl⟩, rfl⟩ := hk
  refine loopI (α := Unit) (fun _ => [(0, .ptr 0 0), (5, .int .u8 4), (6, .ptr 1 0), (8, .int .i64 n), (9, .ptr 2 0), (10, .int .i64 a), (12, .int .i64 0)])
      (fun _ => ⟨3, [(0, some (rmC I)), (1, some (.obj [.int .u8 4, .int .u16 a, .int .u16 n, .int .u16 0, .roB [], .roI .u16 []])), (2, some (.obj [.int .u8 4, .int .u8 0, .int .u16 0, .int .u16 0, .nils, .nils]))]⟩) (fun _ => 0) ()
      ⟨[], rfl, rfl, rfl, ⟨⟨rfl, rfl⟩, ⟨rfl, rfl⟩, ⟨rfl, rfl⟩, ⟨rfl, rfl⟩, ⟨rfl, rfl⟩, ⟨rfl, rfl⟩, ⟨rfl, rfl⟩, trivial⟩, ⟨⟨trivial, rfl, rfl⟩, ⟨rfl, rfl, rfl⟩, ⟨rfl, rfl, rfl⟩, trivial⟩⟩ fun _ => ?_
  conv => whnf
  refine loopI (α := {i : Nat // i ≤ n.toNat}) (fun i => [(0, .ptr 0 0), (5, .int .u8 4), (8, .int .i64 n), (9, .ptr 2 0), (10, .int .i64 a), (13, .int .i64 i.1)])
      (fun i => ⟨4, [(3, some (.rowI .u16 (tgs I.o 4 a i.1))), (0, some (rmC I)), (2, some (.obj [.int .u8 4, .int .u8 0, .int .u16 0, .int .u16 0, .nils, .sl 1 3 0 i.1]))]⟩) (fun i => n.toNat - i.1) ⟨0, Nat.zero_le _⟩
      ⟨[(3, none)], rfl, rfl, rfl, ⟨⟨rfl, rfl⟩, ⟨rfl, rfl⟩, ⟨rfl, rfl⟩, ⟨rfl, rfl⟩, ⟨rfl, rfl⟩, ⟨rfl, rfl⟩, trivial⟩, ⟨⟨trivial, rfl, rfl⟩, ⟨trivial, rfl, rfl⟩, ⟨rfl, rfl, rfl⟩, trivial⟩⟩ fun ⟨i, hi⟩ => ?_
  conv => whnf
  by_cases hlt : i < n.toNat
  · have hl : (tgs I.o 4 a i).length = i := by simp [tgs_length]
    refine condY (by simp; omega) ?_
    conv => whnf
    rw [show IntKind.i64.wrap (a + ((i : Nat) : Int)) = a + i from w64i (by omega) (by omega)]
    refine blkCall (rget_tr I 4 (a + i) (by omega) (by omega)) rfl rfl rfl ?_
    conv => whnf
    refine ⟨rfl, ?_⟩
    conv => whnf
    refine condT (by simp [tgs_length]; omega) ?_
    conv => whnf
    refine ⟨⟨i + 1, hlt⟩, ⟨[(3, some 5)], rfl, rfl, rfl, ⟨⟨rfl, rfl⟩, ⟨rfl, rfl⟩, ⟨rfl, rfl⟩, ⟨rfl, rfl⟩, ⟨rfl, rfl⟩, ⟨?_, rfl⟩, trivial⟩, ⟨⟨trivial, rfl, ?_⟩, ⟨trivial, rfl, rfl⟩, ⟨rfl, rfl, rfl⟩, trivial⟩⟩, by show n.toNat - (i + 1) < n.toNat - i; omega⟩
    · show AV.int .i64 (IntKind.i64.wrap ((i : Int) + 1)) = AV.int .i64 ((i + 1 : Nat) : Int)
      rw [s64 (by omega)]
    · show some (Chunk.rowI .u16 (((tgs I.o 4 a i).drop 0).take i ++ ([tg I.o 4 (a + i)].drop 0).take 1)) = some (Chunk.rowI .u16 (tgs I.o 4 a (i + 1)))
      rw [tgs_succ, List.drop_zero]
      conv => lhs; rw [List.take_of_length_le (by omega)]
      rfl
  · obtain rfl : i = n.toNat := by omega
    refine condN (by simp; omega) ?_
    conv => whnf
    refine lend1 (h := 3) (n := 0) (v := .nils) rfl (frz_repI 3 4 0 0 0 _ _ (by simp [tgs_length])) ?_
    refine Tr.le (leRepZ Le.nilB (Le.refl _)) (Ev.call (rReply_ev 4 0 0 0 [] (tgs I.o 4 a n.toNat) (by omega) (by omega) (by simp) (by simp [tgs_length]; omega)) ?_)
    conv => whnf
    exact FrzB.le (Le.refl _) rfl
theorem rServe_tr (I : Img) (l : List Int) (hl : l.length ≤ 1000) (hB : isB l) : RmT 92 [.ptr 0 0, .roI .u8 l] I (.roI .u8 (serveB I l)) (serveI I l) := by
  by_cases h0 : l = []
  · subst h0
    refine FrzB.rm rfl (trF g92 b92 c92 ?_)
    conv => whnf
    exact FrzB.le (Le.nilI _) rfl
  by_cases hk : knownB (l.getD 0 0) = true
  · have hk' := hk
    simp only [knownB, Bool.or_eq_true, beq_iff_eq] at hk'
    rcases hk' with ((((((((h | h) | h) | h) | h) | h) | h) | h) | h) | h
    · exact rs1_tr I l hl hB h0 h
    · exact rs2_tr I l hl hB h0 h
    · exact rs3_tr I l hl hB h0 h
    · exact rs4_tr I l hl hB h0 h
    · exact rs5_tr I l hl hB h0 h
    · exact rs6_tr I l hl hB h0 h
    · exact rs15_tr I l hl hB h0 h
    · exact rs16_tr I l hl hB h0 h
    · exact rs22_tr I l hl hB h0 h
    · exact rs23_tr I l hl hB h0 h
  · have hk' : knownB (l.getD 0 0) = false := by simpa using hk
    have hS : serveB I l = excB l 1 := by unfold serveB; rw [if_neg h0, if_neg hk]
    have hI : serveI I l = I := by unfold serveI; rw [if_neg h0, if_neg hk]
    rw [hS, hI]
    refine FrzB.rm rfl (trF g92 b92 c92 ?_)
    conv => whnf
    have hlen : 0 < l.length := by
      cases l with
      | nil => exact absurd rfl h0
      | cons a t => simp
    refine condN (by simp; omega) ?_
    conv => whnf
    refine condT (by simp; omega) ?_
    conv => whnf
    refine Ev.call (rknown_ev (l.getD 0 0)) ?_
    conv => whnf
    refine condY (by show (!knownB (l.getD 0 0)) = true; rw [hk']; rfl) ?_
    conv => whnf
    refine Ev.call (rexc_ev l 1) ?_
    conv => whnf
    exact FrzB.le (Le.refl _) rfl
end Go.Proofs.Ytomodeliimnddaa
set_option linter.unusedVariables false
set_option linter.unusedSimpArgs false
namespace Go.Proofs.Ytomodeliimnddaa
open Go.Ab
/- rung/runglaw11.known -/
def a26 : ACode := (.seq (.reg [⟨(some 0), .mov (.c (.bool false)), none, false⟩])
 (.seq (.reg [⟨(some 10), .call 27 [], none, false⟩, ⟨(some 1), .mov (.t 10), none, false⟩])
 (.seq (.seq (.reg [⟨(some 11), .mov (.t 1), none, false⟩, ⟨(some 12), .bin .eql .ptr (.t 11) (.c .nilp), none, false⟩])
 (.cond (.t 12) (.seq (.reg [⟨(some 0), .mov (.c (.bool false)), none, false⟩])
 .ret)
 .skip))
 (.seq (.reg [⟨(some 13), .mov (.t 1), none, false⟩, ⟨(some 14), .call 29 [(.t 13), (.c (.int .i64 1)), (.c (.int .i64 0)), (.c (.int .u16 7))], none, false⟩, ⟨(some 2), .mov (.t 14), none, false⟩])
 (.seq (.reg [⟨(some 15), .mov (.t 1), none, false⟩, ⟨(some 16), .call 31 [(.t 15)], none, false⟩])
 (.seq (.reg [⟨(some 18), .mov (.t 1), none, false⟩, ⟨(some 19), .call 96 [(.t 18), (.c (.int .i64 1)), (.c (.int .i64 0))], none, false⟩, ⟨(some 17), .mov (.t 19), none, false⟩, ⟨(some 20), .ext (.t 17) 0, none, false⟩, ⟨(some 21), .ext (.t 17) 1, none, false⟩, ⟨(some 3), .mov (.t 20), none, false⟩, ⟨(some 4), .mov (.t 21), none, false⟩])
 (.seq (.reg [⟨(some 22), .mov (.t 1), none, false⟩, ⟨(some 23), .call 33 [(.t 22), (.c (.int .i64 2)), (.c (.int .i64 0)), (.c (.int .u16 1))], none, false⟩])
 (.seq (.reg [⟨(some 25), .mov (.t 1), none, false⟩, ⟨(some 26), .call 44 [(.t 25), (.c (.int .i64 2)), (.c (.int .i64 0))], none, false⟩, ⟨(some 24), .mov (.t 26), none, false⟩, ⟨(some 27), .ext (.t 24) 0, none, false⟩, ⟨(some 28), .ext (.t 24) 1, none, false⟩, ⟨(some 5), .mov (.t 27), none, false⟩, ⟨(some 6), .mov (.t 28), none, false⟩])
 (.seq (.reg [⟨(some 29), .mov (.t 1), none, false⟩, ⟨(some 30), .call 38 [(.t 29)], none, false⟩])
 (.seq (.reg [⟨(some 32), .mov (.t 1), none, false⟩, ⟨(some 33), .call 44 [(.t 32), (.c (.int .i64 2)), (.c (.int .i64 0))], none, false⟩, ⟨(some 31), .mov (.t 33), none, false⟩, ⟨(some 34), .ext (.t 31) 0, none, false⟩, ⟨(some 35), .ext (.t 31) 1, none, false⟩, ⟨(some 7), .mov (.t 34), none, false⟩, ⟨(some 8), .mov (.t 35), none, false⟩])
 (.seq (.reg [⟨(some 36), .mov (.t 1), none, false⟩, ⟨(some 37), .call 29 [(.t 36), (.c (.int .i64 7)), (.c (.int .i64 0)), (.c (.int .u16 1))], none, false⟩, ⟨(some 9), .mov (.t 37), none, false⟩])
 (.seq (.reg [⟨(some 38), .mov (.t 2), none, false⟩, ⟨(some 39), .bin .eql .other (.t 38) (.c (.int .i64 0)), none, false⟩, ⟨(some 40), .mov (.t 39), none, true⟩, ⟨(some 41), .mov (.t 3), (some (40, true)), false⟩, ⟨(some 42), .bin .eql .other (.t 41) (.c (.int .u16 1)), (some (40, true)), false⟩, ⟨(some 43), .pick (.t 40) (.t 42) (.c (.bool false)), none, false⟩, ⟨(some 44), .mov (.t 43), none, true⟩, ⟨(some 45), .mov (.t 5), (some (44, true)), false⟩, ⟨(some 46), .bin .eql .other (.t 45) (.c (.int .u16 0)), (some (44, true)), false⟩, ⟨(some 47), .pick (.t 44) (.t 46) (.c (.bool false)), none, false⟩, ⟨(some 48), .mov (.t 47), none, true⟩, ⟨(some 49), .mov (.t 7), (some (48, true)), false⟩, ⟨(some 50), .bin .eql .other (.t 49) (.c (.int .u16 1)), (some (48, true)), false⟩, ⟨(some 51), .pick (.t 48) (.t 50) (.c (.bool false)), none, false⟩, ⟨(some 52), .mov (.t 51), none, true⟩, ⟨(some 53), .mov (.t 1), (some (52, true)), false⟩, ⟨(some 54), .call 97 [(.t 53)], (some (52, true)), false⟩, ⟨(some 55), .bin .eql .other (.t 54) (.c (.int .u64 1)), (some (52, true)), false⟩, ⟨(some 56), .pick (.t 52) (.t 55) (.c (.bool false)), none, false⟩, ⟨(some 57), .mov (.t 56), none, true⟩, ⟨(some 58), .mov (.t 9), (some (57, true)), false⟩, ⟨(some 59), .bin .eql .other (.t 58) (.c (.int .i64 110)), (some (57, true)), false⟩, ⟨(some 60), .pick (.t 57) (.t 59) (.c (.bool false)), none, false⟩, ⟨(some 61), .mov (.t 60), none, true⟩, ⟨(some 62), .mov (.t 1), (some (61, true)), false⟩, ⟨(some 63), .call 36 [(.t 62), (.c (.int .i64 4))], (some (61, true)), false⟩, ⟨(some 64), .len false (.t 63), (some (61, true)), false⟩, ⟨(some 65), .bin .eql .other (.t 64) (.c (.int .i64 64)), (some (61, true)), false⟩, ⟨(some 66), .pick (.t 61) (.t 65) (.c (.bool false)), none, false⟩, ⟨(some 0), .mov (.t 66), none, false⟩])
 .ret))))))))))))
def r26 : List ARes := [.t 0]
theorem c26 : compF Try.prog Try.f26 = some (a26, r26) := by kernel_rfl

theorem b26 : hasBody Try.prog 26 = true := by kernel_rfl
theorem g26 : Try.prog.funcs[26]? = some Try.f26 := by kernel_rfl
/- rung/runglaw11.ImageHides -/
def a3 : ACode := (.seq (.reg [⟨(some 4), .mov (.c (.bool false)), none, false⟩])
 (.seq (.seq (.reg [⟨(some 12), .call 26 [], none, false⟩, ⟨(some 13), .un .not (.t 12), none, false⟩])
 (.cond (.t 13) (.seq (.reg [⟨(some 4), .mov (.c (.bool false)), none, false⟩])
 .ret)
 .skip))
 (.seq (.seq (.reg [⟨(some 14), .mov (.t 0), none, false⟩, ⟨(some 15), .len false (.t 14), none, false⟩, ⟨(some 16), .bin .gtr .other (.t 15) (.c (.int .i64 200)), none, false⟩, ⟨(some 17), .mov (.t 16), none, true⟩, ⟨(some 18), .mov (.t 1), (some (17, false)), false⟩, ⟨(some 19), .len false (.t 18), (some (17, false)), false⟩, ⟨(some 20), .bin .gtr .other (.t 19) (.c (.int .i64 200)), (some (17, false)), false⟩, ⟨(some 21), .pick (.t 17) (.c (.bool true)) (.t 20), none, false⟩])
 (.cond (.t 21) (.seq (.reg [⟨(some 4), .mov (.c (.bool true)), none, false⟩])
 .ret)
 .skip))
 (.seq (.reg [⟨(some 22), .call 27 [], none, false⟩, ⟨(some 23), .call 28 [], none, false⟩, ⟨(some 5), .mov (.t 22), none, false⟩, ⟨(some 6), .mov (.t 23), none, false⟩])
 (.seq (.seq (.reg [⟨(some 7), .mov (.c (.int .i64 0)), none, false⟩])
 (.block 0 (.loop (.seq (.seq (.reg [⟨(some 24), .mov (.t 7), none, false⟩, ⟨(some 25), .mov (.t 0), none, false⟩, ⟨(some 26), .len false (.t 25), none, false⟩, ⟨(some 27), .bin .lss .other (.t 24) (.t 26), none, false⟩])
 (.cond (.t 27) .skip
 (.exit 0)))
 (.seq (.block 1 (.seq (.draw [⟨0, ⟨(some 30), .mov (.t 5), none, false⟩, false, [], []⟩, ⟨1, ⟨(some 31), .mov (.t 0), none, false⟩, false, [], []⟩, ⟨2, ⟨(some 32), .mov (.t 7), none, false⟩, false, [], []⟩, ⟨3, ⟨(some 33), .idx 4 none true (.t 31) (.t 32), none, false⟩, false, [], []⟩, ⟨4, ⟨(some 34), .fld 1 1 false (.t 33), none, false⟩, false, [], []⟩, ⟨5, ⟨(some 35), .load false 1 (.t 34), none, false⟩, false, [], []⟩, ⟨6, ⟨(some 36), .mov (.t 0), none, false⟩, false, [], []⟩, ⟨7, ⟨(some 37), .mov (.t 7), none, false⟩, false, [], []⟩, ⟨8, ⟨(some 38), .idx 4 none true (.t 36) (.t 37), none, false⟩, false, [], []⟩, ⟨9, ⟨(some 39), .fld 2 1 false (.t 38), none, false⟩, false, [], []⟩, ⟨10, ⟨(some 40), .load false 1 (.t 39), none, false⟩, false, [], []⟩, ⟨11, ⟨(some 41), .mov (.t 0), none, false⟩, false, [], []⟩, ⟨12, ⟨(some 42), .mov (.t 7), none, false⟩, false, [], []⟩, ⟨13, ⟨(some 43), .idx 4 none true (.t 41) (.t 42), none, false⟩, false, [], []⟩, ⟨14, ⟨(some 44), .fld 3 1 false (.t 43), none, false⟩, false, [], []⟩, ⟨15, ⟨(some 45), .load false 1 (.t 44), none, false⟩, false, [], []⟩, ⟨16, ⟨(some 46), .call 29 [(.t 30), (.t 35), (.t 40), (.t 45)], none, false⟩, true, [], []⟩])
 (.draw [⟨0, ⟨(some 47), .mov (.t 6), none, false⟩, false, [], []⟩, ⟨1, ⟨(some 48), .mov (.t 0), none, false⟩, false, [], []⟩, ⟨2, ⟨(some 49), .mov (.t 7), none, false⟩, false, [], []⟩, ⟨3, ⟨(some 50), .idx 4 none true (.t 48) (.t 49), none, false⟩, false, [], []⟩, ⟨4, ⟨(some 51), .fld 1 1 false (.t 50), none, false⟩, false, [], []⟩, ⟨5, ⟨(some 52), .load false 1 (.t 51), none, false⟩, false, [], []⟩, ⟨6, ⟨(some 53), .mov (.t 0), none, false⟩, false, [], []⟩, ⟨7, ⟨(some 54), .mov (.t 7), none, false⟩, false, [], []⟩, ⟨8, ⟨(some 55), .idx 4 none true (.t 53) (.t 54), none, false⟩, false, [], []⟩, ⟨9, ⟨(some 56), .fld 2 1 false (.t 55), none, false⟩, false, [], []⟩, ⟨10, ⟨(some 57), .load false 1 (.t 56), none, false⟩, false, [], []⟩, ⟨11, ⟨(some 58), .mov (.t 0), none, false⟩, false, [], []⟩, ⟨12, ⟨(some 59), .mov (.t 7), none, false⟩, false, [], []⟩, ⟨13, ⟨(some 60), .idx 4 none true (.t 58) (.t 59), none, false⟩, false, [], []⟩, ⟨14, ⟨(some 61), .fld 3 1 false (.t 60), none, false⟩, false, [], []⟩, ⟨15, ⟨(some 62), .load false 1 (.t 61), none, false⟩, false, [], []⟩, ⟨16, ⟨(some 63), .call 30 [(.t 47), (.t 52), (.t 57), (.t 62)], none, false⟩, true, [], []⟩])))
 (.reg [⟨(some 28), .mov (.t 7), none, false⟩, ⟨(some 29), .bin .add .other (.t 28) (.c (.int .i64 1)), none, false⟩, ⟨(some 7), .mov (.t 29), none, false⟩]))))))
 (.seq (.reg [⟨(some 64), .mov (.t 5), none, false⟩, ⟨(some 65), .call 31 [(.t 64)], none, false⟩])
 (.seq (.reg [⟨(some 66), .mov (.t 6), none, false⟩, ⟨(some 67), .call 32 [(.t 66)], none, false⟩])
 (.seq (.seq (.reg [⟨(some 8), .mov (.c (.int .i64 0)), none, false⟩])
 (.block 2 (.loop (.seq (.seq (.reg [⟨(some 68), .mov (.t 8), none, false⟩, ⟨(some 69), .mov (.t 1), none, false⟩, ⟨(some 70), .len false (.t 69), none, false⟩, ⟨(some 71), .bin .lss .other (.t 68) (.t 70), none, false⟩])
 (.cond (.t 71) .skip
 (.exit 2)))
 (.seq (.block 3 (.seq (.draw [⟨0, ⟨(some 74), .mov (.t 5), none, false⟩, false, [], []⟩, ⟨1, ⟨(some 75), .mov (.t 1), none, false⟩, false, [], []⟩, ⟨2, ⟨(some 76), .mov (.t 8), none, false⟩, false, [], []⟩, ⟨3, ⟨(some 77), .idx 4 none true (.t 75) (.t 76), none, false⟩, false, [], []⟩, ⟨4, ⟨(some 78), .fld 1 1 false (.t 77), none, false⟩, false, [], []⟩, ⟨5, ⟨(some 79), .load false 1 (.t 78), none, false⟩, false, [], []⟩, ⟨6, ⟨(some 80), .mov (.t 1), none, false⟩, false, [], []⟩, ⟨7, ⟨(some 81), .mov (.t 8), none, false⟩, false, [], []⟩, ⟨8, ⟨(some 82), .idx 4 none true (.t 80) (.t 81), none, false⟩, false, [], []⟩, ⟨9, ⟨(some 83), .fld 2 1 false (.t 82), none, false⟩, false, [], []⟩, ⟨10, ⟨(some 84), .load false 1 (.t 83), none, false⟩, false, [], []⟩, ⟨11, ⟨(some 85), .mov (.t 1), none, false⟩, false, [], []⟩, ⟨12, ⟨(some 86), .mov (.t 8), none, false⟩, false, [], []⟩, ⟨13, ⟨(some 87), .idx 4 none true (.t 85) (.t 86), none, false⟩, false, [], []⟩, ⟨14, ⟨(some 88), .fld 3 1 false (.t 87), none, false⟩, false, [], []⟩, ⟨15, ⟨(some 89), .load false 1 (.t 88), none, false⟩, false, [], []⟩, ⟨16, ⟨(some 90), .call 33 [(.t 74), (.t 79), (.t 84), (.t 89)], none, false⟩, true, [], []⟩])
 (.draw [⟨0, ⟨(some 91), .mov (.t 6), none, false⟩, false, [], []⟩, ⟨1, ⟨(some 92), .mov (.t 1), none, false⟩, false, [], []⟩, ⟨2, ⟨(some 93), .mov (.t 8), none, false⟩, false, [], []⟩, ⟨3, ⟨(some 94), .idx 4 none true (.t 92) (.t 93), none, false⟩, false, [], []⟩, ⟨4, ⟨(some 95), .fld 1 1 false (.t 94), none, false⟩, false, [], []⟩, ⟨5, ⟨(some 96), .load false 1 (.t 95), none, false⟩, false, [], []⟩, ⟨6, ⟨(some 97), .mov (.t 1), none, false⟩, false, [], []⟩, ⟨7, ⟨(some 98), .mov (.t 8), none, false⟩, false, [], []⟩, ⟨8, ⟨(some 99), .idx 4 none true (.t 97) (.t 98), none, false⟩, false, [], []⟩, ⟨9, ⟨(some 100), .fld 2 1 false (.t 99), none, false⟩, false, [], []⟩, ⟨10, ⟨(some 101), .load false 1 (.t 100), none, false⟩, false, [], []⟩, ⟨11, ⟨(some 102), .mov (.t 1), none, false⟩, false, [], []⟩, ⟨12, ⟨(some 103), .mov (.t 8), none, false⟩, false, [], []⟩, ⟨13, ⟨(some 104), .idx 4 none true (.t 102) (.t 103), none, false⟩, false, [], []⟩, ⟨14, ⟨(some 105), .fld 3 1 false (.t 104), none, false⟩, false, [], []⟩, ⟨15, ⟨(some 106), .load false 1 (.t 105), none, false⟩, false, [], []⟩, ⟨16, ⟨(some 107), .call 34 [(.t 91), (.t 96), (.t 101), (.t 106)], none, false⟩, true, [], []⟩])))
 (.reg [⟨(some 72), .mov (.t 8), none, false⟩, ⟨(some 73), .bin .add .other (.t 72) (.c (.int .i64 1)), none, false⟩, ⟨(some 8), .mov (.t 73), none, false⟩]))))))
 (.seq (.seq (.reg [⟨(some 9), .mov (.c (.int .i64 1)), none, false⟩])
 (.block 4 (.loop (.seq (.seq (.reg [⟨(some 108), .mov (.t 9), none, false⟩, ⟨(some 109), .bin .leq .other (.t 108) (.c (.int .i64 6)), none, false⟩])
 (.cond (.t 109) .skip
 (.exit 4)))
 (.seq (.block 5 (.seq (.reg [⟨(some 112), .mov (.t 5), none, false⟩, ⟨(some 113), .mov (.t 9), none, false⟩, ⟨(some 114), .call 36 [(.t 112), (.t 113)], none, false⟩, ⟨(some 115), .mov (.t 6), none, false⟩, ⟨(some 116), .mov (.t 9), none, false⟩, ⟨(some 117), .call 37 [(.t 115), (.t 116)], none, false⟩, ⟨(some 118), .call 35 [(.t 114), (.t 117)], none, false⟩, ⟨(some 119), .un .not (.t 118), none, false⟩])
 (.cond (.t 119) (.seq (.reg [⟨(some 4), .mov (.c (.bool false)), none, false⟩])
 .ret)
 .skip)))
 (.reg [⟨(some 110), .mov (.t 9), none, false⟩, ⟨(some 111), .bin .add .other (.t 110) (.c (.int .i64 1)), none, false⟩, ⟨(some 9), .mov (.t 111), none, false⟩]))))))
 (.seq (.reg [⟨(some 120), .mov (.t 5), none, false⟩, ⟨(some 121), .call 36 [(.t 120), (.c (.int .i64 1))], none, false⟩, ⟨(some 122), .mov (.t 5), none, false⟩, ⟨(some 123), .call 36 [(.t 122), (.c (.int .i64 4))], none, false⟩, ⟨(some 10), .mov (.t 121), none, false⟩, ⟨(some 11), .mov (.t 123), none, false⟩])
 (.seq (.reg [⟨(some 124), .mov (.t 5), none, false⟩, ⟨(some 125), .call 38 [(.t 124)], none, false⟩])
 (.seq (.reg [⟨(some 126), .mov (.t 6), none, false⟩, ⟨(some 127), .call 39 [(.t 126)], none, false⟩])
 (.seq (.reg [⟨(some 128), .mov (.t 5), none, false⟩, ⟨(some 129), .mov (.t 6), none, false⟩, ⟨(some 130), .call 40 [(.t 128), (.t 129)], none, false⟩, ⟨(some 131), .mov (.t 130), none, true⟩, ⟨(some 132), .mov (.t 5), (some (131, true)), false⟩, ⟨(some 133), .call 36 [(.t 132), (.c (.int .i64 1))], (some (131, true)), false⟩, ⟨(some 134), .mov (.t 10), (some (131, true)), false⟩, ⟨(some 135), .call 35 [(.t 133), (.t 134)], (some (131, true)), false⟩, ⟨(some 136), .pick (.t 131) (.t 135) (.c (.bool false)), none, false⟩, ⟨(some 137), .mov (.t 136), none, true⟩, ⟨(some 138), .mov (.t 5), (some (137, true)), false⟩, ⟨(some 139), .call 36 [(.t 138), (.c (.int .i64 4))], (some (137, true)), false⟩, ⟨(some 140), .mov (.t 11), (some (137, true)), false⟩, ⟨(some 141), .call 35 [(.t 139), (.t 140)], (some (137, true)), false⟩, ⟨(some 142), .pick (.t 137) (.t 141) (.c (.bool false)), none, false⟩, ⟨(some 4), .mov (.t 142), none, false⟩])
 .ret)))))))))))))
def r3 : List ARes := [.t 4]
theorem c3 : compF Try.prog Try.f3 = some (a3, r3) := by kernel_rfl

theorem b3 : hasBody Try.prog 3 = true := by kernel_rfl
theorem g3 : Try.prog.funcs[3]? = some Try.f3 := by kernel_rfl
/- rung/runglaw11.ImagePlays -/
def a4 : ACode := (.seq (.reg [⟨(some 2), .mov (.c (.bool false)), none, false⟩])
 (.seq (.seq (.reg [⟨(some 12), .call 26 [], none, false⟩, ⟨(some 13), .un .not (.t 12), none, false⟩])
 (.cond (.t 13) (.seq (.reg [⟨(some 2), .mov (.c (.bool false)), none, false⟩])
 .ret)
 .skip))
 (.seq (.seq (.reg [⟨(some 14), .mov (.t 0), none, false⟩, ⟨(some 15), .len false (.t 14), none, false⟩, ⟨(some 16), .bin .gtr .other (.t 15) (.c (.int .i64 300)), none, false⟩])
 (.cond (.t 16) (.seq (.reg [⟨(some 2), .mov (.c (.bool true)), none, false⟩])
 .ret)
 .skip))
 (.seq (.reg [⟨(some 17), .call 27 [], none, false⟩, ⟨(some 18), .call 28 [], none, false⟩, ⟨(some 3), .mov (.t 17), none, false⟩, ⟨(some 4), .mov (.t 18), none, false⟩])
 (.seq (.seq (.reg [⟨(some 5), .mov (.c (.int .i64 0)), none, false⟩])
 (.block 0 (.loop (.seq (.seq (.reg [⟨(some 19), .mov (.t 5), none, false⟩, ⟨(some 20), .mov (.t 0), none, false⟩, ⟨(some 21), .len false (.t 20), none, false⟩, ⟨(some 22), .bin .lss .other (.t 19) (.t 21), none, false⟩])
 (.cond (.t 22) .skip
 (.exit 0)))
 (.seq (.block 1 (.seq (.reg [⟨(some 25), .mov (.t 0), none, false⟩, ⟨(some 26), .mov (.t 5), none, false⟩, ⟨(some 27), .idx 4 none true (.t 25) (.t 26), none, false⟩, ⟨(some 28), .load true 4 (.t 27), none, false⟩, ⟨(some 6), .alloc [(3, (.int .i64 0)), (1, (.int .u16 0))], none, false⟩, ⟨none, .store 4 (.t 6) (.t 28), none, false⟩])
 (.seq (.seq (.reg [⟨(some 29), .fld 0 1 false (.t 6), none, false⟩, ⟨(some 30), .load false 1 (.t 29), none, false⟩])
 (.block 2 (.seq (.seq (.reg [⟨(some 32), .bin .eql .other (.t 30) (.c (.int .i64 0)), none, false⟩, ⟨(some 31), .mov (.t 32), none, false⟩])
 (.cond (.t 31) .skip
 (.reg [⟨(some 33), .bin .eql .other (.t 30) (.c (.int .i64 1)), none, false⟩, ⟨(some 31), .mov (.t 33), none, false⟩])))
 (.cond (.t 31) (.seq (.draw [⟨0, ⟨(some 34), .mov (.t 3), none, false⟩, false, [], []⟩, ⟨1, ⟨(some 35), .fld 1 1 false (.t 6), none, false⟩, false, [], []⟩, ⟨2, ⟨(some 36), .load false 1 (.t 35), none, false⟩, false, [], []⟩, ⟨3, ⟨(some 37), .fld 2 1 false (.t 6), none, false⟩, false, [], []⟩, ⟨4, ⟨(some 38), .load false 1 (.t 37), none, false⟩, false, [], []⟩, ⟨5, ⟨(some 39), .fld 3 1 false (.t 6), none, false⟩, false, [], []⟩, ⟨6, ⟨(some 40), .load false 1 (.t 39), none, false⟩, false, [], []⟩, ⟨8, ⟨(some 42), .mov (.t 4), none, false⟩, false, [], []⟩, ⟨9, ⟨(some 43), .fld 1 1 false (.t 6), none, false⟩, false, [], []⟩, ⟨10, ⟨(some 44), .load false 1 (.t 43), none, false⟩, false, [], []⟩, ⟨11, ⟨(some 45), .fld 2 1 false (.t 6), none, false⟩, false, [], []⟩, ⟨12, ⟨(some 46), .load false 1 (.t 45), none, false⟩, false, [], []⟩, ⟨13, ⟨(some 47), .fld 3 1 false (.t 6), none, false⟩, false, [], []⟩, ⟨14, ⟨(some 48), .load false 1 (.t 47), none, false⟩, false, [], []⟩, ⟨7, ⟨(some 41), .call 29 [(.t 34), (.t 36), (.t 38), (.t 40)], none, false⟩, true, [], [(.t 43), (.t 45), (.t 47)]⟩, ⟨15, ⟨(some 49), .call 30 [(.t 42), (.t 44), (.t 46), (.t 48)], none, false⟩, true, [], []⟩, ⟨16, ⟨(some 50), .bin .neq .other (.t 41) (.t 49), none, false⟩, false, [], []⟩])
 (.cond (.t 50) (.seq (.reg [⟨(some 2), .mov (.c (.bool false)), none, false⟩])
 .ret)
 .skip))
 (.seq (.seq (.reg [⟨(some 52), .bin .eql .other (.t 30) (.c (.int .i64 2)), none, false⟩, ⟨(some 51), .mov (.t 52), none, false⟩])
 (.cond (.t 51) .skip
 (.reg [⟨(some 53), .bin .eql .other (.t 30) (.c (.int .i64 3)), none, false⟩, ⟨(some 51), .mov (.t 53), none, false⟩])))
 (.cond (.t 51) (.seq (.draw [⟨0, ⟨(some 54), .mov (.t 3), none, false⟩, false, [], []⟩, ⟨1, ⟨(some 55), .fld 1 1 false (.t 6), none, false⟩, false, [], []⟩, ⟨2, ⟨(some 56), .load false 1 (.t 55), none, false⟩, false, [], []⟩, ⟨3, ⟨(some 57), .fld 2 1 false (.t 6), none, false⟩, false, [], []⟩, ⟨4, ⟨(some 58), .load false 1 (.t 57), none, false⟩, false, [], []⟩, ⟨5, ⟨(some 59), .fld 3 1 false (.t 6), none, false⟩, false, [], []⟩, ⟨6, ⟨(some 60), .load false 1 (.t 59), none, false⟩, false, [], []⟩, ⟨8, ⟨(some 62), .mov (.t 4), none, false⟩, false, [], []⟩, ⟨9, ⟨(some 63), .fld 1 1 false (.t 6), none, false⟩, false, [], []⟩, ⟨10, ⟨(some 64), .load false 1 (.t 63), none, false⟩, false, [], []⟩, ⟨11, ⟨(some 65), .fld 2 1 false (.t 6), none, false⟩, false, [], []⟩, ⟨12, ⟨(some 66), .load false 1 (.t 65), none, false⟩, false, [], []⟩, ⟨13, ⟨(some 67), .fld 3 1 false (.t 6), none, false⟩, false, [], []⟩, ⟨14, ⟨(some 68), .load false 1 (.t 67), none, false⟩, false, [], []⟩, ⟨7, ⟨(some 61), .call 33 [(.t 54), (.t 56), (.t 58), (.t 60)], none, false⟩, true, [], [(.t 63), (.t 65), (.t 67)]⟩, ⟨15, ⟨(some 69), .call 34 [(.t 62), (.t 64), (.t 66), (.t 68)], none, false⟩, true, [], []⟩, ⟨16, ⟨(some 70), .bin .neq .other (.t 61) (.t 69), none, false⟩, false, [], []⟩])
 (.cond (.t 70) (.seq (.reg [⟨(some 2), .mov (.c (.bool false)), none, false⟩])
 .ret)
 .skip))
 (.seq (.reg [⟨(some 72), .bin .eql .other (.t 30) (.c (.int .i64 4)), none, false⟩, ⟨(some 71), .mov (.t 72), none, false⟩])
 (.cond (.t 71) (.seq (.reg [⟨(some 73), .mov (.t 3), none, false⟩, ⟨(some 74), .call 31 [(.t 73)], none, false⟩])
 (.reg [⟨(some 75), .mov (.t 4), none, false⟩, ⟨(some 76), .call 32 [(.t 75)], none, false⟩]))
 (.seq (.reg [⟨(some 78), .bin .eql .other (.t 30) (.c (.int .i64 5)), none, false⟩, ⟨(some 77), .mov (.t 78), none, false⟩])
 (.cond (.t 77) (.seq (.reg [⟨(some 79), .mov (.t 3), none, false⟩, ⟨(some 80), .call 38 [(.t 79)], none, false⟩])
 (.reg [⟨(some 81), .mov (.t 4), none, false⟩, ⟨(some 82), .call 39 [(.t 81)], none, false⟩]))
 (.seq (.reg [⟨(some 84), .bin .eql .other (.t 30) (.c (.int .i64 6)), none, false⟩, ⟨(some 83), .mov (.t 84), none, false⟩])
 (.cond (.t 83) (.seq (.reg [⟨(some 85), .mov (.t 3), none, false⟩, ⟨(some 86), .call 41 [(.t 85)], none, false⟩])
 (.reg [⟨(some 87), .mov (.t 4), none, false⟩, ⟨(some 88), .call 32 [(.t 87)], none, false⟩]))
 (.seq (.reg [⟨(some 90), .bin .eql .other (.t 30) (.c (.int .i64 7)), none, false⟩, ⟨(some 89), .mov (.t 90), none, false⟩])
 (.cond (.t 89) (.seq (.reg [⟨(some 91), .mov (.t 3), none, false⟩, ⟨(some 92), .call 42 [(.t 91)], none, false⟩, ⟨(some 7), .mov (.t 92), none, false⟩])
 (.seq (.reg [⟨(some 93), .mov (.t 3), none, false⟩, ⟨(some 94), .call 29 [(.t 93), (.c (.int .i64 2)), (.c (.int .i64 5)), (.c (.int .u16 1))], none, false⟩])
 (.seq (.reg [⟨(some 95), .mov (.t 3), none, false⟩, ⟨(some 96), .call 38 [(.t 95)], none, false⟩])
 (.reg [⟨(some 97), .mov (.t 7), none, false⟩, ⟨(some 98), .mov (.t 4), none, false⟩, ⟨(some 99), .call 43 [(.t 98)], none, false⟩, ⟨(some 3), .mov (.t 97), none, false⟩, ⟨(some 4), .mov (.t 99), none, false⟩]))))
 .skip))))))))))))))
 (.seq (.reg [⟨(some 101), .mov (.t 3), none, false⟩, ⟨(some 102), .fld 1 1 false (.t 6), none, false⟩, ⟨(some 103), .load false 1 (.t 102), none, false⟩, ⟨(some 104), .fld 2 1 false (.t 6), none, false⟩, ⟨(some 105), .load false 1 (.t 104), none, false⟩, ⟨(some 106), .call 44 [(.t 101), (.t 103), (.t 105)], none, false⟩, ⟨(some 100), .mov (.t 106), none, false⟩, ⟨(some 107), .ext (.t 100) 0, none, false⟩, ⟨(some 108), .ext (.t 100) 1, none, false⟩, ⟨(some 8), .mov (.t 107), none, false⟩, ⟨(some 9), .mov (.t 108), none, false⟩])
 (.seq (.reg [⟨(some 110), .mov (.t 4), none, false⟩, ⟨(some 111), .fld 1 1 false (.t 6), none, false⟩, ⟨(some 112), .load false 1 (.t 111), none, false⟩, ⟨(some 113), .fld 2 1 false (.t 6), none, false⟩, ⟨(some 114), .load false 1 (.t 113), none, false⟩, ⟨(some 115), .call 45 [(.t 110), (.t 112), (.t 114)], none, false⟩, ⟨(some 109), .mov (.t 115), none, false⟩, ⟨(some 116), .ext (.t 109) 0, none, false⟩, ⟨(some 117), .ext (.t 109) 1, none, false⟩, ⟨(some 10), .mov (.t 116), none, false⟩, ⟨(some 11), .mov (.t 117), none, false⟩])
 (.seq (.reg [⟨(some 118), .mov (.t 8), none, false⟩, ⟨(some 119), .mov (.t 10), none, false⟩, ⟨(some 120), .bin .neq .other (.t 118) (.t 119), none, false⟩, ⟨(some 121), .mov (.t 120), none, true⟩, ⟨(some 122), .mov (.t 9), (some (121, false)), false⟩, ⟨(some 123), .mov (.t 11), (some (121, false)), false⟩, ⟨(some 124), .bin .neq .other (.t 122) (.t 123), (some (121, false)), false⟩, ⟨(some 125), .pick (.t 121) (.c (.bool true)) (.t 124), none, false⟩, ⟨(some 126), .mov (.t 125), none, true⟩, ⟨(some 127), .mov (.t 5), (some (126, false)), false⟩, ⟨(some 128), .bin .rem .other (.t 127) (.c (.int .i64 20)), (some (126, false)), false⟩, ⟨(some 129), .bin .eql .other (.t 128) (.c (.int .i64 19)), (some (126, false)), false⟩, ⟨(some 130), .mov (.t 129), (some (126, false)), true⟩, ⟨(some 131), .mov (.t 3), (some (130, true)), false⟩, ⟨(some 132), .mov (.t 4), (some (130, true)), false⟩, ⟨(some 133), .call 40 [(.t 131), (.t 132)], (some (130, true)), false⟩, ⟨(some 134), .un .not (.t 133), (some (130, true)), false⟩, ⟨(some 135), .pick (.t 130) (.t 134) (.c (.bool false)), (some (126, false)), false⟩, ⟨(some 136), .pick (.t 126) (.c (.bool true)) (.t 135), none, false⟩])
 (.cond (.t 136) (.seq (.reg [⟨(some 2), .mov (.c (.bool false)), none, false⟩])
 .ret)
 .skip)))))))
 (.reg [⟨(some 23), .mov (.t 5), none, false⟩, ⟨(some 24), .bin .add .other (.t 23) (.c (.int .i64 1)), none, false⟩, ⟨(some 5), .mov (.t 24), none, false⟩]))))))
 (.seq (.reg [⟨(some 137), .mov (.t 3), none, false⟩, ⟨(some 138), .mov (.t 4), none, false⟩, ⟨(some 139), .call 40 [(.t 137), (.t 138)], none, false⟩, ⟨(some 2), .mov (.t 139), none, false⟩])
 .ret))))))
def r4 : List ARes := [.t 2]
theorem c4 : compF Try.prog Try.f4 = some (a4, r4) := by kernel_rfl

theorem b4 : hasBody Try.prog 4 = true := by kernel_rfl
theorem g4 : Try.prog.funcs[4]? = some Try.f4 := by kernel_rfl

theorem newCall {f N : Nat} {k : Nat → IntKind} {g : Nat → Int} {s : St} {K : AV → St → Prop} (hT : NewT f (.blk N k g)) (kk : openS s fun n m => K (.ptr n 0) ⟨n + 1, (n, some (.blk N k g)) :: m⟩) : Tr Try.prog f [] s K := by
  refine Tr.call [] hT rfl rfl trivial rfl fun v0 s0 ⟨hv, hs⟩ => ?_
  subst hv; subst hs
  rw [openS_eq] at kk
  exact kk
theorem copyCall {f h N : Nat} {k : Nat → IntKind} {g : Nat → Int} {s : St} {K : AV → St → Prop} (hT : CopyT f (.blk N k g) (.blk N k g)) (hg : s.get h = some (.blk N k g))
    (kk : openS s fun n m => K (.ptr n 0) ⟨n + 1, (n, some (.blk N k g)) :: (h, some (.blk N k g)) :: (h, none) :: m⟩) : Tr Try.prog f [.ptr h 0] s K := by
  refine Tr.call [(0, some h)] hT rfl rfl ⟨⟨trivial, rfl, hg⟩, trivial⟩ rfl fun v0 s0 ⟨hv, hs⟩ => ?_
  subst hv; subst hs
  rw [openS_eq] at kk
  exact kk
/-- two blocks that stay as they are, one value -/
theorem twoCall {f h h' N N' : Nat} {k k' : Nat → IntKind} {g g' : Nat → Int} {v0 : AV} {s : St} {K : AV → St → Prop} (hT : Tr Try.prog f [.ptr 0 0, .ptr 1 0] ⟨2, [(0, some (.blk N k g)), (1, some (.blk N' k' g'))]⟩ fun v s => v = v0 ∧ s = ⟨2, [(0, some (.blk N k g)), (1, some (.blk N' k' g'))]⟩)
    (hv0 : v0.hok 0 nor = true) (hne : Nat.beq h h' = false) (hg : s.get h = some (.blk N k g)) (hg' : s.get h' = some (.blk N' k' g'))
    (kk : openS s fun n m => K v0 ⟨n, (h, some (.blk N k g)) :: (h', some (.blk N' k' g')) :: (h, none) :: (h', none) :: m⟩) : Tr Try.prog f [.ptr h 0, .ptr h' 0] s K := by
  refine Tr.call [(0, some h), (1, some h')] hT rfl rfl ⟨⟨trivial, rfl, hg⟩, ⟨trivial, rfl, hg'⟩, trivial⟩ ?_ fun v1 s0 ⟨hv, hs⟩ => ?_
  · have hne' : Nat.beq h' h = false := by
      rw [Bool.eq_false_iff] at hne ⊢
      exact fun e => hne (by rw [Nat.eq_of_beq_eq_true e]; exact Nat.beq_refl _)
    show nodupN [h, h'] = true
    simp [nodupN, memN, hne']
  · subst hv; subst hs
    rw [openS_eq] at kk
    rw [ren_pure v1 hv0]
    exact kk
theorem map_getD {α : Type} {S : List α} {f : α → AV} {i : Nat} (h : i < S.length) : ∃ x ∈ S, (S.map f).getD i .undef = f x :=
  ⟨S[i], List.getElem_mem h, by simp [List.getD_eq_getElem?_getD, h]⟩
structure Stp where
  wh : Int
  ar : Int
  of : Int
  v : Int
def stepV (x : Stp) : AV := .agg [.int .i64 x.wh, .int .i64 x.ar, .int .i64 x.of, .int .u16 x.v]
set_option maxRecDepth 20000 in
theorem known11 : Ev Try.prog 26 [] (.bool true) := by
  refine FrzK.ev rfl (trF g26 b26 c26 ?_)
  conv => whnf
  refine newCall New_tr ?_
  conv => whnf
  refine blkCall (Put_tr .zero 1 0 7 (by decide)) rfl rfl rfl ?_
  conv => whnf
  refine blkCall (Latch_tr _) rfl rfl rfl ?_
  conv => whnf
  refine blkCall (Work_tr _ 1 0) rfl rfl rfl ?_
  conv => whnf
  refine blkCall (Set_tr _ 2 0 1 (by decide)) rfl rfl rfl ?_
  conv => whnf
  refine blkCall (Get_tr _ 2 0) rfl rfl rfl ?_
  conv => whnf
  refine blkCall (Publish_tr _) rfl rfl rfl ?_
  conv => whnf
  refine blkCall (Get_tr _ 2 0) rfl rfl rfl ?_
  conv => whnf
  refine blkCall (Put_tr _ 7 0 1 (by decide)) rfl rfl rfl ?_
  conv => whnf
  refine blkCall (Scans_tr _) rfl rfl rfl ?_
  conv => whnf
  refine allCall (All_tr _ 4) rfl rfl rfl ?_
  conv => whnf
  exact FrzK.le (Le.refl _)
set_option maxRecDepth 20000 in
set_option maxHeartbeats 1000000 in
theorem law4 (S : List Stp) (hS : ∀ x ∈ S, 0 ≤ x.v) : Ev Try.prog 4 [.ro 4 (S.map stepV)] (.bool true) := by
  refine FrzK.ev rfl (trZ [101] [] g4 b4 c4 ?_)
  conv => whnf
  refine Ev.call known11 ?_
  conv => whnf
  refine condS (fun h => ?_) (fun h => ?_)
  · conv => whnf
    exact FrzK.le (Le.refl _)
  conv => whnf
  have hl : S.length ≤ 300 := by simp at h; omega
  refine newCall New_tr ?_
  conv => whnf
  refine newCall rNew_tr ?_
  conv => whnf
  refine loopI (α := {i : Nat // i ≤ S.length} × Img) (fun q => [(0, .ro 4 (S.map stepV)), (3, .ptr 0 0), (4, .ptr 1 0), (5, .int .i64 q.1.1)]) (fun q => ⟨2, [(0, some (imC q.2)), (1, some (rmC q.2))]⟩) (fun q => S.length - q.1.1) (⟨0, Nat.zero_le _⟩, .zero)
      ⟨[], rfl, rfl, rfl, ⟨⟨rfl, rfl⟩, ⟨rfl, rfl⟩, ⟨rfl, rfl⟩, ⟨rfl, rfl⟩, trivial⟩, ⟨⟨trivial, rfl, rfl⟩, ⟨trivial, rfl, rfl⟩, trivial⟩⟩ fun ⟨⟨i, hi⟩, I⟩ => ?_
  conv => whnf
  by_cases hlt : i < S.length
  · refine condY (by simp; omega) ?_
    conv => whnf
    obtain ⟨x, hxS, hx⟩ := map_getD (f := stepV) hlt
    have hv := hS x hxS
    have hx : (S.map stepV).getD (Int.toNat (i : Int)) .undef = stepV x := hx
    refine condT (by simp; omega) ?_
    rw [hx]
    conv => whnf
    refine joinI (α := Img) (fun J => [(0, .ro 4 (S.map stepV)), (3, .ptr 0 0), (4, .ptr 1 0), (5, .int .i64 i), (6, .ptr 2 0)]) (fun J => ⟨3, [(0, some (imC J)), (1, some (rmC J)), (2, some (.obj [.int .i64 x.wh, .int .i64 x.ar, .int .i64 x.of, .int .u16 x.v]))]⟩) ?_ (fun J => ?_)
    · conv => whnf
      repeat' (first
        | (refine condY (by assumption) ?_; conv => whnf)
        | (refine condN (by assumption) ?_; conv => whnf)
        | (refine condN (bne_self_eq_false _) ?_; conv => whnf)
        | (refine ⟨rfl, ?_⟩; conv => whnf)
        | (refine blkCall (Put_tr _ _ _ _ (by first | assumption | decide)) rfl rfl rfl ?_; conv => whnf)
        | (refine blkCall (rPut_tr _ _ _ _) rfl rfl rfl ?_; conv => whnf)
        | (refine blkCall (Set_tr _ _ _ _ (by first | assumption | decide)) rfl rfl rfl ?_; conv => whnf)
        | (refine blkCall (rSet_tr _ _ _ _) rfl rfl rfl ?_; conv => whnf)
        | (refine blkCall (Latch_tr _) rfl rfl rfl ?_; conv => whnf)
        | (refine blkCall (Drop_tr _) rfl rfl rfl ?_; conv => whnf)
        | (refine blkCall (rLatch_tr _) rfl rfl rfl ?_; conv => whnf)
        | (refine blkCall (Publish_tr _) rfl rfl rfl ?_; conv => whnf)
        | (refine blkCall (rPublish_tr _) rfl rfl rfl ?_; conv => whnf)
        | (refine copyCall (Copy_tr _) rfl ?_; conv => whnf)
        | (refine copyCall (rCopy_tr _) rfl ?_; conv => whnf)
        | (refine condF (fun h => ?_) (fun h => ?_) <;> conv => whnf))
      all_goals first
        | exact ⟨_, [], rfl, rfl, rfl, ⟨⟨rfl, rfl⟩, ⟨rfl, rfl⟩, ⟨rfl, rfl⟩, ⟨rfl, rfl⟩, ⟨rfl, rfl⟩, trivial⟩, ⟨⟨trivial, rfl, rfl⟩, ⟨trivial, rfl, rfl⟩, ⟨rfl, rfl, rfl⟩, trivial⟩⟩
        | exact ⟨_, [(0, some 3), (1, some 4)], rfl, rfl, rfl, ⟨⟨rfl, rfl⟩, ⟨rfl, rfl⟩, ⟨rfl, rfl⟩, ⟨rfl, rfl⟩, ⟨rfl, rfl⟩, trivial⟩, ⟨⟨trivial, rfl, rfl⟩, ⟨trivial, rfl, rfl⟩, ⟨rfl, rfl, rfl⟩, trivial⟩⟩
    · conv => whnf
      refine blkCall (Get_tr _ _ _) rfl rfl rfl ?_
      conv => whnf
      refine blkCall (rGet_tr _ _ _) rfl rfl rfl ?_
      conv => whnf
      refine condN (by simp) ?_
      conv => whnf
      refine condN (by simp) ?_
      conv => whnf
      refine condF (fun h => ?_) (fun h => ?_)
      · conv => whnf
        refine ⟨(⟨i + 1, hlt⟩, J), ⟨[], rfl, rfl, rfl, ⟨⟨rfl, rfl⟩, ⟨rfl, rfl⟩, ⟨rfl, rfl⟩, ⟨?_, rfl⟩, trivial⟩, ⟨⟨trivial, rfl, rfl⟩, ⟨trivial, rfl, rfl⟩, trivial⟩⟩, by show S.length - (i + 1) < S.length - i; omega⟩
        show AV.int .i64 (IntKind.i64.wrap ((i : Int) + 1)) = AV.int .i64 ((i + 1 : Nat) : Int)
        rw [s64 (by omega)]
      · conv => whnf
        refine twoCall (alike_tr J) rfl rfl rfl rfl ?_
        conv => whnf
        refine ⟨(⟨i + 1, hlt⟩, J), ⟨[], rfl, rfl, rfl, ⟨⟨rfl, rfl⟩, ⟨rfl, rfl⟩, ⟨rfl, rfl⟩, ⟨?_, rfl⟩, trivial⟩, ⟨⟨trivial, rfl, rfl⟩, ⟨trivial, rfl, rfl⟩, trivial⟩⟩, by show S.length - (i + 1) < S.length - i; omega⟩
        show AV.int .i64 (IntKind.i64.wrap ((i : Int) + 1)) = AV.int .i64 ((i + 1 : Nat) : Int)
        rw [s64 (by omega)]
  · refine condN (by simp; omega) ?_
    conv => whnf
    refine twoCall (alike_tr I) rfl rfl rfl rfl ?_
    conv => whnf
    exact FrzK.le (Le.refl _)
theorem allL_pub1 (I : Img) : allL I.pub.o 1 = allL I.o 1 := rfl
theorem allL_pub4 (I : Img) : allL I.pub.o 4 = allL I.o 4 := rfl
theorem allL_len (f : Nat → Nat → Int) (a : Int) : (allL f a).length ≤ 100000 := by
  rw [allL_length]
  have := szA_range a
  omega
theorem sameRows {g : Nat → Option Chunk} {h h' : Nat} {l : List Int} (h1 : g h = some (.rowI .u16 l)) (h2 : g h' = some (.rowI .u16 l)) : SeeL g [.sl 1 h 0 l.length, .sl 1 h' 0 l.length] [.roI .u16 l, .roI .u16 l] := by
  refine ⟨.le _ _ _ (.rowI h1 (by simp)) ?_, .le _ _ _ (.rowI h2 (by simp)) ?_, trivial⟩
  all_goals
    simp
    exact Le.refl _
set_option maxRecDepth 20000 in
set_option maxHeartbeats 1000000 in
theorem law3 (S T : List Stp) (hS : ∀ x ∈ S, 0 ≤ x.v) (hT : ∀ x ∈ T, 0 ≤ x.v) : Ev Try.prog 3 [.ro 4 (S.map stepV), .ro 4 (T.map stepV)] (.bool true) := by
  refine FrzK.ev rfl (trF g3 b3 c3 ?_)
  conv => whnf
  refine Ev.call known11 ?_
  conv => whnf
  refine condS (fun h => ?_) (fun h => ?_)
  · conv => whnf
    exact FrzK.le (Le.refl _)
  conv => whnf
  have hl : S.length ≤ 200 := by simp at h; omega
  refine condS (fun h => ?_) (fun h => ?_)
  · conv => whnf
    exact FrzK.le (Le.refl _)
  conv => whnf
  have hl2 : T.length ≤ 200 := by simp at h; omega
  refine newCall New_tr ?_
  conv => whnf
  refine newCall rNew_tr ?_
  conv => whnf
  refine loopI (α := {i : Nat // i ≤ S.length} × Img) (fun q => [(0, .ro 4 (S.map stepV)), (1, .ro 4 (T.map stepV)), (5, .ptr 0 0), (6, .ptr 1 0), (7, .int .i64 q.1.1)]) (fun q => ⟨2, [(0, some (imC q.2)), (1, some (rmC q.2))]⟩) (fun q => S.length - q.1.1) (⟨0, Nat.zero_le _⟩, _)
      ⟨[], rfl, rfl, rfl, ⟨⟨rfl, rfl⟩, ⟨rfl, rfl⟩, ⟨rfl, rfl⟩, ⟨rfl, rfl⟩, ⟨rfl, rfl⟩, trivial⟩, ⟨⟨trivial, rfl, rfl⟩, ⟨trivial, rfl, rfl⟩, trivial⟩⟩ fun ⟨⟨i, hi⟩, I⟩ => ?_
  conv => whnf
  by_cases hlt : i < S.length
  · refine condY (by simp; omega) ?_
    conv => whnf
    obtain ⟨x, hxS, hx⟩ := map_getD (f := stepV) hlt
    have hv := hS x hxS
    have hx : (S.map stepV).getD (Int.toNat (i : Int)) .undef = stepV x := hx
    refine condT (by simp; omega) ?_
    rw [hx]
    conv => whnf
    refine condT (by simp; omega) ?_
    rw [hx]
    conv => whnf
    refine condT (by simp; omega) ?_
    rw [hx]
    conv => whnf
    refine blkCall (Put_tr _ _ _ _ hv) rfl rfl rfl ?_
    conv => whnf
    refine condT (by simp; omega) ?_
    rw [hx]
    conv => whnf
    refine condT (by simp; omega) ?_
    rw [hx]
    conv => whnf
    refine condT (by simp; omega) ?_
    rw [hx]
    conv => whnf
    refine blkCall (rPut_tr _ _ _ _) rfl rfl rfl ?_
    conv => whnf
    refine ⟨(⟨i + 1, hlt⟩, _), ⟨[], rfl, rfl, rfl, ⟨⟨rfl, rfl⟩, ⟨rfl, rfl⟩, ⟨rfl, rfl⟩, ⟨rfl, rfl⟩, ⟨?_, rfl⟩, trivial⟩, ⟨⟨trivial, rfl, rfl⟩, ⟨trivial, rfl, rfl⟩, trivial⟩⟩, by show S.length - (i + 1) < S.length - i; omega⟩
    show AV.int .i64 (IntKind.i64.wrap ((i : Int) + 1)) = AV.int .i64 ((i + 1 : Nat) : Int)
    rw [s64 (by omega)]
  refine condN (by simp; omega) ?_
  conv => whnf
  refine blkCall (Latch_tr _) rfl rfl rfl ?_
  conv => whnf
  refine blkCall (rLatch_tr _) rfl rfl rfl ?_
  conv => whnf
  refine loopI (α := {i : Nat // i ≤ T.length} × Img) (fun q => [(0, .ro 4 (S.map stepV)), (1, .ro 4 (T.map stepV)), (5, .ptr 0 0), (6, .ptr 1 0), (8, .int .i64 q.1.1)]) (fun q => ⟨2, [(0, some (imC q.2)), (1, some (rmC q.2))]⟩) (fun q => T.length - q.1.1) (⟨0, Nat.zero_le _⟩, _)
      ⟨[], rfl, rfl, rfl, ⟨⟨rfl, rfl⟩, ⟨rfl, rfl⟩, ⟨rfl, rfl⟩, ⟨rfl, rfl⟩, ⟨rfl, rfl⟩, trivial⟩, ⟨⟨trivial, rfl, rfl⟩, ⟨trivial, rfl, rfl⟩, trivial⟩⟩ fun ⟨⟨i, hi⟩, J⟩ => ?_
  conv => whnf
  by_cases hlt : i < T.length
  · refine condY (by simp; omega) ?_
    conv => whnf
    obtain ⟨x, hxS, hx⟩ := map_getD (f := stepV) hlt
    have hv := hT x hxS
    have hx : (T.map stepV).getD (Int.toNat (i : Int)) .undef = stepV x := hx
    refine condT (by simp; omega) ?_
    rw [hx]
    conv => whnf
    refine condT (by simp; omega) ?_
    rw [hx]
    conv => whnf
    refine condT (by simp; omega) ?_
    rw [hx]
    conv => whnf
    refine blkCall (Set_tr _ _ _ _ hv) rfl rfl rfl ?_
    conv => whnf
    refine condT (by simp; omega) ?_
    rw [hx]
    conv => whnf
    refine condT (by simp; omega) ?_
    rw [hx]
    conv => whnf
    refine condT (by simp; omega) ?_
    rw [hx]
    conv => whnf
    refine blkCall (rSet_tr _ _ _ _) rfl rfl rfl ?_
    conv => whnf
    refine ⟨(⟨i + 1, hlt⟩, _), ⟨[], rfl, rfl, rfl, ⟨⟨rfl, rfl⟩, ⟨rfl, rfl⟩, ⟨rfl, rfl⟩, ⟨rfl, rfl⟩, ⟨?_, rfl⟩, trivial⟩, ⟨⟨trivial, rfl, rfl⟩, ⟨trivial, rfl, rfl⟩, trivial⟩⟩, by show T.length - (i + 1) < T.length - i; omega⟩
    show AV.int .i64 (IntKind.i64.wrap ((i : Int) + 1)) = AV.int .i64 ((i + 1 : Nat) : Int)
    rw [s64 (by omega)]
  refine condN (by simp; omega) ?_
  conv => whnf
  refine loopI (α := {a : Nat // 1 ≤ a ∧ a ≤ 7}) (fun a => [(5, .ptr 0 0), (6, .ptr 1 0), (9, .int .i64 a.1)]) (fun a => ⟨2, [(0, some (imC J)), (1, some (rmC J))]⟩) (fun a => 7 - a.1) ⟨1, by decide⟩
      ⟨[], rfl, rfl, rfl, ⟨⟨rfl, rfl⟩, ⟨rfl, rfl⟩, ⟨rfl, rfl⟩, trivial⟩, ⟨⟨trivial, rfl, rfl⟩, ⟨trivial, rfl, rfl⟩, trivial⟩⟩ fun ⟨a, ha⟩ => ?_
  conv => whnf
  by_cases hlt3 : a < 7
  · refine condY (by simp; omega) ?_
    conv => whnf
    refine allCall (All_tr J a) rfl rfl rfl ?_
    conv => whnf
    refine allCall (rAll_tr J a) rfl rfl rfl ?_
    conv => whnf
    refine Ev.look (hregs_same (allL J.o a) (allL_len _ _)) rfl (sameRows rfl rfl) ?_
    conv => whnf
    refine ⟨⟨a + 1, by omega⟩, ⟨[], rfl, rfl, rfl, ⟨⟨rfl, rfl⟩, ⟨rfl, rfl⟩, ⟨?_, rfl⟩, trivial⟩, ⟨⟨trivial, rfl, rfl⟩, ⟨trivial, rfl, rfl⟩, trivial⟩⟩, by show 7 - (a + 1) < 7 - a; omega⟩
    show AV.int .i64 (IntKind.i64.wrap ((a : Int) + 1)) = AV.int .i64 ((a + 1 : Nat) : Int)
    rw [s64 (by omega)]
  refine condN (by simp; omega) ?_
  conv => whnf
  refine allCall (All_tr J 1) rfl rfl rfl ?_
  conv => whnf
  refine allCall (All_tr J 4) rfl rfl rfl ?_
  conv => whnf
  refine blkCall (Publish_tr J) rfl rfl rfl ?_
  conv => whnf
  refine blkCall (rPublish_tr J) rfl rfl rfl ?_
  conv => whnf
  refine twoCall (alike_tr J.pub) rfl rfl rfl rfl ?_
  conv => whnf
  refine allCall (All_tr J.pub 1) rfl rfl rfl ?_
  conv => whnf
  refine Ev.look (hregs_same (allL J.o 1) (allL_len _ _)) rfl (sameRows rfl rfl) ?_
  conv => whnf
  refine allCall (All_tr J.pub 4) rfl rfl rfl ?_
  conv => whnf
  refine Ev.look (hregs_same (allL J.o 4) (allL_len _ _)) rfl (sameRows rfl rfl) ?_
  conv => whnf
  exact FrzK.le (Le.refl _)
end Go.Proofs.Ytomodeliimnddaa
set_option linter.unusedVariables false
set_option linter.unusedSimpArgs false
namespace Go.Proofs.Ytomodeliimnddaa
open Go.Ab
/- rung/runglaw25.known -/
def a69 : ACode := (.seq (.reg [⟨(some 0), .mov (.c (.bool false)), none, false⟩])
 (.seq (.reg [⟨(some 11), .build [(.int .i64 0), (.int .i64 0), (.int .u16 0)] [(0, 1, (.c (.int .i64 5))), (1, 1, (.c (.int .i64 1))), (2, 1, (.c (.int .u16 4660)))], none, false⟩, ⟨(some 12), .bslice 3 .gen [(.int .i64 0), (.int .i64 0), (.int .u16 0)] [(0, 3, (.t 11))] 1, none, false⟩, ⟨(some 13), .call 70 [(.t 12)], none, false⟩, ⟨(some 10), .mov (.t 13), none, false⟩, ⟨(some 14), .ext (.t 10) 0, none, false⟩, ⟨(some 15), .ext (.t 10) 1, none, false⟩, ⟨(some 1), .mov (.t 14), none, false⟩, ⟨(some 2), .mov (.t 15), none, false⟩])
 (.seq (.seq (.reg [⟨(some 16), .mov (.t 1), none, false⟩, ⟨(some 17), .bin .eql .ptr (.t 16) (.c .nilp), none, false⟩])
 (.cond (.t 17) (.seq (.reg [⟨(some 0), .mov (.c (.bool false)), none, false⟩])
 .ret)
 .skip))
 (.seq (.reg [⟨(some 18), .mov (.t 1), none, false⟩, ⟨(some 19), .bslice 1 (.int .u8) [(.int .u8 0), (.int .u8 0), (.int .u8 0), (.int .u8 0), (.int .u8 0)] [(0, 1, (.c (.int .u8 3))), (1, 1, (.c (.int .u8 0))), (2, 1, (.c (.int .u8 1))), (3, 1, (.c (.int .u8 0))), (4, 1, (.c (.int .u8 1)))] 5, none, false⟩, ⟨(some 20), .call 71 [(.t 18), (.t 19)], none, false⟩, ⟨(some 3), .mov (.t 20), none, false⟩])
 (.seq (.reg [⟨(some 21), .mov (.t 1), none, false⟩, ⟨(some 22), .bslice 1 (.int .u8) [(.int .u8 0), (.int .u8 0), (.int .u8 0), (.int .u8 0), (.int .u8 0)] [(0, 1, (.c (.int .u8 3))), (1, 1, (.c (.int .u8 0))), (2, 1, (.c (.int .u8 127))), (3, 1, (.c (.int .u8 0))), (4, 1, (.c (.int .u8 2)))] 5, none, false⟩, ⟨(some 23), .call 71 [(.t 21), (.t 22)], none, false⟩, ⟨(some 4), .mov (.t 23), none, false⟩])
 (.seq (.reg [⟨(some 24), .mov (.t 1), none, false⟩, ⟨(some 25), .bslice 1 (.int .u8) [(.int .u8 0)] [(0, 1, (.c (.int .u8 7)))] 1, none, false⟩, ⟨(some 26), .call 71 [(.t 24), (.t 25)], none, false⟩, ⟨(some 5), .mov (.t 26), none, false⟩])
 (.seq (.reg [⟨(some 27), .mov (.t 1), none, false⟩, ⟨(some 28), .bslice 1 (.int .u8) [(.int .u8 0), (.int .u8 0), (.int .u8 0), (.int .u8 0), (.int .u8 0)] [(0, 1, (.c (.int .u8 3))), (1, 1, (.c (.int .u8 0))), (2, 1, (.c (.int .u8 1))), (3, 1, (.c (.int .u8 0))), (4, 1, (.c (.int .u8 0)))] 5, none, false⟩, ⟨(some 29), .call 71 [(.t 27), (.t 28)], none, false⟩, ⟨(some 6), .mov (.t 29), none, false⟩])
 (.seq (.reg [⟨(some 30), .mov (.t 1), none, false⟩, ⟨(some 31), .bslice 1 (.int .u8) [(.int .u8 0), (.int .u8 0), (.int .u8 0), (.int .u8 0), (.int .u8 0)] [(0, 1, (.c (.int .u8 6))), (1, 1, (.c (.int .u8 0))), (2, 1, (.c (.int .u8 64))), (3, 1, (.c (.int .u8 0))), (4, 1, (.c (.int .u8 9)))] 5, none, false⟩, ⟨(some 32), .call 71 [(.t 30), (.t 31)], none, false⟩, ⟨(some 7), .mov (.t 32), none, false⟩])
 (.seq (.reg [⟨(some 34), .mov (.t 1), none, false⟩, ⟨(some 35), .call 44 [(.t 34), (.c (.int .i64 6)), (.c (.int .i64 0))], none, false⟩, ⟨(some 33), .mov (.t 35), none, false⟩, ⟨(some 36), .ext (.t 33) 0, none, false⟩, ⟨(some 37), .ext (.t 33) 1, none, false⟩, ⟨(some 8), .mov (.t 36), none, false⟩, ⟨(some 9), .mov (.t 37), none, false⟩])
 (.seq (.reg [⟨(some 38), .mov (.t 3), none, false⟩, ⟨(some 39), .bslice 1 (.int .u8) [(.int .u8 0), (.int .u8 0), (.int .u8 0), (.int .u8 0)] [(0, 1, (.c (.int .u8 3))), (1, 1, (.c (.int .u8 2))), (2, 1, (.c (.int .u8 18))), (3, 1, (.c (.int .u8 52)))] 4, none, false⟩, ⟨(some 40), .call 50 [(.t 38), (.t 39)], none, false⟩, ⟨(some 41), .mov (.t 40), none, true⟩, ⟨(some 42), .mov (.t 4), (some (41, true)), false⟩, ⟨(some 43), .bslice 1 (.int .u8) [(.int .u8 0), (.int .u8 0)] [(0, 1, (.c (.int .u8 131))), (1, 1, (.c (.int .u8 2)))] 2, (some (41, true)), false⟩, ⟨(some 44), .call 50 [(.t 42), (.t 43)], (some (41, true)), false⟩, ⟨(some 45), .pick (.t 41) (.t 44) (.c (.bool false)), none, false⟩, ⟨(some 46), .mov (.t 45), none, true⟩, ⟨(some 47), .mov (.t 5), (some (46, true)), false⟩, ⟨(some 48), .bslice 1 (.int .u8) [(.int .u8 0), (.int .u8 0)] [(0, 1, (.c (.int .u8 135))), (1, 1, (.c (.int .u8 1)))] 2, (some (46, true)), false⟩, ⟨(some 49), .call 50 [(.t 47), (.t 48)], (some (46, true)), false⟩, ⟨(some 50), .pick (.t 46) (.t 49) (.c (.bool false)), none, false⟩, ⟨(some 51), .mov (.t 50), none, true⟩, ⟨(some 52), .mov (.t 6), (some (51, true)), false⟩, ⟨(some 53), .bslice 1 (.int .u8) [(.int .u8 0), (.int .u8 0)] [(0, 1, (.c (.int .u8 131))), (1, 1, (.c (.int .u8 3)))] 2, (some (51, true)), false⟩, ⟨(some 54), .call 50 [(.t 52), (.t 53)], (some (51, true)), false⟩, ⟨(some 55), .pick (.t 51) (.t 54) (.c (.bool false)), none, false⟩, ⟨(some 56), .mov (.t 55), none, true⟩, ⟨(some 57), .mov (.t 7), (some (56, true)), false⟩, ⟨(some 58), .bslice 1 (.int .u8) [(.int .u8 0), (.int .u8 0), (.int .u8 0), (.int .u8 0), (.int .u8 0)] [(0, 1, (.c (.int .u8 6))), (1, 1, (.c (.int .u8 0))), (2, 1, (.c (.int .u8 64))), (3, 1, (.c (.int .u8 0))), (4, 1, (.c (.int .u8 9)))] 5, (some (56, true)), false⟩, ⟨(some 59), .call 50 [(.t 57), (.t 58)], (some (56, true)), false⟩, ⟨(some 60), .pick (.t 56) (.t 59) (.c (.bool false)), none, false⟩, ⟨(some 61), .mov (.t 60), none, true⟩, ⟨(some 62), .mov (.t 8), (some (61, true)), false⟩, ⟨(some 63), .bin .eql .other (.t 62) (.c (.int .u16 9)), (some (61, true)), false⟩, ⟨(some 64), .pick (.t 61) (.t 63) (.c (.bool false)), none, false⟩, ⟨(some 65), .mov (.t 64), none, true⟩, ⟨(some 66), .mov (.t 1), (some (65, true)), false⟩, ⟨(some 67), .call 71 [(.t 66), (.c .nils)], (some (65, true)), false⟩, ⟨(some 68), .len false (.t 67), (some (65, true)), false⟩, ⟨(some 69), .bin .eql .other (.t 68) (.c (.int .i64 0)), (some (65, true)), false⟩, ⟨(some 70), .pick (.t 65) (.t 69) (.c (.bool false)), none, false⟩, ⟨(some 71), .mov (.t 70), none, true⟩, ⟨(some 72), .call 94 [(.c .nils), (.c (.int .u8 6))], (some (71, true)), false⟩, ⟨(some 73), .bslice 1 (.int .u8) [(.int .u8 0), (.int .u8 0)] [(0, 1, (.c (.int .u8 128))), (1, 1, (.c (.int .u8 6)))] 2, (some (71, true)), false⟩, ⟨(some 74), .call 50 [(.t 72), (.t 73)], (some (71, true)), false⟩, ⟨(some 75), .pick (.t 71) (.t 74) (.c (.bool false)), none, false⟩, ⟨(some 0), .mov (.t 75), none, false⟩])
 .ret))))))))))
def r69 : List ARes := [.t 0]
theorem c69 : compF Try.prog Try.f69 = some (a69, r69) := by kernel_rfl

theorem b69 : hasBody Try.prog 69 = true := by kernel_rfl
theorem g69 : Try.prog.funcs[69]? = some Try.f69 := by kernel_rfl
/- rung/runglaw25.laid -/
def a70 : ACode := (.seq (.reg [⟨(some 2), .mov (.c .nilp), none, false⟩, ⟨(some 3), .mov (.c .nilp), none, false⟩])
 (.seq (.reg [⟨(some 7), .call 27 [], none, false⟩, ⟨(some 8), .call 28 [], none, false⟩, ⟨(some 4), .mov (.t 7), none, false⟩, ⟨(some 5), .mov (.t 8), none, false⟩])
 (.seq (.seq (.reg [⟨(some 6), .mov (.c (.int .i64 0)), none, false⟩])
 (.block 0 (.loop (.seq (.seq (.reg [⟨(some 9), .mov (.t 6), none, false⟩, ⟨(some 10), .mov (.t 0), none, false⟩, ⟨(some 11), .len false (.t 10), none, false⟩, ⟨(some 12), .bin .lss .other (.t 9) (.t 11), none, false⟩])
 (.cond (.t 12) .skip
 (.exit 0)))
 (.seq (.block 1 (.seq (.draw [⟨0, ⟨(some 15), .mov (.t 4), none, false⟩, false, [], []⟩, ⟨1, ⟨(some 16), .mov (.t 0), none, false⟩, false, [], []⟩, ⟨2, ⟨(some 17), .mov (.t 6), none, false⟩, false, [], []⟩, ⟨3, ⟨(some 18), .idx 3 none true (.t 16) (.t 17), none, false⟩, false, [], []⟩, ⟨4, ⟨(some 19), .fld 0 1 false (.t 18), none, false⟩, false, [], []⟩, ⟨5, ⟨(some 20), .load false 1 (.t 19), none, false⟩, false, [], []⟩, ⟨6, ⟨(some 21), .mov (.t 0), none, false⟩, false, [], []⟩, ⟨7, ⟨(some 22), .mov (.t 6), none, false⟩, false, [], []⟩, ⟨8, ⟨(some 23), .idx 3 none true (.t 21) (.t 22), none, false⟩, false, [], []⟩, ⟨9, ⟨(some 24), .fld 1 1 false (.t 23), none, false⟩, false, [], []⟩, ⟨10, ⟨(some 25), .load false 1 (.t 24), none, false⟩, false, [], []⟩, ⟨11, ⟨(some 26), .mov (.t 0), none, false⟩, false, [], []⟩, ⟨12, ⟨(some 27), .mov (.t 6), none, false⟩, false, [], []⟩, ⟨13, ⟨(some 28), .idx 3 none true (.t 26) (.t 27), none, false⟩, false, [], []⟩, ⟨14, ⟨(some 29), .fld 2 1 false (.t 28), none, false⟩, false, [], []⟩, ⟨15, ⟨(some 30), .load false 1 (.t 29), none, false⟩, false, [], []⟩, ⟨16, ⟨(some 31), .call 29 [(.t 15), (.t 20), (.t 25), (.t 30)], none, false⟩, true, [], []⟩])
 (.draw [⟨0, ⟨(some 32), .mov (.t 5), none, false⟩, false, [], []⟩, ⟨1, ⟨(some 33), .mov (.t 0), none, false⟩, false, [], []⟩, ⟨2, ⟨(some 34), .mov (.t 6), none, false⟩, false, [], []⟩, ⟨3, ⟨(some 35), .idx 3 none true (.t 33) (.t 34), none, false⟩, false, [], []⟩, ⟨4, ⟨(some 36), .fld 0 1 false (.t 35), none, false⟩, false, [], []⟩, ⟨5, ⟨(some 37), .load false 1 (.t 36), none, false⟩, false, [], []⟩, ⟨6, ⟨(some 38), .mov (.t 0), none, false⟩, false, [], []⟩, ⟨7, ⟨(some 39), .mov (.t 6), none, false⟩, false, [], []⟩, ⟨8, ⟨(some 40), .idx 3 none true (.t 38) (.t 39), none, false⟩, false, [], []⟩, ⟨9, ⟨(some 41), .fld 1 1 false (.t 40), none, false⟩, false, [], []⟩, ⟨10, ⟨(some 42), .load false 1 (.t 41), none, false⟩, false, [], []⟩, ⟨11, ⟨(some 43), .mov (.t 0), none, false⟩, false, [], []⟩, ⟨12, ⟨(some 44), .mov (.t 6), none, false⟩, false, [], []⟩, ⟨13, ⟨(some 45), .idx 3 none true (.t 43) (.t 44), none, false⟩, false, [], []⟩, ⟨14, ⟨(some 46), .fld 2 1 false (.t 45), none, false⟩, false, [], []⟩, ⟨15, ⟨(some 47), .load false 1 (.t 46), none, false⟩, false, [], []⟩, ⟨16, ⟨(some 48), .call 30 [(.t 32), (.t 37), (.t 42), (.t 47)], none, false⟩, true, [], []⟩])))
 (.reg [⟨(some 13), .mov (.t 6), none, false⟩, ⟨(some 14), .bin .add .other (.t 13) (.c (.int .i64 1)), none, false⟩, ⟨(some 6), .mov (.t 14), none, false⟩]))))))
 (.seq (.reg [⟨(some 49), .mov (.t 4), none, false⟩, ⟨(some 50), .mov (.t 5), none, false⟩, ⟨(some 2), .mov (.t 49), none, false⟩, ⟨(some 3), .mov (.t 50), none, false⟩])
 .ret))))
def r70 : List ARes := [.t 2, .t 3]
theorem c70 : compF Try.prog Try.f70 = some (a70, r70) := by kernel_rfl

theorem b70 : hasBody Try.prog 70 = true := by kernel_rfl
theorem g70 : Try.prog.funcs[70]? = some Try.f70 := by kernel_rfl
/- rung/runglaw25.alike -/
def a93 : ACode := (.seq (.reg [⟨(some 4), .mov (.c (.bool false)), none, false⟩])
 (.seq (.seq (.reg [⟨(some 5), .mov (.c (.int .i64 1)), none, false⟩])
 (.block 0 (.loop (.seq (.seq (.reg [⟨(some 6), .mov (.t 5), none, false⟩, ⟨(some 7), .bin .leq .other (.t 6) (.c (.int .i64 6)), none, false⟩])
 (.cond (.t 7) .skip
 (.exit 0)))
 (.seq (.block 1 (.seq (.reg [⟨(some 10), .mov (.t 0), none, false⟩, ⟨(some 11), .mov (.t 5), none, false⟩, ⟨(some 12), .call 36 [(.t 10), (.t 11)], none, false⟩, ⟨(some 13), .mov (.t 1), none, false⟩, ⟨(some 14), .mov (.t 5), none, false⟩, ⟨(some 15), .call 37 [(.t 13), (.t 14)], none, false⟩, ⟨(some 16), .call 35 [(.t 12), (.t 15)], none, false⟩, ⟨(some 17), .un .not (.t 16), none, false⟩])
 (.cond (.t 17) (.seq (.reg [⟨(some 4), .mov (.c (.bool false)), none, false⟩])
 .ret)
 .skip)))
 (.reg [⟨(some 8), .mov (.t 5), none, false⟩, ⟨(some 9), .bin .add .other (.t 8) (.c (.int .i64 1)), none, false⟩, ⟨(some 5), .mov (.t 9), none, false⟩]))))))
 (.seq (.draw [⟨0, ⟨(some 18), .mov (.t 0), none, false⟩, false, [], []⟩, ⟨2, ⟨(some 20), .mov (.t 1), none, false⟩, false, [], []⟩, ⟨3, ⟨(some 21), .nilck (.t 20), none, false⟩, false, [], []⟩, ⟨4, ⟨(some 22), .fld 1792 1 false (.t 21), none, false⟩, false, [], []⟩, ⟨5, ⟨(some 23), .load false 1 (.t 22), none, false⟩, false, [], []⟩, ⟨1, ⟨(some 19), .call 97 [(.t 18)], none, false⟩, true, [], [(.t 22)]⟩, ⟨6, ⟨(some 24), .bin .eql .other (.t 19) (.t 23), none, false⟩, false, [], []⟩, ⟨7, ⟨(some 4), .mov (.t 24), none, false⟩, false, [], []⟩])
 .ret)))
def r93 : List ARes := [.t 4]
theorem c93 : compF Try.prog Try.f93 = some (a93, r93) := by kernel_rfl

theorem b93 : hasBody Try.prog 93 = true := by kernel_rfl
theorem g93 : Try.prog.funcs[93]? = some Try.f93 := by kernel_rfl

structure Ptv where
  ar : Int
  of : Int
  v : Int
def ptvV (x : Ptv) : AV := .agg [.int .i64 x.ar, .int .i64 x.of, .int .u16 x.v]
def OkI (I : Img) : Prop := ∀ a i, 0 ≤ I.o a i ∧ I.o a i < 65536
theorem OkI.zero : OkI .zero := fun _ _ => ⟨Int.le_refl _, by show (0 : Int) < 65536; decide⟩
theorem OkI.put {I : Img} (h : OkI I) (a i v : Int) (hv : 0 ≤ v ∧ v < 65536) : OkI (I.put a i v) := fun b j => by
  show 0 ≤ putO I.o a i v b j ∧ putO I.o a i v b j < 65536
  unfold putO
  split
  · unfold set2
    split
    · unfold bitV
      split
      · decide
      · exact hv
    · exact h b j
  · exact h b j
def laidK (v : AV) (s : St) : Prop := ∃ I, OkI I ∧ v = .tup [.ptr 0 0, .ptr 1 0] ∧ s = ⟨2, [(0, some (imC I)), (1, some (rmC I))]⟩
set_option maxRecDepth 20000 in
theorem laid_tr (S : List Ptv) (hS : ∀ x ∈ S, 0 ≤ x.v ∧ x.v < 65536) (hl : S.length ≤ 1000) : Tr Try.prog 70 [.ro 3 (S.map ptvV)] ⟨0, []⟩ laidK := by
  refine trF g70 b70 c70 ?_
  conv => whnf
  refine newCall New_tr ?_
  conv => whnf
  refine newCall rNew_tr ?_
  conv => whnf
  refine loopI (α := {i : Nat // i ≤ S.length} × {I : Img // OkI I}) (fun q => [(0, .ro 3 (S.map ptvV)), (4, .ptr 0 0), (5, .ptr 1 0), (6, .int .i64 q.1.1)]) (fun q => ⟨2, [(0, some (imC q.2.1)), (1, some (rmC q.2.1))]⟩) (fun q => S.length - q.1.1) (⟨0, Nat.zero_le _⟩, ⟨.zero, .zero⟩)
      ⟨[], rfl, rfl, rfl, ⟨⟨rfl, rfl⟩, ⟨rfl, rfl⟩, ⟨rfl, rfl⟩, ⟨rfl, rfl⟩, trivial⟩, ⟨⟨trivial, rfl, rfl⟩, ⟨trivial, rfl, rfl⟩, trivial⟩⟩ fun ⟨⟨i, hi⟩, ⟨I, hI⟩⟩ => ?_
  conv => whnf
  by_cases hlt : i < S.length
  · refine condY (by simp; omega) ?_
    conv => whnf
    obtain ⟨x, hxS, hx⟩ := map_getD (f := ptvV) hlt
    have hv := hS x hxS
    have hx : (S.map ptvV).getD (Int.toNat (i : Int)) .undef = ptvV x := hx
    refine condT (by simp; omega) ?_
    rw [hx]
    conv => whnf
    refine condT (by simp; omega) ?_
    rw [hx]
    conv => whnf
    refine condT (by simp; omega) ?_
    rw [hx]
    conv => whnf
    refine blkCall (Put_tr _ _ _ _ hv.1) rfl rfl rfl ?_
    conv => whnf
    refine condT (by simp; omega) ?_
    rw [hx]
    conv => whnf
    refine condT (by simp; omega) ?_
    rw [hx]
    conv => whnf
    refine condT (by simp; omega) ?_
    rw [hx]
    conv => whnf
    refine blkCall (rPut_tr _ _ _ _) rfl rfl rfl ?_
    conv => whnf
    refine ⟨(⟨i + 1, hlt⟩, ⟨I.put x.ar x.of x.v, hI.put _ _ _ hv⟩), ⟨[], rfl, rfl, rfl, ⟨⟨rfl, rfl⟩, ⟨rfl, rfl⟩, ⟨rfl, rfl⟩, ⟨?_, rfl⟩, trivial⟩, ⟨⟨trivial, rfl, rfl⟩, ⟨trivial, rfl, rfl⟩, trivial⟩⟩, by show S.length - (i + 1) < S.length - i; omega⟩
    show AV.int .i64 (IntKind.i64.wrap ((i : Int) + 1)) = AV.int .i64 ((i + 1 : Nat) : Int)
    rw [s64 (by omega)]
  · refine condN (by simp; omega) ?_
    conv => whnf
    exact ⟨I, hI, rfl, rfl⟩
set_option maxRecDepth 20000 in
theorem laid0_tr : Tr Try.prog 70 [.nils] ⟨0, []⟩ laidK := by
  refine trF g70 b70 c70 ?_
  conv => whnf
  refine newCall New_tr ?_
  conv => whnf
  refine newCall rNew_tr ?_
  conv => whnf
  refine loopI (α := Unit) (fun q => [(0, .nils), (4, .ptr 0 0), (5, .ptr 1 0), (6, .int .i64 0)]) (fun q => ⟨2, [(0, some (imC .zero)), (1, some (rmC .zero))]⟩) (fun q => 0) ()
      ⟨[], rfl, rfl, rfl, ⟨⟨rfl, rfl⟩, ⟨rfl, rfl⟩, ⟨rfl, rfl⟩, ⟨rfl, rfl⟩, trivial⟩, ⟨⟨trivial, rfl, rfl⟩, ⟨trivial, rfl, rfl⟩, trivial⟩⟩ fun _ => ?_
  conv => whnf
  exact ⟨.zero, .zero, rfl, rfl⟩
theorem laidCall {args : List AV} {s : St} {K : AV → St → Prop} (hT : Tr Try.prog 70 args ⟨0, []⟩ laidK) (ha : args = renL (rnm []) args) (hok : hokL 0 (rnm []) args = true)
    (kk : ∀ I, OkI I → openS s fun n m => K (.tup [.ptr n 0, .ptr (n + 1) 0]) ⟨n + 1 + 1, (n, some (imC I)) :: (n + 1, some (rmC I)) :: m⟩) : Tr Try.prog 70 args s K := by
  refine Tr.call [] hT ha hok trivial rfl fun v0 s0 ⟨I, hI, hv, hs⟩ => ?_
  subst hv; subst hs
  have kk := kk I hI
  rw [openS_eq] at kk
  exact kk
set_option maxRecDepth 20000 in
theorem salike_tr (I : Img) : Tr Try.prog 93 [.ptr 0 0, .ptr 1 0] ⟨2, [(0, some (imC I)), (1, some (rmC I))]⟩ fun v s => v = .bool true ∧ s = ⟨2, [(0, some (imC I)), (1, some (rmC I))]⟩ := by
  refine Tr.norm (K := fun v s => v = .bool true ∧ s.get 0 = some (imC I) ∧ s.get 1 = some (rmC I)) (trF g93 b93 c93 ?_) fun v s ⟨hv, h0, h1⟩ => ⟨_, _, ?_, rfl, rfl⟩
  · conv => whnf
    refine loopI (α := {a : Nat // 1 ≤ a ∧ a ≤ 7}) (fun a => [(0, .ptr 0 0), (1, .ptr 1 0), (5, .int .i64 a.1)]) (fun a => ⟨2, [(0, some (imC I)), (1, some (rmC I))]⟩) (fun a => 7 - a.1) ⟨1, by decide⟩
        ⟨[], rfl, rfl, rfl, ⟨⟨rfl, rfl⟩, ⟨rfl, rfl⟩, ⟨rfl, rfl⟩, trivial⟩, ⟨⟨trivial, rfl, rfl⟩, ⟨trivial, rfl, rfl⟩, trivial⟩⟩ fun ⟨a, ha⟩ => ?_
    conv => whnf
    by_cases hlt : a < 7
    · refine condY (by simp; omega) ?_
      conv => whnf
      refine allCall (All_tr I a) rfl rfl rfl ?_
      conv => whnf
      refine allCall (rAll_tr I a) rfl rfl rfl ?_
      conv => whnf
      refine Ev.look (hregs_same (allL I.o a) (allL_len _ _)) rfl (sameRows rfl rfl) ?_
      conv => whnf
      refine ⟨⟨a + 1, by omega⟩, ⟨[], rfl, rfl, rfl, ⟨⟨rfl, rfl⟩, ⟨rfl, rfl⟩, ⟨?_, rfl⟩, trivial⟩, ⟨⟨trivial, rfl, rfl⟩, ⟨trivial, rfl, rfl⟩, trivial⟩⟩, by show 7 - (a + 1) < 7 - a; omega⟩
      show AV.int .i64 (IntKind.i64.wrap ((a : Int) + 1)) = AV.int .i64 ((a + 1 : Nat) : Int)
      rw [s64 (by omega)]
    · refine condN (by simp; omega) ?_
      conv => whnf
      refine blkCall (Scans_tr I) rfl rfl rfl ?_
      conv => whnf
      refine ⟨rfl, ?_⟩
      conv => whnf
      refine ⟨?_, rfl, rfl⟩
      show AV.bool (I.n == I.n) = _
      rw [beq_self_eq_true]
  · subst hv
    exact ⟨[], rfl, rfl, rfl, ⟨⟨rfl, rfl⟩, trivial⟩, ⟨⟨trivial, rfl, h0⟩, ⟨trivial, rfl, h1⟩, trivial⟩⟩
/-- the example's image -/
def exI : Img := Img.zero.put 5 1 4660
set_option maxRecDepth 20000 in
theorem laid1_tr : Tr Try.prog 70 [.sl 3 0 0 1] ⟨1, [(0, some (.obj [.int .i64 5, .int .i64 1, .int .u16 4660]))]⟩ fun v s => v = .tup [.ptr 1 0, .ptr 2 0] ∧ s = ⟨3, [(1, some (imC exI)), (2, some (rmC exI))]⟩ := by
  refine Tr.norm (K := fun v s => v = .tup [.ptr 1 0, .ptr 2 0] ∧ s.get 1 = some (imC exI) ∧ s.get 2 = some (rmC exI)) (trF g70 b70 c70 ?_) fun v s ⟨hv, h0, h1⟩ => ⟨_, _, ?_, rfl, rfl⟩
  · conv => whnf
    refine newCall New_tr ?_
    conv => whnf
    refine newCall rNew_tr ?_
    conv => whnf
    refine loopI (α := Bool) (fun q => [(0, .sl 3 0 0 1), (4, .ptr 1 0), (5, .ptr 2 0), (6, .int .i64 (if q then 1 else 0))]) (fun q => ⟨3, [(0, some (.obj [.int .i64 5, .int .i64 1, .int .u16 4660])), (1, some (imC (if q then exI else .zero))), (2, some (rmC (if q then exI else .zero)))]⟩) (fun q => if q then 0 else 1) false
        ⟨[], rfl, rfl, rfl, ⟨⟨rfl, rfl⟩, ⟨rfl, rfl⟩, ⟨rfl, rfl⟩, ⟨rfl, rfl⟩, trivial⟩, ⟨⟨rfl, rfl, rfl⟩, ⟨trivial, rfl, rfl⟩, ⟨trivial, rfl, rfl⟩, trivial⟩⟩ fun q => ?_
    cases q
    · conv => whnf
      refine blkCall (Put_tr .zero 5 1 4660 (by decide)) rfl rfl rfl ?_
      conv => whnf
      refine blkCall (rPut_tr .zero 5 1 4660) rfl rfl rfl ?_
      conv => whnf
      refine ⟨true, ⟨[], rfl, rfl, rfl, ⟨⟨rfl, rfl⟩, ⟨rfl, rfl⟩, ⟨rfl, rfl⟩, ⟨rfl, rfl⟩, trivial⟩, ⟨⟨rfl, rfl, rfl⟩, ⟨trivial, rfl, rfl⟩, ⟨trivial, rfl, rfl⟩, trivial⟩⟩, by decide⟩
    · conv => whnf
      exact ⟨rfl, rfl, rfl⟩
  · subst hv
    exact ⟨[], rfl, rfl, rfl, ⟨⟨rfl, rfl⟩, trivial⟩, ⟨⟨trivial, rfl, h0⟩, ⟨trivial, rfl, h1⟩, trivial⟩⟩
theorem laid1Call {h : Nat} {s : St} {K : AV → St → Prop} (hg : s.get h = some (.obj [.int .i64 5, .int .i64 1, .int .u16 4660]))
    (kk : openS s fun n m => K (.tup [.ptr n 0, .ptr (n + 1) 0]) ⟨n + 1 + 1, (n, some (imC exI)) :: (n + 1, some (rmC exI)) :: (h, none) :: m⟩) : Tr Try.prog 70 [.sl 3 h 0 1] s K := by
  refine Tr.call [(0, some h)] laid1_tr rfl rfl ⟨⟨rfl, rfl, hg⟩, trivial⟩ rfl fun v0 s0 ⟨hv, hs⟩ => ?_
  subst hv; subst hs
  rw [openS_eq] at kk
  exact kk
theorem ex1 : serveB exI [3, 0, 1, 0, 1] = [3, 2, 18, 52] := by decide +kernel
theorem ex2 : serveB exI [3, 0, 127, 0, 2] = [131, 2] := by decide +kernel
theorem ex3 : serveB exI [7] = [135, 1] := by decide +kernel
theorem ex4 : serveB exI [3, 0, 1, 0, 0] = [131, 3] := by decide +kernel
theorem ex5 : serveB exI [6, 0, 64, 0, 9] = [6, 0, 64, 0, 9] := by decide +kernel
theorem ei1 : serveI exI [3, 0, 1, 0, 1] = exI := by kernel_rfl
theorem ei2 : serveI exI [3, 0, 127, 0, 2] = exI := by kernel_rfl
theorem ei3 : serveI exI [7] = exI := by kernel_rfl
theorem ei4 : serveI exI [3, 0, 1, 0, 0] = exI := by kernel_rfl
def exJ : Img := serveI exI [6, 0, 64, 0, 9]
theorem ei6 : serveI exJ [] = exJ := rfl
theorem ex6 : serveB exJ [] = [] := rfl
theorem ev6 : getV exJ.o 6 0 = 9 := by decide +kernel
theorem served {l m : List Int} {I J : Img} (hl : l.length ≤ 1000) (hb : serveB I l = m) (hi : serveI I l = J) : ImT 71 [.ptr 0 0, .roI .u8 l] I (.roI .u8 m) J := by
  rw [← hb, ← hi]; exact Serve_tr I l hl
theorem bytes_is {l m : List Int} (h : l = m) : Ev Try.prog 50 [.roI .u8 l, .roI .u8 m] (.bool true) := by
  subst h; exact bytes_same l
set_option maxRecDepth 20000 in
theorem known25 : Ev Try.prog 69 [] (.bool true) := by
  refine FrzK.ev rfl (trF g69 b69 c69 ?_)
  conv => whnf
  refine laid1Call rfl ?_
  conv => whnf
  refine lend1 (h := 3) (n := 0) (v := .nils) rfl rfl ?_
  refine blkCall (served (l := [3, 0, 1, 0, 1]) (by decide) ex1 ei1) rfl rfl rfl ?_
  conv => whnf
  refine lend1 (h := 4) (n := 0) (v := .nils) rfl rfl ?_
  refine blkCall (served (l := [3, 0, 127, 0, 2]) (by decide) ex2 ei2) rfl rfl rfl ?_
  conv => whnf
  refine lend1 (h := 5) (n := 0) (v := .nils) rfl rfl ?_
  refine blkCall (served (l := [7]) (by decide) ex3 ei3) rfl rfl rfl ?_
  conv => whnf
  refine lend1 (h := 6) (n := 0) (v := .nils) rfl rfl ?_
  refine blkCall (served (l := [3, 0, 1, 0, 0]) (by decide) ex4 ei4) rfl rfl rfl ?_
  conv => whnf
  refine lend1 (h := 7) (n := 0) (v := .nils) rfl rfl ?_
  refine blkCall (served (l := [6, 0, 64, 0, 9]) (by decide) ex5 rfl) rfl rfl rfl ?_
  conv => whnf
  refine blkCall (Get_tr exJ 6 0) rfl rfl rfl ?_
  conv => whnf
  refine lend1 (h := 8) (n := 0) (v := .nils) rfl rfl ?_
  refine Ev.call (bytes_is (rfl : ([3, 2, 18, 52] : List Int) = [3, 2, 18, 52])) ?_
  conv => whnf
  refine lend1 (h := 9) (n := 0) (v := .nils) rfl rfl ?_
  refine Ev.call (bytes_is (rfl : ([131, 2] : List Int) = [131, 2])) ?_
  conv => whnf
  refine lend1 (h := 10) (n := 0) (v := .nils) rfl rfl ?_
  refine Ev.call (bytes_is (rfl : ([135, 1] : List Int) = [135, 1])) ?_
  conv => whnf
  refine lend1 (h := 11) (n := 0) (v := .nils) rfl rfl ?_
  refine Ev.call (bytes_is (rfl : ([131, 3] : List Int) = [131, 3])) ?_
  conv => whnf
  refine lend1 (h := 12) (n := 0) (v := .nils) rfl rfl ?_
  refine Ev.call (bytes_is (rfl : ([6, 0, 64, 0, 9] : List Int) = [6, 0, 64, 0, 9])) ?_
  conv => whnf
  rw [ev6]
  conv => whnf
  refine Tr.le (args' := [.ptr 1 0, .roI .u8 []]) ⟨Le.refl _, Le.nilI _, trivial⟩ ?_
  refine blkCall (served (l := []) (by decide) ex6 ei6) rfl rfl rfl ?_
  conv => whnf
  refine Tr.le (args' := [.roI .u8 [], .int .u8 6]) ⟨Le.nilI _, Le.refl _, trivial⟩ ?_
  refine Ev.call (exc_ev [] 6) ?_
  conv => whnf
  refine lend1 (h := 13) (n := 0) (v := .nils) rfl rfl ?_
  refine Ev.call (bytes_is (rfl : excB [] 6 = [128, 6])) ?_
  conv => whnf
  exact FrzK.le (Le.refl _)
end Go.Proofs.Ytomodeliimnddaa
set_option linter.unusedVariables false
set_option linter.unusedSimpArgs false
namespace Go.Proofs.Ytomodeliimnddaa
open Go.Ab
/- rung/runglaw25.SlaveServes -/
def a22 : ACode := (.seq (.reg [⟨(some 4), .mov (.c (.bool false)), none, false⟩])
 (.seq (.seq (.reg [⟨(some 9), .call 69 [], none, false⟩, ⟨(some 10), .un .not (.t 9), none, false⟩])
 (.cond (.t 10) (.seq (.reg [⟨(some 4), .mov (.c (.bool false)), none, false⟩])
 .ret)
 .skip))
 (.seq (.seq (.reg [⟨(some 11), .mov (.t 0), none, false⟩, ⟨(some 12), .len false (.t 11), none, false⟩, ⟨(some 13), .bin .gtr .other (.t 12) (.c (.int .i64 100)), none, false⟩, ⟨(some 14), .mov (.t 13), none, true⟩, ⟨(some 15), .mov (.t 1), (some (14, false)), false⟩, ⟨(some 16), .len false (.t 15), (some (14, false)), false⟩, ⟨(some 17), .bin .gtr .other (.t 16) (.c (.int .i64 40)), (some (14, false)), false⟩, ⟨(some 18), .pick (.t 14) (.c (.bool true)) (.t 17), none, false⟩])
 (.cond (.t 18) (.seq (.reg [⟨(some 4), .mov (.c (.bool true)), none, false⟩])
 .ret)
 .skip))
 (.seq (.reg [⟨(some 20), .mov (.t 0), none, false⟩, ⟨(some 21), .call 70 [(.t 20)], none, false⟩, ⟨(some 19), .mov (.t 21), none, false⟩, ⟨(some 22), .ext (.t 19) 0, none, false⟩, ⟨(some 23), .ext (.t 19) 1, none, false⟩, ⟨(some 5), .mov (.t 22), none, false⟩, ⟨(some 6), .mov (.t 23), none, false⟩])
 (.seq (.seq (.reg [⟨(some 7), .mov (.c (.int .i64 0)), none, false⟩])
 (.block 0 (.loop (.seq (.seq (.reg [⟨(some 24), .mov (.t 7), none, false⟩, ⟨(some 25), .mov (.t 1), none, false⟩, ⟨(some 26), .len false (.t 25), none, false⟩, ⟨(some 27), .bin .lss .other (.t 24) (.t 26), none, false⟩])
 (.cond (.t 27) .skip
 (.exit 0)))
 (.seq (.block 1 (.seq (.seq (.reg [⟨(some 30), .mov (.t 1), none, false⟩, ⟨(some 31), .mov (.t 7), none, false⟩, ⟨(some 32), .idx 1 none false (.t 30) (.t 31), none, false⟩, ⟨(some 33), .load false 1 (.t 32), none, false⟩, ⟨(some 34), .len false (.t 33), none, false⟩, ⟨(some 35), .bin .gtr .other (.t 34) (.c (.int .i64 600)), none, false⟩])
 (.cond (.t 35) (.seq (.reg [⟨(some 4), .mov (.c (.bool true)), none, false⟩])
 .ret)
 .skip))
 (.seq (.reg [⟨(some 36), .mov (.t 1), none, false⟩, ⟨(some 37), .mov (.t 7), none, false⟩, ⟨(some 38), .idx 1 none false (.t 36) (.t 37), none, false⟩, ⟨(some 39), .load false 1 (.t 38), none, false⟩, ⟨(some 40), .call 53 [(.t 39)], none, false⟩, ⟨(some 8), .mov (.t 40), none, false⟩])
 (.seq (.seq (.draw [⟨0, ⟨(some 41), .mov (.t 5), none, false⟩, false, [], []⟩, ⟨1, ⟨(some 42), .mov (.t 8), none, false⟩, false, [], []⟩, ⟨3, ⟨(some 44), .mov (.t 6), none, false⟩, false, [], []⟩, ⟨4, ⟨(some 45), .mov (.t 1), none, false⟩, false, [], []⟩, ⟨5, ⟨(some 46), .mov (.t 7), none, false⟩, false, [], []⟩, ⟨6, ⟨(some 47), .idx 1 none false (.t 45) (.t 46), none, false⟩, false, [], []⟩, ⟨7, ⟨(some 48), .load false 1 (.t 47), none, false⟩, false, [], []⟩, ⟨2, ⟨(some 43), .call 71 [(.t 41), (.t 42)], none, false⟩, true, [], [(.t 47)]⟩, ⟨8, ⟨(some 49), .call 92 [(.t 44), (.t 48)], none, false⟩, true, [], []⟩, ⟨9, ⟨(some 50), .call 50 [(.t 43), (.t 49)], none, false⟩, true, [], []⟩, ⟨10, ⟨(some 51), .un .not (.t 50), none, false⟩, false, [], []⟩, ⟨11, ⟨(some 52), .mov (.t 51), none, true⟩, false, [], []⟩, ⟨12, ⟨(some 53), .mov (.t 8), (some (52, false)), false⟩, false, [], []⟩, ⟨13, ⟨(some 54), .mov (.t 1), (some (52, false)), false⟩, false, [], []⟩, ⟨14, ⟨(some 55), .mov (.t 7), (some (52, false)), false⟩, false, [], []⟩, ⟨15, ⟨(some 56), .idx 1 none false (.t 54) (.t 55), (some (52, false)), false⟩, false, [], []⟩, ⟨16, ⟨(some 57), .load false 1 (.t 56), (some (52, false)), false⟩, false, [], []⟩, ⟨17, ⟨(some 58), .call 50 [(.t 53), (.t 57)], (some (52, false)), false⟩, true, [], []⟩, ⟨18, ⟨(some 59), .un .not (.t 58), (some (52, false)), false⟩, false, [], []⟩, ⟨19, ⟨(some 60), .pick (.t 52) (.c (.bool true)) (.t 59), none, false⟩, false, [], []⟩, ⟨20, ⟨(some 61), .mov (.t 60), none, true⟩, false, [], []⟩, ⟨21, ⟨(some 62), .mov (.t 5), (some (61, false)), false⟩, false, [], []⟩, ⟨22, ⟨(some 63), .mov (.t 6), (some (61, false)), false⟩, false, [], []⟩, ⟨23, ⟨(some 64), .call 93 [(.t 62), (.t 63)], (some (61, false)), false⟩, true, [], []⟩, ⟨24, ⟨(some 65), .un .not (.t 64), (some (61, false)), false⟩, false, [], []⟩, ⟨25, ⟨(some 66), .pick (.t 61) (.c (.bool true)) (.t 65), none, false⟩, false, [], []⟩])
 (.cond (.t 66) (.seq (.reg [⟨(some 4), .mov (.c (.bool false)), none, false⟩])
 .ret)
 .skip))
 (.seq (.draw [⟨0, ⟨(some 67), .mov (.t 1), none, false⟩, false, [], []⟩, ⟨1, ⟨(some 68), .mov (.t 7), none, false⟩, false, [], []⟩, ⟨2, ⟨(some 69), .idx 1 none false (.t 67) (.t 68), none, false⟩, false, [], []⟩, ⟨3, ⟨(some 70), .load false 1 (.t 69), none, false⟩, false, [], []⟩, ⟨4, ⟨(some 71), .mov (.t 7), none, false⟩, false, [], []⟩, ⟨5, ⟨(some 72), .conv (.int .u8) (.t 71), none, false⟩, false, [], []⟩, ⟨7, ⟨(some 74), .mov (.t 1), none, false⟩, false, [], []⟩, ⟨8, ⟨(some 75), .mov (.t 7), none, false⟩, false, [], []⟩, ⟨9, ⟨(some 76), .idx 1 none false (.t 74) (.t 75), none, false⟩, false, [], []⟩, ⟨10, ⟨(some 77), .load false 1 (.t 76), none, false⟩, false, [], []⟩, ⟨11, ⟨(some 78), .mov (.t 7), none, false⟩, false, [], []⟩, ⟨12, ⟨(some 79), .conv (.int .u8) (.t 78), none, false⟩, false, [], []⟩, ⟨6, ⟨(some 73), .call 94 [(.t 70), (.t 72)], none, false⟩, true, [], [(.t 76)]⟩, ⟨13, ⟨(some 80), .call 95 [(.t 77), (.t 79)], none, false⟩, true, [], []⟩, ⟨14, ⟨(some 81), .call 50 [(.t 73), (.t 80)], none, false⟩, true, [], []⟩, ⟨15, ⟨(some 82), .un .not (.t 81), none, false⟩, false, [], []⟩])
 (.cond (.t 82) (.seq (.reg [⟨(some 4), .mov (.c (.bool false)), none, false⟩])
 .ret)
 .skip))))))
 (.reg [⟨(some 28), .mov (.t 7), none, false⟩, ⟨(some 29), .bin .add .other (.t 28) (.c (.int .i64 1)), none, false⟩, ⟨(some 7), .mov (.t 29), none, false⟩]))))))
 (.seq (.reg [⟨(some 4), .mov (.c (.bool true)), none, false⟩])
 .ret))))))
def r22 : List ARes := [.t 4]
theorem c22 : compF Try.prog Try.f22 = some (a22, r22) := by kernel_rfl

theorem b22 : hasBody Try.prog 22 = true := by kernel_rfl
theorem g22 : Try.prog.funcs[22]? = some Try.f22 := by kernel_rfl
/- rung/runglaw25.SlaveTells -/
def a25 : ACode := (.seq (.reg [⟨(some 4), .mov (.c (.bool false)), none, false⟩])
 (.seq (.seq (.reg [⟨(some 8), .call 69 [], none, false⟩, ⟨(some 9), .un .not (.t 8), none, false⟩])
 (.cond (.t 9) (.seq (.reg [⟨(some 4), .mov (.c (.bool false)), none, false⟩])
 .ret)
 .skip))
 (.seq (.seq (.reg [⟨(some 10), .mov (.t 0), none, false⟩, ⟨(some 11), .len false (.t 10), none, false⟩, ⟨(some 12), .bin .gtr .other (.t 11) (.c (.int .i64 100)), none, false⟩, ⟨(some 13), .mov (.t 12), none, true⟩, ⟨(some 14), .mov (.t 1), (some (13, false)), false⟩, ⟨(some 15), .len false (.t 14), (some (13, false)), false⟩, ⟨(some 16), .bin .gtr .other (.t 15) (.c (.int .i64 600)), (some (13, false)), false⟩, ⟨(some 17), .pick (.t 13) (.c (.bool true)) (.t 16), none, false⟩])
 (.cond (.t 17) (.seq (.reg [⟨(some 4), .mov (.c (.bool true)), none, false⟩])
 .ret)
 .skip))
 (.seq (.reg [⟨(some 19), .mov (.t 0), none, false⟩, ⟨(some 20), .call 70 [(.t 19)], none, false⟩, ⟨(some 18), .mov (.t 20), none, false⟩, ⟨(some 21), .ext (.t 18) 0, none, false⟩, ⟨(some 22), .ext (.t 18) 1, none, false⟩, ⟨(some 5), .mov (.t 21), none, false⟩, ⟨(some 6), .mov (.t 22), none, false⟩])
 (.seq (.reg [⟨(some 23), .mov (.t 5), none, false⟩, ⟨(some 24), .mov (.t 1), none, false⟩, ⟨(some 25), .call 71 [(.t 23), (.t 24)], none, false⟩, ⟨(some 7), .mov (.t 25), none, false⟩])
 (.seq (.seq (.reg [⟨(some 26), .mov (.t 1), none, false⟩, ⟨(some 27), .len false (.t 26), none, false⟩, ⟨(some 28), .bin .eql .other (.t 27) (.c (.int .i64 0)), none, false⟩])
 (.cond (.t 28) (.seq (.reg [⟨(some 29), .mov (.t 7), none, false⟩, ⟨(some 30), .len false (.t 29), none, false⟩, ⟨(some 31), .bin .eql .other (.t 30) (.c (.int .i64 0)), none, false⟩, ⟨(some 32), .mov (.t 31), none, true⟩, ⟨(some 33), .mov (.t 5), (some (32, true)), false⟩, ⟨(some 34), .mov (.t 6), (some (32, true)), false⟩, ⟨(some 35), .call 93 [(.t 33), (.t 34)], (some (32, true)), false⟩, ⟨(some 36), .pick (.t 32) (.t 35) (.c (.bool false)), none, false⟩, ⟨(some 4), .mov (.t 36), none, false⟩])
 .ret)
 .skip))
 (.seq (.seq (.draw [⟨0, ⟨(some 37), .mov (.t 7), none, false⟩, false, [], []⟩, ⟨1, ⟨(some 38), .len false (.t 37), none, false⟩, false, [], []⟩, ⟨2, ⟨(some 39), .bin .lss .other (.t 38) (.c (.int .i64 2)), none, false⟩, false, [], []⟩, ⟨3, ⟨(some 40), .mov (.t 39), none, true⟩, false, [], []⟩, ⟨4, ⟨(some 41), .mov (.t 7), (some (40, false)), false⟩, false, [], []⟩, ⟨5, ⟨(some 42), .len false (.t 41), (some (40, false)), false⟩, false, [], []⟩, ⟨6, ⟨(some 43), .bin .gtr .other (.t 42) (.c (.int .i64 253)), (some (40, false)), false⟩, false, [], []⟩, ⟨7, ⟨(some 44), .pick (.t 40) (.c (.bool true)) (.t 43), none, false⟩, false, [], []⟩, ⟨8, ⟨(some 45), .mov (.t 44), none, true⟩, false, [], []⟩, ⟨9, ⟨(some 46), .mov (.t 7), (some (45, false)), false⟩, false, [], []⟩, ⟨10, ⟨(some 47), .idx 1 none false (.t 46) (.c (.int .i64 0)), (some (45, false)), false⟩, false, [], []⟩, ⟨11, ⟨(some 48), .load false 1 (.t 47), (some (45, false)), false⟩, false, [], []⟩, ⟨12, ⟨(some 49), .bin .and .other (.t 48) (.c (.int .u8 127)), (some (45, false)), false⟩, false, [], []⟩, ⟨13, ⟨(some 50), .mov (.t 1), (some (45, false)), false⟩, false, [], []⟩, ⟨14, ⟨(some 51), .idx 1 none false (.t 50) (.c (.int .i64 0)), (some (45, false)), false⟩, false, [], []⟩, ⟨15, ⟨(some 52), .load false 1 (.t 51), (some (45, false)), false⟩, false, [], []⟩, ⟨16, ⟨(some 53), .bin .and .other (.t 52) (.c (.int .u8 127)), (some (45, false)), false⟩, false, [], []⟩, ⟨17, ⟨(some 54), .bin .neq .other (.t 49) (.t 53), (some (45, false)), false⟩, false, [], []⟩, ⟨18, ⟨(some 55), .pick (.t 45) (.c (.bool true)) (.t 54), none, false⟩, false, [], []⟩])
 (.cond (.t 55) (.seq (.reg [⟨(some 4), .mov (.c (.bool false)), none, false⟩])
 .ret)
 .skip))
 (.seq (.seq (.reg [⟨(some 56), .mov (.t 7), none, false⟩, ⟨(some 57), .idx 1 none false (.t 56) (.c (.int .i64 0)), none, false⟩, ⟨(some 58), .load false 1 (.t 57), none, false⟩, ⟨(some 59), .bin .lss .other (.t 58) (.c (.int .u8 128)), none, false⟩])
 (.cond (.t 59) (.seq (.draw [⟨0, ⟨(some 60), .mov (.t 1), none, false⟩, false, [], []⟩, ⟨1, ⟨(some 61), .idx 1 none false (.t 60) (.c (.int .i64 0)), none, false⟩, false, [], []⟩, ⟨2, ⟨(some 62), .load false 1 (.t 61), none, false⟩, false, [], []⟩, ⟨3, ⟨(some 63), .mov (.t 7), none, false⟩, false, [], []⟩, ⟨4, ⟨(some 64), .idx 1 none false (.t 63) (.c (.int .i64 0)), none, false⟩, false, [], []⟩, ⟨5, ⟨(some 65), .load false 1 (.t 64), none, false⟩, false, [], []⟩, ⟨6, ⟨(some 66), .bin .eql .other (.t 62) (.t 65), none, false⟩, false, [], []⟩, ⟨7, ⟨(some 67), .mov (.t 66), none, true⟩, false, [], []⟩, ⟨8, ⟨(some 68), .mov (.t 1), (some (67, true)), false⟩, false, [], []⟩, ⟨9, ⟨(some 69), .idx 1 none false (.t 68) (.c (.int .i64 0)), (some (67, true)), false⟩, false, [], []⟩, ⟨10, ⟨(some 70), .load false 1 (.t 69), (some (67, true)), false⟩, false, [], []⟩, ⟨11, ⟨(some 71), .call 66 [(.t 70)], (some (67, true)), false⟩, true, [], []⟩, ⟨12, ⟨(some 72), .pick (.t 67) (.t 71) (.c (.bool false)), none, false⟩, false, [], []⟩, ⟨13, ⟨(some 4), .mov (.t 72), none, false⟩, false, [], []⟩])
 .ret)
 .skip))
 (.seq (.draw [⟨0, ⟨(some 73), .mov (.t 7), none, false⟩, false, [], []⟩, ⟨1, ⟨(some 74), .len false (.t 73), none, false⟩, false, [], []⟩, ⟨2, ⟨(some 75), .bin .eql .other (.t 74) (.c (.int .i64 2)), none, false⟩, false, [], []⟩, ⟨3, ⟨(some 76), .mov (.t 75), none, true⟩, false, [], []⟩, ⟨4, ⟨(some 77), .mov (.t 7), (some (76, true)), false⟩, false, [], []⟩, ⟨5, ⟨(some 78), .idx 1 none false (.t 77) (.c (.int .i64 1)), (some (76, true)), false⟩, false, [], []⟩, ⟨6, ⟨(some 79), .load false 1 (.t 78), (some (76, true)), false⟩, false, [], []⟩, ⟨7, ⟨(some 80), .bin .geq .other (.t 79) (.c (.int .u8 1)), (some (76, true)), false⟩, false, [], []⟩, ⟨8, ⟨(some 81), .pick (.t 76) (.t 80) (.c (.bool false)), none, false⟩, false, [], []⟩, ⟨9, ⟨(some 82), .mov (.t 81), none, true⟩, false, [], []⟩, ⟨10, ⟨(some 83), .mov (.t 7), (some (82, true)), false⟩, false, [], []⟩, ⟨11, ⟨(some 84), .idx 1 none false (.t 83) (.c (.int .i64 1)), (some (82, true)), false⟩, false, [], []⟩, ⟨12, ⟨(some 85), .load false 1 (.t 84), (some (82, true)), false⟩, false, [], []⟩, ⟨13, ⟨(some 86), .bin .leq .other (.t 85) (.c (.int .u8 3)), (some (82, true)), false⟩, false, [], []⟩, ⟨14, ⟨(some 87), .pick (.t 82) (.t 86) (.c (.bool false)), none, false⟩, false, [], []⟩, ⟨15, ⟨(some 88), .mov (.t 87), none, true⟩, false, [], []⟩, ⟨16, ⟨(some 89), .mov (.t 5), (some (88, true)), false⟩, false, [], []⟩, ⟨17, ⟨(some 90), .mov (.t 6), (some (88, true)), false⟩, false, [], []⟩, ⟨18, ⟨(some 91), .call 93 [(.t 89), (.t 90)], (some (88, true)), false⟩, true, [], []⟩, ⟨19, ⟨(some 92), .pick (.t 88) (.t 91) (.c (.bool false)), none, false⟩, false, [], []⟩, ⟨20, ⟨(some 93), .mov (.t 92), none, true⟩, false, [], []⟩, ⟨21, ⟨(some 94), .mov (.t 7), (some (93, true)), false⟩, false, [], []⟩, ⟨22, ⟨(some 95), .idx 1 none false (.t 94) (.c (.int .i64 1)), (some (93, true)), false⟩, false, [], []⟩, ⟨23, ⟨(some 96), .load false 1 (.t 95), (some (93, true)), false⟩, false, [], []⟩, ⟨24, ⟨(some 97), .bin .eql .other (.t 96) (.c (.int .u8 1)), (some (93, true)), false⟩, false, [], []⟩, ⟨25, ⟨(some 98), .mov (.t 1), (some (93, true)), false⟩, false, [], []⟩, ⟨26, ⟨(some 99), .idx 1 none false (.t 98) (.c (.int .i64 0)), (some (93, true)), false⟩, false, [], []⟩, ⟨27, ⟨(some 100), .load false 1 (.t 99), (some (93, true)), false⟩, false, [], []⟩, ⟨28, ⟨(some 101), .call 66 [(.t 100)], (some (93, true)), false⟩, true, [], [(.t 95)]⟩, ⟨29, ⟨(some 102), .un .not (.t 101), (some (93, true)), false⟩, false, [], []⟩, ⟨30, ⟨(some 103), .bin .eql .bool (.t 97) (.t 102), (some (93, true)), false⟩, false, [], []⟩, ⟨31, ⟨(some 104), .pick (.t 93) (.t 103) (.c (.bool false)), none, false⟩, false, [], []⟩, ⟨32, ⟨(some 4), .mov (.t 104), none, false⟩, false, [], []⟩])
 .ret)))))))))
def r25 : List ARes := [.t 4]
theorem c25 : compF Try.prog Try.f25 = some (a25, r25) := by kernel_rfl

theorem b25 : hasBody Try.prog 25 = true := by kernel_rfl
theorem g25 : Try.prog.funcs[25]? = some Try.f25 := by kernel_rfl
/- rung/runglaw25.SlaveApart -/
def a14 : ACode := (.seq (.reg [⟨(some 4), .mov (.c (.bool false)), none, false⟩])
 (.seq (.seq (.reg [⟨(some 11), .call 69 [], none, false⟩, ⟨(some 12), .un .not (.t 11), none, false⟩])
 (.cond (.t 12) (.seq (.reg [⟨(some 4), .mov (.c (.bool false)), none, false⟩])
 .ret)
 .skip))
 (.seq (.seq (.reg [⟨(some 13), .mov (.t 0), none, false⟩, ⟨(some 14), .len false (.t 13), none, false⟩, ⟨(some 15), .bin .gtr .other (.t 14) (.c (.int .i64 100)), none, false⟩, ⟨(some 16), .mov (.t 15), none, true⟩, ⟨(some 17), .mov (.t 1), (some (16, false)), false⟩, ⟨(some 18), .len false (.t 17), (some (16, false)), false⟩, ⟨(some 19), .bin .gtr .other (.t 18) (.c (.int .i64 40)), (some (16, false)), false⟩, ⟨(some 20), .pick (.t 16) (.c (.bool true)) (.t 19), none, false⟩])
 (.cond (.t 20) (.seq (.reg [⟨(some 4), .mov (.c (.bool true)), none, false⟩])
 .ret)
 .skip))
 (.seq (.reg [⟨(some 22), .mov (.t 0), none, false⟩, ⟨(some 23), .call 70 [(.t 22)], none, false⟩, ⟨(some 21), .mov (.t 23), none, false⟩, ⟨(some 24), .ext (.t 21) 0, none, false⟩, ⟨(some 25), .ext (.t 21) 1, none, false⟩, ⟨(some 5), .mov (.t 24), none, false⟩, ⟨(some 6), .mov (.t 25), none, false⟩])
 (.seq (.seq (.reg [⟨(some 7), .mov (.c (.int .i64 0)), none, false⟩])
 (.block 0 (.loop (.seq (.seq (.reg [⟨(some 26), .mov (.t 7), none, false⟩, ⟨(some 27), .mov (.t 1), none, false⟩, ⟨(some 28), .len false (.t 27), none, false⟩, ⟨(some 29), .bin .lss .other (.t 26) (.t 28), none, false⟩])
 (.cond (.t 29) .skip
 (.exit 0)))
 (.seq (.block 1 (.seq (.seq (.reg [⟨(some 32), .mov (.t 1), none, false⟩, ⟨(some 33), .mov (.t 7), none, false⟩, ⟨(some 34), .idx 1 none false (.t 32) (.t 33), none, false⟩, ⟨(some 35), .load false 1 (.t 34), none, false⟩, ⟨(some 36), .len false (.t 35), none, false⟩, ⟨(some 37), .bin .gtr .other (.t 36) (.c (.int .i64 600)), none, false⟩])
 (.cond (.t 37) (.seq (.reg [⟨(some 4), .mov (.c (.bool true)), none, false⟩])
 .ret)
 .skip))
 (.seq (.reg [⟨(some 38), .mov (.t 5), none, false⟩, ⟨(some 39), .call 36 [(.t 38), (.c (.int .i64 2))], none, false⟩, ⟨(some 40), .mov (.t 5), none, false⟩, ⟨(some 41), .call 36 [(.t 40), (.c (.int .i64 3))], none, false⟩, ⟨(some 42), .app 1 2 (.t 39) (.t 41), none, false⟩, ⟨(some 43), .mov (.t 5), none, false⟩, ⟨(some 44), .call 36 [(.t 43), (.c (.int .i64 5))], none, false⟩, ⟨(some 45), .mov (.t 5), none, false⟩, ⟨(some 46), .call 36 [(.t 45), (.c (.int .i64 6))], none, false⟩, ⟨(some 47), .app 1 2 (.t 44) (.t 46), none, false⟩, ⟨(some 8), .mov (.t 42), none, false⟩, ⟨(some 9), .mov (.t 47), none, false⟩])
 (.seq (.reg [⟨(some 48), .mov (.t 5), none, false⟩, ⟨(some 49), .mov (.t 1), none, false⟩, ⟨(some 50), .mov (.t 7), none, false⟩, ⟨(some 51), .idx 1 none false (.t 49) (.t 50), none, false⟩, ⟨(some 52), .load false 1 (.t 51), none, false⟩, ⟨(some 53), .call 71 [(.t 48), (.t 52)], none, false⟩])
 (.seq (.reg [⟨(some 10), .mov (.c (.int .u8 0)), none, false⟩])
 (.seq (.seq (.reg [⟨(some 54), .mov (.t 1), none, false⟩, ⟨(some 55), .mov (.t 7), none, false⟩, ⟨(some 56), .idx 1 none false (.t 54) (.t 55), none, false⟩, ⟨(some 57), .load false 1 (.t 56), none, false⟩, ⟨(some 58), .len false (.t 57), none, false⟩, ⟨(some 59), .bin .gtr .other (.t 58) (.c (.int .i64 0)), none, false⟩])
 (.cond (.t 59) (.reg [⟨(some 60), .mov (.t 1), none, false⟩, ⟨(some 61), .mov (.t 7), none, false⟩, ⟨(some 62), .idx 1 none false (.t 60) (.t 61), none, false⟩, ⟨(some 63), .load false 1 (.t 62), none, false⟩, ⟨(some 64), .idx 1 none false (.t 63) (.c (.int .i64 0)), none, false⟩, ⟨(some 65), .load false 1 (.t 64), none, false⟩, ⟨(some 10), .mov (.t 65), none, false⟩])
 .skip))
 (.seq (.reg [⟨(some 66), .mov (.t 10), none, false⟩, ⟨(some 67), .bin .neq .other (.t 66) (.c (.int .u8 5)), none, false⟩, ⟨(some 68), .mov (.t 67), none, true⟩, ⟨(some 69), .mov (.t 10), (some (68, true)), false⟩, ⟨(some 70), .bin .neq .other (.t 69) (.c (.int .u8 15)), (some (68, true)), false⟩, ⟨(some 71), .pick (.t 68) (.t 70) (.c (.bool false)), none, false⟩, ⟨(some 72), .mov (.t 71), none, true⟩, ⟨(some 73), .mov (.t 5), (some (72, true)), false⟩, ⟨(some 74), .call 36 [(.t 73), (.c (.int .i64 2))], (some (72, true)), false⟩, ⟨(some 75), .mov (.t 5), (some (72, true)), false⟩, ⟨(some 76), .call 36 [(.t 75), (.c (.int .i64 3))], (some (72, true)), false⟩, ⟨(some 77), .app 1 2 (.t 74) (.t 76), (some (72, true)), false⟩, ⟨(some 78), .mov (.t 8), (some (72, true)), false⟩, ⟨(some 79), .call 35 [(.t 77), (.t 78)], (some (72, true)), false⟩, ⟨(some 80), .un .not (.t 79), (some (72, true)), false⟩, ⟨(some 81), .pick (.t 72) (.t 80) (.c (.bool false)), none, false⟩, ⟨(some 82), .mov (.t 81), none, true⟩, ⟨(some 83), .mov (.t 10), (some (82, false)), false⟩, ⟨(some 84), .bin .eql .other (.t 83) (.c (.int .u8 5)), (some (82, false)), false⟩, ⟨(some 85), .mov (.t 84), (some (82, false)), true⟩, ⟨(some 86), .mov (.t 10), (some (85, false)), false⟩, ⟨(some 87), .bin .eql .other (.t 86) (.c (.int .u8 15)), (some (85, false)), false⟩, ⟨(some 88), .pick (.t 85) (.c (.bool true)) (.t 87), (some (82, false)), false⟩, ⟨(some 89), .mov (.t 88), (some (82, false)), true⟩, ⟨(some 90), .mov (.t 10), (some (89, false)), false⟩, ⟨(some 91), .bin .lss .other (.t 90) (.c (.int .u8 6)), (some (89, false)), false⟩, ⟨(some 92), .pick (.t 89) (.c (.bool true)) (.t 91), (some (82, false)), false⟩, ⟨(some 93), .mov (.t 92), (some (82, false)), true⟩, ⟨(some 94), .mov (.t 5), (some (93, true)), false⟩, ⟨(some 95), .call 36 [(.t 94), (.c (.int .i64 5))], (some (93, true)), false⟩, ⟨(some 96), .mov (.t 5), (some (93, true)), false⟩, ⟨(some 97), .call 36 [(.t 96), (.c (.int .i64 6))], (some (93, true)), false⟩, ⟨(some 98), .app 1 2 (.t 95) (.t 97), (some (93, true)), false⟩, ⟨(some 99), .mov (.t 9), (some (93, true)), false⟩, ⟨(some 100), .call 35 [(.t 98), (.t 99)], (some (93, true)), false⟩, ⟨(some 101), .un .not (.t 100), (some (93, true)), false⟩, ⟨(some 102), .pick (.t 93) (.t 101) (.c (.bool false)), (some (82, false)), false⟩, ⟨(some 103), .pick (.t 82) (.c (.bool true)) (.t 102), none, false⟩])
 (.cond (.t 103) (.seq (.reg [⟨(some 4), .mov (.c (.bool false)), none, false⟩])
 .ret)
 .skip))))))))
 (.reg [⟨(some 30), .mov (.t 7), none, false⟩, ⟨(some 31), .bin .add .other (.t 30) (.c (.int .i64 1)), none, false⟩, ⟨(some 7), .mov (.t 31), none, false⟩]))))))
 (.seq (.reg [⟨(some 104), .mov (.t 5), none, false⟩, ⟨(some 105), .call 36 [(.t 104), (.c (.int .i64 1))], none, false⟩, ⟨(some 106), .mov (.t 6), none, false⟩, ⟨(some 107), .call 37 [(.t 106), (.c (.int .i64 1))], none, false⟩, ⟨(some 108), .call 35 [(.t 105), (.t 107)], none, false⟩, ⟨(some 109), .mov (.t 108), none, true⟩, ⟨(some 110), .mov (.t 5), (some (109, true)), false⟩, ⟨(some 111), .call 36 [(.t 110), (.c (.int .i64 4))], (some (109, true)), false⟩, ⟨(some 112), .mov (.t 6), (some (109, true)), false⟩, ⟨(some 113), .call 37 [(.t 112), (.c (.int .i64 4))], (some (109, true)), false⟩, ⟨(some 114), .call 35 [(.t 111), (.t 113)], (some (109, true)), false⟩, ⟨(some 115), .pick (.t 109) (.t 114) (.c (.bool false)), none, false⟩, ⟨(some 4), .mov (.t 115), none, false⟩])
 .ret))))))
def r14 : List ARes := [.t 4]
theorem c14 : compF Try.prog Try.f14 = some (a14, r14) := by kernel_rfl

theorem b14 : hasBody Try.prog 14 = true := by kernel_rfl
theorem g14 : Try.prog.funcs[14]? = some Try.f14 := by kernel_rfl

theorem copyE (l : List Int) (hl : l.length ≤ 100000) : Ev Try.prog 53 [.roI .u8 l] (.roI .u8 l) := Ev.row rfl (copy_tr l hl)
def byteR (l : List Int) : AV := .roI .u8 l
set_option maxRecDepth 20000 in
theorem law22 (S : List Ptv) (R : List (List Int)) (hS : ∀ x ∈ S, 0 ≤ x.v ∧ x.v < 65536) (hR : ∀ l ∈ R, isB l) : Ev Try.prog 22 [.ro 3 (S.map ptvV), .ro 1 (R.map byteR)] (.bool true) := by
  refine FrzK.ev rfl (trF g22 b22 c22 ?_)
  conv => whnf
  refine Ev.call known25 ?_
  conv => whnf
  refine condS (fun h => ?_) (fun h => ?_)
  · conv => whnf
    exact FrzK.le (Le.refl _)
  conv => whnf
  have hl : S.length ≤ 100 := by simp at h; omega
  refine condS (fun h => ?_) (fun h => ?_)
  · conv => whnf
    exact FrzK.le (Le.refl _)
  conv => whnf
  have hl2 : R.length ≤ 40 := by simp at h; omega
  refine laidCall (laid_tr S hS (by omega)) rfl rfl fun I0 hI0 => ?_
  conv => whnf
  refine loopI (α := {i : Nat // i ≤ R.length} × Img) (fun q => [(0, .ro 3 (S.map ptvV)), (1, .ro 1 (R.map byteR)), (5, .ptr 0 0), (6, .ptr 1 0), (7, .int .i64 q.1.1)]) (fun q => ⟨2, [(0, some (imC q.2)), (1, some (rmC q.2))]⟩) (fun q => R.length - q.1.1) (⟨0, Nat.zero_le _⟩, I0)
      ⟨[], rfl, rfl, rfl, ⟨⟨rfl, rfl⟩, ⟨rfl, rfl⟩, ⟨rfl, rfl⟩, ⟨rfl, rfl⟩, ⟨rfl, rfl⟩, trivial⟩, ⟨⟨trivial, rfl, rfl⟩, ⟨trivial, rfl, rfl⟩, trivial⟩⟩ fun ⟨⟨i, hi⟩, I⟩ => ?_
  conv => whnf
  by_cases hlt : i < R.length
  · refine condY (by simp; omega) ?_
    conv => whnf
    obtain ⟨l, hlR, hx⟩ := map_getD (f := byteR) hlt
    have hb := hR l hlR
    have hx : (R.map byteR).getD (Int.toNat (i : Int)) .undef = byteR l := hx
    refine condT (by simp; omega) ?_
    rw [hx]
    conv => whnf
    refine condF (fun h => ?_) (fun h => ?_)
    · conv => whnf
      have hle : l.length ≤ 600 := by simp at h; omega
      repeat' (first
        | (refine condT (by simp; omega) ?_; rw [hx]; conv => whnf)
        | (refine Ev.call (copyE l (by omega)) ?_; conv => whnf)
        | (refine blkCall (Serve_tr I l (by omega)) rfl rfl rfl ?_; conv => whnf)
        | (refine blkCall (rServe_tr I l (by omega) hb) rfl rfl rfl ?_; conv => whnf)
        | (refine Ev.call (bytes_same _) ?_; conv => whnf)
        | (refine twoCall (salike_tr _) rfl rfl rfl rfl ?_; conv => whnf)
        | (refine Ev.call (exc_ev _ _) ?_; conv => whnf)
        | (refine Ev.call (rexc_ev _ _) ?_; conv => whnf)
        | (refine ⟨rfl, ?_⟩; conv => whnf)
        | fail)
      refine ⟨(⟨i + 1, hlt⟩, serveI I l), ⟨[], rfl, rfl, rfl, ⟨⟨rfl, rfl⟩, ⟨rfl, rfl⟩, ⟨rfl, rfl⟩, ⟨rfl, rfl⟩, ⟨?_, rfl⟩, trivial⟩, ⟨⟨trivial, rfl, rfl⟩, ⟨trivial, rfl, rfl⟩, trivial⟩⟩, by show R.length - (i + 1) < R.length - i; omega⟩
      show AV.int .i64 (IntKind.i64.wrap ((i : Int) + 1)) = AV.int .i64 ((i + 1 : Nat) : Int)
      rw [s64 (by omega)]
    · conv => whnf
      exact FrzK.le (Le.refl _)
  · refine condN (by simp; omega) ?_
    conv => whnf
    exact FrzK.le (Le.refl _)
theorem rep_row {f x a n : Int} {b : List Bool} {r : List Int} (h : repOk f x a n b r = true) : repB f x a n b r = (repS f x a n b r).row := if_pos h
theorem does_head (I : Img) (f a n a2 : Int) (b : List Bool) (r : List Int) (hf : knownB f = true) (h : OkQ f a n a2 b r) : ∃ t, doesB I f a n a2 b r = f :: t ∧ 1 ≤ t.length ∧ t.length ≤ 252 := by
  simp only [knownB, Bool.or_eq_true, beq_iff_eq] at hf
  obtain ⟨ha, hn, ha2, hb, hr, hx, ok⟩ := h
  rcases hf with ((((((((rfl | rfl) | rfl) | rfl) | rfl) | rfl) | rfl) | rfl) | rfl) | rfl
  · have hk : encOk 1 n a2 b r = true := ok
    simp [encOk, withinB] at hk
    have ho : repOk 1 0 0 0 ((tgs I.o 1 a n.toNat).map fun x => x != 0) [] = true := by
      simp [repOk, withinB, tgs_length]
      try omega
    rw [show doesB I 1 a n a2 b r = repB 1 0 0 0 ((tgs I.o 1 a n.toNat).map fun x => x != 0) [] from rfl, rep_row ho]
    refine ⟨_, rfl, ?_, ?_⟩
    all_goals
      simp [packN_length, twos_length, two8, tgs_length]
      try omega
  · have hk : encOk 2 n a2 b r = true := ok
    simp [encOk, withinB] at hk
    have ho : repOk 2 0 0 0 ((tgs I.o 2 a n.toNat).map fun x => x != 0) [] = true := by
      simp [repOk, withinB, tgs_length]
      try omega
    rw [show doesB I 2 a n a2 b r = repB 2 0 0 0 ((tgs I.o 2 a n.toNat).map fun x => x != 0) [] from rfl, rep_row ho]
    refine ⟨_, rfl, ?_, ?_⟩
    all_goals
      simp [packN_length, twos_length, two8, tgs_length]
      try omega
  · have hk : encOk 3 n a2 b r = true := ok
    simp [encOk, withinB] at hk
    have ho : repOk 3 0 0 0 [] (tgs I.o 3 a n.toNat) = true := by
      simp [repOk, withinB, tgs_length]
      try omega
    rw [show doesB I 3 a n a2 b r = repB 3 0 0 0 [] (tgs I.o 3 a n.toNat) from rfl, rep_row ho]
    refine ⟨_, rfl, ?_, ?_⟩
    all_goals
      simp [packN_length, twos_length, two8, tgs_length]
      try omega
  · have hk : encOk 4 n a2 b r = true := ok
    simp [encOk, withinB] at hk
    have ho : repOk 4 0 0 0 [] (tgs I.o 4 a n.toNat) = true := by
      simp [repOk, withinB, tgs_length]
      try omega
    rw [show doesB I 4 a n a2 b r = repB 4 0 0 0 [] (tgs I.o 4 a n.toNat) from rfl, rep_row ho]
    refine ⟨_, rfl, ?_, ?_⟩
    all_goals
      simp [packN_length, twos_length, two8, tgs_length]
      try omega
  · have hk : encOk 5 n a2 b r = true := ok
    simp [encOk, withinB] at hk
    have ho : repOk 5 0 a 0 b [] = true := by
      simp [repOk, withinB, tgs_length]
      try omega
    rw [show doesB I 5 a n a2 b r = repB 5 0 a 0 b [] from rfl, rep_row ho]
    refine ⟨_, rfl, ?_, ?_⟩
    all_goals
      simp [packN_length, twos_length, two8, tgs_length]
      try omega
  · have hk : encOk 6 n a2 b r = true := ok
    simp [encOk, withinB] at hk
    have ho : repOk 6 0 a 0 [] r = true := by
      simp [repOk, withinB, tgs_length]
      try omega
    rw [show doesB I 6 a n a2 b r = repB 6 0 a 0 [] r from rfl, rep_row ho]
    refine ⟨_, rfl, ?_, ?_⟩
    all_goals
      simp [packN_length, twos_length, two8, tgs_length]
      try omega
  · have hk : encOk 15 n a2 b r = true := ok
    simp [encOk, withinB] at hk
    have ho : repOk 15 0 a b.length [] [] = true := by
      simp [repOk, withinB, tgs_length]
      try omega
    rw [show doesB I 15 a n a2 b r = repB 15 0 a b.length [] [] from rfl, rep_row ho]
    refine ⟨_, rfl, ?_, ?_⟩
    all_goals
      simp [packN_length, twos_length, two8, tgs_length]
      try omega
  · have hk : encOk 16 n a2 b r = true := ok
    simp [encOk, withinB] at hk
    have ho : repOk 16 0 a r.length [] [] = true := by
      simp [repOk, withinB, tgs_length]
      try omega
    rw [show doesB I 16 a n a2 b r = repB 16 0 a r.length [] [] from rfl, rep_row ho]
    refine ⟨_, rfl, ?_, ?_⟩
    all_goals
      simp [packN_length, twos_length, two8, tgs_length]
      try omega
  · have hk : encOk 22 n a2 b r = true := ok
    simp [encOk, withinB] at hk
    have ho : repOk 22 0 a 0 [] r = true := by
      simp [repOk, withinB, tgs_length]
      try omega
    rw [show doesB I 22 a n a2 b r = repB 22 0 a 0 [] r from rfl, rep_row ho]
    refine ⟨_, rfl, ?_, ?_⟩
    all_goals
      simp [packN_length, twos_length, two8, tgs_length]
      try omega
  · have hk : encOk 23 n a2 b r = true := ok
    simp [encOk, withinB] at hk
    have ho : repOk 23 0 0 0 [] (tgs (tps I 23 a2 r).o 23 a n.toNat) = true := by
      simp [repOk, withinB, tgs_length]
      try omega
    rw [show doesB I 23 a n a2 b r = repB 23 0 0 0 [] (tgs (tps I 23 a2 r).o 23 a n.toNat) from rfl, rep_row ho]
    refine ⟨_, rfl, ?_, ?_⟩
    all_goals
      simp [packN_length, twos_length, two8, tgs_length]
      try omega
theorem excB_eq (l : List Int) (c : Int) : excB l c = [or128 (l.getD 0 0), c] := rfl
/-- what is told: a reply that begins with the function, or an exception, and then nothing has changed -/
theorem tells (I : Img) (l : List Int) (h0 : l ≠ []) (hl : l.length ≤ 1000) :
    (∃ t, serveB I l = l.getD 0 0 :: t ∧ 1 ≤ t.length ∧ t.length ≤ 252 ∧ knownB (l.getD 0 0) = true) ∨
    (∃ c, serveB I l = [or128 (l.getD 0 0), c] ∧ serveI I l = I ∧ (c = 1 ∨ c = 2 ∨ c = 3) ∧ (c == 1) = !knownB (l.getD 0 0)) := by
  unfold serveB serveI
  rw [if_neg h0, if_neg h0]
  by_cases hk : knownB (l.getD 0 0) = true
  · rw [if_pos hk, if_pos hk]
    by_cases he : (decS l).2 = 0
    · rw [if_pos he, if_pos he]
      obtain ⟨h1, h2⟩ := decS_ok l hl he
      by_cases ht : thereB (decS l).1.f (decS l).1.a (decS l).1.n (decS l).1.a2 (decS l).1.b (decS l).1.r = true
      · rw [if_pos ht, if_pos ht]
        left
        obtain ⟨t, k1, k2, k3⟩ := does_head I _ _ _ _ _ _ (by rw [h1]; exact hk) h2
        exact ⟨t, by rw [k1, h1], k2, k3, hk⟩
      · rw [if_neg ht, if_neg ht]
        exact .inr ⟨2, rfl, rfl, .inr (.inl rfl), by rw [hk]; rfl⟩
    · rw [if_neg he, if_neg he]
      exact .inr ⟨3, rfl, rfl, .inr (.inr rfl), by rw [hk]; rfl⟩
  · rw [if_neg hk, if_neg hk]
    exact .inr ⟨1, rfl, rfl, .inl rfl, by rw [Bool.not_eq_true] at hk; rw [hk]; rfl⟩
def and127 (x : Int) : Int := IntKind.u8.wrap ↑(BitVec.ofInt IntKind.u8.bits x &&& BitVec.ofInt IntKind.u8.bits 127).toNat
theorem or_and_fin : ∀ x : Fin 256, and127 (or128 (x.val : Int)) = and127 (x.val : Int) ∧ 128 ≤ or128 (x.val : Int) := by decide +kernel
theorem or_and (x : Int) (hx : 0 ≤ x ∧ x < 256) : and127 (or128 x) = and127 x ∧ 128 ≤ or128 x := by
  obtain ⟨n, rfl⟩ := Int.eq_ofNat_of_zero_le hx.1
  exact or_and_fin ⟨n, by omega⟩
set_option maxRecDepth 20000 in
theorem law25 (S : List Ptv) (l : List Int) (hS : ∀ x ∈ S, 0 ≤ x.v ∧ x.v < 65536) (hb : isB l) : Ev Try.prog 25 [.ro 3 (S.map ptvV), .roI .u8 l] (.bool true) := by
  refine FrzK.ev rfl (trF g25 b25 c25 ?_)
  conv => whnf
  refine Ev.call known25 ?_
  conv => whnf
  refine condS (fun h => ?_) (fun h => ?_)
  · conv => whnf
    exact FrzK.le (Le.refl _)
  conv => whnf
  have hl : S.length ≤ 100 := by simp at h; omega
  refine condS (fun h => ?_) (fun h => ?_)
  · conv => whnf
    exact FrzK.le (Le.refl _)
  conv => whnf
  have hl2 : l.length ≤ 600 := by simp at h; omega
  refine laidCall (laid_tr S hS (by omega)) rfl rfl fun I hI => ?_
  conv => whnf
  refine blkCall (Serve_tr I l (by omega)) rfl rfl rfl ?_
  by_cases h0 : l = []
  · subst h0
    conv => whnf
    refine twoCall (salike_tr _) rfl rfl rfl rfl ?_
    conv => whnf
    exact FrzK.le (Le.refl _)
  have hlen : 0 < l.length := by
    cases l with
    | nil => exact absurd rfl h0
    | cons a t => simp
  rcases tells I l h0 (by omega) with ⟨t, hG, k1, k2, k3⟩ | ⟨c, hG, hJ, hc, hc1⟩
  · rw [hG]
    generalize serveI I l = J
    conv => whnf
    have kl : l.getD 0 0 < 128 := by
      simp only [knownB, Bool.or_eq_true, beq_iff_eq] at k3
      omega
    refine condN (by simp; omega) ?_
    conv => whnf
    refine condN (by simp; omega) ?_
    conv => whnf
    refine condN (by simp; omega) ?_
    conv => whnf
    repeat' (first
      | (refine condT (by first | (simp; done) | (simp; omega)) ?_; conv => whnf)
      | fail)
    refine condN (bne_self_eq_false _) ?_
    conv => whnf
    repeat' (first
      | (refine condT (by first | (simp; done) | (simp; omega)) ?_; conv => whnf)
      | fail)
    refine condY (by show decide (l.getD 0 0 < 128) = true; exact decide_eq_true kl) ?_
    conv => whnf
    repeat' (first
      | (refine condT (by first | (simp; done) | (simp; omega)) ?_; conv => whnf)
      | fail)
    refine condY (by show (l.getD 0 0 == l.getD 0 0) = true; exact beq_self_eq_true _) ?_
    conv => whnf
    repeat' (first
      | (refine condT (by first | (simp; done) | (simp; omega)) ?_; conv => whnf)
      | fail)
    refine Ev.call (rknown_ev (l.getD 0 0)) ?_
    conv => whnf
    rw [k3]
    exact FrzK.le (Le.refl _)
  · rw [hG, hJ]
    obtain ⟨ha1, ha2⟩ := or_and (l.getD 0 0) (isB.getD hb 0)
    conv => whnf
    refine condN (by simp; omega) ?_
    conv => whnf
    repeat' (first
      | (refine condT (by first | (simp; done) | (simp; omega)) ?_; conv => whnf)
      | fail)
    refine condN (by show (and127 (or128 (l.getD 0 0)) != and127 (l.getD 0 0)) = false; rw [ha1]; exact bne_self_eq_false _) ?_
    conv => whnf
    repeat' (first
      | (refine condT (by first | (simp; done) | (simp; omega)) ?_; conv => whnf)
      | fail)
    refine condN (by show decide (or128 (l.getD 0 0) < 128) = false; exact decide_eq_false (by omega)) ?_
    conv => whnf
    repeat' (first
      | (refine condT (by first | (simp; done) | (simp; omega)) ?_; conv => whnf)
      | fail)
    refine condY (by show decide (c ≥ 1) = true; exact decide_eq_true (by omega)) ?_
    conv => whnf
    repeat' (first
      | (refine condT (by first | (simp; done) | (simp; omega)) ?_; conv => whnf)
      | fail)
    refine condY (by show decide (c ≤ 3) = true; exact decide_eq_true (by omega)) ?_
    conv => whnf
    refine twoCall (salike_tr _) rfl rfl rfl rfl ?_
    conv => whnf
    repeat' (first
      | (refine condT (by first | (simp; done) | (simp; omega)) ?_; conv => whnf)
      | fail)
    refine Ev.call (rknown_ev (l.getD 0 0)) ?_
    conv => whnf
    rw [show ([or128 (l.getD 0 0), c].getD (Int.toNat 1) 0 == 1) = !knownB (l.getD 0 0) from hc1, beq_self_eq_true]
    exact FrzK.le (Le.refl _)
end Go.Proofs.Ytomodeliimnddaa
set_option linter.unusedVariables false
set_option linter.unusedSimpArgs false
namespace Go.Proofs.Ytomodeliimnddaa
open Go.Ab
/- rung/runghelp.Place -/
def a68 : ACode := (.seq (.reg [⟨(some 4), .mov (.c (.int .i64 0)), none, false⟩])
 (.seq (.reg [⟨(some 5), .mov (.t 0), none, false⟩, ⟨(some 6), .mov (.t 1), none, false⟩, ⟨(some 7), .bin .rem .other (.t 5) (.t 6), none, false⟩, ⟨(some 0), .mov (.t 7), none, false⟩])
 (.seq (.seq (.reg [⟨(some 8), .mov (.t 0), none, false⟩, ⟨(some 9), .bin .lss .other (.t 8) (.c (.int .i64 0)), none, false⟩])
 (.cond (.t 9) (.reg [⟨(some 10), .mov (.t 0), none, false⟩, ⟨(some 11), .mov (.t 1), none, false⟩, ⟨(some 12), .bin .add .other (.t 10) (.t 11), none, false⟩, ⟨(some 0), .mov (.t 12), none, false⟩])
 .skip))
 (.seq (.reg [⟨(some 13), .mov (.t 0), none, false⟩, ⟨(some 4), .mov (.t 13), none, false⟩])
 .ret))))
def r68 : List ARes := [.t 4]
theorem c68 : compF Try.prog Try.f68 = some (a68, r68) := by kernel_rfl

theorem b68 : hasBody Try.prog 68 = true := by kernel_rfl
theorem g68 : Try.prog.funcs[68]? = some Try.f68 := by kernel_rfl
/- rung/runglaw25.SlaveEdges -/
def a13 : ACode := (.seq (.reg [⟨(some 6), .mov (.c (.bool false)), none, false⟩])
 (.seq (.seq (.reg [⟨(some 18), .call 69 [], none, false⟩, ⟨(some 19), .un .not (.t 18), none, false⟩])
 (.cond (.t 19) (.seq (.reg [⟨(some 6), .mov (.c (.bool false)), none, false⟩])
 .ret)
 .skip))
 (.seq (.reg [⟨(some 20), .mov (.t 0), none, false⟩, ⟨(some 21), .call 68 [(.t 20), (.c (.int .i64 8))], none, false⟩, ⟨(some 7), .mov (.t 21), none, false⟩])
 (.seq (.reg [⟨(some 22), .bslice 1 (.int .u8) [(.int .u8 0), (.int .u8 0), (.int .u8 0), (.int .u8 0), (.int .u8 0), (.int .u8 0), (.int .u8 0), (.int .u8 0)] [(0, 1, (.c (.int .u8 1))), (1, 1, (.c (.int .u8 2))), (2, 1, (.c (.int .u8 3))), (3, 1, (.c (.int .u8 4))), (4, 1, (.c (.int .u8 15))), (5, 1, (.c (.int .u8 16))), (6, 1, (.c (.int .u8 23))), (7, 1, (.c (.int .u8 22)))] 8, none, false⟩, ⟨(some 23), .mov (.t 7), none, false⟩, ⟨(some 24), .idx 1 none false (.t 22) (.t 23), none, false⟩, ⟨(some 25), .load false 1 (.t 24), none, false⟩, ⟨(some 8), .mov (.t 25), none, false⟩])
 (.seq (.reg [⟨(some 26), .bslice 1 (.int .i64) [(.int .i64 0), (.int .i64 0), (.int .i64 0), (.int .i64 0), (.int .i64 0), (.int .i64 0), (.int .i64 0), (.int .i64 0)] [(0, 1, (.c (.int .i64 256))), (1, 1, (.c (.int .i64 128))), (2, 1, (.c (.int .i64 128))), (3, 1, (.c (.int .i64 64))), (4, 1, (.c (.int .i64 256))), (5, 1, (.c (.int .i64 128))), (6, 1, (.c (.int .i64 128))), (7, 1, (.c (.int .i64 128)))] 8, none, false⟩, ⟨(some 27), .mov (.t 7), none, false⟩, ⟨(some 28), .idx 1 none false (.t 26) (.t 27), none, false⟩, ⟨(some 29), .load false 1 (.t 28), none, false⟩, ⟨(some 9), .mov (.t 29), none, false⟩])
 (.seq (.reg [⟨(some 30), .mov (.t 9), none, false⟩, ⟨(some 31), .bin .sub .other (.t 30) (.c (.int .i64 1)), none, false⟩, ⟨(some 32), .mov (.t 1), none, false⟩, ⟨(some 33), .conv (.int .i64) (.t 32), none, false⟩, ⟨(some 34), .bin .rem .other (.t 33) (.c (.int .i64 60)), none, false⟩, ⟨(some 35), .bin .sub .other (.t 31) (.t 34), none, false⟩, ⟨(some 10), .mov (.t 35), none, false⟩])
 (.seq (.reg [⟨(some 36), .mov (.t 9), none, false⟩, ⟨(some 37), .mov (.t 10), none, false⟩, ⟨(some 38), .bin .sub .other (.t 36) (.t 37), none, false⟩, ⟨(some 39), .mn (.t 38) (.c (.int .i64 60)), none, false⟩, ⟨(some 40), .mov (.t 2), none, false⟩, ⟨(some 41), .call 68 [(.t 40), (.c (.int .i64 4))], none, false⟩, ⟨(some 42), .bin .add .other (.t 39) (.t 41), none, false⟩, ⟨(some 43), .bin .sub .other (.t 42) (.c (.int .i64 2)), none, false⟩, ⟨(some 11), .mov (.t 43), none, false⟩])
 (.seq (.seq (.reg [⟨(some 44), .mov (.t 11), none, false⟩, ⟨(some 45), .bin .lss .other (.t 44) (.c (.int .i64 1)), none, false⟩])
 (.cond (.t 45) (.seq (.reg [⟨(some 6), .mov (.c (.bool true)), none, false⟩])
 .ret)
 .skip))
 (.seq (.reg [⟨(some 46), .mov (.t 8), none, false⟩, ⟨(some 47), .mov (.t 10), none, false⟩, ⟨(some 48), .conv (.int .u16) (.t 47), none, false⟩, ⟨(some 49), .mov (.t 11), none, false⟩, ⟨(some 50), .conv (.int .u16) (.t 49), none, false⟩, ⟨(some 51), .build [(.int .u8 0), (.int .u16 0), (.int .u16 0), (.int .u16 0), .nils, .nils] [(0, 1, (.t 46)), (1, 1, (.t 48)), (2, 1, (.t 50))], none, false⟩, ⟨(some 12), .alloc [(1, (.int .u8 0)), (3, (.int .u16 0)), (2, .nils)], none, false⟩, ⟨none, .store 6 (.t 12) (.t 51), none, false⟩])
 (.seq (.seq (.reg [⟨(some 52), .mov (.t 8), none, false⟩])
 (.block 0 (.seq (.reg [⟨(some 54), .bin .eql .other (.t 52) (.c (.int .u8 15)), none, false⟩, ⟨(some 53), .mov (.t 54), none, false⟩])
 (.cond (.t 53) (.draw [⟨0, ⟨(some 55), .mov (.t 11), none, false⟩, false, [], []⟩, ⟨1, ⟨(some 56), .mkslice 1 1 .bool [(.bool false)] (.t 55), none, false⟩, false, [], []⟩, ⟨2, ⟨(some 57), .fld 2 1 false (.t 12), none, false⟩, false, [], []⟩, ⟨3, ⟨none, .store 1 (.t 57) (.c (.int .u16 0)), none, false⟩, true, [], []⟩, ⟨4, ⟨(some 58), .fld 4 1 false (.t 12), none, false⟩, false, [], []⟩, ⟨5, ⟨none, .store 1 (.t 58) (.t 56), none, false⟩, true, [1], []⟩])
 (.seq (.reg [⟨(some 60), .bin .eql .other (.t 52) (.c (.int .u8 16)), none, false⟩, ⟨(some 59), .mov (.t 60), none, false⟩])
 (.cond (.t 59) (.draw [⟨0, ⟨(some 61), .mov (.t 11), none, false⟩, false, [], []⟩, ⟨1, ⟨(some 62), .mkslice 1 2 (.int .u16) [(.int .u16 0)] (.t 61), none, false⟩, false, [], []⟩, ⟨2, ⟨(some 63), .fld 2 1 false (.t 12), none, false⟩, false, [], []⟩, ⟨3, ⟨none, .store 1 (.t 63) (.c (.int .u16 0)), none, false⟩, true, [], []⟩, ⟨4, ⟨(some 64), .fld 5 1 false (.t 12), none, false⟩, false, [], []⟩, ⟨5, ⟨none, .store 1 (.t 64) (.t 62), none, false⟩, true, [1], []⟩])
 (.seq (.reg [⟨(some 66), .bin .eql .other (.t 52) (.c (.int .u8 22)), none, false⟩, ⟨(some 65), .mov (.t 66), none, false⟩])
 (.cond (.t 65) (.seq (.reg [⟨(some 67), .bslice 1 (.int .u16) [(.int .u16 0), (.int .u16 0)] [(0, 1, (.c (.int .u16 1))), (1, 1, (.c (.int .u16 2)))] 2, none, false⟩, ⟨(some 68), .fld 2 1 false (.t 12), none, false⟩, ⟨none, .store 1 (.t 68) (.c (.int .u16 0)), none, false⟩, ⟨(some 69), .fld 5 1 false (.t 12), none, false⟩, ⟨none, .store 1 (.t 69) (.t 67), none, false⟩])
 (.seq (.reg [⟨(some 70), .mov (.t 9), none, false⟩, ⟨(some 71), .mov (.t 2), none, false⟩, ⟨(some 72), .call 68 [(.t 71), (.c (.int .i64 4))], none, false⟩, ⟨(some 73), .bin .add .other (.t 70) (.t 72), none, false⟩, ⟨(some 74), .bin .sub .other (.t 73) (.c (.int .i64 2)), none, false⟩, ⟨(some 75), .conv (.int .u16) (.t 74), none, false⟩, ⟨(some 76), .fld 1 1 false (.t 12), none, false⟩, ⟨none, .store 1 (.t 76) (.t 75), none, false⟩])
 (.reg [⟨(some 77), .fld 1 1 false (.t 12), none, false⟩, ⟨(some 78), .load false 1 (.t 77), none, false⟩, ⟨(some 79), .conv (.int .i64) (.t 78), none, false⟩, ⟨(some 80), .mov (.t 10), none, false⟩, ⟨(some 81), .bin .sub .other (.t 79) (.t 80), none, false⟩, ⟨(some 82), .bin .add .other (.t 81) (.c (.int .i64 1)), none, false⟩, ⟨(some 11), .mov (.t 82), none, false⟩])))
 (.seq (.reg [⟨(some 84), .bin .eql .other (.t 52) (.c (.int .u8 23)), none, false⟩, ⟨(some 83), .mov (.t 84), none, false⟩])
 (.cond (.t 83) (.seq (.draw [⟨0, ⟨(some 85), .mov (.t 10), none, false⟩, false, [], []⟩, ⟨1, ⟨(some 86), .conv (.int .u16) (.t 85), none, false⟩, false, [], []⟩, ⟨2, ⟨(some 87), .mov (.t 11), none, false⟩, false, [], []⟩, ⟨3, ⟨(some 88), .mkslice 1 2 (.int .u16) [(.int .u16 0)] (.t 87), none, false⟩, false, [], []⟩, ⟨4, ⟨(some 89), .fld 2 1 false (.t 12), none, false⟩, false, [], []⟩, ⟨5, ⟨none, .store 1 (.t 89) (.c (.int .u16 1)), none, false⟩, true, [], []⟩, ⟨6, ⟨(some 90), .fld 3 1 false (.t 12), none, false⟩, false, [], []⟩, ⟨7, ⟨none, .store 1 (.t 90) (.t 86), none, false⟩, true, [], []⟩, ⟨8, ⟨(some 91), .fld 5 1 false (.t 12), none, false⟩, false, [], []⟩, ⟨9, ⟨none, .store 1 (.t 91) (.t 88), none, false⟩, true, [3], []⟩])
 (.reg [⟨(some 92), .fld 1 1 false (.t 12), none, false⟩, ⟨none, .store 1 (.t 92) (.c (.int .u16 0)), none, false⟩]))
 .skip))))))))))
 (.seq (.reg [⟨(some 94), .load true 6 (.t 12), none, false⟩, ⟨(some 95), .call 49 [(.t 94)], none, false⟩, ⟨(some 93), .mov (.t 95), none, false⟩, ⟨(some 96), .ext (.t 93) 0, none, false⟩, ⟨(some 97), .ext (.t 93) 1, none, false⟩, ⟨(some 13), .mov (.t 96), none, false⟩, ⟨(some 14), .mov (.t 97), none, false⟩])
 (.seq (.reg [⟨(some 99), .call 70 [(.c .nils)], none, false⟩, ⟨(some 98), .mov (.t 99), none, false⟩, ⟨(some 100), .ext (.t 98) 0, none, false⟩, ⟨(some 101), .ext (.t 98) 1, none, false⟩, ⟨(some 15), .mov (.t 100), none, false⟩, ⟨(some 16), .mov (.t 101), none, false⟩])
 (.seq (.reg [⟨(some 102), .mov (.t 15), none, false⟩, ⟨(some 103), .mov (.t 13), none, false⟩, ⟨(some 104), .call 71 [(.t 102), (.t 103)], none, false⟩, ⟨(some 17), .mov (.t 104), none, false⟩])
 (.seq (.seq (.reg [⟨(some 105), .mov (.t 14), none, false⟩, ⟨(some 106), .bin .neq .other (.t 105) (.c (.int .i64 0)), none, false⟩, ⟨(some 107), .mov (.t 106), none, true⟩, ⟨(some 108), .mov (.t 17), (some (107, false)), false⟩, ⟨(some 109), .len false (.t 108), (some (107, false)), false⟩, ⟨(some 110), .bin .lss .other (.t 109) (.c (.int .i64 2)), (some (107, false)), false⟩, ⟨(some 111), .pick (.t 107) (.c (.bool true)) (.t 110), none, false⟩])
 (.cond (.t 111) (.seq (.reg [⟨(some 6), .mov (.c (.bool false)), none, false⟩])
 .ret)
 .skip))
 (.seq (.seq (.reg [⟨(some 112), .mov (.t 10), none, false⟩, ⟨(some 113), .mov (.t 11), none, false⟩, ⟨(some 114), .bin .add .other (.t 112) (.t 113), none, false⟩, ⟨(some 115), .mov (.t 9), none, false⟩, ⟨(some 116), .bin .gtr .other (.t 114) (.t 115), none, false⟩])
 (.cond (.t 116) (.seq (.reg [⟨(some 117), .mov (.t 17), none, false⟩, ⟨(some 118), .mov (.t 8), none, false⟩, ⟨(some 119), .bin .or .other (.t 118) (.c (.int .u8 128)), none, false⟩, ⟨(some 120), .bslice 1 (.int .u8) [(.int .u8 0), (.int .u8 0)] [(0, 1, (.t 119)), (1, 1, (.c (.int .u8 2)))] 2, none, false⟩, ⟨(some 121), .call 50 [(.t 117), (.t 120)], none, false⟩, ⟨(some 6), .mov (.t 121), none, false⟩])
 .ret)
 .skip))
 (.seq (.reg [⟨(some 122), .mov (.t 17), none, false⟩, ⟨(some 123), .idx 1 none false (.t 122) (.c (.int .i64 0)), none, false⟩, ⟨(some 124), .load false 1 (.t 123), none, false⟩, ⟨(some 125), .mov (.t 8), none, false⟩, ⟨(some 126), .bin .eql .other (.t 124) (.t 125), none, false⟩, ⟨(some 6), .mov (.t 126), none, false⟩])
 .ret))))))))))))))))
def r13 : List ARes := [.t 6]
theorem c13 : compF Try.prog Try.f13 = some (a13, r13) := by kernel_rfl

theorem b13 : hasBody Try.prog 13 = true := by kernel_rfl
theorem g13 : Try.prog.funcs[13]? = some Try.f13 := by kernel_rfl

def placeS (k n : Int) : Int := if k.tmod n < 0 then k.tmod n + n else k.tmod n
theorem place_range (k n : Int) (h : 0 < n) : 0 ≤ placeS k n ∧ placeS k n < n := by
  unfold placeS
  have h1 := Int.tmod_lt_of_pos k h
  have h2 : -n < k.tmod n := by
    have := Int.tmod_lt_of_pos (-k) h
    rw [Int.neg_tmod] at this
    omega
  split <;> omega
theorem place_ev (k n : Int) (h : 0 < n) (h1 : n ≤ 100000) : Ev Try.prog 68 [.int .i64 k, .int .i64 n] (.int .i64 (placeS k n)) := by
  have hr := place_range k n h
  refine FrzK.ev rfl (trF g68 b68 c68 ?_)
  conv => whnf
  refine condT (by simp; omega) ?_
  conv => whnf
  unfold placeS at *
  refine condS (fun g => ?_) (fun g => ?_)
  · conv => whnf
    have g' : k.tmod n < 0 := by simpa using g
    rw [if_pos g'] at hr ⊢
    rw [IntWalk.i64_in _ (by omega)]
    exact FrzK.le (Le.refl _)
  · conv => whnf
    have g' : ¬ k.tmod n < 0 := by simpa using g
    rw [if_neg g']
    exact FrzK.le (Le.refl _)
theorem enc_len (f a n a2 : Int) (b : List Bool) (r : List Int) (hb : b.length ≤ 2500) (hr : r.length ≤ 400) : (encR f a n a2 b r).length ≤ 1000 := by
  unfold encR
  split
  · unfold reqS
    repeat' split
    all_goals (simp [row15, rowR, pre3, two8, packN_length, twos_length]; try omega)
  · simp
theorem serve_enc (I : Img) (f a n a2 : Int) (b : List Bool) (r : List Int) (hk : knownB f = true) (h : OkQ f a n a2 b r) (hr : r.length ≤ 400) :
    serveB I (encR f a n a2 b r) = (if thereB f a n a2 b r then doesB I f a n a2 b r else [or128 f, 2]) ∧ serveI I (encR f a n a2 b r) = (if thereB f a n a2 b r then doesI I f a n a2 b r else I) := by
  have hf : 0 ≤ f ∧ f < 256 ∧ f ≠ 0 := by
    simp only [knownB, Bool.or_eq_true, beq_iff_eq] at hk
    omega
  have hd := dec_enc f a n a2 b r ⟨hf.1, hf.2.1⟩ h.ha h.hn h.ha2 h.hx h.ok
  have hl := enc_len f a n a2 b r h.hb hr
  have h0 := (decS_ok _ hl (by rw [hd])).1
  rw [hd] at h0
  have h0 : f = (encR f a n a2 b r).getD 0 0 := h0
  have hne : encR f a n a2 b r ≠ [] := fun e => by rw [e] at h0; exact hf.2.2 h0
  unfold serveB serveI
  rw [if_neg hne, if_neg hne, ← h0, if_pos hk, if_pos hk, hd]
  simp only [if_true, excB_eq, ← h0]
  exact ⟨trivial, trivial⟩
theorem frz_reqB (h : Nat) (f a n a2 : Int) (L : List Bool) (len : Nat) (hl : len = L.length) : frzL h (.rowB L) [reqA f a n a2 (.sl 1 h 0 len) .nils] = [reqA f a n a2 (.roB L) .nils] := by
  show [AV.agg [_, _, _, _, AV.frz h (.rowB L) (.sl 1 h 0 len), _]] = _
  rw [frz_rowB h L len hl]; rfl
theorem frz_reqI (h : Nat) (f a n a2 : Int) (L : List Int) (len : Nat) (hl : len = L.length) : frzL h (.rowI .u16 L) [reqA f a n a2 .nils (.sl 1 h 0 len)] = [reqA f a n a2 .nils (.roI .u16 L)] := by
  show [AV.agg [_, _, _, _, _, AV.frz h (.rowI .u16 L) (.sl 1 h 0 len)]] = _
  rw [frz_row h .u16 L len hl]; rfl
theorem szB : szF 15 = 256 := rfl
theorem szR : szF 16 = 128 := rfl
theorem szR2 : szF 22 = 128 := rfl
theorem szR3 : szF 23 = 128 := rfl
theorem wLen' (n : Int) (h0 : 0 ≤ n) (h1 : n < 65536) : IntKind.u16.wrap n = n := Int.emod_eq_of_lt h0 h1
set_option maxRecDepth 20000 in
theorem law13 (fn at_ more : Int) (ha : 0 ≤ at_ ∧ at_ < 65536) : Ev Try.prog 13 [.int .i64 fn, .int .u16 at_, .int .i64 more] (.bool true) := by
  refine FrzK.ev rfl (trF g13 b13 c13 ?_)
  conv => whnf
  refine Ev.call known25 ?_
  conv => whnf
  refine Ev.call (place_ev fn 8 (by decide) (by decide)) ?_
  obtain ⟨k0, k1⟩ := place_range fn 8 (by decide)
  obtain ⟨m0, m1⟩ := place_range more 4 (by decide)
  have hat : IntKind.i64.wrap at_ = at_ := w64i (by omega) (by omega)
  have hx0 := Int.tmod_nonneg 60 ha.1
  have hx1 := Int.tmod_lt_of_pos at_ (show (0 : Int) < 60 by decide)
  have hk : placeS fn 8 = 0 ∨ placeS fn 8 = 1 ∨ placeS fn 8 = 2 ∨ placeS fn 8 = 3 ∨ placeS fn 8 = 4 ∨ placeS fn 8 = 5 ∨ placeS fn 8 = 6 ∨ placeS fn 8 = 7 := by omega
  rcases hk with hk | hk | hk | hk | hk | hk | hk | hk
  · rw [hk]
    conv => whnf
    have hz : [(256 : Int), 128, 128, 64, 256, 128, 128, 128].getD (0 + Int.toNat 0 * 1) 0 = 256 := rfl
    have hff : [(1 : Int), 2, 3, 4, 15, 16, 23, 22].getD (0 + Int.toNat 0 * 1) 0 = 1 := rfl
    rw [hz, hff, hat]
    generalize at_.tmod 60 = x at *
    have e1 : IntKind.i64.wrap (256 - 1) = 255 := rfl
    have e2 : IntKind.i64.wrap (255 - x) = 255 - x := w64i (by omega) (by omega)
    have e3 : IntKind.i64.wrap (256 - (255 - x)) = 1 + x := by rw [w64i (by omega) (by omega)]; omega
    rw [e1, e2, e3, if_neg (show ¬ (60 < 1 + x) by omega)]
    refine Ev.call (place_ev more 4 (by decide) (by decide)) ?_
    conv => whnf
    have hm := fun (P : Int → Prop) (h : P (placeS more 4)) => h
    generalize hM : placeS more 4 = m at *
    have e4 : IntKind.i64.wrap (1 + x + m) = 1 + x + m := w64i (by omega) (by omega)
    have e5 : IntKind.i64.wrap (1 + x + m - 2) = x + m - 1 := by rw [w64i (by omega) (by omega)]; omega
    rw [e4, e5]
    refine condF (fun h => ?_) (fun h => ?_)
    rotate_left
    · conv => whnf
      exact FrzK.le (Le.refl _)
    have hn1 : 1 ≤ x + m - 1 := by simp at h; omega
    conv => whnf
    rw [wLen' (255 - x) (by omega) (by omega), wLen' (x + m - 1) (by omega) (by omega)]
    have hok : encOk 1 (x + m - 1) 0 [] [] = true := by simp [encOk, withinB]; try omega
    have hE : encE 1 (x + m - 1) 0 [] [] = 0 := by unfold encE; rw [if_pos hok]
    have hQ : OkQ 1 (255 - x) (x + m - 1) 0 [] [] := ⟨by omega, by omega, by omega, by simp; try omega, by simp; try omega, by simp; try omega, hok⟩
    refine Tr.le (leReqN Le.nilB (Le.nilI _)) (Ev.call (rRequest_ev 1 (255 - x) (x + m - 1) 0 [] [] (by omega) (by omega) (by simp; try omega) (by simp; try omega)) ?_)
    conv => whnf
    rw [hE]
    refine laidCall laid0_tr rfl rfl fun I hI => ?_
    conv => whnf
    refine blkCall (Serve_tr I (encR 1 (255 - x) (x + m - 1) 0 [] []) (enc_len _ _ _ _ _ _ hQ.hb (by simp; try omega))) rfl rfl rfl ?_
    rw [(serve_enc I 1 (255 - x) (x + m - 1) 0 [] [] rfl hQ (by simp; try omega)).1]
    generalize serveI I _ = J
    have hT : thereB 1 (255 - x) (x + m - 1) 0 [] [] = !decide (255 - x + (x + m - 1) > 256) := by
      show hasB 1 (255 - x) (x + m - 1) = _
      exact hasB_eq 1 (255 - x) (x + m - 1) rfl (by omega) (by omega)
    have hw : IntKind.i64.wrap (255 - x + (x + m - 1)) = 255 - x + (x + m - 1) := w64i (by omega) (by omega)
    rw [hT]
    by_cases hh : decide (255 - x + (x + m - 1) > 256) = true
    · rw [if_neg (by rw [hh]; decide)]
      conv => whnf
      rw [hw]
      refine condY hh ?_
      conv => whnf
      refine lend1 (h := 5) (n := 0) (v := .nils) rfl rfl ?_
      refine Ev.call (bytes_is (l := [or128 1, 2]) rfl) ?_
      conv => whnf
      exact FrzK.le (Le.refl _)
    · obtain ⟨t, k1, k2, k3⟩ := does_head I 1 (255 - x) (x + m - 1) 0 [] [] rfl hQ
      rw [if_pos (by simpa using hh), k1]
      conv => whnf
      refine condN (by simp; omega) ?_
      conv => whnf
      rw [hw]
      refine condN (by simpa using hh) ?_
      conv => whnf
      refine condT (by simp) ?_
      conv => whnf
      exact FrzK.le (Le.refl _)
  · rw [hk]
    conv => whnf
    have hz : [(256 : Int), 128, 128, 64, 256, 128, 128, 128].getD (0 + Int.toNat 1 * 1) 0 = 128 := rfl
    have hff : [(1 : Int), 2, 3, 4, 15, 16, 23, 22].getD (0 + Int.toNat 1 * 1) 0 = 2 := rfl
    rw [hz, hff, hat]
    generalize at_.tmod 60 = x at *
    have e1 : IntKind.i64.wrap (128 - 1) = 127 := rfl
    have e2 : IntKind.i64.wrap (127 - x) = 127 - x := w64i (by omega) (by omega)
    have e3 : IntKind.i64.wrap (128 - (127 - x)) = 1 + x := by rw [w64i (by omega) (by omega)]; omega
    rw [e1, e2, e3, if_neg (show ¬ (60 < 1 + x) by omega)]
    refine Ev.call (place_ev more 4 (by decide) (by decide)) ?_
    conv => whnf
    have hm := fun (P : Int → Prop) (h : P (placeS more 4)) => h
    generalize hM : placeS more 4 = m at *
    have e4 : IntKind.i64.wrap (1 + x + m) = 1 + x + m := w64i (by omega) (by omega)
    have e5 : IntKind.i64.wrap (1 + x + m - 2) = x + m - 1 := by rw [w64i (by omega) (by omega)]; omega
    rw [e4, e5]
    refine condF (fun h => ?_) (fun h => ?_)
    rotate_left
    · conv => whnf
      exact FrzK.le (Le.refl _)
    have hn1 : 1 ≤ x + m - 1 := by simp at h; omega
    conv => whnf
    rw [wLen' (127 - x) (by omega) (by omega), wLen' (x + m - 1) (by omega) (by omega)]
    have hok : encOk 2 (x + m - 1) 0 [] [] = true := by simp [encOk, withinB]; try omega
    have hE : encE 2 (x + m - 1) 0 [] [] = 0 := by unfold encE; rw [if_pos hok]
    have hQ : OkQ 2 (127 - x) (x + m - 1) 0 [] [] := ⟨by omega, by omega, by omega, by simp; try omega, by simp; try omega, by simp; try omega, hok⟩
    refine Tr.le (leReqN Le.nilB (Le.nilI _)) (Ev.call (rRequest_ev 2 (127 - x) (x + m - 1) 0 [] [] (by omega) (by omega) (by simp; try omega) (by simp; try omega)) ?_)
    conv => whnf
    rw [hE]
    refine laidCall laid0_tr rfl rfl fun I hI => ?_
    conv => whnf
    refine blkCall (Serve_tr I (encR 2 (127 - x) (x + m - 1) 0 [] []) (enc_len _ _ _ _ _ _ hQ.hb (by simp; try omega))) rfl rfl rfl ?_
    rw [(serve_enc I 2 (127 - x) (x + m - 1) 0 [] [] rfl hQ (by simp; try omega)).1]
    generalize serveI I _ = J
    have hT : thereB 2 (127 - x) (x + m - 1) 0 [] [] = !decide (127 - x + (x + m - 1) > 128) := by
      show hasB 2 (127 - x) (x + m - 1) = _
      exact hasB_eq 2 (127 - x) (x + m - 1) rfl (by omega) (by omega)
    have hw : IntKind.i64.wrap (127 - x + (x + m - 1)) = 127 - x + (x + m - 1) := w64i (by omega) (by omega)
    rw [hT]
    by_cases hh : decide (127 - x + (x + m - 1) > 128) = true
    · rw [if_neg (by rw [hh]; decide)]
      conv => whnf
      rw [hw]
      refine condY hh ?_
      conv => whnf
      refine lend1 (h := 5) (n := 0) (v := .nils) rfl rfl ?_
      refine Ev.call (bytes_is (l := [or128 2, 2]) rfl) ?_
      conv => whnf
      exact FrzK.le (Le.refl _)
    · obtain ⟨t, k1, k2, k3⟩ := does_head I 2 (127 - x) (x + m - 1) 0 [] [] rfl hQ
      rw [if_pos (by simpa using hh), k1]
      conv => whnf
      refine condN (by simp; omega) ?_
      conv => whnf
      rw [hw]
      refine condN (by simpa using hh) ?_
      conv => whnf
      refine condT (by simp) ?_
      conv => whnf
      exact FrzK.le (Le.refl _)
  · rw [hk]
    conv => whnf
    have hz : [(256 : Int), 128, 128, 64, 256, 128, 128, 128].getD (0 + Int.toNat 2 * 1) 0 = 128 := rfl
    have hff : [(1 : Int), 2, 3, 4, 15, 16, 23, 22].getD (0 + Int.toNat 2 * 1) 0 = 3 := rfl
    rw [hz, hff, hat]
    generalize at_.tmod 60 = x at *
    have e1 : IntKind.i64.wrap (128 - 1) = 127 := rfl
    have e2 : IntKind.i64.wrap (127 - x) = 127 - x := w64i (by omega) (by omega)
    have e3 : IntKind.i64.wrap (128 - (127 - x)) = 1 + x := by rw [w64i (by omega) (by omega)]; omega
    rw [e1, e2, e3, if_neg (show ¬ (60 < 1 + x) by omega)]
    refine Ev.call (place_ev more 4 (by decide) (by decide)) ?_
    conv => whnf
    have hm := fun (P : Int → Prop) (h : P (placeS more 4)) => h
    generalize hM : placeS more 4 = m at *
    have e4 : IntKind.i64.wrap (1 + x + m) = 1 + x + m := w64i (by omega) (by omega)
    have e5 : IntKind.i64.wrap (1 + x + m - 2) = x + m - 1 := by rw [w64i (by omega) (by omega)]; omega
    rw [e4, e5]
    refine condF (fun h => ?_) (fun h => ?_)
    rotate_left
    · conv => whnf
      exact FrzK.le (Le.refl _)
    have hn1 : 1 ≤ x + m - 1 := by simp at h; omega
    conv => whnf
    rw [wLen' (127 - x) (by omega) (by omega), wLen' (x + m - 1) (by omega) (by omega)]
    have hok : encOk 3 (x + m - 1) 0 [] [] = true := by simp [encOk, withinB]; try omega
    have hE : encE 3 (x + m - 1) 0 [] [] = 0 := by unfold encE; rw [if_pos hok]
    have hQ : OkQ 3 (127 - x) (x + m - 1) 0 [] [] := ⟨by omega, by omega, by omega, by simp; try omega, by simp; try omega, by simp; try omega, hok⟩
    refine Tr.le (leReqN Le.nilB (Le.nilI _)) (Ev.call (rRequest_ev 3 (127 - x) (x + m - 1) 0 [] [] (by omega) (by omega) (by simp; try omega) (by simp; try omega)) ?_)
    conv => whnf
    rw [hE]
    refine laidCall laid0_tr rfl rfl fun I hI => ?_
    conv => whnf
    refine blkCall (Serve_tr I (encR 3 (127 - x) (x + m - 1) 0 [] []) (enc_len _ _ _ _ _ _ hQ.hb (by simp; try omega))) rfl rfl rfl ?_
    rw [(serve_enc I 3 (127 - x) (x + m - 1) 0 [] [] rfl hQ (by simp; try omega)).1]
    generalize serveI I _ = J
    have hT : thereB 3 (127 - x) (x + m - 1) 0 [] [] = !decide (127 - x + (x + m - 1) > 128) := by
      show hasB 3 (127 - x) (x + m - 1) = _
      exact hasB_eq 3 (127 - x) (x + m - 1) rfl (by omega) (by omega)
    have hw : IntKind.i64.wrap (127 - x + (x + m - 1)) = 127 - x + (x + m - 1) := w64i (by omega) (by omega)
    rw [hT]
    by_cases hh : decide (127 - x + (x + m - 1) > 128) = true
    · rw [if_neg (by rw [hh]; decide)]
      conv => whnf
      rw [hw]
      refine condY hh ?_
      conv => whnf
      refine lend1 (h := 5) (n := 0) (v := .nils) rfl rfl ?_
      refine Ev.call (bytes_is (l := [or128 3, 2]) rfl) ?_
      conv => whnf
      exact FrzK.le (Le.refl _)
    · obtain ⟨t, k1, k2, k3⟩ := does_head I 3 (127 - x) (x + m - 1) 0 [] [] rfl hQ
      rw [if_pos (by simpa using hh), k1]
      conv => whnf
      refine condN (by simp; omega) ?_
      conv => whnf
      rw [hw]
      refine condN (by simpa using hh) ?_
      conv => whnf
      refine condT (by simp) ?_
      conv => whnf
      exact FrzK.le (Le.refl _)
  · rw [hk]
    conv => whnf
    have hz : [(256 : Int), 128, 128, 64, 256, 128, 128, 128].getD (0 + Int.toNat 3 * 1) 0 = 64 := rfl
    have hff : [(1 : Int), 2, 3, 4, 15, 16, 23, 22].getD (0 + Int.toNat 3 * 1) 0 = 4 := rfl
    rw [hz, hff, hat]
    generalize at_.tmod 60 = x at *
    have e1 : IntKind.i64.wrap (64 - 1) = 63 := rfl
    have e2 : IntKind.i64.wrap (63 - x) = 63 - x := w64i (by omega) (by omega)
    have e3 : IntKind.i64.wrap (64 - (63 - x)) = 1 + x := by rw [w64i (by omega) (by omega)]; omega
    rw [e1, e2, e3, if_neg (show ¬ (60 < 1 + x) by omega)]
    refine Ev.call (place_ev more 4 (by decide) (by decide)) ?_
    conv => whnf
    have hm := fun (P : Int → Prop) (h : P (placeS more 4)) => h
    generalize hM : placeS more 4 = m at *
    have e4 : IntKind.i64.wrap (1 + x + m) = 1 + x + m := w64i (by omega) (by omega)
    have e5 : IntKind.i64.wrap (1 + x + m - 2) = x + m - 1 := by rw [w64i (by omega) (by omega)]; omega
    rw [e4, e5]
    refine condF (fun h => ?_) (fun h => ?_)
    rotate_left
    · conv => whnf
      exact FrzK.le (Le.refl _)
    have hn1 : 1 ≤ x + m - 1 := by simp at h; omega
    conv => whnf
    rw [wLen' (63 - x) (by omega) (by omega), wLen' (x + m - 1) (by omega) (by omega)]
    have hok : encOk 4 (x + m - 1) 0 [] [] = true := by simp [encOk, withinB]; try omega
    have hE : encE 4 (x + m - 1) 0 [] [] = 0 := by unfold encE; rw [if_pos hok]
    have hQ : OkQ 4 (63 - x) (x + m - 1) 0 [] [] := ⟨by omega, by omega, by omega, by simp; try omega, by simp; try omega, by simp; try omega, hok⟩
    refine Tr.le (leReqN Le.nilB (Le.nilI _)) (Ev.call (rRequest_ev 4 (63 - x) (x + m - 1) 0 [] [] (by omega) (by omega) (by simp; try omega) (by simp; try omega)) ?_)
    conv => whnf
    rw [hE]
    refine laidCall laid0_tr rfl rfl fun I hI => ?_
    conv => whnf
    refine blkCall (Serve_tr I (encR 4 (63 - x) (x + m - 1) 0 [] []) (enc_len _ _ _ _ _ _ hQ.hb (by simp; try omega))) rfl rfl rfl ?_
    rw [(serve_enc I 4 (63 - x) (x + m - 1) 0 [] [] rfl hQ (by simp; try omega)).1]
    generalize serveI I _ = J
    have hT : thereB 4 (63 - x) (x + m - 1) 0 [] [] = !decide (63 - x + (x + m - 1) > 64) := by
      show hasB 4 (63 - x) (x + m - 1) = _
      exact hasB_eq 4 (63 - x) (x + m - 1) rfl (by omega) (by omega)
    have hw : IntKind.i64.wrap (63 - x + (x + m - 1)) = 63 - x + (x + m - 1) := w64i (by omega) (by omega)
    rw [hT]
    by_cases hh : decide (63 - x + (x + m - 1) > 64) = true
    · rw [if_neg (by rw [hh]; decide)]
      conv => whnf
      rw [hw]
      refine condY hh ?_
      conv => whnf
      refine lend1 (h := 5) (n := 0) (v := .nils) rfl rfl ?_
      refine Ev.call (bytes_is (l := [or128 4, 2]) rfl) ?_
      conv => whnf
      exact FrzK.le (Le.refl _)
    · obtain ⟨t, k1, k2, k3⟩ := does_head I 4 (63 - x) (x + m - 1) 0 [] [] rfl hQ
      rw [if_pos (by simpa using hh), k1]
      conv => whnf
      refine condN (by simp; omega) ?_
      conv => whnf
      rw [hw]
      refine condN (by simpa using hh) ?_
      conv => whnf
      refine condT (by simp) ?_
      conv => whnf
      exact FrzK.le (Le.refl _)
  · rw [hk]
    conv => whnf
    have hz : [(256 : Int), 128, 128, 64, 256, 128, 128, 128].getD (0 + Int.toNat 4 * 1) 0 = 256 := rfl
    have hff : [(1 : Int), 2, 3, 4, 15, 16, 23, 22].getD (0 + Int.toNat 4 * 1) 0 = 15 := rfl
    rw [hz, hff, hat]
    generalize at_.tmod 60 = x at *
    have e1 : IntKind.i64.wrap (256 - 1) = 255 := rfl
    have e2 : IntKind.i64.wrap (255 - x) = 255 - x := w64i (by omega) (by omega)
    have e3 : IntKind.i64.wrap (256 - (255 - x)) = 1 + x := by rw [w64i (by omega) (by omega)]; omega
    rw [e1, e2, e3, if_neg (show ¬ (60 < 1 + x) by omega)]
    refine Ev.call (place_ev more 4 (by decide) (by decide)) ?_
    conv => whnf
    have hm := fun (P : Int → Prop) (h : P (placeS more 4)) => h
    generalize hM : placeS more 4 = m at *
    have e4 : IntKind.i64.wrap (1 + x + m) = 1 + x + m := w64i (by omega) (by omega)
    have e5 : IntKind.i64.wrap (1 + x + m - 2) = x + m - 1 := by rw [w64i (by omega) (by omega)]; omega
    rw [e4, e5]
    refine condF (fun h => ?_) (fun h => ?_)
    rotate_left
    · conv => whnf
      exact FrzK.le (Le.refl _)
    have hn1 : 1 ≤ x + m - 1 := by simp at h; omega
    conv => whnf
    refine condT (by simp; omega) ?_
    conv => whnf
    rw [wLen' (255 - x) (by omega) (by omega)]
    have hok : encOk 15 0 0 (List.replicate (x + m - 1).toNat false) [] = true := by simp [encOk, withinB]; try omega
    have hE : encE 15 0 0 (List.replicate (x + m - 1).toNat false) [] = 0 := by unfold encE; rw [if_pos hok]
    have hQ : OkQ 15 (255 - x) 0 0 (List.replicate (x + m - 1).toNat false) [] := ⟨by omega, by omega, by omega, by simp; try omega, by simp; try omega, by simp; try omega, hok⟩
    refine lend1 (h := 3) (n := 0) (v := .nils) rfl (frz_reqB 3 15 (255 - x) 0 0 (List.replicate (x + m - 1).toNat false) _ (by simp)) ?_
    refine Tr.le (leReqN (Le.refl _) (Le.nilI _)) (Ev.call (rRequest_ev 15 (255 - x) 0 0 (List.replicate (x + m - 1).toNat false) [] (by omega) (by omega) (by simp; try omega) (by simp; try omega)) ?_)
    conv => whnf
    rw [hE]
    refine laidCall laid0_tr rfl rfl fun I hI => ?_
    conv => whnf
    refine blkCall (Serve_tr I (encR 15 (255 - x) 0 0 (List.replicate (x + m - 1).toNat false) []) (enc_len _ _ _ _ _ _ hQ.hb (by simp; try omega))) rfl rfl rfl ?_
    rw [(serve_enc I 15 (255 - x) 0 0 (List.replicate (x + m - 1).toNat false) [] rfl hQ (by simp; try omega)).1]
    generalize serveI I _ = J
    have hT : thereB 15 (255 - x) 0 0 (List.replicate (x + m - 1).toNat false) [] = !decide (255 - x + (x + m - 1) > 256) := by
      show hasB 15 (255 - x) (List.length (List.replicate (x + m - 1).toNat false)) = _
      rw [hasB_eq 15 (255 - x) _ rfl (by omega) (by simp; omega), szB]; simp; omega
    have hw : IntKind.i64.wrap (255 - x + (x + m - 1)) = 255 - x + (x + m - 1) := w64i (by omega) (by omega)
    rw [hT]
    by_cases hh : decide (255 - x + (x + m - 1) > 256) = true
    · rw [if_neg (by rw [hh]; decide)]
      conv => whnf
      rw [hw]
      refine condY hh ?_
      conv => whnf
      refine lend1 (h := 6) (n := 0) (v := .nils) rfl rfl ?_
      refine Ev.call (bytes_is (l := [or128 15, 2]) rfl) ?_
      conv => whnf
      exact FrzK.le (Le.refl _)
    · obtain ⟨t, k1, k2, k3⟩ := does_head I 15 (255 - x) 0 0 (List.replicate (x + m - 1).toNat false) [] rfl hQ
      rw [if_pos (by simpa using hh), k1]
      conv => whnf
      refine condN (by simp; omega) ?_
      conv => whnf
      rw [hw]
      refine condN (by simpa using hh) ?_
      conv => whnf
      refine condT (by simp) ?_
      conv => whnf
      exact FrzK.le (Le.refl _)
  · rw [hk]
    conv => whnf
    have hz : [(256 : Int), 128, 128, 64, 256, 128, 128, 128].getD (0 + Int.toNat 5 * 1) 0 = 128 := rfl
    have hff : [(1 : Int), 2, 3, 4, 15, 16, 23, 22].getD (0 + Int.toNat 5 * 1) 0 = 16 := rfl
    rw [hz, hff, hat]
    generalize at_.tmod 60 = x at *
    have e1 : IntKind.i64.wrap (128 - 1) = 127 := rfl
    have e2 : IntKind.i64.wrap (127 - x) = 127 - x := w64i (by omega) (by omega)
    have e3 : IntKind.i64.wrap (128 - (127 - x)) = 1 + x := by rw [w64i (by omega) (by omega)]; omega
    rw [e1, e2, e3, if_neg (show ¬ (60 < 1 + x) by omega)]
    refine Ev.call (place_ev more 4 (by decide) (by decide)) ?_
    conv => whnf
    have hm := fun (P : Int → Prop) (h : P (placeS more 4)) => h
    generalize hM : placeS more 4 = m at *
    have e4 : IntKind.i64.wrap (1 + x + m) = 1 + x + m := w64i (by omega) (by omega)
    have e5 : IntKind.i64.wrap (1 + x + m - 2) = x + m - 1 := by rw [w64i (by omega) (by omega)]; omega
    rw [e4, e5]
    refine condF (fun h => ?_) (fun h => ?_)
    rotate_left
    · conv => whnf
      exact FrzK.le (Le.refl _)
    have hn1 : 1 ≤ x + m - 1 := by simp at h; omega
    conv => whnf
    refine condT (by simp; omega) ?_
    conv => whnf
    rw [wLen' (127 - x) (by omega) (by omega)]
    have hok : encOk 16 0 0 [] (List.replicate (x + m - 1).toNat 0) = true := by simp [encOk, withinB]; try omega
    have hE : encE 16 0 0 [] (List.replicate (x + m - 1).toNat 0) = 0 := by unfold encE; rw [if_pos hok]
    have hQ : OkQ 16 (127 - x) 0 0 [] (List.replicate (x + m - 1).toNat 0) := ⟨by omega, by omega, by omega, by simp; try omega, by simp; try omega, by simp; try omega, hok⟩
    refine lend1 (h := 3) (n := 0) (v := .nils) rfl (frz_reqI 3 16 (127 - x) 0 0 (List.replicate (x + m - 1).toNat 0) _ (by simp)) ?_
    refine Tr.le (leReqN Le.nilB (Le.refl _)) (Ev.call (rRequest_ev 16 (127 - x) 0 0 [] (List.replicate (x + m - 1).toNat 0) (by omega) (by omega) (by simp; try omega) (by simp; try omega)) ?_)
    conv => whnf
    rw [hE]
    refine laidCall laid0_tr rfl rfl fun I hI => ?_
    conv => whnf
    refine blkCall (Serve_tr I (encR 16 (127 - x) 0 0 [] (List.replicate (x + m - 1).toNat 0)) (enc_len _ _ _ _ _ _ hQ.hb (by simp; try omega))) rfl rfl rfl ?_
    rw [(serve_enc I 16 (127 - x) 0 0 [] (List.replicate (x + m - 1).toNat 0) rfl hQ (by simp; try omega)).1]
    generalize serveI I _ = J
    have hT : thereB 16 (127 - x) 0 0 [] (List.replicate (x + m - 1).toNat 0) = !decide (127 - x + (x + m - 1) > 128) := by
      show hasB 16 (127 - x) (List.length (List.replicate (x + m - 1).toNat 0)) = _
      rw [hasB_eq 16 (127 - x) _ rfl (by omega) (by simp; omega), szR]; simp; omega
    have hw : IntKind.i64.wrap (127 - x + (x + m - 1)) = 127 - x + (x + m - 1) := w64i (by omega) (by omega)
    rw [hT]
    by_cases hh : decide (127 - x + (x + m - 1) > 128) = true
    · rw [if_neg (by rw [hh]; decide)]
      conv => whnf
      rw [hw]
      refine condY hh ?_
      conv => whnf
      refine lend1 (h := 6) (n := 0) (v := .nils) rfl rfl ?_
      refine Ev.call (bytes_is (l := [or128 16, 2]) rfl) ?_
      conv => whnf
      exact FrzK.le (Le.refl _)
    · obtain ⟨t, k1, k2, k3⟩ := does_head I 16 (127 - x) 0 0 [] (List.replicate (x + m - 1).toNat 0) rfl hQ
      rw [if_pos (by simpa using hh), k1]
      conv => whnf
      refine condN (by simp; omega) ?_
      conv => whnf
      rw [hw]
      refine condN (by simpa using hh) ?_
      conv => whnf
      refine condT (by simp) ?_
      conv => whnf
      exact FrzK.le (Le.refl _)
  · rw [hk]
    conv => whnf
    have hz : [(256 : Int), 128, 128, 64, 256, 128, 128, 128].getD (0 + Int.toNat 6 * 1) 0 = 128 := rfl
    have hff : [(1 : Int), 2, 3, 4, 15, 16, 23, 22].getD (0 + Int.toNat 6 * 1) 0 = 23 := rfl
    rw [hz, hff, hat]
    generalize at_.tmod 60 = x at *
    have e1 : IntKind.i64.wrap (128 - 1) = 127 := rfl
    have e2 : IntKind.i64.wrap (127 - x) = 127 - x := w64i (by omega) (by omega)
    have e3 : IntKind.i64.wrap (128 - (127 - x)) = 1 + x := by rw [w64i (by omega) (by omega)]; omega
    rw [e1, e2, e3, if_neg (show ¬ (60 < 1 + x) by omega)]
    refine Ev.call (place_ev more 4 (by decide) (by decide)) ?_
    conv => whnf
    have hm := fun (P : Int → Prop) (h : P (placeS more 4)) => h
    generalize hM : placeS more 4 = m at *
    have e4 : IntKind.i64.wrap (1 + x + m) = 1 + x + m := w64i (by omega) (by omega)
    have e5 : IntKind.i64.wrap (1 + x + m - 2) = x + m - 1 := by rw [w64i (by omega) (by omega)]; omega
    rw [e4, e5]
    refine condF (fun h => ?_) (fun h => ?_)
    rotate_left
    · conv => whnf
      exact FrzK.le (Le.refl _)
    have hn1 : 1 ≤ x + m - 1 := by simp at h; omega
    conv => whnf
    refine condT (by simp; omega) ?_
    conv => whnf
    rw [wLen' (127 - x) (by omega) (by omega)]
    have hok : encOk 23 1 (127 - x) [] (List.replicate (x + m - 1).toNat 0) = true := by simp [encOk, withinB]; try omega
    have hE : encE 23 1 (127 - x) [] (List.replicate (x + m - 1).toNat 0) = 0 := by unfold encE; rw [if_pos hok]
    have hQ : OkQ 23 0 1 (127 - x) [] (List.replicate (x + m - 1).toNat 0) := ⟨by omega, by omega, by omega, by simp; try omega, by simp; try omega, by simp; try omega, hok⟩
    refine lend1 (h := 3) (n := 0) (v := .nils) rfl (frz_reqI 3 23 0 1 (127 - x) (List.replicate (x + m - 1).toNat 0) _ (by simp)) ?_
    refine Tr.le (leReqN Le.nilB (Le.refl _)) (Ev.call (rRequest_ev 23 0 1 (127 - x) [] (List.replicate (x + m - 1).toNat 0) (by omega) (by omega) (by simp; try omega) (by simp; try omega)) ?_)
    conv => whnf
    rw [hE]
    refine laidCall laid0_tr rfl rfl fun I hI => ?_
    conv => whnf
    refine blkCall (Serve_tr I (encR 23 0 1 (127 - x) [] (List.replicate (x + m - 1).toNat 0)) (enc_len _ _ _ _ _ _ hQ.hb (by simp; try omega))) rfl rfl rfl ?_
    rw [(serve_enc I 23 0 1 (127 - x) [] (List.replicate (x + m - 1).toNat 0) rfl hQ (by simp; try omega)).1]
    generalize serveI I _ = J
    have hT : thereB 23 0 1 (127 - x) [] (List.replicate (x + m - 1).toNat 0) = !decide (127 - x + (x + m - 1) > 128) := by
      show (hasB 23 0 1 && hasB 23 (127 - x) (List.length (List.replicate (x + m - 1).toNat 0))) = _
      rw [hasB_eq 23 0 1 rfl (by omega) (by omega), hasB_eq 23 (127 - x) _ rfl (by omega) (by simp; omega), szR3]; simp; omega
    have hw : IntKind.i64.wrap (127 - x + (x + m - 1)) = 127 - x + (x + m - 1) := w64i (by omega) (by omega)
    rw [hT]
    by_cases hh : decide (127 - x + (x + m - 1) > 128) = true
    · rw [if_neg (by rw [hh]; decide)]
      conv => whnf
      rw [hw]
      refine condY hh ?_
      conv => whnf
      refine lend1 (h := 6) (n := 0) (v := .nils) rfl rfl ?_
      refine Ev.call (bytes_is (l := [or128 23, 2]) rfl) ?_
      conv => whnf
      exact FrzK.le (Le.refl _)
    · obtain ⟨t, k1, k2, k3⟩ := does_head I 23 0 1 (127 - x) [] (List.replicate (x + m - 1).toNat 0) rfl hQ
      rw [if_pos (by simpa using hh), k1]
      conv => whnf
      refine condN (by simp; omega) ?_
      conv => whnf
      rw [hw]
      refine condN (by simpa using hh) ?_
      conv => whnf
      refine condT (by simp) ?_
      conv => whnf
      exact FrzK.le (Le.refl _)
  · rw [hk]
    conv => whnf
    have hz : [(256 : Int), 128, 128, 64, 256, 128, 128, 128].getD (0 + Int.toNat 7 * 1) 0 = 128 := rfl
    have hff : [(1 : Int), 2, 3, 4, 15, 16, 23, 22].getD (0 + Int.toNat 7 * 1) 0 = 22 := rfl
    rw [hz, hff, hat]
    generalize at_.tmod 60 = x at *
    have e1 : IntKind.i64.wrap (128 - 1) = 127 := rfl
    have e2 : IntKind.i64.wrap (127 - x) = 127 - x := w64i (by omega) (by omega)
    have e3 : IntKind.i64.wrap (128 - (127 - x)) = 1 + x := by rw [w64i (by omega) (by omega)]; omega
    rw [e1, e2, e3, if_neg (show ¬ (60 < 1 + x) by omega)]
    refine Ev.call (place_ev more 4 (by decide) (by decide)) ?_
    conv => whnf
    have hm := fun (P : Int → Prop) (h : P (placeS more 4)) => h
    generalize hM : placeS more 4 = m at *
    have e4 : IntKind.i64.wrap (1 + x + m) = 1 + x + m := w64i (by omega) (by omega)
    have e5 : IntKind.i64.wrap (1 + x + m - 2) = x + m - 1 := by rw [w64i (by omega) (by omega)]; omega
    rw [e4, e5]
    refine condF (fun h => ?_) (fun h => ?_)
    rotate_left
    · conv => whnf
      exact FrzK.le (Le.refl _)
    have hn1 : 1 ≤ x + m - 1 := by simp at h; omega
    conv => whnf
    refine Ev.call (place_ev more 4 (by decide) (by decide)) ?_
    conv => whnf
    rw [hM, show IntKind.i64.wrap (IntKind.i64.wrap (128 + m) - 2) = 126 + m by rw [w64i (n := 128 + m) (by omega) (by omega), w64i (by omega) (by omega)]; omega, wLen' (126 + m) (by omega) (by omega), w64i (n := 126 + m) (by omega) (by omega)]
    rw [show IntKind.i64.wrap (IntKind.i64.wrap (126 + m - (127 - x)) + 1) = x + m by rw [w64i (n := 126 + m - (127 - x)) (by omega) (by omega), w64i (by omega) (by omega)]; omega]
    have hok : encOk 22 0 0 [] [1, 2] = true := by simp [encOk, withinB]; try omega
    have hE : encE 22 0 0 [] [1, 2] = 0 := by unfold encE; rw [if_pos hok]
    have hQ : OkQ 22 (126 + m) 0 0 [] [1, 2] := ⟨by omega, by omega, by omega, by simp; try omega, by simp; try omega, by simp; try omega, hok⟩
    refine lend1 (h := 3) (n := 0) (v := .nils) rfl (frz_reqI 3 22 (126 + m) 0 0 [1, 2] _ (by simp)) ?_
    refine Tr.le (leReqN Le.nilB (Le.refl _)) (Ev.call (rRequest_ev 22 (126 + m) 0 0 [] [1, 2] (by omega) (by omega) (by simp; try omega) (by simp; try omega)) ?_)
    conv => whnf
    rw [hE]
    refine laidCall laid0_tr rfl rfl fun I hI => ?_
    conv => whnf
    refine blkCall (Serve_tr I (encR 22 (126 + m) 0 0 [] [1, 2]) (enc_len _ _ _ _ _ _ hQ.hb (by simp; try omega))) rfl rfl rfl ?_
    rw [(serve_enc I 22 (126 + m) 0 0 [] [1, 2] rfl hQ (by simp; try omega)).1]
    generalize serveI I _ = J
    have hT : thereB 22 (126 + m) 0 0 [] [1, 2] = !decide (127 - x + (x + m) > 128) := by
      show hasB 22 (126 + m) 1 = _
      rw [hasB_eq 22 (126 + m) 1 rfl (by omega) (by omega), szR2, Bool.eq_iff_iff]; simp; omega
    have hw : IntKind.i64.wrap (127 - x + (x + m)) = 127 - x + (x + m) := w64i (by omega) (by omega)
    rw [hT]
    by_cases hh : decide (127 - x + (x + m) > 128) = true
    · rw [if_neg (by rw [hh]; decide)]
      conv => whnf
      rw [hw]
      refine condY hh ?_
      conv => whnf
      refine lend1 (h := 6) (n := 0) (v := .nils) rfl rfl ?_
      refine Ev.call (bytes_is (l := [or128 22, 2]) rfl) ?_
      conv => whnf
      exact FrzK.le (Le.refl _)
    · obtain ⟨t, k1, k2, k3⟩ := does_head I 22 (126 + m) 0 0 [] [1, 2] rfl hQ
      rw [if_pos (by simpa using hh), k1]
      conv => whnf
      refine condN (by simp; omega) ?_
      conv => whnf
      rw [hw]
      refine condN (by simpa using hh) ?_
      conv => whnf
      refine condT (by simp) ?_
      conv => whnf
      exact FrzK.le (Le.refl _)

end Go.Proofs.Ytomodeliimnddaa
set_option linter.unusedVariables false
set_option linter.unusedSimpArgs false
namespace Go.Ab
open Go.ChangeShapes Go.WideShapes Go.RowKit Go.Deep
def noM : Nat → Prop := fun _ => False
section
variable {P : Program} {H : Type} {enc : TypeId × Value → H} {W : World} {r : Reach} {b : Nat} {held : Bool}
theorem wf_has {k : IntKind} {n : Int} (h : (Lit.int k n).wf = true) : k.min ≤ n ∧ n ≤ k.max := by
  simpa [Lit.wf] using h
theorem cell_addr {t e : TypeId} {a : Addr} {len cap : Nat} (ht : P.underlying t = some (.slice e)) (h : Cell.okWide P W r b t (.slice (some a) len cap)) : a.spot = none ∧ a.block < W.heap.size := by
  simp only [Cell.okWide, ht, Cell.ok] at h
  obtain ⟨_, _, _, h2, row, cells, h3, _⟩ := h
  exact ⟨h2, lt_of_shape h3⟩
theorem gInts {t e : TypeId} {k : IntKind} {fuel : Nat} {v : Value} {x : DataW H × List MemPlace} (hok : Cell.okWide P W r b t v) (ht : P.underlying t = some (.slice e)) (he : P.underlying e = some (.int k)) (hc : P.cellsOf e = 1)
    (h : DataW.trod enc P W 0 (fun _ => true) held fuel t [v] = some x) : ∃ l : List Int, GRel W noM (.roI k l) v ∧ ∀ n ∈ l, k.min ≤ n ∧ n ≤ k.max := by
  rcases open_ints ht he hc h with ⟨hcs, _⟩ | ⟨a, len, cap, zs, hcs, _, hl, hm, hz, _, hcell, hwf⟩
  · obtain rfl : v = .slice none 0 0 := by simpa using hcs
    exact ⟨[], .sliceNil _ 1 (fun j => .int k (([] : List Int).getD j 0)) rfl, by simp⟩
  · obtain rfl : v = .slice (some a) len cap := by simpa using hcs
    obtain ⟨h1, h2⟩ := cell_addr ht hok
    have hz : zs.length = cap := by simpa using hz
    have hlen : (zs.take len).length = len := by rw [List.length_take]; omega
    refine ⟨zs.take len, ?_, fun n hn => wf_has (hwf n (List.mem_of_mem_take hn))⟩
    have := GRel.slice (w := W) (M := noM) (.roI k (zs.take len)) 1 (zs.take len).length (fun j => .int k ((zs.take len).getD j 0)) a cap (fun j => .int k (zs.getD j 0)) rfl (fun _ => ⟨h1, fun h => h, h2⟩) (by omega) (fun _ _ => rfl) (fun j hj => by
      rw [← add_eq a j h1]; exact hcell j (by omega)) (fun j hj => by
      have : (zs.take len).getD j 0 = zs.getD j 0 := by
        have hj' : j < len := by omega
        simp [List.getD_eq_getElem?_getD, List.getElem?_take, hj']
      show GRel W noM (.int k ((zs.take len).getD j 0)) _
      rw [this]; exact .int k _)
    rw [hlen] at this
    exact this
theorem gBools {t e : TypeId} {fuel : Nat} {v : Value} {x : DataW H × List MemPlace} (hok : Cell.okWide P W r b t v) (ht : P.underlying t = some (.slice e)) (he : P.underlying e = some .bool) (hc : P.cellsOf e = 1)
    (h : DataW.trod enc P W 0 (fun _ => true) held fuel t [v] = some x) : ∃ l : List Bool, GRel W noM (.roB l) v := by
  rcases open_bools ht he hc h with ⟨hcs, _⟩ | ⟨a, len, cap, B, hcs, _, hl, hm, _, hcell⟩
  · obtain rfl : v = .slice none 0 0 := by simpa using hcs
    exact ⟨[], .sliceNil _ 1 (fun j => .bool (([] : List Bool).getD j false)) rfl⟩
  · obtain rfl : v = .slice (some a) len cap := by simpa using hcs
    obtain ⟨h1, h2⟩ := cell_addr ht hok
    have hlen : ((List.range len).map B).length = len := by simp
    refine ⟨(List.range len).map B, ?_⟩
    have := GRel.slice (w := W) (M := noM) (.roB ((List.range len).map B)) 1 ((List.range len).map B).length (fun j => .bool (((List.range len).map B).getD j false)) a cap (fun j => .bool (B j)) rfl (fun _ => ⟨h1, fun h => h, h2⟩) (by omega) (fun _ _ => rfl) (fun j hj => by
      rw [← add_eq a j h1]; exact hcell j (by omega)) (fun j hj => by
      have : ((List.range len).map B).getD j false = B j := by
        have hj' : j < len := by omega
        simp [List.getD_eq_getElem?_getD, hj']
      show GRel W noM (.bool (((List.range len).map B).getD j false)) _
      rw [this]; exact .bool _)
    rw [hlen] at this
    exact this
theorem gInt {t : TypeId} {k : IntKind} {fuel : Nat} {v : Value} {x : DataW H × List MemPlace} (ht : P.underlying t = some (.int k)) (h : DataW.trod enc P W 0 (fun _ => true) held fuel t [v] = some x) :
    ∃ n, v = .int k n ∧ k.min ≤ n ∧ n ≤ k.max := by
  obtain ⟨n, h1, _, h2⟩ := DataW.trod_int ht h
  exact ⟨n, by simpa using h1, wf_has h2⟩
/-- a field of one cell -/
theorem gField {t : TypeId} {fs : Array Field} {fuel : Nat} {cs : List Value} {x : DataW H × List MemPlace} (ht : P.underlying t = some (.struct fs)) (h : DataW.trod enc P W 0 (fun _ => true) held fuel t cs = some x)
    (j : Nat) (f : Field) (hj : fs[j]? = some f) (ho : f.offset = j) (hc : P.cellsOf f.type = 1) (hl : j < cs.length) : ∃ n y, DataW.trod enc P W 0 (fun _ => true) held n f.type [cs.getD j default] = some y := by
  obtain ⟨xs, n, _, _, _, hxl, hf⟩ := DataW.trod_struct ht h
  have h1 := hf j f hj
  rw [ho, hc] at h1
  have hone : (cs.drop j).take 1 = [cs.getD j default] := by
    have h2 : cs.getD j default = cs[j] := by simp [List.getD_eq_getElem?_getD, List.getElem?_eq_getElem hl]
    rw [h2, List.drop_eq_getElem_cons hl]
    rfl
  rw [hone] at h1
  have hjl : j < fs.size := (Array.getElem?_eq_some_iff.1 hj).1
  exact ⟨n, _, h1.trans (List.getElem?_eq_getElem (show j < xs.length by omega))⟩
/-- a struct of four numbers, a row of truth values, a row of numbers -/
theorem gSix {t : TypeId} {f0 f1 f2 f3 f4 f5 : Field} {k0 k1 k2 k3 k5 : IntKind} {e4 e5 : TypeId} {v : Value} {d : DataW H} {p : List MemPlace} (hs : P.underlying t = some (.struct #[f0, f1, f2, f3, f4, f5]))
    (ho : f0.offset = 0 ∧ f1.offset = 1 ∧ f2.offset = 2 ∧ f3.offset = 3 ∧ f4.offset = 4 ∧ f5.offset = 5)
    (h0 : P.underlying f0.type = some (.int k0)) (h1 : P.underlying f1.type = some (.int k1)) (h2 : P.underlying f2.type = some (.int k2)) (h3 : P.underlying f3.type = some (.int k3))
    (h4 : P.underlying f4.type = some (.slice e4)) (h5 : P.underlying f5.type = some (.slice e5)) (g4 : P.underlying e4 = some .bool) (g5 : P.underlying e5 = some (.int k5))
    (hc : P.cellsOf f0.type = 1 ∧ P.cellsOf f1.type = 1 ∧ P.cellsOf f2.type = 1 ∧ P.cellsOf f3.type = 1 ∧ P.cellsOf f4.type = 1 ∧ P.cellsOf f5.type = 1) (c4 : P.cellsOf e4 = 1) (c5 : P.cellsOf e5 = 1) (hC : P.cellsOf t = 6)
    (hct : P.cellTypes P.depth t = some [f0.type, f1.type, f2.type, f3.type, f4.type, f5.type]) (hval : Value.okWide P W r b t v) (h : DataW.Trod enc P W 0 (fun _ => true) held t v d p) :
    ∃ (n0 n1 n2 n3 : Int) (B : List Bool) (R : List Int), GRel W noM (.agg [.int k0 n0, .int k1 n1, .int k2 n2, .int k3 n3, .roB B, .roI k5 R]) v ∧ (k0.min ≤ n0 ∧ n0 ≤ k0.max) ∧ (k1.min ≤ n1 ∧ n1 ≤ k1.max) ∧ (k2.min ≤ n2 ∧ n2 ≤ k2.max) ∧ (k3.min ≤ n3 ∧ n3 ≤ k3.max) ∧ ∀ n ∈ R, k5.min ≤ n ∧ n ≤ k5.max := by
  obtain ⟨cs, rfl, hsz⟩ := okWide_struct hs hval
  rw [hC] at hsz
  have hrow : Row.okWide P W r b t cs := by
    simp only [Value.okWide, hs] at hval
    obtain ⟨cs', h1, _, h3⟩ := hval
    cases h1
    exact h3
  obtain ⟨ts, hts, _, hcell⟩ := hrow
  rw [hct] at hts
  cases hts
  obtain ⟨fuel, hf⟩ := h
  have hf : DataW.trod enc P W 0 (fun _ => true) held fuel t cs.toList = some (d, p) := hf
  have hl : cs.toList.length = 6 := by simpa using hsz
  have hg : ∀ j, cs.toList.getD j default = cs.getD j default := fun j => by simp [List.getD_eq_getElem?_getD, Array.getD_eq_getD_getElem?]
  have hsome : ∀ j, j < 6 → cs[j]? = some (cs.getD j default) := fun j hj => by
    have : j < cs.size := by omega
    simp [Array.getD, this]
  obtain ⟨m0, y0, q0⟩ := gField hs hf 0 f0 rfl ho.1 hc.1 (by omega)
  obtain ⟨m1, y1, q1⟩ := gField hs hf 1 f1 rfl ho.2.1 hc.2.1 (by omega)
  obtain ⟨m2, y2, q2⟩ := gField hs hf 2 f2 rfl ho.2.2.1 hc.2.2.1 (by omega)
  obtain ⟨m3, y3, q3⟩ := gField hs hf 3 f3 rfl ho.2.2.2.1 hc.2.2.2.1 (by omega)
  obtain ⟨m4, y4, q4⟩ := gField hs hf 4 f4 rfl ho.2.2.2.2.1 hc.2.2.2.2.1 (by omega)
  obtain ⟨m5, y5, q5⟩ := gField hs hf 5 f5 rfl ho.2.2.2.2.2 hc.2.2.2.2.2 (by omega)
  rw [hg] at q0 q1 q2 q3 q4 q5
  obtain ⟨n0, r0, s0⟩ := gInt h0 q0
  obtain ⟨n1, r1, s1⟩ := gInt h1 q1
  obtain ⟨n2, r2, s2⟩ := gInt h2 q2
  obtain ⟨n3, r3, s3⟩ := gInt h3 q3
  obtain ⟨u4, i4, o4⟩ := hcell 4 _ (hsome 4 (by omega))
  obtain ⟨u5, i5, o5⟩ := hcell 5 _ (hsome 5 (by omega))
  cases i4
  cases i5
  obtain ⟨B, r4⟩ := gBools o4 h4 g4 c4 q4
  obtain ⟨R, r5, s5⟩ := gInts o5 h5 g5 c5 q5
  refine ⟨n0, n1, n2, n3, B, R, .agg _ cs hsz fun j hj => ?_, s0, s1, s2, s3, s5⟩
  match j, hj with
  | 0, _ => rw [r0]; exact .int _ _
  | 1, _ => rw [r1]; exact .int _ _
  | 2, _ => rw [r2]; exact .int _ _
  | 3, _ => rw [r3]; exact .int _ _
  | 4, _ => exact r4
  | 5, _ => exact r5
  | j + 6, hj => simp at hj; omega
/-- what a statement's walk needs, from a contract -/
theorem Ev.calls {f : Nat} {args : List AV} {Vs : Array Value} (h : Ev P f args (.bool true)) (hs : Vs.size = args.length) (hV : ∀ j, j < args.length → GRel W noM (args.getD j .undef) (Vs.getD j default)) :
    Calls P f Vs W fun e W' => e = .returned (.bool true) ∧ Below W.heap.size W W' := by
  obtain ⟨_, ht⟩ := h
  unfold Tr at ht
  have hR : Rep (fun _ => none) ⟨0, []⟩ W noM := ⟨fun _ _ => rfl, fun h c hg => (by cases hg), fun h h' c c' p p' hg => (by cases hg), fun b hb => False.elim hb⟩
  refine Calls.mono (ht.2 (fun _ => none) W noM Vs hR ⟨hs, fun j hj => .g _ _ (hV j hj)⟩) fun e W' he => ?_
  obtain ⟨V, ι', M', v, s', rfl, ⟨rfl, rfl⟩, h1, h2, h3⟩ := he
  obtain rfl := h1.bool_inv
  exact ⟨rfl, h3.os, h3.tape, h3.output, h3.size, fun k hk => h3.block k hk fun ⟨h, c, base, hg, _⟩ => by cases hg⟩
end
end Go.Ab
