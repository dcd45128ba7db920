/- Contracts: a request is served: the document's. Contracts: images laid; images alike; the chapter's examples. The plain law: what any reply is. Contracts: bytes read as replies: pdu. Plain laws: requests and replies cut short, or with more behind. Contracts: bytes read as replies: the document's. The plain law: both readings of a reply are the same. Statements of layer 3: what is cut short, or has more behind, is refused. The plain law: a reply that is written for a request is read as that, and answers no request of another function. Statements of layer 25: what is asked is answered. From a statement's arguments to the engine's values; a statement's row from a contract. From a statement's arguments to the engine's values: rows of structs, rows of rows, structs. Arguments of the statements of layer 25. Arguments of the statements of layer 25: requests. -/
import Derived.Test.YtomodeliimnddaaRows
import Derived.WalkKit
import Derived.ProofKit
import Derived.OpenShut
import Derived.ShutString
import Derived.ChangeOld
import Derived.Below
import Derived.Deep.Grids
import Derived.Deep.Slices
import Derived.Test.YtomodeliimnddaaHSlaveAsks0
import Derived.Test.YtomodeliimnddaaHPduA
import Derived.Test.YtomodeliimnddaaHImg
import Derived.Test.YtomodeliimnddaaHEngD
set_option linter.unusedVariables false
set_option linter.unusedSimpArgs false
namespace Go.Proofs.Ytomodeliimnddaa
open Go.Ab
/- rung/rungref25.Serve -/
def a92 : ACode := (.seq (.reg [⟨(some 4), .mov (.c .nils), none, false⟩])
 (.seq (.seq (.reg [⟨(some 21), .mov (.t 1), none, false⟩, ⟨(some 22), .len false (.t 21), none, false⟩, ⟨(some 23), .bin .eql .other (.t 22) (.c (.int .i64 0)), none, false⟩])
 (.cond (.t 23) (.seq (.reg [⟨(some 4), .mov (.c .nils), none, false⟩])
 .ret)
 .skip))
 (.seq (.reg [⟨(some 24), .mov (.t 1), none, false⟩, ⟨(some 25), .idx 1 none false (.t 24) (.c (.int .i64 0)), none, false⟩, ⟨(some 26), .load false 1 (.t 25), none, false⟩, ⟨(some 5), .mov (.t 26), none, false⟩])
 (.seq (.seq (.reg [⟨(some 27), .mov (.t 5), none, false⟩, ⟨(some 28), .call 66 [(.t 27)], none, false⟩, ⟨(some 29), .un .not (.t 28), none, false⟩])
 (.cond (.t 29) (.seq (.reg [⟨(some 30), .mov (.t 1), none, false⟩, ⟨(some 31), .call 95 [(.t 30), (.c (.int .u8 1))], none, false⟩, ⟨(some 4), .mov (.t 31), none, false⟩])
 .ret)
 .skip))
 (.seq (.reg [⟨(some 33), .mov (.t 1), none, false⟩, ⟨(some 34), .call 54 [(.t 33)], none, false⟩, ⟨(some 32), .mov (.t 34), none, false⟩, ⟨(some 35), .ext (.t 32) 0, none, false⟩, ⟨(some 36), .ext (.t 32) 1, none, false⟩, ⟨(some 6), .alloc [(1, (.int .u8 0)), (3, (.int .u16 0)), (2, .nils)], none, false⟩, ⟨none, .store 6 (.t 6) (.t 35), none, false⟩, ⟨(some 7), .mov (.t 36), none, false⟩])
 (.seq (.seq (.reg [⟨(some 37), .mov (.t 7), none, false⟩, ⟨(some 38), .bin .neq .other (.t 37) (.c (.int .i64 0)), none, false⟩, ⟨(some 39), .mov (.t 38), none, true⟩, ⟨(some 40), .mov (.t 5), (some (39, false)), false⟩, ⟨(some 41), .bin .eql .other (.t 40) (.c (.int .u8 5)), (some (39, false)), false⟩, ⟨(some 42), .mov (.t 41), (some (39, false)), true⟩, ⟨(some 43), .mov (.t 1), (some (42, true)), false⟩, ⟨(some 44), .idx 1 none false (.t 43) (.c (.int .i64 3)), (some (42, true)), false⟩, ⟨(some 45), .load false 1 (.t 44), (some (42, true)), false⟩, ⟨(some 46), .bin .neq .other (.t 45) (.c (.int .u8 0)), (some (42, true)), false⟩, ⟨(some 47), .mov (.t 46), (some (42, true)), true⟩, ⟨(some 48), .mov (.t 1), (some (47, true)), false⟩, ⟨(some 49), .idx 1 none false (.t 48) (.c (.int .i64 3)), (some (47, true)), false⟩, ⟨(some 50), .load false 1 (.t 49), (some (47, true)), false⟩, ⟨(some 51), .bin .neq .other (.t 50) (.c (.int .u8 255)), (some (47, true)), false⟩, ⟨(some 52), .pick (.t 47) (.t 51) (.c (.bool false)), (some (42, true)), false⟩, ⟨(some 53), .mov (.t 52), (some (42, true)), true⟩, ⟨(some 54), .mov (.t 1), (some (53, false)), false⟩, ⟨(some 55), .idx 1 none false (.t 54) (.c (.int .i64 4)), (some (53, false)), false⟩, ⟨(some 56), .load false 1 (.t 55), (some (53, false)), false⟩, ⟨(some 57), .bin .neq .other (.t 56) (.c (.int .u8 0)), (some (53, false)), false⟩, ⟨(some 58), .pick (.t 53) (.c (.bool true)) (.t 57), (some (42, true)), false⟩, ⟨(some 59), .pick (.t 42) (.t 58) (.c (.bool false)), (some (39, false)), false⟩, ⟨(some 60), .pick (.t 39) (.c (.bool true)) (.t 59), none, false⟩])
 (.cond (.t 60) (.seq (.reg [⟨(some 61), .mov (.t 1), none, false⟩, ⟨(some 62), .call 95 [(.t 61), (.c (.int .u8 3))], none, false⟩, ⟨(some 4), .mov (.t 62), none, false⟩])
 .ret)
 .skip))
 (.seq (.reg [⟨(some 63), .fld 2 1 false (.t 6), none, false⟩, ⟨(some 64), .load false 1 (.t 63), none, false⟩, ⟨(some 65), .conv (.int .i64) (.t 64), none, false⟩, ⟨(some 66), .fld 4 1 false (.t 6), none, false⟩, ⟨(some 67), .load false 1 (.t 66), none, false⟩, ⟨(some 68), .len false (.t 67), none, false⟩, ⟨(some 69), .fld 5 1 false (.t 6), none, false⟩, ⟨(some 70), .load false 1 (.t 69), none, false⟩, ⟨(some 71), .len false (.t 70), none, false⟩, ⟨(some 72), .mx3 (.t 65) (.t 68) (.t 71), none, false⟩, ⟨(some 8), .mov (.t 72), none, false⟩])
 (.seq (.seq (.reg [⟨(some 73), .mov (.t 5), none, false⟩])
 (.block 0 (.seq (.reg [⟨(some 75), .bin .eql .other (.t 73) (.c (.int .u8 22)), none, false⟩, ⟨(some 74), .mov (.t 75), none, false⟩])
 (.cond (.t 74) (.reg [⟨(some 8), .mov (.c (.int .i64 1)), none, false⟩])
 (.seq (.reg [⟨(some 77), .bin .eql .other (.t 73) (.c (.int .u8 23)), none, false⟩, ⟨(some 76), .mov (.t 77), none, false⟩])
 (.cond (.t 76) (.seq (.reg [⟨(some 78), .fld 2 1 false (.t 6), none, false⟩, ⟨(some 79), .load false 1 (.t 78), none, false⟩, ⟨(some 80), .conv (.int .i64) (.t 79), none, false⟩, ⟨(some 8), .mov (.t 80), none, false⟩])
 (.seq (.draw [⟨0, ⟨(some 81), .fld 3 1 false (.t 6), none, false⟩, false, [], []⟩, ⟨1, ⟨(some 82), .load false 1 (.t 81), none, false⟩, false, [], []⟩, ⟨2, ⟨(some 83), .conv (.int .i64) (.t 82), none, false⟩, false, [], []⟩, ⟨3, ⟨(some 84), .fld 5 1 false (.t 6), none, false⟩, false, [], []⟩, ⟨4, ⟨(some 85), .load false 1 (.t 84), none, false⟩, false, [], []⟩, ⟨5, ⟨(some 86), .len false (.t 85), none, false⟩, false, [], []⟩, ⟨6, ⟨(some 87), .bin .add .other (.t 83) (.t 86), none, false⟩, false, [], []⟩, ⟨7, ⟨(some 88), .mov (.t 5), none, false⟩, false, [], []⟩, ⟨8, ⟨(some 89), .call 138 [(.t 88)], none, false⟩, true, [], [(.t 81), (.t 84)]⟩, ⟨9, ⟨(some 90), .bin .gtr .other (.t 87) (.t 89), none, false⟩, false, [], []⟩])
 (.cond (.t 90) (.seq (.reg [⟨(some 91), .mov (.t 1), none, false⟩, ⟨(some 92), .call 95 [(.t 91), (.c (.int .u8 2))], none, false⟩, ⟨(some 4), .mov (.t 92), none, false⟩])
 .ret)
 .skip)))
 .skip))))))
 (.seq (.seq (.draw [⟨0, ⟨(some 93), .fld 1 1 false (.t 6), none, false⟩, false, [], []⟩, ⟨1, ⟨(some 94), .load false 1 (.t 93), none, false⟩, false, [], []⟩, ⟨2, ⟨(some 95), .conv (.int .i64) (.t 94), none, false⟩, false, [], []⟩, ⟨3, ⟨(some 96), .mov (.t 8), none, false⟩, false, [], []⟩, ⟨4, ⟨(some 97), .bin .add .other (.t 95) (.t 96), none, false⟩, false, [], []⟩, ⟨5, ⟨(some 98), .mov (.t 5), none, false⟩, false, [], []⟩, ⟨6, ⟨(some 99), .call 138 [(.t 98)], none, false⟩, true, [], [(.t 93)]⟩, ⟨7, ⟨(some 100), .bin .gtr .other (.t 97) (.t 99), none, false⟩, false, [], []⟩])
 (.cond (.t 100) (.seq (.reg [⟨(some 101), .mov (.t 1), none, false⟩, ⟨(some 102), .call 95 [(.t 101), (.c (.int .u8 2))], none, false⟩, ⟨(some 4), .mov (.t 102), none, false⟩])
 .ret)
 .skip))
 (.seq (.reg [⟨(some 103), .mov (.t 5), none, false⟩, ⟨(some 104), .fld 1 1 false (.t 6), none, false⟩, ⟨(some 105), .load false 1 (.t 104), none, false⟩, ⟨(some 106), .build [(.int .u8 0), (.int .u8 0), (.int .u16 0), (.int .u16 0), .nils, .nils] [(0, 1, (.t 103)), (2, 1, (.t 105))], none, false⟩, ⟨(some 9), .alloc [(2, (.int .u8 0)), (2, (.int .u16 0)), (2, .nils)], none, false⟩, ⟨none, .store 6 (.t 9) (.t 106), none, false⟩])
 (.seq (.reg [⟨(some 107), .fld 1 1 false (.t 6), none, false⟩, ⟨(some 108), .load false 1 (.t 107), none, false⟩, ⟨(some 109), .conv (.int .i64) (.t 108), none, false⟩, ⟨(some 10), .mov (.t 109), none, false⟩])
 (.seq (.seq (.reg [⟨(some 110), .mov (.t 5), none, false⟩])
 (.block 1 (.seq (.seq (.reg [⟨(some 112), .bin .eql .other (.t 110) (.c (.int .u8 1)), none, false⟩, ⟨(some 111), .mov (.t 112), none, false⟩])
 (.cond (.t 111) .skip
 (.reg [⟨(some 113), .bin .eql .other (.t 110) (.c (.int .u8 2)), none, false⟩, ⟨(some 111), .mov (.t 113), none, false⟩])))
 (.cond (.t 111) (.seq (.reg [⟨(some 114), .fld 2 1 false (.t 9), none, false⟩, ⟨none, .store 1 (.t 114) (.c (.int .u16 0)), none, false⟩])
 (.seq (.reg [⟨(some 11), .mov (.c (.int .i64 0)), none, false⟩])
 (.block 2 (.loop (.seq (.seq (.reg [⟨(some 115), .mov (.t 11), none, false⟩, ⟨(some 116), .mov (.t 8), none, false⟩, ⟨(some 117), .bin .lss .other (.t 115) (.t 116), none, false⟩])
 (.cond (.t 117) .skip
 (.exit 2)))
 (.seq (.block 3 (.draw [⟨0, ⟨(some 120), .fld 4 1 false (.t 9), none, false⟩, false, [], []⟩, ⟨1, ⟨(some 121), .load false 1 (.t 120), none, false⟩, false, [], []⟩, ⟨2, ⟨(some 122), .mov (.t 0), none, false⟩, false, [], []⟩, ⟨3, ⟨(some 123), .mov (.t 5), none, false⟩, false, [], []⟩, ⟨4, ⟨(some 124), .mov (.t 10), none, false⟩, false, [], []⟩, ⟨5, ⟨(some 125), .mov (.t 11), none, false⟩, false, [], []⟩, ⟨6, ⟨(some 126), .bin .add .other (.t 124) (.t 125), none, false⟩, false, [], []⟩, ⟨7, ⟨(some 127), .call 139 [(.t 122), (.t 123), (.t 126)], none, false⟩, true, [], [(.t 120)]⟩, ⟨8, ⟨(some 128), .bin .neq .other (.t 127) (.c (.int .u16 0)), none, false⟩, false, [], []⟩, ⟨9, ⟨(some 129), .bslice 1 .bool [(.bool false)] [(0, 1, (.t 128))] 1, none, false⟩, false, [], []⟩, ⟨10, ⟨(some 130), .app 1 1 (.t 121) (.t 129), none, false⟩, true, [9], []⟩, ⟨11, ⟨(some 131), .fld 4 1 false (.t 9), none, false⟩, false, [], []⟩, ⟨12, ⟨none, .store 1 (.t 131) (.t 130), none, false⟩, true, [9], []⟩]))
 (.reg [⟨(some 118), .mov (.t 11), none, false⟩, ⟨(some 119), .bin .add .other (.t 118) (.c (.int .i64 1)), none, false⟩, ⟨(some 11), .mov (.t 119), none, false⟩])))))))
 (.seq (.seq (.reg [⟨(some 133), .bin .eql .other (.t 110) (.c (.int .u8 3)), none, false⟩, ⟨(some 132), .mov (.t 133), none, false⟩])
 (.cond (.t 132) .skip
 (.seq (.reg [⟨(some 134), .bin .eql .other (.t 110) (.c (.int .u8 4)), none, false⟩, ⟨(some 132), .mov (.t 134), none, false⟩])
 (.cond (.t 132) .skip
 (.reg [⟨(some 135), .bin .eql .other (.t 110) (.c (.int .u8 23)), none, false⟩, ⟨(some 132), .mov (.t 135), none, false⟩])))))
 (.cond (.t 132) (.seq (.reg [⟨(some 136), .fld 2 1 false (.t 9), none, false⟩, ⟨none, .store 1 (.t 136) (.c (.int .u16 0)), none, false⟩])
 (.seq (.seq (.reg [⟨(some 12), .mov (.c (.int .i64 0)), none, false⟩])
 (.block 4 (.loop (.seq (.seq (.reg [⟨(some 137), .mov (.t 12), none, false⟩, ⟨(some 138), .fld 5 1 false (.t 6), none, false⟩, ⟨(some 139), .load false 1 (.t 138), none, false⟩, ⟨(some 140), .len false (.t 139), none, false⟩, ⟨(some 141), .bin .lss .other (.t 137) (.t 140), none, false⟩])
 (.cond (.t 141) .skip
 (.exit 4)))
 (.seq (.block 5 (.draw [⟨0, ⟨(some 144), .mov (.t 0), none, false⟩, false, [], []⟩, ⟨1, ⟨(some 145), .mov (.t 5), none, false⟩, false, [], []⟩, ⟨2, ⟨(some 146), .fld 3 1 false (.t 6), none, false⟩, false, [], []⟩, ⟨3, ⟨(some 147), .load false 1 (.t 146), none, false⟩, false, [], []⟩, ⟨4, ⟨(some 148), .conv (.int .i64) (.t 147), none, false⟩, false, [], []⟩, ⟨5, ⟨(some 149), .mov (.t 12), none, false⟩, false, [], []⟩, ⟨6, ⟨(some 150), .bin .add .other (.t 148) (.t 149), none, false⟩, false, [], []⟩, ⟨7, ⟨(some 151), .fld 5 1 false (.t 6), none, false⟩, false, [], []⟩, ⟨8, ⟨(some 152), .load false 1 (.t 151), none, false⟩, false, [], []⟩, ⟨9, ⟨(some 153), .mov (.t 12), none, false⟩, false, [], []⟩, ⟨10, ⟨(some 154), .idx 1 none false (.t 152) (.t 153), none, false⟩, false, [], []⟩, ⟨11, ⟨(some 155), .load false 1 (.t 154), none, false⟩, false, [], []⟩, ⟨12, ⟨(some 156), .call 140 [(.t 144), (.t 145), (.t 150), (.t 155)], none, false⟩, true, [], []⟩]))
 (.reg [⟨(some 142), .mov (.t 12), none, false⟩, ⟨(some 143), .bin .add .other (.t 142) (.c (.int .i64 1)), none, false⟩, ⟨(some 12), .mov (.t 143), none, false⟩]))))))
 (.seq (.reg [⟨(some 13), .mov (.c (.int .i64 0)), none, false⟩])
 (.block 6 (.loop (.seq (.seq (.reg [⟨(some 157), .mov (.t 13), none, false⟩, ⟨(some 158), .mov (.t 8), none, false⟩, ⟨(some 159), .bin .lss .other (.t 157) (.t 158), none, false⟩])
 (.cond (.t 159) .skip
 (.exit 6)))
 (.seq (.block 7 (.draw [⟨0, ⟨(some 162), .fld 5 1 false (.t 9), none, false⟩, false, [], []⟩, ⟨1, ⟨(some 163), .load false 1 (.t 162), none, false⟩, false, [], []⟩, ⟨2, ⟨(some 164), .mov (.t 0), none, false⟩, false, [], []⟩, ⟨3, ⟨(some 165), .mov (.t 5), none, false⟩, false, [], []⟩, ⟨4, ⟨(some 166), .mov (.t 10), none, false⟩, false, [], []⟩, ⟨5, ⟨(some 167), .mov (.t 13), none, false⟩, false, [], []⟩, ⟨6, ⟨(some 168), .bin .add .other (.t 166) (.t 167), none, false⟩, false, [], []⟩, ⟨7, ⟨(some 169), .call 139 [(.t 164), (.t 165), (.t 168)], none, false⟩, true, [], [(.t 162)]⟩, ⟨8, ⟨(some 170), .bslice 1 (.int .u16) [(.int .u16 0)] [(0, 1, (.t 169))] 1, none, false⟩, false, [], []⟩, ⟨9, ⟨(some 171), .app 1 2 (.t 163) (.t 170), none, false⟩, true, [8], []⟩, ⟨10, ⟨(some 172), .fld 5 1 false (.t 9), none, false⟩, false, [], []⟩, ⟨11, ⟨none, .store 1 (.t 172) (.t 171), none, false⟩, true, [8], []⟩]))
 (.reg [⟨(some 160), .mov (.t 13), none, false⟩, ⟨(some 161), .bin .add .other (.t 160) (.c (.int .i64 1)), none, false⟩, ⟨(some 13), .mov (.t 161), none, false⟩]))))))))
 (.seq (.seq (.reg [⟨(some 174), .bin .eql .other (.t 110) (.c (.int .u8 5)), none, false⟩, ⟨(some 173), .mov (.t 174), none, false⟩])
 (.cond (.t 173) .skip
 (.reg [⟨(some 175), .bin .eql .other (.t 110) (.c (.int .u8 15)), none, false⟩, ⟨(some 173), .mov (.t 175), none, false⟩])))
 (.cond (.t 173) (.seq (.seq (.reg [⟨(some 14), .mov (.c (.int .i64 0)), none, false⟩])
 (.block 8 (.loop (.seq (.seq (.reg [⟨(some 176), .mov (.t 14), none, false⟩, ⟨(some 177), .mov (.t 8), none, false⟩, ⟨(some 178), .bin .lss .other (.t 176) (.t 177), none, false⟩])
 (.cond (.t 178) .skip
 (.exit 8)))
 (.seq (.block 9 (.seq (.reg [⟨(some 15), .mov (.c (.int .u16 0)), none, false⟩])
 (.seq (.seq (.reg [⟨(some 181), .fld 4 1 false (.t 6), none, false⟩, ⟨(some 182), .load false 1 (.t 181), none, false⟩, ⟨(some 183), .mov (.t 14), none, false⟩, ⟨(some 184), .idx 1 none false (.t 182) (.t 183), none, false⟩, ⟨(some 185), .load false 1 (.t 184), none, false⟩])
 (.cond (.t 185) (.reg [⟨(some 15), .mov (.c (.int .u16 1)), none, false⟩])
 .skip))
 (.reg [⟨(some 186), .mov (.t 0), none, false⟩, ⟨(some 187), .mov (.t 5), none, false⟩, ⟨(some 188), .mov (.t 10), none, false⟩, ⟨(some 189), .mov (.t 14), none, false⟩, ⟨(some 190), .bin .add .other (.t 188) (.t 189), none, false⟩, ⟨(some 191), .mov (.t 15), none, false⟩, ⟨(some 192), .call 140 [(.t 186), (.t 187), (.t 190), (.t 191)], none, false⟩]))))
 (.reg [⟨(some 179), .mov (.t 14), none, false⟩, ⟨(some 180), .bin .add .other (.t 179) (.c (.int .i64 1)), none, false⟩, ⟨(some 14), .mov (.t 180), none, false⟩]))))))
 (.seq (.reg [⟨(some 193), .fld 4 1 false (.t 6), none, false⟩, ⟨(some 194), .load false 1 (.t 193), none, false⟩, ⟨(some 195), .fld 4 1 false (.t 9), none, false⟩, ⟨none, .store 1 (.t 195) (.t 194), none, false⟩])
 (.seq (.reg [⟨(some 196), .mov (.t 5), none, false⟩, ⟨(some 197), .bin .eql .other (.t 196) (.c (.int .u8 15)), none, false⟩])
 (.cond (.t 197) (.reg [⟨(some 198), .mov (.t 8), none, false⟩, ⟨(some 199), .conv (.int .u16) (.t 198), none, false⟩, ⟨(some 200), .fld 4 1 false (.t 9), none, false⟩, ⟨none, .store 1 (.t 200) (.c .nils), none, false⟩, ⟨(some 201), .fld 3 1 false (.t 9), none, false⟩, ⟨none, .store 1 (.t 201) (.t 199), none, false⟩])
 .skip))))
 (.seq (.seq (.reg [⟨(some 203), .bin .eql .other (.t 110) (.c (.int .u8 6)), none, false⟩, ⟨(some 202), .mov (.t 203), none, false⟩])
 (.cond (.t 202) .skip
 (.reg [⟨(some 204), .bin .eql .other (.t 110) (.c (.int .u8 16)), none, false⟩, ⟨(some 202), .mov (.t 204), none, false⟩])))
 (.cond (.t 202) (.seq (.seq (.reg [⟨(some 16), .mov (.c (.int .i64 0)), none, false⟩])
 (.block 10 (.loop (.seq (.seq (.reg [⟨(some 205), .mov (.t 16), none, false⟩, ⟨(some 206), .mov (.t 8), none, false⟩, ⟨(some 207), .bin .lss .other (.t 205) (.t 206), none, false⟩])
 (.cond (.t 207) .skip
 (.exit 10)))
 (.seq (.block 11 (.reg [⟨(some 210), .mov (.t 0), none, false⟩, ⟨(some 211), .mov (.t 5), none, false⟩, ⟨(some 212), .mov (.t 10), none, false⟩, ⟨(some 213), .mov (.t 16), none, false⟩, ⟨(some 214), .bin .add .other (.t 212) (.t 213), none, false⟩, ⟨(some 215), .fld 5 1 false (.t 6), none, false⟩, ⟨(some 216), .load false 1 (.t 215), none, false⟩, ⟨(some 217), .mov (.t 16), none, false⟩, ⟨(some 218), .idx 1 none false (.t 216) (.t 217), none, false⟩, ⟨(some 219), .load false 1 (.t 218), none, false⟩, ⟨(some 220), .call 140 [(.t 210), (.t 211), (.t 214), (.t 219)], none, false⟩]))
 (.reg [⟨(some 208), .mov (.t 16), none, false⟩, ⟨(some 209), .bin .add .other (.t 208) (.c (.int .i64 1)), none, false⟩, ⟨(some 16), .mov (.t 209), none, false⟩]))))))
 (.seq (.reg [⟨(some 221), .fld 5 1 false (.t 6), none, false⟩, ⟨(some 222), .load false 1 (.t 221), none, false⟩, ⟨(some 223), .fld 5 1 false (.t 9), none, false⟩, ⟨none, .store 1 (.t 223) (.t 222), none, false⟩])
 (.seq (.reg [⟨(some 224), .mov (.t 5), none, false⟩, ⟨(some 225), .bin .eql .other (.t 224) (.c (.int .u8 16)), none, false⟩])
 (.cond (.t 225) (.reg [⟨(some 226), .mov (.t 8), none, false⟩, ⟨(some 227), .conv (.int .u16) (.t 226), none, false⟩, ⟨(some 228), .fld 5 1 false (.t 9), none, false⟩, ⟨none, .store 1 (.t 228) (.c .nils), none, false⟩, ⟨(some 229), .fld 3 1 false (.t 9), none, false⟩, ⟨none, .store 1 (.t 229) (.t 227), none, false⟩])
 .skip))))
 (.seq (.reg [⟨(some 231), .bin .eql .other (.t 110) (.c (.int .u8 22)), none, false⟩, ⟨(some 230), .mov (.t 231), none, false⟩])
 (.cond (.t 230) (.seq (.draw [⟨0, ⟨(some 232), .fld 5 1 false (.t 6), none, false⟩, false, [], []⟩, ⟨1, ⟨(some 233), .load false 1 (.t 232), none, false⟩, false, [], []⟩, ⟨2, ⟨(some 234), .idx 1 none false (.t 233) (.c (.int .i64 0)), none, false⟩, false, [], []⟩, ⟨3, ⟨(some 235), .load false 1 (.t 234), none, false⟩, false, [], []⟩, ⟨4, ⟨(some 236), .fld 5 1 false (.t 6), none, false⟩, false, [], []⟩, ⟨5, ⟨(some 237), .load false 1 (.t 236), none, false⟩, false, [], []⟩, ⟨6, ⟨(some 238), .idx 1 none false (.t 237) (.c (.int .i64 1)), none, false⟩, false, [], []⟩, ⟨7, ⟨(some 239), .load false 1 (.t 238), none, false⟩, false, [], []⟩, ⟨8, ⟨(some 17), .mov (.t 235), none, false⟩, false, [], []⟩, ⟨9, ⟨(some 18), .mov (.t 239), none, false⟩, false, [], []⟩])
 (.seq (.reg [⟨(some 240), .mov (.t 0), none, false⟩, ⟨(some 241), .mov (.t 5), none, false⟩, ⟨(some 242), .mov (.t 10), none, false⟩, ⟨(some 243), .mov (.t 0), none, false⟩, ⟨(some 244), .mov (.t 5), none, false⟩, ⟨(some 245), .mov (.t 10), none, false⟩, ⟨(some 246), .call 139 [(.t 243), (.t 244), (.t 245)], none, false⟩, ⟨(some 247), .mov (.t 17), none, false⟩, ⟨(some 248), .bin .and .other (.t 246) (.t 247), none, false⟩, ⟨(some 249), .mov (.t 18), none, false⟩, ⟨(some 250), .mov (.t 17), none, false⟩, ⟨(some 251), .bin .andNot .other (.t 249) (.t 250), none, false⟩, ⟨(some 252), .bin .or .other (.t 248) (.t 251), none, false⟩, ⟨(some 253), .call 140 [(.t 240), (.t 241), (.t 242), (.t 252)], none, false⟩])
 (.reg [⟨(some 254), .fld 5 1 false (.t 6), none, false⟩, ⟨(some 255), .load false 1 (.t 254), none, false⟩, ⟨(some 256), .fld 5 1 false (.t 9), none, false⟩, ⟨none, .store 1 (.t 256) (.t 255), none, false⟩])))
 .skip))))))))))))
 (.seq (.reg [⟨(some 258), .load true 6 (.t 9), none, false⟩, ⟨(some 259), .call 57 [(.t 258)], none, false⟩, ⟨(some 257), .mov (.t 259), none, false⟩, ⟨(some 260), .ext (.t 257) 0, none, false⟩, ⟨(some 261), .ext (.t 257) 1, none, false⟩, ⟨(some 19), .mov (.t 260), none, false⟩, ⟨(some 20), .mov (.t 261), none, false⟩])
 (.seq (.reg [⟨(some 262), .mov (.t 19), none, false⟩, ⟨(some 4), .mov (.t 262), none, false⟩])
 .ret))))))))))))))
def r92 : List ARes := [.t 4]
theorem c92 : compF Try.prog Try.f92 = some (a92, r92) := by kernel_rfl

theorem b92 : hasBody Try.prog 92 = true := by kernel_rfl
theorem g92 : Try.prog.funcs[92]? = some Try.f92 := by kernel_rfl

theorem tbl_has (p q n : Int) (hp : p ≠ 0) (hq : q ≠ 0 ∨ szA q = 0) (hz : 0 ≤ szA q) (hn : 0 ≤ n) : ((tblP p q n).1 != 0) = decide (n < szA p + szA q) := by
  unfold tblP
  rw [if_neg (by omega)]
  by_cases h1 : n < szA p
  · rw [if_pos h1, Bool.eq_iff_iff]; simp [hp]; omega
  · rw [if_neg h1]
    by_cases h2 : n - szA p < szA q
    · rw [if_pos h2, Bool.eq_iff_iff]
      have : q ≠ 0 := by
        rcases hq with h | h
        · exact h
        · omega
      simp [this]; omega
    · rw [if_neg h2, Bool.eq_iff_iff]; simp; omega
theorem hasB_eq (f a n : Int) (hf : knownB f = true) (ha : 0 ≤ a) (hn : 1 ≤ n) : hasB f a n = !decide (a + n > szF f) := by
  simp only [knownB, Bool.or_eq_true, beq_iff_eq] at hf
  have key : ∀ p q S : Int, p ≠ 0 → (q ≠ 0 ∨ szA q = 0) → 0 ≤ szA q → szA p + szA q = S → (((tblP p q a).1 != 0) && ((tblP p q (a + n - 1)).1 != 0)) = !decide (a + n > S) := fun p q S h1 h2 h3 h4 => by
    rw [tbl_has p q a h1 h2 h3 ha, tbl_has p q (a + n - 1) h1 h2 h3 (by omega), h4, Bool.eq_iff_iff]
    simp; omega
  rcases hf with ((((((((rfl | rfl) | rfl) | rfl) | rfl) | rfl) | rfl) | rfl) | rfl) | rfl
  · exact key 2 3 256 (by decide) (by first | exact .inl (by decide) | exact .inr rfl) (by decide) rfl
  · exact key 1 0 128 (by decide) (by first | exact .inl (by decide) | exact .inr rfl) (by decide) rfl
  · exact key 5 6 128 (by decide) (by first | exact .inl (by decide) | exact .inr rfl) (by decide) rfl
  · exact key 4 0 64 (by decide) (by first | exact .inl (by decide) | exact .inr rfl) (by decide) rfl
  · exact key 2 3 256 (by decide) (by first | exact .inl (by decide) | exact .inr rfl) (by decide) rfl
  · exact key 5 6 128 (by decide) (by first | exact .inl (by decide) | exact .inr rfl) (by decide) rfl
  · exact key 2 3 256 (by decide) (by first | exact .inl (by decide) | exact .inr rfl) (by decide) rfl
  · exact key 5 6 128 (by decide) (by first | exact .inl (by decide) | exact .inr rfl) (by decide) rfl
  · exact key 5 6 128 (by decide) (by first | exact .inl (by decide) | exact .inr rfl) (by decide) rfl
  · exact key 5 6 128 (by decide) (by first | exact .inl (by decide) | exact .inr rfl) (by decide) rfl
theorem dec5 (l : List Int) (h : (decS l).2 = 0) (hf : l.getD 0 0 = 5) : (l.getD 3 0 = 0 ∨ l.getD 3 0 = 255) ∧ l.getD 4 0 = 0 ∧ 5 ≤ l.length := by
  by_cases h5 : l.length < 5
  · rw [decS_no l (by unfold openedS; rw [if_pos (by simp; omega)])] at h
    cases h
  · have hS := opS l (by omega)
    rw [hf] at hS
    have hO : openedS l = (⟨5, numAt l 1, 0, 0, [numAt (l.drop 3) 0 == 65280], []⟩, true) := by rw [hS]; rfl
    rw [decS_def l _ hO] at h
    split at h
    · rename_i hc
      simp only [Bool.and_eq_true, beq_iff_eq] at hc
      have hl := hc.2
      rw [again_not15 _ _ _ _ rfl] at hl
      have he : encR 5 (numAt l 1) 0 0 [numAt (l.drop 3) 0 == 65280] [] = (reqS 5 (numAt l 1) 0 0 [numAt (l.drop 3) 0 == 65280] []).row := by
        unfold encR; rw [if_pos (by rfl)]
      simp only [he] at hl
      have hg : ∀ k, l.getD k 0 = (reqS 5 (numAt l 1) 0 0 [numAt (l.drop 3) 0 == 65280] []).row.getD k 0 := fun k => by rw [hl]
      rw [hg 3, hg 4]
      refine ⟨?_, ?_, by omega⟩
      · generalize (numAt (l.drop 3) 0 == 65280) = c
        cases c
        · left; rfl
        · right; rfl
      · generalize (numAt (l.drop 3) 0 == 65280) = c
        cases c <;> rfl
    · cases h
theorem frz_repB (h : Nat) (f x a n : Int) (L : List Bool) (len : Nat) (hl : len = L.length) : frzL h (.rowB L) [repA f x a n (.sl 1 h 0 len) .nils] = [repA f x a n (.roB L) .nils] := by
  show [AV.agg [_, _, _, _, AV.frz h (.rowB L) (.sl 1 h 0 len), _]] = _
  rw [frz_rowB h L len hl]; rfl
theorem frz_repI (h : Nat) (f x a n : Int) (L : List Int) (len : Nat) (hl : len = L.length) : frzL h (.rowI .u16 L) [repA f x a n .nils (.sl 1 h 0 len)] = [repA f x a n .nils (.roI .u16 L)] := by
  show [AV.agg [_, _, _, _, _, AV.frz h (.rowI .u16 L) (.sl 1 h 0 len)]] = _
  rw [frz_row h .u16 L len hl]; rfl
theorem leRepZ {f x a n : Int} {B R : AV} {b : List Bool} {r : List Int} (hb : Le B (.roB b)) (hr : Le R (.roI .u16 r)) : LeL [repA f x a n B R] [repA f x a n (.roB b) (.roI .u16 r)] :=
  ⟨Le.agg ⟨Le.refl _, Le.refl _, Le.refl _, Le.refl _, hb, hr, trivial⟩, trivial⟩
set_option maxRecDepth 20000 in
theorem rs6_tr (I : Img) (l : List Int) (hl : l.length ≤ 1000) (hB : isB l) (h0 : l ≠ []) (hf : l.getD 0 0 = 6) : RmT 92 [.ptr 0 0, .roI .u8 l] I (.roI .u8 (serveB I l)) (serveI I l) := by
  refine FrzB.rm rfl (trF g92 b92 c92 ?_)
  conv => whnf
  have hlen : 0 < l.length := by
    cases l with
    | nil => exact absurd rfl h0
    | cons a t => simp
  refine condN (by simp; omega) ?_
  conv => whnf
  refine condT (by simp; omega) ?_
  conv => whnf
  rw [show l.getD (Int.toNat 0) 0 = 6 from hf]
  refine Ev.call (rknown_ev 6) ?_
  conv => whnf
  have hO := rOpen_ev l hl
  rw [dec_same l hB hl] at hO
  have hS : serveB I l = (if (decS l).2 = 0 then (if thereB (decS l).1.f (decS l).1.a (decS l).1.n (decS l).1.a2 (decS l).1.b (decS l).1.r then doesB I (decS l).1.f (decS l).1.a (decS l).1.n (decS l).1.a2 (decS l).1.b (decS l).1.r else excB l 2) else excB l 3) := by
    unfold serveB; rw [if_neg h0, if_pos (by rw [hf]; rfl)]
  have hI : serveI I l = (if (decS l).2 = 0 then (if thereB (decS l).1.f (decS l).1.a (decS l).1.n (decS l).1.a2 (decS l).1.b (decS l).1.r then doesI I (decS l).1.f (decS l).1.a (decS l).1.n (decS l).1.a2 (decS l).1.b (decS l).1.r else I) else I) := by
    unfold serveI; rw [if_neg h0, if_pos (by rw [hf]; rfl)]
  have hq := decS_ok l hl
  have h5 := dec5 l
  generalize decS l = d at *
  obtain ⟨⟨f, a, n, a2, b, r⟩, e⟩ := d
  have hO : Ev Try.prog 54 [.roI .u8 l] (.tup [reqA f a n a2 (.roB b) (.roI .u16 r), .int .i64 e]) := hO
  refine Ev.call hO ?_
  clear hO
  conv => whnf
  by_cases he : e ≠ 0
  · rw [if_neg he] at hS hI
    refine condY (by simp [he]) ?_
    conv => whnf
    refine Ev.call (rexc_ev l 3) ?_
    conv => whnf
    rw [hS, hI]
    exact FrzB.le (Le.refl _) rfl
  have he : e = 0 := by simpa using he
  obtain ⟨hf', hQ⟩ := hq he
  have hf' : f = l.getD 0 0 := hf'
  have hQ2 : OkQ f a n a2 b r := hQ
  clear hQ
  rw [hf] at hf'
  subst hf'
  have h5 := h5 he
  subst he
  rw [if_pos rfl] at hS hI
  have hS2 : serveB I l = (if thereB 6 a n a2 b r then doesB I 6 a n a2 b r else excB l 2) := hS
  have hI2 : serveI I l = (if thereB 6 a n a2 b r then doesI I 6 a n a2 b r else I) := hI
  clear hq
  obtain ⟨ha, hn, ha2, hb, hr, hx, ok⟩ := hQ2
  have hx0 : ∀ x ∈ r, 0 ≤ x := fun x h => (hx x h).1
  rw [hS2, hI2]
  clear hS hI hS2 hI2
  conv => whnf
  have hk : encOk 6 n a2 b r = true := ok
  simp [encOk, withinB] at hk
  have hwa : IntKind.i64.wrap a = a := w64i (by omega) (by omega)
  have hw : IntKind.i64.wrap (a + (r.length : Int)) = a + (r.length : Int) := w64i (by omega) (by omega)
  have hT : thereB 6 a n a2 b r = !decide (a + (r.length : Int) > szF 6) := by
    rw [← hasB_eq 6 a (r.length : Int) rfl ha.1 (by omega)]; rfl
  rw [hT]
  refine Ev.call (rsizeF_ev 6) ?_
  conv => whnf
  have hM : (if (r.length : Int) > if (b.length : Int) > IntKind.i64.wrap n then (b.length : Int) else IntKind.i64.wrap n then (r.length : Int) else if (b.length : Int) > IntKind.i64.wrap n then (b.length : Int) else IntKind.i64.wrap n) = (r.length : Int) := by
    have hwn : IntKind.i64.wrap n = n := w64i (by omega) (by omega)
    rw [hwn]
    simp [hk]
    try (first | omega | (intro h; simp [h]))
  rw [hM]
  rw [hwa, hw]
  refine ⟨rfl, ?_⟩
  conv => whnf
  by_cases hh : decide (a + (r.length : Int) > szF 6) = true
  · have hc : ¬ ((!decide (a + (r.length : Int) > szF 6)) = true) := by rw [hh]; simp
    rw [if_neg hc, if_neg hc]
    refine condY hh ?_
    conv => whnf
    refine Ev.call (rexc_ev l 2) ?_
    conv => whnf
    exact FrzB.le (Le.refl _) rfl
  have hh' : decide (a + (r.length : Int) > szF 6) = false := by simpa using hh
  have hc : (!decide (a + (r.length : Int) > szF 6)) = true := by rw [hh']; rfl
  rw [if_pos hc, if_pos hc]
  refine condN hh' ?_
  conv => whnf
  rw [hwa]
  refine loopI (α := {i : Nat // i ≤ r.length}) (fun i => [(0, .ptr 0 0), (5, .int .u8 6), (6, .ptr 1 0), (8, .int .i64 r.length), (9, .ptr 2 0), (10, .int .i64 a), (16, .int .i64 i.1)])
      (fun i => ⟨3, [(0, some (rmC (tpsN I 6 a r i.1))), (1, some (.obj [.int .u8 6, .int .u16 a, .int .u16 n, .int .u16 a2, .roB b, .roI .u16 r])), (2, some (.obj [.int .u8 6, .int .u8 0, .int .u16 a, .int .u16 0, .nils, .nils]))]⟩) (fun i => r.length - i.1) ⟨0, Nat.zero_le _⟩
      ⟨[], rfl, rfl, rfl, ⟨⟨rfl, rfl⟩, ⟨rfl, rfl⟩, ⟨rfl, rfl⟩, ⟨rfl, rfl⟩, ⟨rfl, rfl⟩, ⟨rfl, rfl⟩, ⟨rfl, rfl⟩, trivial⟩, ⟨⟨trivial, rfl, rfl⟩, ⟨rfl, rfl, rfl⟩, ⟨rfl, rfl, rfl⟩, trivial⟩⟩ fun ⟨i, hi⟩ => ?_
  conv => whnf
  by_cases hlt : i < r.length
  · refine condY (by simp; omega) ?_
    conv => whnf
    refine condT (by simp; omega) ?_
    conv => whnf
    rw [show IntKind.i64.wrap (a + ((i : Nat) : Int)) = a + i from w64i (by omega) (by omega)]
    refine blkCall (rput_tr (tpsN I 6 a r i) 6 (a + i) (r.getD i 0) (by omega) (by omega)) rfl rfl rfl ?_
    conv => whnf
    refine ⟨⟨i + 1, hlt⟩, ⟨[], rfl, rfl, rfl, ⟨⟨rfl, rfl⟩, ⟨rfl, rfl⟩, ⟨rfl, rfl⟩, ⟨rfl, rfl⟩, ⟨rfl, rfl⟩, ⟨rfl, rfl⟩, ⟨?_, rfl⟩, trivial⟩, ⟨⟨trivial, rfl, rfl⟩, ⟨rfl, rfl, rfl⟩, ⟨rfl, rfl, rfl⟩, trivial⟩⟩, by show r.length - (i + 1) < r.length - i; omega⟩
    show AV.int .i64 (IntKind.i64.wrap ((i : Int) + 1)) = AV.int .i64 ((i + 1 : Nat) : Int)
    rw [s64 (by omega)]
  · obtain rfl : i = r.length := by omega
    refine condN (by simp) ?_
    conv => whnf
    refine Tr.le (leRepZ Le.nilB (Le.refl _)) (Ev.call (rReply_ev 6 0 a 0 [] r (by omega) (by omega) (by first | omega | (simp; done) | (simp; omega)) (by first | omega | (simp; done) | (simp; omega))) ?_)
    conv => whnf
    exact FrzB.le (Le.refl _) rfl
set_option maxRecDepth 20000 in
theorem rs16_tr (I : Img) (l : List Int) (hl : l.length ≤ 1000) (hB : isB l) (h0 : l ≠ []) (hf : l.getD 0 0 = 16) : RmT 92 [.ptr 0 0, .roI .u8 l] I (.roI .u8 (serveB I l)) (serveI I l) := by
  refine FrzB.rm rfl (trF g92 b92 c92 ?_)
  conv => whnf
  have hlen : 0 < l.length := by
    cases l with
    | nil => exact absurd rfl h0
    | cons a t => simp
  refine condN (by simp; omega) ?_
  conv => whnf
  refine condT (by simp; omega) ?_
  conv => whnf
  rw [show l.getD (Int.toNat 0) 0 = 16 from hf]
  refine Ev.call (rknown_ev 16) ?_
  conv => whnf
  have hO := rOpen_ev l hl
  rw [dec_same l hB hl] at hO
  have hS : serveB I l = (if (decS l).2 = 0 then (if thereB (decS l).1.f (decS l).1.a (decS l).1.n (decS l).1.a2 (decS l).1.b (decS l).1.r then doesB I (decS l).1.f (decS l).1.a (decS l).1.n (decS l).1.a2 (decS l).1.b (decS l).1.r else excB l 2) else excB l 3) := by
    unfold serveB; rw [if_neg h0, if_pos (by rw [hf]; rfl)]
  have hI : serveI I l = (if (decS l).2 = 0 then (if thereB (decS l).1.f (decS l).1.a (decS l).1.n (decS l).1.a2 (decS l).1.b (decS l).1.r then doesI I (decS l).1.f (decS l).1.a (decS l).1.n (decS l).1.a2 (decS l).1.b (decS l).1.r else I) else I) := by
    unfold serveI; rw [if_neg h0, if_pos (by rw [hf]; rfl)]
  have hq := decS_ok l hl
  have h5 := dec5 l
  generalize decS l = d at *
  obtain ⟨⟨f, a, n, a2, b, r⟩, e⟩ := d
  have hO : Ev Try.prog 54 [.roI .u8 l] (.tup [reqA f a n a2 (.roB b) (.roI .u16 r), .int .i64 e]) := hO
  refine Ev.call hO ?_
  clear hO
  conv => whnf
  by_cases he : e ≠ 0
  · rw [if_neg he] at hS hI
    refine condY (by simp [he]) ?_
    conv => whnf
    refine Ev.call (rexc_ev l 3) ?_
    conv => whnf
    rw [hS, hI]
    exact FrzB.le (Le.refl _) rfl
  have he : e = 0 := by simpa using he
  obtain ⟨hf', hQ⟩ := hq he
  have hf' : f = l.getD 0 0 := hf'
  have hQ2 : OkQ f a n a2 b r := hQ
  clear hQ
  rw [hf] at hf'
  subst hf'
  have h5 := h5 he
  subst he
  rw [if_pos rfl] at hS hI
  have hS2 : serveB I l = (if thereB 16 a n a2 b r then doesB I 16 a n a2 b r else excB l 2) := hS
  have hI2 : serveI I l = (if thereB 16 a n a2 b r then doesI I 16 a n a2 b r else I) := hI
  clear hq
  obtain ⟨ha, hn, ha2, hb, hr, hx, ok⟩ := hQ2
  have hx0 : ∀ x ∈ r, 0 ≤ x := fun x h => (hx x h).1
  rw [hS2, hI2]
  clear hS hI hS2 hI2
  conv => whnf
  have hk : encOk 16 n a2 b r = true := ok
  simp [encOk, withinB] at hk
  have hwa : IntKind.i64.wrap a = a := w64i (by omega) (by omega)
  have hw : IntKind.i64.wrap (a + (r.length : Int)) = a + (r.length : Int) := w64i (by omega) (by omega)
  have hT : thereB 16 a n a2 b r = !decide (a + (r.length : Int) > szF 16) := by
    rw [← hasB_eq 16 a (r.length : Int) rfl ha.1 (by omega)]; rfl
  rw [hT]
  refine Ev.call (rsizeF_ev 16) ?_
  conv => whnf
  have hM : (if (r.length : Int) > if (b.length : Int) > IntKind.i64.wrap n then (b.length : Int) else IntKind.i64.wrap n then (r.length : Int) else if (b.length : Int) > IntKind.i64.wrap n then (b.length : Int) else IntKind.i64.wrap n) = (r.length : Int) := by
    have hwn : IntKind.i64.wrap n = n := w64i (by omega) (by omega)
    rw [hwn]
    simp [hk]
    try (first | omega | (intro h; simp [h]))
  rw [hM]
  rw [hwa, hw]
  refine ⟨rfl, ?_⟩
  conv => whnf
  by_cases hh : decide (a + (r.length : Int) > szF 16) = true
  · have hc : ¬ ((!decide (a + (r.length : Int) > szF 16)) = true) := by rw [hh]; simp
    rw [if_neg hc, if_neg hc]
    refine condY hh ?_
    conv => whnf
    refine Ev.call (rexc_ev l 2) ?_
    conv => whnf
    exact FrzB.le (Le.refl _) rfl
  have hh' : decide (a + (r.length : Int) > szF 16) = false := by simpa using hh
  have hc : (!decide (a + (r.length : Int) > szF 16)) = true := by rw [hh']; rfl
  rw [if_pos hc, if_pos hc]
  refine condN hh' ?_
  conv => whnf
  rw [hwa]
  refine loopI (α := {i : Nat // i ≤ r.length}) (fun i => [(0, .ptr 0 0), (5, .int .u8 16), (6, .ptr 1 0), (8, .int .i64 r.length), (9, .ptr 2 0), (10, .int .i64 a), (16, .int .i64 i.1)])
      (fun i => ⟨3, [(0, some (rmC (tpsN I 16 a r i.1))), (1, some (.obj [.int .u8 16, .int .u16 a, .int .u16 n, .int .u16 a2, .roB b, .roI .u16 r])), (2, some (.obj [.int .u8 16, .int .u8 0, .int .u16 a, .int .u16 0, .nils, .nils]))]⟩) (fun i => r.length - i.1) ⟨0, Nat.zero_le _⟩
      ⟨[], rfl, rfl, rfl, ⟨⟨rfl, rfl⟩, ⟨rfl, rfl⟩, ⟨rfl, rfl⟩, ⟨rfl, rfl⟩, ⟨rfl, rfl⟩, ⟨rfl, rfl⟩, ⟨rfl, rfl⟩, trivial⟩, ⟨⟨trivial, rfl, rfl⟩, ⟨rfl, rfl, rfl⟩, ⟨rfl, rfl, rfl⟩, trivial⟩⟩ fun ⟨i, hi⟩ => ?_
  conv => whnf
  by_cases hlt : i < r.length
  · refine condY (by simp; omega) ?_
    conv => whnf
    refine condT (by simp; omega) ?_
    conv => whnf
    rw [show IntKind.i64.wrap (a + ((i : Nat) : Int)) = a + i from w64i (by omega) (by omega)]
    refine blkCall (rput_tr (tpsN I 16 a r i) 16 (a + i) (r.getD i 0) (by omega) (by omega)) rfl rfl rfl ?_
    conv => whnf
    refine ⟨⟨i + 1, hlt⟩, ⟨[], rfl, rfl, rfl, ⟨⟨rfl, rfl⟩, ⟨rfl, rfl⟩, ⟨rfl, rfl⟩, ⟨rfl, rfl⟩, ⟨rfl, rfl⟩, ⟨rfl, rfl⟩, ⟨?_, rfl⟩, trivial⟩, ⟨⟨trivial, rfl, rfl⟩, ⟨rfl, rfl, rfl⟩, ⟨rfl, rfl, rfl⟩, trivial⟩⟩, by show r.length - (i + 1) < r.length - i; omega⟩
    show AV.int .i64 (IntKind.i64.wrap ((i : Int) + 1)) = AV.int .i64 ((i + 1 : Nat) : Int)
    rw [s64 (by omega)]
  · obtain rfl : i = r.length := by omega
    refine condN (by simp) ?_
    conv => whnf
    rw [wLen _ (by omega)]
    refine Tr.le (leRepZ Le.nilB (Le.nilI _)) (Ev.call (rReply_ev 16 0 a r.length [] [] (by omega) (by omega) (by first | omega | (simp; done) | (simp; omega)) (by first | omega | (simp; done) | (simp; omega))) ?_)
    conv => whnf
    exact FrzB.le (Le.refl _) rfl
set_option maxRecDepth 20000 in
theorem rs15_tr (I : Img) (l : List Int) (hl : l.length ≤ 1000) (hB : isB l) (h0 : l ≠ []) (hf : l.getD 0 0 = 15) : RmT 92 [.ptr 0 0, .roI .u8 l] I (.roI .u8 (serveB I l)) (serveI I l) := by
  refine FrzB.rm rfl (trF g92 b92 c92 ?_)
  conv => whnf
  have hlen : 0 < l.length := by
    cases l with
    | nil => exact absurd rfl h0
    | cons a t => simp
  refine condN (by simp; omega) ?_
  conv => whnf
  refine condT (by simp; omega) ?_
  conv => whnf
  rw [show l.getD (Int.toNat 0) 0 = 15 from hf]
  refine Ev.call (rknown_ev 15) ?_
  conv => whnf
  have hO := rOpen_ev l hl
  rw [dec_same l hB hl] at hO
  have hS : serveB I l = (if (decS l).2 = 0 then (if thereB (decS l).1.f (decS l).1.a (decS l).1.n (decS l).1.a2 (decS l).1.b (decS l).1.r then doesB I (decS l).1.f (decS l).1.a (decS l).1.n (decS l).1.a2 (decS l).1.b (decS l).1.r else excB l 2) else excB l 3) := by
    unfold serveB; rw [if_neg h0, if_pos (by rw [hf]; rfl)]
  have hI : serveI I l = (if (decS l).2 = 0 then (if thereB (decS l).1.f (decS l).1.a (decS l).1.n (decS l).1.a2 (decS l).1.b (decS l).1.r then doesI I (decS l).1.f (decS l).1.a (decS l).1.n (decS l).1.a2 (decS l).1.b (decS l).1.r else I) else I) := by
    unfold serveI; rw [if_neg h0, if_pos (by rw [hf]; rfl)]
  have hq := decS_ok l hl
  have h5 := dec5 l
  generalize decS l = d at *
  obtain ⟨⟨f, a, n, a2, b, r⟩, e⟩ := d
  have hO : Ev Try.prog 54 [.roI .u8 l] (.tup [reqA f a n a2 (.roB b) (.roI .u16 r), .int .i64 e]) := hO
  refine Ev.call hO ?_
  clear hO
  conv => whnf
  by_cases he : e ≠ 0
  · rw [if_neg he] at hS hI
    refine condY (by simp [he]) ?_
    conv => whnf
    refine Ev.call (rexc_ev l 3) ?_
    conv => whnf
    rw [hS, hI]
    exact FrzB.le (Le.refl _) rfl
  have he : e = 0 := by simpa using he
  obtain ⟨hf', hQ⟩ := hq he
  have hf' : f = l.getD 0 0 := hf'
  have hQ2 : OkQ f a n a2 b r := hQ
  clear hQ
  rw [hf] at hf'
  subst hf'
  have h5 := h5 he
  subst he
  rw [if_pos rfl] at hS hI
  have hS2 : serveB I l = (if thereB 15 a n a2 b r then doesB I 15 a n a2 b r else excB l 2) := hS
  have hI2 : serveI I l = (if thereB 15 a n a2 b r then doesI I 15 a n a2 b r else I) := hI
  clear hq
  obtain ⟨ha, hn, ha2, hb, hr, hx, ok⟩ := hQ2
  have hx0 : ∀ x ∈ r, 0 ≤ x := fun x h => (hx x h).1
  rw [hS2, hI2]
  clear hS hI hS2 hI2
  conv => whnf
  have hk : encOk 15 n a2 b r = true := ok
  simp [encOk, withinB] at hk
  have hwa : IntKind.i64.wrap a = a := w64i (by omega) (by omega)
  have hw : IntKind.i64.wrap (a + (b.length : Int)) = a + (b.length : Int) := w64i (by omega) (by omega)
  have hT : thereB 15 a n a2 b r = !decide (a + (b.length : Int) > szF 15) := by
    rw [← hasB_eq 15 a (b.length : Int) rfl ha.1 (by omega)]; rfl
  rw [hT]
  refine Ev.call (rsizeF_ev 15) ?_
  conv => whnf
  have hM : (if (r.length : Int) > if (b.length : Int) > IntKind.i64.wrap n then (b.length : Int) else IntKind.i64.wrap n then (r.length : Int) else if (b.length : Int) > IntKind.i64.wrap n then (b.length : Int) else IntKind.i64.wrap n) = (b.length : Int) := by
    have hwn : IntKind.i64.wrap n = n := w64i (by omega) (by omega)
    rw [hwn]
    simp [hk]
    try (first | omega | (intro h; simp [h]))
  rw [hM]
  rw [hwa, hw]
  refine ⟨rfl, ?_⟩
  conv => whnf
  by_cases hh : decide (a + (b.length : Int) > szF 15) = true
  · have hc : ¬ ((!decide (a + (b.length : Int) > szF 15)) = true) := by rw [hh]; simp
    rw [if_neg hc, if_neg hc]
    refine condY hh ?_
    conv => whnf
    refine Ev.call (rexc_ev l 2) ?_
    conv => whnf
    exact FrzB.le (Le.refl _) rfl
  have hh' : decide (a + (b.length : Int) > szF 15) = false := by simpa using hh
  have hc : (!decide (a + (b.length : Int) > szF 15)) = true := by rw [hh']; rfl
  rw [if_pos hc, if_pos hc]
  refine condN hh' ?_
  conv => whnf
  rw [hwa]
  refine loopI (α := {i : Nat // i ≤ b.length}) (fun i => [(0, .ptr 0 0), (5, .int .u8 15), (6, .ptr 1 0), (8, .int .i64 b.length), (9, .ptr 2 0), (10, .int .i64 a), (14, .int .i64 i.1)])
      (fun i => ⟨3, [(0, some (rmC (tpsN I 15 a (b.map bitI) i.1))), (1, some (.obj [.int .u8 15, .int .u16 a, .int .u16 n, .int .u16 a2, .roB b, .roI .u16 r])), (2, some (.obj [.int .u8 15, .int .u8 0, .int .u16 a, .int .u16 0, .nils, .nils]))]⟩) (fun i => b.length - i.1) ⟨0, Nat.zero_le _⟩
      ⟨[], rfl, rfl, rfl, ⟨⟨rfl, rfl⟩, ⟨rfl, rfl⟩, ⟨rfl, rfl⟩, ⟨rfl, rfl⟩, ⟨rfl, rfl⟩, ⟨rfl, rfl⟩, ⟨rfl, rfl⟩, trivial⟩, ⟨⟨trivial, rfl, rfl⟩, ⟨rfl, rfl, rfl⟩, ⟨rfl, rfl, rfl⟩, trivial⟩⟩ fun ⟨i, hi⟩ => ?_
  conv => whnf
  by_cases hlt : i < b.length
  · refine condY (by simp; omega) ?_
    conv => whnf
    refine condT (by simp; omega) ?_
    conv => whnf
    have hg : (b.map bitI).getD i 0 = bitI (b.getD i false) := by simp [List.getD_eq_getElem?_getD, List.getElem?_eq_getElem hlt]
    have hs : ∀ K : Img → Prop, K (tpsN I 15 a (b.map bitI) (i + 1)) → K (tp (tpsN I 15 a (b.map bitI) i) 15 (a + i) (bitI (b.getD i false))) := fun K h => by rw [← hg]; exact h
    refine condF (fun h => ?_) (fun h => ?_)
    · have hv : bitI (b.getD i false) = 0 := by
        have : b.getD i false = false := h
        rw [this]; rfl
      rw [hv] at hs
      conv => whnf
      rw [show IntKind.i64.wrap (a + ((i : Nat) : Int)) = a + i from w64i (by omega) (by omega)]
      refine blkCall (rput_tr (tpsN I 15 a (b.map bitI) i) 15 (a + i) 0 (by omega) (by omega)) rfl rfl rfl ?_
      conv => whnf
      refine ⟨⟨i + 1, hlt⟩, ⟨[], rfl, rfl, rfl, ⟨⟨rfl, rfl⟩, ⟨rfl, rfl⟩, ⟨rfl, rfl⟩, ⟨rfl, rfl⟩, ⟨rfl, rfl⟩, ⟨rfl, rfl⟩, ⟨?_, rfl⟩, trivial⟩, ⟨⟨trivial, rfl, ?_⟩, ⟨rfl, rfl, rfl⟩, ⟨rfl, rfl, rfl⟩, trivial⟩⟩, by show b.length - (i + 1) < b.length - i; omega⟩
      · show AV.int .i64 (IntKind.i64.wrap ((i : Int) + 1)) = AV.int .i64 ((i + 1 : Nat) : Int)
        rw [s64 (by omega)]
      · exact hs (fun J => some (rmC J) = some (rmC (tpsN I 15 a (b.map bitI) (i + 1)))) rfl
    · have hv : bitI (b.getD i false) = 1 := by
        have : b.getD i false = true := h
        rw [this]; rfl
      rw [hv] at hs
      conv => whnf
      rw [show IntKind.i64.wrap (a + ((i : Nat) : Int)) = a + i from w64i (by omega) (by omega)]
      refine blkCall (rput_tr (tpsN I 15 a (b.map bitI) i) 15 (a + i) 1 (by omega) (by omega)) rfl rfl rfl ?_
      conv => whnf
      refine ⟨⟨i + 1, hlt⟩, ⟨[], rfl, rfl, rfl, ⟨⟨rfl, rfl⟩, ⟨rfl, rfl⟩, ⟨rfl, rfl⟩, ⟨rfl, rfl⟩, ⟨rfl, rfl⟩, ⟨rfl, rfl⟩, ⟨?_, rfl⟩, trivial⟩, ⟨⟨trivial, rfl, ?_⟩, ⟨rfl, rfl, rfl⟩, ⟨rfl, rfl, rfl⟩, trivial⟩⟩, by show b.length - (i + 1) < b.length - i; omega⟩
      · show AV.int .i64 (IntKind.i64.wrap ((i : Int) + 1)) = AV.int .i64 ((i + 1 : Nat) : Int)
        rw [s64 (by omega)]
      · exact hs (fun J => some (rmC J) = some (rmC (tpsN I 15 a (b.map bitI) (i + 1)))) rfl
  · obtain rfl : i = b.length := by omega
    have hT : doesI I 15 a n a2 b r = tpsN I 15 a (b.map bitI) b.length := by show tpsN _ _ _ _ _ = _; rw [List.length_map]
    rw [hT]
    refine condN (by simp) ?_
    conv => whnf
    rw [wLen _ (by omega)]
    refine Tr.le (leRepZ Le.nilB (Le.nilI _)) (Ev.call (rReply_ev 15 0 a b.length [] [] (by omega) (by omega) (by first | omega | (simp; done) | (simp; omega)) (by first | omega | (simp; done) | (simp; omega))) ?_)
    conv => whnf
    exact FrzB.le (Le.refl _) rfl
set_option maxRecDepth 20000 in
theorem rs22_tr (I : Img) (l : List Int) (hl : l.length ≤ 1000) (hB : isB l) (h0 : l ≠ []) (hf : l.getD 0 0 = 22) : RmT 92 [.ptr 0 0, .roI .u8 l] I (.roI .u8 (serveB I l)) (serveI I l) := by
  refine FrzB.rm rfl (trF g92 b92 c92 ?_)
  conv => whnf
  have hlen : 0 < l.length := by
    cases l with
    | nil => exact absurd rfl h0
    | cons a t => simp
  refine condN (by simp; omega) ?_
  conv => whnf
  refine condT (by simp; omega) ?_
  conv => whnf
  rw [show l.getD (Int.toNat 0) 0 = 22 from hf]
  refine Ev.call (rknown_ev 22) ?_
  conv => whnf
  have hO := rOpen_ev l hl
  rw [dec_same l hB hl] at hO
  have hS : serveB I l = (if (decS l).2 = 0 then (if thereB (decS l).1.f (decS l).1.a (decS l).1.n (decS l).1.a2 (decS l).1.b (decS l).1.r then doesB I (decS l).1.f (decS l).1.a (decS l).1.n (decS l).1.a2 (decS l).1.b (decS l).1.r else excB l 2) else excB l 3) := by
    unfold serveB; rw [if_neg h0, if_pos (by rw [hf]; rfl)]
  have hI : serveI I l = (if (decS l).2 = 0 then (if thereB (decS l).1.f (decS l).1.a (decS l).1.n (decS l).1.a2 (decS l).1.b (decS l).1.r then doesI I (decS l).1.f (decS l).1.a (decS l).1.n (decS l).1.a2 (decS l).1.b (decS l).1.r else I) else I) := by
    unfold serveI; rw [if_neg h0, if_pos (by rw [hf]; rfl)]
  have hq := decS_ok l hl
  have h5 := dec5 l
  generalize decS l = d at *
  obtain ⟨⟨f, a, n, a2, b, r⟩, e⟩ := d
  have hO : Ev Try.prog 54 [.roI .u8 l] (.tup [reqA f a n a2 (.roB b) (.roI .u16 r), .int .i64 e]) := hO
  refine Ev.call hO ?_
  clear hO
  conv => whnf
  by_cases he : e ≠ 0
  · rw [if_neg he] at hS hI
    refine condY (by simp [he]) ?_
    conv => whnf
    refine Ev.call (rexc_ev l 3) ?_
    conv => whnf
    rw [hS, hI]
    exact FrzB.le (Le.refl _) rfl
  have he : e = 0 := by simpa using he
  obtain ⟨hf', hQ⟩ := hq he
  have hf' : f = l.getD 0 0 := hf'
  have hQ2 : OkQ f a n a2 b r := hQ
  clear hQ
  rw [hf] at hf'
  subst hf'
  have h5 := h5 he
  subst he
  rw [if_pos rfl] at hS hI
  have hS2 : serveB I l = (if thereB 22 a n a2 b r then doesB I 22 a n a2 b r else excB l 2) := hS
  have hI2 : serveI I l = (if thereB 22 a n a2 b r then doesI I 22 a n a2 b r else I) := hI
  clear hq
  obtain ⟨ha, hn, ha2, hb, hr, hx, ok⟩ := hQ2
  have hx0 : ∀ x ∈ r, 0 ≤ x := fun x h => (hx x h).1
  rw [hS2, hI2]
  clear hS hI hS2 hI2
  conv => whnf
  have hk : encOk 22 n a2 b r = true := ok
  simp [encOk, withinB] at hk
  have hwa : IntKind.i64.wrap a = a := w64i (by omega) (by omega)
  have hw : IntKind.i64.wrap (a + 1) = a + 1 := w64i (by omega) (by omega)
  have hT : thereB 22 a n a2 b r = !decide (a + 1 > szF 22) := by
    rw [← hasB_eq 22 a 1 rfl ha.1 (by omega)]; rfl
  rw [hT]
  refine Ev.call (rsizeF_ev 22) ?_
  conv => whnf
  rw [hwa, hw]
  refine ⟨rfl, ?_⟩
  conv => whnf
  by_cases hh : decide (a + 1 > szF 22) = true
  · have hc : ¬ ((!decide (a + 1 > szF 22)) = true) := by rw [hh]; simp
    rw [if_neg hc, if_neg hc]
    refine condY hh ?_
    conv => whnf
    refine Ev.call (rexc_ev l 2) ?_
    conv => whnf
    exact FrzB.le (Le.refl _) rfl
  have hh' : decide (a + 1 > szF 22) = false := by simpa using hh
  have hc : (!decide (a + 1 > szF 22)) = true := by rw [hh']; rfl
  rw [if_pos hc, if_pos hc]
  refine condN hh' ?_
  conv => whnf
  rw [hwa]
  refine condT (by simp; omega) ?_
  conv => whnf
  refine condT (by simp; omega) ?_
  conv => whnf
  refine blkCall (rget_tr I 22 a (by omega) (by omega)) rfl rfl rfl ?_
  conv => whnf
  refine blkCall (rput_tr I 22 a (maskV (tg I.o 22 a) (r.getD 0 0) (r.getD 1 0)) (by omega) (by omega)) rfl rfl rfl ?_
  conv => whnf
  refine Tr.le (leRepZ Le.nilB (Le.refl _)) (Ev.call (rReply_ev 22 0 a 0 [] r (by omega) (by omega) (by first | omega | (simp; done) | (simp; omega)) (by first | omega | (simp; done) | (simp; omega))) ?_)
  conv => whnf
  exact FrzB.le (Le.refl _) rfl
set_option maxRecDepth 20000 in
theorem rs23_tr (I : Img) (l : List Int) (hl : l.length ≤ 1000) (hB : isB l) (h0 : l ≠ []) (hf : l.getD 0 0 = 23) : RmT 92 [.ptr 0 0, .roI .u8 l] I (.roI .u8 (serveB I l)) (serveI I l) := by
  refine FrzB.rm rfl (trF g92 b92 c92 ?_)
  conv => whnf
  have hlen : 0 < l.length := by
    cases l with
    | nil => exact absurd rfl h0
    | cons a t => simp
  refine condN (by simp; omega) ?_
  conv => whnf
  refine condT (by simp; omega) ?_
  conv => whnf
  rw [show l.getD (Int.toNat 0) 0 = 23 from hf]
  refine Ev.call (rknown_ev 23) ?_
  conv => whnf
  have hO := rOpen_ev l hl
  rw [dec_same l hB hl] at hO
  have hS : serveB I l = (if (decS l).2 = 0 then (if thereB (decS l).1.f (decS l).1.a (decS l).1.n (decS l).1.a2 (decS l).1.b (decS l).1.r then doesB I (decS l).1.f (decS l).1.a (decS l).1.n (decS l).1.a2 (decS l).1.b (decS l).1.r else excB l 2) else excB l 3) := by
    unfold serveB; rw [if_neg h0, if_pos (by rw [hf]; rfl)]
  have hI : serveI I l = (if (decS l).2 = 0 then (if thereB (decS l).1.f (decS l).1.a (decS l).1.n (decS l).1.a2 (decS l).1.b (decS l).1.r then doesI I (decS l).1.f (decS l).1.a (decS l).1.n (decS l).1.a2 (decS l).1.b (decS l).1.r else I) else I) := by
    unfold serveI; rw [if_neg h0, if_pos (by rw [hf]; rfl)]
  have hq := decS_ok l hl
  have h5 := dec5 l
  generalize decS l = d at *
  obtain ⟨⟨f, a, n, a2, b, r⟩, e⟩ := d
  have hO : Ev Try.prog 54 [.roI .u8 l] (.tup [reqA f a n a2 (.roB b) (.roI .u16 r), .int .i64 e]) := hO
  refine Ev.call hO ?_
  clear hO
  conv => whnf
  by_cases he : e ≠ 0
  · rw [if_neg he] at hS hI
    refine condY (by simp [he]) ?_
    conv => whnf
    refine Ev.call (rexc_ev l 3) ?_
    conv => whnf
    rw [hS, hI]
    exact FrzB.le (Le.refl _) rfl
  have he : e = 0 := by simpa using he
  obtain ⟨hf', hQ⟩ := hq he
  have hf' : f = l.getD 0 0 := hf'
  have hQ2 : OkQ f a n a2 b r := hQ
  clear hQ
  rw [hf] at hf'
  subst hf'
  have h5 := h5 he
  subst he
  rw [if_pos rfl] at hS hI
  have hS2 : serveB I l = (if thereB 23 a n a2 b r then doesB I 23 a n a2 b r else excB l 2) := hS
  have hI2 : serveI I l = (if thereB 23 a n a2 b r then doesI I 23 a n a2 b r else I) := hI
  clear hq
  obtain ⟨ha, hn, ha2, hb, hr, hx, ok⟩ := hQ2
  have hx0 : ∀ x ∈ r, 0 ≤ x := fun x h => (hx x h).1
  rw [hS2, hI2]
  clear hS hI hS2 hI2
  conv => whnf
  have hk : encOk 23 n a2 b r = true := ok
  simp [encOk, withinB] at hk
  have hwa : IntKind.i64.wrap a = a := w64i (by omega) (by omega)
  have hw : IntKind.i64.wrap (a + n) = a + n := w64i (by omega) (by omega)
  have hwa2 : IntKind.i64.wrap a2 = a2 := w64i (by omega) (by omega)
  have hwn : IntKind.i64.wrap n = n := w64i (by omega) (by omega)
  have hw2 : IntKind.i64.wrap (a2 + r.length) = a2 + r.length := w64i (by omega) (by omega)
  have hT : thereB 23 a n a2 b r = (!decide (a + n > szF 23) && !decide (a2 + r.length > szF 23)) := by
    rw [← hasB_eq 23 a n rfl ha.1 (by omega), ← hasB_eq 23 a2 r.length rfl ha2.1 (by omega)]; rfl
  rw [hT]
  refine Ev.call (rsizeF_ev 23) ?_
  conv => whnf
  refine ⟨rfl, ?_⟩
  conv => whnf
  refine ⟨rfl, ?_⟩
  conv => whnf
  rw [hwa2, hw2]
  by_cases h2 : decide (a2 + r.length > szF 23) = true
  · have hc : ¬ ((!decide (a + n > szF 23) && !decide (a2 + r.length > szF 23)) = true) := by rw [h2]; simp
    rw [if_neg hc, if_neg hc]
    refine condY h2 ?_
    conv => whnf
    refine Ev.call (rexc_ev l 2) ?_
    conv => whnf
    exact FrzB.le (Le.refl _) rfl
  have h2' : decide (a2 + r.length > szF 23) = false := by simpa using h2
  refine condN h2' ?_
  conv => whnf
  refine Ev.call (rsizeF_ev 23) ?_
  conv => whnf
  refine ⟨rfl, ?_⟩
  conv => whnf
  rw [hwa, hwn, hw]
  by_cases hh : decide (a + n > szF 23) = true
  · have hc : ¬ ((!decide (a + n > szF 23) && !decide (a2 + r.length > szF 23)) = true) := by rw [hh]; simp
    rw [if_neg hc, if_neg hc]
    refine condY hh ?_
    conv => whnf
    refine Ev.call (rexc_ev l 2) ?_
    conv => whnf
    exact FrzB.le (Le.refl _) rfl
  have hh' : decide (a + n > szF 23) = false := by simpa using hh
  have hc : (!decide (a + n > szF 23) && !decide (a2 + r.length > szF 23)) = true := by rw [hh', h2']; rfl
  rw [if_pos hc, if_pos hc]
  refine condN hh' ?_
  conv => whnf
  rw [hwa]
  refine loopI (α := {i : Nat // i ≤ r.length}) (fun i => [(0, .ptr 0 0), (5, .int .u8 23), (6, .ptr 1 0), (8, .int .i64 n), (9, .ptr 2 0), (10, .int .i64 a), (12, .int .i64 i.1)])
      (fun i => ⟨3, [(0, some (rmC (tpsN I 23 a2 r i.1))), (1, some (.obj [.int .u8 23, .int .u16 a, .int .u16 n, .int .u16 a2, .roB b, .roI .u16 r])), (2, some (.obj [.int .u8 23, .int .u8 0, .int .u16 0, .int .u16 0, .nils, .nils]))]⟩) (fun i => r.length - i.1) ⟨0, Nat.zero_le _⟩
      ⟨[], rfl, rfl, rfl, ⟨⟨rfl, rfl⟩, ⟨rfl, rfl⟩, ⟨rfl, rfl⟩, ⟨rfl, rfl⟩, ⟨rfl, rfl⟩, ⟨rfl, rfl⟩, ⟨rfl, rfl⟩, trivial⟩, ⟨⟨trivial, rfl, rfl⟩, ⟨rfl, rfl, rfl⟩, ⟨rfl, rfl, rfl⟩, trivial⟩⟩ fun ⟨i, hi⟩ => ?_
  conv => whnf
  by_cases hlt : i < r.length
  · refine condY (by simp; omega) ?_
    conv => whnf
    refine condT (by simp; omega) ?_
    conv => whnf
    rw [hwa2, show IntKind.i64.wrap (a2 + ((i : Nat) : Int)) = a2 + i from w64i (by omega) (by omega)]
    refine blkCall (rput_tr (tpsN I 23 a2 r i) 23 (a2 + i) (r.getD i 0) (by omega) (by omega)) rfl rfl rfl ?_
    conv => whnf
    refine ⟨⟨i + 1, hlt⟩, ⟨[], rfl, rfl, rfl, ⟨⟨rfl, rfl⟩, ⟨rfl, rfl⟩, ⟨rfl, rfl⟩, ⟨rfl, rfl⟩, ⟨rfl, rfl⟩, ⟨rfl, rfl⟩, ⟨?_, rfl⟩, trivial⟩, ⟨⟨trivial, rfl, rfl⟩, ⟨rfl, rfl, rfl⟩, ⟨rfl, rfl, rfl⟩, trivial⟩⟩, by show r.length - (i + 1) < r.length - i; omega⟩
    show AV.int .i64 (IntKind.i64.wrap ((i : Int) + 1)) = AV.int .i64 ((i + 1 : Nat) : Int)
    rw [s64 (by omega)]
  obtain rfl : i = r.length := by omega
  refine condN (by simp) ?_
  conv => whnf
  refine loopI (α := {i : Nat // i ≤ n.toNat}) (fun i => [(0, .ptr 0 0), (5, .int .u8 23), (8, .int .i64 n), (9, .ptr 2 0), (10, .int .i64 a), (13, .int .i64 i.1)])
      (fun i => ⟨4, [(3, some (.rowI .u16 (tgs (tps I 23 a2 r).o 23 a i.1))), (0, some (rmC (tps I 23 a2 r))), (2, some (.obj [.int .u8 23, .int .u8 0, .int .u16 0, .int .u16 0, .nils, .sl 1 3 0 i.1]))]⟩) (fun i => n.toNat - i.1) ⟨0, Nat.zero_le _⟩
      ⟨[(3, none)], rfl, rfl, rfl, ⟨⟨rfl, rfl⟩, ⟨rfl, rfl⟩, ⟨rfl, rfl⟩, ⟨rfl, rfl⟩, ⟨rfl, rfl⟩, ⟨rfl, rfl⟩, trivial⟩, ⟨⟨trivial, rfl, rfl⟩, ⟨trivial, rfl, rfl⟩, ⟨rfl, rfl, rfl⟩, trivial⟩⟩ fun ⟨i, hi⟩ => ?_
  conv => whnf
  by_cases hlt : i < n.toNat
  · have hl : (tgs (tps I 23 a2 r).o 23 a i).length = i := by simp [tgs_length]
    refine condY (by simp; omega) ?_
    conv => whnf
    rw [show IntKind.i64.wrap (a + ((i : Nat) : Int)) = a + i from w64i (by omega) (by omega)]
    refine blkCall (rget_tr (tps I 23 a2 r) 23 (a + i) (by omega) (by omega)) rfl rfl rfl ?_
    conv => whnf
    refine ⟨rfl, ?_⟩
    conv => whnf
    refine condT (by simp [tgs_length]; omega) ?_
    conv => whnf
    refine ⟨⟨i + 1, hlt⟩, ⟨[(3, some 5)], rfl, rfl, rfl, ⟨⟨rfl, rfl⟩, ⟨rfl, rfl⟩, ⟨rfl, rfl⟩, ⟨rfl, rfl⟩, ⟨rfl, rfl⟩, ⟨?_, rfl⟩, trivial⟩, ⟨⟨trivial, rfl, ?_⟩, ⟨trivial, rfl, rfl⟩, ⟨rfl, rfl, rfl⟩, trivial⟩⟩, by show n.toNat - (i + 1) < n.toNat - i; omega⟩
    · show AV.int .i64 (IntKind.i64.wrap ((i : Int) + 1)) = AV.int .i64 ((i + 1 : Nat) : Int)
      rw [s64 (by omega)]
    · show some (Chunk.rowI .u16 (((tgs (tps I 23 a2 r).o 23 a i).drop 0).take i ++ ([tg (tps I 23 a2 r).o 23 (a + i)].drop 0).take 1)) = some (Chunk.rowI .u16 (tgs (tps I 23 a2 r).o 23 a (i + 1)))
      rw [tgs_succ, List.drop_zero]
      conv => lhs; rw [List.take_of_length_le (by omega)]
      rfl
  · obtain rfl : i = n.toNat := by omega
    refine condN (by simp; omega) ?_
    conv => whnf
    refine lend1 (h := 3) (n := 0) (v := .nils) rfl (frz_repI 3 23 0 0 0 _ _ (by simp [tgs_length])) ?_
    refine Tr.le (leRepZ Le.nilB (Le.refl _)) (Ev.call (rReply_ev 23 0 0 0 [] (tgs (tps I 23 a2 r).o 23 a n.toNat) (by omega) (by omega) (by simp) (by simp [tgs_length]; omega)) ?_)
    conv => whnf
    exact FrzB.le (Le.refl _) rfl
set_option maxRecDepth 20000 in
theorem rs5_tr (I : Img) (l : List Int) (hl : l.length ≤ 1000) (hB : isB l) (h0 : l ≠ []) (hf : l.getD 0 0 = 5) : RmT 92 [.ptr 0 0, .roI .u8 l] I (.roI .u8 (serveB I l)) (serveI I l) := by
  refine FrzB.rm rfl (trF g92 b92 c92 ?_)
  conv => whnf
  have hlen : 0 < l.length := by
    cases l with
    | nil => exact absurd rfl h0
    | cons a t => simp
  refine condN (by simp; omega) ?_
  conv => whnf
  refine condT (by simp; omega) ?_
  conv => whnf
  rw [show l.getD (Int.toNat 0) 0 = 5 from hf]
  refine Ev.call (rknown_ev 5) ?_
  conv => whnf
  have hO := rOpen_ev l hl
  rw [dec_same l hB hl] at hO
  have hS : serveB I l = (if (decS l).2 = 0 then (if thereB (decS l).1.f (decS l).1.a (decS l).1.n (decS l).1.a2 (decS l).1.b (decS l).1.r then doesB I (decS l).1.f (decS l).1.a (decS l).1.n (decS l).1.a2 (decS l).1.b (decS l).1.r else excB l 2) else excB l 3) := by
    unfold serveB; rw [if_neg h0, if_pos (by rw [hf]; rfl)]
  have hI : serveI I l = (if (decS l).2 = 0 then (if thereB (decS l).1.f (decS l).1.a (decS l).1.n (decS l).1.a2 (decS l).1.b (decS l).1.r then doesI I (decS l).1.f (decS l).1.a (decS l).1.n (decS l).1.a2 (decS l).1.b (decS l).1.r else I) else I) := by
    unfold serveI; rw [if_neg h0, if_pos (by rw [hf]; rfl)]
  have hq := decS_ok l hl
  have h5 := dec5 l
  generalize decS l = d at *
  obtain ⟨⟨f, a, n, a2, b, r⟩, e⟩ := d
  have hO : Ev Try.prog 54 [.roI .u8 l] (.tup [reqA f a n a2 (.roB b) (.roI .u16 r), .int .i64 e]) := hO
  refine Ev.call hO ?_
  clear hO
  conv => whnf
  by_cases he : e ≠ 0
  · rw [if_neg he] at hS hI
    refine condY (by simp [he]) ?_
    conv => whnf
    refine Ev.call (rexc_ev l 3) ?_
    conv => whnf
    rw [hS, hI]
    exact FrzB.le (Le.refl _) rfl
  have he : e = 0 := by simpa using he
  obtain ⟨hf', hQ⟩ := hq he
  have hf' : f = l.getD 0 0 := hf'
  have hQ2 : OkQ f a n a2 b r := hQ
  clear hQ
  rw [hf] at hf'
  subst hf'
  have h5 := h5 he
  subst he
  rw [if_pos rfl] at hS hI
  have hS2 : serveB I l = (if thereB 5 a n a2 b r then doesB I 5 a n a2 b r else excB l 2) := hS
  have hI2 : serveI I l = (if thereB 5 a n a2 b r then doesI I 5 a n a2 b r else I) := hI
  clear hq
  obtain ⟨ha, hn, ha2, hb, hr, hx, ok⟩ := hQ2
  have hx0 : ∀ x ∈ r, 0 ≤ x := fun x h => (hx x h).1
  rw [hS2, hI2]
  clear hS hI hS2 hI2
  conv => whnf
  obtain ⟨h53, h54, h5l⟩ := h5 rfl hf
  refine condT (by simp; omega) ?_
  conv => whnf
  rcases h53 with h53 | h53
  · refine condN (by rw [show l.getD (Int.toNat 3) 0 = 0 from h53]; rfl) ?_
    conv => whnf
    refine condT (by simp; omega) ?_
    conv => whnf
    refine condN (by rw [show l.getD (Int.toNat 4) 0 = 0 from h54]; rfl) ?_
    conv => whnf
    have hk : encOk 5 n a2 b r = true := ok
    simp [encOk, withinB] at hk
    have hwa : IntKind.i64.wrap a = a := w64i (by omega) (by omega)
    have hw : IntKind.i64.wrap (a + (b.length : Int)) = a + (b.length : Int) := w64i (by omega) (by omega)
    have hT : thereB 5 a n a2 b r = !decide (a + (b.length : Int) > szF 5) := by
      rw [← hasB_eq 5 a (b.length : Int) rfl ha.1 (by omega)]; rfl
    rw [hT]
    refine Ev.call (rsizeF_ev 5) ?_
    conv => whnf
    have hM : (if (r.length : Int) > if (b.length : Int) > IntKind.i64.wrap n then (b.length : Int) else IntKind.i64.wrap n then (r.length : Int) else if (b.length : Int) > IntKind.i64.wrap n then (b.length : Int) else IntKind.i64.wrap n) = (b.length : Int) := by
      have hwn : IntKind.i64.wrap n = n := w64i (by omega) (by omega)
      rw [hwn]
      simp [hk]
      try (first | omega | (intro h; simp [h]))
    rw [hM]
    rw [hwa, hw]
    refine ⟨rfl, ?_⟩
    conv => whnf
    by_cases hh : decide (a + (b.length : Int) > szF 5) = true
    · have hc : ¬ ((!decide (a + (b.length : Int) > szF 5)) = true) := by rw [hh]; simp
      rw [if_neg hc, if_neg hc]
      refine condY hh ?_
      conv => whnf
      refine Ev.call (rexc_ev l 2) ?_
      conv => whnf
      exact FrzB.le (Le.refl _) rfl
    have hh' : decide (a + (b.length : Int) > szF 5) = false := by simpa using hh
    have hc : (!decide (a + (b.length : Int) > szF 5)) = true := by rw [hh']; rfl
    rw [if_pos hc, if_pos hc]
    refine condN hh' ?_
    conv => whnf
    rw [hwa]
    refine loopI (α := {i : Nat // i ≤ b.length}) (fun i => [(0, .ptr 0 0), (5, .int .u8 5), (6, .ptr 1 0), (8, .int .i64 b.length), (9, .ptr 2 0), (10, .int .i64 a), (14, .int .i64 i.1)])
        (fun i => ⟨3, [(0, some (rmC (tpsN I 5 a (b.map bitI) i.1))), (1, some (.obj [.int .u8 5, .int .u16 a, .int .u16 n, .int .u16 a2, .roB b, .roI .u16 r])), (2, some (.obj [.int .u8 5, .int .u8 0, .int .u16 a, .int .u16 0, .nils, .nils]))]⟩) (fun i => b.length - i.1) ⟨0, Nat.zero_le _⟩
        ⟨[], rfl, rfl, rfl, ⟨⟨rfl, rfl⟩, ⟨rfl, rfl⟩, ⟨rfl, rfl⟩, ⟨rfl, rfl⟩, ⟨rfl, rfl⟩, ⟨rfl, rfl⟩, ⟨rfl, rfl⟩, trivial⟩, ⟨⟨trivial, rfl, rfl⟩, ⟨rfl, rfl, rfl⟩, ⟨rfl, rfl, rfl⟩, trivial⟩⟩ fun ⟨i, hi⟩ => ?_
    conv => whnf
    by_cases hlt : i < b.length
    · refine condY (by simp; omega) ?_
      conv => whnf
      refine condT (by simp; omega) ?_
      conv => whnf
      have hg : (b.map bitI).getD i 0 = bitI (b.getD i false) := by simp [List.getD_eq_getElem?_getD, List.getElem?_eq_getElem hlt]
      have hs : ∀ K : Img → Prop, K (tpsN I 5 a (b.map bitI) (i + 1)) → K (tp (tpsN I 5 a (b.map bitI) i) 5 (a + i) (bitI (b.getD i false))) := fun K h => by rw [← hg]; exact h
      refine condF (fun h => ?_) (fun h => ?_)
      · have hv : bitI (b.getD i false) = 0 := by
          have : b.getD i false = false := h
          rw [this]; rfl
        rw [hv] at hs
        conv => whnf
        rw [show IntKind.i64.wrap (a + ((i : Nat) : Int)) = a + i from w64i (by omega) (by omega)]
        refine blkCall (rput_tr (tpsN I 5 a (b.map bitI) i) 5 (a + i) 0 (by omega) (by omega)) rfl rfl rfl ?_
        conv => whnf
        refine ⟨⟨i + 1, hlt⟩, ⟨[], rfl, rfl, rfl, ⟨⟨rfl, rfl⟩, ⟨rfl, rfl⟩, ⟨rfl, rfl⟩, ⟨rfl, rfl⟩, ⟨rfl, rfl⟩, ⟨rfl, rfl⟩, ⟨?_, rfl⟩, trivial⟩, ⟨⟨trivial, rfl, ?_⟩, ⟨rfl, rfl, rfl⟩, ⟨rfl, rfl, rfl⟩, trivial⟩⟩, by show b.length - (i + 1) < b.length - i; omega⟩
        · show AV.int .i64 (IntKind.i64.wrap ((i : Int) + 1)) = AV.int .i64 ((i + 1 : Nat) : Int)
          rw [s64 (by omega)]
        · exact hs (fun J => some (rmC J) = some (rmC (tpsN I 5 a (b.map bitI) (i + 1)))) rfl
      · have hv : bitI (b.getD i false) = 1 := by
          have : b.getD i false = true := h
          rw [this]; rfl
        rw [hv] at hs
        conv => whnf
        rw [show IntKind.i64.wrap (a + ((i : Nat) : Int)) = a + i from w64i (by omega) (by omega)]
        refine blkCall (rput_tr (tpsN I 5 a (b.map bitI) i) 5 (a + i) 1 (by omega) (by omega)) rfl rfl rfl ?_
        conv => whnf
        refine ⟨⟨i + 1, hlt⟩, ⟨[], rfl, rfl, rfl, ⟨⟨rfl, rfl⟩, ⟨rfl, rfl⟩, ⟨rfl, rfl⟩, ⟨rfl, rfl⟩, ⟨rfl, rfl⟩, ⟨rfl, rfl⟩, ⟨?_, rfl⟩, trivial⟩, ⟨⟨trivial, rfl, ?_⟩, ⟨rfl, rfl, rfl⟩, ⟨rfl, rfl, rfl⟩, trivial⟩⟩, by show b.length - (i + 1) < b.length - i; omega⟩
        · show AV.int .i64 (IntKind.i64.wrap ((i : Int) + 1)) = AV.int .i64 ((i + 1 : Nat) : Int)
          rw [s64 (by omega)]
        · exact hs (fun J => some (rmC J) = some (rmC (tpsN I 5 a (b.map bitI) (i + 1)))) rfl
    · obtain rfl : i = b.length := by omega
      have hT : doesI I 5 a n a2 b r = tpsN I 5 a (b.map bitI) b.length := by show tpsN _ _ _ _ _ = _; rw [List.length_map]
      rw [hT]
      refine condN (by simp) ?_
      conv => whnf
      refine Tr.le (leRepZ (Le.refl _) (Le.nilI _)) (Ev.call (rReply_ev 5 0 a 0 b [] (by omega) (by omega) (by first | omega | (simp; done) | (simp; omega)) (by first | omega | (simp; done) | (simp; omega))) ?_)
      conv => whnf
      exact FrzB.le (Le.refl _) rfl

  · refine condY (by rw [show l.getD (Int.toNat 3) 0 = 255 from h53]; rfl) ?_
    conv => whnf
    refine condT (by simp; omega) ?_
    conv => whnf
    refine condN (by rw [show l.getD (Int.toNat 3) 0 = 255 from h53]; rfl) ?_
    conv => whnf
    refine condT (by simp; omega) ?_
    conv => whnf
    refine condN (by rw [show l.getD (Int.toNat 4) 0 = 0 from h54]; rfl) ?_
    conv => whnf
    have hk : encOk 5 n a2 b r = true := ok
    simp [encOk, withinB] at hk
    have hwa : IntKind.i64.wrap a = a := w64i (by omega) (by omega)
    have hw : IntKind.i64.wrap (a + (b.length : Int)) = a + (b.length : Int) := w64i (by omega) (by omega)
    have hT : thereB 5 a n a2 b r = !decide (a + (b.length : Int) > szF 5) := by
      rw [← hasB_eq 5 a (b.length : Int) rfl ha.1 (by omega)]; rfl
    rw [hT]
    refine Ev.call (rsizeF_ev 5) ?_
    conv => whnf
    have hM : (if (r.length : Int) > if (b.length : Int) > IntKind.i64.wrap n then (b.length : Int) else IntKind.i64.wrap n then (r.length : Int) else if (b.length : Int) > IntKind.i64.wrap n then (b.length : Int) else IntKind.i64.wrap n) = (b.length : Int) := by
      have hwn : IntKind.i64.wrap n = n := w64i (by omega) (by omega)
      rw [hwn]
      simp [hk]
      try (first | omega | (intro h; simp [h]))
    rw [hM]
    rw [hwa, hw]
    refine ⟨rfl, ?_⟩
    conv => whnf
    by_cases hh : decide (a + (b.length : Int) > szF 5) = true
    · have hc : ¬ ((!decide (a + (b.length : Int) > szF 5)) = true) := by rw [hh]; simp
      rw [if_neg hc, if_neg hc]
      refine condY hh ?_
      conv => whnf
      refine Ev.call (rexc_ev l 2) ?_
      conv => whnf
      exact FrzB.le (Le.refl _) rfl
    have hh' : decide (a + (b.length : Int) > szF 5) = false := by simpa using hh
    have hc : (!decide (a + (b.length : Int) > szF 5)) = true := by rw [hh']; rfl
    rw [if_pos hc, if_pos hc]
    refine condN hh' ?_
    conv => whnf
    rw [hwa]
    refine loopI (α := {i : Nat // i ≤ b.length}) (fun i => [(0, .ptr 0 0), (5, .int .u8 5), (6, .ptr 1 0), (8, .int .i64 b.length), (9, .ptr 2 0), (10, .int .i64 a), (14, .int .i64 i.1)])
        (fun i => ⟨3, [(0, some (rmC (tpsN I 5 a (b.map bitI) i.1))), (1, some (.obj [.int .u8 5, .int .u16 a, .int .u16 n, .int .u16 a2, .roB b, .roI .u16 r])), (2, some (.obj [.int .u8 5, .int .u8 0, .int .u16 a, .int .u16 0, .nils, .nils]))]⟩) (fun i => b.length - i.1) ⟨0, Nat.zero_le _⟩
        ⟨[], rfl, rfl, rfl, ⟨⟨rfl, rfl⟩, ⟨rfl, rfl⟩, ⟨rfl, rfl⟩, ⟨rfl, rfl⟩, ⟨rfl, rfl⟩, ⟨rfl, rfl⟩, ⟨rfl, rfl⟩, trivial⟩, ⟨⟨trivial, rfl, rfl⟩, ⟨rfl, rfl, rfl⟩, ⟨rfl, rfl, rfl⟩, trivial⟩⟩ fun ⟨i, hi⟩ => ?_
    conv => whnf
    by_cases hlt : i < b.length
    · refine condY (by simp; omega) ?_
      conv => whnf
      refine condT (by simp; omega) ?_
      conv => whnf
      have hg : (b.map bitI).getD i 0 = bitI (b.getD i false) := by simp [List.getD_eq_getElem?_getD, List.getElem?_eq_getElem hlt]
      have hs : ∀ K : Img → Prop, K (tpsN I 5 a (b.map bitI) (i + 1)) → K (tp (tpsN I 5 a (b.map bitI) i) 5 (a + i) (bitI (b.getD i false))) := fun K h => by rw [← hg]; exact h
      refine condF (fun h => ?_) (fun h => ?_)
      · have hv : bitI (b.getD i false) = 0 := by
          have : b.getD i false = false := h
          rw [this]; rfl
        rw [hv] at hs
        conv => whnf
        rw [show IntKind.i64.wrap (a + ((i : Nat) : Int)) = a + i from w64i (by omega) (by omega)]
        refine blkCall (rput_tr (tpsN I 5 a (b.map bitI) i) 5 (a + i) 0 (by omega) (by omega)) rfl rfl rfl ?_
        conv => whnf
        refine ⟨⟨i + 1, hlt⟩, ⟨[], rfl, rfl, rfl, ⟨⟨rfl, rfl⟩, ⟨rfl, rfl⟩, ⟨rfl, rfl⟩, ⟨rfl, rfl⟩, ⟨rfl, rfl⟩, ⟨rfl, rfl⟩, ⟨?_, rfl⟩, trivial⟩, ⟨⟨trivial, rfl, ?_⟩, ⟨rfl, rfl, rfl⟩, ⟨rfl, rfl, rfl⟩, trivial⟩⟩, by show b.length - (i + 1) < b.length - i; omega⟩
        · show AV.int .i64 (IntKind.i64.wrap ((i : Int) + 1)) = AV.int .i64 ((i + 1 : Nat) : Int)
          rw [s64 (by omega)]
        · exact hs (fun J => some (rmC J) = some (rmC (tpsN I 5 a (b.map bitI) (i + 1)))) rfl
      · have hv : bitI (b.getD i false) = 1 := by
          have : b.getD i false = true := h
          rw [this]; rfl
        rw [hv] at hs
        conv => whnf
        rw [show IntKind.i64.wrap (a + ((i : Nat) : Int)) = a + i from w64i (by omega) (by omega)]
        refine blkCall (rput_tr (tpsN I 5 a (b.map bitI) i) 5 (a + i) 1 (by omega) (by omega)) rfl rfl rfl ?_
        conv => whnf
        refine ⟨⟨i + 1, hlt⟩, ⟨[], rfl, rfl, rfl, ⟨⟨rfl, rfl⟩, ⟨rfl, rfl⟩, ⟨rfl, rfl⟩, ⟨rfl, rfl⟩, ⟨rfl, rfl⟩, ⟨rfl, rfl⟩, ⟨?_, rfl⟩, trivial⟩, ⟨⟨trivial, rfl, ?_⟩, ⟨rfl, rfl, rfl⟩, ⟨rfl, rfl, rfl⟩, trivial⟩⟩, by show b.length - (i + 1) < b.length - i; omega⟩
        · show AV.int .i64 (IntKind.i64.wrap ((i : Int) + 1)) = AV.int .i64 ((i + 1 : Nat) : Int)
          rw [s64 (by omega)]
        · exact hs (fun J => some (rmC J) = some (rmC (tpsN I 5 a (b.map bitI) (i + 1)))) rfl
    · obtain rfl : i = b.length := by omega
      have hT : doesI I 5 a n a2 b r = tpsN I 5 a (b.map bitI) b.length := by show tpsN _ _ _ _ _ = _; rw [List.length_map]
      rw [hT]
      refine condN (by simp) ?_
      conv => whnf
      refine Tr.le (leRepZ (Le.refl _) (Le.nilI _)) (Ev.call (rReply_ev 5 0 a 0 b [] (by omega) (by omega) (by first | omega | (simp; done) | (simp; omega)) (by first | omega | (simp; done) | (simp; omega))) ?_)
      conv => whnf
      exact FrzB.le (Le.refl _) rfl

set_option maxRecDepth 20000 in
theorem rs1_tr (I : Img) (l : List Int) (hl : l.length ≤ 1000) (hB : isB l) (h0 : l ≠ []) (hf : l.getD 0 0 = 1) : RmT 92 [.ptr 0 0, .roI .u8 l] I (.roI .u8 (serveB I l)) (serveI I l) := by
  refine FrzB.rm rfl (trF g92 b92 c92 ?_)
  conv => whnf
  have hlen : 0 < l.length := by
    cases l with
    | nil => exact absurd rfl h0
    | cons a t => simp
  refine condN (by simp; omega) ?_
  conv => whnf
  refine condT (by simp; omega) ?_
  conv => whnf
  rw [show l.getD (Int.toNat 0) 0 = 1 from hf]
  refine Ev.call (rknown_ev 1) ?_
  conv => whnf
  have hO := rOpen_ev l hl
  rw [dec_same l hB hl] at hO
  have hS : serveB I l = (if (decS l).2 = 0 then (if thereB (decS l).1.f (decS l).1.a (decS l).1.n (decS l).1.a2 (decS l).1.b (decS l).1.r then doesB I (decS l).1.f (decS l).1.a (decS l).1.n (decS l).1.a2 (decS l).1.b (decS l).1.r else excB l 2) else excB l 3) := by
    unfold serveB; rw [if_neg h0, if_pos (by rw [hf]; rfl)]
  have hI : serveI I l = (if (decS l).2 = 0 then (if thereB (decS l).1.f (decS l).1.a (decS l).1.n (decS l).1.a2 (decS l).1.b (decS l).1.r then doesI I (decS l).1.f (decS l).1.a (decS l).1.n (decS l).1.a2 (decS l).1.b (decS l).1.r else I) else I) := by
    unfold serveI; rw [if_neg h0, if_pos (by rw [hf]; rfl)]
  have hq := decS_ok l hl
  have h5 := dec5 l
  generalize decS l = d at *
  obtain ⟨⟨f, a, n, a2, b, r⟩, e⟩ := d
  have hO : Ev Try.prog 54 [.roI .u8 l] (.tup [reqA f a n a2 (.roB b) (.roI .u16 r), .int .i64 e]) := hO
  refine Ev.call hO ?_
  clear hO
  conv => whnf
  by_cases he : e ≠ 0
  · rw [if_neg he] at hS hI
    refine condY (by simp [he]) ?_
    conv => whnf
    refine Ev.call (rexc_ev l 3) ?_
    conv => whnf
    rw [hS, hI]
    exact FrzB.le (Le.refl _) rfl
  have he : e = 0 := by simpa using he
  obtain ⟨hf', hQ⟩ := hq he
  have hf' : f = l.getD 0 0 := hf'
  have hQ2 : OkQ f a n a2 b r := hQ
  clear hQ
  rw [hf] at hf'
  subst hf'
  have h5 := h5 he
  subst he
  rw [if_pos rfl] at hS hI
  have hS2 : serveB I l = (if thereB 1 a n a2 b r then doesB I 1 a n a2 b r else excB l 2) := hS
  have hI2 : serveI I l = (if thereB 1 a n a2 b r then doesI I 1 a n a2 b r else I) := hI
  clear hq
  obtain ⟨ha, hn, ha2, hb, hr, hx, ok⟩ := hQ2
  have hx0 : ∀ x ∈ r, 0 ≤ x := fun x h => (hx x h).1
  rw [hS2, hI2]
  clear hS hI hS2 hI2
  conv => whnf
  have hk : encOk 1 n a2 b r = true := ok
  simp [encOk, withinB] at hk
  have hwa : IntKind.i64.wrap a = a := w64i (by omega) (by omega)
  have hw : IntKind.i64.wrap (a + n) = a + n := w64i (by omega) (by omega)
  have hT : thereB 1 a n a2 b r = !decide (a + n > szF 1) := by
    rw [← hasB_eq 1 a n rfl ha.1 (by omega)]; rfl
  rw [hT]
  refine Ev.call (rsizeF_ev 1) ?_
  conv => whnf
  have hM : (if (r.length : Int) > if (b.length : Int) > IntKind.i64.wrap n then (b.length : Int) else IntKind.i64.wrap n then (r.length : Int) else if (b.length : Int) > IntKind.i64.wrap n then (b.length : Int) else IntKind.i64.wrap n) = n := by
    have hwn : IntKind.i64.wrap n = n := w64i (by omega) (by omega)
    rw [hwn]
    simp [hk]
    try (first | omega | (intro h; simp [h]))
  rw [hM]
  rw [hwa, hw]
  refine ⟨rfl, ?_⟩
  conv => whnf
  by_cases hh : decide (a + n > szF 1) = true
  · have hc : ¬ ((!decide (a + n > szF 1)) = true) := by rw [hh]; simp
    rw [if_neg hc, if_neg hc]
    refine condY hh ?_
    conv => whnf
    refine Ev.call (rexc_ev l 2) ?_
    conv => whnf
    exact FrzB.le (Le.refl _) rfl
  have hh' : decide (a + n > szF 1) = false := by simpa using hh
  have hc : (!decide (a + n > szF 1)) = true := by rw [hh']; rfl
  rw [if_pos hc, if_pos hc]
  refine condN hh' ?_
  conv => whnf
  rw [hwa]
  refine loopI (α := {i : Nat // i ≤ n.toNat}) (fun i => [(0, .ptr 0 0), (5, .int .u8 1), (8, .int .i64 n), (9, .ptr 2 0), (10, .int .i64 a), (11, .int .i64 i.1)])
      (fun i => ⟨4, [(3, some (.rowB ((tgs I.o 1 a i.1).map fun x => x != 0))), (0, some (rmC I)), (2, some (.obj [.int .u8 1, .int .u8 0, .int .u16 0, .int .u16 0, .sl 1 3 0 i.1, .nils]))]⟩) (fun i => n.toNat - i.1) ⟨0, Nat.zero_le _⟩
      ⟨[(3, none)], rfl, rfl, rfl, ⟨⟨rfl, rfl⟩, ⟨rfl, rfl⟩, ⟨rfl, rfl⟩, ⟨rfl, rfl⟩, ⟨rfl, rfl⟩, ⟨rfl, rfl⟩, trivial⟩, ⟨⟨trivial, rfl, rfl⟩, ⟨trivial, rfl, rfl⟩, ⟨rfl, rfl, rfl⟩, trivial⟩⟩ fun ⟨i, hi⟩ => ?_
  conv => whnf
  by_cases hlt : i < n.toNat
  · have hl : ((tgs I.o 1 a i).map fun x => x != 0).length = i := by simp [tgs_length]
    refine condY (by simp; omega) ?_
    conv => whnf
    rw [show IntKind.i64.wrap (a + ((i : Nat) : Int)) = a + i from w64i (by omega) (by omega)]
    refine blkCall (rget_tr I 1 (a + i) (by omega) (by omega)) rfl rfl rfl ?_
    conv => whnf
    refine ⟨rfl, ?_⟩
    conv => whnf
    refine condT (by simp [tgs_length]; omega) ?_
    conv => whnf
    refine ⟨⟨i + 1, hlt⟩, ⟨[(3, some 5)], rfl, rfl, rfl, ⟨⟨rfl, rfl⟩, ⟨rfl, rfl⟩, ⟨rfl, rfl⟩, ⟨rfl, rfl⟩, ⟨rfl, rfl⟩, ⟨?_, rfl⟩, trivial⟩, ⟨⟨trivial, rfl, ?_⟩, ⟨trivial, rfl, rfl⟩, ⟨rfl, rfl, rfl⟩, trivial⟩⟩, by show n.toNat - (i + 1) < n.toNat - i; omega⟩
    · show AV.int .i64 (IntKind.i64.wrap ((i : Int) + 1)) = AV.int .i64 ((i + 1 : Nat) : Int)
      rw [s64 (by omega)]
    · show some (Chunk.rowB ((((tgs I.o 1 a i).map fun x => x != 0).drop 0).take i ++ ([tg I.o 1 (a + i) != 0].drop 0).take 1)) = some (Chunk.rowB ((tgs I.o 1 a (i + 1)).map fun x => x != 0))
      rw [tgs_succ, List.drop_zero, List.map_append]
      conv => lhs; rw [List.take_of_length_le (by omega)]
      rfl
  · obtain rfl : i = n.toNat := by omega
    refine condN (by simp; omega) ?_
    conv => whnf
    refine lend1 (h := 3) (n := 0) (v := .nils) rfl (frz_repB 3 1 0 0 0 _ _ (by simp [tgs_length])) ?_
    refine Tr.le (leRepZ (Le.refl _) (Le.nilI _)) (Ev.call (rReply_ev 1 0 0 0 ((tgs I.o 1 a n.toNat).map fun x => x != 0) [] (by omega) (by omega) (by simp [tgs_length]; omega) (by simp)) ?_)
    conv => whnf
    exact FrzB.le (Le.refl _) rfl
set_option maxRecDepth 20000 in
theorem rs2_tr (I : Img) (l : List Int) (hl : l.length ≤ 1000) (hB : isB l) (h0 : l ≠ []) (hf : l.getD 0 0 = 2) : RmT 92 [.ptr 0 0, .roI .u8 l] I (.roI .u8 (serveB I l)) (serveI I l) := by
  refine FrzB.rm rfl (trF g92 b92 c92 ?_)
  conv => whnf
  have hlen : 0 < l.length := by
    cases l with
    | nil => exact absurd rfl h0
    | cons a t => simp
  refine condN (by simp; omega) ?_
  conv => whnf
  refine condT (by simp; omega) ?_
  conv => whnf
  rw [show l.getD (Int.toNat 0) 0 = 2 from hf]
  refine Ev.call (rknown_ev 2) ?_
  conv => whnf
  have hO := rOpen_ev l hl
  rw [dec_same l hB hl] at hO
  have hS : serveB I l = (if (decS l).2 = 0 then (if thereB (decS l).1.f (decS l).1.a (decS l).1.n (decS l).1.a2 (decS l).1.b (decS l).1.r then doesB I (decS l).1.f (decS l).1.a (decS l).1.n (decS l).1.a2 (decS l).1.b (decS l).1.r else excB l 2) else excB l 3) := by
    unfold serveB; rw [if_neg h0, if_pos (by rw [hf]; rfl)]
  have hI : serveI I l = (if (decS l).2 = 0 then (if thereB (decS l).1.f (decS l).1.a (decS l).1.n (decS l).1.a2 (decS l).1.b (decS l).1.r then doesI I (decS l).1.f (decS l).1.a (decS l).1.n (decS l).1.a2 (decS l).1.b (decS l).1.r else I) else I) := by
    unfold serveI; rw [if_neg h0, if_pos (by rw [hf]; rfl)]
  have hq := decS_ok l hl
  have h5 := dec5 l
  generalize decS l = d at *
  obtain ⟨⟨f, a, n, a2, b, r⟩, e⟩ := d
  have hO : Ev Try.prog 54 [.roI .u8 l] (.tup [reqA f a n a2 (.roB b) (.roI .u16 r), .int .i64 e]) := hO
  refine Ev.call hO ?_
  clear hO
  conv => whnf
  by_cases he : e ≠ 0
  · rw [if_neg he] at hS hI
    refine condY (by simp [he]) ?_
    conv => whnf
    refine Ev.call (rexc_ev l 3) ?_
    conv => whnf
    rw [hS, hI]
    exact FrzB.le (Le.refl _) rfl
  have he : e = 0 := by simpa using he
  obtain ⟨hf', hQ⟩ := hq he
  have hf' : f = l.getD 0 0 := hf'
  have hQ2 : OkQ f a n a2 b r := hQ
  clear hQ
  rw [hf] at hf'
  subst hf'
  have h5 := h5 he
  subst he
  rw [if_pos rfl] at hS hI
  have hS2 : serveB I l = (if thereB 2 a n a2 b r then doesB I 2 a n a2 b r else excB l 2) := hS
  have hI2 : serveI I l = (if thereB 2 a n a2 b r then doesI I 2 a n a2 b r else I) := hI
  clear hq
  obtain ⟨ha, hn, ha2, hb, hr, hx, ok⟩ := hQ2
  have hx0 : ∀ x ∈ r, 0 ≤ x := fun x h => (hx x h).1
  rw [hS2, hI2]
  clear hS hI hS2 hI2
  conv => whnf
  have hk : encOk 2 n a2 b r = true := ok
  simp [encOk, withinB] at hk
  have hwa : IntKind.i64.wrap a = a := w64i (by omega) (by omega)
  have hw : IntKind.i64.wrap (a + n) = a + n := w64i (by omega) (by omega)
  have hT : thereB 2 a n a2 b r = !decide (a + n > szF 2) := by
    rw [← hasB_eq 2 a n rfl ha.1 (by omega)]; rfl
  rw [hT]
  refine Ev.call (rsizeF_ev 2) ?_
  conv => whnf
  have hM : (if (r.length : Int) > if (b.length : Int) > IntKind.i64.wrap n then (b.length : Int) else IntKind.i64.wrap n then (r.length : Int) else if (b.length : Int) > IntKind.i64.wrap n then (b.length : Int) else IntKind.i64.wrap n) = n := by
    have hwn : IntKind.i64.wrap n = n := w64i (by omega) (by omega)
    rw [hwn]
    simp [hk]
    try (first | omega | (intro h; simp [h]))
  rw [hM]
  rw [hwa, hw]
  refine ⟨rfl, ?_⟩
  conv => whnf
  by_cases hh : decide (a + n > szF 2) = true
  · have hc : ¬ ((!decide (a + n > szF 2)) = true) := by rw [hh]; simp
    rw [if_neg hc, if_neg hc]
    refine condY hh ?_
    conv => whnf
    refine Ev.call (rexc_ev l 2) ?_
    conv => whnf
    exact FrzB.le (Le.refl _) rfl
  have hh' : decide (a + n > szF 2) = false := by simpa using hh
  have hc : (!decide (a + n > szF 2)) = true := by rw [hh']; rfl
  rw [if_pos hc, if_pos hc]
  refine condN hh' ?_
  conv => whnf
  rw [hwa]
  refine loopI (α := {i : Nat // i ≤ n.toNat}) (fun i => [(0, .ptr 0 0), (5, .int .u8 2), (8, .int .i64 n), (9, .ptr 2 0), (10, .int .i64 a), (11, .int .i64 i.1)])
      (fun i => ⟨4, [(3, some (.rowB ((tgs I.o 2 a i.1).map fun x => x != 0))), (0, some (rmC I)), (2, some (.obj [.int .u8 2, .int .u8 0, .int .u16 0, .int .u16 0, .sl 1 3 0 i.1, .nils]))]⟩) (fun i => n.toNat - i.1) ⟨0, Nat.zero_le _⟩
      ⟨[(3, none)], rfl, rfl, rfl, ⟨⟨rfl, rfl⟩, ⟨rfl, rfl⟩, ⟨rfl, rfl⟩, ⟨rfl, rfl⟩, ⟨rfl, rfl⟩, ⟨rfl, rfl⟩, trivial⟩, ⟨⟨trivial, rfl, rfl⟩, ⟨trivial, rfl, rfl⟩, ⟨rfl, rfl, rfl⟩, trivial⟩⟩ fun ⟨i, hi⟩ => ?_
  conv => whnf
  by_cases hlt : i < n.toNat
  · have hl : ((tgs I.o 2 a i).map fun x => x != 0).length = i := by simp [tgs_length]
    refine condY (by simp; omega) ?_
    conv => whnf
    rw [show IntKind.i64.wrap (a + ((i : Nat) : Int)) = a + i from w64i (by omega) (by omega)]
    refine blkCall (rget_tr I 2 (a + i) (by omega) (by omega)) rfl rfl rfl ?_
    conv => whnf
    refine ⟨rfl, ?_⟩
    conv => whnf
    refine condT (by simp [tgs_length]; omega) ?_
    conv => whnf
    refine ⟨⟨i + 1, hlt⟩, ⟨[(3, some 5)], rfl, rfl, rfl, ⟨⟨rfl, rfl⟩, ⟨rfl, rfl⟩, ⟨rfl, rfl⟩, ⟨rfl, rfl⟩, ⟨rfl, rfl⟩, ⟨?_, rfl⟩, trivial⟩, ⟨⟨trivial, rfl, ?_⟩, ⟨trivial, rfl, rfl⟩, ⟨rfl, rfl, rfl⟩, trivial⟩⟩, by show n.toNat - (i + 1) < n.toNat - i; omega⟩
    · show AV.int .i64 (IntKind.i64.wrap ((i : Int) + 1)) = AV.int .i64 ((i + 1 : Nat) : Int)
      rw [s64 (by omega)]
    · show some (Chunk.rowB ((((tgs I.o 2 a i).map fun x => x != 0).drop 0).take i ++ ([tg I.o 2 (a + i) != 0].drop 0).take 1)) = some (Chunk.rowB ((tgs I.o 2 a (i + 1)).map fun x => x != 0))
      rw [tgs_succ, List.drop_zero, List.map_append]
      conv => lhs; rw [List.take_of_length_le (by omega)]
      rfl
  · obtain rfl : i = n.toNat := by omega
    refine condN (by simp; omega) ?_
    conv => whnf
    refine lend1 (h := 3) (n := 0) (v := .nils) rfl (frz_repB 3 2 0 0 0 _ _ (by simp [tgs_length])) ?_
    refine Tr.le (leRepZ (Le.refl _) (Le.nilI _)) (Ev.call (rReply_ev 2 0 0 0 ((tgs I.o 2 a n.toNat).map fun x => x != 0) [] (by omega) (by omega) (by simp [tgs_length]; omega) (by simp)) ?_)
    conv => whnf
    exact FrzB.le (Le.refl _) rfl
set_option maxRecDepth 20000 in
theorem rs3_tr (I : Img) (l : List Int) (hl : l.length ≤ 1000) (hB : isB l) (h0 : l ≠ []) (hf : l.getD 0 0 = 3) : RmT 92 [.ptr 0 0, .roI .u8 l] I (.roI .u8 (serveB I l)) (serveI I l) := by
  refine FrzB.rm rfl (trF g92 b92 c92 ?_)
  conv => whnf
  have hlen : 0 < l.length := by
    cases l with
    | nil => exact absurd rfl h0
    | cons a t => simp
  refine condN (by simp; omega) ?_
  conv => whnf
  refine condT (by simp; omega) ?_
  conv => whnf
  rw [show l.getD (Int.toNat 0) 0 = 3 from hf]
  refine Ev.call (rknown_ev 3) ?_
  conv => whnf
  have hO := rOpen_ev l hl
  rw [dec_same l hB hl] at hO
  have hS : serveB I l = (if (decS l).2 = 0 then (if thereB (decS l).1.f (decS l).1.a (decS l).1.n (decS l).1.a2 (decS l).1.b (decS l).1.r then doesB I (decS l).1.f (decS l).1.a (decS l).1.n (decS l).1.a2 (decS l).1.b (decS l).1.r else excB l 2) else excB l 3) := by
    unfold serveB; rw [if_neg h0, if_pos (by rw [hf]; rfl)]
  have hI : serveI I l = (if (decS l).2 = 0 then (if thereB (decS l).1.f (decS l).1.a (decS l).1.n (decS l).1.a2 (decS l).1.b (decS l).1.r then doesI I (decS l).1.f (decS l).1.a (decS l).1.n (decS l).1.a2 (decS l).1.b (decS l).1.r else I) else I) := by
    unfold serveI; rw [if_neg h0, if_pos (by rw [hf]; rfl)]
  have hq := decS_ok l hl
  have h5 := dec5 l
  generalize decS l = d at *
  obtain ⟨⟨f, a, n, a2, b, r⟩, e⟩ := d
  have hO : Ev Try.prog 54 [.roI .u8 l] (.tup [reqA f a n a2 (.roB b) (.roI .u16 r), .int .i64 e]) := hO
  refine Ev.call hO ?_
  clear hO
  conv => whnf
  by_cases he : e ≠ 0
  · rw [if_neg he] at hS hI
    refine condY (by simp [he]) ?_
    conv => whnf
    refine Ev.call (rexc_ev l 3) ?_
    conv => whnf
    rw [hS, hI]
    exact FrzB.le (Le.refl _) rfl
  have he : e = 0 := by simpa using he
  obtain ⟨hf', hQ⟩ := hq he
  have hf' : f = l.getD 0 0 := hf'
  have hQ2 : OkQ f a n a2 b r := hQ
  clear hQ
  rw [hf] at hf'
  subst hf'
  have h5 := h5 he
  subst he
  rw [if_pos rfl] at hS hI
  have hS2 : serveB I l = (if thereB 3 a n a2 b r then doesB I 3 a n a2 b r else excB l 2) := hS
  have hI2 : serveI I l = (if thereB 3 a n a2 b r then doesI I 3 a n a2 b r else I) := hI
  clear hq
  obtain ⟨ha, hn, ha2, hb, hr, hx, ok⟩ := hQ2
  have hx0 : ∀ x ∈ r, 0 ≤ x := fun x h => (hx x h).1
  rw [hS2, hI2]
  clear hS hI hS2 hI2
  conv => whnf
  have hk : encOk 3 n a2 b r = true := ok
  simp [encOk, withinB] at hk
  have hwa : IntKind.i64.wrap a = a := w64i (by omega) (by omega)
  have hw : IntKind.i64.wrap (a + n) = a + n := w64i (by omega) (by omega)
  have hT : thereB 3 a n a2 b r = !decide (a + n > szF 3) := by
    rw [← hasB_eq 3 a n rfl ha.1 (by omega)]; rfl
  rw [hT]
  refine Ev.call (rsizeF_ev 3) ?_
  conv => whnf
  have hM : (if (r.length : Int) > if (b.length : Int) > IntKind.i64.wrap n then (b.length : Int) else IntKind.i64.wrap n then (r.length : Int) else if (b.length : Int) > IntKind.i64.wrap n then (b.length : Int) else IntKind.i64.wrap n) = n := by
    have hwn : IntKind.i64.wrap n = n := w64i (by omega) (by omega)
    rw [hwn]
    simp [hk]
    try (first | omega | (intro h; simp [h]))
  rw [hM]
  rw [hwa, hw]
  refine ⟨rfl, ?_⟩
  conv => whnf
  by_cases hh : decide (a + n > szF 3) = true
  · have hc : ¬ ((!decide (a + n > szF 3)) = true) := by rw [hh]; simp
    rw [if_neg hc, if_neg hc]
    refine condY hh ?_
    conv => whnf
    refine Ev.call (rexc_ev l 2) ?_
    conv => whnf
    exact FrzB.le (Le.refl _) rfl
  have hh' : decide (a + n > szF 3) = false := by simpa using hh
  have hc : (!decide (a + n > szF 3)) = true := by rw [hh']; rfl
  rw [if_pos hc, if_pos hc]
  refine condN hh' ?_
  conv => whnf
  rw [hwa]
  obtain ⟨⟨⟨hn', rfl⟩, rfl⟩, rfl⟩ := hk
  refine loopI (α := Unit) (fun _ => [(0, .ptr 0 0), (5, .int .u8 3), (6, .ptr 1 0), (8, .int .i64 n), (9, .ptr 2 0), (10, .int .i64 a), (12, .int .i64 0)])
      (fun _ => ⟨3, [(0, some (rmC I)), (1, some (.obj [.int .u8 3, .int .u16 a, .int .u16 n, .int .u16 0, .roB [], .roI .u16 []])), (2, some (.obj [.int .u8 3, .int .u8 0, .int .u16 0, .int .u16 0, .nils, .nils]))]⟩) (fun _ => 0) ()
      ⟨[], rfl, rfl, rfl, ⟨⟨rfl, rfl⟩, ⟨rfl, rfl⟩, ⟨rfl, rfl⟩, ⟨rfl, rfl⟩, ⟨rfl, rfl⟩, ⟨rfl, rfl⟩, ⟨rfl, rfl⟩, trivial⟩, ⟨⟨trivial, rfl, rfl⟩, ⟨rfl, rfl, rfl⟩, ⟨rfl, rfl, rfl⟩, trivial⟩⟩ fun _ => ?_
  conv => whnf
  refine loopI (α := {i : Nat // i ≤ n.toNat}) (fun i => [(0, .ptr 0 0), (5, .int .u8 3), (8, .int .i64 n), (9, .ptr 2 0), (10, .int .i64 a), (13, .int .i64 i.1)])
      (fun i => ⟨4, [(3, some (.rowI .u16 (tgs I.o 3 a i.1))), (0, some (rmC I)), (2, some (.obj [.int .u8 3, .int .u8 0, .int .u16 0, .int .u16 0, .nils, .sl 1 3 0 i.1]))]⟩) (fun i => n.toNat - i.1) ⟨0, Nat.zero_le _⟩
      ⟨[(3, none)], rfl, rfl, rfl, ⟨⟨rfl, rfl⟩, ⟨rfl, rfl⟩, ⟨rfl, rfl⟩, ⟨rfl, rfl⟩, ⟨rfl, rfl⟩, ⟨rfl, rfl⟩, trivial⟩, ⟨⟨trivial, rfl, rfl⟩, ⟨trivial, rfl, rfl⟩, ⟨rfl, rfl, rfl⟩, trivial⟩⟩ fun ⟨i, hi⟩ => ?_
  conv => whnf
  by_cases hlt : i < n.toNat
  · have hl : (tgs I.o 3 a i).length = i := by simp [tgs_length]
    refine condY (by simp; omega) ?_
    conv => whnf
    rw [show IntKind.i64.wrap (a + ((i : Nat) : Int)) = a + i from w64i (by omega) (by omega)]
    refine blkCall (rget_tr I 3 (a + i) (by omega) (by omega)) rfl rfl rfl ?_
    conv => whnf
    refine ⟨rfl, ?_⟩
    conv => whnf
    refine condT (by simp [tgs_length]; omega) ?_
    conv => whnf
    refine ⟨⟨i + 1, hlt⟩, ⟨[(3, some 5)], rfl, rfl, rfl, ⟨⟨rfl, rfl⟩, ⟨rfl, rfl⟩, ⟨rfl, rfl⟩, ⟨rfl, rfl⟩, ⟨rfl, rfl⟩, ⟨?_, rfl⟩, trivial⟩, ⟨⟨trivial, rfl, ?_⟩, ⟨trivial, rfl, rfl⟩, ⟨rfl, rfl, rfl⟩, trivial⟩⟩, by show n.toNat - (i + 1) < n.toNat - i; omega⟩
    · show AV.int .i64 (IntKind.i64.wrap ((i : Int) + 1)) = AV.int .i64 ((i + 1 : Nat) : Int)
      rw [s64 (by omega)]
    · show some (Chunk.rowI .u16 (((tgs I.o 3 a i).drop 0).take i ++ ([tg I.o 3 (a + i)].drop 0).take 1)) = some (Chunk.rowI .u16 (tgs I.o 3 a (i + 1)))
      rw [tgs_succ, List.drop_zero]
      conv => lhs; rw [List.take_of_length_le (by omega)]
      rfl
  · obtain rfl : i = n.toNat := by omega
    refine condN (by simp; omega) ?_
    conv => whnf
    refine lend1 (h := 3) (n := 0) (v := .nils) rfl (frz_repI 3 3 0 0 0 _ _ (by simp [tgs_length])) ?_
    refine Tr.le (leRepZ Le.nilB (Le.refl _)) (Ev.call (rReply_ev 3 0 0 0 [] (tgs I.o 3 a n.toNat) (by omega) (by omega) (by simp) (by simp [tgs_length]; omega)) ?_)
    conv => whnf
    exact FrzB.le (Le.refl _) rfl
set_option maxRecDepth 20000 in
theorem rs4_tr (I : Img) (l : List Int) (hl : l.length ≤ 1000) (hB : isB l) (h0 : l ≠ []) (hf : l.getD 0 0 = 4) : RmT 92 [.ptr 0 0, .roI .u8 l] I (.roI .u8 (serveB I l)) (serveI I l) := by
  refine FrzB.rm rfl (trF g92 b92 c92 ?_)
  conv => whnf
  have hlen : 0 < l.length := by
    cases l with
    | nil => exact absurd rfl h0
    | cons a t => simp
  refine condN (by simp; omega) ?_
  conv => whnf
  refine condT (by simp; omega) ?_
  conv => whnf
  rw [show l.getD (Int.toNat 0) 0 = 4 from hf]
  refine Ev.call (rknown_ev 4) ?_
  conv => whnf
  have hO := rOpen_ev l hl
  rw [dec_same l hB hl] at hO
  have hS : serveB I l = (if (decS l).2 = 0 then (if thereB (decS l).1.f (decS l).1.a (decS l).1.n (decS l).1.a2 (decS l).1.b (decS l).1.r then doesB I (decS l).1.f (decS l).1.a (decS l).1.n (decS l).1.a2 (decS l).1.b (decS l).1.r else excB l 2) else excB l 3) := by
    unfold serveB; rw [if_neg h0, if_pos (by rw [hf]; rfl)]
  have hI : serveI I l = (if (decS l).2 = 0 then (if thereB (decS l).1.f (decS l).1.a (decS l).1.n (decS l).1.a2 (decS l).1.b (decS l).1.r then doesI I (decS l).1.f (decS l).1.a (decS l).1.n (decS l).1.a2 (decS l).1.b (decS l).1.r else I) else I) := by
    unfold serveI; rw [if_neg h0, if_pos (by rw [hf]; rfl)]
  have hq := decS_ok l hl
  have h5 := dec5 l
  generalize decS l = d at *
  obtain ⟨⟨f, a, n, a2, b, r⟩, e⟩ := d
  have hO : Ev Try.prog 54 [.roI .u8 l] (.tup [reqA f a n a2 (.roB b) (.roI .u16 r), .int .i64 e]) := hO
  refine Ev.call hO ?_
  clear hO
  conv => whnf
  by_cases he : e ≠ 0
  · rw [if_neg he] at hS hI
    refine condY (by simp [he]) ?_
    conv => whnf
    refine Ev.call (rexc_ev l 3) ?_
    conv => whnf
    rw [hS, hI]
    exact FrzB.le (Le.refl _) rfl
  have he : e = 0 := by simpa using he
  obtain ⟨hf', hQ⟩ := hq he
  have hf' : f = l.getD 0 0 := hf'
  have hQ2 : OkQ f a n a2 b r := hQ
  clear hQ
  rw [hf] at hf'
  subst hf'
  have h5 := h5 he
  subst he
  rw [if_pos rfl] at hS hI
  have hS2 : serveB I l = (if thereB 4 a n a2 b r then doesB I 4 a n a2 b r else excB l 2) := hS
  have hI2 : serveI I l = (if thereB 4 a n a2 b r then doesI I 4 a n a2 b r else I) := hI
  clear hq
  obtain ⟨ha, hn, ha2, hb, hr, hx, ok⟩ := hQ2
  have hx0 : ∀ x ∈ r, 0 ≤ x := fun x h => (hx x h).1
  rw [hS2, hI2]
  clear hS hI hS2 hI2
  conv => whnf
  have hk : encOk 4 n a2 b r = true := ok
  simp [encOk, withinB] at hk
  have hwa : IntKind.i64.wrap a = a := w64i (by omega) (by omega)
  have hw : IntKind.i64.wrap (a + n) = a + n := w64i (by omega) (by omega)
  have hT : thereB 4 a n a2 b r = !decide (a + n > szF 4) := by
    rw [← hasB_eq 4 a n rfl ha.1 (by omega)]; rfl
  rw [hT]
  refine Ev.call (rsizeF_ev 4) ?_
  conv => whnf
  have hM : (if (r.length : Int) > if (b.length : Int) > IntKind.i64.wrap n then (b.length : Int) else IntKind.i64.wrap n then (r.length : Int) else if (b.length : Int) > IntKind.i64.wrap n then (b.length : Int) else IntKind.i64.wrap n) = n := by
    have hwn : IntKind.i64.wrap n = n := w64i (by omega) (by omega)
    rw [hwn]
    simp [hk]
    try (first | omega | (intro h; simp [h]))
  rw [hM]
  rw [hwa, hw]
  refine ⟨rfl, ?_⟩
  conv => whnf
  by_cases hh : decide (a + n > szF 4) = true
  · have hc : ¬ ((!decide (a + n > szF 4)) = true) := by rw [hh]; simp
    rw [if_neg hc, if_neg hc]
    refine condY hh ?_
    conv => whnf
    refine Ev.call (rexc_ev l 2) ?_
    conv => whnf
    exact FrzB.le (Le.refl _) rfl
  have hh' : decide (a + n > szF 4) = false := by simpa using hh
  have hc : (!decide (a + n > szF 4)) = true := by rw [hh']; rfl
  rw [if_pos hc, if_pos hc]
  refine condN hh' ?_
  conv => whnf
  rw [hwa]
  obtain ⟨⟨⟨hn', rfl⟩, rfl⟩, rfl⟩ := hk
  refine loopI (α := Unit) (fun _ => [(0, .ptr 0 0), (5, .int .u8 4), (6, .ptr 1 0), (8, .int .i64 n), (9, .ptr 2 0), (10, .int .i64 a), (12, .int .i64 0)])
      (fun _ => ⟨3, [(0, some (rmC I)), (1, some (.obj [.int .u8 4, .int .u16 a, .int .u16 n, .int .u16 0, .roB [], .roI .u16 []])), (2, some (.obj [.int .u8 4, .int .u8 0, .int .u16 0, .int .u16 0, .nils, .nils]))]⟩) (fun _ => 0) ()
      ⟨[], rfl, rfl, rfl, ⟨⟨rfl, rfl⟩, ⟨rfl, rfl⟩, ⟨rfl, rfl⟩, ⟨rfl, rfl⟩, ⟨rfl, rfl⟩, ⟨rfl, rfl⟩, ⟨rfl, rfl⟩, trivial⟩, ⟨⟨trivial, rfl, rfl⟩, ⟨rfl, rfl, rfl⟩, ⟨rfl, rfl, rfl⟩, trivial⟩⟩ fun _ => ?_
  conv => whnf
  refine loopI (α := {i : Nat // i ≤ n.toNat}) (fun i => [(0, .ptr 0 0), (5, .int .u8 4), (8, .int .i64 n), (9, .ptr 2 0), (10, .int .i64 a), (13, .int .i64 i.1)])
      (fun i => ⟨4, [(3, some (.rowI .u16 (tgs I.o 4 a i.1))), (0, some (rmC I)), (2, some (.obj [.int .u8 4, .int .u8 0, .int .u16 0, .int .u16 0, .nils, .sl 1 3 0 i.1]))]⟩) (fun i => n.toNat - i.1) ⟨0, Nat.zero_le _⟩
      ⟨[(3, none)], rfl, rfl, rfl, ⟨⟨rfl, rfl⟩, ⟨rfl, rfl⟩, ⟨rfl, rfl⟩, ⟨rfl, rfl⟩, ⟨rfl, rfl⟩, ⟨rfl, rfl⟩, trivial⟩, ⟨⟨trivial, rfl, rfl⟩, ⟨trivial, rfl, rfl⟩, ⟨rfl, rfl, rfl⟩, trivial⟩⟩ fun ⟨i, hi⟩ => ?_
  conv => whnf
  by_cases hlt : i < n.toNat
  · have hl : (tgs I.o 4 a i).length = i := by simp [tgs_length]
    refine condY (by simp; omega) ?_
    conv => whnf
    rw [show IntKind.i64.wrap (a + ((i : Nat) : Int)) = a + i from w64i (by omega) (by omega)]
    refine blkCall (rget_tr I 4 (a + i) (by omega) (by omega)) rfl rfl rfl ?_
    conv => whnf
    refine ⟨rfl, ?_⟩
    conv => whnf
    refine condT (by simp [tgs_length]; omega) ?_
    conv => whnf
    refine ⟨⟨i + 1, hlt⟩, ⟨[(3, some 5)], rfl, rfl, rfl, ⟨⟨rfl, rfl⟩, ⟨rfl, rfl⟩, ⟨rfl, rfl⟩, ⟨rfl, rfl⟩, ⟨rfl, rfl⟩, ⟨?_, rfl⟩, trivial⟩, ⟨⟨trivial, rfl, ?_⟩, ⟨trivial, rfl, rfl⟩, ⟨rfl, rfl, rfl⟩, trivial⟩⟩, by show n.toNat - (i + 1) < n.toNat - i; omega⟩
    · show AV.int .i64 (IntKind.i64.wrap ((i : Int) + 1)) = AV.int .i64 ((i + 1 : Nat) : Int)
      rw [s64 (by omega)]
    · show some (Chunk.rowI .u16 (((tgs I.o 4 a i).drop 0).take i ++ ([tg I.o 4 (a + i)].drop 0).take 1)) = some (Chunk.rowI .u16 (tgs I.o 4 a (i + 1)))
      rw [tgs_succ, List.drop_zero]
      conv => lhs; rw [List.take_of_length_le (by omega)]
      rfl
  · obtain rfl : i = n.toNat := by omega
    refine condN (by simp; omega) ?_
    conv => whnf
    refine lend1 (h := 3) (n := 0) (v := .nils) rfl (frz_repI 3 4 0 0 0 _ _ (by simp [tgs_length])) ?_
    refine Tr.le (leRepZ Le.nilB (Le.refl _)) (Ev.call (rReply_ev 4 0 0 0 [] (tgs I.o 4 a n.toNat) (by omega) (by omega) (by simp) (by simp [tgs_length]; omega)) ?_)
    conv => whnf
    exact FrzB.le (Le.refl _) rfl
theorem rServe_tr (I : Img) (l : List Int) (hl : l.length ≤ 1000) (hB : isB l) : RmT 92 [.ptr 0 0, .roI .u8 l] I (.roI .u8 (serveB I l)) (serveI I l) := by
  by_cases h0 : l = []
  · subst h0
    refine FrzB.rm rfl (trF g92 b92 c92 ?_)
    conv => whnf
    exact FrzB.le (Le.nilI _) rfl
  by_cases hk : knownB (l.getD 0 0) = true
  · have hk' := hk
    simp only [knownB, Bool.or_eq_true, beq_iff_eq] at hk'
    rcases hk' with ((((((((h | h) | h) | h) | h) | h) | h) | h) | h) | h
    · exact rs1_tr I l hl hB h0 h
    · exact rs2_tr I l hl hB h0 h
    · exact rs3_tr I l hl hB h0 h
    · exact rs4_tr I l hl hB h0 h
    · exact rs5_tr I l hl hB h0 h
    · exact rs6_tr I l hl hB h0 h
    · exact rs15_tr I l hl hB h0 h
    · exact rs16_tr I l hl hB h0 h
    · exact rs22_tr I l hl hB h0 h
    · exact rs23_tr I l hl hB h0 h
  · have hk' : knownB (l.getD 0 0) = false := by simpa using hk
    have hS : serveB I l = excB l 1 := by unfold serveB; rw [if_neg h0, if_neg hk]
    have hI : serveI I l = I := by unfold serveI; rw [if_neg h0, if_neg hk]
    rw [hS, hI]
    refine FrzB.rm rfl (trF g92 b92 c92 ?_)
    conv => whnf
    have hlen : 0 < l.length := by
      cases l with
      | nil => exact absurd rfl h0
      | cons a t => simp
    refine condN (by simp; omega) ?_
    conv => whnf
    refine condT (by simp; omega) ?_
    conv => whnf
    refine Ev.call (rknown_ev (l.getD 0 0)) ?_
    conv => whnf
    refine condY (by show (!knownB (l.getD 0 0)) = true; rw [hk']; rfl) ?_
    conv => whnf
    refine Ev.call (rexc_ev l 1) ?_
    conv => whnf
    exact FrzB.le (Le.refl _) rfl
end Go.Proofs.Ytomodeliimnddaa
set_option linter.unusedVariables false
set_option linter.unusedSimpArgs false
namespace Go.Proofs.Ytomodeliimnddaa
open Go.Ab
/- rung/runglaw25.known -/
def a69 : ACode := (.seq (.reg [⟨(some 0), .mov (.c (.bool false)), none, false⟩])
 (.seq (.reg [⟨(some 11), .build [(.int .i64 0), (.int .i64 0), (.int .u16 0)] [(0, 1, (.c (.int .i64 5))), (1, 1, (.c (.int .i64 1))), (2, 1, (.c (.int .u16 4660)))], none, false⟩, ⟨(some 12), .bslice 3 .gen [(.int .i64 0), (.int .i64 0), (.int .u16 0)] [(0, 3, (.t 11))] 1, none, false⟩, ⟨(some 13), .call 70 [(.t 12)], none, false⟩, ⟨(some 10), .mov (.t 13), none, false⟩, ⟨(some 14), .ext (.t 10) 0, none, false⟩, ⟨(some 15), .ext (.t 10) 1, none, false⟩, ⟨(some 1), .mov (.t 14), none, false⟩, ⟨(some 2), .mov (.t 15), none, false⟩])
 (.seq (.seq (.reg [⟨(some 16), .mov (.t 1), none, false⟩, ⟨(some 17), .bin .eql .ptr (.t 16) (.c .nilp), none, false⟩])
 (.cond (.t 17) (.seq (.reg [⟨(some 0), .mov (.c (.bool false)), none, false⟩])
 .ret)
 .skip))
 (.seq (.reg [⟨(some 18), .mov (.t 1), none, false⟩, ⟨(some 19), .bslice 1 (.int .u8) [(.int .u8 0), (.int .u8 0), (.int .u8 0), (.int .u8 0), (.int .u8 0)] [(0, 1, (.c (.int .u8 3))), (1, 1, (.c (.int .u8 0))), (2, 1, (.c (.int .u8 1))), (3, 1, (.c (.int .u8 0))), (4, 1, (.c (.int .u8 1)))] 5, none, false⟩, ⟨(some 20), .call 71 [(.t 18), (.t 19)], none, false⟩, ⟨(some 3), .mov (.t 20), none, false⟩])
 (.seq (.reg [⟨(some 21), .mov (.t 1), none, false⟩, ⟨(some 22), .bslice 1 (.int .u8) [(.int .u8 0), (.int .u8 0), (.int .u8 0), (.int .u8 0), (.int .u8 0)] [(0, 1, (.c (.int .u8 3))), (1, 1, (.c (.int .u8 0))), (2, 1, (.c (.int .u8 127))), (3, 1, (.c (.int .u8 0))), (4, 1, (.c (.int .u8 2)))] 5, none, false⟩, ⟨(some 23), .call 71 [(.t 21), (.t 22)], none, false⟩, ⟨(some 4), .mov (.t 23), none, false⟩])
 (.seq (.reg [⟨(some 24), .mov (.t 1), none, false⟩, ⟨(some 25), .bslice 1 (.int .u8) [(.int .u8 0)] [(0, 1, (.c (.int .u8 7)))] 1, none, false⟩, ⟨(some 26), .call 71 [(.t 24), (.t 25)], none, false⟩, ⟨(some 5), .mov (.t 26), none, false⟩])
 (.seq (.reg [⟨(some 27), .mov (.t 1), none, false⟩, ⟨(some 28), .bslice 1 (.int .u8) [(.int .u8 0), (.int .u8 0), (.int .u8 0), (.int .u8 0), (.int .u8 0)] [(0, 1, (.c (.int .u8 3))), (1, 1, (.c (.int .u8 0))), (2, 1, (.c (.int .u8 1))), (3, 1, (.c (.int .u8 0))), (4, 1, (.c (.int .u8 0)))] 5, none, false⟩, ⟨(some 29), .call 71 [(.t 27), (.t 28)], none, false⟩, ⟨(some 6), .mov (.t 29), none, false⟩])
 (.seq (.reg [⟨(some 30), .mov (.t 1), none, false⟩, ⟨(some 31), .bslice 1 (.int .u8) [(.int .u8 0), (.int .u8 0), (.int .u8 0), (.int .u8 0), (.int .u8 0)] [(0, 1, (.c (.int .u8 6))), (1, 1, (.c (.int .u8 0))), (2, 1, (.c (.int .u8 64))), (3, 1, (.c (.int .u8 0))), (4, 1, (.c (.int .u8 9)))] 5, none, false⟩, ⟨(some 32), .call 71 [(.t 30), (.t 31)], none, false⟩, ⟨(some 7), .mov (.t 32), none, false⟩])
 (.seq (.reg [⟨(some 34), .mov (.t 1), none, false⟩, ⟨(some 35), .call 44 [(.t 34), (.c (.int .i64 6)), (.c (.int .i64 0))], none, false⟩, ⟨(some 33), .mov (.t 35), none, false⟩, ⟨(some 36), .ext (.t 33) 0, none, false⟩, ⟨(some 37), .ext (.t 33) 1, none, false⟩, ⟨(some 8), .mov (.t 36), none, false⟩, ⟨(some 9), .mov (.t 37), none, false⟩])
 (.seq (.reg [⟨(some 38), .mov (.t 3), none, false⟩, ⟨(some 39), .bslice 1 (.int .u8) [(.int .u8 0), (.int .u8 0), (.int .u8 0), (.int .u8 0)] [(0, 1, (.c (.int .u8 3))), (1, 1, (.c (.int .u8 2))), (2, 1, (.c (.int .u8 18))), (3, 1, (.c (.int .u8 52)))] 4, none, false⟩, ⟨(some 40), .call 50 [(.t 38), (.t 39)], none, false⟩, ⟨(some 41), .mov (.t 40), none, true⟩, ⟨(some 42), .mov (.t 4), (some (41, true)), false⟩, ⟨(some 43), .bslice 1 (.int .u8) [(.int .u8 0), (.int .u8 0)] [(0, 1, (.c (.int .u8 131))), (1, 1, (.c (.int .u8 2)))] 2, (some (41, true)), false⟩, ⟨(some 44), .call 50 [(.t 42), (.t 43)], (some (41, true)), false⟩, ⟨(some 45), .pick (.t 41) (.t 44) (.c (.bool false)), none, false⟩, ⟨(some 46), .mov (.t 45), none, true⟩, ⟨(some 47), .mov (.t 5), (some (46, true)), false⟩, ⟨(some 48), .bslice 1 (.int .u8) [(.int .u8 0), (.int .u8 0)] [(0, 1, (.c (.int .u8 135))), (1, 1, (.c (.int .u8 1)))] 2, (some (46, true)), false⟩, ⟨(some 49), .call 50 [(.t 47), (.t 48)], (some (46, true)), false⟩, ⟨(some 50), .pick (.t 46) (.t 49) (.c (.bool false)), none, false⟩, ⟨(some 51), .mov (.t 50), none, true⟩, ⟨(some 52), .mov (.t 6), (some (51, true)), false⟩, ⟨(some 53), .bslice 1 (.int .u8) [(.int .u8 0), (.int .u8 0)] [(0, 1, (.c (.int .u8 131))), (1, 1, (.c (.int .u8 3)))] 2, (some (51, true)), false⟩, ⟨(some 54), .call 50 [(.t 52), (.t 53)], (some (51, true)), false⟩, ⟨(some 55), .pick (.t 51) (.t 54) (.c (.bool false)), none, false⟩, ⟨(some 56), .mov (.t 55), none, true⟩, ⟨(some 57), .mov (.t 7), (some (56, true)), false⟩, ⟨(some 58), .bslice 1 (.int .u8) [(.int .u8 0), (.int .u8 0), (.int .u8 0), (.int .u8 0), (.int .u8 0)] [(0, 1, (.c (.int .u8 6))), (1, 1, (.c (.int .u8 0))), (2, 1, (.c (.int .u8 64))), (3, 1, (.c (.int .u8 0))), (4, 1, (.c (.int .u8 9)))] 5, (some (56, true)), false⟩, ⟨(some 59), .call 50 [(.t 57), (.t 58)], (some (56, true)), false⟩, ⟨(some 60), .pick (.t 56) (.t 59) (.c (.bool false)), none, false⟩, ⟨(some 61), .mov (.t 60), none, true⟩, ⟨(some 62), .mov (.t 8), (some (61, true)), false⟩, ⟨(some 63), .bin .eql .other (.t 62) (.c (.int .u16 9)), (some (61, true)), false⟩, ⟨(some 64), .pick (.t 61) (.t 63) (.c (.bool false)), none, false⟩, ⟨(some 65), .mov (.t 64), none, true⟩, ⟨(some 66), .mov (.t 1), (some (65, true)), false⟩, ⟨(some 67), .call 71 [(.t 66), (.c .nils)], (some (65, true)), false⟩, ⟨(some 68), .len false (.t 67), (some (65, true)), false⟩, ⟨(some 69), .bin .eql .other (.t 68) (.c (.int .i64 0)), (some (65, true)), false⟩, ⟨(some 70), .pick (.t 65) (.t 69) (.c (.bool false)), none, false⟩, ⟨(some 71), .mov (.t 70), none, true⟩, ⟨(some 72), .call 94 [(.c .nils), (.c (.int .u8 6))], (some (71, true)), false⟩, ⟨(some 73), .bslice 1 (.int .u8) [(.int .u8 0), (.int .u8 0)] [(0, 1, (.c (.int .u8 128))), (1, 1, (.c (.int .u8 6)))] 2, (some (71, true)), false⟩, ⟨(some 74), .call 50 [(.t 72), (.t 73)], (some (71, true)), false⟩, ⟨(some 75), .pick (.t 71) (.t 74) (.c (.bool false)), none, false⟩, ⟨(some 0), .mov (.t 75), none, false⟩])
 .ret))))))))))
def r69 : List ARes := [.t 0]
theorem c69 : compF Try.prog Try.f69 = some (a69, r69) := by kernel_rfl

theorem b69 : hasBody Try.prog 69 = true := by kernel_rfl
theorem g69 : Try.prog.funcs[69]? = some Try.f69 := by kernel_rfl
/- rung/runglaw25.laid -/
def a70 : ACode := (.seq (.reg [⟨(some 2), .mov (.c .nilp), none, false⟩, ⟨(some 3), .mov (.c .nilp), none, false⟩])
 (.seq (.reg [⟨(some 7), .call 27 [], none, false⟩, ⟨(some 8), .call 28 [], none, false⟩, ⟨(some 4), .mov (.t 7), none, false⟩, ⟨(some 5), .mov (.t 8), none, false⟩])
 (.seq (.seq (.reg [⟨(some 6), .mov (.c (.int .i64 0)), none, false⟩])
 (.block 0 (.loop (.seq (.seq (.reg [⟨(some 9), .mov (.t 6), none, false⟩, ⟨(some 10), .mov (.t 0), none, false⟩, ⟨(some 11), .len false (.t 10), none, false⟩, ⟨(some 12), .bin .lss .other (.t 9) (.t 11), none, false⟩])
 (.cond (.t 12) .skip
 (.exit 0)))
 (.seq (.block 1 (.seq (.draw [⟨0, ⟨(some 15), .mov (.t 4), none, false⟩, false, [], []⟩, ⟨1, ⟨(some 16), .mov (.t 0), none, false⟩, false, [], []⟩, ⟨2, ⟨(some 17), .mov (.t 6), none, false⟩, false, [], []⟩, ⟨3, ⟨(some 18), .idx 3 none true (.t 16) (.t 17), none, false⟩, false, [], []⟩, ⟨4, ⟨(some 19), .fld 0 1 false (.t 18), none, false⟩, false, [], []⟩, ⟨5, ⟨(some 20), .load false 1 (.t 19), none, false⟩, false, [], []⟩, ⟨6, ⟨(some 21), .mov (.t 0), none, false⟩, false, [], []⟩, ⟨7, ⟨(some 22), .mov (.t 6), none, false⟩, false, [], []⟩, ⟨8, ⟨(some 23), .idx 3 none true (.t 21) (.t 22), none, false⟩, false, [], []⟩, ⟨9, ⟨(some 24), .fld 1 1 false (.t 23), none, false⟩, false, [], []⟩, ⟨10, ⟨(some 25), .load false 1 (.t 24), none, false⟩, false, [], []⟩, ⟨11, ⟨(some 26), .mov (.t 0), none, false⟩, false, [], []⟩, ⟨12, ⟨(some 27), .mov (.t 6), none, false⟩, false, [], []⟩, ⟨13, ⟨(some 28), .idx 3 none true (.t 26) (.t 27), none, false⟩, false, [], []⟩, ⟨14, ⟨(some 29), .fld 2 1 false (.t 28), none, false⟩, false, [], []⟩, ⟨15, ⟨(some 30), .load false 1 (.t 29), none, false⟩, false, [], []⟩, ⟨16, ⟨(some 31), .call 29 [(.t 15), (.t 20), (.t 25), (.t 30)], none, false⟩, true, [], []⟩])
 (.draw [⟨0, ⟨(some 32), .mov (.t 5), none, false⟩, false, [], []⟩, ⟨1, ⟨(some 33), .mov (.t 0), none, false⟩, false, [], []⟩, ⟨2, ⟨(some 34), .mov (.t 6), none, false⟩, false, [], []⟩, ⟨3, ⟨(some 35), .idx 3 none true (.t 33) (.t 34), none, false⟩, false, [], []⟩, ⟨4, ⟨(some 36), .fld 0 1 false (.t 35), none, false⟩, false, [], []⟩, ⟨5, ⟨(some 37), .load false 1 (.t 36), none, false⟩, false, [], []⟩, ⟨6, ⟨(some 38), .mov (.t 0), none, false⟩, false, [], []⟩, ⟨7, ⟨(some 39), .mov (.t 6), none, false⟩, false, [], []⟩, ⟨8, ⟨(some 40), .idx 3 none true (.t 38) (.t 39), none, false⟩, false, [], []⟩, ⟨9, ⟨(some 41), .fld 1 1 false (.t 40), none, false⟩, false, [], []⟩, ⟨10, ⟨(some 42), .load false 1 (.t 41), none, false⟩, false, [], []⟩, ⟨11, ⟨(some 43), .mov (.t 0), none, false⟩, false, [], []⟩, ⟨12, ⟨(some 44), .mov (.t 6), none, false⟩, false, [], []⟩, ⟨13, ⟨(some 45), .idx 3 none true (.t 43) (.t 44), none, false⟩, false, [], []⟩, ⟨14, ⟨(some 46), .fld 2 1 false (.t 45), none, false⟩, false, [], []⟩, ⟨15, ⟨(some 47), .load false 1 (.t 46), none, false⟩, false, [], []⟩, ⟨16, ⟨(some 48), .call 30 [(.t 32), (.t 37), (.t 42), (.t 47)], none, false⟩, true, [], []⟩])))
 (.reg [⟨(some 13), .mov (.t 6), none, false⟩, ⟨(some 14), .bin .add .other (.t 13) (.c (.int .i64 1)), none, false⟩, ⟨(some 6), .mov (.t 14), none, false⟩]))))))
 (.seq (.reg [⟨(some 49), .mov (.t 4), none, false⟩, ⟨(some 50), .mov (.t 5), none, false⟩, ⟨(some 2), .mov (.t 49), none, false⟩, ⟨(some 3), .mov (.t 50), none, false⟩])
 .ret))))
def r70 : List ARes := [.t 2, .t 3]
theorem c70 : compF Try.prog Try.f70 = some (a70, r70) := by kernel_rfl

theorem b70 : hasBody Try.prog 70 = true := by kernel_rfl
theorem g70 : Try.prog.funcs[70]? = some Try.f70 := by kernel_rfl
/- rung/runglaw25.alike -/
def a93 : ACode := (.seq (.reg [⟨(some 4), .mov (.c (.bool false)), none, false⟩])
 (.seq (.seq (.reg [⟨(some 5), .mov (.c (.int .i64 1)), none, false⟩])
 (.block 0 (.loop (.seq (.seq (.reg [⟨(some 6), .mov (.t 5), none, false⟩, ⟨(some 7), .bin .leq .other (.t 6) (.c (.int .i64 6)), none, false⟩])
 (.cond (.t 7) .skip
 (.exit 0)))
 (.seq (.block 1 (.seq (.reg [⟨(some 10), .mov (.t 0), none, false⟩, ⟨(some 11), .mov (.t 5), none, false⟩, ⟨(some 12), .call 36 [(.t 10), (.t 11)], none, false⟩, ⟨(some 13), .mov (.t 1), none, false⟩, ⟨(some 14), .mov (.t 5), none, false⟩, ⟨(some 15), .call 37 [(.t 13), (.t 14)], none, false⟩, ⟨(some 16), .call 35 [(.t 12), (.t 15)], none, false⟩, ⟨(some 17), .un .not (.t 16), none, false⟩])
 (.cond (.t 17) (.seq (.reg [⟨(some 4), .mov (.c (.bool false)), none, false⟩])
 .ret)
 .skip)))
 (.reg [⟨(some 8), .mov (.t 5), none, false⟩, ⟨(some 9), .bin .add .other (.t 8) (.c (.int .i64 1)), none, false⟩, ⟨(some 5), .mov (.t 9), none, false⟩]))))))
 (.seq (.draw [⟨0, ⟨(some 18), .mov (.t 0), none, false⟩, false, [], []⟩, ⟨2, ⟨(some 20), .mov (.t 1), none, false⟩, false, [], []⟩, ⟨3, ⟨(some 21), .nilck (.t 20), none, false⟩, false, [], []⟩, ⟨4, ⟨(some 22), .fld 1792 1 false (.t 21), none, false⟩, false, [], []⟩, ⟨5, ⟨(some 23), .load false 1 (.t 22), none, false⟩, false, [], []⟩, ⟨1, ⟨(some 19), .call 97 [(.t 18)], none, false⟩, true, [], [(.t 22)]⟩, ⟨6, ⟨(some 24), .bin .eql .other (.t 19) (.t 23), none, false⟩, false, [], []⟩, ⟨7, ⟨(some 4), .mov (.t 24), none, false⟩, false, [], []⟩])
 .ret)))
def r93 : List ARes := [.t 4]
theorem c93 : compF Try.prog Try.f93 = some (a93, r93) := by kernel_rfl

theorem b93 : hasBody Try.prog 93 = true := by kernel_rfl
theorem g93 : Try.prog.funcs[93]? = some Try.f93 := by kernel_rfl

structure Ptv where
  ar : Int
  of : Int
  v : Int
def ptvV (x : Ptv) : AV := .agg [.int .i64 x.ar, .int .i64 x.of, .int .u16 x.v]
def OkI (I : Img) : Prop := ∀ a i, 0 ≤ I.o a i ∧ I.o a i < 65536
theorem OkI.zero : OkI .zero := fun _ _ => ⟨Int.le_refl _, by show (0 : Int) < 65536; decide⟩
theorem OkI.put {I : Img} (h : OkI I) (a i v : Int) (hv : 0 ≤ v ∧ v < 65536) : OkI (I.put a i v) := fun b j => by
  show 0 ≤ putO I.o a i v b j ∧ putO I.o a i v b j < 65536
  unfold putO
  split
  · unfold set2
    split
    · unfold bitV
      split
      · decide
      · exact hv
    · exact h b j
  · exact h b j
def laidK (v : AV) (s : St) : Prop := ∃ I, OkI I ∧ v = .tup [.ptr 0 0, .ptr 1 0] ∧ s = ⟨2, [(0, some (imC I)), (1, some (rmC I))]⟩
set_option maxRecDepth 20000 in
theorem laid_tr (S : List Ptv) (hS : ∀ x ∈ S, 0 ≤ x.v ∧ x.v < 65536) (hl : S.length ≤ 1000) : Tr Try.prog 70 [.ro 3 (S.map ptvV)] ⟨0, []⟩ laidK := by
  refine trF g70 b70 c70 ?_
  conv => whnf
  refine newCall New_tr ?_
  conv => whnf
  refine newCall rNew_tr ?_
  conv => whnf
  refine loopI (α := {i : Nat // i ≤ S.length} × {I : Img // OkI I}) (fun q => [(0, .ro 3 (S.map ptvV)), (4, .ptr 0 0), (5, .ptr 1 0), (6, .int .i64 q.1.1)]) (fun q => ⟨2, [(0, some (imC q.2.1)), (1, some (rmC q.2.1))]⟩) (fun q => S.length - q.1.1) (⟨0, Nat.zero_le _⟩, ⟨.zero, .zero⟩)
      ⟨[], rfl, rfl, rfl, ⟨⟨rfl, rfl⟩, ⟨rfl, rfl⟩, ⟨rfl, rfl⟩, ⟨rfl, rfl⟩, trivial⟩, ⟨⟨trivial, rfl, rfl⟩, ⟨trivial, rfl, rfl⟩, trivial⟩⟩ fun ⟨⟨i, hi⟩, ⟨I, hI⟩⟩ => ?_
  conv => whnf
  by_cases hlt : i < S.length
  · refine condY (by simp; omega) ?_
    conv => whnf
    obtain ⟨x, hxS, hx⟩ := map_getD (f := ptvV) hlt
    have hv := hS x hxS
    have hx : (S.map ptvV).getD (Int.toNat (i : Int)) .undef = ptvV x := hx
    refine condT (by simp; omega) ?_
    rw [hx]
    conv => whnf
    refine condT (by simp; omega) ?_
    rw [hx]
    conv => whnf
    refine condT (by simp; omega) ?_
    rw [hx]
    conv => whnf
    refine blkCall (Put_tr _ _ _ _ hv.1) rfl rfl rfl ?_
    conv => whnf
    refine condT (by simp; omega) ?_
    rw [hx]
    conv => whnf
    refine condT (by simp; omega) ?_
    rw [hx]
    conv => whnf
    refine condT (by simp; omega) ?_
    rw [hx]
    conv => whnf
    refine blkCall (rPut_tr _ _ _ _) rfl rfl rfl ?_
    conv => whnf
    refine ⟨(⟨i + 1, hlt⟩, ⟨I.put x.ar x.of x.v, hI.put _ _ _ hv⟩), ⟨[], rfl, rfl, rfl, ⟨⟨rfl, rfl⟩, ⟨rfl, rfl⟩, ⟨rfl, rfl⟩, ⟨?_, rfl⟩, trivial⟩, ⟨⟨trivial, rfl, rfl⟩, ⟨trivial, rfl, rfl⟩, trivial⟩⟩, by show S.length - (i + 1) < S.length - i; omega⟩
    show AV.int .i64 (IntKind.i64.wrap ((i : Int) + 1)) = AV.int .i64 ((i + 1 : Nat) : Int)
    rw [s64 (by omega)]
  · refine condN (by simp; omega) ?_
    conv => whnf
    exact ⟨I, hI, rfl, rfl⟩
set_option maxRecDepth 20000 in
theorem laid0_tr : Tr Try.prog 70 [.nils] ⟨0, []⟩ laidK := by
  refine trF g70 b70 c70 ?_
  conv => whnf
  refine newCall New_tr ?_
  conv => whnf
  refine newCall rNew_tr ?_
  conv => whnf
  refine loopI (α := Unit) (fun q => [(0, .nils), (4, .ptr 0 0), (5, .ptr 1 0), (6, .int .i64 0)]) (fun q => ⟨2, [(0, some (imC .zero)), (1, some (rmC .zero))]⟩) (fun q => 0) ()
      ⟨[], rfl, rfl, rfl, ⟨⟨rfl, rfl⟩, ⟨rfl, rfl⟩, ⟨rfl, rfl⟩, ⟨rfl, rfl⟩, trivial⟩, ⟨⟨trivial, rfl, rfl⟩, ⟨trivial, rfl, rfl⟩, trivial⟩⟩ fun _ => ?_
  conv => whnf
  exact ⟨.zero, .zero, rfl, rfl⟩
theorem laidCall {args : List AV} {s : St} {K : AV → St → Prop} (hT : Tr Try.prog 70 args ⟨0, []⟩ laidK) (ha : args = renL (rnm []) args) (hok : hokL 0 (rnm []) args = true)
    (kk : ∀ I, OkI I → openS s fun n m => K (.tup [.ptr n 0, .ptr (n + 1) 0]) ⟨n + 1 + 1, (n, some (imC I)) :: (n + 1, some (rmC I)) :: m⟩) : Tr Try.prog 70 args s K := by
  refine Tr.call [] hT ha hok trivial rfl fun v0 s0 ⟨I, hI, hv, hs⟩ => ?_
  subst hv; subst hs
  have kk := kk I hI
  rw [openS_eq] at kk
  exact kk
set_option maxRecDepth 20000 in
theorem salike_tr (I : Img) : Tr Try.prog 93 [.ptr 0 0, .ptr 1 0] ⟨2, [(0, some (imC I)), (1, some (rmC I))]⟩ fun v s => v = .bool true ∧ s = ⟨2, [(0, some (imC I)), (1, some (rmC I))]⟩ := by
  refine Tr.norm (K := fun v s => v = .bool true ∧ s.get 0 = some (imC I) ∧ s.get 1 = some (rmC I)) (trF g93 b93 c93 ?_) fun v s ⟨hv, h0, h1⟩ => ⟨_, _, ?_, rfl, rfl⟩
  · conv => whnf
    refine loopI (α := {a : Nat // 1 ≤ a ∧ a ≤ 7}) (fun a => [(0, .ptr 0 0), (1, .ptr 1 0), (5, .int .i64 a.1)]) (fun a => ⟨2, [(0, some (imC I)), (1, some (rmC I))]⟩) (fun a => 7 - a.1) ⟨1, by decide⟩
        ⟨[], rfl, rfl, rfl, ⟨⟨rfl, rfl⟩, ⟨rfl, rfl⟩, ⟨rfl, rfl⟩, trivial⟩, ⟨⟨trivial, rfl, rfl⟩, ⟨trivial, rfl, rfl⟩, trivial⟩⟩ fun ⟨a, ha⟩ => ?_
    conv => whnf
    by_cases hlt : a < 7
    · refine condY (by simp; omega) ?_
      conv => whnf
      refine allCall (All_tr I a) rfl rfl rfl ?_
      conv => whnf
      refine allCall (rAll_tr I a) rfl rfl rfl ?_
      conv => whnf
      refine Ev.look (hregs_same (allL I.o a) (allL_len _ _)) rfl (sameRows rfl rfl) ?_
      conv => whnf
      refine ⟨⟨a + 1, by omega⟩, ⟨[], rfl, rfl, rfl, ⟨⟨rfl, rfl⟩, ⟨rfl, rfl⟩, ⟨?_, rfl⟩, trivial⟩, ⟨⟨trivial, rfl, rfl⟩, ⟨trivial, rfl, rfl⟩, trivial⟩⟩, by show 7 - (a + 1) < 7 - a; omega⟩
      show AV.int .i64 (IntKind.i64.wrap ((a : Int) + 1)) = AV.int .i64 ((a + 1 : Nat) : Int)
      rw [s64 (by omega)]
    · refine condN (by simp; omega) ?_
      conv => whnf
      refine blkCall (Scans_tr I) rfl rfl rfl ?_
      conv => whnf
      refine ⟨rfl, ?_⟩
      conv => whnf
      refine ⟨?_, rfl, rfl⟩
      show AV.bool (I.n == I.n) = _
      rw [beq_self_eq_true]
  · subst hv
    exact ⟨[], rfl, rfl, rfl, ⟨⟨rfl, rfl⟩, trivial⟩, ⟨⟨trivial, rfl, h0⟩, ⟨trivial, rfl, h1⟩, trivial⟩⟩
/-- the example's image -/
def exI : Img := Img.zero.put 5 1 4660
set_option maxRecDepth 20000 in
theorem laid1_tr : Tr Try.prog 70 [.sl 3 0 0 1] ⟨1, [(0, some (.obj [.int .i64 5, .int .i64 1, .int .u16 4660]))]⟩ fun v s => v = .tup [.ptr 1 0, .ptr 2 0] ∧ s = ⟨3, [(1, some (imC exI)), (2, some (rmC exI))]⟩ := by
  refine Tr.norm (K := fun v s => v = .tup [.ptr 1 0, .ptr 2 0] ∧ s.get 1 = some (imC exI) ∧ s.get 2 = some (rmC exI)) (trF g70 b70 c70 ?_) fun v s ⟨hv, h0, h1⟩ => ⟨_, _, ?_, rfl, rfl⟩
  · conv => whnf
    refine newCall New_tr ?_
    conv => whnf
    refine newCall rNew_tr ?_
    conv => whnf
    refine loopI (α := Bool) (fun q => [(0, .sl 3 0 0 1), (4, .ptr 1 0), (5, .ptr 2 0), (6, .int .i64 (if q then 1 else 0))]) (fun q => ⟨3, [(0, some (.obj [.int .i64 5, .int .i64 1, .int .u16 4660])), (1, some (imC (if q then exI else .zero))), (2, some (rmC (if q then exI else .zero)))]⟩) (fun q => if q then 0 else 1) false
        ⟨[], rfl, rfl, rfl, ⟨⟨rfl, rfl⟩, ⟨rfl, rfl⟩, ⟨rfl, rfl⟩, ⟨rfl, rfl⟩, trivial⟩, ⟨⟨rfl, rfl, rfl⟩, ⟨trivial, rfl, rfl⟩, ⟨trivial, rfl, rfl⟩, trivial⟩⟩ fun q => ?_
    cases q
    · conv => whnf
      refine blkCall (Put_tr .zero 5 1 4660 (by decide)) rfl rfl rfl ?_
      conv => whnf
      refine blkCall (rPut_tr .zero 5 1 4660) rfl rfl rfl ?_
      conv => whnf
      refine ⟨true, ⟨[], rfl, rfl, rfl, ⟨⟨rfl, rfl⟩, ⟨rfl, rfl⟩, ⟨rfl, rfl⟩, ⟨rfl, rfl⟩, trivial⟩, ⟨⟨rfl, rfl, rfl⟩, ⟨trivial, rfl, rfl⟩, ⟨trivial, rfl, rfl⟩, trivial⟩⟩, by decide⟩
    · conv => whnf
      exact ⟨rfl, rfl, rfl⟩
  · subst hv
    exact ⟨[], rfl, rfl, rfl, ⟨⟨rfl, rfl⟩, trivial⟩, ⟨⟨trivial, rfl, h0⟩, ⟨trivial, rfl, h1⟩, trivial⟩⟩
theorem laid1Call {h : Nat} {s : St} {K : AV → St → Prop} (hg : s.get h = some (.obj [.int .i64 5, .int .i64 1, .int .u16 4660]))
    (kk : openS s fun n m => K (.tup [.ptr n 0, .ptr (n + 1) 0]) ⟨n + 1 + 1, (n, some (imC exI)) :: (n + 1, some (rmC exI)) :: (h, none) :: m⟩) : Tr Try.prog 70 [.sl 3 h 0 1] s K := by
  refine Tr.call [(0, some h)] laid1_tr rfl rfl ⟨⟨rfl, rfl, hg⟩, trivial⟩ rfl fun v0 s0 ⟨hv, hs⟩ => ?_
  subst hv; subst hs
  rw [openS_eq] at kk
  exact kk
theorem ex1 : serveB exI [3, 0, 1, 0, 1] = [3, 2, 18, 52] := by decide +kernel
theorem ex2 : serveB exI [3, 0, 127, 0, 2] = [131, 2] := by decide +kernel
theorem ex3 : serveB exI [7] = [135, 1] := by decide +kernel
theorem ex4 : serveB exI [3, 0, 1, 0, 0] = [131, 3] := by decide +kernel
theorem ex5 : serveB exI [6, 0, 64, 0, 9] = [6, 0, 64, 0, 9] := by decide +kernel
theorem ei1 : serveI exI [3, 0, 1, 0, 1] = exI := by kernel_rfl
theorem ei2 : serveI exI [3, 0, 127, 0, 2] = exI := by kernel_rfl
theorem ei3 : serveI exI [7] = exI := by kernel_rfl
theorem ei4 : serveI exI [3, 0, 1, 0, 0] = exI := by kernel_rfl
def exJ : Img := serveI exI [6, 0, 64, 0, 9]
theorem ei6 : serveI exJ [] = exJ := rfl
theorem ex6 : serveB exJ [] = [] := rfl
theorem ev6 : getV exJ.o 6 0 = 9 := by decide +kernel
theorem served {l m : List Int} {I J : Img} (hl : l.length ≤ 1000) (hb : serveB I l = m) (hi : serveI I l = J) : ImT 71 [.ptr 0 0, .roI .u8 l] I (.roI .u8 m) J := by
  rw [← hb, ← hi]; exact Serve_tr I l hl
theorem bytes_is {l m : List Int} (h : l = m) : Ev Try.prog 50 [.roI .u8 l, .roI .u8 m] (.bool true) := by
  subst h; exact bytes_same l
set_option maxRecDepth 20000 in
theorem known25 : Ev Try.prog 69 [] (.bool true) := by
  refine FrzK.ev rfl (trF g69 b69 c69 ?_)
  conv => whnf
  refine laid1Call rfl ?_
  conv => whnf
  refine lend1 (h := 3) (n := 0) (v := .nils) rfl rfl ?_
  refine blkCall (served (l := [3, 0, 1, 0, 1]) (by decide) ex1 ei1) rfl rfl rfl ?_
  conv => whnf
  refine lend1 (h := 4) (n := 0) (v := .nils) rfl rfl ?_
  refine blkCall (served (l := [3, 0, 127, 0, 2]) (by decide) ex2 ei2) rfl rfl rfl ?_
  conv => whnf
  refine lend1 (h := 5) (n := 0) (v := .nils) rfl rfl ?_
  refine blkCall (served (l := [7]) (by decide) ex3 ei3) rfl rfl rfl ?_
  conv => whnf
  refine lend1 (h := 6) (n := 0) (v := .nils) rfl rfl ?_
  refine blkCall (served (l := [3, 0, 1, 0, 0]) (by decide) ex4 ei4) rfl rfl rfl ?_
  conv => whnf
  refine lend1 (h := 7) (n := 0) (v := .nils) rfl rfl ?_
  refine blkCall (served (l := [6, 0, 64, 0, 9]) (by decide) ex5 rfl) rfl rfl rfl ?_
  conv => whnf
  refine blkCall (Get_tr exJ 6 0) rfl rfl rfl ?_
  conv => whnf
  refine lend1 (h := 8) (n := 0) (v := .nils) rfl rfl ?_
  refine Ev.call (bytes_is (rfl : ([3, 2, 18, 52] : List Int) = [3, 2, 18, 52])) ?_
  conv => whnf
  refine lend1 (h := 9) (n := 0) (v := .nils) rfl rfl ?_
  refine Ev.call (bytes_is (rfl : ([131, 2] : List Int) = [131, 2])) ?_
  conv => whnf
  refine lend1 (h := 10) (n := 0) (v := .nils) rfl rfl ?_
  refine Ev.call (bytes_is (rfl : ([135, 1] : List Int) = [135, 1])) ?_
  conv => whnf
  refine lend1 (h := 11) (n := 0) (v := .nils) rfl rfl ?_
  refine Ev.call (bytes_is (rfl : ([131, 3] : List Int) = [131, 3])) ?_
  conv => whnf
  refine lend1 (h := 12) (n := 0) (v := .nils) rfl rfl ?_
  refine Ev.call (bytes_is (rfl : ([6, 0, 64, 0, 9] : List Int) = [6, 0, 64, 0, 9])) ?_
  conv => whnf
  rw [ev6]
  conv => whnf
  refine Tr.le (args' := [.ptr 1 0, .roI .u8 []]) ⟨Le.refl _, Le.nilI _, trivial⟩ ?_
  refine blkCall (served (l := []) (by decide) ex6 ei6) rfl rfl rfl ?_
  conv => whnf
  refine Tr.le (args' := [.roI .u8 [], .int .u8 6]) ⟨Le.nilI _, Le.refl _, trivial⟩ ?_
  refine Ev.call (exc_ev [] 6) ?_
  conv => whnf
  refine lend1 (h := 13) (n := 0) (v := .nils) rfl rfl ?_
  refine Ev.call (bytes_is (rfl : excB [] 6 = [128, 6])) ?_
  conv => whnf
  exact FrzK.le (Le.refl _)
end Go.Proofs.Ytomodeliimnddaa
set_option linter.unusedVariables false
set_option linter.unusedSimpArgs false
namespace Go.Proofs.Ytomodeliimnddaa
open Go.Ab
theorem rep_row {f x a n : Int} {b : List Bool} {r : List Int} (h : repOk f x a n b r = true) : repB f x a n b r = (repS f x a n b r).row := if_pos h
theorem does_head (I : Img) (f a n a2 : Int) (b : List Bool) (r : List Int) (hf : knownB f = true) (h : OkQ f a n a2 b r) : ∃ t, doesB I f a n a2 b r = f :: t ∧ 1 ≤ t.length ∧ t.length ≤ 252 := by
  simp only [knownB, Bool.or_eq_true, beq_iff_eq] at hf
  obtain ⟨ha, hn, ha2, hb, hr, hx, ok⟩ := h
  rcases hf with ((((((((rfl | rfl) | rfl) | rfl) | rfl) | rfl) | rfl) | rfl) | rfl) | rfl
  · have hk : encOk 1 n a2 b r = true := ok
    simp [encOk, withinB] at hk
    have ho : repOk 1 0 0 0 ((tgs I.o 1 a n.toNat).map fun x => x != 0) [] = true := by
      simp [repOk, withinB, tgs_length]
      try omega
    rw [show doesB I 1 a n a2 b r = repB 1 0 0 0 ((tgs I.o 1 a n.toNat).map fun x => x != 0) [] from rfl, rep_row ho]
    refine ⟨_, rfl, ?_, ?_⟩
    all_goals
      simp [packN_length, twos_length, two8, tgs_length]
      try omega
  · have hk : encOk 2 n a2 b r = true := ok
    simp [encOk, withinB] at hk
    have ho : repOk 2 0 0 0 ((tgs I.o 2 a n.toNat).map fun x => x != 0) [] = true := by
      simp [repOk, withinB, tgs_length]
      try omega
    rw [show doesB I 2 a n a2 b r = repB 2 0 0 0 ((tgs I.o 2 a n.toNat).map fun x => x != 0) [] from rfl, rep_row ho]
    refine ⟨_, rfl, ?_, ?_⟩
    all_goals
      simp [packN_length, twos_length, two8, tgs_length]
      try omega
  · have hk : encOk 3 n a2 b r = true := ok
    simp [encOk, withinB] at hk
    have ho : repOk 3 0 0 0 [] (tgs I.o 3 a n.toNat) = true := by
      simp [repOk, withinB, tgs_length]
      try omega
    rw [show doesB I 3 a n a2 b r = repB 3 0 0 0 [] (tgs I.o 3 a n.toNat) from rfl, rep_row ho]
    refine ⟨_, rfl, ?_, ?_⟩
    all_goals
      simp [packN_length, twos_length, two8, tgs_length]
      try omega
  · have hk : encOk 4 n a2 b r = true := ok
    simp [encOk, withinB] at hk
    have ho : repOk 4 0 0 0 [] (tgs I.o 4 a n.toNat) = true := by
      simp [repOk, withinB, tgs_length]
      try omega
    rw [show doesB I 4 a n a2 b r = repB 4 0 0 0 [] (tgs I.o 4 a n.toNat) from rfl, rep_row ho]
    refine ⟨_, rfl, ?_, ?_⟩
    all_goals
      simp [packN_length, twos_length, two8, tgs_length]
      try omega
  · have hk : encOk 5 n a2 b r = true := ok
    simp [encOk, withinB] at hk
    have ho : repOk 5 0 a 0 b [] = true := by
      simp [repOk, withinB, tgs_length]
      try omega
    rw [show doesB I 5 a n a2 b r = repB 5 0 a 0 b [] from rfl, rep_row ho]
    refine ⟨_, rfl, ?_, ?_⟩
    all_goals
      simp [packN_length, twos_length, two8, tgs_length]
      try omega
  · have hk : encOk 6 n a2 b r = true := ok
    simp [encOk, withinB] at hk
    have ho : repOk 6 0 a 0 [] r = true := by
      simp [repOk, withinB, tgs_length]
      try omega
    rw [show doesB I 6 a n a2 b r = repB 6 0 a 0 [] r from rfl, rep_row ho]
    refine ⟨_, rfl, ?_, ?_⟩
    all_goals
      simp [packN_length, twos_length, two8, tgs_length]
      try omega
  · have hk : encOk 15 n a2 b r = true := ok
    simp [encOk, withinB] at hk
    have ho : repOk 15 0 a b.length [] [] = true := by
      simp [repOk, withinB, tgs_length]
      try omega
    rw [show doesB I 15 a n a2 b r = repB 15 0 a b.length [] [] from rfl, rep_row ho]
    refine ⟨_, rfl, ?_, ?_⟩
    all_goals
      simp [packN_length, twos_length, two8, tgs_length]
      try omega
  · have hk : encOk 16 n a2 b r = true := ok
    simp [encOk, withinB] at hk
    have ho : repOk 16 0 a r.length [] [] = true := by
      simp [repOk, withinB, tgs_length]
      try omega
    rw [show doesB I 16 a n a2 b r = repB 16 0 a r.length [] [] from rfl, rep_row ho]
    refine ⟨_, rfl, ?_, ?_⟩
    all_goals
      simp [packN_length, twos_length, two8, tgs_length]
      try omega
  · have hk : encOk 22 n a2 b r = true := ok
    simp [encOk, withinB] at hk
    have ho : repOk 22 0 a 0 [] r = true := by
      simp [repOk, withinB, tgs_length]
      try omega
    rw [show doesB I 22 a n a2 b r = repB 22 0 a 0 [] r from rfl, rep_row ho]
    refine ⟨_, rfl, ?_, ?_⟩
    all_goals
      simp [packN_length, twos_length, two8, tgs_length]
      try omega
  · have hk : encOk 23 n a2 b r = true := ok
    simp [encOk, withinB] at hk
    have ho : repOk 23 0 0 0 [] (tgs (tps I 23 a2 r).o 23 a n.toNat) = true := by
      simp [repOk, withinB, tgs_length]
      try omega
    rw [show doesB I 23 a n a2 b r = repB 23 0 0 0 [] (tgs (tps I 23 a2 r).o 23 a n.toNat) from rfl, rep_row ho]
    refine ⟨_, rfl, ?_, ?_⟩
    all_goals
      simp [packN_length, twos_length, two8, tgs_length]
      try omega
theorem excB_eq (l : List Int) (c : Int) : excB l c = [or128 (l.getD 0 0), c] := rfl
/-- what is told: a reply that begins with the function, or an exception, and then nothing has changed -/
theorem tells (I : Img) (l : List Int) (h0 : l ≠ []) (hl : l.length ≤ 1000) :
    (∃ t, serveB I l = l.getD 0 0 :: t ∧ 1 ≤ t.length ∧ t.length ≤ 252 ∧ knownB (l.getD 0 0) = true) ∨
    (∃ c, serveB I l = [or128 (l.getD 0 0), c] ∧ serveI I l = I ∧ (c = 1 ∨ c = 2 ∨ c = 3) ∧ (c == 1) = !knownB (l.getD 0 0)) := by
  unfold serveB serveI
  rw [if_neg h0, if_neg h0]
  by_cases hk : knownB (l.getD 0 0) = true
  · rw [if_pos hk, if_pos hk]
    by_cases he : (decS l).2 = 0
    · rw [if_pos he, if_pos he]
      obtain ⟨h1, h2⟩ := decS_ok l hl he
      by_cases ht : thereB (decS l).1.f (decS l).1.a (decS l).1.n (decS l).1.a2 (decS l).1.b (decS l).1.r = true
      · rw [if_pos ht, if_pos ht]
        left
        obtain ⟨t, k1, k2, k3⟩ := does_head I _ _ _ _ _ _ (by rw [h1]; exact hk) h2
        exact ⟨t, by rw [k1, h1], k2, k3, hk⟩
      · rw [if_neg ht, if_neg ht]
        exact .inr ⟨2, rfl, rfl, .inr (.inl rfl), by rw [hk]; rfl⟩
    · rw [if_neg he, if_neg he]
      exact .inr ⟨3, rfl, rfl, .inr (.inr rfl), by rw [hk]; rfl⟩
  · rw [if_neg hk, if_neg hk]
    exact .inr ⟨1, rfl, rfl, .inl rfl, by rw [Bool.not_eq_true] at hk; rw [hk]; rfl⟩
def and127 (x : Int) : Int := IntKind.u8.wrap ↑(BitVec.ofInt IntKind.u8.bits x &&& BitVec.ofInt IntKind.u8.bits 127).toNat
theorem or_and_fin : ∀ x : Fin 256, and127 (or128 (x.val : Int)) = and127 (x.val : Int) ∧ 128 ≤ or128 (x.val : Int) := by decide +kernel
theorem or_and (x : Int) (hx : 0 ≤ x ∧ x < 256) : and127 (or128 x) = and127 x ∧ 128 ≤ or128 x := by
  obtain ⟨n, rfl⟩ := Int.eq_ofNat_of_zero_le hx.1
  exact or_and_fin ⟨n, by omega⟩
end Go.Proofs.Ytomodeliimnddaa
set_option linter.unusedVariables false
set_option linter.unusedSimpArgs false
namespace Go.Proofs.Ytomodeliimnddaa
open Go.Ab
structure Rp where
  f : Int
  x : Int
  a : Int
  n : Int
  b : List Bool
  r : List Int
def rpA (q : Rp) : AV := repA q.f q.x q.a q.n (.roB q.b) (.roI .u16 q.r)
def Rp.zero : Rp := ⟨0, 0, 0, 0, [], []⟩
def finS (l : List Int) (r : Rp) : Rp × Int := if repE r.f r.x r.a r.n r.b r.r == 0 && repB r.f r.x r.a r.n r.b r.r == l then (r, 0) else (Rp.zero, 30)
def nB (n : Int) : Int := IntKind.i64.wrap ((IntKind.i64.wrap (IntKind.i64.wrap n + 7)).tdiv 8)
def orepT (q : Rq) (l : List Int) : Rp × Int :=
  if q.f == 1 then (if l.getD 0 0 != q.f || IntKind.i64.wrap (l.getD 1 0) != nB q.n || (l.length : Int) != IntKind.i64.wrap (nB q.n + 2) then (Rp.zero, 30) else (⟨q.f, 0, 0, 0, bitsA (cutF l 2) (bitsK (IntKind.i64.wrap q.n)), []⟩, 0))
  else if q.f == 2 then (if l.getD 0 0 != q.f || IntKind.i64.wrap (l.getD 1 0) != nB q.n || (l.length : Int) != IntKind.i64.wrap (nB q.n + 2) then (Rp.zero, 30) else (⟨q.f, 0, 0, 0, bitsA (cutF l 2) (bitsK (IntKind.i64.wrap q.n)), []⟩, 0))
  else if q.f == 3 then (if ((numsN (cutF l 2) ((cutF l 2).length / 2)).length : Int) != IntKind.i64.wrap q.n then (Rp.zero, 30) else finS l ⟨q.f, 0, 0, 0, [], numsN (cutF l 2) ((cutF l 2).length / 2)⟩)
  else if q.f == 4 then (if ((numsN (cutF l 2) ((cutF l 2).length / 2)).length : Int) != IntKind.i64.wrap q.n then (Rp.zero, 30) else finS l ⟨q.f, 0, 0, 0, [], numsN (cutF l 2) ((cutF l 2).length / 2)⟩)
  else if q.f == 23 then (if ((numsN (cutF l 2) ((cutF l 2).length / 2)).length : Int) != IntKind.i64.wrap q.n then (Rp.zero, 30) else finS l ⟨q.f, 0, 0, 0, [], numsN (cutF l 2) ((cutF l 2).length / 2)⟩)
  else if q.f == 5 then finS l ⟨q.f, 0, q.a, 0, q.b, q.r⟩
  else if q.f == 6 then finS l ⟨q.f, 0, q.a, 0, q.b, q.r⟩
  else if q.f == 22 then finS l ⟨q.f, 0, q.a, 0, q.b, q.r⟩
  else if q.f == 15 then finS l ⟨q.f, 0, q.a, IntKind.u16.wrap q.b.length, [], []⟩
  else if q.f == 16 then finS l ⟨q.f, 0, q.a, IntKind.u16.wrap q.r.length, [], []⟩
  else finS l ⟨q.f, 0, 0, 0, [], []⟩
def orepS (q : Rq) (l : List Int) : Rp × Int :=
  if encE q.f q.n q.a2 q.b q.r != 0 then (Rp.zero, 30)
  else if decide ((l.length : Int) < 2) then (Rp.zero, 30)
  else if l.getD 0 0 == or128 q.f then (if (l.length : Int) != 2 then (Rp.zero, 30) else if l.getD 1 0 == 0 then (Rp.zero, 30) else (⟨q.f, l.getD 1 0, 0, 0, [], []⟩, 0))
  else orepT q l

theorem finS_yes (l : List Int) (r : Rp) (h1 : (repE r.f r.x r.a r.n r.b r.r != 0) = false) (h2 : (!(repB r.f r.x r.a r.n r.b r.r == l)) = false) : finS l r = (r, 0) := by
  unfold finS
  rw [if_pos (by simp at h1 h2 ⊢; exact ⟨h1, h2⟩)]
theorem finS_no1 (l : List Int) (r : Rp) (h1 : (repE r.f r.x r.a r.n r.b r.r != 0) = true) : finS l r = (Rp.zero, 30) := by
  unfold finS
  rw [if_neg (by simp at h1 ⊢; intro h; exact absurd h h1)]
theorem finS_no2 (l : List Int) (r : Rp) (h2 : (!(repB r.f r.x r.a r.n r.b r.r == l)) = true) : finS l r = (Rp.zero, 30) := by
  unfold finS
  rw [if_neg (by simp at h2 ⊢; intro _; exact h2)]
set_option maxRecDepth 20000 in
set_option maxHeartbeats 4000000 in
theorem OpenReply_raw (f a n a2 : Int) (b : List Bool) (r : List Int) (l : List Int) (hn0 : 0 ≤ n) (hn1 : n < 65536) (hb : b.length ≤ 2500) (hr : r.length ≤ 200) (hl : l.length ≤ 1000) (hc : ((f == 5) = false ∧ (f == 6) = false ∧ (f == 22) = false) ∨ l.length < 2 ∨ (l.getD 0 0 == or128 f) = true) :
    Tr Try.prog 58 [reqA f a n a2 (.roB b) (.roI .u16 r), .roI .u8 l] ⟨0, []⟩ (FrzK (.tup [rpA (orepS ⟨f, a, n, a2, b, r⟩ l).1, .int .i64 (orepS ⟨f, a, n, a2, b, r⟩ l).2])) := by
  refine trF g58 b58 c58 ?_
  conv => whnf
  refine Ev.call (Request_ev f a n a2 b r hn0 hn1 hb (by omega)) ?_
  conv => whnf
  repeat' (first
    | (refine condY (by assumption) ?_; conv => whnf)
    | (refine condN (by assumption) ?_; conv => whnf)
    | (refine condT (by first | assumption | (simp; omega) | (simp_all; done) | (simp_all; omega)) ?_; conv => whnf)
    | (refine condF (fun h => ?_) (fun h => ?_) <;> conv => whnf)
    | (refine ⟨rfl, ?_⟩; conv => whnf)
    | (refine Ev.call (numbers_ev _ (by first | omega | (simp [cutF, numsN_length, bitsA_length]; done) | (simp [cutF, numsN_length, bitsA_length]; omega) | (simp_all; omega))) ?_; conv => whnf)
    | (refine Ev.call (bits_ev _ _ (by first | omega | (simp [cutF, numsN_length, bitsA_length]; done) | (simp [cutF, numsN_length, bitsA_length]; omega) | (simp_all; omega))) ?_; conv => whnf)
    | (refine Tr.le (leRepN (by first | exact Le.refl _ | exact Le.nilB) (by first | exact Le.refl _ | exact Le.nilI _)) (Ev.call (Reply_ev _ _ _ _ _ _ (by first | decide | exact (wrap16_range _).1) (by first | decide | exact (wrap16_range _).2) (by first | omega | (simp [cutF, numsN_length, bitsA_length]; done) | (simp [cutF, numsN_length, bitsA_length]; omega) | (simp_all; omega)) (by first | omega | (simp [cutF, numsN_length, bitsA_length]; done) | (simp [cutF, numsN_length, bitsA_length]; omega) | (simp_all; omega))) ?_); conv => whnf)
    | (refine Ev.call (equal8_ev _ _ (Nat.le_trans (repB_len _ _ _ _ _ _) (by omega))) ?_; conv => whnf)
    )
  all_goals (try simp only [show Int.toNat 0 = 0 from rfl, show Int.toNat 1 = 1 from rfl, show Int.toNat 2 = 2 from rfl] at *)
  all_goals first
    | (exfalso
       have hx : (l.getD 0 0 == or128 f) = false := by assumption
       rcases hc with ⟨k5, k6, k22⟩ | hc | hc
       · first
           | exact Bool.noConfusion (k5.symm.trans (show (f == 5) = true by assumption))
           | exact Bool.noConfusion (k6.symm.trans (show (f == 6) = true by assumption))
           | exact Bool.noConfusion (k22.symm.trans (show (f == 22) = true by assumption))
       · simp only [decide_eq_false_iff_not] at *; omega
       · rw [hx] at hc; cases hc)
    | skip
  all_goals (try have hx : (l.getD 0 0 == or128 f) = false := by assumption)
  all_goals (try have hx : (l.getD 0 0 == or128 f) = true := by assumption)
  all_goals (generalize ho : orepS ⟨f, a, n, a2, b, r⟩ l = o; simp only [orepS, orepT, cutF, nB, *, if_true, if_false, Bool.false_eq_true, Bool.or_false, Bool.false_or, Bool.true_or, Bool.or_true, Bool.and_true, Bool.true_and, Bool.false_and, Bool.and_false] at ho)
  all_goals (try (first | rw [finS_yes _ _ (by assumption) (by assumption)] at ho | rw [finS_no1 _ _ (by assumption)] at ho | rw [finS_no2 _ _ (by assumption)] at ho))
  all_goals (try (first | erw [if_pos h] at ho | erw [if_neg (fun e => Bool.noConfusion (e.symm.trans h))] at ho))
  all_goals subst ho
  all_goals first
    | exact FrzK.le (leRep rfl rfl rfl rfl (by first | exact Le.refl _ | exact Le.nilB) (by first | exact Le.refl _ | exact Le.nilI _) rfl)
theorem OpenReply_ev (f a n a2 : Int) (b : List Bool) (r : List Int) (l : List Int) (hn0 : 0 ≤ n) (hn1 : n < 65536) (hb : b.length ≤ 2500) (hr : r.length ≤ 200) (hl : l.length ≤ 1000) (hc : ((f == 5) = false ∧ (f == 6) = false ∧ (f == 22) = false) ∨ l.length < 2 ∨ (l.getD 0 0 == or128 f) = true) :
    Ev Try.prog 58 [reqA f a n a2 (.roB b) (.roI .u16 r), .roI .u8 l] (.tup [rpA (orepS ⟨f, a, n, a2, b, r⟩ l).1, .int .i64 (orepS ⟨f, a, n, a2, b, r⟩ l).2]) := FrzK.ev rfl (OpenReply_raw f a n a2 b r l hn0 hn1 hb hr hl hc)
end Go.Proofs.Ytomodeliimnddaa
set_option linter.unusedVariables false
set_option linter.unusedSimpArgs false
namespace Go.Proofs.Ytomodeliimnddaa
open Go.Ab
theorem again3_len (q : Rq) (l row : List Int) (e : Int) : (againS q l row e).length = row.length := by
  unfold againS
  split <;> simp
theorem row15_3len (a : Int) (b : List Bool) : (row15 15 a b).length = 6 + (b.length + 7) / 8 := by
  simp [row15, pre3, two8, packN_length]; omega
/-- how long a request is, told by its first bytes -/
def expl (l : List Int) : Int :=
  if l.getD 0 0 = 15 ∨ l.getD 0 0 = 16 then 6 + l.getD 5 0 else if l.getD 0 0 = 23 then 10 + l.getD 9 0 else if l.getD 0 0 = 22 then 7 else 5
theorem getD_app (l m : List Int) (k : Nat) (h : k < l.length) : (l ++ m).getD k 0 = l.getD k 0 := by
  simp [List.getD_eq_getElem?_getD, List.getElem?_append_left h]
theorem getD_take (l : List Int) (k i : Nat) (h : i < k) : (l.take k).getD i 0 = l.getD i 0 := by
  simp [List.getD_eq_getElem?_getD, List.getElem?_take, h]
theorem getD_out (l : List Int) (i : Nat) (h : l.length ≤ i) : l.getD i 0 = 0 := by
  simp [List.getD_eq_getElem?_getD, List.getElem?_eq_none h]
theorem encR_ne (f a n a2 : Int) (b : List Bool) (r : List Int) (h : encR f a n a2 b r ≠ []) : encOk f n a2 b r = true := by
  unfold encR at h
  by_cases hk : encOk f n a2 b r = true
  · exact hk
  · rw [if_neg hk] at h; exact absurd rfl h
theorem expl_enc (f a n a2 : Int) (b : List Bool) (r : List Int) (hk : encOk f n a2 b r = true) :
    ((encR f a n a2 b r).length : Int) = expl (encR f a n a2 b r) ∧ (encR f a n a2 b r).getD 0 0 = f ∧ 5 ≤ (encR f a n a2 b r).length ∧ (f = 15 → 7 ≤ (encR f a n a2 b r).length) ∧ (f = 16 → 8 ≤ (encR f a n a2 b r).length) ∧ (f = 23 → 12 ≤ (encR f a n a2 b r).length) := by
  unfold encR
  rw [if_pos hk]
  by_cases h1 : f = 1
  · subst h1; simp [encOk, withinB] at hk; simp [expl, reqS, pre3, two8, twos_length] <;> omega
  by_cases h2 : f = 2
  · subst h2; simp [encOk, withinB] at hk; simp [expl, reqS, pre3, two8, twos_length] <;> omega
  by_cases h3 : f = 3
  · subst h3; simp [encOk, withinB] at hk; simp [expl, reqS, pre3, two8, twos_length] <;> omega
  by_cases h4 : f = 4
  · subst h4; simp [encOk, withinB] at hk; simp [expl, reqS, pre3, two8, twos_length] <;> omega
  by_cases h5 : f = 5
  · subst h5; simp [encOk, withinB] at hk; simp [expl, reqS, pre3, two8, twos_length] <;> omega
  by_cases h6 : f = 6
  · subst h6; simp [encOk, withinB] at hk; simp [expl, reqS, pre3, two8, twos_length] <;> omega
  by_cases h22 : f = 22
  · subst h22; simp [encOk, withinB] at hk; simp [expl, reqS, pre3, two8, twos_length] <;> omega
  by_cases h15 : f = 15
  · subst h15
    simp [encOk, withinB] at hk
    have hw : IntKind.u8.wrap (((b.length + 7) / 8 : Nat) : Int) = (((b.length + 7) / 8 : Nat) : Int) := u8_in _ (by omega) (by omega)
    have e : (reqS 15 a n a2 b r).row = row15 15 a b := rfl
    rw [e]
    have h0 : (row15 15 a b).getD 0 0 = 15 := rfl
    have hl := row15_3len a b
    refine ⟨?_, h0, by omega, fun _ => by omega, fun h => by omega, fun h => by omega⟩
    unfold expl
    rw [if_pos (.inl h0), show (row15 15 a b).getD 5 0 = IntKind.u8.wrap (((b.length + 7) / 8 : Nat) : Int) from rfl, hw, hl]
    omega
  by_cases h16 : f = 16
  · subst h16
    simp [encOk, withinB] at hk
    have hw : IntKind.u8.wrap (IntKind.i64.wrap (2 * r.length)) = 2 * r.length := by rw [IntWalk.i64_in _ (by omega), u8_in _ (by omega) (by omega)]
    have e : (reqS 16 a n a2 b r).row = rowR (pre3 16 a) r := rfl
    rw [e]
    have h0 : (rowR (pre3 16 a) r).getD 0 0 = 16 := rfl
    have hl : (rowR (pre3 16 a) r).length = 6 + 2 * r.length := by simp [rowR, pre3, two8, twos_length]; omega
    refine ⟨?_, h0, by omega, fun h => by omega, fun _ => by omega, fun h => by omega⟩
    unfold expl
    rw [if_pos (.inr h0), show (rowR (pre3 16 a) r).getD 5 0 = IntKind.u8.wrap (IntKind.i64.wrap (2 * r.length)) from rfl, hw, hl]
    omega
  by_cases h23 : f = 23
  · subst h23
    simp [encOk, withinB] at hk
    have hw : IntKind.u8.wrap (IntKind.i64.wrap (2 * r.length)) = 2 * r.length := by rw [IntWalk.i64_in _ (by omega), u8_in _ (by omega) (by omega)]
    have e : (reqS 23 a n a2 b r).row = rowR (pre3 23 a ++ two8 n ++ two8 a2) r := rfl
    rw [e]
    have h0 : (rowR (pre3 23 a ++ two8 n ++ two8 a2) r).getD 0 0 = 23 := rfl
    have hl : (rowR (pre3 23 a ++ two8 n ++ two8 a2) r).length = 10 + 2 * r.length := by simp [rowR, pre3, two8, twos_length]; omega
    refine ⟨?_, h0, by omega, fun h => by omega, fun h => by omega, fun _ => by omega⟩
    unfold expl
    rw [if_neg (by rw [h0]; omega), if_pos h0, show (rowR (pre3 23 a ++ two8 n ++ two8 a2) r).getD 9 0 = IntKind.u8.wrap (IntKind.i64.wrap (2 * r.length)) from rfl, hw, hl]
    omega
  simp [encOk, *] at hk
theorem expl_dec (l : List Int) (h : (decS l).2 ≠ 30) : (l.length : Int) = expl l ∧ 5 ≤ l.length ∧ (l.getD 0 0 = 15 → 7 ≤ l.length) ∧ (l.getD 0 0 = 16 → 8 ≤ l.length) ∧ (l.getD 0 0 = 23 → 12 ≤ l.length) := by
  unfold decS at h
  split at h
  · rename_i ho
    split at h
    · rename_i hc
      simp only [Bool.and_eq_true, beq_iff_eq] at hc
      obtain ⟨he, ha⟩ := hc
      generalize hq : (openedS l).1 = q at *
      have hk : encOk q.f q.n q.a2 q.b q.r = true := by
        by_cases hk : encOk q.f q.n q.a2 q.b q.r = true
        · exact hk
        · unfold encE at he; rw [if_neg hk] at he; omega
      obtain ⟨h1, h2, h3, h4, h5, h6⟩ := expl_enc q.f q.a q.n q.a2 q.b q.r hk
      have hl : l.length = (encR q.f q.a q.n q.a2 q.b q.r).length := by
        have := again3_len q l (encR q.f q.a q.n q.a2 q.b q.r) (encE q.f q.n q.a2 q.b q.r)
        rw [ha] at this; exact this
      have hget : ∀ k, k + 1 < l.length → l.getD k 0 = (encR q.f q.a q.n q.a2 q.b q.r).getD k 0 := by
        intro k hk
        have : l.getD k 0 = (againS q l (encR q.f q.a q.n q.a2 q.b q.r) (encE q.f q.n q.a2 q.b q.r)).getD k 0 := by rw [ha]
        rw [this]
        unfold againS
        split
        · rw [List.getD_eq_getElem?_getD, List.getElem?_set, if_neg (by omega), ← List.getD_eq_getElem?_getD]
        · rfl
      have g0 := hget 0 (by omega)
      rw [h2] at g0
      refine ⟨?_, by omega, fun h => ?_, fun h => ?_, fun h => ?_⟩
      · rw [hl, h1]
        unfold expl
        rw [g0, h2]
        by_cases k1 : q.f = 15 ∨ q.f = 16
        · have : 7 ≤ l.length := by rcases k1 with k | k; have := h4 k; omega; have := h5 k; omega
          rw [if_pos k1, if_pos k1, hget 5 (by omega)]
        · rw [if_neg k1, if_neg k1]
          by_cases k2 : q.f = 23
          · have := h6 k2
            rw [if_pos k2, if_pos k2, hget 9 (by omega)]
          · rw [if_neg k2, if_neg k2]
      · have := h4 (by rw [← g0]; exact h); omega
      · have := h5 (by rw [← g0]; exact h); omega
      · have := h6 (by rw [← g0]; exact h); omega
    · exact absurd rfl h
  · exact absurd rfl h
theorem short_no (f a n a2 : Int) (b : List Bool) (r : List Int) (hk : encOk f n a2 b r = true) (k : Nat) (h : k < (encR f a n a2 b r).length) (h0 : isB (encR f a n a2 b r)) : (decS ((encR f a n a2 b r).take k)).2 = 30 := by
  obtain ⟨h1, h2, h3, h4, h5, h6⟩ := expl_enc f a n a2 b r hk
  generalize encR f a n a2 b r = l at *
  by_cases hd : (decS (l.take k)).2 = 30
  · exact hd
  obtain ⟨g1, g2, g3, g4, g5⟩ := expl_dec _ hd
  have hlen : (l.take k).length = k := by simp; omega
  rw [hlen] at g1 g2 g3 g4 g5
  have e0 : (l.take k).getD 0 0 = f := by rw [getD_take l k 0 (by omega), h2]
  rw [e0] at g3 g4 g5
  unfold expl at g1 h1
  rw [e0] at g1
  rw [h2] at h1
  by_cases k1 : f = 15 ∨ f = 16
  · have : 6 < k := by rcases k1 with k | k; have := g3 k; omega; have := g4 k; omega
    rw [if_pos k1] at g1 h1
    rw [getD_take l k 5 (by omega)] at g1
    omega
  · rw [if_neg k1] at g1 h1
    by_cases k2 : f = 23
    · have := g5 k2
      rw [if_pos k2] at g1 h1
      rw [getD_take l k 9 (by omega)] at g1
      omega
    · rw [if_neg k2] at g1 h1
      omega
theorem more_no (f a n a2 : Int) (b : List Bool) (r m : List Int) (hk : encOk f n a2 b r = true) (hm : m ≠ []) : (decS (encR f a n a2 b r ++ m)).2 = 30 := by
  obtain ⟨h1, h2, h3, h4, h5, h6⟩ := expl_enc f a n a2 b r hk
  generalize encR f a n a2 b r = l at *
  by_cases hd : (decS (l ++ m)).2 = 30
  · exact hd
  obtain ⟨g1, _⟩ := expl_dec _ hd
  have hlen : (l ++ m).length = l.length + m.length := by simp
  have hm' : 0 < m.length := List.length_pos_iff.2 hm
  have e0 : (l ++ m).getD 0 0 = f := by rw [getD_app l m 0 (by omega), h2]
  unfold expl at g1 h1
  rw [e0, hlen] at g1
  rw [h2] at h1
  by_cases k1 : f = 15 ∨ f = 16
  · have : 6 < l.length := by rcases k1 with k | k; have := h4 k; omega; have := h5 k; omega
    rw [if_pos k1] at g1 h1
    rw [getD_app l m 5 (by omega)] at g1
    omega
  · rw [if_neg k1] at g1 h1
    by_cases k2 : f = 23
    · have := h6 k2
      rw [if_pos k2] at g1 h1
      rw [getD_app l m 9 (by omega)] at g1
      omega
    · rw [if_neg k2] at g1 h1
      omega
end Go.Proofs.Ytomodeliimnddaa
set_option linter.unusedVariables false
set_option linter.unusedSimpArgs false
namespace Go.Proofs.Ytomodeliimnddaa
open Go.Ab
/- rung/rungref3.same -/
def a123 : ACode := (.seq (.reg [⟨(some 4), .mov (.c (.bool false)), none, false⟩])
 (.seq (.reg [⟨(some 5), .mov (.t 0), none, false⟩, ⟨(some 6), .conv .toStr (.t 5), none, false⟩, ⟨(some 7), .mov (.t 1), none, false⟩, ⟨(some 8), .conv .toStr (.t 7), none, false⟩, ⟨(some 9), .bin .eql .other (.t 6) (.t 8), none, false⟩, ⟨(some 4), .mov (.t 9), none, false⟩])
 .ret))
def r123 : List ARes := [.t 4]
theorem c123 : compF Try.prog Try.f123 = some (a123, r123) := by kernel_rfl

/- rung/rungref3.OpenReply -/
def a59 : ACode := (.seq (.reg [⟨(some 2), .box (.t 0), none, false⟩, ⟨(some 4), .alloc [(2, (.int .u8 0)), (2, (.int .u16 0)), (2, .nils)], none, false⟩, ⟨(some 5), .mov (.c (.int .i64 0)), none, false⟩])
 (.seq (.reg [⟨(some 10), .load true 6 (.t 2), none, false⟩, ⟨(some 11), .call 49 [(.t 10)], none, false⟩, ⟨(some 9), .mov (.t 11), none, false⟩, ⟨(some 12), .ext (.t 9) 0, none, false⟩, ⟨(some 13), .ext (.t 9) 1, none, false⟩, ⟨(some 6), .mov (.t 12), none, false⟩, ⟨(some 7), .mov (.t 13), none, false⟩])
 (.seq (.seq (.reg [⟨(some 14), .mov (.t 7), none, false⟩, ⟨(some 15), .bin .neq .other (.t 14) (.c (.int .i64 0)), none, false⟩, ⟨(some 16), .mov (.t 15), none, true⟩, ⟨(some 17), .mov (.t 1), (some (16, false)), false⟩, ⟨(some 18), .len false (.t 17), (some (16, false)), false⟩, ⟨(some 19), .bin .lss .other (.t 18) (.c (.int .i64 2)), (some (16, false)), false⟩, ⟨(some 20), .pick (.t 16) (.c (.bool true)) (.t 19), none, false⟩])
 (.cond (.t 20) (.seq (.reg [⟨(some 21), .build [(.int .u8 0), (.int .u8 0), (.int .u16 0), (.int .u16 0), .nils, .nils] [], none, false⟩, ⟨none, .store 6 (.t 4) (.t 21), none, false⟩, ⟨(some 5), .mov (.c (.int .i64 30)), none, false⟩])
 .ret)
 .skip))
 (.seq (.seq (.draw [⟨0, ⟨(some 22), .mov (.t 1), none, false⟩, false, [], []⟩, ⟨1, ⟨(some 23), .idx 1 none false (.t 22) (.c (.int .i64 0)), none, false⟩, false, [], []⟩, ⟨2, ⟨(some 24), .load false 1 (.t 23), none, false⟩, false, [], []⟩, ⟨3, ⟨(some 25), .fld 0 1 false (.t 2), none, false⟩, false, [], []⟩, ⟨4, ⟨(some 26), .load false 1 (.t 25), none, false⟩, false, [], []⟩, ⟨5, ⟨(some 27), .bin .or .other (.t 26) (.c (.int .u8 128)), none, false⟩, false, [], []⟩, ⟨6, ⟨(some 28), .bin .eql .other (.t 24) (.t 27), none, false⟩, false, [], []⟩])
 (.cond (.t 28) (.seq (.seq (.reg [⟨(some 29), .mov (.t 1), none, false⟩, ⟨(some 30), .len false (.t 29), none, false⟩, ⟨(some 31), .bin .neq .other (.t 30) (.c (.int .i64 2)), none, false⟩, ⟨(some 32), .mov (.t 31), none, true⟩, ⟨(some 33), .mov (.t 1), (some (32, false)), false⟩, ⟨(some 34), .idx 1 none false (.t 33) (.c (.int .i64 1)), (some (32, false)), false⟩, ⟨(some 35), .load false 1 (.t 34), (some (32, false)), false⟩, ⟨(some 36), .bin .eql .other (.t 35) (.c (.int .u8 0)), (some (32, false)), false⟩, ⟨(some 37), .pick (.t 32) (.c (.bool true)) (.t 36), none, false⟩])
 (.cond (.t 37) (.seq (.reg [⟨(some 38), .build [(.int .u8 0), (.int .u8 0), (.int .u16 0), (.int .u16 0), .nils, .nils] [], none, false⟩, ⟨none, .store 6 (.t 4) (.t 38), none, false⟩, ⟨(some 5), .mov (.c (.int .i64 30)), none, false⟩])
 .ret)
 .skip))
 (.seq (.draw [⟨0, ⟨(some 39), .fld 0 1 false (.t 2), none, false⟩, false, [], []⟩, ⟨1, ⟨(some 40), .load false 1 (.t 39), none, false⟩, false, [], []⟩, ⟨2, ⟨(some 41), .mov (.t 1), none, false⟩, false, [], []⟩, ⟨3, ⟨(some 42), .idx 1 none false (.t 41) (.c (.int .i64 1)), none, false⟩, false, [], []⟩, ⟨4, ⟨(some 43), .load false 1 (.t 42), none, false⟩, false, [], []⟩, ⟨5, ⟨(some 44), .build [(.int .u8 0), (.int .u8 0), (.int .u16 0), (.int .u16 0), .nils, .nils] [(0, 1, (.t 40)), (1, 1, (.t 43))], none, false⟩, false, [], []⟩, ⟨6, ⟨none, .store 6 (.t 4) (.t 44), none, false⟩, true, [], []⟩, ⟨7, ⟨(some 5), .mov (.c (.int .i64 0)), none, false⟩, false, [], []⟩])
 .ret))
 .skip))
 (.seq (.seq (.draw [⟨0, ⟨(some 45), .mov (.t 1), none, false⟩, false, [], []⟩, ⟨1, ⟨(some 46), .idx 1 none false (.t 45) (.c (.int .i64 0)), none, false⟩, false, [], []⟩, ⟨2, ⟨(some 47), .load false 1 (.t 46), none, false⟩, false, [], []⟩, ⟨3, ⟨(some 48), .fld 0 1 false (.t 2), none, false⟩, false, [], []⟩, ⟨4, ⟨(some 49), .load false 1 (.t 48), none, false⟩, false, [], []⟩, ⟨5, ⟨(some 50), .bin .neq .other (.t 47) (.t 49), none, false⟩, false, [], []⟩])
 (.cond (.t 50) (.seq (.reg [⟨(some 51), .build [(.int .u8 0), (.int .u8 0), (.int .u16 0), (.int .u16 0), .nils, .nils] [], none, false⟩, ⟨none, .store 6 (.t 4) (.t 51), none, false⟩, ⟨(some 5), .mov (.c (.int .i64 30)), none, false⟩])
 .ret)
 .skip))
 (.seq (.reg [⟨(some 52), .fld 0 1 false (.t 2), none, false⟩, ⟨(some 53), .load false 1 (.t 52), none, false⟩, ⟨(some 54), .build [(.int .u8 0), (.int .u8 0), (.int .u16 0), (.int .u16 0), .nils, .nils] [(0, 1, (.t 53))], none, false⟩, ⟨(some 8), .alloc [(2, (.int .u8 0)), (2, (.int .u16 0)), (2, .nils)], none, false⟩, ⟨none, .store 6 (.t 8) (.t 54), none, false⟩])
 (.seq (.seq (.reg [⟨(some 55), .fld 0 1 false (.t 2), none, false⟩, ⟨(some 56), .load false 1 (.t 55), none, false⟩])
 (.block 0 (.seq (.seq (.reg [⟨(some 70), .bin .eql .other (.t 56) (.c (.int .u8 1)), none, false⟩, ⟨(some 69), .mov (.t 70), none, false⟩])
 (.cond (.t 69) .skip
 (.reg [⟨(some 71), .bin .eql .other (.t 56) (.c (.int .u8 2)), none, false⟩, ⟨(some 69), .mov (.t 71), none, false⟩])))
 (.cond (.t 69) (.seq (.seq (.draw [⟨0, ⟨(some 72), .mov (.t 1), none, false⟩, false, [], []⟩, ⟨1, ⟨(some 73), .idx 1 none false (.t 72) (.c (.int .i64 1)), none, false⟩, false, [], []⟩, ⟨2, ⟨(some 74), .load false 1 (.t 73), none, false⟩, false, [], []⟩, ⟨3, ⟨(some 75), .conv (.int .i64) (.t 74), none, false⟩, false, [], []⟩, ⟨4, ⟨(some 76), .fld 2 1 false (.t 2), none, false⟩, false, [], []⟩, ⟨5, ⟨(some 77), .load false 1 (.t 76), none, false⟩, false, [], []⟩, ⟨6, ⟨(some 78), .conv (.int .i64) (.t 77), none, false⟩, false, [], []⟩, ⟨7, ⟨(some 79), .bin .add .other (.t 78) (.c (.int .i64 7)), none, false⟩, false, [], []⟩, ⟨8, ⟨(some 80), .bin .quo .other (.t 79) (.c (.int .i64 8)), none, false⟩, false, [], []⟩, ⟨9, ⟨(some 81), .bin .neq .other (.t 75) (.t 80), none, false⟩, false, [], []⟩, ⟨10, ⟨(some 82), .mov (.t 81), none, true⟩, false, [], []⟩, ⟨11, ⟨(some 83), .mov (.t 1), (some (82, false)), false⟩, false, [], []⟩, ⟨12, ⟨(some 84), .len false (.t 83), (some (82, false)), false⟩, false, [], []⟩, ⟨13, ⟨(some 85), .mov (.t 1), (some (82, false)), false⟩, false, [], []⟩, ⟨14, ⟨(some 86), .idx 1 none false (.t 85) (.c (.int .i64 1)), (some (82, false)), false⟩, false, [], []⟩, ⟨15, ⟨(some 87), .load false 1 (.t 86), (some (82, false)), false⟩, false, [], []⟩, ⟨16, ⟨(some 88), .conv (.int .i64) (.t 87), (some (82, false)), false⟩, false, [], []⟩, ⟨17, ⟨(some 89), .bin .add .other (.c (.int .i64 2)) (.t 88), (some (82, false)), false⟩, false, [], []⟩, ⟨18, ⟨(some 90), .bin .neq .other (.t 84) (.t 89), (some (82, false)), false⟩, false, [], []⟩, ⟨19, ⟨(some 91), .pick (.t 82) (.c (.bool true)) (.t 90), none, false⟩, false, [], []⟩])
 (.cond (.t 91) (.seq (.reg [⟨(some 92), .build [(.int .u8 0), (.int .u8 0), (.int .u16 0), (.int .u16 0), .nils, .nils] [], none, false⟩, ⟨none, .store 6 (.t 4) (.t 92), none, false⟩, ⟨(some 5), .mov (.c (.int .i64 30)), none, false⟩])
 .ret)
 .skip))
 (.draw [⟨0, ⟨(some 93), .mov (.t 1), none, false⟩, false, [], []⟩, ⟨1, ⟨(some 94), .slice (.sl 1) (.t 93) (some (.c (.int .i64 2))) none, none, false⟩, false, [], []⟩, ⟨2, ⟨(some 95), .fld 2 1 false (.t 2), none, false⟩, false, [], []⟩, ⟨3, ⟨(some 96), .load false 1 (.t 95), none, false⟩, false, [], []⟩, ⟨4, ⟨(some 97), .conv (.int .i64) (.t 96), none, false⟩, false, [], []⟩, ⟨5, ⟨(some 98), .call 67 [(.t 94), (.t 97)], none, false⟩, true, [], []⟩, ⟨6, ⟨(some 99), .fld 4 1 false (.t 8), none, false⟩, false, [], []⟩, ⟨7, ⟨none, .store 1 (.t 99) (.t 98), none, false⟩, true, [], []⟩]))
 (.seq (.seq (.reg [⟨(some 101), .bin .eql .other (.t 56) (.c (.int .u8 3)), none, false⟩, ⟨(some 100), .mov (.t 101), none, false⟩])
 (.cond (.t 100) .skip
 (.seq (.reg [⟨(some 102), .bin .eql .other (.t 56) (.c (.int .u8 4)), none, false⟩, ⟨(some 100), .mov (.t 102), none, false⟩])
 (.cond (.t 100) .skip
 (.reg [⟨(some 103), .bin .eql .other (.t 56) (.c (.int .u8 23)), none, false⟩, ⟨(some 100), .mov (.t 103), none, false⟩])))))
 (.cond (.t 100) (.seq (.seq (.draw [⟨0, ⟨(some 104), .mov (.t 1), none, false⟩, false, [], []⟩, ⟨1, ⟨(some 105), .idx 1 none false (.t 104) (.c (.int .i64 1)), none, false⟩, false, [], []⟩, ⟨2, ⟨(some 106), .load false 1 (.t 105), none, false⟩, false, [], []⟩, ⟨3, ⟨(some 107), .conv (.int .i64) (.t 106), none, false⟩, false, [], []⟩, ⟨4, ⟨(some 108), .fld 2 1 false (.t 2), none, false⟩, false, [], []⟩, ⟨5, ⟨(some 109), .load false 1 (.t 108), none, false⟩, false, [], []⟩, ⟨6, ⟨(some 110), .conv (.int .i64) (.t 109), none, false⟩, false, [], []⟩, ⟨7, ⟨(some 111), .bin .mul .other (.c (.int .i64 2)) (.t 110), none, false⟩, false, [], []⟩, ⟨8, ⟨(some 112), .bin .neq .other (.t 107) (.t 111), none, false⟩, false, [], []⟩, ⟨9, ⟨(some 113), .mov (.t 112), none, true⟩, false, [], []⟩, ⟨10, ⟨(some 114), .mov (.t 1), (some (113, false)), false⟩, false, [], []⟩, ⟨11, ⟨(some 115), .len false (.t 114), (some (113, false)), false⟩, false, [], []⟩, ⟨12, ⟨(some 116), .mov (.t 1), (some (113, false)), false⟩, false, [], []⟩, ⟨13, ⟨(some 117), .idx 1 none false (.t 116) (.c (.int .i64 1)), (some (113, false)), false⟩, false, [], []⟩, ⟨14, ⟨(some 118), .load false 1 (.t 117), (some (113, false)), false⟩, false, [], []⟩, ⟨15, ⟨(some 119), .conv (.int .i64) (.t 118), (some (113, false)), false⟩, false, [], []⟩, ⟨16, ⟨(some 120), .bin .add .other (.c (.int .i64 2)) (.t 119), (some (113, false)), false⟩, false, [], []⟩, ⟨17, ⟨(some 121), .bin .neq .other (.t 115) (.t 120), (some (113, false)), false⟩, false, [], []⟩, ⟨18, ⟨(some 122), .pick (.t 113) (.c (.bool true)) (.t 121), none, false⟩, false, [], []⟩])
 (.cond (.t 122) (.seq (.reg [⟨(some 123), .build [(.int .u8 0), (.int .u8 0), (.int .u16 0), (.int .u16 0), .nils, .nils] [], none, false⟩, ⟨none, .store 6 (.t 4) (.t 123), none, false⟩, ⟨(some 5), .mov (.c (.int .i64 30)), none, false⟩])
 .ret)
 .skip))
 (.reg [⟨(some 124), .mov (.t 1), none, false⟩, ⟨(some 125), .slice (.sl 1) (.t 124) (some (.c (.int .i64 2))) none, none, false⟩, ⟨(some 126), .call 117 [(.t 125)], none, false⟩, ⟨(some 127), .fld 5 1 false (.t 8), none, false⟩, ⟨none, .store 1 (.t 127) (.t 126), none, false⟩]))
 (.seq (.seq (.reg [⟨(some 129), .bin .eql .other (.t 56) (.c (.int .u8 5)), none, false⟩, ⟨(some 128), .mov (.t 129), none, false⟩])
 (.cond (.t 128) .skip
 (.seq (.reg [⟨(some 130), .bin .eql .other (.t 56) (.c (.int .u8 6)), none, false⟩, ⟨(some 128), .mov (.t 130), none, false⟩])
 (.cond (.t 128) .skip
 (.reg [⟨(some 131), .bin .eql .other (.t 56) (.c (.int .u8 22)), none, false⟩, ⟨(some 128), .mov (.t 131), none, false⟩])))))
 (.cond (.t 128) (.seq (.seq (.reg [⟨(some 132), .mov (.t 1), none, false⟩, ⟨(some 133), .mov (.t 6), none, false⟩, ⟨(some 134), .call 123 [(.t 132), (.t 133)], none, false⟩, ⟨(some 135), .un .not (.t 134), none, false⟩])
 (.cond (.t 135) (.seq (.reg [⟨(some 136), .build [(.int .u8 0), (.int .u8 0), (.int .u16 0), (.int .u16 0), .nils, .nils] [], none, false⟩, ⟨none, .store 6 (.t 4) (.t 136), none, false⟩, ⟨(some 5), .mov (.c (.int .i64 30)), none, false⟩])
 .ret)
 .skip))
 (.draw [⟨0, ⟨(some 137), .fld 1 1 false (.t 2), none, false⟩, false, [], []⟩, ⟨1, ⟨(some 138), .load false 1 (.t 137), none, false⟩, false, [], []⟩, ⟨2, ⟨(some 139), .fld 4 1 false (.t 2), none, false⟩, false, [], []⟩, ⟨3, ⟨(some 140), .load false 1 (.t 139), none, false⟩, false, [], []⟩, ⟨4, ⟨(some 141), .fld 5 1 false (.t 2), none, false⟩, false, [], []⟩, ⟨5, ⟨(some 142), .load false 1 (.t 141), none, false⟩, false, [], []⟩, ⟨6, ⟨(some 143), .fld 2 1 false (.t 8), none, false⟩, false, [], []⟩, ⟨7, ⟨none, .store 1 (.t 143) (.t 138), none, false⟩, true, [], [(.t 139), (.t 141)]⟩, ⟨8, ⟨(some 144), .fld 4 1 false (.t 8), none, false⟩, false, [], []⟩, ⟨9, ⟨none, .store 1 (.t 144) (.t 140), none, false⟩, true, [], [(.t 141)]⟩, ⟨10, ⟨(some 145), .fld 5 1 false (.t 8), none, false⟩, false, [], []⟩, ⟨11, ⟨none, .store 1 (.t 145) (.t 142), none, false⟩, true, [], []⟩]))
 (.seq (.seq (.reg [⟨(some 57), .mov (.t 1), none, false⟩, ⟨(some 58), .mov (.t 6), none, false⟩, ⟨(some 59), .slice (.sl 1) (.t 58) none (some (.c (.int .i64 5))), none, false⟩, ⟨(some 60), .call 123 [(.t 57), (.t 59)], none, false⟩, ⟨(some 61), .un .not (.t 60), none, false⟩])
 (.cond (.t 61) (.seq (.reg [⟨(some 62), .build [(.int .u8 0), (.int .u8 0), (.int .u16 0), (.int .u16 0), .nils, .nils] [], none, false⟩, ⟨none, .store 6 (.t 4) (.t 62), none, false⟩, ⟨(some 5), .mov (.c (.int .i64 30)), none, false⟩])
 .ret)
 .skip))
 (.draw [⟨0, ⟨(some 63), .fld 1 1 false (.t 2), none, false⟩, false, [], []⟩, ⟨1, ⟨(some 64), .load false 1 (.t 63), none, false⟩, false, [], []⟩, ⟨2, ⟨(some 65), .mov (.t 1), none, false⟩, false, [], []⟩, ⟨4, ⟨(some 67), .fld 2 1 false (.t 8), none, false⟩, false, [], []⟩, ⟨3, ⟨(some 66), .call 116 [(.t 65), (.c (.int .i64 3))], none, false⟩, true, [], [(.t 63)]⟩, ⟨5, ⟨none, .store 1 (.t 67) (.t 64), none, false⟩, true, [], []⟩, ⟨6, ⟨(some 68), .fld 3 1 false (.t 8), none, false⟩, false, [], []⟩, ⟨7, ⟨none, .store 1 (.t 68) (.t 66), none, false⟩, true, [], []⟩]))))))))))
 (.seq (.reg [⟨(some 146), .load true 6 (.t 8), none, false⟩, ⟨none, .store 6 (.t 4) (.t 146), none, false⟩, ⟨(some 5), .mov (.c (.int .i64 0)), none, false⟩])
 .ret))))))))
def r59 : List ARes := [.cell 4 true 6, .t 5]
theorem c59 : compF Try.prog Try.f59 = some (a59, r59) := by kernel_rfl


theorem b123 : hasBody Try.prog 123 = true := by kernel_rfl
theorem g123 : Try.prog.funcs[123]? = some Try.f123 := by kernel_rfl
theorem b59 : hasBody Try.prog 59 = true := by kernel_rfl
theorem g59 : Try.prog.funcs[59]? = some Try.f59 := by kernel_rfl
theorem rsame_ev (l m : List Int) (hl : isB l) (hm : isB m) : Ev Try.prog 123 [.roI .u8 l, .roI .u8 m] (.bool (l == m)) := by
  refine FrzK.ev rfl (trF g123 b123 c123 ?_)
  conv => whnf
  refine FrzK.le (leBool ?_)
  have e : ((bytesStr l).toList == (bytesStr m).toList) = (l == m) := by
    rw [ByteArray.toList_eq, ByteArray.toList_eq, Bool.eq_iff_iff]
    simp only [beq_iff_eq]
    exact ⟨fun h => map_inj l m hl hm h, fun h => by rw [h]⟩
  exact e
def rorepT (q : Rq) (l asked : List Int) : Rp × Int :=
  if q.f == 1 then (if IntKind.i64.wrap (l.getD 1 0) != nB q.n || (l.length : Int) != IntKind.i64.wrap (2 + IntKind.i64.wrap (l.getD 1 0)) then (Rp.zero, 30) else (⟨q.f, 0, 0, 0, bitsA (cutF l 2) (bitsK (IntKind.i64.wrap q.n)), []⟩, 0))
  else if q.f == 2 then (if IntKind.i64.wrap (l.getD 1 0) != nB q.n || (l.length : Int) != IntKind.i64.wrap (2 + IntKind.i64.wrap (l.getD 1 0)) then (Rp.zero, 30) else (⟨q.f, 0, 0, 0, bitsA (cutF l 2) (bitsK (IntKind.i64.wrap q.n)), []⟩, 0))
  else if q.f == 3 then (if IntKind.i64.wrap (l.getD 1 0) != IntKind.i64.wrap (2 * IntKind.i64.wrap q.n) || (l.length : Int) != IntKind.i64.wrap (2 + IntKind.i64.wrap (l.getD 1 0)) then (Rp.zero, 30) else (⟨q.f, 0, 0, 0, [], numsN (cutF l 2) ((cutF l 2).length / 2)⟩, 0))
  else if q.f == 4 then (if IntKind.i64.wrap (l.getD 1 0) != IntKind.i64.wrap (2 * IntKind.i64.wrap q.n) || (l.length : Int) != IntKind.i64.wrap (2 + IntKind.i64.wrap (l.getD 1 0)) then (Rp.zero, 30) else (⟨q.f, 0, 0, 0, [], numsN (cutF l 2) ((cutF l 2).length / 2)⟩, 0))
  else if q.f == 23 then (if IntKind.i64.wrap (l.getD 1 0) != IntKind.i64.wrap (2 * IntKind.i64.wrap q.n) || (l.length : Int) != IntKind.i64.wrap (2 + IntKind.i64.wrap (l.getD 1 0)) then (Rp.zero, 30) else (⟨q.f, 0, 0, 0, [], numsN (cutF l 2) ((cutF l 2).length / 2)⟩, 0))
  else if q.f == 5 then (if !(l == asked) then (Rp.zero, 30) else (⟨q.f, 0, q.a, 0, q.b, q.r⟩, 0))
  else if q.f == 6 then (if !(l == asked) then (Rp.zero, 30) else (⟨q.f, 0, q.a, 0, q.b, q.r⟩, 0))
  else if q.f == 22 then (if !(l == asked) then (Rp.zero, 30) else (⟨q.f, 0, q.a, 0, q.b, q.r⟩, 0))
  else (if !(l == asked.take 5) then (Rp.zero, 30) else (⟨q.f, 0, q.a, numAt l 3, [], []⟩, 0))
def rorepA (q : Rq) (l asked : List Int) (e : Int) : Rp × Int :=
  if e != 0 then (Rp.zero, 30)
  else if decide ((l.length : Int) < 2) then (Rp.zero, 30)
  else if l.getD 0 0 == or128 q.f then (if (l.length : Int) != 2 then (Rp.zero, 30) else if l.getD 1 0 == 0 then (Rp.zero, 30) else (⟨q.f, l.getD 1 0, 0, 0, [], []⟩, 0))
  else if l.getD 0 0 != q.f then (Rp.zero, 30)
  else rorepT q l asked
def rorepS (q : Rq) (l : List Int) : Rp × Int := rorepA q l (encR q.f q.a q.n q.a2 q.b q.r) (encE q.f q.n q.a2 q.b q.r)
theorem enc5 (f a n a2 : Int) (b : List Bool) (r : List Int) (h : encE f n a2 b r = 0) : 5 ≤ (encR f a n a2 b r).length := by
  have hk : encOk f n a2 b r = true := by
    by_cases hk : encOk f n a2 b r = true
    · exact hk
    · unfold encE at h; rw [if_neg hk] at h; omega
  exact (expl_enc f a n a2 b r hk).2.2.1
set_option maxRecDepth 20000 in
set_option maxHeartbeats 4000000 in
theorem rOpenReply_raw (f a n a2 : Int) (b : List Bool) (r : List Int) (l : List Int) (hf : 0 ≤ f ∧ f < 256) (hn0 : 0 ≤ n) (hn1 : n < 65536) (hb : b.length ≤ 2500) (hr : r.length ≤ 200) (hl : l.length ≤ 1000) (hB : isB l) :
    Tr Try.prog 59 [reqA f a n a2 (.roB b) (.roI .u16 r), .roI .u8 l] ⟨0, []⟩ (FrzK (.tup [rpA (rorepS ⟨f, a, n, a2, b, r⟩ l).1, .int .i64 (rorepS ⟨f, a, n, a2, b, r⟩ l).2])) := by
  have hAB := enc_byte f a n a2 b r hf.1 hf.2
  have hA5 := enc5 f a n a2 b r
  refine trF g59 b59 c59 ?_
  conv => whnf
  refine Ev.call (rRequest_ev f a n a2 b r hn0 hn1 hb (by omega)) ?_
  conv => whnf
  unfold rorepS
  show _
  generalize encR f a n a2 b r = asked at *
  generalize encE f n a2 b r = e at *
  have hT5 : isB (asked.take 5) := fun x hx => hAB x (List.mem_of_mem_take hx)
  repeat' (first
    | (refine condY (by assumption) ?_; conv => whnf)
    | (refine condN (by assumption) ?_; conv => whnf)
    | (refine condT (by first | assumption | (simp; omega) | (have := hA5 (by simp_all); simp; omega) | (simp_all; done) | (simp_all; omega)) ?_; conv => whnf)
    | (refine condF (fun h => ?_) (fun h => ?_) <;> conv => whnf)
    | (refine ⟨rfl, ?_⟩; conv => whnf)
    | (refine Ev.call (rregs_ev _ (by first | omega | (simp [cutF, numsN_length, bitsA_length]; done) | (simp [cutF, numsN_length, bitsA_length]; omega) | (simp_all; omega))) ?_; conv => whnf)
    | (refine Ev.call (rbits_ev _ _ (by first | omega | (simp [cutF, numsN_length, bitsA_length]; done) | (simp [cutF, numsN_length, bitsA_length]; omega) | (simp_all; omega))) ?_; conv => whnf)
    | (refine Ev.call (rsame_ev _ _ hB hAB) ?_; conv => whnf)
    | (refine Ev.call (rsame_ev _ _ hB hT5) ?_; conv => whnf)
    | (refine Ev.call (at_ev' l 3 3 rfl (by
        have h5 := hA5 (by simp_all)
        have h6 : l = asked.take 5 := by simp_all
        rw [h6]; simp; omega) (by omega)) ?_; conv => whnf)
    )
  all_goals (try simp only [show Int.toNat 0 = 0 from rfl, show Int.toNat 1 = 1 from rfl, show Int.toNat 2 = 2 from rfl] at *)
  all_goals (try have hx : (l.getD 0 0 == or128 f) = false := by assumption)
  all_goals (try have hx : (l.getD 0 0 == or128 f) = true := by assumption)
  all_goals (try have hy : (!(l == asked.take 5)) = false := by assumption)
  all_goals (try have hy : (!(l == asked.take 5)) = true := by assumption)
  all_goals (generalize ho : rorepA ⟨f, a, n, a2, b, r⟩ l asked e = o; simp only [rorepA, rorepT, cutF, nB, *, if_true, if_false, Bool.false_eq_true, Bool.or_false, Bool.false_or, Bool.true_or, Bool.or_true, Bool.and_true, Bool.true_and, Bool.false_and, Bool.and_false] at ho)
  all_goals (try (first | erw [if_pos h] at ho | erw [if_neg (fun e => Bool.noConfusion (e.symm.trans h))] at ho))
  all_goals subst ho
  all_goals first
    | exact FrzK.le (leRep rfl rfl rfl rfl (by first | exact Le.refl _ | exact Le.nilB) (by first | exact Le.refl _ | exact Le.nilI _) rfl)
theorem rOpenReply_ev (f a n a2 : Int) (b : List Bool) (r : List Int) (l : List Int) (hf : 0 ≤ f ∧ f < 256) (hn0 : 0 ≤ n) (hn1 : n < 65536) (hb : b.length ≤ 2500) (hr : r.length ≤ 200) (hl : l.length ≤ 1000) (hB : isB l) :
    Ev Try.prog 59 [reqA f a n a2 (.roB b) (.roI .u16 r), .roI .u8 l] (.tup [rpA (rorepS ⟨f, a, n, a2, b, r⟩ l).1, .int .i64 (rorepS ⟨f, a, n, a2, b, r⟩ l).2]) := FrzK.ev rfl (rOpenReply_raw f a n a2 b r l hf hn0 hn1 hb hr hl hB)
end Go.Proofs.Ytomodeliimnddaa
set_option linter.unusedVariables false
set_option linter.unusedSimpArgs false
namespace Go.Proofs.Ytomodeliimnddaa
open Go.Ab
theorem twos_app : ∀ (a b : List Int), twos (a ++ b) = twos a ++ twos b
  | [], b => rfl
  | x :: a, b => by simp only [List.cons_append, twos, twos_app a b, List.append_assoc]
theorem two8_num (a b : Int) (h0 : 0 ≤ a) (h1 : a < 256) (h2 : 0 ≤ b) (h3 : b < 256) : two8 (num16 a b) = [a, b] := by
  rw [num16_eq a b h0 h1 h2 h3]
  unfold two8
  rw [hi8_eq _ (by omega) (by omega)]
  have e : IntKind.u8.wrap (256 * a + b) = b := by
    show (256 * a + b) % 256 = b
    omega
  rw [e]
  congr 1
  omega
theorem twos_nums (l : List Int) (hB : isB l) : ∀ k, 2 * k ≤ l.length → twos (numsN l k) = l.take (2 * k)
  | 0, _ => rfl
  | k + 1, h => by
    have ih := twos_nums l hB k (by omega)
    have e1 := hB.getD (2 * k)
    have e2 := hB.getD (2 * k + 1)
    have e3 : numsN l (k + 1) = numsN l k ++ [num16 (l.getD (2 * k) 0) (l.getD (2 * k + 1) 0)] := rfl
    rw [e3, twos_app, ih]
    have e4 : twos [num16 (l.getD (2 * k) 0) (l.getD (2 * k + 1) 0)] = [l.getD (2 * k) 0, l.getD (2 * k + 1) 0] := by
      simp only [twos, List.append_nil]
      exact two8_num _ _ e1.1 e1.2 e2.1 e2.2
    rw [e4]
    have g1 : 2 * k < l.length := by omega
    have g2 : 2 * k + 1 < l.length := by omega
    have d1 : l.getD (2 * k) 0 = l[2 * k] := by simp [List.getD_eq_getElem?_getD, g1]
    have d2 : l.getD (2 * k + 1) 0 = l[2 * k + 1] := by simp [List.getD_eq_getElem?_getD, g2]
    rw [d1, d2, show 2 * (k + 1) = 2 * k + 1 + 1 by omega, ← List.take_append_getElem g2, ← List.take_append_getElem g1, List.append_assoc]
    rfl
theorem plain3 (f n : Int) (hf : f = 3 ∨ f = 4 ∨ f = 23) (hn : 1 ≤ n ∧ n ≤ 125) (l : List Int) (hB : isB l) (h2 : 2 ≤ l.length) (hl : l.length ≤ 1000) :
    (if ((numsN (cutF l 2) ((cutF l 2).length / 2)).length : Int) != IntKind.i64.wrap n then (Rp.zero, (30 : Int)) else finS l ⟨f, 0, 0, 0, [], numsN (cutF l 2) ((cutF l 2).length / 2)⟩) =
    if l.getD 0 0 != f then (Rp.zero, 30) else if IntKind.i64.wrap (l.getD 1 0) != IntKind.i64.wrap (2 * IntKind.i64.wrap n) || (l.length : Int) != IntKind.i64.wrap (2 + IntKind.i64.wrap (l.getD 1 0)) then (Rp.zero, 30) else (⟨f, 0, 0, 0, [], numsN (cutF l 2) ((cutF l 2).length / 2)⟩, 0) := by
  obtain ⟨x, y, t, rfl⟩ : ∃ x y t, l = x :: y :: t := by
    match l, h2 with
    | x :: y :: t, _ => exact ⟨x, y, t, rfl⟩
  have hc : cutF (x :: y :: t) 2 = t := by rw [cutF_eq]; rfl
  rw [hc]
  have hy := hB y (by simp)
  have hBt : isB t := fun z hz => hB z (by simp [hz])
  have g0 : (x :: y :: t).getD 0 0 = x := rfl
  have g1 : (x :: y :: t).getD 1 0 = y := rfl
  rw [g0, g1, IntWalk.i64_in n (by omega), IntWalk.i64_in y (by omega), IntWalk.i64_in (2 * n) (by omega), IntWalk.i64_in (2 + y) (by omega), numsN_length]
  have htw := twos_nums t hBt (t.length / 2) (by omega)
  have hlt : (x :: y :: t).length = t.length + 2 := rfl
  have hnl := numsN_length t (t.length / 2)
  by_cases hlen : ((t.length / 2 : Nat) : Int) = n
  · rw [if_neg (by simp [hlen])]
    have hk : repOk f 0 0 0 [] (numsN t (t.length / 2)) = true := by
      rcases hf with rfl | rfl | rfl <;> simp [repOk, withinB, hnl] <;> omega
    have hrow : repB f 0 0 0 [] (numsN t (t.length / 2)) = f :: (2 * n) :: t.take (2 * (t.length / 2)) := by
      unfold repB
      rw [if_pos hk]
      have e : IntKind.u8.wrap (IntKind.i64.wrap (2 * ((t.length / 2 : Nat) : Int))) = 2 * n := by
        rw [hlen, IntWalk.i64_in _ (by omega), u8_in _ (by omega) (by omega)]
      rcases hf with rfl | rfl | rfl <;> simp only [repS, hnl, htw, e] <;> rfl
    unfold finS
    simp only [hrow]
    have hE : repE f 0 0 0 [] (numsN t (t.length / 2)) = 0 := by unfold repE; rw [if_pos hk]
    simp only [hE, beq_self_eq_true, Bool.true_and]
    by_cases hxf : x = f
    · subst hxf
      by_cases hy2 : y = 2 * n
      · subst hy2
        by_cases ht : t.length = 2 * (t.length / 2)
        · rw [if_pos (by rw [← ht, List.take_length]; simp), if_neg (by simp), if_neg (by simp; omega)]
        · rw [if_neg (fun h => by
            have := congrArg List.length (eq_of_beq h)
            simp at this; omega), if_neg (by simp), if_pos (by simp; omega)]
      · rw [if_neg (fun h => by
          have := eq_of_beq h
          simp only [List.cons.injEq] at this
          exact hy2 this.2.1.symm), if_neg (by simp), if_pos (by simp; omega)]
    · rw [if_neg (fun h => by
        have := eq_of_beq h
        simp only [List.cons.injEq] at this
        exact hxf this.1.symm), if_pos (by simpa using hxf)]
  · rw [if_pos (by simpa using hlen)]
    by_cases hxf : x = f
    · rw [if_neg (by simpa using hxf), if_pos (by simp; omega)]
    · rw [if_pos (by simpa using hxf)]
theorem row5 (f a n a2 : Int) (b : List Bool) (r : List Int) (hf : f = 5 ∨ f = 6 ∨ f = 22) (hk : encOk f n a2 b r = true) : repE f 0 a 0 b r = 0 ∧ repB f 0 a 0 b r = encR f a n a2 b r ∧ (encR f a n a2 b r).getD 0 0 = f := by
  have h : repOk f 0 a 0 b r = true := by
    rcases hf with rfl | rfl | rfl <;> simp [encOk, repOk] at hk ⊢ <;> simp [hk]
  unfold repE repB encR
  rw [if_pos h, if_pos h, if_pos hk]
  rcases hf with rfl | rfl | rfl <;> exact ⟨rfl, rfl, rfl⟩
theorem row15b (f a n a2 : Int) (b : List Bool) (r : List Int) (k : Int) (hf : (f = 15 ∧ k = IntKind.u16.wrap b.length) ∨ (f = 16 ∧ k = IntKind.u16.wrap r.length)) (hk : encOk f n a2 b r = true) :
    repE f 0 a k [] [] = 0 ∧ repB f 0 a k [] [] = (encR f a n a2 b r).take 5 ∧ (encR f a n a2 b r).getD 0 0 = f ∧ numAt ((encR f a n a2 b r).take 5) 3 = k := by
  rcases hf with ⟨rfl, rfl⟩ | ⟨rfl, rfl⟩
  · simp [encOk, withinB] at hk
    have hb : IntKind.u16.wrap (b.length : Int) = b.length := u16_in _ (by omega) (by omega)
    have h : repOk 15 0 a (IntKind.u16.wrap b.length) [] [] = true := by rw [hb]; simp [repOk, withinB]; omega
    have h2 : encOk 15 n a2 b r = true := by simp [encOk, withinB]; omega
    unfold repE repB encR
    rw [if_pos h, if_pos h, if_pos h2]
    refine ⟨rfl, rfl, rfl, ?_⟩
    exact num_two _ (by rw [hb]; omega) (by rw [hb]; omega)
  · simp [encOk, withinB] at hk
    have hb : IntKind.u16.wrap (r.length : Int) = r.length := u16_in _ (by omega) (by omega)
    have h : repOk 16 0 a (IntKind.u16.wrap r.length) [] [] = true := by rw [hb]; simp [repOk, withinB]; omega
    have h2 : encOk 16 n a2 b r = true := by simp [encOk, withinB]; omega
    unfold repE repB encR
    rw [if_pos h, if_pos h, if_pos h2]
    refine ⟨rfl, rfl, rfl, ?_⟩
    exact num_two _ (by rw [hb]; omega) (by rw [hb]; omega)
theorem fin5 (l asked : List Int) (p p' : Rp) (f : Int) (hE : repE p.f p.x p.a p.n p.b p.r = 0) (hR : repB p.f p.x p.a p.n p.b p.r = asked) (h0 : asked.getD 0 0 = f) (hp : l = asked → p = p') :
    finS l p = if l.getD 0 0 != f then (Rp.zero, 30) else if !(l == asked) then (Rp.zero, 30) else (p', 0) := by
  unfold finS
  rw [hE, hR]
  by_cases h : l = asked
  · subst h
    rw [if_pos (by simp), if_neg (by rw [h0]; simp), if_neg (by simp), hp rfl]
  · rw [if_neg (by simp; exact fun e => h e.symm)]
    split
    · rfl
    · rw [if_pos (by simpa using h)]
theorem orep_same (f a n a2 : Int) (b : List Bool) (r : List Int) (l : List Int) (hn : 0 ≤ n ∧ n < 65536) (hB : isB l) (hl : l.length ≤ 1000) : orepS ⟨f, a, n, a2, b, r⟩ l = rorepS ⟨f, a, n, a2, b, r⟩ l := by
  unfold orepS rorepS rorepA
  refine ite_congr rfl (fun _ => rfl) fun hA => ?_
  refine ite_congr rfl (fun _ => rfl) fun h2 => ?_
  refine ite_congr rfl (fun _ => rfl) fun hx => ?_
  have h2 : 2 ≤ l.length := by simp at h2; omega
  by_cases hk : encOk f n a2 b r = true
  · have h12 : ∀ k : Int, f = k → (k = 1 ∨ k = 2) → (if l.getD 0 0 != f || IntKind.i64.wrap (l.getD 1 0) != nB n || (l.length : Int) != IntKind.i64.wrap (nB n + 2) then (Rp.zero, (30 : Int)) else (⟨f, 0, 0, 0, bitsA (cutF l 2) (bitsK (IntKind.i64.wrap n)), []⟩, 0)) =
        if l.getD 0 0 != f then (Rp.zero, 30) else (if IntKind.i64.wrap (l.getD 1 0) != nB n || (l.length : Int) != IntKind.i64.wrap (2 + IntKind.i64.wrap (l.getD 1 0)) then (Rp.zero, 30) else (⟨f, 0, 0, 0, bitsA (cutF l 2) (bitsK (IntKind.i64.wrap n)), []⟩, 0)) := by
      intro k _ _
      generalize l.getD 0 0 = x0
      generalize l.getD 1 0 = x1
      by_cases c1 : x0 = f
      · by_cases c2 : IntKind.i64.wrap x1 = nB n
        · simp [c1, c2, Int.add_comm]
        · simp [c1, c2]
      · simp [c1]
    by_cases h1 : f = 1
    · subst h1; exact h12 1 rfl (.inl rfl)
    by_cases h1 : f = 2
    · subst h1; exact h12 2 rfl (.inr rfl)
    by_cases h1 : f = 3
    · subst h1; simp [encOk, withinB] at hk; exact plain3 3 n (.inl rfl) (by omega) l hB h2 hl
    by_cases h1 : f = 4
    · subst h1; simp [encOk, withinB] at hk; exact plain3 4 n (.inr (.inl rfl)) (by omega) l hB h2 hl
    by_cases h1 : f = 23
    · subst h1; simp [encOk, withinB] at hk; exact plain3 23 n (.inr (.inr rfl)) (by omega) l hB h2 hl
    by_cases h1 : f = 5
    · subst h1
      obtain ⟨q1, q2, q3⟩ := row5 5 a n a2 b r (.inl rfl) hk
      exact fin5 l _ ⟨5, 0, a, 0, b, r⟩ _ 5 q1 q2 q3 fun _ => rfl
    by_cases h1 : f = 6
    · subst h1
      obtain ⟨q1, q2, q3⟩ := row5 6 a n a2 b r (.inr (.inl rfl)) hk
      exact fin5 l _ ⟨6, 0, a, 0, b, r⟩ _ 6 q1 q2 q3 fun _ => rfl
    by_cases h1 : f = 22
    · subst h1
      obtain ⟨q1, q2, q3⟩ := row5 22 a n a2 b r (.inr (.inr rfl)) hk
      exact fin5 l _ ⟨22, 0, a, 0, b, r⟩ _ 22 q1 q2 q3 fun _ => rfl
    by_cases h1 : f = 15
    · subst h1
      obtain ⟨q1, q2, q3, q4⟩ := row15b 15 a n a2 b r _ (.inl ⟨rfl, rfl⟩) hk
      exact fin5 l _ ⟨15, 0, a, IntKind.u16.wrap b.length, [], []⟩ _ 15 q1 q2 (by rw [getD_take _ _ _ (by omega)]; exact q3) fun e => by rw [e, q4]
    by_cases h1 : f = 16
    · subst h1
      obtain ⟨q1, q2, q3, q4⟩ := row15b 16 a n a2 b r _ (.inr ⟨rfl, rfl⟩) hk
      exact fin5 l _ ⟨16, 0, a, IntKind.u16.wrap r.length, [], []⟩ _ 16 q1 q2 (by rw [getD_take _ _ _ (by omega)]; exact q3) fun e => by rw [e, q4]
    simp [encOk, *] at hk
  · exfalso
    apply hA
    show (encE f n a2 b r != 0) = true
    unfold encE
    rw [if_neg hk]
    rfl
end Go.Proofs.Ytomodeliimnddaa
set_option linter.unusedVariables false
set_option linter.unusedSimpArgs false
namespace Go.Proofs.Ytomodeliimnddaa
open Go.Ab
/- rung/runghelp.Place -/
def a68 : ACode := (.seq (.reg [⟨(some 4), .mov (.c (.int .i64 0)), none, false⟩])
 (.seq (.reg [⟨(some 5), .mov (.t 0), none, false⟩, ⟨(some 6), .mov (.t 1), none, false⟩, ⟨(some 7), .bin .rem .other (.t 5) (.t 6), none, false⟩, ⟨(some 0), .mov (.t 7), none, false⟩])
 (.seq (.seq (.reg [⟨(some 8), .mov (.t 0), none, false⟩, ⟨(some 9), .bin .lss .other (.t 8) (.c (.int .i64 0)), none, false⟩])
 (.cond (.t 9) (.reg [⟨(some 10), .mov (.t 0), none, false⟩, ⟨(some 11), .mov (.t 1), none, false⟩, ⟨(some 12), .bin .add .other (.t 10) (.t 11), none, false⟩, ⟨(some 0), .mov (.t 12), none, false⟩])
 .skip))
 (.seq (.reg [⟨(some 13), .mov (.t 0), none, false⟩, ⟨(some 4), .mov (.t 13), none, false⟩])
 .ret))))
def r68 : List ARes := [.t 4]
theorem c68 : compF Try.prog Try.f68 = some (a68, r68) := by kernel_rfl

theorem b68 : hasBody Try.prog 68 = true := by kernel_rfl
theorem g68 : Try.prog.funcs[68]? = some Try.f68 := by kernel_rfl
/- rung/runglaw3.PduShort -/
def a12 : ACode := (.seq (.reg [⟨(some 3), .box (.t 0), none, false⟩, ⟨(some 6), .mov (.c (.bool false)), none, false⟩])
 (.seq (.seq (.reg [⟨(some 20), .call 46 [], none, false⟩, ⟨(some 21), .un .not (.t 20), none, false⟩])
 (.cond (.t 21) (.seq (.reg [⟨(some 6), .mov (.c (.bool false)), none, false⟩])
 .ret)
 .skip))
 (.seq (.seq (.reg [⟨(some 22), .load true 6 (.t 3), none, false⟩, ⟨(some 23), .call 47 [(.t 22)], none, false⟩, ⟨(some 24), .un .not (.t 23), none, false⟩, ⟨(some 25), .mov (.t 24), none, true⟩, ⟨(some 26), .mov (.t 2), (some (25, false)), false⟩, ⟨(some 27), .len false (.t 26), (some (25, false)), false⟩, ⟨(some 28), .bin .gtr .other (.t 27) (.c (.int .i64 50)), (some (25, false)), false⟩, ⟨(some 29), .pick (.t 25) (.c (.bool true)) (.t 28), none, false⟩])
 (.cond (.t 29) (.seq (.reg [⟨(some 6), .mov (.c (.bool true)), none, false⟩])
 .ret)
 .skip))
 (.seq (.reg [⟨(some 31), .load true 6 (.t 3), none, false⟩, ⟨(some 32), .call 48 [(.t 31)], none, false⟩, ⟨(some 30), .mov (.t 32), none, false⟩, ⟨(some 33), .ext (.t 30) 0, none, false⟩, ⟨(some 34), .ext (.t 30) 1, none, false⟩, ⟨(some 7), .mov (.t 33), none, false⟩, ⟨(some 8), .mov (.t 34), none, false⟩])
 (.seq (.seq (.reg [⟨(some 35), .mov (.t 8), none, false⟩, ⟨(some 36), .bin .neq .other (.t 35) (.c (.int .i64 0)), none, false⟩, ⟨(some 37), .mov (.t 36), none, true⟩, ⟨(some 38), .mov (.t 7), (some (37, false)), false⟩, ⟨(some 39), .len false (.t 38), (some (37, false)), false⟩, ⟨(some 40), .bin .eql .other (.t 39) (.c (.int .i64 0)), (some (37, false)), false⟩, ⟨(some 41), .pick (.t 37) (.c (.bool true)) (.t 40), none, false⟩])
 (.cond (.t 41) (.seq (.reg [⟨(some 6), .mov (.c (.bool true)), none, false⟩])
 .ret)
 .skip))
 (.seq (.reg [⟨(some 43), .mov (.t 7), none, false⟩, ⟨(some 44), .mov (.t 1), none, false⟩, ⟨(some 45), .mov (.t 7), none, false⟩, ⟨(some 46), .len false (.t 45), none, false⟩, ⟨(some 47), .call 68 [(.t 44), (.t 46)], none, false⟩, ⟨(some 48), .slice (.sl 1) (.t 43) none (some (.t 47)), none, false⟩, ⟨(some 49), .call 51 [(.t 48)], none, false⟩, ⟨(some 42), .mov (.t 49), none, false⟩, ⟨(some 50), .ext (.t 42) 0, none, false⟩, ⟨(some 51), .ext (.t 42) 1, none, false⟩, ⟨(some 9), .alloc [(1, (.int .u8 0)), (3, (.int .u16 0)), (2, .nils)], none, false⟩, ⟨none, .store 6 (.t 9) (.t 50), none, false⟩, ⟨(some 10), .mov (.t 51), none, false⟩])
 (.seq (.reg [⟨(some 53), .mov (.t 7), none, false⟩, ⟨(some 54), .call 53 [(.t 53)], none, false⟩, ⟨(some 55), .mov (.t 2), none, false⟩, ⟨(some 56), .app 1 1 (.t 54) (.t 55), none, false⟩, ⟨(some 57), .call 51 [(.t 56)], none, false⟩, ⟨(some 52), .mov (.t 57), none, false⟩, ⟨(some 58), .ext (.t 52) 0, none, false⟩, ⟨(some 59), .ext (.t 52) 1, none, false⟩, ⟨(some 11), .alloc [(1, (.int .u8 0)), (3, (.int .u16 0)), (2, .nils)], none, false⟩, ⟨none, .store 6 (.t 11) (.t 58), none, false⟩, ⟨(some 12), .mov (.t 59), none, false⟩])
 (.seq (.seq (.reg [⟨(some 60), .mov (.t 10), none, false⟩, ⟨(some 61), .bin .neq .other (.t 60) (.c (.int .i64 30)), none, false⟩, ⟨(some 62), .mov (.t 61), none, true⟩, ⟨(some 63), .mov (.t 12), (some (62, false)), false⟩, ⟨(some 64), .bin .eql .other (.t 63) (.c (.int .i64 30)), (some (62, false)), false⟩, ⟨(some 65), .mov (.t 2), (some (62, false)), false⟩, ⟨(some 66), .len false (.t 65), (some (62, false)), false⟩, ⟨(some 67), .bin .gtr .other (.t 66) (.c (.int .i64 0)), (some (62, false)), false⟩, ⟨(some 68), .bin .neq .bool (.t 64) (.t 67), (some (62, false)), false⟩, ⟨(some 69), .pick (.t 62) (.c (.bool true)) (.t 68), none, false⟩])
 (.cond (.t 69) (.seq (.reg [⟨(some 6), .mov (.c (.bool false)), none, false⟩])
 .ret)
 .skip))
 (.seq (.reg [⟨(some 70), .fld 0 1 false (.t 3), none, false⟩, ⟨(some 71), .load false 1 (.t 70), none, false⟩, ⟨(some 72), .build [(.int .u8 0), (.int .u8 0), (.int .u16 0), (.int .u16 0), .nils, .nils] [(0, 1, (.t 71)), (1, 1, (.c (.int .u8 4)))], none, false⟩, ⟨(some 13), .alloc [(2, (.int .u8 0)), (2, (.int .u16 0)), (2, .nils)], none, false⟩, ⟨none, .store 6 (.t 13) (.t 72), none, false⟩])
 (.seq (.seq (.reg [⟨(some 73), .fld 0 1 false (.t 3), none, false⟩, ⟨(some 74), .load false 1 (.t 73), none, false⟩, ⟨(some 75), .bin .leq .other (.t 74) (.c (.int .u8 2)), none, false⟩])
 (.cond (.t 75) (.draw [⟨0, ⟨(some 76), .fld 0 1 false (.t 3), none, false⟩, false, [], []⟩, ⟨1, ⟨(some 77), .load false 1 (.t 76), none, false⟩, false, [], []⟩, ⟨2, ⟨(some 78), .fld 2 1 false (.t 3), none, false⟩, false, [], []⟩, ⟨3, ⟨(some 79), .load false 1 (.t 78), none, false⟩, false, [], []⟩, ⟨4, ⟨(some 80), .mkslice 1 1 .bool [(.bool false)] (.t 79), none, false⟩, false, [], []⟩, ⟨5, ⟨(some 81), .build [(.int .u8 0), (.int .u8 0), (.int .u16 0), (.int .u16 0), .nils, .nils] [(0, 1, (.t 77)), (4, 1, (.t 80))], none, false⟩, false, [], []⟩, ⟨6, ⟨none, .store 6 (.t 13) (.t 81), none, false⟩, true, [4], []⟩])
 (.seq (.reg [⟨(some 82), .fld 0 1 false (.t 3), none, false⟩, ⟨(some 83), .load false 1 (.t 82), none, false⟩, ⟨(some 84), .bin .leq .other (.t 83) (.c (.int .u8 4)), none, false⟩, ⟨(some 85), .mov (.t 84), none, true⟩, ⟨(some 86), .fld 0 1 false (.t 3), (some (85, false)), false⟩, ⟨(some 87), .load false 1 (.t 86), (some (85, false)), false⟩, ⟨(some 88), .bin .eql .other (.t 87) (.c (.int .u8 23)), (some (85, false)), false⟩, ⟨(some 89), .pick (.t 85) (.c (.bool true)) (.t 88), none, false⟩])
 (.cond (.t 89) (.draw [⟨0, ⟨(some 90), .fld 0 1 false (.t 3), none, false⟩, false, [], []⟩, ⟨1, ⟨(some 91), .load false 1 (.t 90), none, false⟩, false, [], []⟩, ⟨2, ⟨(some 92), .fld 2 1 false (.t 3), none, false⟩, false, [], []⟩, ⟨3, ⟨(some 93), .load false 1 (.t 92), none, false⟩, false, [], []⟩, ⟨4, ⟨(some 94), .mkslice 1 2 (.int .u16) [(.int .u16 0)] (.t 93), none, false⟩, false, [], []⟩, ⟨5, ⟨(some 95), .build [(.int .u8 0), (.int .u8 0), (.int .u16 0), (.int .u16 0), .nils, .nils] [(0, 1, (.t 91)), (5, 1, (.t 94))], none, false⟩, false, [], []⟩, ⟨6, ⟨none, .store 6 (.t 13) (.t 95), none, false⟩, true, [4], []⟩])
 .skip))))
 (.seq (.reg [⟨(some 97), .load true 6 (.t 13), none, false⟩, ⟨(some 98), .call 57 [(.t 97)], none, false⟩, ⟨(some 96), .mov (.t 98), none, false⟩, ⟨(some 99), .ext (.t 96) 0, none, false⟩, ⟨(some 100), .ext (.t 96) 1, none, false⟩, ⟨(some 14), .mov (.t 99), none, false⟩, ⟨(some 15), .mov (.t 100), none, false⟩])
 (.seq (.draw [⟨0, ⟨(some 102), .load true 6 (.t 3), none, false⟩, false, [], []⟩, ⟨1, ⟨(some 103), .mov (.t 14), none, false⟩, false, [], []⟩, ⟨2, ⟨(some 104), .mov (.t 1), none, false⟩, false, [], []⟩, ⟨3, ⟨(some 105), .mov (.t 14), none, false⟩, false, [], []⟩, ⟨4, ⟨(some 106), .len false (.t 105), none, false⟩, false, [], []⟩, ⟨11, ⟨(some 16), .alloc [(2, (.int .u8 0)), (2, (.int .u16 0)), (2, .nils)], none, false⟩, false, [], []⟩, ⟨5, ⟨(some 107), .call 68 [(.t 104), (.t 106)], none, false⟩, true, [], [(.t 3)]⟩, ⟨6, ⟨(some 108), .slice (.sl 1) (.t 103) none (some (.t 107)), none, false⟩, false, [], []⟩, ⟨7, ⟨(some 109), .call 58 [(.t 102), (.t 108)], none, false⟩, true, [], []⟩, ⟨8, ⟨(some 101), .mov (.t 109), none, false⟩, false, [], []⟩, ⟨9, ⟨(some 110), .ext (.t 101) 0, none, false⟩, false, [], []⟩, ⟨10, ⟨(some 111), .ext (.t 101) 1, none, false⟩, false, [], []⟩, ⟨12, ⟨none, .store 6 (.t 16) (.t 110), none, false⟩, true, [11], []⟩, ⟨13, ⟨(some 17), .mov (.t 111), none, false⟩, false, [], []⟩])
 (.seq (.draw [⟨0, ⟨(some 113), .load true 6 (.t 3), none, false⟩, false, [], []⟩, ⟨1, ⟨(some 114), .mov (.t 14), none, false⟩, false, [], []⟩, ⟨3, ⟨(some 116), .mov (.t 2), none, false⟩, false, [], []⟩, ⟨9, ⟨(some 18), .alloc [(2, (.int .u8 0)), (2, (.int .u16 0)), (2, .nils)], none, false⟩, false, [], []⟩, ⟨2, ⟨(some 115), .call 53 [(.t 114)], none, false⟩, true, [], [(.t 3)]⟩, ⟨4, ⟨(some 117), .app 1 1 (.t 115) (.t 116), none, false⟩, true, [], [(.t 3)]⟩, ⟨5, ⟨(some 118), .call 58 [(.t 113), (.t 117)], none, false⟩, true, [], []⟩, ⟨6, ⟨(some 112), .mov (.t 118), none, false⟩, false, [], []⟩, ⟨7, ⟨(some 119), .ext (.t 112) 0, none, false⟩, false, [], []⟩, ⟨8, ⟨(some 120), .ext (.t 112) 1, none, false⟩, false, [], []⟩, ⟨10, ⟨none, .store 6 (.t 18) (.t 119), none, false⟩, true, [9], []⟩, ⟨11, ⟨(some 19), .mov (.t 120), none, false⟩, false, [], []⟩])
 (.seq (.reg [⟨(some 121), .mov (.t 17), none, false⟩, ⟨(some 122), .bin .eql .other (.t 121) (.c (.int .i64 30)), none, false⟩, ⟨(some 123), .mov (.t 122), none, true⟩, ⟨(some 124), .mov (.t 19), (some (123, true)), false⟩, ⟨(some 125), .bin .eql .other (.t 124) (.c (.int .i64 30)), (some (123, true)), false⟩, ⟨(some 126), .mov (.t 2), (some (123, true)), false⟩, ⟨(some 127), .len false (.t 126), (some (123, true)), false⟩, ⟨(some 128), .bin .gtr .other (.t 127) (.c (.int .i64 0)), (some (123, true)), false⟩, ⟨(some 129), .bin .eql .bool (.t 125) (.t 128), (some (123, true)), false⟩, ⟨(some 130), .pick (.t 123) (.t 129) (.c (.bool false)), none, false⟩, ⟨(some 6), .mov (.t 130), none, false⟩])
 .ret))))))))))))))
def r12 : List ARes := [.t 6]
theorem c12 : compF Try.prog Try.f12 = some (a12, r12) := by kernel_rfl

theorem b12 : hasBody Try.prog 12 = true := by kernel_rfl
theorem g12 : Try.prog.funcs[12]? = some Try.f12 := by kernel_rfl

theorem nB_eq (n : Int) (h0 : 0 ≤ n) (h1 : n < 65536) : nB n = (n + 7) / 8 := by
  unfold nB
  rw [IntWalk.i64_in n (by omega), IntWalk.i64_in (n + 7) (by omega), Int.tdiv_eq_ediv_of_nonneg (by omega), IntWalk.i64_in _ (by omega)]
theorem or128_ne (f : Int) (h : f = 1 ∨ f = 2 ∨ f = 3 ∨ f = 4 ∨ f = 23) : (f == or128 f) = false := by
  rcases h with rfl | rfl | rfl | rfl | rfl <;> decide
theorem orep_len (q : Rq) (l : List Int) (h : l.length < 2) : (orepS q l).2 = 30 := by
  unfold orepS
  split
  · rfl
  · rw [if_pos (by simp; omega)]
theorem orep12 (f a n a2 : Int) (b : List Bool) (r l : List Int) (hf : f = 1 ∨ f = 2) (hE : encE f n a2 b r = 0) (hn : 1 ≤ n ∧ n ≤ 2000) (h0 : 2 ≤ l.length → l.getD 0 0 = f ∧ l.getD 1 0 = (n + 7) / 8) :
    (orepS ⟨f, a, n, a2, b, r⟩ l).2 = if (l.length : Int) = 2 + (n + 7) / 8 then 0 else 30 := by
  by_cases hl : l.length < 2
  · rw [orep_len _ _ hl, if_neg (by omega)]
  obtain ⟨g0, g1⟩ := h0 (by omega)
  have e1 := nB_eq n (by omega) (by omega)
  unfold orepS
  simp only [hE, g0]
  rw [if_neg (by decide), if_neg (by simp; omega), or128_ne f (by omega), if_neg (by simp)]
  have hT : orepT ⟨f, a, n, a2, b, r⟩ l = if l.getD 0 0 != f || IntKind.i64.wrap (l.getD 1 0) != nB n || (l.length : Int) != IntKind.i64.wrap (nB n + 2) then (Rp.zero, 30) else (⟨f, 0, 0, 0, bitsA (cutF l 2) (bitsK (IntKind.i64.wrap n)), []⟩, 0) := by
    unfold orepT
    rcases hf with rfl | rfl <;> simp
  rw [hT, g0, g1, e1, IntWalk.i64_in ((n + 7) / 8) (by omega), IntWalk.i64_in ((n + 7) / 8 + 2) (by omega)]
  by_cases hc : (l.length : Int) = 2 + (n + 7) / 8
  · rw [if_pos hc, if_neg (by simp; omega)]
  · rw [if_neg hc, if_pos (by simp; omega)]
theorem orep3_no (f a n a2 : Int) (b : List Bool) (r l : List Int) (hf : f = 3 ∨ f = 4 ∨ f = 23) (hE : encE f n a2 b r = 0) (hn : 1 ≤ n ∧ n ≤ 125) (h0 : 2 ≤ l.length → l.getD 0 0 = f) (hl : (l.length : Int) ≠ 2 + 2 * n) (hl2 : l.length ≤ 1000) :
    (orepS ⟨f, a, n, a2, b, r⟩ l).2 = 30 := by
  by_cases hl : l.length < 2
  · exact orep_len _ _ hl
  have g0 := h0 (by omega)
  unfold orepS
  simp only [hE, g0]
  rw [if_neg (by decide), if_neg (by simp; omega), or128_ne f (by omega), if_neg (by simp)]
  have hT : orepT ⟨f, a, n, a2, b, r⟩ l = if ((numsN (cutF l 2) ((cutF l 2).length / 2)).length : Int) != IntKind.i64.wrap n then (Rp.zero, 30) else finS l ⟨f, 0, 0, 0, [], numsN (cutF l 2) ((cutF l 2).length / 2)⟩ := by
    unfold orepT
    rcases hf with rfl | rfl | rfl <;> simp
  rw [hT, numsN_length, cutF_eq, IntWalk.i64_in n (by omega)]
  have hd : (l.drop 2).length = l.length - 2 := by simp
  rw [hd]
  by_cases hc : (((l.length - 2) / 2 : Nat) : Int) = n
  · rw [if_neg (by simp; omega)]
    have hrl : (repB f 0 0 0 [] (numsN (l.drop 2) ((l.length - 2) / 2))).length ≠ l.length := by
      unfold repB
      split
      · have : (repS f 0 0 0 [] (numsN (l.drop 2) ((l.length - 2) / 2))).row = [f] ++ [IntKind.u8.wrap (IntKind.i64.wrap (2 * (numsN (l.drop 2) ((l.length - 2) / 2)).length))] ++ twos (numsN (l.drop 2) ((l.length - 2) / 2)) := by
          rcases hf with rfl | rfl | rfl <;> rfl
        rw [this]
        simp [twos_length, numsN_length]
        omega
      · simp; omega
    rw [finS_no2 _ _ (by
      simp only [Bool.not_eq_true', beq_eq_false_iff_ne, ne_eq]
      intro e; exact hrl (by rw [e]))]
  · rw [if_pos (by simp; omega)]
theorem orep3_yes (f a n a2 : Int) (b : List Bool) (r : List Int) (hf : f = 3 ∨ f = 4 ∨ f = 23) (hE : encE f n a2 b r = 0) (hn : 1 ≤ n ∧ n ≤ 125) :
    (orepS ⟨f, a, n, a2, b, r⟩ (repB f 0 0 0 [] (List.replicate n.toNat 0))).2 = 0 ∧ ((repB f 0 0 0 [] (List.replicate n.toNat 0)).length : Int) = 2 + 2 * n ∧ (repB f 0 0 0 [] (List.replicate n.toNat 0)).getD 0 0 = f := by
  have hlr : (List.replicate n.toNat (0 : Int)).length = n.toNat := by simp
  have hok : repOk f 0 0 0 [] (List.replicate n.toNat 0) = true := by
    rcases hf with rfl | rfl | rfl <;> (simp [repOk, withinB]; omega)
  have hrow : repB f 0 0 0 [] (List.replicate n.toNat 0) = [f] ++ [IntKind.u8.wrap (IntKind.i64.wrap (2 * (List.replicate n.toNat (0 : Int)).length))] ++ twos (List.replicate n.toNat 0) := by
    unfold repB
    rw [if_pos hok]
    rcases hf with rfl | rfl | rfl <;> rfl
  have hlen : (repB f 0 0 0 [] (List.replicate n.toNat 0)).length = 2 + 2 * n.toNat := by
    rw [hrow]; simp [twos_length]; omega
  have hd : (repB f 0 0 0 [] (List.replicate n.toNat 0)).drop 2 = twos (List.replicate n.toNat 0) := by rw [hrow]; rfl
  have hnums : numsN (twos (List.replicate n.toNat 0)) n.toNat = List.replicate n.toNat 0 := by
    have := nums_twos (List.replicate n.toNat 0) (fun x hx => by rw [List.eq_of_mem_replicate hx]; decide) n.toNat (by simp)
    rw [this, List.take_of_length_le (by simp)]
  refine ⟨?_, by rw [hlen]; omega, by rw [hrow]; rfl⟩
  generalize hcc : repB f 0 0 0 [] (List.replicate n.toNat 0) = l at *
  have g0 : l.getD 0 0 = f := by rw [hrow]; rfl
  unfold orepS
  simp only [hE, g0]
  rw [if_neg (by decide), if_neg (by simp; omega), or128_ne f (by omega), if_neg (by simp)]
  have hT : orepT ⟨f, a, n, a2, b, r⟩ l = if ((numsN (cutF l 2) ((cutF l 2).length / 2)).length : Int) != IntKind.i64.wrap n then (Rp.zero, 30) else finS l ⟨f, 0, 0, 0, [], numsN (cutF l 2) ((cutF l 2).length / 2)⟩ := by
    unfold orepT
    rcases hf with rfl | rfl | rfl <;> simp
  have h2 : (twos (List.replicate n.toNat (0 : Int))).length / 2 = n.toNat := by simp [twos_length]
  rw [hT, cutF_eq, hd, h2, hnums, IntWalk.i64_in n (by omega), if_neg (by simp; omega), finS_yes]
  · simp [repE, hok]
  · simp only [hcc]; simp
theorem orepX (f a n a2 : Int) (b : List Bool) (r l : List Int) (hE : encE f n a2 b r = 0) (h0 : 2 ≤ l.length → l.getD 0 0 = or128 f) :
    (l.length ≠ 2 → (orepS ⟨f, a, n, a2, b, r⟩ l).2 = 30) ∧ (l = [or128 f, 4] → (orepS ⟨f, a, n, a2, b, r⟩ l).2 = 0) := by
  constructor
  · intro hl
    by_cases h2 : l.length < 2
    · exact orep_len _ _ h2
    unfold orepS
    simp only [hE, h0 (by omega)]
    rw [if_neg (by decide), if_neg (by simp; omega), beq_self_eq_true, if_pos rfl, if_pos (by simp; omega)]
  · rintro rfl
    unfold orepS
    simp only [hE]
    rw [if_neg (by decide)]
    simp
def placeS (k n : Int) : Int := if k.tmod n < 0 then k.tmod n + n else k.tmod n
theorem place_range (k n : Int) (h : 0 < n) : 0 ≤ placeS k n ∧ placeS k n < n := by
  unfold placeS
  have h1 := Int.tmod_lt_of_pos k h
  have h2 : -n < k.tmod n := by
    have := Int.tmod_lt_of_pos (-k) h
    rw [Int.neg_tmod] at this
    omega
  split <;> omega
theorem place_ev (k n : Int) (h : 0 < n) (h1 : n ≤ 100000) : Ev Try.prog 68 [.int .i64 k, .int .i64 n] (.int .i64 (placeS k n)) := by
  have hr := place_range k n h
  refine FrzK.ev rfl (trF g68 b68 c68 ?_)
  conv => whnf
  refine condT (by simp; omega) ?_
  conv => whnf
  unfold placeS at *
  refine condS (fun g => ?_) (fun g => ?_)
  · conv => whnf
    have g' : k.tmod n < 0 := by simpa using g
    rw [if_pos g'] at hr ⊢
    rw [IntWalk.i64_in _ (by omega)]
    exact FrzK.le (Le.refl _)
  · conv => whnf
    have g' : ¬ k.tmod n < 0 := by simpa using g
    rw [if_neg g']
    exact FrzK.le (Le.refl _)
theorem copy_call {l : List Int} {s : St} {K : AV → St → Prop} (hl : l.length ≤ 100000) (k : openS s fun n m => K (.sl 1 n 0 l.length) ⟨n + 1, (n, some (.rowI .u8 l)) :: m⟩) : Tr Try.prog 53 [.roI .u8 l] s K := by
  refine Tr.call [] (copy_tr l hl) rfl rfl trivial rfl fun v0 s0 ⟨hv, hs⟩ => ?_
  subst hv; subst hs
  rw [openS_eq] at k
  exact k
theorem OpenRequest_sl {h len : Nat} {L : List Int} {s : St} {K : AV → St → Prop} (hg : s.get h = some (.rowI .u8 L)) (hl : len = L.length) (hb : L.length ≤ 1000)
    (k : openS s fun n t => K (.tup [rqA (decS L).1, .int .i64 (decS L).2]) ⟨n, (h, none) :: t⟩) : Tr Try.prog 51 [.sl 1 h 0 len] s K := by
  refine Tr.lend h hg ?_
  have : frzL h (.rowI .u8 L) [.sl 1 h 0 len] = [.roI .u8 L] := by simp only [frzL, frz_row h .u8 L len hl]
  rw [this]
  exact Ev.call (OpenRequest_ev L hb) k
theorem frz_req (h : Nat) (c : Chunk) (f a n a2 : Int) (b : List Bool) (r : List Int) : (reqA f a n a2 (.roB b) (.roI .u16 r)).frz h c = reqA f a n a2 (.roB b) (.roI .u16 r) := rfl
theorem OpenReply_sl {h len : Nat} {L : List Int} {s : St} {K : AV → St → Prop} {f a n a2 : Int} {b : List Bool} {r : List Int} (hg : s.get h = some (.rowI .u8 L)) (hl : len = L.length) (hn0 : 0 ≤ n) (hn1 : n < 65536) (hb : b.length ≤ 2500) (hr : r.length ≤ 200) (hL : L.length ≤ 1000) (hc : ((f == 5) = false ∧ (f == 6) = false ∧ (f == 22) = false) ∨ L.length < 2 ∨ (L.getD 0 0 == or128 f) = true)
    (k : openS s fun nx t => K (.tup [rpA (orepS ⟨f, a, n, a2, b, r⟩ L).1, .int .i64 (orepS ⟨f, a, n, a2, b, r⟩ L).2]) ⟨nx, (h, none) :: t⟩) : Tr Try.prog 58 [reqA f a n a2 (.roB b) (.roI .u16 r), .sl 1 h 0 len] s K := by
  refine Tr.lend h hg ?_
  have : frzL h (.rowI .u8 L) [reqA f a n a2 (.roB b) (.roI .u16 r), .sl 1 h 0 len] = [reqA f a n a2 (.roB b) (.roI .u16 r), .roI .u8 L] := by simp only [frzL, frz_row h .u8 L len hl, frz_req]
  rw [this]
  exact Ev.call (OpenReply_ev f a n a2 b r L hn0 hn1 hb hr hL hc) k
theorem rReply_slB {h len : Nat} {L : List Bool} {s : St} {K : AV → St → Prop} {f : Int} (hg : s.get h = some (.rowB L)) (hl : len = L.length) (hL : L.length ≤ 2500)
    (k : openS s fun n t => K (.tup [.roI .u8 (repB f 0 0 0 L []), .int .i64 (repE f 0 0 0 L [])]) ⟨n, (h, none) :: t⟩) : Tr Try.prog 57 [repA f 0 0 0 (.sl 1 h 0 len) .nils] s K := by
  refine Tr.lend h hg ?_
  have : frzL h (.rowB L) [repA f 0 0 0 (.sl 1 h 0 len) .nils] = [repA f 0 0 0 (.roB L) .nils] := by
    simp only [frzL, repA, AV.frz, frzS_allB L len hl, beq_self, cond_true]
  rw [this]
  exact Tr.le (leRepN (Le.refl _) (Le.nilI _)) (Ev.call (rReply_ev f 0 0 0 L [] (by decide) (by decide) hL (by decide)) k)
theorem rReply_slI {h len : Nat} {L : List Int} {s : St} {K : AV → St → Prop} {f : Int} (hg : s.get h = some (.rowI .u16 L)) (hl : len = L.length) (hL : L.length ≤ 500)
    (k : openS s fun n t => K (.tup [.roI .u8 (repB f 0 0 0 [] L), .int .i64 (repE f 0 0 0 [] L)]) ⟨n, (h, none) :: t⟩) : Tr Try.prog 57 [repA f 0 0 0 .nils (.sl 1 h 0 len)] s K := by
  refine Tr.lend h hg ?_
  have : frzL h (.rowI .u16 L) [repA f 0 0 0 .nils (.sl 1 h 0 len)] = [repA f 0 0 0 .nils (.roI .u16 L)] := by
    simp only [frzL, repA, AV.frz, frzS_all .u16 L len hl, beq_self, cond_true]
  rw [this]
  exact Tr.le (leRepN Le.nilB (Le.refl _)) (Ev.call (rReply_ev f 0 0 0 [] L (by decide) (by decide) (by decide) hL) k)
theorem cRow12 (f a n a2 : Int) (b : List Bool) (r : List Int) (hf : f = 1 ∨ f = 2) (hn : 1 ≤ n ∧ n ≤ 2000) :
    ((repB f 0 0 0 (List.replicate n.toNat false) []).length : Int) = 2 + (n + 7) / 8 ∧ (repB f 0 0 0 (List.replicate n.toNat false) []).getD 0 0 = f ∧ (repB f 0 0 0 (List.replicate n.toNat false) []).getD 1 0 = (n + 7) / 8 := by
  have hlr : (List.replicate n.toNat false).length = n.toNat := by simp
  have hok : repOk f 0 0 0 (List.replicate n.toNat false) [] = true := by
    rcases hf with rfl | rfl <;> (simp [repOk, withinB]; omega)
  have hrow : repB f 0 0 0 (List.replicate n.toNat false) [] = [f] ++ [IntKind.u8.wrap (((List.replicate n.toNat false).length + 7) / 8 : Nat)] ++ packN (List.replicate n.toNat false) (List.replicate n.toNat false).length := by
    unfold repB
    rw [if_pos hok]
    rcases hf with rfl | rfl <;> rfl
  rw [hrow, hlr]
  refine ⟨?_, rfl, ?_⟩
  · simp [packN_length]; omega
  · show IntKind.u8.wrap (((n.toNat + 7) / 8 : Nat) : Int) = _
    rw [u8_in _ (by omega) (by omega)]
    omega
theorem encOk12 (f n a2 : Int) (b : List Bool) (r : List Int) (hk : encOk f n a2 b r = true) : (f = 1 ∨ f = 2 → 1 ≤ n ∧ n ≤ 2000) ∧ (f = 3 ∨ f = 4 ∨ f = 23 → 1 ≤ n ∧ n ≤ 125) ∧ (f = 1 ∨ f = 2 ∨ f = 3 ∨ f = 4 ∨ f = 5 ∨ f = 6 ∨ f = 15 ∨ f = 16 ∨ f = 22 ∨ f = 23) := by
  refine ⟨fun h => ?_, fun h => ?_, ?_⟩
  · rcases h with rfl | rfl <;> (simp [encOk, withinB] at hk; omega)
  · rcases h with rfl | rfl | rfl <;> (simp [encOk, withinB] at hk; omega)
  · by_cases h1 : f = 1 ∨ f = 2 ∨ f = 3 ∨ f = 4 ∨ f = 5 ∨ f = 6 ∨ f = 15 ∨ f = 16 ∨ f = 22 ∨ f = 23
    · exact h1
    · have h1 : ¬ f = 1 ∧ ¬ f = 2 ∧ ¬ f = 3 ∧ ¬ f = 4 ∧ ¬ f = 5 ∧ ¬ f = 6 ∧ ¬ f = 15 ∧ ¬ f = 16 ∧ ¬ f = 22 ∧ ¬ f = 23 := by omega
      obtain ⟨a1, a2, a3, a4, a5, a6, a7, a8, a9, a10⟩ := h1
      simp [encOk, *] at hk
theorem cX (f : Int) (hf : f < 128) : repB f 4 0 0 [] [] = [or128 f, 4] := by
  unfold repB
  rw [if_pos (by simp [repOk]; exact hf)]
  rfl
end Go.Proofs.Ytomodeliimnddaa
set_option linter.unusedVariables false
set_option linter.unusedSimpArgs false
namespace Go.Proofs.Ytomodeliimnddaa
open Go.Ab
def known9 (f : Int) : Prop := f = 1 ∨ f = 2 ∨ f = 3 ∨ f = 4 ∨ f = 5 ∨ f = 6 ∨ f = 15 ∨ f = 16 ∨ f = 22 ∨ f = 23
theorem or128_kn (f : Int) (h : known9 f) : or128 f = f + 128 := by
  rcases h with rfl | rfl | rfl | rfl | rfl | rfl | rfl | rfl | rfl | rfl <;> rfl
theorem rorep_go (q : Rq) (l asked : List Int) (h2 : 2 ≤ l.length) (h0 : l.getD 0 0 = q.f) (hk : known9 q.f) : rorepA q l asked 0 = rorepT q l asked := by
  unfold rorepA
  have h128 : (q.f == or128 q.f) = false := by
    rw [or128_kn q.f hk, beq_eq_false_iff_ne]; omega
  rw [if_neg (by decide), if_neg (by simp; omega), h0, if_neg (by rw [h128]; decide), if_neg (by simp)]
theorem own12 (f a n a2 : Int) (b : List Bool) (r : List Int) (asked : List Int) (L : List Bool) (hf : f = 1 ∨ f = 2) (hn : 1 ≤ n ∧ n ≤ 2000) (hL : L.length = n.toNat) :
    repE f 0 0 0 L [] = 0 ∧ rorepA ⟨f, a, n, a2, b, r⟩ (repB f 0 0 0 L []) asked 0 = (⟨f, 0, 0, 0, L, []⟩, 0) ∧ (repB f 0 0 0 L []).getD 0 0 = f ∧ 2 ≤ (repB f 0 0 0 L []).length ∧ isB (repB f 0 0 0 L []) := by
  have hok : repOk f 0 0 0 L [] = true := by rcases hf with rfl | rfl <;> (simp [repOk, withinB]; omega)
  have hrow : repB f 0 0 0 L [] = f :: ((n + 7) / 8) :: packN L L.length := by
    unfold repB
    rw [if_pos hok]
    have e : IntKind.u8.wrap (((L.length + 7) / 8 : Nat) : Int) = (n + 7) / 8 := by rw [u8_in _ (by omega) (by omega)]; omega
    rcases hf with rfl | rfl
    · exact congrArg (fun y => [(1 : Int)] ++ [y] ++ packN L L.length) e
    · exact congrArg (fun y => [(2 : Int)] ++ [y] ++ packN L L.length) e
  have hlen : (packN L L.length).length = (n.toNat + 7) / 8 := by rw [packN_length, hL]
  have hE : repE f 0 0 0 L [] = 0 := by unfold repE; rw [if_pos hok]
  have hB : isB (repB f 0 0 0 L []) := by
    rw [hrow]
    intro x hx
    simp only [List.mem_cons] at hx
    rcases hx with rfl | rfl | hx
    · omega
    · omega
    · exact isB_pack L L.length x hx
  refine ⟨hE, ?_, by rw [hrow]; rfl, by rw [hrow]; simp, hB⟩
  rw [rorep_go _ _ _ (by rw [hrow]; simp) (by rw [hrow]; rfl) (by rcases hf with rfl | rfl <;> simp [known9])]
  have hT : rorepT ⟨f, a, n, a2, b, r⟩ (repB f 0 0 0 L []) asked = (if IntKind.i64.wrap ((repB f 0 0 0 L []).getD 1 0) != nB n || ((repB f 0 0 0 L []).length : Int) != IntKind.i64.wrap (2 + IntKind.i64.wrap ((repB f 0 0 0 L []).getD 1 0)) then (Rp.zero, 30) else (⟨f, 0, 0, 0, bitsA (cutF (repB f 0 0 0 L []) 2) (bitsK (IntKind.i64.wrap n)), []⟩, 0)) := by
    rcases hf with rfl | rfl <;> rfl
  rw [hT, hrow]
  have g1 : (f :: ((n + 7) / 8) :: packN L L.length).getD 1 0 = (n + 7) / 8 := rfl
  have hc : cutF (f :: ((n + 7) / 8) :: packN L L.length) 2 = packN L L.length := by rw [cutF_eq]; rfl
  have hK : bitsK (IntKind.i64.wrap n) = n.toNat := by
    have := bitsK_len n.toNat (by omega)
    rwa [show ((n.toNat : Nat) : Int) = n by omega] at this
  rw [g1, hc, hK, nB_eq n (by omega) (by omega), IntWalk.i64_in ((n + 7) / 8) (by omega), IntWalk.i64_in (2 + (n + 7) / 8) (by omega), if_neg (by simp [hlen]; omega), ← hL, bits_pack L L.length (Nat.le_refl _), List.take_length]
theorem own3 (f a n a2 : Int) (b : List Bool) (r : List Int) (asked : List Int) (L : List Int) (hf : f = 3 ∨ f = 4 ∨ f = 23) (hn : 1 ≤ n ∧ n ≤ 125) (hL : L.length = n.toNat) (hr : ∀ x ∈ L, 0 ≤ x ∧ x < 65536) :
    repE f 0 0 0 [] L = 0 ∧ rorepA ⟨f, a, n, a2, b, r⟩ (repB f 0 0 0 [] L) asked 0 = (⟨f, 0, 0, 0, [], L⟩, 0) ∧ (repB f 0 0 0 [] L).getD 0 0 = f ∧ 2 ≤ (repB f 0 0 0 [] L).length ∧ isB (repB f 0 0 0 [] L) := by
  have hok : repOk f 0 0 0 [] L = true := by rcases hf with rfl | rfl | rfl <;> (simp [repOk, withinB]; omega)
  have hrow : repB f 0 0 0 [] L = f :: (2 * n) :: twos L := by
    unfold repB
    rw [if_pos hok]
    have e : IntKind.u8.wrap (IntKind.i64.wrap (2 * (L.length : Int))) = 2 * n := by rw [IntWalk.i64_in _ (by omega), u8_in _ (by omega) (by omega)]; omega
    rcases hf with rfl | rfl | rfl <;> simp only [repS] <;> simp [e]
  have hE : repE f 0 0 0 [] L = 0 := by unfold repE; rw [if_pos hok]
  have hB : isB (repB f 0 0 0 [] L) := by
    rw [hrow]
    intro x hx
    simp only [List.mem_cons] at hx
    rcases hx with rfl | rfl | hx
    · omega
    · omega
    · exact isB_twos L x hx
  refine ⟨hE, ?_, by rw [hrow]; rfl, by rw [hrow]; simp, hB⟩
  rw [rorep_go _ _ _ (by rw [hrow]; simp) (by rw [hrow]; rfl) (by rcases hf with rfl | rfl | rfl <;> simp [known9])]
  have hT : rorepT ⟨f, a, n, a2, b, r⟩ (repB f 0 0 0 [] L) asked = (if IntKind.i64.wrap ((repB f 0 0 0 [] L).getD 1 0) != IntKind.i64.wrap (2 * IntKind.i64.wrap n) || ((repB f 0 0 0 [] L).length : Int) != IntKind.i64.wrap (2 + IntKind.i64.wrap ((repB f 0 0 0 [] L).getD 1 0)) then (Rp.zero, 30) else (⟨f, 0, 0, 0, [], numsN (cutF (repB f 0 0 0 [] L) 2) ((cutF (repB f 0 0 0 [] L) 2).length / 2)⟩, 0)) := by
    rcases hf with rfl | rfl | rfl <;> rfl
  rw [hT, hrow]
  have g1 : (f :: (2 * n) :: twos L).getD 1 0 = 2 * n := rfl
  have hc : cutF (f :: (2 * n) :: twos L) 2 = twos L := by rw [cutF_eq]; rfl
  have hl2 : (twos L).length / 2 = L.length := by rw [twos_length]; omega
  rw [g1, hc, hl2, IntWalk.i64_in n (by omega), IntWalk.i64_in (2 * n) (by omega), IntWalk.i64_in (2 + 2 * n) (by omega), if_neg (by simp [twos_length]; omega), nums_twos L hr L.length (Nat.le_refl _), List.take_length]
theorem own5 (f a n a2 : Int) (b : List Bool) (r : List Int) (hf : f = 5 ∨ f = 6 ∨ f = 22) (hk : encOk f n a2 b r = true) :
    repE f 0 a 0 b r = 0 ∧ rorepA ⟨f, a, n, a2, b, r⟩ (repB f 0 a 0 b r) (encR f a n a2 b r) 0 = (⟨f, 0, a, 0, b, r⟩, 0) ∧ (repB f 0 a 0 b r).getD 0 0 = f ∧ 2 ≤ (repB f 0 a 0 b r).length := by
  obtain ⟨h1, h2, h3⟩ := row5 f a n a2 b r hf hk
  have h5 := (expl_enc f a n a2 b r hk).2.2.1
  refine ⟨h1, ?_, by rw [h2]; exact h3, by rw [h2]; omega⟩
  rw [h2, rorep_go _ _ _ (by omega) h3 (by rcases hf with rfl | rfl | rfl <;> simp [known9])]
  have hT : ∀ l asked : List Int, rorepT ⟨f, a, n, a2, b, r⟩ l asked = (if !(l == asked) then (Rp.zero, 30) else (⟨f, 0, a, 0, b, r⟩, 0)) := fun l asked => by
    rcases hf with rfl | rfl | rfl <;> rfl
  rw [hT, if_neg (by simp)]
theorem own15 (f a n a2 : Int) (b : List Bool) (r : List Int) (k : Int) (hf : (f = 15 ∧ k = IntKind.u16.wrap b.length) ∨ (f = 16 ∧ k = IntKind.u16.wrap r.length)) (hk : encOk f n a2 b r = true) :
    repE f 0 a k [] [] = 0 ∧ rorepA ⟨f, a, n, a2, b, r⟩ (repB f 0 a k [] []) (encR f a n a2 b r) 0 = (⟨f, 0, a, k, [], []⟩, 0) ∧ (repB f 0 a k [] []).getD 0 0 = f ∧ 2 ≤ (repB f 0 a k [] []).length := by
  obtain ⟨h1, h2, h3, h4⟩ := row15b f a n a2 b r k hf hk
  have h5 := (expl_enc f a n a2 b r hk).2.2.1
  have h6 : ((encR f a n a2 b r).take 5).getD 0 0 = f := by rw [getD_take _ _ _ (by omega)]; exact h3
  have h7 : 2 ≤ ((encR f a n a2 b r).take 5).length := by simp; omega
  refine ⟨h1, ?_, by rw [h2]; exact h6, by rw [h2]; exact h7⟩
  rw [h2, rorep_go _ _ _ h7 h6 (by rcases hf with ⟨rfl, _⟩ | ⟨rfl, _⟩ <;> simp [known9])]
  have hT : ∀ l asked : List Int, rorepT ⟨f, a, n, a2, b, r⟩ l asked = (if !(l == asked.take 5) then (Rp.zero, 30) else (⟨f, 0, a, numAt l 3, [], []⟩, 0)) := fun l asked => by
    rcases hf with ⟨rfl, _⟩ | ⟨rfl, _⟩ <;> rfl
  rw [hT, if_neg (by simp), h4]
theorem ownX (q : Rq) (x : Int) (asked : List Int) (hk : known9 q.f) (hx : x ≠ 0) :
    repE q.f x 0 0 [] [] = 0 ∧ repB q.f x 0 0 [] [] = [or128 q.f, x] ∧ rorepA q [or128 q.f, x] asked 0 = (⟨q.f, x, 0, 0, [], []⟩, 0) := by
  have hlt : q.f < 128 := by rcases hk with h | h | h | h | h | h | h | h | h | h <;> omega
  have hok : repOk q.f x 0 0 [] [] = true := by
    unfold repOk
    rw [if_pos (by simpa using hx)]
    simp [hlt]
  refine ⟨by unfold repE; rw [if_pos hok], ?_, ?_⟩
  · unfold repB
    rw [if_pos hok]
    unfold repS
    rw [if_pos (by simpa using hx)]
  · unfold rorepA
    rw [if_neg (by decide), if_neg (by simp)]
    have g0 : ([or128 q.f, x] : List Int).getD 0 0 = or128 q.f := rfl
    have g1 : ([or128 q.f, x] : List Int).getD 1 0 = x := rfl
    rw [g0, g1, if_pos (by simp), if_neg (by simp), if_neg (by simpa using hx)]
/-- of another function's request it is no answer -/
theorem other_no (f o : Int) (a n a2 : Int) (b : List Bool) (r l : List Int) (hk : known9 f) (ho : o ≠ f) (h0 : l.getD 0 0 = f ∨ l.getD 0 0 = or128 f) : (rorepS ⟨o, a, n, a2, b, r⟩ l).2 = 30 := by
  unfold rorepS rorepA
  by_cases hE : encOk o n a2 b r = true
  · have hko : known9 o := (encOk12 o n a2 b r hE).2.2
    have e1 := or128_kn f hk
    have e2 := or128_kn o hko
    have lf : 0 ≤ f ∧ f < 128 := by rcases hk with h | h | h | h | h | h | h | h | h | h <;> omega
    have lo : 0 ≤ o ∧ o < 128 := by rcases hko with h | h | h | h | h | h | h | h | h | h <;> omega
    show (if (encE o n a2 b r != 0) = true then (Rp.zero, (30 : Int)) else if decide ((l.length : Int) < 2) = true then (Rp.zero, 30) else if (l.getD 0 0 == or128 o) = true then _ else if (l.getD 0 0 != o) = true then (Rp.zero, 30) else _).2 = 30
    split
    · rfl
    · split
      · rfl
      · rw [if_neg (by simp only [beq_iff_eq]; omega), if_pos (by simp only [bne_iff_ne]; omega)]
  · show (if (encE o n a2 b r != 0) = true then (Rp.zero, (30 : Int)) else _).2 = 30
    rw [if_pos (by unfold encE; rw [if_neg hE]; decide)]
end Go.Proofs.Ytomodeliimnddaa
set_option linter.unusedVariables false
set_option linter.unusedSimpArgs false
namespace Go.Proofs.Ytomodeliimnddaa
open Go.Ab
theorem senc_len (f a n a2 : Int) (b : List Bool) (r : List Int) (hb : b.length ≤ 2500) (hr : r.length ≤ 400) : (encR f a n a2 b r).length ≤ 1000 := by
  unfold encR
  split
  · unfold reqS
    repeat' split
    all_goals (simp [row15, rowR, pre3, two8, packN_length, twos_length]; try omega)
  · simp
theorem sserve_enc (I : Img) (f a n a2 : Int) (b : List Bool) (r : List Int) (hk : knownB f = true) (h : OkQ f a n a2 b r) (hr : r.length ≤ 400) :
    serveB I (encR f a n a2 b r) = (if thereB f a n a2 b r then doesB I f a n a2 b r else [or128 f, 2]) ∧ serveI I (encR f a n a2 b r) = (if thereB f a n a2 b r then doesI I f a n a2 b r else I) := by
  have hf : 0 ≤ f ∧ f < 256 ∧ f ≠ 0 := by
    simp only [knownB, Bool.or_eq_true, beq_iff_eq] at hk
    omega
  have hd := dec_enc f a n a2 b r ⟨hf.1, hf.2.1⟩ h.ha h.hn h.ha2 h.hx h.ok
  have hl := senc_len f a n a2 b r h.hb hr
  have h0 := (decS_ok _ hl (by rw [hd])).1
  rw [hd] at h0
  have h0 : f = (encR f a n a2 b r).getD 0 0 := h0
  have hne : encR f a n a2 b r ≠ [] := fun e => by rw [e] at h0; exact hf.2.2 h0
  unfold serveB serveI
  rw [if_neg hne, if_neg hne, ← h0, if_pos hk, if_pos hk, hd]
  simp only [if_true, excB_eq, ← h0]
  exact ⟨trivial, trivial⟩
def doesP (I : Img) (f a n a2 : Int) (b : List Bool) (r : List Int) : Rp :=
  if f == 1 || f == 2 then ⟨f, 0, 0, 0, (tgs I.o f a n.toNat).map fun x => x != 0, []⟩
  else if f == 3 || f == 4 then ⟨f, 0, 0, 0, [], tgs I.o f a n.toNat⟩
  else if f == 5 || f == 6 || f == 22 then ⟨f, 0, a, 0, b, r⟩
  else if f == 15 then ⟨f, 0, a, b.length, [], []⟩
  else if f == 16 then ⟨f, 0, a, r.length, [], []⟩
  else ⟨f, 0, 0, 0, [], tgs (tps I f a2 r).o f a n.toNat⟩
theorem tg_range {I : Img} (h : OkI I) (f n : Int) : 0 ≤ tg I.o f n ∧ tg I.o f n < 65536 := by
  unfold tg getV
  split
  · exact h _ _
  · decide
theorem tgs_range {I : Img} (h : OkI I) (f a : Int) (n : Nat) : ∀ x ∈ tgs I.o f a n, 0 ≤ x ∧ x < 65536 := by
  intro x hx
  unfold tgs at hx
  obtain ⟨i, _, rfl⟩ := List.mem_map.mp hx
  exact tg_range h _ _
theorem OkI.tp {I : Img} (h : OkI I) (f n v : Int) (hv : 0 ≤ v ∧ v < 65536) : OkI (tp I f n v) := h.put _ _ _ hv
theorem OkI.tpsN {I : Img} (h : OkI I) (f a : Int) (l : List Int) (hl : ∀ x ∈ l, 0 ≤ x ∧ x < 65536) : ∀ k, k ≤ l.length → OkI (tpsN I f a l k)
  | 0, _ => h
  | k + 1, hk => (OkI.tpsN h f a l hl k (by omega)).tp _ _ _ (by
      have e : l.getD k 0 = l[k] := by simp [List.getD_eq_getElem?_getD, List.getElem?_eq_getElem (show k < l.length by omega)]
      rw [e]; exact hl _ (List.getElem_mem _))
theorem OkI.tps {I : Img} (h : OkI I) (f a : Int) (l : List Int) (hl : ∀ x ∈ l, 0 ≤ x ∧ x < 65536) : OkI (tps I f a l) := h.tpsN f a l hl _ (Nat.le_refl _)
theorem OkI.does {I : Img} (h : OkI I) (f a n a2 : Int) (b : List Bool) (r : List Int) (hr : ∀ x ∈ r, 0 ≤ x ∧ x < 65536) : OkI (doesI I f a n a2 b r) := by
  unfold doesI
  repeat' split
  · exact h.tps _ _ _ fun x hx => by
      obtain ⟨t, _, rfl⟩ := List.mem_map.mp hx
      cases t <;> decide
  · exact h.tps _ _ _ hr
  · exact h.tp _ _ _ (maskV_pos _ _ _)
  · exact h.tps _ _ _ hr
  · exact h
theorem isB_take {l : List Int} (h : isB l) (k : Nat) : isB (l.take k) := fun x hx => h x (List.mem_of_mem_take hx)
theorem answered (I : Img) (hI : OkI I) (f a n a2 : Int) (b : List Bool) (r : List Int) (hk : knownB f = true) (hQ : OkQ f a n a2 b r) (hr : r.length ≤ 400) :
    rorepS ⟨f, a, n, a2, b, r⟩ (serveB I (encR f a n a2 b r)) = (if thereB f a n a2 b r then doesP I f a n a2 b r else ⟨f, 2, 0, 0, [], []⟩, 0) ∧ isB (serveB I (encR f a n a2 b r)) := by
  have hE : encE f n a2 b r = 0 := by unfold encE; rw [if_pos hQ.ok]
  have h9 : known9 f := by
    simp only [knownB, Bool.or_eq_true, beq_iff_eq] at hk
    unfold known9; omega
  rw [(sserve_enc I f a n a2 b r hk hQ hr).1]
  unfold rorepS
  simp only [hE]
  by_cases ht : thereB f a n a2 b r = true
  · rw [if_pos ht, if_pos ht]
    obtain ⟨ha, hn, ha2, hb, hr5, hx, ok⟩ := hQ
    have hf : 0 ≤ f ∧ f < 256 := by unfold known9 at h9; omega
    have hEB := enc_byte f a n a2 b r hf.1 hf.2
    rcases h9 with rfl | rfl | rfl | rfl | rfl | rfl | rfl | rfl | rfl | rfl
    · have hk : encOk 1 n a2 b r = true := ok
      simp [encOk, withinB] at hk
      obtain ⟨_, h2, _, _, h5⟩ := own12 1 a n a2 b r (encR 1 a n a2 b r) ((tgs I.o 1 a n.toNat).map fun x => x != 0) (by decide) (by omega) (by simp [tgs_length])
      exact ⟨h2, h5⟩
    · have hk : encOk 2 n a2 b r = true := ok
      simp [encOk, withinB] at hk
      obtain ⟨_, h2, _, _, h5⟩ := own12 2 a n a2 b r (encR 2 a n a2 b r) ((tgs I.o 2 a n.toNat).map fun x => x != 0) (by decide) (by omega) (by simp [tgs_length])
      exact ⟨h2, h5⟩
    · have hk : encOk 3 n a2 b r = true := ok
      simp [encOk, withinB] at hk
      obtain ⟨_, h2, _, _, h5⟩ := own3 3 a n a2 b r (encR 3 a n a2 b r) (tgs I.o 3 a n.toNat) (by decide) (by omega) (tgs_length _ _ _ _) (tgs_range hI _ _ _)
      exact ⟨h2, h5⟩
    · have hk : encOk 4 n a2 b r = true := ok
      simp [encOk, withinB] at hk
      obtain ⟨_, h2, _, _, h5⟩ := own3 4 a n a2 b r (encR 4 a n a2 b r) (tgs I.o 4 a n.toNat) (by decide) (by omega) (tgs_length _ _ _ _) (tgs_range hI _ _ _)
      exact ⟨h2, h5⟩
    · have hk : encOk 5 n a2 b r = true := ok
      simp [encOk, withinB] at hk
      obtain rfl : r = [] := by simp [hk]
      obtain ⟨_, h2, _, _⟩ := own5 5 a n a2 _ _ (by decide) ok
      refine ⟨h2, ?_⟩
      show isB (repB 5 0 a 0 _ _)
      rw [(row5 5 a n a2 _ _ (by decide) ok).2.1]
      exact hEB
    · have hk : encOk 6 n a2 b r = true := ok
      simp [encOk, withinB] at hk
      obtain rfl : b = [] := by simp [hk]
      obtain ⟨_, h2, _, _⟩ := own5 6 a n a2 _ _ (by decide) ok
      refine ⟨h2, ?_⟩
      show isB (repB 6 0 a 0 _ _)
      rw [(row5 6 a n a2 _ _ (by decide) ok).2.1]
      exact hEB
    · have hk : encOk 15 n a2 b r = true := ok
      simp [encOk, withinB] at hk
      obtain ⟨_, h2, _, _⟩ := own15 15 a n a2 b r b.length (.inl ⟨rfl, (wLen _ (by omega)).symm⟩) ok
      refine ⟨h2, ?_⟩
      show isB (repB 15 0 a b.length [] [])
      rw [(row15b 15 a n a2 b r b.length (.inl ⟨rfl, (wLen _ (by omega)).symm⟩) ok).2.1]
      exact isB_take hEB 5
    · have hk : encOk 16 n a2 b r = true := ok
      simp [encOk, withinB] at hk
      obtain ⟨_, h2, _, _⟩ := own15 16 a n a2 b r r.length (.inr ⟨rfl, (wLen _ (by omega)).symm⟩) ok
      refine ⟨h2, ?_⟩
      show isB (repB 16 0 a r.length [] [])
      rw [(row15b 16 a n a2 b r r.length (.inr ⟨rfl, (wLen _ (by omega)).symm⟩) ok).2.1]
      exact isB_take hEB 5
    · have hk : encOk 22 n a2 b r = true := ok
      simp [encOk, withinB] at hk
      obtain rfl : b = [] := by simp [hk]
      obtain ⟨_, h2, _, _⟩ := own5 22 a n a2 _ _ (by decide) ok
      refine ⟨h2, ?_⟩
      show isB (repB 22 0 a 0 _ _)
      rw [(row5 22 a n a2 _ _ (by decide) ok).2.1]
      exact hEB
    · have hk : encOk 23 n a2 b r = true := ok
      simp [encOk, withinB] at hk
      obtain ⟨_, h2, _, _, h5⟩ := own3 23 a n a2 b r (encR 23 a n a2 b r) (tgs (tps I 23 a2 r).o 23 a n.toNat) (by decide) (by omega) (tgs_length _ _ _ _) (tgs_range (hI.tps 23 a2 r hx) _ _ _)
      exact ⟨h2, h5⟩
  · rw [if_neg ht, if_neg ht]
    obtain ⟨_, _, h3⟩ := ownX ⟨f, a, n, a2, b, r⟩ 2 (encR f a n a2 b r) h9 (by decide)
    refine ⟨h3, fun x hx => ?_⟩
    rcases List.mem_cons.mp hx with rfl | hx
    · exact ⟨Int.emod_nonneg _ (by decide), Int.emod_lt_of_pos _ (by decide)⟩
    · rw [List.mem_singleton] at hx
      subst hx; decide
/- rung/runglaw25.SlaveAsks -/
def a23 : ACode := (.seq (.reg [⟨(some 4), .mov (.c (.bool false)), none, false⟩])
 (.seq (.seq (.reg [⟨(some 13), .call 69 [], none, false⟩, ⟨(some 14), .un .not (.t 13), none, false⟩])
 (.cond (.t 14) (.seq (.reg [⟨(some 4), .mov (.c (.bool false)), none, false⟩])
 .ret)
 .skip))
 (.seq (.seq (.reg [⟨(some 15), .mov (.t 0), none, false⟩, ⟨(some 16), .len false (.t 15), none, false⟩, ⟨(some 17), .bin .gtr .other (.t 16) (.c (.int .i64 100)), none, false⟩, ⟨(some 18), .mov (.t 17), none, true⟩, ⟨(some 19), .mov (.t 1), (some (18, false)), false⟩, ⟨(some 20), .len false (.t 19), (some (18, false)), false⟩, ⟨(some 21), .bin .gtr .other (.t 20) (.c (.int .i64 40)), (some (18, false)), false⟩, ⟨(some 22), .pick (.t 18) (.c (.bool true)) (.t 21), none, false⟩])
 (.cond (.t 22) (.seq (.reg [⟨(some 4), .mov (.c (.bool true)), none, false⟩])
 .ret)
 .skip))
 (.seq (.reg [⟨(some 24), .mov (.t 0), none, false⟩, ⟨(some 25), .call 70 [(.t 24)], none, false⟩, ⟨(some 23), .mov (.t 25), none, false⟩, ⟨(some 26), .ext (.t 23) 0, none, false⟩, ⟨(some 27), .ext (.t 23) 1, none, false⟩, ⟨(some 5), .mov (.t 26), none, false⟩, ⟨(some 6), .mov (.t 27), none, false⟩])
 (.seq (.seq (.reg [⟨(some 7), .mov (.c (.int .i64 0)), none, false⟩])
 (.block 0 (.loop (.seq (.seq (.reg [⟨(some 28), .mov (.t 7), none, false⟩, ⟨(some 29), .mov (.t 1), none, false⟩, ⟨(some 30), .len false (.t 29), none, false⟩, ⟨(some 31), .bin .lss .other (.t 28) (.t 30), none, false⟩])
 (.cond (.t 31) .skip
 (.exit 0)))
 (.seq (.block 1 (.seq (.seq (.reg [⟨(some 34), .mov (.t 1), none, false⟩, ⟨(some 35), .mov (.t 7), none, false⟩, ⟨(some 36), .idx 6 none true (.t 34) (.t 35), none, false⟩, ⟨(some 37), .fld 4 1 false (.t 36), none, false⟩, ⟨(some 38), .load false 1 (.t 37), none, false⟩, ⟨(some 39), .len false (.t 38), none, false⟩, ⟨(some 40), .bin .gtr .other (.t 39) (.c (.int .i64 2000)), none, false⟩, ⟨(some 41), .mov (.t 40), none, true⟩, ⟨(some 42), .mov (.t 1), (some (41, false)), false⟩, ⟨(some 43), .mov (.t 7), (some (41, false)), false⟩, ⟨(some 44), .idx 6 none true (.t 42) (.t 43), (some (41, false)), false⟩, ⟨(some 45), .fld 5 1 false (.t 44), (some (41, false)), false⟩, ⟨(some 46), .load false 1 (.t 45), (some (41, false)), false⟩, ⟨(some 47), .len false (.t 46), (some (41, false)), false⟩, ⟨(some 48), .bin .gtr .other (.t 47) (.c (.int .i64 200)), (some (41, false)), false⟩, ⟨(some 49), .pick (.t 41) (.c (.bool true)) (.t 48), none, false⟩])
 (.cond (.t 49) (.seq (.reg [⟨(some 4), .mov (.c (.bool true)), none, false⟩])
 .ret)
 .skip))
 (.seq (.reg [⟨(some 51), .mov (.t 1), none, false⟩, ⟨(some 52), .mov (.t 7), none, false⟩, ⟨(some 53), .idx 6 none true (.t 51) (.t 52), none, false⟩, ⟨(some 54), .load true 6 (.t 53), none, false⟩, ⟨(some 55), .call 49 [(.t 54)], none, false⟩, ⟨(some 50), .mov (.t 55), none, false⟩, ⟨(some 56), .ext (.t 50) 0, none, false⟩, ⟨(some 57), .ext (.t 50) 1, none, false⟩, ⟨(some 8), .mov (.t 56), none, false⟩, ⟨(some 9), .mov (.t 57), none, false⟩])
 (.seq (.seq (.reg [⟨(some 58), .mov (.t 9), none, false⟩, ⟨(some 59), .bin .neq .other (.t 58) (.c (.int .i64 0)), none, false⟩])
 (.cond (.t 59) (.exit 1)
 .skip))
 (.seq (.reg [⟨(some 60), .mov (.t 5), none, false⟩, ⟨(some 61), .mov (.t 8), none, false⟩, ⟨(some 62), .call 71 [(.t 60), (.t 61)], none, false⟩, ⟨(some 10), .mov (.t 62), none, false⟩])
 (.seq (.seq (.reg [⟨(some 63), .mov (.t 10), none, false⟩, ⟨(some 64), .mov (.t 6), none, false⟩, ⟨(some 65), .mov (.t 8), none, false⟩, ⟨(some 66), .call 92 [(.t 64), (.t 65)], none, false⟩, ⟨(some 67), .call 50 [(.t 63), (.t 66)], none, false⟩, ⟨(some 68), .un .not (.t 67), none, false⟩, ⟨(some 69), .mov (.t 68), none, true⟩, ⟨(some 70), .mov (.t 5), (some (69, false)), false⟩, ⟨(some 71), .mov (.t 6), (some (69, false)), false⟩, ⟨(some 72), .call 93 [(.t 70), (.t 71)], (some (69, false)), false⟩, ⟨(some 73), .un .not (.t 72), (some (69, false)), false⟩, ⟨(some 74), .pick (.t 69) (.c (.bool true)) (.t 73), none, false⟩])
 (.cond (.t 74) (.seq (.reg [⟨(some 4), .mov (.c (.bool false)), none, false⟩])
 .ret)
 .skip))
 (.seq (.reg [⟨(some 76), .mov (.t 1), none, false⟩, ⟨(some 77), .mov (.t 7), none, false⟩, ⟨(some 78), .idx 6 none true (.t 76) (.t 77), none, false⟩, ⟨(some 79), .load true 6 (.t 78), none, false⟩, ⟨(some 80), .mov (.t 10), none, false⟩, ⟨(some 81), .call 59 [(.t 79), (.t 80)], none, false⟩, ⟨(some 75), .mov (.t 81), none, false⟩, ⟨(some 82), .ext (.t 75) 0, none, false⟩, ⟨(some 83), .ext (.t 75) 1, none, false⟩, ⟨(some 11), .alloc [(2, (.int .u8 0)), (2, (.int .u16 0)), (2, .nils)], none, false⟩, ⟨none, .store 6 (.t 11) (.t 82), none, false⟩, ⟨(some 12), .mov (.t 83), none, false⟩])
 (.seq (.reg [⟨(some 84), .mov (.t 12), none, false⟩, ⟨(some 85), .bin .neq .other (.t 84) (.c (.int .i64 0)), none, false⟩, ⟨(some 86), .mov (.t 85), none, true⟩, ⟨(some 87), .fld 1 1 false (.t 11), (some (86, false)), false⟩, ⟨(some 88), .load false 1 (.t 87), (some (86, false)), false⟩, ⟨(some 89), .bin .neq .other (.t 88) (.c (.int .u8 0)), (some (86, false)), false⟩, ⟨(some 90), .mov (.t 89), (some (86, false)), true⟩, ⟨(some 91), .fld 1 1 false (.t 11), (some (90, true)), false⟩, ⟨(some 92), .load false 1 (.t 91), (some (90, true)), false⟩, ⟨(some 93), .bin .neq .other (.t 92) (.c (.int .u8 2)), (some (90, true)), false⟩, ⟨(some 94), .pick (.t 90) (.t 93) (.c (.bool false)), (some (86, false)), false⟩, ⟨(some 95), .pick (.t 86) (.c (.bool true)) (.t 94), none, false⟩])
 (.cond (.t 95) (.seq (.reg [⟨(some 4), .mov (.c (.bool false)), none, false⟩])
 .ret)
 .skip)))))))))
 (.reg [⟨(some 32), .mov (.t 7), none, false⟩, ⟨(some 33), .bin .add .other (.t 32) (.c (.int .i64 1)), none, false⟩, ⟨(some 7), .mov (.t 33), none, false⟩]))))))
 (.seq (.reg [⟨(some 4), .mov (.c (.bool true)), none, false⟩])
 .ret))))))
def r23 : List ARes := [.t 4]
theorem c23 : compF Try.prog Try.f23 = some (a23, r23) := by kernel_rfl

theorem b23 : hasBody Try.prog 23 = true := by kernel_rfl
theorem g23 : Try.prog.funcs[23]? = some Try.f23 := by kernel_rfl

theorem encOk_known {f n a2 : Int} {b : List Bool} {r : List Int} (h : encOk f n a2 b r = true) : knownB f = true := by
  unfold encOk at h
  unfold knownB
  repeat' (split at h)
  all_goals simp_all
theorem serveB_len (I : Img) (l : List Int) (hl : l.length ≤ 1000) : (serveB I l).length ≤ 253 := by
  by_cases h0 : l = []
  · subst h0
    show ([] : List Int).length ≤ 253
    decide
  · rcases tells I l h0 hl with ⟨t, h, _, k, _⟩ | ⟨c, h, _⟩
    · rw [h, List.length_cons]; omega
    · rw [h]; simp
theorem doesP_x (I : Img) (f a n a2 : Int) (b : List Bool) (r : List Int) : (doesP I f a n a2 b r).x = 0 := by
  unfold doesP
  repeat' split
  all_goals rfl
def OkA (q : Rq) : Prop := (0 ≤ q.f ∧ q.f < 256) ∧ (0 ≤ q.a ∧ q.a < 65536) ∧ (0 ≤ q.n ∧ q.n < 65536) ∧ (0 ≤ q.a2 ∧ q.a2 < 65536) ∧ ∀ x ∈ q.r, 0 ≤ x ∧ x < 65536
theorem law23_ok {q : Rq} (h : OkA q) (hb : q.b.length ≤ 2000) (hr : q.r.length ≤ 200) (hk : encOk q.f q.n q.a2 q.b q.r = true) : OkQ q.f q.a q.n q.a2 q.b q.r := ⟨h.2.1, h.2.2.1, h.2.2.2.1, by omega, by omega, h.2.2.2.2, hk⟩
set_option maxRecDepth 20000 in
theorem law23 (S : List Ptv) (Q : List Rq) (hS : ∀ x ∈ S, 0 ≤ x.v ∧ x.v < 65536) (hQ : ∀ q ∈ Q, OkA q) : Ev Try.prog 23 [.ro 3 (S.map ptvV), .ro 6 (Q.map rqA)] (.bool true) := by
  refine FrzK.ev rfl (trF g23 b23 c23 ?_)
  conv => whnf
  refine Ev.call known25 ?_
  conv => whnf
  refine condS (fun h => ?_) (fun h => ?_)
  · conv => whnf
    exact FrzK.le (Le.refl _)
  conv => whnf
  have hl : S.length ≤ 100 := by simp at h; omega
  refine condS (fun h => ?_) (fun h => ?_)
  · conv => whnf
    exact FrzK.le (Le.refl _)
  conv => whnf
  have hl2 : Q.length ≤ 40 := by simp at h; omega
  refine laidCall (laid_tr S hS (by omega)) rfl rfl fun I0 hI0 => ?_
  conv => whnf
  refine loopI (α := {i : Nat // i ≤ Q.length} × {I : Img // OkI I}) (fun q => [(0, .ro 3 (S.map ptvV)), (1, .ro 6 (Q.map rqA)), (5, .ptr 0 0), (6, .ptr 1 0), (7, .int .i64 q.1.1)]) (fun q => ⟨2, [(0, some (imC q.2.1)), (1, some (rmC q.2.1))]⟩) (fun q => Q.length - q.1.1) (⟨0, Nat.zero_le _⟩, ⟨I0, hI0⟩)
      ⟨[], rfl, rfl, rfl, ⟨⟨rfl, rfl⟩, ⟨rfl, rfl⟩, ⟨rfl, rfl⟩, ⟨rfl, rfl⟩, ⟨rfl, rfl⟩, trivial⟩, ⟨⟨trivial, rfl, rfl⟩, ⟨trivial, rfl, rfl⟩, trivial⟩⟩ fun ⟨⟨i, hi⟩, ⟨I, hI⟩⟩ => ?_
  conv => whnf
  by_cases hlt : i < Q.length
  · refine condY (by simp; omega) ?_
    conv => whnf
    obtain ⟨q, hqQ, hx⟩ := map_getD (f := rqA) hlt
    have hq := hQ q hqQ
    obtain ⟨f, a, n, a2, b, r⟩ := q
    have hx : (Q.map rqA).getD (Int.toNat (i : Int)) .undef = reqA f a n a2 (.roB b) (.roI .u16 r) := hx
    refine condT (by simp; omega) ?_
    rw [hx]
    conv => whnf
    refine condF (fun h => ?_) (fun h => ?_)
    rotate_left
    · conv => whnf
      exact FrzK.le (Le.refl _)
    have hb : b.length ≤ 2000 := by simp at h; omega
    conv => whnf
    refine condT (by simp; omega) ?_
    rw [hx]
    conv => whnf
    refine condF (fun h => ?_) (fun h => ?_)
    rotate_left
    · conv => whnf
      exact FrzK.le (Le.refl _)
    have hr : r.length ≤ 200 := by simp at h; omega
    conv => whnf
    refine condT (by simp; omega) ?_
    rw [hx]
    conv => whnf
    refine Ev.call (rRequest_ev f a n a2 b r hq.2.2.1.1 hq.2.2.1.2 (by omega) (by omega)) ?_
    by_cases hk : encOk f n a2 b r = true
    · have hE : encE f n a2 b r = 0 := by unfold encE; rw [if_pos hk]
      have hO := law23_ok (q := ⟨f, a, n, a2, b, r⟩) hq hb hr hk
      have hO : OkQ f a n a2 b r := hO
      have hkn := encOk_known hk
      obtain ⟨hA, hAB⟩ := answered I hI f a n a2 b r hkn hO (by omega)
      have hlen := senc_len f a n a2 b r hO.hb (by omega)
      have hby := enc_byte f a n a2 b r hq.1.1 hq.1.2
      rw [hE]
      conv => whnf
      refine blkCall (Serve_tr I _ hlen) rfl rfl rfl ?_
      conv => whnf
      refine blkCall (rServe_tr I _ hlen hby) rfl rfl rfl ?_
      conv => whnf
      refine Ev.call (bytes_same _) ?_
      conv => whnf
      refine twoCall (salike_tr _) rfl rfl rfl rfl ?_
      conv => whnf
      refine condT (by simp; omega) ?_
      rw [hx]
      conv => whnf
      have hOR := rOpenReply_ev f a n a2 b r (serveB I (encR f a n a2 b r)) hq.1 hq.2.2.1.1 hq.2.2.1.2 (by omega) (by omega) (by have := serveB_len I (encR f a n a2 b r) hlen; omega) hAB
      rw [hA] at hOR
      have hx2 : (if thereB f a n a2 b r then doesP I f a n a2 b r else (⟨f, 2, 0, 0, [], []⟩ : Rp)).x = 0 ∨ (if thereB f a n a2 b r then doesP I f a n a2 b r else (⟨f, 2, 0, 0, [], []⟩ : Rp)).x = 2 := by
        by_cases ht : thereB f a n a2 b r = true
        · rw [if_pos ht]; exact .inl (doesP_x _ _ _ _ _ _ _)
        · rw [if_neg ht]; exact .inr rfl
      have hJ : OkI (serveI I (encR f a n a2 b r)) := by
        rw [(sserve_enc I f a n a2 b r hkn hO (by omega)).2]
        split
        · exact hI.does _ _ _ _ _ _ hO.hx
        · exact hI
      clear hA
      generalize (if thereB f a n a2 b r then doesP I f a n a2 b r else (⟨f, 2, 0, 0, [], []⟩ : Rp)) = R at hOR hx2
      obtain ⟨Rf, Rx, Ra, Rn, Rb, Rr⟩ := R
      have hOR : Ev Try.prog 59 [reqA f a n a2 (.roB b) (.roI .u16 r), .roI .u8 (serveB I (encR f a n a2 b r))] (.tup [repA Rf Rx Ra Rn (.roB Rb) (.roI .u16 Rr), .int .i64 0]) := hOR
      refine Ev.call hOR ?_
      have hx2 : Rx = 0 ∨ Rx = 2 := hx2
      clear hOR
      rcases hx2 with rfl | rfl
      all_goals
        conv => whnf
        refine ⟨(⟨i + 1, hlt⟩, ⟨serveI I (encR f a n a2 b r), hJ⟩), ⟨[], rfl, rfl, rfl, ⟨⟨rfl, rfl⟩, ⟨rfl, rfl⟩, ⟨rfl, rfl⟩, ⟨rfl, rfl⟩, ⟨?_, rfl⟩, trivial⟩, ⟨⟨trivial, rfl, rfl⟩, ⟨trivial, rfl, rfl⟩, trivial⟩⟩, by show Q.length - (i + 1) < Q.length - i; omega⟩
        show AV.int .i64 (IntKind.i64.wrap ((i : Int) + 1)) = AV.int .i64 ((i + 1 : Nat) : Int)
        rw [s64 (by omega)]
    · have hE : encE f n a2 b r = 30 := by unfold encE; rw [if_neg hk]
      rw [hE]
      conv => whnf
      refine ⟨(⟨i + 1, hlt⟩, ⟨I, hI⟩), ⟨[], rfl, rfl, rfl, ⟨⟨rfl, rfl⟩, ⟨rfl, rfl⟩, ⟨rfl, rfl⟩, ⟨rfl, rfl⟩, ⟨?_, rfl⟩, trivial⟩, ⟨⟨trivial, rfl, rfl⟩, ⟨trivial, rfl, rfl⟩, trivial⟩⟩, by show Q.length - (i + 1) < Q.length - i; omega⟩
      show AV.int .i64 (IntKind.i64.wrap ((i : Int) + 1)) = AV.int .i64 ((i + 1 : Nat) : Int)
      rw [s64 (by omega)]
  · refine condN (by simp; omega) ?_
    conv => whnf
    exact FrzK.le (Le.refl _)
end Go.Proofs.Ytomodeliimnddaa
set_option linter.unusedVariables false
set_option linter.unusedSimpArgs false
namespace Go.Ab
open Go.ChangeShapes Go.WideShapes Go.RowKit Go.Deep
def noM : Nat → Prop := fun _ => False
section
variable {P : Program} {H : Type} {enc : TypeId × Value → H} {W : World} {r : Reach} {b : Nat} {held : Bool}
theorem wf_has {k : IntKind} {n : Int} (h : (Lit.int k n).wf = true) : k.min ≤ n ∧ n ≤ k.max := by
  simpa [Lit.wf] using h
theorem cell_addr {t e : TypeId} {a : Addr} {len cap : Nat} (ht : P.underlying t = some (.slice e)) (h : Cell.okWide P W r b t (.slice (some a) len cap)) : a.spot = none ∧ a.block < W.heap.size := by
  simp only [Cell.okWide, ht, Cell.ok] at h
  obtain ⟨_, _, _, h2, row, cells, h3, _⟩ := h
  exact ⟨h2, lt_of_shape h3⟩
theorem gInts {t e : TypeId} {k : IntKind} {fuel : Nat} {v : Value} {x : DataW H × List MemPlace} (hok : Cell.okWide P W r b t v) (ht : P.underlying t = some (.slice e)) (he : P.underlying e = some (.int k)) (hc : P.cellsOf e = 1)
    (h : DataW.trod enc P W 0 (fun _ => true) held fuel t [v] = some x) : ∃ l : List Int, GRel W noM (.roI k l) v ∧ ∀ n ∈ l, k.min ≤ n ∧ n ≤ k.max := by
  rcases open_ints ht he hc h with ⟨hcs, _⟩ | ⟨a, len, cap, zs, hcs, _, hl, hm, hz, _, hcell, hwf⟩
  · obtain rfl : v = .slice none 0 0 := by simpa using hcs
    exact ⟨[], .sliceNil _ 1 (fun j => .int k (([] : List Int).getD j 0)) rfl, by simp⟩
  · obtain rfl : v = .slice (some a) len cap := by simpa using hcs
    obtain ⟨h1, h2⟩ := cell_addr ht hok
    have hz : zs.length = cap := by simpa using hz
    have hlen : (zs.take len).length = len := by rw [List.length_take]; omega
    refine ⟨zs.take len, ?_, fun n hn => wf_has (hwf n (List.mem_of_mem_take hn))⟩
    have := GRel.slice (w := W) (M := noM) (.roI k (zs.take len)) 1 (zs.take len).length (fun j => .int k ((zs.take len).getD j 0)) a cap (fun j => .int k (zs.getD j 0)) rfl (fun _ => ⟨h1, fun h => h, h2⟩) (by omega) (fun _ _ => rfl) (fun j hj => by
      rw [← add_eq a j h1]; exact hcell j (by omega)) (fun j hj => by
      have : (zs.take len).getD j 0 = zs.getD j 0 := by
        have hj' : j < len := by omega
        simp [List.getD_eq_getElem?_getD, List.getElem?_take, hj']
      show GRel W noM (.int k ((zs.take len).getD j 0)) _
      rw [this]; exact .int k _)
    rw [hlen] at this
    exact this
theorem gBools {t e : TypeId} {fuel : Nat} {v : Value} {x : DataW H × List MemPlace} (hok : Cell.okWide P W r b t v) (ht : P.underlying t = some (.slice e)) (he : P.underlying e = some .bool) (hc : P.cellsOf e = 1)
    (h : DataW.trod enc P W 0 (fun _ => true) held fuel t [v] = some x) : ∃ l : List Bool, GRel W noM (.roB l) v := by
  rcases open_bools ht he hc h with ⟨hcs, _⟩ | ⟨a, len, cap, B, hcs, _, hl, hm, _, hcell⟩
  · obtain rfl : v = .slice none 0 0 := by simpa using hcs
    exact ⟨[], .sliceNil _ 1 (fun j => .bool (([] : List Bool).getD j false)) rfl⟩
  · obtain rfl : v = .slice (some a) len cap := by simpa using hcs
    obtain ⟨h1, h2⟩ := cell_addr ht hok
    have hlen : ((List.range len).map B).length = len := by simp
    refine ⟨(List.range len).map B, ?_⟩
    have := GRel.slice (w := W) (M := noM) (.roB ((List.range len).map B)) 1 ((List.range len).map B).length (fun j => .bool (((List.range len).map B).getD j false)) a cap (fun j => .bool (B j)) rfl (fun _ => ⟨h1, fun h => h, h2⟩) (by omega) (fun _ _ => rfl) (fun j hj => by
      rw [← add_eq a j h1]; exact hcell j (by omega)) (fun j hj => by
      have : ((List.range len).map B).getD j false = B j := by
        have hj' : j < len := by omega
        simp [List.getD_eq_getElem?_getD, hj']
      show GRel W noM (.bool (((List.range len).map B).getD j false)) _
      rw [this]; exact .bool _)
    rw [hlen] at this
    exact this
theorem gInt {t : TypeId} {k : IntKind} {fuel : Nat} {v : Value} {x : DataW H × List MemPlace} (ht : P.underlying t = some (.int k)) (h : DataW.trod enc P W 0 (fun _ => true) held fuel t [v] = some x) :
    ∃ n, v = .int k n ∧ k.min ≤ n ∧ n ≤ k.max := by
  obtain ⟨n, h1, _, h2⟩ := DataW.trod_int ht h
  exact ⟨n, by simpa using h1, wf_has h2⟩
/-- a field of one cell -/
theorem gField {t : TypeId} {fs : Array Field} {fuel : Nat} {cs : List Value} {x : DataW H × List MemPlace} (ht : P.underlying t = some (.struct fs)) (h : DataW.trod enc P W 0 (fun _ => true) held fuel t cs = some x)
    (j : Nat) (f : Field) (hj : fs[j]? = some f) (ho : f.offset = j) (hc : P.cellsOf f.type = 1) (hl : j < cs.length) : ∃ n y, DataW.trod enc P W 0 (fun _ => true) held n f.type [cs.getD j default] = some y := by
  obtain ⟨xs, n, _, _, _, hxl, hf⟩ := DataW.trod_struct ht h
  have h1 := hf j f hj
  rw [ho, hc] at h1
  have hone : (cs.drop j).take 1 = [cs.getD j default] := by
    have h2 : cs.getD j default = cs[j] := by simp [List.getD_eq_getElem?_getD, List.getElem?_eq_getElem hl]
    rw [h2, List.drop_eq_getElem_cons hl]
    rfl
  rw [hone] at h1
  have hjl : j < fs.size := (Array.getElem?_eq_some_iff.1 hj).1
  exact ⟨n, _, h1.trans (List.getElem?_eq_getElem (show j < xs.length by omega))⟩
/-- a struct of four numbers, a row of truth values, a row of numbers -/
theorem gSix {t : TypeId} {f0 f1 f2 f3 f4 f5 : Field} {k0 k1 k2 k3 k5 : IntKind} {e4 e5 : TypeId} {v : Value} {d : DataW H} {p : List MemPlace} (hs : P.underlying t = some (.struct #[f0, f1, f2, f3, f4, f5]))
    (ho : f0.offset = 0 ∧ f1.offset = 1 ∧ f2.offset = 2 ∧ f3.offset = 3 ∧ f4.offset = 4 ∧ f5.offset = 5)
    (h0 : P.underlying f0.type = some (.int k0)) (h1 : P.underlying f1.type = some (.int k1)) (h2 : P.underlying f2.type = some (.int k2)) (h3 : P.underlying f3.type = some (.int k3))
    (h4 : P.underlying f4.type = some (.slice e4)) (h5 : P.underlying f5.type = some (.slice e5)) (g4 : P.underlying e4 = some .bool) (g5 : P.underlying e5 = some (.int k5))
    (hc : P.cellsOf f0.type = 1 ∧ P.cellsOf f1.type = 1 ∧ P.cellsOf f2.type = 1 ∧ P.cellsOf f3.type = 1 ∧ P.cellsOf f4.type = 1 ∧ P.cellsOf f5.type = 1) (c4 : P.cellsOf e4 = 1) (c5 : P.cellsOf e5 = 1) (hC : P.cellsOf t = 6)
    (hct : P.cellTypes P.depth t = some [f0.type, f1.type, f2.type, f3.type, f4.type, f5.type]) (hval : Value.okWide P W r b t v) (h : DataW.Trod enc P W 0 (fun _ => true) held t v d p) :
    ∃ (n0 n1 n2 n3 : Int) (B : List Bool) (R : List Int), GRel W noM (.agg [.int k0 n0, .int k1 n1, .int k2 n2, .int k3 n3, .roB B, .roI k5 R]) v ∧ (k0.min ≤ n0 ∧ n0 ≤ k0.max) ∧ (k1.min ≤ n1 ∧ n1 ≤ k1.max) ∧ (k2.min ≤ n2 ∧ n2 ≤ k2.max) ∧ (k3.min ≤ n3 ∧ n3 ≤ k3.max) ∧ ∀ n ∈ R, k5.min ≤ n ∧ n ≤ k5.max := by
  obtain ⟨cs, rfl, hsz⟩ := okWide_struct hs hval
  rw [hC] at hsz
  have hrow : Row.okWide P W r b t cs := by
    simp only [Value.okWide, hs] at hval
    obtain ⟨cs', h1, _, h3⟩ := hval
    cases h1
    exact h3
  obtain ⟨ts, hts, _, hcell⟩ := hrow
  rw [hct] at hts
  cases hts
  obtain ⟨fuel, hf⟩ := h
  have hf : DataW.trod enc P W 0 (fun _ => true) held fuel t cs.toList = some (d, p) := hf
  have hl : cs.toList.length = 6 := by simpa using hsz
  have hg : ∀ j, cs.toList.getD j default = cs.getD j default := fun j => by simp [List.getD_eq_getElem?_getD, Array.getD_eq_getD_getElem?]
  have hsome : ∀ j, j < 6 → cs[j]? = some (cs.getD j default) := fun j hj => by
    have : j < cs.size := by omega
    simp [Array.getD, this]
  obtain ⟨m0, y0, q0⟩ := gField hs hf 0 f0 rfl ho.1 hc.1 (by omega)
  obtain ⟨m1, y1, q1⟩ := gField hs hf 1 f1 rfl ho.2.1 hc.2.1 (by omega)
  obtain ⟨m2, y2, q2⟩ := gField hs hf 2 f2 rfl ho.2.2.1 hc.2.2.1 (by omega)
  obtain ⟨m3, y3, q3⟩ := gField hs hf 3 f3 rfl ho.2.2.2.1 hc.2.2.2.1 (by omega)
  obtain ⟨m4, y4, q4⟩ := gField hs hf 4 f4 rfl ho.2.2.2.2.1 hc.2.2.2.2.1 (by omega)
  obtain ⟨m5, y5, q5⟩ := gField hs hf 5 f5 rfl ho.2.2.2.2.2 hc.2.2.2.2.2 (by omega)
  rw [hg] at q0 q1 q2 q3 q4 q5
  obtain ⟨n0, r0, s0⟩ := gInt h0 q0
  obtain ⟨n1, r1, s1⟩ := gInt h1 q1
  obtain ⟨n2, r2, s2⟩ := gInt h2 q2
  obtain ⟨n3, r3, s3⟩ := gInt h3 q3
  obtain ⟨u4, i4, o4⟩ := hcell 4 _ (hsome 4 (by omega))
  obtain ⟨u5, i5, o5⟩ := hcell 5 _ (hsome 5 (by omega))
  cases i4
  cases i5
  obtain ⟨B, r4⟩ := gBools o4 h4 g4 c4 q4
  obtain ⟨R, r5, s5⟩ := gInts o5 h5 g5 c5 q5
  refine ⟨n0, n1, n2, n3, B, R, .agg _ cs hsz fun j hj => ?_, s0, s1, s2, s3, s5⟩
  match j, hj with
  | 0, _ => rw [r0]; exact .int _ _
  | 1, _ => rw [r1]; exact .int _ _
  | 2, _ => rw [r2]; exact .int _ _
  | 3, _ => rw [r3]; exact .int _ _
  | 4, _ => exact r4
  | 5, _ => exact r5
  | j + 6, hj => simp at hj; omega
/-- what a statement's walk needs, from a contract -/
theorem Ev.calls {f : Nat} {args : List AV} {Vs : Array Value} (h : Ev P f args (.bool true)) (hs : Vs.size = args.length) (hV : ∀ j, j < args.length → GRel W noM (args.getD j .undef) (Vs.getD j default)) :
    Calls P f Vs W fun e W' => e = .returned (.bool true) ∧ Below W.heap.size W W' := by
  obtain ⟨_, ht⟩ := h
  unfold Tr at ht
  have hR : Rep (fun _ => none) ⟨0, []⟩ W noM := ⟨fun _ _ => rfl, fun h c hg => (by cases hg), fun h h' c c' p p' hg => (by cases hg), fun b hb => False.elim hb⟩
  refine Calls.mono (ht.2 (fun _ => none) W noM Vs hR ⟨hs, fun j hj => .g _ _ (hV j hj)⟩) fun e W' he => ?_
  obtain ⟨V, ι', M', v, s', rfl, ⟨rfl, rfl⟩, h1, h2, h3⟩ := he
  obtain rfl := h1.bool_inv
  exact ⟨rfl, h3.os, h3.tape, h3.output, h3.size, fun k hk => h3.block k hk fun ⟨h, c, base, hg, _⟩ => by cases hg⟩
end
end Go.Ab
set_option linter.unusedVariables false
set_option linter.unusedSimpArgs false
namespace Go.Ab
open Go.ChangeShapes Go.WideShapes Go.RowKit Go.Deep
/-- what lies in one cell: a number, a truth value, a row of numbers, of truth values -/
inductive CK where
  | int (k : IntKind)
  | bool
  | ints (k : IntKind)
  | bools
def CK.v : CK → AV → Prop
  | .int k, v => ∃ n, v = .int k n ∧ k.min ≤ n ∧ n ≤ k.max
  | .bool, v => ∃ b, v = .bool b
  | .ints k, v => ∃ l, v = .roI k l ∧ ∀ n ∈ l, k.min ≤ n ∧ n ≤ k.max
  | .bools, v => ∃ l, v = .roB l
def CK.ok (P : Program) (t : TypeId) : CK → Bool
  | .int k => match P.underlying t with
    | some (.int k') => decide (k' = k)
    | _ => false
  | .bool => match P.underlying t with
    | some .bool => true
    | _ => false
  | .ints k => match P.underlying t with
    | some (.slice e) => (match P.underlying e with
      | some (.int k') => decide (k' = k)
      | _ => false) && Nat.beq (P.cellsOf e) 1
    | _ => false
  | .bools => match P.underlying t with
    | some (.slice e) => (match P.underlying e with
      | some .bool => true
      | _ => false) && Nat.beq (P.cellsOf e) 1
    | _ => false
def CKs : List CK → List AV → Prop
  | [], [] => True
  | c :: cs, v :: vs => c.v v ∧ CKs cs vs
  | _, _ => False
theorem CKs.length : ∀ {cs : List CK} {l : List AV}, CKs cs l → l.length = cs.length
  | [], [], _ => rfl
  | c :: cs, v :: vs, h => by simp [CKs.length h.2]
  | [], _ :: _, h => h.elim
  | _ :: _, [], h => h.elim
theorem CKs.of : ∀ {cs : List CK} {l : List AV}, l.length = cs.length → (∀ j (c : CK), cs[j]? = some c → c.v (l.getD j .undef)) → CKs cs l
  | [], [], _, _ => trivial
  | c :: cs, v :: vs, hl, h => ⟨by simpa using h 0 c rfl, CKs.of (by simpa using hl) fun j d hd => by simpa using h (j + 1) d (by simpa using hd)⟩
  | [], _ :: _, hl, _ => by simp at hl
  | _ :: _, [], hl, _ => by simp at hl
theorem CK.one {c : CK} {v : AV} (h : c.v v) : v.flat = [v] := by
  cases c
  · obtain ⟨n, rfl, _⟩ := h; rfl
  · obtain ⟨b, rfl⟩ := h; rfl
  · obtain ⟨l, rfl, _⟩ := h; rfl
  · obtain ⟨l, rfl⟩ := h; rfl
section
variable {P : Program} {H : Type} {enc : TypeId × Value → H} {W : World} {held : Bool}
theorem cell_spot {a : Addr} {v : Value} (h : W.cell? a = some v) : a.spot = none ∧ a.block < W.heap.size := by
  obtain ⟨e, n, h1, _, h3⟩ := World.shape?_of_cell? h
  exact ⟨h3, lt_of_shape h1⟩
theorem gCell {c : CK} {t : TypeId} {fuel : Nat} {v : Value} {x : DataW H × List MemPlace} (hok : c.ok P t = true) (h : DataW.trod enc P W 0 (fun _ => true) held fuel t [v] = some x) : ∃ av, c.v av ∧ GRel W noM av v := by
  cases c with
  | int k =>
    simp only [CK.ok] at hok
    split at hok
    · rename_i k' ht
      obtain rfl := of_decide_eq_true hok
      obtain ⟨n, rfl, h1⟩ := gInt ht h
      exact ⟨_, ⟨n, rfl, h1⟩, .int _ _⟩
    · cases hok
  | bool =>
    simp only [CK.ok] at hok
    split at hok
    · rename_i ht
      obtain ⟨b, h1, _⟩ := DataW.trod_bool ht h
      obtain rfl : v = .bool b := by simpa using h1
      exact ⟨_, ⟨b, rfl⟩, .bool _⟩
    · cases hok
  | ints k =>
    simp only [CK.ok] at hok
    split at hok
    · rename_i e ht
      simp only [Bool.and_eq_true] at hok
      obtain ⟨h1, h2⟩ := hok
      split at h1
      · rename_i k' he
        obtain rfl := of_decide_eq_true h1
        have hc : P.cellsOf e = 1 := Nat.eq_of_beq_eq_true h2
        rcases open_ints ht he hc h with ⟨hcs, _⟩ | ⟨a, len, cap, zs, hcs, _, hl, hm, hz, _, hcell, hwf⟩
        · obtain rfl : v = .slice none 0 0 := by simpa using hcs
          exact ⟨.roI k' [], ⟨[], rfl, by simp⟩, .sliceNil _ 1 (fun j => .int k' (([] : List Int).getD j 0)) rfl⟩
        · obtain rfl : v = .slice (some a) len cap := by simpa using hcs
          have hz : zs.length = cap := by simpa using hz
          have hlen : (zs.take len).length = len := by rw [List.length_take]; omega
          refine ⟨.roI k' (zs.take len), ⟨_, rfl, fun n hn => wf_has (hwf n (List.mem_of_mem_take hn))⟩, ?_⟩
          have hsp : 0 < len → a.spot = none ∧ ¬ noM a.block ∧ a.block < W.heap.size := fun h0 => by
            have := hcell 0 (by omega)
            obtain ⟨q1, q2⟩ := cell_spot (a := a) (by simpa [Addr.add] using this)
            exact ⟨q1, fun h => h, q2⟩
          have := GRel.slice (w := W) (M := noM) (.roI k' (zs.take len)) 1 (zs.take len).length (fun j => .int k' ((zs.take len).getD j 0)) a cap (fun j => .int k' (zs.getD j 0)) rfl (fun h => hsp (by omega)) (by omega) (fun _ _ => rfl) (fun j hj => by
            rw [← add_eq a j (hsp (by omega)).1]; exact hcell j (by omega)) (fun j hj => by
            have : (zs.take len).getD j 0 = zs.getD j 0 := by
              have hj' : j < len := by omega
              simp [List.getD_eq_getElem?_getD, List.getElem?_take, hj']
            show GRel W noM (.int k' ((zs.take len).getD j 0)) _
            rw [this]; exact .int k' _)
          rw [hlen] at this
          exact this
      · cases h1
    · cases hok
  | bools =>
    simp only [CK.ok] at hok
    split at hok
    · rename_i e ht
      simp only [Bool.and_eq_true] at hok
      obtain ⟨h1, h2⟩ := hok
      split at h1
      · rename_i he
        have hc : P.cellsOf e = 1 := Nat.eq_of_beq_eq_true h2
        rcases open_bools ht he hc h with ⟨hcs, _⟩ | ⟨a, len, cap, B, hcs, _, hl, hm, _, hcell⟩
        · obtain rfl : v = .slice none 0 0 := by simpa using hcs
          exact ⟨.roB [], ⟨[], rfl⟩, .sliceNil _ 1 (fun j => .bool (([] : List Bool).getD j false)) rfl⟩
        · obtain rfl : v = .slice (some a) len cap := by simpa using hcs
          have hlen : ((List.range len).map B).length = len := by simp
          refine ⟨.roB ((List.range len).map B), ⟨_, rfl⟩, ?_⟩
          have hsp : 0 < len → a.spot = none ∧ ¬ noM a.block ∧ a.block < W.heap.size := fun h0 => by
            have := hcell 0 (by omega)
            obtain ⟨q1, q2⟩ := cell_spot (a := a) (by simpa [Addr.add] using this)
            exact ⟨q1, fun h => h, q2⟩
          have := GRel.slice (w := W) (M := noM) (.roB ((List.range len).map B)) 1 ((List.range len).map B).length (fun j => .bool (((List.range len).map B).getD j false)) a cap (fun j => .bool (B j)) rfl (fun h => hsp (by omega)) (by omega) (fun _ _ => rfl) (fun j hj => by
            rw [← add_eq a j (hsp (by omega)).1]; exact hcell j (by omega)) (fun j hj => by
            have : ((List.range len).map B).getD j false = B j := by
              have hj' : j < len := by omega
              simp [List.getD_eq_getElem?_getD, hj']
            show GRel W noM (.bool (((List.range len).map B).getD j false)) _
            rw [this]; exact .bool _)
          rw [hlen] at this
          exact this
      · cases h1
    · cases hok
/-- the fields of a struct of such cells -/
def fieldsOk (P : Program) : Nat → List Field → List CK → Bool
  | _, [], [] => true
  | j, f :: fs, c :: cs => Nat.beq f.offset j && Nat.beq (P.cellsOf f.type) 1 && c.ok P f.type && fieldsOk P (j + 1) fs cs
  | _, _, _ => false
def structOk (P : Program) (t : TypeId) (cs : List CK) : Bool :=
  match P.underlying t with
  | some (.struct fs) => fieldsOk P 0 fs.toList cs && Nat.beq (P.cellsOf t) cs.length
  | _ => false
theorem fieldsOk_get : ∀ (fs : List Field) (cs : List CK) (j0 : Nat), fieldsOk P j0 fs cs = true → fs.length = cs.length ∧ ∀ j f c, fs[j]? = some f → cs[j]? = some c → f.offset = j0 + j ∧ P.cellsOf f.type = 1 ∧ c.ok P f.type = true
  | [], [], _, _ => ⟨rfl, fun j f c h => by simp at h⟩
  | f :: fs, c :: cs, j0, h => by
    simp only [fieldsOk, Bool.and_eq_true] at h
    obtain ⟨⟨⟨h1, h2⟩, h3⟩, h4⟩ := h
    obtain ⟨h5, h6⟩ := fieldsOk_get fs cs (j0 + 1) h4
    refine ⟨by simp [h5], fun j f' c' hf hc => ?_⟩
    cases j with
    | zero =>
      simp only [List.getElem?_cons_zero, Option.some.injEq] at hf hc
      subst hf; subst hc
      exact ⟨Nat.eq_of_beq_eq_true h1, Nat.eq_of_beq_eq_true h2, h3⟩
    | succ j =>
      have := h6 j f' c' (by simpa using hf) (by simpa using hc)
      exact ⟨by omega, this.2⟩
  | [], _ :: _, _, h => by simp [fieldsOk] at h
  | _ :: _, [], _, h => by simp [fieldsOk] at h
/-- a struct's cells -/
theorem gStruct {t : TypeId} {cks : List CK} {fuel : Nat} {cs : List Value} {x : DataW H × List MemPlace} (hs : structOk P t cks = true) (hl : cs.length = cks.length) (h : DataW.trod enc P W 0 (fun _ => true) held fuel t cs = some x) :
    ∃ l : List AV, CKs cks l ∧ ∀ j, j < cks.length → GRel W noM (l.getD j .undef) (cs.getD j default) := by
  unfold structOk at hs
  split at hs
  · rename_i fs ht
    simp only [Bool.and_eq_true] at hs
    obtain ⟨h1, h2⟩ := hs
    obtain ⟨h3, h4⟩ := fieldsOk_get _ _ _ h1
    have each : ∀ j, j < cks.length → ∃ av, (∀ c, cks[j]? = some c → c.v av) ∧ GRel W noM av (cs.getD j default) := fun j hj => by
      have hjf : j < fs.size := by simp at h3; omega
      obtain ⟨q1, q2, q3⟩ := h4 j fs[j] cks[j] (by simp [hjf]) (by simp [hj])
      obtain ⟨n, y, hy⟩ := gField ht h j fs[j] (by simp [hjf]) (by simpa using q1) q2 (by omega)
      obtain ⟨av, r1, r2⟩ := gCell q3 hy
      exact ⟨av, fun c hc => by
        rw [List.getElem?_eq_getElem hj] at hc
        cases hc
        exact r1, r2⟩
    obtain ⟨E, hE⟩ := choose_lt each
    have hlen : ((List.range cks.length).map E).length = cks.length := by simp
    have hget : ∀ j, j < cks.length → ((List.range cks.length).map E).getD j .undef = E j := fun j hj => by simp [List.getD_eq_getElem?_getD, hj]
    refine ⟨(List.range cks.length).map E, CKs.of hlen fun j c hc => ?_, fun j hj => ?_⟩
    · have hj : j < cks.length := (List.getElem?_eq_some_iff.1 hc).1
      rw [hget j hj]
      exact (hE j hj).1 c hc
    · rw [hget j hj]
      exact (hE j hj).2
  · cases hs
/-- a row of structs -/
theorem gStructs {t e : TypeId} {cks : List CK} {fuel : Nat} {v : Value} {x : DataW H × List MemPlace} (ht : P.underlying t = some (.slice e)) (hs : structOk P e cks = true) (h0 : 0 < cks.length)
    (h : DataW.trod enc P W 0 (fun _ => true) held fuel t [v] = some x) : ∃ L : List (List AV), (∀ l ∈ L, CKs cks l) ∧ GRel W noM (.ro cks.length (L.map .agg)) v := by
  have hce : P.cellsOf e = cks.length := by
    unfold structOk at hs
    split at hs
    · simp only [Bool.and_eq_true] at hs
      exact Nat.eq_of_beq_eq_true hs.2
    · cases hs
  rcases open_slice ht h with ⟨hcs, _⟩ | ⟨a, len, cap, m, n, D, Pl, hcs, _, hl, hm, hmm, _, hx⟩
  · obtain rfl : v = .slice none 0 0 := by simpa using hcs
    exact ⟨[], by simp, .sliceNil _ cks.length (fun j => ((([] : List AV).getD (j / cks.length) .undef).flat.getD (j % cks.length) .undef)) rfl⟩
  · obtain rfl : v = .slice (some a) len cap := by simpa using hcs
    simp only [if_true] at hmm
    subst hmm
    have each : ∀ i, i < len → ∃ l : List AV, CKs cks l ∧ ∀ j, j < cks.length → ∃ V, W.cell? ((a.add (i * cks.length)).add j) = some V ∧ GRel W noM (l.getD j .undef) V := fun i hi => by
      obtain ⟨cs', h1, h2⟩ := hx i (by omega)
      rw [hce] at h1
      obtain ⟨_, h3, h4⟩ := World.cells?_some h1
      obtain ⟨l, h5, h6⟩ := gStruct hs h3 h2
      refine ⟨l, h5, fun j hj => ⟨cs'.getD j default, ?_, h6 j hj⟩⟩
      have hj' : j < cs'.length := by omega
      rw [h4 j hj, List.getD_eq_getElem?_getD, List.getElem?_eq_getElem hj']
      rfl
    obtain ⟨E, hE⟩ := choose_lt each
    have hsp : 0 < len → a.spot = none ∧ ¬ noM a.block ∧ a.block < W.heap.size := fun hp => by
      obtain ⟨V, h1, _⟩ := (hE 0 hp).2 0 h0
      obtain ⟨q1, q2⟩ := cell_spot (a := a) (by simpa [Addr.add] using h1)
      exact ⟨q1, fun h => h, q2⟩
    have hlen : (((List.range len).map E).map AV.agg).length = len := by simp
    refine ⟨(List.range len).map E, fun l hl' => ?_, ?_⟩
    · simp only [List.mem_map, List.mem_range] at hl'
      obtain ⟨i, hi, rfl⟩ := hl'
      exact (hE i hi).1
    have hgetE : ∀ i, i < len → (((List.range len).map E).map AV.agg).getD i .undef = .agg (E i) := fun i hi => by simp [List.getD_eq_getElem?_getD, hi]
    have cell : ∀ j, j < len * cks.length → ∃ V, W.cell? ⟨a.block, a.off + j, none⟩ = some V ∧ GRel W noM (((((List.range len).map E).map AV.agg).getD (j / cks.length) .undef).flat.getD (j % cks.length) .undef) V := fun j hj => by
      have hi : j / cks.length < len := (Nat.div_lt_iff_lt_mul h0).2 hj
      have hj2 : j % cks.length < cks.length := Nat.mod_lt _ h0
      obtain ⟨V, h1, h2⟩ := (hE _ hi).2 _ hj2
      refine ⟨V, ?_, ?_⟩
      · rw [add_add, Nat.div_add_mod' j cks.length, add_eq a j (hsp (Nat.lt_of_le_of_lt (Nat.zero_le _) hi)).1] at h1
        exact h1
      · rw [hgetE _ hi]
        exact h2
    obtain ⟨G, hG⟩ := choose_lt cell
    have := GRel.slice (w := W) (M := noM) (.ro cks.length (((List.range len).map E).map AV.agg)) cks.length len (fun j => ((((List.range len).map E).map AV.agg).getD (j / cks.length) .undef).flat.getD (j % cks.length) .undef) a m G
      (by simp only [AV.rov, hlen]) hsp hl (fun i hi => by
        show ((((List.range len).map E).map AV.agg).getD i .undef).flat.length = _
        rw [hgetE i hi]
        exact (hE i hi).1.length) (fun j hj => (hG j hj).1) (fun j hj => (hG j hj).2)
    exact this
/-- a row of rows of numbers -/
theorem gRows {t e : TypeId} {k : IntKind} {fuel : Nat} {v : Value} {x : DataW H × List MemPlace} (ht : P.underlying t = some (.slice e)) (hs : (CK.ints k).ok P e = true) (hce : P.cellsOf e = 1)
    (h : DataW.trod enc P W 0 (fun _ => true) held fuel t [v] = some x) : ∃ L : List (List Int), (∀ l ∈ L, ∀ n ∈ l, k.min ≤ n ∧ n ≤ k.max) ∧ GRel W noM (.ro 1 (L.map (.roI k))) v := by
  rcases open_slice ht h with ⟨hcs, _⟩ | ⟨a, len, cap, m, n, D, Pl, hcs, _, hl, hm, hmm, _, hx⟩
  · obtain rfl : v = .slice none 0 0 := by simpa using hcs
    exact ⟨[], by simp, .sliceNil _ 1 (fun j => ((([] : List AV).getD (j / 1) .undef).flat.getD (j % 1) .undef)) rfl⟩
  · obtain rfl : v = .slice (some a) len cap := by simpa using hcs
    simp only [if_true] at hmm
    subst hmm
    have each : ∀ i, i < len → ∃ l : List Int, (∀ n ∈ l, k.min ≤ n ∧ n ≤ k.max) ∧ ∃ V, W.cell? (a.add i) = some V ∧ GRel W noM (.roI k l) V := fun i hi => by
      obtain ⟨cs', h1, h2⟩ := hx i (by omega)
      rw [hce, Nat.mul_one] at h1
      obtain ⟨_, h3, h4⟩ := World.cells?_some h1
      match cs', h3 with
      | [c], _ =>
        obtain ⟨av, h5, h6⟩ := gCell hs h2
        obtain ⟨l, rfl, h7⟩ := h5
        refine ⟨l, h7, c, ?_, h6⟩
        have := h4 0 (by omega)
        simpa [Addr.add] using this
    obtain ⟨E, hE⟩ := choose_lt each
    have hsp : 0 < len → a.spot = none ∧ ¬ noM a.block ∧ a.block < W.heap.size := fun hp => by
      obtain ⟨V, h1, _⟩ := (hE 0 hp).2
      obtain ⟨q1, q2⟩ := cell_spot (a := a) (by simpa [Addr.add] using h1)
      exact ⟨q1, fun h => h, q2⟩
    have hlen : (((List.range len).map E).map (AV.roI k)).length = len := by simp
    refine ⟨(List.range len).map E, fun l hl' => ?_, ?_⟩
    · simp only [List.mem_map, List.mem_range] at hl'
      obtain ⟨i, hi, rfl⟩ := hl'
      exact (hE i hi).1
    have hgetE : ∀ i, i < len → (((List.range len).map E).map (AV.roI k)).getD i .undef = .roI k (E i) := fun i hi => by simp [List.getD_eq_getElem?_getD, hi]
    have cell : ∀ j, j < len * 1 → ∃ V, W.cell? ⟨a.block, a.off + j, none⟩ = some V ∧ GRel W noM (((((List.range len).map E).map (AV.roI k)).getD (j / 1) .undef).flat.getD (j % 1) .undef) V := fun j hj => by
      have hj : j < len := by omega
      obtain ⟨V, h1, h2⟩ := (hE j hj).2
      refine ⟨V, ?_, ?_⟩
      · rw [add_eq a j (hsp (by omega)).1] at h1
        exact h1
      · rw [Nat.div_one, Nat.mod_one, hgetE _ hj]
        exact h2
    obtain ⟨G, hG⟩ := choose_lt cell
    have := GRel.slice (w := W) (M := noM) (.ro 1 (((List.range len).map E).map (AV.roI k))) 1 len (fun j => ((((List.range len).map E).map (AV.roI k)).getD (j / 1) .undef).flat.getD (j % 1) .undef) a m G
      (by simp only [AV.rov, hlen]) hsp hl (fun i hi => by
        show ((((List.range len).map E).map (AV.roI k)).getD i .undef).flat.length = _
        rw [hgetE i hi]
        rfl) (fun j hj => (hG j hj).1) (fun j hj => (hG j hj).2)
    exact this
/-- a struct, by value -/
theorem gStructV {t : TypeId} {cks : List CK} {r : Reach} {b : Nat} {v : Value} {d : DataW H} {p : List MemPlace} (hs : structOk P t cks = true) (hval : Value.okWide P W r b t v) (h : DataW.Trod enc P W 0 (fun _ => true) held t v d p) :
    ∃ l : List AV, CKs cks l ∧ GRel W noM (.agg l) v := by
  have hs' := hs
  unfold structOk at hs
  split at hs
  · rename_i fs ht
    simp only [Bool.and_eq_true] at hs
    obtain ⟨cs, rfl, hsz⟩ := okWide_struct ht hval
    obtain ⟨fuel, hf⟩ := h
    have hf : DataW.trod enc P W 0 (fun _ => true) held fuel t cs.toList = some (d, p) := hf
    have hc := Nat.eq_of_beq_eq_true hs.2
    obtain ⟨l, h1, h2⟩ := gStruct hs' (by simp; omega) hf
    have hg : ∀ j, cs.toList.getD j default = cs.getD j default := fun j => by simp [List.getD_eq_getElem?_getD, Array.getD_eq_getD_getElem?]
    refine ⟨l, h1, .agg l cs (by rw [h1.length]; omega) fun j hj => ?_⟩
    rw [← hg]
    exact h2 j (by rw [← h1.length]; exact hj)
  · cases hs
end
/-- a list of values that are all of a form -/
theorem list_form {α β : Type} {f : α → β} {Q : α → Prop} : ∀ (L : List β), (∀ l ∈ L, ∃ s, l = f s ∧ Q s) → ∃ S : List α, L = S.map f ∧ ∀ s ∈ S, Q s
  | [], _ => ⟨[], rfl, by simp⟩
  | l :: L, h => by
    obtain ⟨s, rfl, hs⟩ := h l (by simp)
    obtain ⟨S, rfl, hS⟩ := list_form L fun l hl => h l (by simp [hl])
    exact ⟨s :: S, rfl, fun t ht => by
      rcases List.mem_cons.1 ht with rfl | ht
      · exact hs
      · exact hS t ht⟩
end Go.Ab
set_option linter.unusedVariables false
set_option linter.unusedSimpArgs false
namespace Go.Proofs.Ytomodeliimnddaa
open Go.Ab
theorem puts_arg {W : World} {v : Value} {L : List (List AV)} (h : ∀ l ∈ L, CKs [.int .i64, .int .i64, .int .u16] l) (g : GRel W noM (.ro 3 (L.map .agg)) v) : ∃ S : List Ptv, GRel W noM (.ro 3 (S.map ptvV)) v ∧ ∀ x ∈ S, 0 ≤ x.v ∧ x.v < 65536 := by
  obtain ⟨S, rfl, hS⟩ := list_form (f := fun x : Ptv => [AV.int .i64 x.ar, .int .i64 x.of, .int .u16 x.v]) (Q := fun x => 0 ≤ x.v ∧ x.v < 65536) L fun l hl => by
    have hc := h l hl
    match l, hc.length, hc with
    | [a, b, d], _, hc =>
      obtain ⟨⟨a, rfl, _⟩, ⟨b, rfl, _⟩, ⟨d, rfl, hd, hd2⟩, _⟩ := hc
      exact ⟨⟨a, b, d⟩, rfl, hd, Int.lt_add_one_of_le hd2⟩
  exact ⟨S, by rw [List.map_map] at g; exact g, hS⟩
theorem bytes_isB {l : List Int} (h : ∀ n ∈ l, IntKind.u8.min ≤ n ∧ n ≤ IntKind.u8.max) : isB l := fun n hn => ⟨(h n hn).1, Int.lt_add_one_of_le (h n hn).2⟩
theorem rows_isB {L : List (List Int)} (h : ∀ l ∈ L, ∀ n ∈ l, IntKind.u8.min ≤ n ∧ n ≤ IntKind.u8.max) : ∀ l ∈ L, isB l := fun l hl => bytes_isB (h l hl)
end Go.Proofs.Ytomodeliimnddaa
set_option linter.unusedVariables false
set_option linter.unusedSimpArgs false
namespace Go.Proofs.Ytomodeliimnddaa
open Go.Ab
theorem reqs_arg {W : World} {v : Value} {L : List (List AV)} (h : ∀ l ∈ L, CKs [.int .u8, .int .u16, .int .u16, .int .u16, .bools, .ints .u16] l) (g : GRel W noM (.ro 6 (L.map .agg)) v) : ∃ Q : List Rq, GRel W noM (.ro 6 (Q.map rqA)) v ∧ ∀ q ∈ Q, OkA q := by
  obtain ⟨S, rfl, hS⟩ := list_form (f := fun q : Rq => [AV.int .u8 q.f, .int .u16 q.a, .int .u16 q.n, .int .u16 q.a2, .roB q.b, .roI .u16 q.r]) (Q := OkA) L fun l hl => by
    have hc := h l hl
    match l, hc.length, hc with
    | [f, a, n, a2, b, r], _, hc =>
      obtain ⟨⟨f, rfl, f1, f2⟩, ⟨a, rfl, a1, a2'⟩, ⟨n, rfl, n1, n2⟩, ⟨a2, rfl, b1, b2⟩, ⟨b, rfl⟩, ⟨r, rfl, hr⟩, _⟩ := hc
      exact ⟨⟨f, a, n, a2, b, r⟩, rfl, ⟨f1, Int.lt_add_one_of_le f2⟩, ⟨a1, Int.lt_add_one_of_le a2'⟩, ⟨n1, Int.lt_add_one_of_le n2⟩, ⟨b1, Int.lt_add_one_of_le b2⟩, fun x hx => ⟨(hr x hx).1, Int.lt_add_one_of_le (hr x hx).2⟩⟩
  exact ⟨S, by rw [List.map_map] at g; exact g, hS⟩
end Go.Proofs.Ytomodeliimnddaa
