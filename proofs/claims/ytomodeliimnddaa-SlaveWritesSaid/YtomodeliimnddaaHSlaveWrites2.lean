/- Statements of layer 25: a read behind a write. From a statement's arguments to the engine's values; a statement's row from a contract. From a statement's arguments to the engine's values: rows of structs, rows of rows, structs. Arguments of the statements of layer 25. -/
import Derived.Test.YtomodeliimnddaaRows
import Derived.WalkKit
import Derived.ProofKit
import Derived.OpenShut
import Derived.ShutString
import Derived.ChangeOld
import Derived.Below
import Derived.Deep.Grids
import Derived.Deep.Slices
import Derived.Test.YtomodeliimnddaaHSlaveWrites1
import Derived.Test.YtomodeliimnddaaHEngD
set_option linter.unusedVariables false
set_option linter.unusedSimpArgs false
namespace Go.Proofs.Ytomodeliimnddaa
open Go.Ab
/- rung/runglaw25.SlaveWrites -/
def a24 : ACode := (.seq (.reg [⟨(some 12), .mov (.c (.bool false)), none, false⟩])
 (.seq (.seq (.reg [⟨(some 29), .call 69 [], none, false⟩, ⟨(some 30), .un .not (.t 29), none, false⟩])
 (.cond (.t 30) (.seq (.reg [⟨(some 12), .mov (.c (.bool false)), none, false⟩])
 .ret)
 .skip))
 (.seq (.seq (.reg [⟨(some 31), .mov (.t 0), none, false⟩, ⟨(some 32), .len false (.t 31), none, false⟩, ⟨(some 33), .bin .gtr .other (.t 32) (.c (.int .i64 100)), none, false⟩, ⟨(some 34), .mov (.t 33), none, true⟩, ⟨(some 35), .mov (.t 2), (some (34, false)), false⟩, ⟨(some 36), .len false (.t 35), (some (34, false)), false⟩, ⟨(some 37), .bin .gtr .other (.t 36) (.c (.int .i64 100)), (some (34, false)), false⟩, ⟨(some 38), .pick (.t 34) (.c (.bool true)) (.t 37), none, false⟩, ⟨(some 39), .mov (.t 38), none, true⟩, ⟨(some 40), .mov (.t 3), (some (39, false)), false⟩, ⟨(some 41), .len false (.t 40), (some (39, false)), false⟩, ⟨(some 42), .bin .gtr .other (.t 41) (.c (.int .i64 200)), (some (39, false)), false⟩, ⟨(some 43), .pick (.t 39) (.c (.bool true)) (.t 42), none, false⟩])
 (.cond (.t 43) (.seq (.reg [⟨(some 12), .mov (.c (.bool true)), none, false⟩])
 .ret)
 .skip))
 (.seq (.reg [⟨(some 45), .mov (.t 0), none, false⟩, ⟨(some 46), .call 70 [(.t 45)], none, false⟩, ⟨(some 44), .mov (.t 46), none, false⟩, ⟨(some 47), .ext (.t 44) 0, none, false⟩, ⟨(some 48), .ext (.t 44) 1, none, false⟩, ⟨(some 13), .mov (.t 47), none, false⟩, ⟨(some 14), .mov (.t 48), none, false⟩])
 (.seq (.reg [⟨(some 49), .mov (.t 1), none, false⟩, ⟨(some 50), .bin .rem .other (.t 49) (.c (.int .u16 128)), none, false⟩, ⟨(some 1), .mov (.t 50), none, false⟩])
 (.seq (.reg [⟨(some 51), .mov (.t 2), none, false⟩, ⟨(some 52), .mov (.t 2), none, false⟩, ⟨(some 53), .len false (.t 52), none, false⟩, ⟨(some 54), .mov (.t 1), none, false⟩, ⟨(some 55), .conv (.int .i64) (.t 54), none, false⟩, ⟨(some 56), .bin .sub .other (.c (.int .i64 128)) (.t 55), none, false⟩, ⟨(some 57), .mn (.t 53) (.t 56), none, false⟩, ⟨(some 58), .slice (.sl 1) (.t 51) none (some (.t 57)), none, false⟩, ⟨(some 2), .mov (.t 58), none, false⟩])
 (.seq (.seq (.reg [⟨(some 59), .mov (.t 2), none, false⟩, ⟨(some 60), .len false (.t 59), none, false⟩, ⟨(some 61), .bin .gtr .other (.t 60) (.c (.int .i64 0)), none, false⟩])
 (.cond (.t 61) (.seq (.reg [⟨(some 63), .mov (.t 1), none, false⟩, ⟨(some 64), .mov (.t 2), none, false⟩, ⟨(some 65), .build [(.int .u8 0), (.int .u16 0), (.int .u16 0), (.int .u16 0), .nils, .nils] [(0, 1, (.c (.int .u8 16))), (1, 1, (.t 63)), (5, 1, (.t 64))], none, false⟩, ⟨(some 66), .call 49 [(.t 65)], none, false⟩, ⟨(some 62), .mov (.t 66), none, false⟩, ⟨(some 67), .ext (.t 62) 0, none, false⟩, ⟨(some 68), .ext (.t 62) 1, none, false⟩, ⟨(some 15), .mov (.t 67), none, false⟩, ⟨(some 16), .mov (.t 68), none, false⟩])
 (.seq (.reg [⟨(some 69), .mov (.t 1), none, false⟩, ⟨(some 70), .mov (.t 2), none, false⟩, ⟨(some 71), .len false (.t 70), none, false⟩, ⟨(some 72), .conv (.int .u16) (.t 71), none, false⟩, ⟨(some 73), .build [(.int .u8 0), (.int .u16 0), (.int .u16 0), (.int .u16 0), .nils, .nils] [(0, 1, (.c (.int .u8 3))), (1, 1, (.t 69)), (2, 1, (.t 72))], none, false⟩, ⟨(some 17), .alloc [(1, (.int .u8 0)), (3, (.int .u16 0)), (2, .nils)], none, false⟩, ⟨none, .store 6 (.t 17) (.t 73), none, false⟩])
 (.seq (.reg [⟨(some 75), .load true 6 (.t 17), none, false⟩, ⟨(some 76), .call 49 [(.t 75)], none, false⟩, ⟨(some 74), .mov (.t 76), none, false⟩, ⟨(some 77), .ext (.t 74) 0, none, false⟩, ⟨(some 78), .ext (.t 74) 1, none, false⟩, ⟨(some 18), .mov (.t 77), none, false⟩, ⟨(some 19), .mov (.t 78), none, false⟩])
 (.seq (.reg [⟨(some 79), .mov (.t 13), none, false⟩, ⟨(some 80), .mov (.t 15), none, false⟩, ⟨(some 81), .call 71 [(.t 79), (.t 80)], none, false⟩])
 (.seq (.reg [⟨(some 82), .mov (.t 14), none, false⟩, ⟨(some 83), .mov (.t 15), none, false⟩, ⟨(some 84), .call 92 [(.t 82), (.t 83)], none, false⟩])
 (.seq (.draw [⟨0, ⟨(some 86), .load true 6 (.t 17), none, false⟩, false, [], []⟩, ⟨1, ⟨(some 87), .mov (.t 13), none, false⟩, false, [], []⟩, ⟨2, ⟨(some 88), .mov (.t 18), none, false⟩, false, [], []⟩, ⟨8, ⟨(some 20), .alloc [(2, (.int .u8 0)), (2, (.int .u16 0)), (2, .nils)], none, false⟩, false, [], []⟩, ⟨3, ⟨(some 89), .call 71 [(.t 87), (.t 88)], none, false⟩, true, [], [(.t 17)]⟩, ⟨4, ⟨(some 90), .call 59 [(.t 86), (.t 89)], none, false⟩, true, [], []⟩, ⟨5, ⟨(some 85), .mov (.t 90), none, false⟩, false, [], []⟩, ⟨6, ⟨(some 91), .ext (.t 85) 0, none, false⟩, false, [], []⟩, ⟨7, ⟨(some 92), .ext (.t 85) 1, none, false⟩, false, [], []⟩, ⟨9, ⟨none, .store 6 (.t 20) (.t 91), none, false⟩, true, [8], []⟩, ⟨10, ⟨(some 21), .mov (.t 92), none, false⟩, false, [], []⟩])
 (.seq (.seq (.reg [⟨(some 93), .mov (.t 21), none, false⟩, ⟨(some 94), .bin .neq .other (.t 93) (.c (.int .i64 0)), none, false⟩, ⟨(some 95), .mov (.t 94), none, true⟩, ⟨(some 96), .fld 5 1 false (.t 20), (some (95, false)), false⟩, ⟨(some 97), .load false 1 (.t 96), (some (95, false)), false⟩, ⟨(some 98), .mov (.t 2), (some (95, false)), false⟩, ⟨(some 99), .call 35 [(.t 97), (.t 98)], (some (95, false)), false⟩, ⟨(some 100), .un .not (.t 99), (some (95, false)), false⟩, ⟨(some 101), .pick (.t 95) (.c (.bool true)) (.t 100), none, false⟩, ⟨(some 102), .mov (.t 101), none, true⟩, ⟨(some 103), .mov (.t 13), (some (102, false)), false⟩, ⟨(some 104), .mov (.t 14), (some (102, false)), false⟩, ⟨(some 105), .call 93 [(.t 103), (.t 104)], (some (102, false)), false⟩, ⟨(some 106), .un .not (.t 105), (some (102, false)), false⟩, ⟨(some 107), .pick (.t 102) (.c (.bool true)) (.t 106), none, false⟩])
 (.cond (.t 107) (.seq (.reg [⟨(some 12), .mov (.c (.bool false)), none, false⟩])
 .ret)
 .skip))
 (.seq (.reg [⟨(some 108), .mov (.t 1), none, false⟩, ⟨(some 109), .mov (.t 2), none, false⟩, ⟨(some 110), .len false (.t 109), none, false⟩, ⟨(some 111), .conv (.int .u16) (.t 110), none, false⟩, ⟨(some 112), .mov (.t 1), none, false⟩, ⟨(some 113), .mov (.t 2), none, false⟩, ⟨(some 114), .build [(.int .u8 0), (.int .u16 0), (.int .u16 0), (.int .u16 0), .nils, .nils] [(0, 1, (.c (.int .u8 23))), (1, 1, (.t 108)), (2, 1, (.t 111)), (3, 1, (.t 112)), (5, 1, (.t 113))], none, false⟩, ⟨none, .store 6 (.t 17) (.t 114), none, false⟩])
 (.seq (.reg [⟨(some 116), .load true 6 (.t 17), none, false⟩, ⟨(some 117), .call 49 [(.t 116)], none, false⟩, ⟨(some 115), .mov (.t 117), none, false⟩, ⟨(some 118), .ext (.t 115) 0, none, false⟩, ⟨(some 119), .ext (.t 115) 1, none, false⟩, ⟨(some 18), .mov (.t 118), none, false⟩])
 (.seq (.draw [⟨0, ⟨(some 121), .load true 6 (.t 17), none, false⟩, false, [], []⟩, ⟨1, ⟨(some 122), .mov (.t 13), none, false⟩, false, [], []⟩, ⟨2, ⟨(some 123), .mov (.t 18), none, false⟩, false, [], []⟩, ⟨3, ⟨(some 124), .call 71 [(.t 122), (.t 123)], none, false⟩, true, [], [(.t 17)]⟩, ⟨4, ⟨(some 125), .call 59 [(.t 121), (.t 124)], none, false⟩, true, [], []⟩, ⟨5, ⟨(some 120), .mov (.t 125), none, false⟩, false, [], []⟩, ⟨6, ⟨(some 126), .ext (.t 120) 0, none, false⟩, false, [], []⟩, ⟨7, ⟨(some 127), .ext (.t 120) 1, none, false⟩, false, [], []⟩, ⟨8, ⟨none, .store 6 (.t 20) (.t 126), none, false⟩, true, [], []⟩, ⟨9, ⟨(some 21), .mov (.t 127), none, false⟩, false, [], []⟩])
 (.seq (.seq (.reg [⟨(some 128), .mov (.t 21), none, false⟩, ⟨(some 129), .bin .neq .other (.t 128) (.c (.int .i64 0)), none, false⟩, ⟨(some 130), .mov (.t 129), none, true⟩, ⟨(some 131), .fld 5 1 false (.t 20), (some (130, false)), false⟩, ⟨(some 132), .load false 1 (.t 131), (some (130, false)), false⟩, ⟨(some 133), .mov (.t 2), (some (130, false)), false⟩, ⟨(some 134), .call 35 [(.t 132), (.t 133)], (some (130, false)), false⟩, ⟨(some 135), .un .not (.t 134), (some (130, false)), false⟩, ⟨(some 136), .pick (.t 130) (.c (.bool true)) (.t 135), none, false⟩, ⟨(some 137), .mov (.t 136), none, true⟩, ⟨(some 138), .mov (.t 13), (some (137, false)), false⟩, ⟨(some 139), .mov (.t 14), (some (137, false)), false⟩, ⟨(some 140), .call 93 [(.t 138), (.t 139)], (some (137, false)), false⟩, ⟨(some 141), .un .not (.t 140), (some (137, false)), false⟩, ⟨(some 142), .pick (.t 137) (.c (.bool true)) (.t 141), none, false⟩])
 (.cond (.t 142) (.seq (.reg [⟨(some 12), .mov (.c (.bool false)), none, false⟩])
 .ret)
 .skip))
 (.seq (.reg [⟨(some 144), .mov (.t 1), none, false⟩, ⟨(some 145), .mov (.t 4), none, false⟩, ⟨(some 146), .mov (.t 5), none, false⟩, ⟨(some 147), .bslice 1 (.int .u16) [(.int .u16 0), (.int .u16 0)] [(0, 1, (.t 145)), (1, 1, (.t 146))] 2, none, false⟩, ⟨(some 148), .build [(.int .u8 0), (.int .u16 0), (.int .u16 0), (.int .u16 0), .nils, .nils] [(0, 1, (.c (.int .u8 22))), (1, 1, (.t 144)), (5, 1, (.t 147))], none, false⟩, ⟨(some 149), .call 49 [(.t 148)], none, false⟩, ⟨(some 143), .mov (.t 149), none, false⟩, ⟨(some 150), .ext (.t 143) 0, none, false⟩, ⟨(some 151), .ext (.t 143) 1, none, false⟩, ⟨(some 18), .mov (.t 150), none, false⟩])
 (.seq (.reg [⟨(some 152), .mov (.t 13), none, false⟩, ⟨(some 153), .mov (.t 18), none, false⟩, ⟨(some 154), .call 71 [(.t 152), (.t 153)], none, false⟩])
 (.seq (.reg [⟨(some 155), .mov (.t 1), none, false⟩, ⟨(some 156), .build [(.int .u8 0), (.int .u16 0), (.int .u16 0), (.int .u16 0), .nils, .nils] [(0, 1, (.c (.int .u8 3))), (1, 1, (.t 155)), (2, 1, (.c (.int .u16 1)))], none, false⟩, ⟨none, .store 6 (.t 17) (.t 156), none, false⟩])
 (.seq (.reg [⟨(some 158), .load true 6 (.t 17), none, false⟩, ⟨(some 159), .call 49 [(.t 158)], none, false⟩, ⟨(some 157), .mov (.t 159), none, false⟩, ⟨(some 160), .ext (.t 157) 0, none, false⟩, ⟨(some 161), .ext (.t 157) 1, none, false⟩, ⟨(some 18), .mov (.t 160), none, false⟩])
 (.seq (.draw [⟨0, ⟨(some 163), .load true 6 (.t 17), none, false⟩, false, [], []⟩, ⟨1, ⟨(some 164), .mov (.t 13), none, false⟩, false, [], []⟩, ⟨2, ⟨(some 165), .mov (.t 18), none, false⟩, false, [], []⟩, ⟨3, ⟨(some 166), .call 71 [(.t 164), (.t 165)], none, false⟩, true, [], [(.t 17)]⟩, ⟨4, ⟨(some 167), .call 59 [(.t 163), (.t 166)], none, false⟩, true, [], []⟩, ⟨5, ⟨(some 162), .mov (.t 167), none, false⟩, false, [], []⟩, ⟨6, ⟨(some 168), .ext (.t 162) 0, none, false⟩, false, [], []⟩, ⟨7, ⟨(some 169), .ext (.t 162) 1, none, false⟩, false, [], []⟩, ⟨8, ⟨none, .store 6 (.t 20) (.t 168), none, false⟩, true, [], []⟩, ⟨9, ⟨(some 21), .mov (.t 169), none, false⟩, false, [], []⟩])
 (.seq (.draw [⟨0, ⟨(some 170), .mov (.t 21), none, false⟩, false, [], []⟩, ⟨1, ⟨(some 171), .bin .neq .other (.t 170) (.c (.int .i64 0)), none, false⟩, false, [], []⟩, ⟨2, ⟨(some 172), .mov (.t 171), none, true⟩, false, [], []⟩, ⟨3, ⟨(some 173), .fld 5 1 false (.t 20), (some (172, false)), false⟩, false, [], []⟩, ⟨4, ⟨(some 174), .load false 1 (.t 173), (some (172, false)), false⟩, false, [], []⟩, ⟨5, ⟨(some 175), .len false (.t 174), (some (172, false)), false⟩, false, [], []⟩, ⟨6, ⟨(some 176), .bin .neq .other (.t 175) (.c (.int .i64 1)), (some (172, false)), false⟩, false, [], []⟩, ⟨7, ⟨(some 177), .pick (.t 172) (.c (.bool true)) (.t 176), none, false⟩, false, [], []⟩, ⟨8, ⟨(some 178), .mov (.t 177), none, true⟩, false, [], []⟩, ⟨9, ⟨(some 179), .fld 5 1 false (.t 20), (some (178, false)), false⟩, false, [], []⟩, ⟨10, ⟨(some 180), .load false 1 (.t 179), (some (178, false)), false⟩, false, [], []⟩, ⟨11, ⟨(some 181), .idx 1 none false (.t 180) (.c (.int .i64 0)), (some (178, false)), false⟩, false, [], []⟩, ⟨12, ⟨(some 182), .load false 1 (.t 181), (some (178, false)), false⟩, false, [], []⟩, ⟨13, ⟨(some 183), .mov (.t 2), (some (178, false)), false⟩, false, [], []⟩, ⟨14, ⟨(some 184), .idx 1 none false (.t 183) (.c (.int .i64 0)), (some (178, false)), false⟩, false, [], []⟩, ⟨15, ⟨(some 185), .load false 1 (.t 184), (some (178, false)), false⟩, false, [], []⟩, ⟨16, ⟨(some 186), .mov (.t 4), (some (178, false)), false⟩, false, [], []⟩, ⟨17, ⟨(some 187), .bin .and .other (.t 185) (.t 186), (some (178, false)), false⟩, false, [], []⟩, ⟨18, ⟨(some 188), .mov (.t 5), (some (178, false)), false⟩, false, [], []⟩, ⟨19, ⟨(some 189), .mov (.t 4), (some (178, false)), false⟩, false, [], []⟩, ⟨20, ⟨(some 190), .bin .andNot .other (.t 188) (.t 189), (some (178, false)), false⟩, false, [], []⟩, ⟨21, ⟨(some 191), .bin .or .other (.t 187) (.t 190), (some (178, false)), false⟩, false, [], []⟩, ⟨22, ⟨(some 192), .bin .neq .other (.t 182) (.t 191), (some (178, false)), false⟩, false, [], []⟩, ⟨23, ⟨(some 193), .pick (.t 178) (.c (.bool true)) (.t 192), none, false⟩, false, [], []⟩])
 (.cond (.t 193) (.seq (.reg [⟨(some 12), .mov (.c (.bool false)), none, false⟩])
 .ret)
 .skip))))))))))))))))))
 .skip))
 (.seq (.seq (.reg [⟨(some 194), .mov (.t 3), none, false⟩, ⟨(some 195), .len false (.t 194), none, false⟩, ⟨(some 196), .bin .gtr .other (.t 195) (.c (.int .i64 0)), none, false⟩])
 (.cond (.t 196) (.seq (.reg [⟨(some 197), .mov (.t 3), none, false⟩, ⟨(some 198), .mov (.t 3), none, false⟩, ⟨(some 199), .len false (.t 198), none, false⟩, ⟨(some 200), .mov (.t 1), none, false⟩, ⟨(some 201), .conv (.int .i64) (.t 200), none, false⟩, ⟨(some 202), .bin .sub .other (.c (.int .i64 256)) (.t 201), none, false⟩, ⟨(some 203), .mn (.t 199) (.t 202), none, false⟩, ⟨(some 204), .slice (.sl 1) (.t 197) none (some (.t 203)), none, false⟩, ⟨(some 3), .mov (.t 204), none, false⟩])
 (.seq (.reg [⟨(some 206), .mov (.t 1), none, false⟩, ⟨(some 207), .mov (.t 3), none, false⟩, ⟨(some 208), .build [(.int .u8 0), (.int .u16 0), (.int .u16 0), (.int .u16 0), .nils, .nils] [(0, 1, (.c (.int .u8 15))), (1, 1, (.t 206)), (4, 1, (.t 207))], none, false⟩, ⟨(some 209), .call 49 [(.t 208)], none, false⟩, ⟨(some 205), .mov (.t 209), none, false⟩, ⟨(some 210), .ext (.t 205) 0, none, false⟩, ⟨(some 211), .ext (.t 205) 1, none, false⟩, ⟨(some 22), .mov (.t 210), none, false⟩, ⟨(some 23), .mov (.t 211), none, false⟩])
 (.seq (.reg [⟨(some 212), .mov (.t 1), none, false⟩, ⟨(some 213), .mov (.t 3), none, false⟩, ⟨(some 214), .len false (.t 213), none, false⟩, ⟨(some 215), .conv (.int .u16) (.t 214), none, false⟩, ⟨(some 216), .build [(.int .u8 0), (.int .u16 0), (.int .u16 0), (.int .u16 0), .nils, .nils] [(0, 1, (.c (.int .u8 1))), (1, 1, (.t 212)), (2, 1, (.t 215))], none, false⟩, ⟨(some 24), .alloc [(1, (.int .u8 0)), (3, (.int .u16 0)), (2, .nils)], none, false⟩, ⟨none, .store 6 (.t 24) (.t 216), none, false⟩])
 (.seq (.reg [⟨(some 218), .load true 6 (.t 24), none, false⟩, ⟨(some 219), .call 49 [(.t 218)], none, false⟩, ⟨(some 217), .mov (.t 219), none, false⟩, ⟨(some 220), .ext (.t 217) 0, none, false⟩, ⟨(some 221), .ext (.t 217) 1, none, false⟩, ⟨(some 25), .mov (.t 220), none, false⟩, ⟨(some 26), .mov (.t 221), none, false⟩])
 (.seq (.reg [⟨(some 222), .mov (.t 13), none, false⟩, ⟨(some 223), .mov (.t 22), none, false⟩, ⟨(some 224), .call 71 [(.t 222), (.t 223)], none, false⟩])
 (.seq (.draw [⟨0, ⟨(some 226), .load true 6 (.t 24), none, false⟩, false, [], []⟩, ⟨1, ⟨(some 227), .mov (.t 13), none, false⟩, false, [], []⟩, ⟨2, ⟨(some 228), .mov (.t 25), none, false⟩, false, [], []⟩, ⟨8, ⟨(some 27), .alloc [(2, (.int .u8 0)), (2, (.int .u16 0)), (2, .nils)], none, false⟩, false, [], []⟩, ⟨3, ⟨(some 229), .call 71 [(.t 227), (.t 228)], none, false⟩, true, [], [(.t 24)]⟩, ⟨4, ⟨(some 230), .call 59 [(.t 226), (.t 229)], none, false⟩, true, [], []⟩, ⟨5, ⟨(some 225), .mov (.t 230), none, false⟩, false, [], []⟩, ⟨6, ⟨(some 231), .ext (.t 225) 0, none, false⟩, false, [], []⟩, ⟨7, ⟨(some 232), .ext (.t 225) 1, none, false⟩, false, [], []⟩, ⟨9, ⟨none, .store 6 (.t 27) (.t 231), none, false⟩, true, [8], []⟩, ⟨10, ⟨(some 28), .mov (.t 232), none, false⟩, false, [], []⟩])
 (.seq (.reg [⟨(some 233), .mov (.t 28), none, false⟩, ⟨(some 234), .bin .eql .other (.t 233) (.c (.int .i64 0)), none, false⟩, ⟨(some 235), .mov (.t 234), none, true⟩, ⟨(some 236), .fld 4 1 false (.t 27), (some (235, true)), false⟩, ⟨(some 237), .load false 1 (.t 236), (some (235, true)), false⟩, ⟨(some 238), .mov (.t 3), (some (235, true)), false⟩, ⟨(some 239), .call 63 [(.t 237), (.t 238)], (some (235, true)), false⟩, ⟨(some 240), .pick (.t 235) (.t 239) (.c (.bool false)), none, false⟩, ⟨(some 12), .mov (.t 240), none, false⟩])
 .ret)))))))
 .skip))
 (.seq (.reg [⟨(some 12), .mov (.c (.bool true)), none, false⟩])
 .ret)))))))))
def r24 : List ARes := [.t 12]
theorem c24 : compF Try.prog Try.f24 = some (a24, r24) := by kernel_rfl

theorem b24 : hasBody Try.prog 24 = true := by kernel_rfl
theorem g24 : Try.prog.funcs[24]? = some Try.f24 := by kernel_rfl

theorem askd {I J : Img} {f a n a2 : Int} {b : List Bool} {r : List Int} (hk : knownB f = true) (hQ : OkQ f a n a2 b r) (hr : r.length ≤ 400) (ht : thereB f a n a2 b r = true) (hJ : doesI I f a n a2 b r = J) :
    ImT 71 [.ptr 0 0, .roI .u8 (encR f a n a2 b r)] I (.roI .u8 (serveB I (encR f a n a2 b r))) J := by
  have h := (sserve_enc I f a n a2 b r hk hQ hr).2
  rw [if_pos ht, hJ] at h
  rw [← h]
  exact Serve_tr I _ (senc_len _ _ _ _ _ _ hQ.hb hr)
theorem raskd {I J : Img} {f a n a2 : Int} {b : List Bool} {r : List Int} (hk : knownB f = true) (hQ : OkQ f a n a2 b r) (hr : r.length ≤ 400) (ht : thereB f a n a2 b r = true) (hJ : doesI I f a n a2 b r = J) :
    RmT 92 [.ptr 0 0, .roI .u8 (encR f a n a2 b r)] I (.roI .u8 (serveB I (encR f a n a2 b r))) J := by
  have h := (sserve_enc I f a n a2 b r hk hQ hr).2
  rw [if_pos ht, hJ] at h
  rw [← h]
  have hf : 0 ≤ f ∧ f < 256 := by
    simp only [knownB, Bool.or_eq_true, beq_iff_eq] at hk
    omega
  exact rServe_tr I _ (senc_len _ _ _ _ _ _ hQ.hb hr) (enc_byte f a n a2 b r hf.1 hf.2)
theorem opend {I : Img} {f a n a2 : Int} {b : List Bool} {r : List Int} {P : Rp} (hI : OkI I) (hk : knownB f = true) (hQ : OkQ f a n a2 b r) (hr : r.length ≤ 200) (ht : thereB f a n a2 b r = true) (hP : doesP I f a n a2 b r = P) :
    Ev Try.prog 59 [reqA f a n a2 (.roB b) (.roI .u16 r), .roI .u8 (serveB I (encR f a n a2 b r))] (.tup [rpA P, .int .i64 0]) := by
  have hf : 0 ≤ f ∧ f < 256 := by
    simp only [knownB, Bool.or_eq_true, beq_iff_eq] at hk
    omega
  obtain ⟨h1, h2⟩ := answered I hI f a n a2 b r hk hQ (by omega)
  have hl := serveB_len I (encR f a n a2 b r) (senc_len _ _ _ _ _ _ hQ.hb (by omega))
  have h := rOpenReply_ev f a n a2 b r (serveB I (encR f a n a2 b r)) hf hQ.hn.1 hQ.hn.2 hQ.hb hr (by omega) h2
  rw [h1, if_pos ht, hP] at h
  exact h
theorem frz_reqM (h : Nat) (f a n a2 : Int) (L : List Int) (len : Nat) (hl : len = L.length) : frzL h (.rowI .u16 L) [reqA f a n a2 .nils (.sl 1 h 0 len)] = [reqA f a n a2 .nils (.roI .u16 L)] := by
  show [AV.agg [_, _, _, _, _, AV.frz h (.rowI .u16 L) (.sl 1 h 0 len)]] = _
  rw [frz_row h .u16 L len hl]; rfl
set_option maxRecDepth 20000 in
theorem law24 (S : List Ptv) (at_ : Int) (L : List Int) (B : List Bool) (x y : Int) (hS : ∀ x ∈ S, 0 ≤ x.v ∧ x.v < 65536) (ha : 0 ≤ at_ ∧ at_ < 65536) (hL : ∀ x ∈ L, 0 ≤ x ∧ x < 65536) (hx : 0 ≤ x ∧ x < 65536) (hy : 0 ≤ y ∧ y < 65536) :
    Ev Try.prog 24 [.ro 3 (S.map ptvV), .int .u16 at_, .roI .u16 L, .roB B, .int .u16 x, .int .u16 y] (.bool true) := by
  refine FrzK.ev rfl (trF g24 b24 c24 ?_)
  conv => whnf
  refine Ev.call known25 ?_
  conv => whnf
  refine condS (fun h => ?_) (fun h => ?_)
  · conv => whnf
    exact FrzK.le (Le.refl _)
  conv => whnf
  have hl : S.length ≤ 100 := by simp at h; omega
  refine condS (fun h => ?_) (fun h => ?_)
  · conv => whnf
    exact FrzK.le (Le.refl _)
  conv => whnf
  have hl2 : L.length ≤ 100 := by simp at h; omega
  refine condS (fun h => ?_) (fun h => ?_)
  · conv => whnf
    exact FrzK.le (Le.refl _)
  conv => whnf
  have hl3 : B.length ≤ 200 := by simp at h; omega
  refine laidCall (laid_tr S hS (by omega)) rfl rfl fun I hI => ?_
  have hA0 := Int.tmod_nonneg 128 ha.1
  have hA1 := Int.tmod_lt_of_pos at_ (show (0 : Int) < 128 by decide)
  conv => whnf
  generalize at_.tmod 128 = A at *
  have e1 : IntKind.i64.wrap A = A := w64i (by omega) (by omega)
  have e2 : IntKind.i64.wrap (128 - A) = 128 - A := w64i (by omega) (by omega)
  have e3 : IntKind.i64.wrap (256 - A) = 256 - A := w64i (by omega) (by omega)
  rw [e1, e2]
  have hkL : 0 ≤ (if 128 - A < (L.length : Int) then 128 - A else (L.length : Int)) ∧ (if 128 - A < (L.length : Int) then 128 - A else (L.length : Int)) ≤ L.length ∧ (if 128 - A < (L.length : Int) then 128 - A else (L.length : Int)) ≤ 128 - A := by split <;> omega
  refine condT (by simp; omega) ?_
  conv => whnf
  generalize (if 128 - A < (L.length : Int) then 128 - A else (L.length : Int)) = kl at *
  have hM : (List.take (kl.toNat - 0) (List.drop 0 L)).length = kl.toNat := by simp; omega
  have hMx : ∀ x ∈ List.take (kl.toNat - 0) (List.drop 0 L), 0 ≤ x ∧ x < 65536 := fun x hx => hL x (List.mem_of_mem_drop (List.mem_of_mem_take hx))
  generalize List.take (kl.toNat - 0) (List.drop 0 L) = M at *
  refine condF (fun h => ?_) (fun h => ?_)
  · conv => whnf
    refine condF (fun h => ?_) (fun h => ?_)
    · conv => whnf
      exact FrzK.le (Le.refl _)
    conv => whnf
    rw [e1, e3]
    have hB1 : 1 ≤ B.length := by simp at h; omega
    have hkB : 0 ≤ (if 256 - A < (B.length : Int) then 256 - A else (B.length : Int)) ∧ (if 256 - A < (B.length : Int) then 256 - A else (B.length : Int)) ≤ B.length ∧ (if 256 - A < (B.length : Int) then 256 - A else (B.length : Int)) ≤ 256 - A ∧ 1 ≤ (if 256 - A < (B.length : Int) then 256 - A else (B.length : Int)) := by split <;> omega
    refine condT (by simp; omega) ?_
    conv => whnf
    generalize (if 256 - A < (B.length : Int) then 256 - A else (B.length : Int)) = kb at *
    have hC : (List.take (kb.toNat - 0) (List.drop 0 B)).length = kb.toNat := by simp; omega
    generalize List.take (kb.toNat - 0) (List.drop 0 B) = C at *
    have hQ15 : OkQ 15 A 0 0 C [] := ⟨by omega, by omega, by omega, by omega, by simp, by simp, by simp [encOk, withinB]; omega⟩
    have hQ1 : OkQ 1 A C.length 0 [] [] := ⟨by omega, by omega, by omega, by simp, by simp, by simp, by simp [encOk, withinB]; omega⟩
    have ht15 : thereB 15 A 0 0 C [] = true := by
      show hasB 15 A C.length = true
      rw [hasB_eq 15 A _ rfl (by omega) (by omega), show szF 15 = 256 from rfl]; simp; omega
    have ht1 : thereB 1 A C.length 0 [] [] = true := by
      show hasB 1 A C.length = true
      rw [hasB_eq 1 A _ rfl (by omega) (by omega), show szF 1 = 256 from rfl]; simp; omega
    refine Tr.le (leReqN (Le.refl _) (Le.nilI _)) (Ev.call (rRequest_ev 15 A 0 0 C [] (by omega) (by omega) (by omega) (by simp)) ?_)
    conv => whnf
    rw [wLen C.length (by omega)]
    refine Tr.le (leReqN Le.nilB (Le.nilI _)) (Ev.call (rRequest_ev 1 A C.length 0 [] [] (by omega) (by omega) (by simp) (by simp)) ?_)
    conv => whnf
    refine blkCall (askd (I := I) rfl hQ15 (by simp) ht15 rfl) rfl rfl rfl ?_
    have hJ5 : OkI (doesI I 15 A 0 0 C []) := OkI.does hI _ _ _ _ _ _ hQ15.hx
    conv => whnf
    refine blkCall (askd (I := doesI I 15 A 0 0 C []) rfl hQ1 (by simp) ht1 rfl) rfl rfl rfl ?_
    conv => whnf
    refine ⟨rfl, ?_⟩
    conv => whnf
    have hP1 : doesP (doesI I 15 A 0 0 C []) 1 A C.length 0 [] [] = ⟨1, 0, 0, 0, C, []⟩ := by
      show (⟨1, 0, 0, 0, (tgs (tps I 15 A (C.map bitI)).o 1 A ((C.length : Int).toNat)).map (fun x => x != 0), []⟩ : Rp) = _
      rw [Int.toNat_natCast, bits_back I A C (by omega) (by omega)]
    refine Tr.le (args' := [reqA 1 A C.length 0 (.roB []) (.roI .u16 []), .roI .u8 (serveB (doesI I 15 A 0 0 C []) (encR 1 A C.length 0 [] []))]) ⟨Le.agg ⟨Le.refl _, Le.refl _, Le.refl _, Le.refl _, Le.nilB, Le.nilI _, trivial⟩, Le.refl _, trivial⟩ ?_
    refine Ev.call (opend hJ5 rfl hQ1 (by simp) ht1 hP1) ?_
    conv => whnf
    refine Ev.call (hbits_same C (by omega)) ?_
    conv => whnf
    exact FrzK.le (Le.refl _)
  · conv => whnf
    have hM1 : 1 ≤ M.length := by simp at h; omega
    have hw : IntKind.u16.wrap (M.length : Int) = M.length := wLen M.length (by omega)
    have hQ16 : OkQ 16 A 0 0 [] M := ⟨by omega, by omega, by omega, by simp, by omega, hMx, by simp [encOk, withinB]; omega⟩
    have hQ3 : OkQ 3 A M.length 0 [] [] := ⟨by omega, by omega, by omega, by simp, by simp, by simp, by simp [encOk, withinB]; omega⟩
    have hQ23 : OkQ 23 A M.length A [] M := ⟨by omega, by omega, by omega, by simp, by omega, hMx, by simp [encOk, withinB]; omega⟩
    have hQ22 : OkQ 22 A 0 0 [] [x, y] := ⟨by omega, by omega, by omega, by simp, by simp, by simp; omega, by simp [encOk, withinB]⟩
    have hQ31 : OkQ 3 A 1 0 [] [] := ⟨by omega, by omega, by omega, by simp, by simp, by simp, by simp [encOk, withinB]⟩
    have ht16 : thereB 16 A 0 0 [] M = true := by
      show hasB 16 A M.length = true
      rw [hasB_eq 16 A _ rfl (by omega) (by omega), show szF 16 = 128 from rfl]; simp; omega
    have ht3 : thereB 3 A M.length 0 [] [] = true := by
      show hasB 3 A M.length = true
      rw [hasB_eq 3 A _ rfl (by omega) (by omega), show szF 3 = 128 from rfl]; simp; omega
    have ht23 : thereB 23 A M.length A [] M = true := by
      show (hasB 23 A M.length && hasB 23 A M.length) = true
      rw [hasB_eq 23 A _ rfl (by omega) (by omega), show szF 23 = 128 from rfl]; simp; omega
    have ht22 : thereB 22 A 0 0 [] [x, y] = true := by
      show hasB 22 A 1 = true
      rw [hasB_eq 22 A _ rfl (by omega) (by omega), show szF 22 = 128 from rfl]; simp; omega
    have ht31 : thereB 3 A 1 0 [] [] = true := by
      show hasB 3 A 1 = true
      rw [hasB_eq 3 A _ rfl (by omega) (by omega), show szF 3 = 128 from rfl]; simp; omega
    refine Tr.le (leReqN Le.nilB (Le.refl _)) (Ev.call (rRequest_ev 16 A 0 0 [] M (by omega) (by omega) (by simp) (by omega)) ?_)
    conv => whnf
    rw [hw]
    refine Tr.le (leReqN Le.nilB (Le.nilI _)) (Ev.call (rRequest_ev 3 A M.length 0 [] [] (by omega) (by omega) (by simp) (by simp)) ?_)
    conv => whnf
    have hJ1 : OkI (tps I 16 A M) := hI.tps _ _ _ hMx
    have hd16 : doesI I 16 A 0 0 [] M = tps I 16 A M := rfl
    have hback := regs_back I A M (by omega) (by omega)
    have hag := regs_again I A M (by omega) (by omega)
    refine blkCall (askd (I := I) rfl hQ16 (by omega) ht16 hd16) rfl rfl rfl ?_
    conv => whnf
    refine blkCall (raskd (I := I) rfl hQ16 (by omega) ht16 hd16) rfl rfl rfl ?_
    generalize tps I 16 A M = J at *
    conv => whnf
    refine blkCall (askd (I := J) (J := J) rfl hQ3 (by simp) ht3 rfl) rfl rfl rfl ?_
    conv => whnf
    refine ⟨rfl, ?_⟩
    conv => whnf
    have hP3 : doesP J 3 A M.length 0 [] [] = ⟨3, 0, 0, 0, [], M⟩ := by
      show (⟨3, 0, 0, 0, [], tgs J.o 3 A ((M.length : Int).toNat)⟩ : Rp) = _
      rw [Int.toNat_natCast, hback]
    refine Tr.le (args' := [reqA 3 A M.length 0 (.roB []) (.roI .u16 []), .roI .u8 (serveB J (encR 3 A M.length 0 [] []))]) ⟨Le.agg ⟨Le.refl _, Le.refl _, Le.refl _, Le.refl _, Le.nilB, Le.nilI _, trivial⟩, Le.refl _, trivial⟩ ?_
    refine Ev.call (opend hJ1 rfl hQ3 (by simp) ht3 hP3) ?_
    conv => whnf
    refine Ev.call (hregs_same M (by omega)) ?_
    conv => whnf
    refine twoCall (salike_tr J) rfl rfl rfl rfl ?_
    conv => whnf
    rw [hw]
    refine Tr.le (leReqN Le.nilB (Le.refl _)) (Ev.call (rRequest_ev 23 A M.length A [] M (by omega) (by omega) (by simp) (by omega)) ?_)
    conv => whnf
    have hd23 : doesI J 23 A M.length A [] M = J := hag
    refine blkCall (askd (I := J) (J := J) rfl hQ23 (by omega) ht23 hd23) rfl rfl rfl ?_
    conv => whnf
    refine ⟨rfl, ?_⟩
    conv => whnf
    have hP23 : doesP J 23 A M.length A [] M = ⟨23, 0, 0, 0, [], M⟩ := by
      show (⟨23, 0, 0, 0, [], tgs (tps J 23 A M).o 23 A ((M.length : Int).toNat)⟩ : Rp) = _
      rw [hag, Int.toNat_natCast]
      show (⟨23, 0, 0, 0, [], tgs J.o 3 A M.length⟩ : Rp) = _
      rw [hback]
    refine Tr.le (args' := [reqA 23 A M.length A (.roB []) (.roI .u16 M), .roI .u8 (serveB J (encR 23 A M.length A [] M))]) ⟨Le.agg ⟨Le.refl _, Le.refl _, Le.refl _, Le.refl _, Le.nilB, Le.refl _, trivial⟩, Le.refl _, trivial⟩ ?_
    refine Ev.call (opend hJ1 rfl hQ23 (by omega) ht23 hP23) ?_
    conv => whnf
    refine Ev.call (hregs_same M (by omega)) ?_
    conv => whnf
    refine twoCall (salike_tr J) rfl rfl rfl rfl ?_
    conv => whnf
    refine lend1 (h := 4) (n := 0) (v := .nils) rfl (frz_reqM 4 22 A 0 0 [x, y] _ rfl) ?_
    refine Tr.le (leReqN Le.nilB (Le.refl _)) (Ev.call (rRequest_ev 22 A 0 0 [] [x, y] (by omega) (by omega) (by simp) (by simp)) ?_)
    conv => whnf
    have hd22 : doesI J 22 A 0 0 [] [x, y] = tp J 22 A (maskV (tg J.o 22 A) x y) := rfl
    have hmb := mask_back J A x y hA0 hA1
    have hJ2 : OkI (tp J 22 A (maskV (tg J.o 22 A) x y)) := hJ1.tp _ _ _ (maskV_pos _ _ _)
    refine blkCall (askd (I := J) rfl hQ22 (by simp) ht22 hd22) rfl rfl rfl ?_
    generalize tp J 22 A (maskV (tg J.o 22 A) x y) = J2 at *
    conv => whnf
    refine Tr.le (leReqN Le.nilB (Le.nilI _)) (Ev.call (rRequest_ev 3 A 1 0 [] [] (by omega) (by omega) (by simp) (by simp)) ?_)
    conv => whnf
    refine blkCall (askd (I := J2) (J := J2) rfl hQ31 (by simp) ht31 rfl) rfl rfl rfl ?_
    conv => whnf
    refine ⟨rfl, ?_⟩
    conv => whnf
    have hP31 : doesP J2 3 A 1 0 [] [] = ⟨3, 0, 0, 0, [], [maskV (tg J.o 3 A) x y]⟩ := by
      show (⟨3, 0, 0, 0, [], tgs J2.o 3 A 1⟩ : Rp) = _
      rw [hmb]
    refine Tr.le (args' := [reqA 3 A 1 0 (.roB []) (.roI .u16 []), .roI .u8 (serveB J2 (encR 3 A 1 0 [] []))]) ⟨Le.agg ⟨Le.refl _, Le.refl _, Le.refl _, Le.refl _, Le.nilB, Le.nilI _, trivial⟩, Le.refl _, trivial⟩ ?_
    refine Ev.call (opend hJ2 rfl hQ31 (by simp) ht31 hP31) ?_
    conv => whnf
    refine condT (by simp; omega) ?_
    conv => whnf
    have hM0 : tg J.o 3 A = M.getD 0 0 := by
      have h2 : (tgs J.o 3 A M.length).getD 0 0 = M.getD 0 0 := by rw [hback]
      rw [← h2]
      show _ = (List.map _ _).getD 0 0
      rw [List.getD_eq_getElem?_getD, List.getElem?_map, List.getElem?_range (by omega)]
      show tg J.o 3 A = tg J.o 3 (A + ((0 : Nat) : Int))
      rw [show A + ((0 : Nat) : Int) = A from Int.add_zero A]
    rw [hM0]
    refine condN (bne_self_eq_false (maskV (M.getD 0 0) x y)) ?_
    conv => whnf
    refine condF (fun h => ?_) (fun h => ?_)
    · conv => whnf
      exact FrzK.le (Le.refl _)
    conv => whnf
    rw [e1, e3]
    have hB1 : 1 ≤ B.length := by simp at h; omega
    have hkB : 0 ≤ (if 256 - A < (B.length : Int) then 256 - A else (B.length : Int)) ∧ (if 256 - A < (B.length : Int) then 256 - A else (B.length : Int)) ≤ B.length ∧ (if 256 - A < (B.length : Int) then 256 - A else (B.length : Int)) ≤ 256 - A ∧ 1 ≤ (if 256 - A < (B.length : Int) then 256 - A else (B.length : Int)) := by split <;> omega
    refine condT (by simp; omega) ?_
    conv => whnf
    generalize (if 256 - A < (B.length : Int) then 256 - A else (B.length : Int)) = kb at *
    have hC : (List.take (kb.toNat - 0) (List.drop 0 B)).length = kb.toNat := by simp; omega
    generalize List.take (kb.toNat - 0) (List.drop 0 B) = C at *
    have hQ15 : OkQ 15 A 0 0 C [] := ⟨by omega, by omega, by omega, by omega, by simp, by simp, by simp [encOk, withinB]; omega⟩
    have hQ1 : OkQ 1 A C.length 0 [] [] := ⟨by omega, by omega, by omega, by simp, by simp, by simp, by simp [encOk, withinB]; omega⟩
    have ht15 : thereB 15 A 0 0 C [] = true := by
      show hasB 15 A C.length = true
      rw [hasB_eq 15 A _ rfl (by omega) (by omega), show szF 15 = 256 from rfl]; simp; omega
    have ht1 : thereB 1 A C.length 0 [] [] = true := by
      show hasB 1 A C.length = true
      rw [hasB_eq 1 A _ rfl (by omega) (by omega), show szF 1 = 256 from rfl]; simp; omega
    refine Tr.le (leReqN (Le.refl _) (Le.nilI _)) (Ev.call (rRequest_ev 15 A 0 0 C [] (by omega) (by omega) (by omega) (by simp)) ?_)
    conv => whnf
    rw [wLen C.length (by omega)]
    refine Tr.le (leReqN Le.nilB (Le.nilI _)) (Ev.call (rRequest_ev 1 A C.length 0 [] [] (by omega) (by omega) (by simp) (by simp)) ?_)
    conv => whnf
    refine blkCall (askd (I := J2) rfl hQ15 (by simp) ht15 rfl) rfl rfl rfl ?_
    have hJ5 : OkI (doesI J2 15 A 0 0 C []) := OkI.does hJ2 _ _ _ _ _ _ hQ15.hx
    conv => whnf
    refine blkCall (askd (I := doesI J2 15 A 0 0 C []) rfl hQ1 (by simp) ht1 rfl) rfl rfl rfl ?_
    conv => whnf
    refine ⟨rfl, ?_⟩
    conv => whnf
    have hP1 : doesP (doesI J2 15 A 0 0 C []) 1 A C.length 0 [] [] = ⟨1, 0, 0, 0, C, []⟩ := by
      show (⟨1, 0, 0, 0, (tgs (tps J2 15 A (C.map bitI)).o 1 A ((C.length : Int).toNat)).map (fun x => x != 0), []⟩ : Rp) = _
      rw [Int.toNat_natCast, bits_back J2 A C (by omega) (by omega)]
    refine Tr.le (args' := [reqA 1 A C.length 0 (.roB []) (.roI .u16 []), .roI .u8 (serveB (doesI J2 15 A 0 0 C []) (encR 1 A C.length 0 [] []))]) ⟨Le.agg ⟨Le.refl _, Le.refl _, Le.refl _, Le.refl _, Le.nilB, Le.nilI _, trivial⟩, Le.refl _, trivial⟩ ?_
    refine Ev.call (opend hJ5 rfl hQ1 (by simp) ht1 hP1) ?_
    conv => whnf
    refine Ev.call (hbits_same C (by omega)) ?_
    conv => whnf
    exact FrzK.le (Le.refl _)
end Go.Proofs.Ytomodeliimnddaa
set_option linter.unusedVariables false
set_option linter.unusedSimpArgs false
namespace Go.Ab
open Go.ChangeShapes Go.WideShapes Go.RowKit Go.Deep
def noM : Nat → Prop := fun _ => False
section
variable {P : Program} {H : Type} {enc : TypeId × Value → H} {W : World} {r : Reach} {b : Nat} {held : Bool}
theorem wf_has {k : IntKind} {n : Int} (h : (Lit.int k n).wf = true) : k.min ≤ n ∧ n ≤ k.max := by
  simpa [Lit.wf] using h
theorem cell_addr {t e : TypeId} {a : Addr} {len cap : Nat} (ht : P.underlying t = some (.slice e)) (h : Cell.okWide P W r b t (.slice (some a) len cap)) : a.spot = none ∧ a.block < W.heap.size := by
  simp only [Cell.okWide, ht, Cell.ok] at h
  obtain ⟨_, _, _, h2, row, cells, h3, _⟩ := h
  exact ⟨h2, lt_of_shape h3⟩
theorem gInts {t e : TypeId} {k : IntKind} {fuel : Nat} {v : Value} {x : DataW H × List MemPlace} (hok : Cell.okWide P W r b t v) (ht : P.underlying t = some (.slice e)) (he : P.underlying e = some (.int k)) (hc : P.cellsOf e = 1)
    (h : DataW.trod enc P W 0 (fun _ => true) held fuel t [v] = some x) : ∃ l : List Int, GRel W noM (.roI k l) v ∧ ∀ n ∈ l, k.min ≤ n ∧ n ≤ k.max := by
  rcases open_ints ht he hc h with ⟨hcs, _⟩ | ⟨a, len, cap, zs, hcs, _, hl, hm, hz, _, hcell, hwf⟩
  · obtain rfl : v = .slice none 0 0 := by simpa using hcs
    exact ⟨[], .sliceNil _ 1 (fun j => .int k (([] : List Int).getD j 0)) rfl, by simp⟩
  · obtain rfl : v = .slice (some a) len cap := by simpa using hcs
    obtain ⟨h1, h2⟩ := cell_addr ht hok
    have hz : zs.length = cap := by simpa using hz
    have hlen : (zs.take len).length = len := by rw [List.length_take]; omega
    refine ⟨zs.take len, ?_, fun n hn => wf_has (hwf n (List.mem_of_mem_take hn))⟩
    have := GRel.slice (w := W) (M := noM) (.roI k (zs.take len)) 1 (zs.take len).length (fun j => .int k ((zs.take len).getD j 0)) a cap (fun j => .int k (zs.getD j 0)) rfl (fun _ => ⟨h1, fun h => h, h2⟩) (by omega) (fun _ _ => rfl) (fun j hj => by
      rw [← add_eq a j h1]; exact hcell j (by omega)) (fun j hj => by
      have : (zs.take len).getD j 0 = zs.getD j 0 := by
        have hj' : j < len := by omega
        simp [List.getD_eq_getElem?_getD, List.getElem?_take, hj']
      show GRel W noM (.int k ((zs.take len).getD j 0)) _
      rw [this]; exact .int k _)
    rw [hlen] at this
    exact this
theorem gBools {t e : TypeId} {fuel : Nat} {v : Value} {x : DataW H × List MemPlace} (hok : Cell.okWide P W r b t v) (ht : P.underlying t = some (.slice e)) (he : P.underlying e = some .bool) (hc : P.cellsOf e = 1)
    (h : DataW.trod enc P W 0 (fun _ => true) held fuel t [v] = some x) : ∃ l : List Bool, GRel W noM (.roB l) v := by
  rcases open_bools ht he hc h with ⟨hcs, _⟩ | ⟨a, len, cap, B, hcs, _, hl, hm, _, hcell⟩
  · obtain rfl : v = .slice none 0 0 := by simpa using hcs
    exact ⟨[], .sliceNil _ 1 (fun j => .bool (([] : List Bool).getD j false)) rfl⟩
  · obtain rfl : v = .slice (some a) len cap := by simpa using hcs
    obtain ⟨h1, h2⟩ := cell_addr ht hok
    have hlen : ((List.range len).map B).length = len := by simp
    refine ⟨(List.range len).map B, ?_⟩
    have := GRel.slice (w := W) (M := noM) (.roB ((List.range len).map B)) 1 ((List.range len).map B).length (fun j => .bool (((List.range len).map B).getD j false)) a cap (fun j => .bool (B j)) rfl (fun _ => ⟨h1, fun h => h, h2⟩) (by omega) (fun _ _ => rfl) (fun j hj => by
      rw [← add_eq a j h1]; exact hcell j (by omega)) (fun j hj => by
      have : ((List.range len).map B).getD j false = B j := by
        have hj' : j < len := by omega
        simp [List.getD_eq_getElem?_getD, hj']
      show GRel W noM (.bool (((List.range len).map B).getD j false)) _
      rw [this]; exact .bool _)
    rw [hlen] at this
    exact this
theorem gInt {t : TypeId} {k : IntKind} {fuel : Nat} {v : Value} {x : DataW H × List MemPlace} (ht : P.underlying t = some (.int k)) (h : DataW.trod enc P W 0 (fun _ => true) held fuel t [v] = some x) :
    ∃ n, v = .int k n ∧ k.min ≤ n ∧ n ≤ k.max := by
  obtain ⟨n, h1, _, h2⟩ := DataW.trod_int ht h
  exact ⟨n, by simpa using h1, wf_has h2⟩
/-- a field of one cell -/
theorem gField {t : TypeId} {fs : Array Field} {fuel : Nat} {cs : List Value} {x : DataW H × List MemPlace} (ht : P.underlying t = some (.struct fs)) (h : DataW.trod enc P W 0 (fun _ => true) held fuel t cs = some x)
    (j : Nat) (f : Field) (hj : fs[j]? = some f) (ho : f.offset = j) (hc : P.cellsOf f.type = 1) (hl : j < cs.length) : ∃ n y, DataW.trod enc P W 0 (fun _ => true) held n f.type [cs.getD j default] = some y := by
  obtain ⟨xs, n, _, _, _, hxl, hf⟩ := DataW.trod_struct ht h
  have h1 := hf j f hj
  rw [ho, hc] at h1
  have hone : (cs.drop j).take 1 = [cs.getD j default] := by
    have h2 : cs.getD j default = cs[j] := by simp [List.getD_eq_getElem?_getD, List.getElem?_eq_getElem hl]
    rw [h2, List.drop_eq_getElem_cons hl]
    rfl
  rw [hone] at h1
  have hjl : j < fs.size := (Array.getElem?_eq_some_iff.1 hj).1
  exact ⟨n, _, h1.trans (List.getElem?_eq_getElem (show j < xs.length by omega))⟩
/-- a struct of four numbers, a row of truth values, a row of numbers -/
theorem gSix {t : TypeId} {f0 f1 f2 f3 f4 f5 : Field} {k0 k1 k2 k3 k5 : IntKind} {e4 e5 : TypeId} {v : Value} {d : DataW H} {p : List MemPlace} (hs : P.underlying t = some (.struct #[f0, f1, f2, f3, f4, f5]))
    (ho : f0.offset = 0 ∧ f1.offset = 1 ∧ f2.offset = 2 ∧ f3.offset = 3 ∧ f4.offset = 4 ∧ f5.offset = 5)
    (h0 : P.underlying f0.type = some (.int k0)) (h1 : P.underlying f1.type = some (.int k1)) (h2 : P.underlying f2.type = some (.int k2)) (h3 : P.underlying f3.type = some (.int k3))
    (h4 : P.underlying f4.type = some (.slice e4)) (h5 : P.underlying f5.type = some (.slice e5)) (g4 : P.underlying e4 = some .bool) (g5 : P.underlying e5 = some (.int k5))
    (hc : P.cellsOf f0.type = 1 ∧ P.cellsOf f1.type = 1 ∧ P.cellsOf f2.type = 1 ∧ P.cellsOf f3.type = 1 ∧ P.cellsOf f4.type = 1 ∧ P.cellsOf f5.type = 1) (c4 : P.cellsOf e4 = 1) (c5 : P.cellsOf e5 = 1) (hC : P.cellsOf t = 6)
    (hct : P.cellTypes P.depth t = some [f0.type, f1.type, f2.type, f3.type, f4.type, f5.type]) (hval : Value.okWide P W r b t v) (h : DataW.Trod enc P W 0 (fun _ => true) held t v d p) :
    ∃ (n0 n1 n2 n3 : Int) (B : List Bool) (R : List Int), GRel W noM (.agg [.int k0 n0, .int k1 n1, .int k2 n2, .int k3 n3, .roB B, .roI k5 R]) v ∧ (k0.min ≤ n0 ∧ n0 ≤ k0.max) ∧ (k1.min ≤ n1 ∧ n1 ≤ k1.max) ∧ (k2.min ≤ n2 ∧ n2 ≤ k2.max) ∧ (k3.min ≤ n3 ∧ n3 ≤ k3.max) ∧ ∀ n ∈ R, k5.min ≤ n ∧ n ≤ k5.max := by
  obtain ⟨cs, rfl, hsz⟩ := okWide_struct hs hval
  rw [hC] at hsz
  have hrow : Row.okWide P W r b t cs := by
    simp only [Value.okWide, hs] at hval
    obtain ⟨cs', h1, _, h3⟩ := hval
    cases h1
    exact h3
  obtain ⟨ts, hts, _, hcell⟩ := hrow
  rw [hct] at hts
  cases hts
  obtain ⟨fuel, hf⟩ := h
  have hf : DataW.trod enc P W 0 (fun _ => true) held fuel t cs.toList = some (d, p) := hf
  have hl : cs.toList.length = 6 := by simpa using hsz
  have hg : ∀ j, cs.toList.getD j default = cs.getD j default := fun j => by simp [List.getD_eq_getElem?_getD, Array.getD_eq_getD_getElem?]
  have hsome : ∀ j, j < 6 → cs[j]? = some (cs.getD j default) := fun j hj => by
    have : j < cs.size := by omega
    simp [Array.getD, this]
  obtain ⟨m0, y0, q0⟩ := gField hs hf 0 f0 rfl ho.1 hc.1 (by omega)
  obtain ⟨m1, y1, q1⟩ := gField hs hf 1 f1 rfl ho.2.1 hc.2.1 (by omega)
  obtain ⟨m2, y2, q2⟩ := gField hs hf 2 f2 rfl ho.2.2.1 hc.2.2.1 (by omega)
  obtain ⟨m3, y3, q3⟩ := gField hs hf 3 f3 rfl ho.2.2.2.1 hc.2.2.2.1 (by omega)
  obtain ⟨m4, y4, q4⟩ := gField hs hf 4 f4 rfl ho.2.2.2.2.1 hc.2.2.2.2.1 (by omega)
  obtain ⟨m5, y5, q5⟩ := gField hs hf 5 f5 rfl ho.2.2.2.2.2 hc.2.2.2.2.2 (by omega)
  rw [hg] at q0 q1 q2 q3 q4 q5
  obtain ⟨n0, r0, s0⟩ := gInt h0 q0
  obtain ⟨n1, r1, s1⟩ := gInt h1 q1
  obtain ⟨n2, r2, s2⟩ := gInt h2 q2
  obtain ⟨n3, r3, s3⟩ := gInt h3 q3
  obtain ⟨u4, i4, o4⟩ := hcell 4 _ (hsome 4 (by omega))
  obtain ⟨u5, i5, o5⟩ := hcell 5 _ (hsome 5 (by omega))
  cases i4
  cases i5
  obtain ⟨B, r4⟩ := gBools o4 h4 g4 c4 q4
  obtain ⟨R, r5, s5⟩ := gInts o5 h5 g5 c5 q5
  refine ⟨n0, n1, n2, n3, B, R, .agg _ cs hsz fun j hj => ?_, s0, s1, s2, s3, s5⟩
  match j, hj with
  | 0, _ => rw [r0]; exact .int _ _
  | 1, _ => rw [r1]; exact .int _ _
  | 2, _ => rw [r2]; exact .int _ _
  | 3, _ => rw [r3]; exact .int _ _
  | 4, _ => exact r4
  | 5, _ => exact r5
  | j + 6, hj => simp at hj; omega
/-- what a statement's walk needs, from a contract -/
theorem Ev.calls {f : Nat} {args : List AV} {Vs : Array Value} (h : Ev P f args (.bool true)) (hs : Vs.size = args.length) (hV : ∀ j, j < args.length → GRel W noM (args.getD j .undef) (Vs.getD j default)) :
    Calls P f Vs W fun e W' => e = .returned (.bool true) ∧ Below W.heap.size W W' := by
  obtain ⟨_, ht⟩ := h
  unfold Tr at ht
  have hR : Rep (fun _ => none) ⟨0, []⟩ W noM := ⟨fun _ _ => rfl, fun h c hg => (by cases hg), fun h h' c c' p p' hg => (by cases hg), fun b hb => False.elim hb⟩
  refine Calls.mono (ht.2 (fun _ => none) W noM Vs hR ⟨hs, fun j hj => .g _ _ (hV j hj)⟩) fun e W' he => ?_
  obtain ⟨V, ι', M', v, s', rfl, ⟨rfl, rfl⟩, h1, h2, h3⟩ := he
  obtain rfl := h1.bool_inv
  exact ⟨rfl, h3.os, h3.tape, h3.output, h3.size, fun k hk => h3.block k hk fun ⟨h, c, base, hg, _⟩ => by cases hg⟩
end
end Go.Ab
set_option linter.unusedVariables false
set_option linter.unusedSimpArgs false
namespace Go.Ab
open Go.ChangeShapes Go.WideShapes Go.RowKit Go.Deep
/-- what lies in one cell: a number, a truth value, a row of numbers, of truth values -/
inductive CK where
  | int (k : IntKind)
  | bool
  | ints (k : IntKind)
  | bools
def CK.v : CK → AV → Prop
  | .int k, v => ∃ n, v = .int k n ∧ k.min ≤ n ∧ n ≤ k.max
  | .bool, v => ∃ b, v = .bool b
  | .ints k, v => ∃ l, v = .roI k l ∧ ∀ n ∈ l, k.min ≤ n ∧ n ≤ k.max
  | .bools, v => ∃ l, v = .roB l
def CK.ok (P : Program) (t : TypeId) : CK → Bool
  | .int k => match P.underlying t with
    | some (.int k') => decide (k' = k)
    | _ => false
  | .bool => match P.underlying t with
    | some .bool => true
    | _ => false
  | .ints k => match P.underlying t with
    | some (.slice e) => (match P.underlying e with
      | some (.int k') => decide (k' = k)
      | _ => false) && Nat.beq (P.cellsOf e) 1
    | _ => false
  | .bools => match P.underlying t with
    | some (.slice e) => (match P.underlying e with
      | some .bool => true
      | _ => false) && Nat.beq (P.cellsOf e) 1
    | _ => false
def CKs : List CK → List AV → Prop
  | [], [] => True
  | c :: cs, v :: vs => c.v v ∧ CKs cs vs
  | _, _ => False
theorem CKs.length : ∀ {cs : List CK} {l : List AV}, CKs cs l → l.length = cs.length
  | [], [], _ => rfl
  | c :: cs, v :: vs, h => by simp [CKs.length h.2]
  | [], _ :: _, h => h.elim
  | _ :: _, [], h => h.elim
theorem CKs.of : ∀ {cs : List CK} {l : List AV}, l.length = cs.length → (∀ j (c : CK), cs[j]? = some c → c.v (l.getD j .undef)) → CKs cs l
  | [], [], _, _ => trivial
  | c :: cs, v :: vs, hl, h => ⟨by simpa using h 0 c rfl, CKs.of (by simpa using hl) fun j d hd => by simpa using h (j + 1) d (by simpa using hd)⟩
  | [], _ :: _, hl, _ => by simp at hl
  | _ :: _, [], hl, _ => by simp at hl
theorem CK.one {c : CK} {v : AV} (h : c.v v) : v.flat = [v] := by
  cases c
  · obtain ⟨n, rfl, _⟩ := h; rfl
  · obtain ⟨b, rfl⟩ := h; rfl
  · obtain ⟨l, rfl, _⟩ := h; rfl
  · obtain ⟨l, rfl⟩ := h; rfl
section
variable {P : Program} {H : Type} {enc : TypeId × Value → H} {W : World} {held : Bool}
theorem cell_spot {a : Addr} {v : Value} (h : W.cell? a = some v) : a.spot = none ∧ a.block < W.heap.size := by
  obtain ⟨e, n, h1, _, h3⟩ := World.shape?_of_cell? h
  exact ⟨h3, lt_of_shape h1⟩
theorem gCell {c : CK} {t : TypeId} {fuel : Nat} {v : Value} {x : DataW H × List MemPlace} (hok : c.ok P t = true) (h : DataW.trod enc P W 0 (fun _ => true) held fuel t [v] = some x) : ∃ av, c.v av ∧ GRel W noM av v := by
  cases c with
  | int k =>
    simp only [CK.ok] at hok
    split at hok
    · rename_i k' ht
      obtain rfl := of_decide_eq_true hok
      obtain ⟨n, rfl, h1⟩ := gInt ht h
      exact ⟨_, ⟨n, rfl, h1⟩, .int _ _⟩
    · cases hok
  | bool =>
    simp only [CK.ok] at hok
    split at hok
    · rename_i ht
      obtain ⟨b, h1, _⟩ := DataW.trod_bool ht h
      obtain rfl : v = .bool b := by simpa using h1
      exact ⟨_, ⟨b, rfl⟩, .bool _⟩
    · cases hok
  | ints k =>
    simp only [CK.ok] at hok
    split at hok
    · rename_i e ht
      simp only [Bool.and_eq_true] at hok
      obtain ⟨h1, h2⟩ := hok
      split at h1
      · rename_i k' he
        obtain rfl := of_decide_eq_true h1
        have hc : P.cellsOf e = 1 := Nat.eq_of_beq_eq_true h2
        rcases open_ints ht he hc h with ⟨hcs, _⟩ | ⟨a, len, cap, zs, hcs, _, hl, hm, hz, _, hcell, hwf⟩
        · obtain rfl : v = .slice none 0 0 := by simpa using hcs
          exact ⟨.roI k' [], ⟨[], rfl, by simp⟩, .sliceNil _ 1 (fun j => .int k' (([] : List Int).getD j 0)) rfl⟩
        · obtain rfl : v = .slice (some a) len cap := by simpa using hcs
          have hz : zs.length = cap := by simpa using hz
          have hlen : (zs.take len).length = len := by rw [List.length_take]; omega
          refine ⟨.roI k' (zs.take len), ⟨_, rfl, fun n hn => wf_has (hwf n (List.mem_of_mem_take hn))⟩, ?_⟩
          have hsp : 0 < len → a.spot = none ∧ ¬ noM a.block ∧ a.block < W.heap.size := fun h0 => by
            have := hcell 0 (by omega)
            obtain ⟨q1, q2⟩ := cell_spot (a := a) (by simpa [Addr.add] using this)
            exact ⟨q1, fun h => h, q2⟩
          have := GRel.slice (w := W) (M := noM) (.roI k' (zs.take len)) 1 (zs.take len).length (fun j => .int k' ((zs.take len).getD j 0)) a cap (fun j => .int k' (zs.getD j 0)) rfl (fun h => hsp (by omega)) (by omega) (fun _ _ => rfl) (fun j hj => by
            rw [← add_eq a j (hsp (by omega)).1]; exact hcell j (by omega)) (fun j hj => by
            have : (zs.take len).getD j 0 = zs.getD j 0 := by
              have hj' : j < len := by omega
              simp [List.getD_eq_getElem?_getD, List.getElem?_take, hj']
            show GRel W noM (.int k' ((zs.take len).getD j 0)) _
            rw [this]; exact .int k' _)
          rw [hlen] at this
          exact this
      · cases h1
    · cases hok
  | bools =>
    simp only [CK.ok] at hok
    split at hok
    · rename_i e ht
      simp only [Bool.and_eq_true] at hok
      obtain ⟨h1, h2⟩ := hok
      split at h1
      · rename_i he
        have hc : P.cellsOf e = 1 := Nat.eq_of_beq_eq_true h2
        rcases open_bools ht he hc h with ⟨hcs, _⟩ | ⟨a, len, cap, B, hcs, _, hl, hm, _, hcell⟩
        · obtain rfl : v = .slice none 0 0 := by simpa using hcs
          exact ⟨.roB [], ⟨[], rfl⟩, .sliceNil _ 1 (fun j => .bool (([] : List Bool).getD j false)) rfl⟩
        · obtain rfl : v = .slice (some a) len cap := by simpa using hcs
          have hlen : ((List.range len).map B).length = len := by simp
          refine ⟨.roB ((List.range len).map B), ⟨_, rfl⟩, ?_⟩
          have hsp : 0 < len → a.spot = none ∧ ¬ noM a.block ∧ a.block < W.heap.size := fun h0 => by
            have := hcell 0 (by omega)
            obtain ⟨q1, q2⟩ := cell_spot (a := a) (by simpa [Addr.add] using this)
            exact ⟨q1, fun h => h, q2⟩
          have := GRel.slice (w := W) (M := noM) (.roB ((List.range len).map B)) 1 ((List.range len).map B).length (fun j => .bool (((List.range len).map B).getD j false)) a cap (fun j => .bool (B j)) rfl (fun h => hsp (by omega)) (by omega) (fun _ _ => rfl) (fun j hj => by
            rw [← add_eq a j (hsp (by omega)).1]; exact hcell j (by omega)) (fun j hj => by
            have : ((List.range len).map B).getD j false = B j := by
              have hj' : j < len := by omega
              simp [List.getD_eq_getElem?_getD, hj']
            show GRel W noM (.bool (((List.range len).map B).getD j false)) _
            rw [this]; exact .bool _)
          rw [hlen] at this
          exact this
      · cases h1
    · cases hok
/-- the fields of a struct of such cells -/
def fieldsOk (P : Program) : Nat → List Field → List CK → Bool
  | _, [], [] => true
  | j, f :: fs, c :: cs => Nat.beq f.offset j && Nat.beq (P.cellsOf f.type) 1 && c.ok P f.type && fieldsOk P (j + 1) fs cs
  | _, _, _ => false
def structOk (P : Program) (t : TypeId) (cs : List CK) : Bool :=
  match P.underlying t with
  | some (.struct fs) => fieldsOk P 0 fs.toList cs && Nat.beq (P.cellsOf t) cs.length
  | _ => false
theorem fieldsOk_get : ∀ (fs : List Field) (cs : List CK) (j0 : Nat), fieldsOk P j0 fs cs = true → fs.length = cs.length ∧ ∀ j f c, fs[j]? = some f → cs[j]? = some c → f.offset = j0 + j ∧ P.cellsOf f.type = 1 ∧ c.ok P f.type = true
  | [], [], _, _ => ⟨rfl, fun j f c h => by simp at h⟩
  | f :: fs, c :: cs, j0, h => by
    simp only [fieldsOk, Bool.and_eq_true] at h
    obtain ⟨⟨⟨h1, h2⟩, h3⟩, h4⟩ := h
    obtain ⟨h5, h6⟩ := fieldsOk_get fs cs (j0 + 1) h4
    refine ⟨by simp [h5], fun j f' c' hf hc => ?_⟩
    cases j with
    | zero =>
      simp only [List.getElem?_cons_zero, Option.some.injEq] at hf hc
      subst hf; subst hc
      exact ⟨Nat.eq_of_beq_eq_true h1, Nat.eq_of_beq_eq_true h2, h3⟩
    | succ j =>
      have := h6 j f' c' (by simpa using hf) (by simpa using hc)
      exact ⟨by omega, this.2⟩
  | [], _ :: _, _, h => by simp [fieldsOk] at h
  | _ :: _, [], _, h => by simp [fieldsOk] at h
/-- a struct's cells -/
theorem gStruct {t : TypeId} {cks : List CK} {fuel : Nat} {cs : List Value} {x : DataW H × List MemPlace} (hs : structOk P t cks = true) (hl : cs.length = cks.length) (h : DataW.trod enc P W 0 (fun _ => true) held fuel t cs = some x) :
    ∃ l : List AV, CKs cks l ∧ ∀ j, j < cks.length → GRel W noM (l.getD j .undef) (cs.getD j default) := by
  unfold structOk at hs
  split at hs
  · rename_i fs ht
    simp only [Bool.and_eq_true] at hs
    obtain ⟨h1, h2⟩ := hs
    obtain ⟨h3, h4⟩ := fieldsOk_get _ _ _ h1
    have each : ∀ j, j < cks.length → ∃ av, (∀ c, cks[j]? = some c → c.v av) ∧ GRel W noM av (cs.getD j default) := fun j hj => by
      have hjf : j < fs.size := by simp at h3; omega
      obtain ⟨q1, q2, q3⟩ := h4 j fs[j] cks[j] (by simp [hjf]) (by simp [hj])
      obtain ⟨n, y, hy⟩ := gField ht h j fs[j] (by simp [hjf]) (by simpa using q1) q2 (by omega)
      obtain ⟨av, r1, r2⟩ := gCell q3 hy
      exact ⟨av, fun c hc => by
        rw [List.getElem?_eq_getElem hj] at hc
        cases hc
        exact r1, r2⟩
    obtain ⟨E, hE⟩ := choose_lt each
    have hlen : ((List.range cks.length).map E).length = cks.length := by simp
    have hget : ∀ j, j < cks.length → ((List.range cks.length).map E).getD j .undef = E j := fun j hj => by simp [List.getD_eq_getElem?_getD, hj]
    refine ⟨(List.range cks.length).map E, CKs.of hlen fun j c hc => ?_, fun j hj => ?_⟩
    · have hj : j < cks.length := (List.getElem?_eq_some_iff.1 hc).1
      rw [hget j hj]
      exact (hE j hj).1 c hc
    · rw [hget j hj]
      exact (hE j hj).2
  · cases hs
/-- a row of structs -/
theorem gStructs {t e : TypeId} {cks : List CK} {fuel : Nat} {v : Value} {x : DataW H × List MemPlace} (ht : P.underlying t = some (.slice e)) (hs : structOk P e cks = true) (h0 : 0 < cks.length)
    (h : DataW.trod enc P W 0 (fun _ => true) held fuel t [v] = some x) : ∃ L : List (List AV), (∀ l ∈ L, CKs cks l) ∧ GRel W noM (.ro cks.length (L.map .agg)) v := by
  have hce : P.cellsOf e = cks.length := by
    unfold structOk at hs
    split at hs
    · simp only [Bool.and_eq_true] at hs
      exact Nat.eq_of_beq_eq_true hs.2
    · cases hs
  rcases open_slice ht h with ⟨hcs, _⟩ | ⟨a, len, cap, m, n, D, Pl, hcs, _, hl, hm, hmm, _, hx⟩
  · obtain rfl : v = .slice none 0 0 := by simpa using hcs
    exact ⟨[], by simp, .sliceNil _ cks.length (fun j => ((([] : List AV).getD (j / cks.length) .undef).flat.getD (j % cks.length) .undef)) rfl⟩
  · obtain rfl : v = .slice (some a) len cap := by simpa using hcs
    simp only [if_true] at hmm
    subst hmm
    have each : ∀ i, i < len → ∃ l : List AV, CKs cks l ∧ ∀ j, j < cks.length → ∃ V, W.cell? ((a.add (i * cks.length)).add j) = some V ∧ GRel W noM (l.getD j .undef) V := fun i hi => by
      obtain ⟨cs', h1, h2⟩ := hx i (by omega)
      rw [hce] at h1
      obtain ⟨_, h3, h4⟩ := World.cells?_some h1
      obtain ⟨l, h5, h6⟩ := gStruct hs h3 h2
      refine ⟨l, h5, fun j hj => ⟨cs'.getD j default, ?_, h6 j hj⟩⟩
      have hj' : j < cs'.length := by omega
      rw [h4 j hj, List.getD_eq_getElem?_getD, List.getElem?_eq_getElem hj']
      rfl
    obtain ⟨E, hE⟩ := choose_lt each
    have hsp : 0 < len → a.spot = none ∧ ¬ noM a.block ∧ a.block < W.heap.size := fun hp => by
      obtain ⟨V, h1, _⟩ := (hE 0 hp).2 0 h0
      obtain ⟨q1, q2⟩ := cell_spot (a := a) (by simpa [Addr.add] using h1)
      exact ⟨q1, fun h => h, q2⟩
    have hlen : (((List.range len).map E).map AV.agg).length = len := by simp
    refine ⟨(List.range len).map E, fun l hl' => ?_, ?_⟩
    · simp only [List.mem_map, List.mem_range] at hl'
      obtain ⟨i, hi, rfl⟩ := hl'
      exact (hE i hi).1
    have hgetE : ∀ i, i < len → (((List.range len).map E).map AV.agg).getD i .undef = .agg (E i) := fun i hi => by simp [List.getD_eq_getElem?_getD, hi]
    have cell : ∀ j, j < len * cks.length → ∃ V, W.cell? ⟨a.block, a.off + j, none⟩ = some V ∧ GRel W noM (((((List.range len).map E).map AV.agg).getD (j / cks.length) .undef).flat.getD (j % cks.length) .undef) V := fun j hj => by
      have hi : j / cks.length < len := (Nat.div_lt_iff_lt_mul h0).2 hj
      have hj2 : j % cks.length < cks.length := Nat.mod_lt _ h0
      obtain ⟨V, h1, h2⟩ := (hE _ hi).2 _ hj2
      refine ⟨V, ?_, ?_⟩
      · rw [add_add, Nat.div_add_mod' j cks.length, add_eq a j (hsp (Nat.lt_of_le_of_lt (Nat.zero_le _) hi)).1] at h1
        exact h1
      · rw [hgetE _ hi]
        exact h2
    obtain ⟨G, hG⟩ := choose_lt cell
    have := GRel.slice (w := W) (M := noM) (.ro cks.length (((List.range len).map E).map AV.agg)) cks.length len (fun j => ((((List.range len).map E).map AV.agg).getD (j / cks.length) .undef).flat.getD (j % cks.length) .undef) a m G
      (by simp only [AV.rov, hlen]) hsp hl (fun i hi => by
        show ((((List.range len).map E).map AV.agg).getD i .undef).flat.length = _
        rw [hgetE i hi]
        exact (hE i hi).1.length) (fun j hj => (hG j hj).1) (fun j hj => (hG j hj).2)
    exact this
/-- a row of rows of numbers -/
theorem gRows {t e : TypeId} {k : IntKind} {fuel : Nat} {v : Value} {x : DataW H × List MemPlace} (ht : P.underlying t = some (.slice e)) (hs : (CK.ints k).ok P e = true) (hce : P.cellsOf e = 1)
    (h : DataW.trod enc P W 0 (fun _ => true) held fuel t [v] = some x) : ∃ L : List (List Int), (∀ l ∈ L, ∀ n ∈ l, k.min ≤ n ∧ n ≤ k.max) ∧ GRel W noM (.ro 1 (L.map (.roI k))) v := by
  rcases open_slice ht h with ⟨hcs, _⟩ | ⟨a, len, cap, m, n, D, Pl, hcs, _, hl, hm, hmm, _, hx⟩
  · obtain rfl : v = .slice none 0 0 := by simpa using hcs
    exact ⟨[], by simp, .sliceNil _ 1 (fun j => ((([] : List AV).getD (j / 1) .undef).flat.getD (j % 1) .undef)) rfl⟩
  · obtain rfl : v = .slice (some a) len cap := by simpa using hcs
    simp only [if_true] at hmm
    subst hmm
    have each : ∀ i, i < len → ∃ l : List Int, (∀ n ∈ l, k.min ≤ n ∧ n ≤ k.max) ∧ ∃ V, W.cell? (a.add i) = some V ∧ GRel W noM (.roI k l) V := fun i hi => by
      obtain ⟨cs', h1, h2⟩ := hx i (by omega)
      rw [hce, Nat.mul_one] at h1
      obtain ⟨_, h3, h4⟩ := World.cells?_some h1
      match cs', h3 with
      | [c], _ =>
        obtain ⟨av, h5, h6⟩ := gCell hs h2
        obtain ⟨l, rfl, h7⟩ := h5
        refine ⟨l, h7, c, ?_, h6⟩
        have := h4 0 (by omega)
        simpa [Addr.add] using this
    obtain ⟨E, hE⟩ := choose_lt each
    have hsp : 0 < len → a.spot = none ∧ ¬ noM a.block ∧ a.block < W.heap.size := fun hp => by
      obtain ⟨V, h1, _⟩ := (hE 0 hp).2
      obtain ⟨q1, q2⟩ := cell_spot (a := a) (by simpa [Addr.add] using h1)
      exact ⟨q1, fun h => h, q2⟩
    have hlen : (((List.range len).map E).map (AV.roI k)).length = len := by simp
    refine ⟨(List.range len).map E, fun l hl' => ?_, ?_⟩
    · simp only [List.mem_map, List.mem_range] at hl'
      obtain ⟨i, hi, rfl⟩ := hl'
      exact (hE i hi).1
    have hgetE : ∀ i, i < len → (((List.range len).map E).map (AV.roI k)).getD i .undef = .roI k (E i) := fun i hi => by simp [List.getD_eq_getElem?_getD, hi]
    have cell : ∀ j, j < len * 1 → ∃ V, W.cell? ⟨a.block, a.off + j, none⟩ = some V ∧ GRel W noM (((((List.range len).map E).map (AV.roI k)).getD (j / 1) .undef).flat.getD (j % 1) .undef) V := fun j hj => by
      have hj : j < len := by omega
      obtain ⟨V, h1, h2⟩ := (hE j hj).2
      refine ⟨V, ?_, ?_⟩
      · rw [add_eq a j (hsp (by omega)).1] at h1
        exact h1
      · rw [Nat.div_one, Nat.mod_one, hgetE _ hj]
        exact h2
    obtain ⟨G, hG⟩ := choose_lt cell
    have := GRel.slice (w := W) (M := noM) (.ro 1 (((List.range len).map E).map (AV.roI k))) 1 len (fun j => ((((List.range len).map E).map (AV.roI k)).getD (j / 1) .undef).flat.getD (j % 1) .undef) a m G
      (by simp only [AV.rov, hlen]) hsp hl (fun i hi => by
        show ((((List.range len).map E).map (AV.roI k)).getD i .undef).flat.length = _
        rw [hgetE i hi]
        rfl) (fun j hj => (hG j hj).1) (fun j hj => (hG j hj).2)
    exact this
/-- a struct, by value -/
theorem gStructV {t : TypeId} {cks : List CK} {r : Reach} {b : Nat} {v : Value} {d : DataW H} {p : List MemPlace} (hs : structOk P t cks = true) (hval : Value.okWide P W r b t v) (h : DataW.Trod enc P W 0 (fun _ => true) held t v d p) :
    ∃ l : List AV, CKs cks l ∧ GRel W noM (.agg l) v := by
  have hs' := hs
  unfold structOk at hs
  split at hs
  · rename_i fs ht
    simp only [Bool.and_eq_true] at hs
    obtain ⟨cs, rfl, hsz⟩ := okWide_struct ht hval
    obtain ⟨fuel, hf⟩ := h
    have hf : DataW.trod enc P W 0 (fun _ => true) held fuel t cs.toList = some (d, p) := hf
    have hc := Nat.eq_of_beq_eq_true hs.2
    obtain ⟨l, h1, h2⟩ := gStruct hs' (by simp; omega) hf
    have hg : ∀ j, cs.toList.getD j default = cs.getD j default := fun j => by simp [List.getD_eq_getElem?_getD, Array.getD_eq_getD_getElem?]
    refine ⟨l, h1, .agg l cs (by rw [h1.length]; omega) fun j hj => ?_⟩
    rw [← hg]
    exact h2 j (by rw [← h1.length]; exact hj)
  · cases hs
end
/-- a list of values that are all of a form -/
theorem list_form {α β : Type} {f : α → β} {Q : α → Prop} : ∀ (L : List β), (∀ l ∈ L, ∃ s, l = f s ∧ Q s) → ∃ S : List α, L = S.map f ∧ ∀ s ∈ S, Q s
  | [], _ => ⟨[], rfl, by simp⟩
  | l :: L, h => by
    obtain ⟨s, rfl, hs⟩ := h l (by simp)
    obtain ⟨S, rfl, hS⟩ := list_form L fun l hl => h l (by simp [hl])
    exact ⟨s :: S, rfl, fun t ht => by
      rcases List.mem_cons.1 ht with rfl | ht
      · exact hs
      · exact hS t ht⟩
end Go.Ab
set_option linter.unusedVariables false
set_option linter.unusedSimpArgs false
namespace Go.Proofs.Ytomodeliimnddaa
open Go.Ab
theorem puts_arg {W : World} {v : Value} {L : List (List AV)} (h : ∀ l ∈ L, CKs [.int .i64, .int .i64, .int .u16] l) (g : GRel W noM (.ro 3 (L.map .agg)) v) : ∃ S : List Ptv, GRel W noM (.ro 3 (S.map ptvV)) v ∧ ∀ x ∈ S, 0 ≤ x.v ∧ x.v < 65536 := by
  obtain ⟨S, rfl, hS⟩ := list_form (f := fun x : Ptv => [AV.int .i64 x.ar, .int .i64 x.of, .int .u16 x.v]) (Q := fun x => 0 ≤ x.v ∧ x.v < 65536) L fun l hl => by
    have hc := h l hl
    match l, hc.length, hc with
    | [a, b, d], _, hc =>
      obtain ⟨⟨a, rfl, _⟩, ⟨b, rfl, _⟩, ⟨d, rfl, hd, hd2⟩, _⟩ := hc
      exact ⟨⟨a, b, d⟩, rfl, hd, Int.lt_add_one_of_le hd2⟩
  exact ⟨S, by rw [List.map_map] at g; exact g, hS⟩
theorem bytes_isB {l : List Int} (h : ∀ n ∈ l, IntKind.u8.min ≤ n ∧ n ≤ IntKind.u8.max) : isB l := fun n hn => ⟨(h n hn).1, Int.lt_add_one_of_le (h n hn).2⟩
theorem rows_isB {L : List (List Int)} (h : ∀ l ∈ L, ∀ n ∈ l, IntKind.u8.min ≤ n ∧ n ≤ IntKind.u8.max) : ∀ l ∈ L, isB l := fun l hl => bytes_isB (h l hl)
end Go.Proofs.Ytomodeliimnddaa
