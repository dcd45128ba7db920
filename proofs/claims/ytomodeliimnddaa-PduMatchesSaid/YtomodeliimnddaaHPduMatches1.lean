/- Contracts: bytes read as requests: the document's. Plain laws: requests and replies cut short, or with more behind. Contracts: bytes read as replies: the document's. The plain law: both readings of a reply are the same. Statements of layer 3: what is cut short, or has more behind, is refused. The plain law: a reply that is written for a request is read as that, and answers no request of another function. Statements of layer 3: a reply that is written for a request is read as that, and answers no request of another function. From a statement's arguments to the engine's values; a statement's row from a contract. -/
import Derived.Test.YtomodeliimnddaaRows
import Derived.WalkKit
import Derived.ProofKit
import Derived.OpenShut
import Derived.ShutString
import Derived.ChangeOld
import Derived.Below
import Derived.Deep.Grids
import Derived.Test.YtomodeliimnddaaHPduMatches0
import Derived.Test.YtomodeliimnddaaHEngD
set_option linter.unusedVariables false
set_option linter.unusedSimpArgs false
namespace Go.Proofs.Ytomodeliimnddaa
open Go.Ab
/- rung/rungref3.at -/
def a116 : ACode := (.seq (.reg [⟨(some 4), .mov (.c (.int .u16 0)), none, false⟩])
 (.seq (.draw [⟨0, ⟨(some 5), .mov (.t 0), none, false⟩, false, [], []⟩, ⟨1, ⟨(some 6), .mov (.t 1), none, false⟩, false, [], []⟩, ⟨2, ⟨(some 7), .idx 1 none false (.t 5) (.t 6), none, false⟩, false, [], []⟩, ⟨3, ⟨(some 8), .load false 1 (.t 7), none, false⟩, false, [], []⟩, ⟨4, ⟨(some 9), .conv (.int .u16) (.t 8), none, false⟩, false, [], []⟩, ⟨5, ⟨(some 10), .bin .shl .other (.t 9) (.c (.int .u64 8)), none, false⟩, false, [], []⟩, ⟨6, ⟨(some 11), .mov (.t 0), none, false⟩, false, [], []⟩, ⟨7, ⟨(some 12), .mov (.t 1), none, false⟩, false, [], []⟩, ⟨8, ⟨(some 13), .bin .add .other (.t 12) (.c (.int .i64 1)), none, false⟩, false, [], []⟩, ⟨9, ⟨(some 14), .idx 1 none false (.t 11) (.t 13), none, false⟩, false, [], []⟩, ⟨10, ⟨(some 15), .load false 1 (.t 14), none, false⟩, false, [], []⟩, ⟨11, ⟨(some 16), .conv (.int .u16) (.t 15), none, false⟩, false, [], []⟩, ⟨12, ⟨(some 17), .bin .or .other (.t 10) (.t 16), none, false⟩, false, [], []⟩, ⟨13, ⟨(some 4), .mov (.t 17), none, false⟩, false, [], []⟩])
 .ret))
def r116 : List ARes := [.t 4]
theorem c116 : compF Try.prog Try.f116 = some (a116, r116) := by kernel_rfl

theorem b116 : hasBody Try.prog 116 = true := by kernel_rfl
theorem g116 : Try.prog.funcs[116]? = some Try.f116 := by kernel_rfl
/- rung/rungref3.regs -/
def a117 : ACode := (.seq (.reg [⟨(some 2), .mov (.c .nils), none, false⟩])
 (.seq (.reg [⟨(some 3), .mov (.c .nils), none, false⟩])
 (.seq (.seq (.reg [⟨(some 4), .mov (.c (.int .i64 0)), none, false⟩])
 (.block 0 (.loop (.seq (.seq (.reg [⟨(some 5), .mov (.t 4), none, false⟩, ⟨(some 6), .bin .add .other (.t 5) (.c (.int .i64 1)), none, false⟩, ⟨(some 7), .mov (.t 0), none, false⟩, ⟨(some 8), .len false (.t 7), none, false⟩, ⟨(some 9), .bin .lss .other (.t 6) (.t 8), none, false⟩])
 (.cond (.t 9) .skip
 (.exit 0)))
 (.seq (.block 1 (.reg [⟨(some 12), .mov (.t 3), none, false⟩, ⟨(some 13), .mov (.t 0), none, false⟩, ⟨(some 14), .mov (.t 4), none, false⟩, ⟨(some 15), .call 116 [(.t 13), (.t 14)], none, false⟩, ⟨(some 16), .bslice 1 (.int .u16) [(.int .u16 0)] [(0, 1, (.t 15))] 1, none, false⟩, ⟨(some 17), .app 1 2 (.t 12) (.t 16), none, false⟩, ⟨(some 3), .mov (.t 17), none, false⟩]))
 (.reg [⟨(some 10), .mov (.t 4), none, false⟩, ⟨(some 11), .bin .add .other (.t 10) (.c (.int .i64 2)), none, false⟩, ⟨(some 4), .mov (.t 11), none, false⟩]))))))
 (.seq (.reg [⟨(some 18), .mov (.t 3), none, false⟩, ⟨(some 2), .mov (.t 18), none, false⟩])
 .ret))))
def r117 : List ARes := [.t 2]
theorem c117 : compF Try.prog Try.f117 = some (a117, r117) := by kernel_rfl

theorem b117 : hasBody Try.prog 117 = true := by kernel_rfl
theorem g117 : Try.prog.funcs[117]? = some Try.f117 := by kernel_rfl
/- rung/rungref3.OpenRequest -/
def a54 : ACode := (.seq (.reg [⟨(some 2), .alloc [(1, (.int .u8 0)), (3, (.int .u16 0)), (2, .nils)], none, false⟩, ⟨(some 3), .mov (.c (.int .i64 0)), none, false⟩])
 (.seq (.seq (.reg [⟨(some 10), .mov (.t 0), none, false⟩, ⟨(some 11), .len false (.t 10), none, false⟩, ⟨(some 12), .bin .lss .other (.t 11) (.c (.int .i64 5)), none, false⟩])
 (.cond (.t 12) (.seq (.reg [⟨(some 13), .build [(.int .u8 0), (.int .u16 0), (.int .u16 0), (.int .u16 0), .nils, .nils] [], none, false⟩, ⟨none, .store 6 (.t 2) (.t 13), none, false⟩, ⟨(some 3), .mov (.c (.int .i64 30)), none, false⟩])
 .ret)
 .skip))
 (.seq (.draw [⟨0, ⟨(some 14), .mov (.t 0), none, false⟩, false, [], []⟩, ⟨1, ⟨(some 15), .idx 1 none false (.t 14) (.c (.int .i64 0)), none, false⟩, false, [], []⟩, ⟨2, ⟨(some 16), .load false 1 (.t 15), none, false⟩, false, [], []⟩, ⟨3, ⟨(some 17), .mov (.t 0), none, false⟩, false, [], []⟩, ⟨6, ⟨(some 4), .alloc [(1, (.int .u8 0)), (3, (.int .u16 0)), (2, .nils)], none, false⟩, false, [], []⟩, ⟨4, ⟨(some 18), .call 116 [(.t 17), (.c (.int .i64 1))], none, false⟩, true, [], [(.t 15)]⟩, ⟨5, ⟨(some 19), .build [(.int .u8 0), (.int .u16 0), (.int .u16 0), (.int .u16 0), .nils, .nils] [(0, 1, (.t 16)), (1, 1, (.t 18))], none, false⟩, false, [], []⟩, ⟨7, ⟨none, .store 6 (.t 4) (.t 19), none, false⟩, true, [6], []⟩])
 (.seq (.reg [⟨(some 20), .mov (.t 0), none, false⟩, ⟨(some 21), .call 116 [(.t 20), (.c (.int .i64 3))], none, false⟩, ⟨(some 5), .mov (.t 21), none, false⟩])
 (.seq (.reg [⟨(some 6), .mov (.c (.bool false)), none, false⟩])
 (.seq (.seq (.reg [⟨(some 22), .fld 0 1 false (.t 4), none, false⟩, ⟨(some 23), .load false 1 (.t 22), none, false⟩])
 (.block 0 (.seq (.seq (.reg [⟨(some 25), .bin .eql .other (.t 23) (.c (.int .u8 1)), none, false⟩, ⟨(some 24), .mov (.t 25), none, false⟩])
 (.cond (.t 24) .skip
 (.seq (.reg [⟨(some 26), .bin .eql .other (.t 23) (.c (.int .u8 2)), none, false⟩, ⟨(some 24), .mov (.t 26), none, false⟩])
 (.cond (.t 24) .skip
 (.seq (.reg [⟨(some 27), .bin .eql .other (.t 23) (.c (.int .u8 3)), none, false⟩, ⟨(some 24), .mov (.t 27), none, false⟩])
 (.cond (.t 24) .skip
 (.reg [⟨(some 28), .bin .eql .other (.t 23) (.c (.int .u8 4)), none, false⟩, ⟨(some 24), .mov (.t 28), none, false⟩])))))))
 (.cond (.t 24) (.reg [⟨(some 29), .mov (.t 5), none, false⟩, ⟨(some 30), .fld 2 1 false (.t 4), none, false⟩, ⟨none, .store 1 (.t 30) (.t 29), none, false⟩])
 (.seq (.reg [⟨(some 32), .bin .eql .other (.t 23) (.c (.int .u8 5)), none, false⟩, ⟨(some 31), .mov (.t 32), none, false⟩])
 (.cond (.t 31) (.reg [⟨(some 33), .mov (.t 5), none, false⟩, ⟨(some 34), .bin .eql .other (.t 33) (.c (.int .u16 65280)), none, false⟩, ⟨(some 35), .bslice 1 .bool [(.bool false)] [(0, 1, (.t 34))] 1, none, false⟩, ⟨(some 36), .fld 4 1 false (.t 4), none, false⟩, ⟨none, .store 1 (.t 36) (.t 35), none, false⟩])
 (.seq (.reg [⟨(some 38), .bin .eql .other (.t 23) (.c (.int .u8 6)), none, false⟩, ⟨(some 37), .mov (.t 38), none, false⟩])
 (.cond (.t 37) (.reg [⟨(some 39), .mov (.t 5), none, false⟩, ⟨(some 40), .bslice 1 (.int .u16) [(.int .u16 0)] [(0, 1, (.t 39))] 1, none, false⟩, ⟨(some 41), .fld 5 1 false (.t 4), none, false⟩, ⟨none, .store 1 (.t 41) (.t 40), none, false⟩])
 (.seq (.reg [⟨(some 43), .bin .eql .other (.t 23) (.c (.int .u8 15)), none, false⟩, ⟨(some 42), .mov (.t 43), none, false⟩])
 (.cond (.t 42) (.seq (.seq (.reg [⟨(some 44), .mov (.t 0), none, false⟩, ⟨(some 45), .len false (.t 44), none, false⟩, ⟨(some 46), .bin .lss .other (.t 45) (.c (.int .i64 6)), none, false⟩, ⟨(some 47), .mov (.t 46), none, true⟩, ⟨(some 48), .mov (.t 5), (some (47, false)), false⟩, ⟨(some 49), .bin .lss .other (.t 48) (.c (.int .u16 1)), (some (47, false)), false⟩, ⟨(some 50), .pick (.t 47) (.c (.bool true)) (.t 49), none, false⟩, ⟨(some 51), .mov (.t 50), none, true⟩, ⟨(some 52), .mov (.t 5), (some (51, false)), false⟩, ⟨(some 53), .bin .gtr .other (.t 52) (.c (.int .u16 1968)), (some (51, false)), false⟩, ⟨(some 54), .pick (.t 51) (.c (.bool true)) (.t 53), none, false⟩, ⟨(some 55), .mov (.t 54), none, true⟩, ⟨(some 56), .mov (.t 0), (some (55, false)), false⟩, ⟨(some 57), .len false (.t 56), (some (55, false)), false⟩, ⟨(some 58), .mov (.t 0), (some (55, false)), false⟩, ⟨(some 59), .idx 1 none false (.t 58) (.c (.int .i64 5)), (some (55, false)), false⟩, ⟨(some 60), .load false 1 (.t 59), (some (55, false)), false⟩, ⟨(some 61), .conv (.int .i64) (.t 60), (some (55, false)), false⟩, ⟨(some 62), .bin .add .other (.c (.int .i64 6)) (.t 61), (some (55, false)), false⟩, ⟨(some 63), .bin .neq .other (.t 57) (.t 62), (some (55, false)), false⟩, ⟨(some 64), .pick (.t 55) (.c (.bool true)) (.t 63), none, false⟩])
 (.cond (.t 64) (.seq (.reg [⟨(some 65), .build [(.int .u8 0), (.int .u16 0), (.int .u16 0), (.int .u16 0), .nils, .nils] [], none, false⟩, ⟨none, .store 6 (.t 2) (.t 65), none, false⟩, ⟨(some 3), .mov (.c (.int .i64 30)), none, false⟩])
 .ret)
 .skip))
 (.reg [⟨(some 66), .mov (.t 0), none, false⟩, ⟨(some 67), .slice (.sl 1) (.t 66) (some (.c (.int .i64 6))) none, none, false⟩, ⟨(some 68), .mov (.t 5), none, false⟩, ⟨(some 69), .conv (.int .i64) (.t 68), none, false⟩, ⟨(some 70), .call 67 [(.t 67), (.t 69)], none, false⟩, ⟨(some 71), .fld 4 1 false (.t 4), none, false⟩, ⟨none, .store 1 (.t 71) (.t 70), none, false⟩, ⟨(some 6), .mov (.c (.bool true)), none, false⟩]))
 (.seq (.reg [⟨(some 73), .bin .eql .other (.t 23) (.c (.int .u8 16)), none, false⟩, ⟨(some 72), .mov (.t 73), none, false⟩])
 (.cond (.t 72) (.seq (.seq (.reg [⟨(some 74), .mov (.t 0), none, false⟩, ⟨(some 75), .len false (.t 74), none, false⟩, ⟨(some 76), .bin .lss .other (.t 75) (.c (.int .i64 6)), none, false⟩])
 (.cond (.t 76) (.seq (.reg [⟨(some 77), .build [(.int .u8 0), (.int .u16 0), (.int .u16 0), (.int .u16 0), .nils, .nils] [], none, false⟩, ⟨none, .store 6 (.t 2) (.t 77), none, false⟩, ⟨(some 3), .mov (.c (.int .i64 30)), none, false⟩])
 .ret)
 .skip))
 (.reg [⟨(some 78), .mov (.t 0), none, false⟩, ⟨(some 79), .slice (.sl 1) (.t 78) (some (.c (.int .i64 6))) none, none, false⟩, ⟨(some 80), .call 117 [(.t 79)], none, false⟩, ⟨(some 81), .fld 5 1 false (.t 4), none, false⟩, ⟨none, .store 1 (.t 81) (.t 80), none, false⟩]))
 (.seq (.reg [⟨(some 83), .bin .eql .other (.t 23) (.c (.int .u8 22)), none, false⟩, ⟨(some 82), .mov (.t 83), none, false⟩])
 (.cond (.t 82) (.reg [⟨(some 84), .mov (.t 0), none, false⟩, ⟨(some 85), .slice (.sl 1) (.t 84) (some (.c (.int .i64 3))) none, none, false⟩, ⟨(some 86), .call 117 [(.t 85)], none, false⟩, ⟨(some 87), .fld 5 1 false (.t 4), none, false⟩, ⟨none, .store 1 (.t 87) (.t 86), none, false⟩])
 (.seq (.reg [⟨(some 89), .bin .eql .other (.t 23) (.c (.int .u8 23)), none, false⟩, ⟨(some 88), .mov (.t 89), none, false⟩])
 (.cond (.t 88) (.seq (.seq (.reg [⟨(some 90), .mov (.t 0), none, false⟩, ⟨(some 91), .len false (.t 90), none, false⟩, ⟨(some 92), .bin .lss .other (.t 91) (.c (.int .i64 10)), none, false⟩])
 (.cond (.t 92) (.seq (.reg [⟨(some 93), .build [(.int .u8 0), (.int .u16 0), (.int .u16 0), (.int .u16 0), .nils, .nils] [], none, false⟩, ⟨none, .store 6 (.t 2) (.t 93), none, false⟩, ⟨(some 3), .mov (.c (.int .i64 30)), none, false⟩])
 .ret)
 .skip))
 (.draw [⟨0, ⟨(some 94), .mov (.t 5), none, false⟩, false, [], []⟩, ⟨1, ⟨(some 95), .mov (.t 0), none, false⟩, false, [], []⟩, ⟨3, ⟨(some 97), .mov (.t 0), none, false⟩, false, [], []⟩, ⟨4, ⟨(some 98), .slice (.sl 1) (.t 97) (some (.c (.int .i64 10))) none, none, false⟩, false, [], []⟩, ⟨6, ⟨(some 100), .fld 2 1 false (.t 4), none, false⟩, false, [], []⟩, ⟨2, ⟨(some 96), .call 116 [(.t 95), (.c (.int .i64 5))], none, false⟩, true, [], []⟩, ⟨5, ⟨(some 99), .call 117 [(.t 98)], none, false⟩, true, [], []⟩, ⟨7, ⟨none, .store 1 (.t 100) (.t 94), none, false⟩, true, [], []⟩, ⟨8, ⟨(some 101), .fld 3 1 false (.t 4), none, false⟩, false, [], []⟩, ⟨9, ⟨none, .store 1 (.t 101) (.t 96), none, false⟩, true, [], []⟩, ⟨10, ⟨(some 102), .fld 5 1 false (.t 4), none, false⟩, false, [], []⟩, ⟨11, ⟨none, .store 1 (.t 102) (.t 99), none, false⟩, true, [], []⟩]))
 .skip))))))))))))))))
 (.seq (.reg [⟨(some 104), .load true 6 (.t 4), none, false⟩, ⟨(some 105), .call 49 [(.t 104)], none, false⟩, ⟨(some 103), .mov (.t 105), none, false⟩, ⟨(some 106), .ext (.t 103) 0, none, false⟩, ⟨(some 107), .ext (.t 103) 1, none, false⟩, ⟨(some 7), .mov (.t 106), none, false⟩, ⟨(some 8), .mov (.t 107), none, false⟩])
 (.seq (.seq (.reg [⟨(some 108), .mov (.t 8), none, false⟩, ⟨(some 109), .bin .neq .other (.t 108) (.c (.int .i64 0)), none, false⟩, ⟨(some 110), .mov (.t 109), none, true⟩, ⟨(some 111), .mov (.t 7), (some (110, false)), false⟩, ⟨(some 112), .len false (.t 111), (some (110, false)), false⟩, ⟨(some 113), .mov (.t 0), (some (110, false)), false⟩, ⟨(some 114), .len false (.t 113), (some (110, false)), false⟩, ⟨(some 115), .bin .neq .other (.t 112) (.t 114), (some (110, false)), false⟩, ⟨(some 116), .pick (.t 110) (.c (.bool true)) (.t 115), none, false⟩])
 (.cond (.t 116) (.seq (.reg [⟨(some 117), .build [(.int .u8 0), (.int .u16 0), (.int .u16 0), (.int .u16 0), .nils, .nils] [], none, false⟩, ⟨none, .store 6 (.t 2) (.t 117), none, false⟩, ⟨(some 3), .mov (.c (.int .i64 30)), none, false⟩])
 .ret)
 .skip))
 (.seq (.seq (.reg [⟨(some 9), .mov (.c (.int .i64 0)), none, false⟩])
 (.block 1 (.loop (.seq (.seq (.reg [⟨(some 118), .mov (.t 9), none, false⟩, ⟨(some 119), .mov (.t 0), none, false⟩, ⟨(some 120), .len false (.t 119), none, false⟩, ⟨(some 121), .bin .lss .other (.t 118) (.t 120), none, false⟩])
 (.cond (.t 121) .skip
 (.exit 1)))
 (.seq (.block 2 (.seq (.draw [⟨0, ⟨(some 124), .mov (.t 7), none, false⟩, false, [], []⟩, ⟨1, ⟨(some 125), .mov (.t 9), none, false⟩, false, [], []⟩, ⟨2, ⟨(some 126), .idx 1 none false (.t 124) (.t 125), none, false⟩, false, [], []⟩, ⟨3, ⟨(some 127), .load false 1 (.t 126), none, false⟩, false, [], []⟩, ⟨4, ⟨(some 128), .mov (.t 0), none, false⟩, false, [], []⟩, ⟨5, ⟨(some 129), .mov (.t 9), none, false⟩, false, [], []⟩, ⟨6, ⟨(some 130), .idx 1 none false (.t 128) (.t 129), none, false⟩, false, [], []⟩, ⟨7, ⟨(some 131), .load false 1 (.t 130), none, false⟩, false, [], []⟩, ⟨8, ⟨(some 132), .bin .neq .other (.t 127) (.t 131), none, false⟩, false, [], []⟩, ⟨9, ⟨(some 133), .mov (.t 132), none, true⟩, false, [], []⟩, ⟨10, ⟨(some 134), .mov (.t 6), (some (133, true)), false⟩, false, [], []⟩, ⟨11, ⟨(some 135), .mov (.t 134), (some (133, true)), true⟩, false, [], []⟩, ⟨12, ⟨(some 136), .mov (.t 9), (some (135, true)), false⟩, false, [], []⟩, ⟨13, ⟨(some 137), .mov (.t 0), (some (135, true)), false⟩, false, [], []⟩, ⟨14, ⟨(some 138), .len false (.t 137), (some (135, true)), false⟩, false, [], []⟩, ⟨15, ⟨(some 139), .bin .sub .other (.t 138) (.c (.int .i64 1)), (some (135, true)), false⟩, false, [], []⟩, ⟨16, ⟨(some 140), .bin .eql .other (.t 136) (.t 139), (some (135, true)), false⟩, false, [], []⟩, ⟨17, ⟨(some 141), .pick (.t 135) (.t 140) (.c (.bool false)), (some (133, true)), false⟩, false, [], []⟩, ⟨18, ⟨(some 142), .un .not (.t 141), (some (133, true)), false⟩, false, [], []⟩, ⟨19, ⟨(some 143), .pick (.t 133) (.t 142) (.c (.bool false)), none, false⟩, false, [], []⟩])
 (.cond (.t 143) (.seq (.reg [⟨(some 144), .build [(.int .u8 0), (.int .u16 0), (.int .u16 0), (.int .u16 0), .nils, .nils] [], none, false⟩, ⟨none, .store 6 (.t 2) (.t 144), none, false⟩, ⟨(some 3), .mov (.c (.int .i64 30)), none, false⟩])
 .ret)
 .skip)))
 (.reg [⟨(some 122), .mov (.t 9), none, false⟩, ⟨(some 123), .bin .add .other (.t 122) (.c (.int .i64 1)), none, false⟩, ⟨(some 9), .mov (.t 123), none, false⟩]))))))
 (.seq (.reg [⟨(some 145), .load true 6 (.t 4), none, false⟩, ⟨none, .store 6 (.t 2) (.t 145), none, false⟩, ⟨(some 3), .mov (.c (.int .i64 0)), none, false⟩])
 .ret))))))))))
def r54 : List ARes := [.cell 2 true 6, .t 3]
theorem c54 : compF Try.prog Try.f54 = some (a54, r54) := by kernel_rfl

theorem b54 : hasBody Try.prog 54 = true := by kernel_rfl
theorem g54 : Try.prog.funcs[54]? = some Try.f54 := by kernel_rfl

theorem at_ev (l : List Int) (i : Nat) (h : i + 1 < l.length) (hl : l.length ≤ 100000) : Ev Try.prog 116 [.roI .u8 l, .int .i64 i] (.int .u16 (numAt l i)) := by
  refine FrzK.ev rfl (trF g116 b116 c116 ?_)
  have h1 : IntKind.i64.wrap ((i : Int) + 1) = ((i + 1 : Nat) : Int) := by rw [IntWalk.i64_in _ (by omega)]; rfl
  conv => whnf
  refine condT (by simp; omega) ?_
  conv => whnf
  refine condT (by simp only [h1]; simp; omega) ?_
  conv => whnf
  simp only [h1]
  exact FrzK.le (Le.refl _)
theorem at_ev' (l : List Int) (i : Int) (k : Nat) (hk : i = k) (h : k + 1 < l.length) (hl : l.length ≤ 100000) : Ev Try.prog 116 [.roI .u8 l, .int .i64 i] (.int .u16 (numAt l k)) := by subst hk; exact at_ev l k h hl
theorem rregs_tr (l : List Int) (hl : l.length ≤ 100000) : Tr Try.prog 117 [.roI .u8 l] ⟨0, []⟩ fun v s => v = .sl 1 0 0 (numsN l (l.length / 2)).length ∧ s = ⟨1, [(0, some (.rowI .u16 (numsN l (l.length / 2))))]⟩ := by
  refine Tr.norm (K := fun v s => (∃ h, v = .sl 1 h 0 (numsN l (l.length / 2)).length ∧ s.get h = some (.rowI .u16 (numsN l (l.length / 2)))) ∨ (numsN l (l.length / 2) = [] ∧ v = .nils)) ?_ fun v s h => ?_
  · refine trF g117 b117 c117 ?_
    conv => whnf
    refine loopI (α := {i : Nat // i ≤ l.length / 2}) (fun i => [(0, .roI .u8 l), (3, .sl 1 0 0 i.1), (4, .int .i64 (2 * i.1 : Nat))]) (fun i => ⟨1, [(0, some (.rowI .u16 (numsN l i.1)))]⟩) (fun i => l.length / 2 - i.1) ⟨0, Nat.zero_le _⟩
      ⟨[(0, none)], rfl, rfl, rfl, ⟨⟨rfl, rfl⟩, ⟨rfl, rfl⟩, ⟨rfl, rfl⟩, trivial⟩, ⟨trivial, rfl, rfl⟩, trivial⟩ fun ⟨i, hi⟩ => ?_
    conv => whnf
    have h1 : IntKind.i64.wrap (((2 * i : Nat) : Int) + 1) = ((2 * i + 1 : Nat) : Int) := by rw [IntWalk.i64_in _ (by omega)]; rfl
    have h2 : IntKind.i64.wrap (((2 * i : Nat) : Int) + 2) = ((2 * (i + 1) : Nat) : Int) := by rw [IntWalk.i64_in _ (by omega)]; rfl
    by_cases hlt : i < l.length / 2
    · refine condY (by simp only [h1]; simp; omega) ?_
      conv => whnf
      refine Ev.call (at_ev l (2 * i) (by omega) hl) ?_
      conv => whnf
      refine condT (by simp [numsN_length]; omega) ?_
      conv => whnf
      refine ⟨⟨i + 1, hlt⟩, ⟨[(0, some 2)], rfl, rfl, rfl, ⟨⟨rfl, rfl⟩, ⟨rfl, rfl⟩, ⟨?_, rfl⟩, trivial⟩, ⟨⟨trivial, rfl, ?_⟩, trivial⟩⟩, by show l.length / 2 - (i + 1) < l.length / 2 - i; omega⟩
      · show AV.int .i64 (IntKind.i64.wrap (((2 * i : Nat) : Int) + 2)) = AV.int .i64 ((2 * (i + 1) : Nat) : Int)
        rw [h2]
      · show some (Chunk.rowI .u16 (List.take i (List.drop 0 (numsN l i)) ++ List.take 1 (List.drop 0 [numAt l (2 * i)]))) = some (Chunk.rowI .u16 (numsN l (i + 1)))
        rw [List.drop_zero, List.take_of_length_le (by rw [numsN_length]; omega)]
        rfl
    · refine condN (by simp only [h1]; simp; omega) ?_
      conv => whnf
      have : i = l.length / 2 := by omega
      subst this
      exact .inl ⟨0, by rw [numsN_length], rfl⟩
  · refine ⟨_, _, ?_, rfl, rfl⟩
    rcases h with ⟨h, rfl, hg⟩ | ⟨hn, rfl⟩
    · exact ⟨[(0, some h)], rfl, rfl, rfl, ⟨⟨rfl, rfl⟩, trivial⟩, ⟨⟨trivial, rfl, hg⟩, trivial⟩⟩
    · rw [hn]
      exact ⟨[(0, none)], rfl, rfl, rfl, ⟨⟨rfl, rfl⟩, trivial⟩, ⟨⟨trivial, rfl, rfl⟩, trivial⟩⟩
theorem rregs_ev (l : List Int) (hl : l.length ≤ 100000) : Ev Try.prog 117 [.roI .u8 l] (.roI .u16 (numsN l (l.length / 2))) := Ev.row rfl (rregs_tr l hl)
theorem rbits_ev (l : List Int) (n : Int) (hl : l.length ≤ 100000) : Ev Try.prog 67 [.roI .u8 l, .int .i64 n] (.roB (bitsA l (bitsK n))) := by
  refine Ev.rowB rfl ?_
  rw [bitsA_length]
  exact rbits_tr l n hl
def rOpenT (f a v : Int) (l : List Int) : Option (Rq × Bool) :=
  if f == 1 then some (⟨f, a, v, 0, [], []⟩, false)
  else if f == 2 then some (⟨f, a, v, 0, [], []⟩, false)
  else if f == 3 then some (⟨f, a, v, 0, [], []⟩, false)
  else if f == 4 then some (⟨f, a, v, 0, [], []⟩, false)
  else if f == 5 then some (⟨f, a, 0, 0, [v == 65280], []⟩, false)
  else if f == 6 then some (⟨f, a, 0, 0, [], [v]⟩, false)
  else if f == 15 then (if decide ((l.length : Int) < 6) || decide (v < 1) || decide (v > 1968) || (l.length : Int) != IntKind.i64.wrap (6 + IntKind.i64.wrap (l.getD 5 0)) then none else some (⟨f, a, 0, 0, bitsA (cutF l 6) (bitsK (IntKind.i64.wrap v)), []⟩, true))
  else if f == 16 then (if decide ((l.length : Int) < 6) then none else some (⟨f, a, 0, 0, [], numsN (cutF l 6) ((cutF l 6).length / 2)⟩, false))
  else if f == 22 then some (⟨f, a, 0, 0, [], numsN (cutF l 3) ((cutF l 3).length / 2)⟩, false)
  else if f == 23 then (if decide ((l.length : Int) < 10) then none else some (⟨f, a, v, numAt l 5, [], numsN (cutF l 10) ((cutF l 10).length / 2)⟩, false))
  else some (⟨f, a, 0, 0, [], []⟩, false)
def rOpenS (l : List Int) : Option (Rq × Bool) := if decide ((l.length : Int) < 5) then none else rOpenT (l.getD 0 0) (numAt l 1) (numAt l 3) l
def agreeB (row l : List Int) (sp : Bool) (j : Nat) : Bool := row.getD j 0 == l.getD j 0 || (sp && (j : Int) == ((l.length - 1 : Nat) : Int))
def decT (l : List Int) (o : Option (Rq × Bool)) : Rq × Int :=
  match o with
  | none => (Rq.zero, 30)
  | some (q, sp) => if encE q.f q.n q.a2 q.b q.r == 0 && ((encR q.f q.a q.n q.a2 q.b q.r).length : Int) == l.length && (List.range l.length).all (agreeB (encR q.f q.a q.n q.a2 q.b q.r) l sp) then (q, 0) else (Rq.zero, 30)
def decR (l : List Int) : Rq × Int := decT l (rOpenS l)
def OkR (o : Option (Rq × Bool)) : Prop := ∀ q sp, o = some (q, sp) → InR q
theorem rOpenT_range (f a v : Int) (l : List Int) (hv : 0 ≤ v ∧ v < 65536) (hl : l.length ≤ 1000) : OkR (rOpenT f a v l) := by
  intro q sp
  have h2 := bitsK_le (IntKind.i64.wrap v)
  unfold rOpenT
  by_cases h1 : (f == 1) = true
  · rw [if_pos h1]; (intro h; first | (simp only [Option.some.injEq, Prod.mk.injEq] at h; obtain ⟨rfl, _⟩ := h; simp only [InR, hv.1, hv.2, numAt0, numAtL, bitsA_length, numsN_length, cutF_eq, List.length_nil, List.length_cons, List.length_drop, true_and]; omega) | (simp only [Option.some.injEq, Prod.mk.injEq] at h; obtain ⟨rfl, _⟩ := h; simp only [InR, hv.1, hv.2, numAt0, numAtL, bitsA_length, numsN_length, cutF_eq, List.length_nil, List.length_cons, List.length_drop, true_and]; done) | cases h)
  rw [if_neg h1]
  by_cases h2 : (f == 2) = true
  · rw [if_pos h2]; (intro h; first | (simp only [Option.some.injEq, Prod.mk.injEq] at h; obtain ⟨rfl, _⟩ := h; simp only [InR, hv.1, hv.2, numAt0, numAtL, bitsA_length, numsN_length, cutF_eq, List.length_nil, List.length_cons, List.length_drop, true_and]; omega) | (simp only [Option.some.injEq, Prod.mk.injEq] at h; obtain ⟨rfl, _⟩ := h; simp only [InR, hv.1, hv.2, numAt0, numAtL, bitsA_length, numsN_length, cutF_eq, List.length_nil, List.length_cons, List.length_drop, true_and]; done) | cases h)
  rw [if_neg h2]
  by_cases h3 : (f == 3) = true
  · rw [if_pos h3]; (intro h; first | (simp only [Option.some.injEq, Prod.mk.injEq] at h; obtain ⟨rfl, _⟩ := h; simp only [InR, hv.1, hv.2, numAt0, numAtL, bitsA_length, numsN_length, cutF_eq, List.length_nil, List.length_cons, List.length_drop, true_and]; omega) | (simp only [Option.some.injEq, Prod.mk.injEq] at h; obtain ⟨rfl, _⟩ := h; simp only [InR, hv.1, hv.2, numAt0, numAtL, bitsA_length, numsN_length, cutF_eq, List.length_nil, List.length_cons, List.length_drop, true_and]; done) | cases h)
  rw [if_neg h3]
  by_cases h4 : (f == 4) = true
  · rw [if_pos h4]; (intro h; first | (simp only [Option.some.injEq, Prod.mk.injEq] at h; obtain ⟨rfl, _⟩ := h; simp only [InR, hv.1, hv.2, numAt0, numAtL, bitsA_length, numsN_length, cutF_eq, List.length_nil, List.length_cons, List.length_drop, true_and]; omega) | (simp only [Option.some.injEq, Prod.mk.injEq] at h; obtain ⟨rfl, _⟩ := h; simp only [InR, hv.1, hv.2, numAt0, numAtL, bitsA_length, numsN_length, cutF_eq, List.length_nil, List.length_cons, List.length_drop, true_and]; done) | cases h)
  rw [if_neg h4]
  by_cases h5 : (f == 5) = true
  · rw [if_pos h5]; (intro h; first | (simp only [Option.some.injEq, Prod.mk.injEq] at h; obtain ⟨rfl, _⟩ := h; simp only [InR, hv.1, hv.2, numAt0, numAtL, bitsA_length, numsN_length, cutF_eq, List.length_nil, List.length_cons, List.length_drop, true_and]; omega) | (simp only [Option.some.injEq, Prod.mk.injEq] at h; obtain ⟨rfl, _⟩ := h; simp only [InR, hv.1, hv.2, numAt0, numAtL, bitsA_length, numsN_length, cutF_eq, List.length_nil, List.length_cons, List.length_drop, true_and]; done) | cases h)
  rw [if_neg h5]
  by_cases h6 : (f == 6) = true
  · rw [if_pos h6]; (intro h; first | (simp only [Option.some.injEq, Prod.mk.injEq] at h; obtain ⟨rfl, _⟩ := h; simp only [InR, hv.1, hv.2, numAt0, numAtL, bitsA_length, numsN_length, cutF_eq, List.length_nil, List.length_cons, List.length_drop, true_and]; omega) | (simp only [Option.some.injEq, Prod.mk.injEq] at h; obtain ⟨rfl, _⟩ := h; simp only [InR, hv.1, hv.2, numAt0, numAtL, bitsA_length, numsN_length, cutF_eq, List.length_nil, List.length_cons, List.length_drop, true_and]; done) | cases h)
  rw [if_neg h6]
  by_cases h15 : (f == 15) = true
  · rw [if_pos h15]; by_cases g : (decide ((l.length : Int) < 6) || decide (v < 1) || decide (v > 1968) || (l.length : Int) != IntKind.i64.wrap (6 + IntKind.i64.wrap (l.getD 5 0))) = true
    · rw [if_pos g]; (intro h; first | (simp only [Option.some.injEq, Prod.mk.injEq] at h; obtain ⟨rfl, _⟩ := h; simp only [InR, hv.1, hv.2, numAt0, numAtL, bitsA_length, numsN_length, cutF_eq, List.length_nil, List.length_cons, List.length_drop, true_and]; omega) | (simp only [Option.some.injEq, Prod.mk.injEq] at h; obtain ⟨rfl, _⟩ := h; simp only [InR, hv.1, hv.2, numAt0, numAtL, bitsA_length, numsN_length, cutF_eq, List.length_nil, List.length_cons, List.length_drop, true_and]; done) | cases h)
    · rw [if_neg g]; (intro h; first | (simp only [Option.some.injEq, Prod.mk.injEq] at h; obtain ⟨rfl, _⟩ := h; simp only [InR, hv.1, hv.2, numAt0, numAtL, bitsA_length, numsN_length, cutF_eq, List.length_nil, List.length_cons, List.length_drop, true_and]; omega) | (simp only [Option.some.injEq, Prod.mk.injEq] at h; obtain ⟨rfl, _⟩ := h; simp only [InR, hv.1, hv.2, numAt0, numAtL, bitsA_length, numsN_length, cutF_eq, List.length_nil, List.length_cons, List.length_drop, true_and]; done) | cases h)
  rw [if_neg h15]
  by_cases h16 : (f == 16) = true
  · rw [if_pos h16]; by_cases g : decide ((l.length : Int) < 6) = true
    · rw [if_pos g]; (intro h; first | (simp only [Option.some.injEq, Prod.mk.injEq] at h; obtain ⟨rfl, _⟩ := h; simp only [InR, hv.1, hv.2, numAt0, numAtL, bitsA_length, numsN_length, cutF_eq, List.length_nil, List.length_cons, List.length_drop, true_and]; omega) | (simp only [Option.some.injEq, Prod.mk.injEq] at h; obtain ⟨rfl, _⟩ := h; simp only [InR, hv.1, hv.2, numAt0, numAtL, bitsA_length, numsN_length, cutF_eq, List.length_nil, List.length_cons, List.length_drop, true_and]; done) | cases h)
    · rw [if_neg g]; (intro h; first | (simp only [Option.some.injEq, Prod.mk.injEq] at h; obtain ⟨rfl, _⟩ := h; simp only [InR, hv.1, hv.2, numAt0, numAtL, bitsA_length, numsN_length, cutF_eq, List.length_nil, List.length_cons, List.length_drop, true_and]; omega) | (simp only [Option.some.injEq, Prod.mk.injEq] at h; obtain ⟨rfl, _⟩ := h; simp only [InR, hv.1, hv.2, numAt0, numAtL, bitsA_length, numsN_length, cutF_eq, List.length_nil, List.length_cons, List.length_drop, true_and]; done) | cases h)
  rw [if_neg h16]
  by_cases h22 : (f == 22) = true
  · rw [if_pos h22]; (intro h; first | (simp only [Option.some.injEq, Prod.mk.injEq] at h; obtain ⟨rfl, _⟩ := h; simp only [InR, hv.1, hv.2, numAt0, numAtL, bitsA_length, numsN_length, cutF_eq, List.length_nil, List.length_cons, List.length_drop, true_and]; omega) | (simp only [Option.some.injEq, Prod.mk.injEq] at h; obtain ⟨rfl, _⟩ := h; simp only [InR, hv.1, hv.2, numAt0, numAtL, bitsA_length, numsN_length, cutF_eq, List.length_nil, List.length_cons, List.length_drop, true_and]; done) | cases h)
  rw [if_neg h22]
  by_cases h23 : (f == 23) = true
  · rw [if_pos h23]; by_cases g : decide ((l.length : Int) < 10) = true
    · rw [if_pos g]; (intro h; first | (simp only [Option.some.injEq, Prod.mk.injEq] at h; obtain ⟨rfl, _⟩ := h; simp only [InR, hv.1, hv.2, numAt0, numAtL, bitsA_length, numsN_length, cutF_eq, List.length_nil, List.length_cons, List.length_drop, true_and]; omega) | (simp only [Option.some.injEq, Prod.mk.injEq] at h; obtain ⟨rfl, _⟩ := h; simp only [InR, hv.1, hv.2, numAt0, numAtL, bitsA_length, numsN_length, cutF_eq, List.length_nil, List.length_cons, List.length_drop, true_and]; done) | cases h)
    · rw [if_neg g]; (intro h; first | (simp only [Option.some.injEq, Prod.mk.injEq] at h; obtain ⟨rfl, _⟩ := h; simp only [InR, hv.1, hv.2, numAt0, numAtL, bitsA_length, numsN_length, cutF_eq, List.length_nil, List.length_cons, List.length_drop, true_and]; omega) | (simp only [Option.some.injEq, Prod.mk.injEq] at h; obtain ⟨rfl, _⟩ := h; simp only [InR, hv.1, hv.2, numAt0, numAtL, bitsA_length, numsN_length, cutF_eq, List.length_nil, List.length_cons, List.length_drop, true_and]; done) | cases h)
  rw [if_neg h23]
  (intro h; first | (simp only [Option.some.injEq, Prod.mk.injEq] at h; obtain ⟨rfl, _⟩ := h; simp only [InR, hv.1, hv.2, numAt0, numAtL, bitsA_length, numsN_length, cutF_eq, List.length_nil, List.length_cons, List.length_drop, true_and]; omega) | (simp only [Option.some.injEq, Prod.mk.injEq] at h; obtain ⟨rfl, _⟩ := h; simp only [InR, hv.1, hv.2, numAt0, numAtL, bitsA_length, numsN_length, cutF_eq, List.length_nil, List.length_cons, List.length_drop, true_and]; done) | cases h)
theorem rOpen_range (l : List Int) (hl : l.length ≤ 1000) : OkR (rOpenS l) := by
  unfold rOpenS
  split
  · intro q sp h; cases h
  · exact rOpenT_range _ _ _ _ ⟨numAt0 _ _, numAtL _ _⟩ hl
def finR (q : Rq) (row l : List Int) (sp : Bool) (e : Int) : Rq × Int := if e == 0 && (row.length : Int) == l.length && (List.range l.length).all (agreeB row l sp) then (q, 0) else (Rq.zero, 30)
theorem decT_some (l : List Int) (q : Rq) (sp : Bool) : decT l (some (q, sp)) = finR q (encR q.f q.a q.n q.a2 q.b q.r) l sp (encE q.f q.n q.a2 q.b q.r) := rfl
theorem finR_no (q : Rq) (row l : List Int) (sp : Bool) (e : Int) (h : e ≠ 0 ∨ row.length ≠ l.length ∨ ∃ i, i < l.length ∧ agreeB row l sp i = false) : finR q row l sp e = (Rq.zero, 30) := by
  unfold finR
  rw [if_neg]
  intro hc
  simp only [Bool.and_eq_true, beq_iff_eq, List.all_eq_true, List.mem_range] at hc
  obtain ⟨⟨h1, h2⟩, h3⟩ := hc
  rcases h with h | h | ⟨i, hi, h⟩
  · exact h h1
  · omega
  · rw [h3 i hi] at h; cases h
theorem finR_yes (q : Rq) (row l : List Int) (sp : Bool) (e : Int) (h1 : e = 0) (h2 : row.length = l.length) (h3 : ∀ i, i < l.length → agreeB row l sp i = true) : finR q row l sp e = (q, 0) := by
  unfold finR
  rw [if_pos]
  simp only [Bool.and_eq_true, beq_iff_eq, List.all_eq_true, List.mem_range]
  exact ⟨⟨h1, by omega⟩, h3⟩
def nb (x : Bool) (q : Rq) : AV := bif x then .nils else .roB q.b
def nr (x : Bool) (q : Rq) : AV := bif x then .nils else .roI .u16 q.r
set_option maxRecDepth 20000 in
set_option maxHeartbeats 4000000 in
theorem rOpen_raw (l : List Int) (hl : l.length ≤ 1000) : Tr Try.prog 54 [.roI .u8 l] ⟨0, []⟩ (FrzK (.tup [rqA (decR l).1, .int .i64 (decR l).2])) := by
  have hok := rOpen_range l hl
  unfold decR
  generalize ho : rOpenS l = o at *
  refine trZ [104] [35, 40] g54 b54 c54 ?_
  conv => whnf
  refine condF (fun h => ?_) (fun h => ?_)
  · conv => whnf
    repeat' (first
      | (refine condT (by first | assumption | (simp [cutF]; done) | (simp [cutF]; omega) | (simp_all; done) | (simp_all; omega)) ?_; conv => whnf)
      | (refine ⟨rfl, ?_⟩; conv => whnf)
      | (refine Ev.call (at_ev' l 1 1 rfl (by first | (simp [cutF]; done) | (simp [cutF]; omega) | omega | (simp_all; omega)) (by omega)) ?_; conv => whnf)
      | (refine Ev.call (at_ev' l 3 3 rfl (by first | (simp [cutF]; done) | (simp [cutF]; omega) | omega | (simp_all; omega)) (by omega)) ?_; conv => whnf)
      )
    refine joinI (α := {x : Bool × Bool // o.isSome = true ∧ (x.1 = true → (o.getD (Rq.zero, false)).1.b = []) ∧ (x.2 = true → (o.getD (Rq.zero, false)).1.r = [])})
      (fun x => [(0, .roI .u8 l), (2, .ptr 0 0), (4, .ptr 1 0), (6, .bool (o.getD (Rq.zero, false)).2)])
      (fun x => ⟨2, [(1, some (.obj [.int .u8 (o.getD (Rq.zero, false)).1.f, .int .u16 (o.getD (Rq.zero, false)).1.a, .int .u16 (o.getD (Rq.zero, false)).1.n, .int .u16 (o.getD (Rq.zero, false)).1.a2, nb x.1.1 (o.getD (Rq.zero, false)).1, nr x.1.2 (o.getD (Rq.zero, false)).1])), (0, some (.obj [.int .u8 0, .int .u16 0, .int .u16 0, .int .u16 0, .nils, .nils]))]⟩) ?_ ?_
    · conv => whnf
      repeat' (first
        | (refine condY (by assumption) ?_; conv => whnf)
        | (refine condN (by assumption) ?_; conv => whnf)
        | (refine condT (by first | assumption | (simp [cutF]; done) | (simp [cutF]; omega) | (simp_all; done) | (simp_all; omega)) ?_; conv => whnf)
        | (refine condF (fun h => ?_) (fun h => ?_) <;> conv => whnf)
        | (refine ⟨rfl, ?_⟩; conv => whnf)
        | (refine Ev.call (at_ev' l 5 5 rfl (by first | (simp [cutF]; done) | (simp [cutF]; omega) | omega | (simp_all; omega)) (by omega)) ?_; conv => whnf)
        | (refine Ev.call (rregs_ev _ (by first | (simp [cutF]; done) | (simp [cutF]; omega) | omega | (simp_all; omega))) ?_; conv => whnf)
        | (refine Ev.call (rbits_ev _ _ (by first | (simp [cutF]; done) | (simp [cutF]; omega) | omega | (simp_all; omega))) ?_; conv => whnf)
        )
      all_goals (try simp only [show Int.toNat 0 = 0 from rfl, show Int.toNat 1 = 1 from rfl, show Int.toNat 3 = 3 from rfl, show Int.toNat 5 = 5 from rfl, show Int.toNat 6 = 6 from rfl, show Int.toNat 10 = 10 from rfl] at *)
      all_goals (simp only [rOpenS, rOpenT, cutF, *, if_true, if_false, Bool.false_eq_true, Bool.or_false, Bool.false_or, Bool.true_or, Bool.or_true] at ho)
      all_goals (try (first | erw [if_pos h] at ho | erw [if_neg (fun e => Bool.noConfusion (e.symm.trans h))] at ho))
      all_goals subst ho
      all_goals first
        | exact ⟨⟨(true, true), rfl, fun _ => rfl, fun _ => rfl⟩, [], rfl, rfl, rfl, ⟨⟨rfl, rfl⟩, ⟨rfl, rfl⟩, ⟨rfl, rfl⟩, ⟨rfl, rfl⟩, trivial⟩, ⟨⟨rfl, rfl, rfl⟩, ⟨rfl, rfl, rfl⟩, trivial⟩⟩
        | exact ⟨⟨(true, false), rfl, fun _ => rfl, fun h => nomatch h⟩, [], rfl, rfl, rfl, ⟨⟨rfl, rfl⟩, ⟨rfl, rfl⟩, ⟨rfl, rfl⟩, ⟨rfl, rfl⟩, trivial⟩, ⟨⟨rfl, rfl, rfl⟩, ⟨rfl, rfl, rfl⟩, trivial⟩⟩
        | exact ⟨⟨(false, true), rfl, fun h => nomatch h, fun _ => rfl⟩, [], rfl, rfl, rfl, ⟨⟨rfl, rfl⟩, ⟨rfl, rfl⟩, ⟨rfl, rfl⟩, ⟨rfl, rfl⟩, trivial⟩, ⟨⟨rfl, rfl, rfl⟩, ⟨rfl, rfl, rfl⟩, trivial⟩⟩
        | exact FrzK.le (leReqE rfl rfl rfl rfl Le.nilB (Le.nilI _) rfl)
        | (refine ⟨⟨(false, true), rfl, fun h => Bool.noConfusion h, fun _ => rfl⟩, [], rfl, rfl, rfl, ⟨⟨rfl, rfl⟩, ⟨rfl, rfl⟩, ⟨rfl, rfl⟩, ⟨rfl, rfl⟩, trivial⟩, ?_⟩; refine ⟨⟨rfl, rfl, ?_⟩, ⟨rfl, rfl, rfl⟩, trivial⟩; rfl)
    · rintro ⟨⟨bn, rn⟩, hs, hb0, hr0⟩
      cases o with
      | none => cases hs
      | some qs =>
      obtain ⟨q, sp⟩ := qs
      obtain ⟨hn0, hn1, hqb, hqr⟩ := hok q sp rfl
      have kb : bn = true → q.b = [] := hb0
      have kr : rn = true → q.r = [] := hr0
      have hR := rRequest_ev q.f q.a q.n q.a2 q.b q.r hn0 hn1 hqb hqr
      rw [decT_some]
      generalize encR q.f q.a q.n q.a2 q.b q.r = row at *
      generalize encE q.f q.n q.a2 q.b q.r = e at *
      cases bn <;> cases rn
      · conv => whnf
        refine Tr.le (args' := [reqA q.f q.a q.n q.a2 (.roB q.b) (.roI .u16 q.r)]) ⟨Le.agg ⟨Le.refl _, Le.refl _, Le.refl _, Le.refl _, Le.refl _, Le.refl _, trivial⟩, trivial⟩ (Ev.call hR ?_)
        conv => whnf
        refine condS (fun h => ?_) (fun h => ?_)
        · conv => whnf
          rw [finR_no q row l sp e (.inl (by simpa using h))]
          exact FrzK.le (leReqE rfl rfl rfl rfl Le.nilB (Le.nilI _) rfl)
        conv => whnf
        refine condS (fun h' => ?_) (fun h' => ?_)
        · conv => whnf
          rw [finR_no q row l sp e (.inr (.inl (by simp at h'; omega)))]
          exact FrzK.le (leReqE rfl rfl rfl rfl Le.nilB (Le.nilI _) rfl)
        conv => whnf
        have he : e = 0 := by simpa using h
        have hlen : row.length = l.length := by simp at h'; omega
        refine loopI (α := {i : Nat // i ≤ l.length ∧ ∀ j, j < i → agreeB row l sp j = true}) (fun i => [(0, .roI .u8 l), (2, .ptr 0 0), (4, .ptr 1 0), (6, .bool sp), (7, .roI .u8 row), (9, .int .i64 i.1)])
          (fun i => ⟨2, [(1, some (.obj [.int .u8 q.f, .int .u16 q.a, .int .u16 q.n, .int .u16 q.a2, .roB q.b, .roI .u16 q.r])), (0, some (.obj [.int .u8 0, .int .u16 0, .int .u16 0, .int .u16 0, .nils, .nils]))]⟩) (fun i => l.length - i.1) ⟨0, Nat.zero_le _, fun j hj => absurd hj (Nat.not_lt_zero j)⟩
          ⟨[], rfl, rfl, rfl, ⟨⟨rfl, rfl⟩, ⟨rfl, rfl⟩, ⟨rfl, rfl⟩, ⟨rfl, rfl⟩, ⟨rfl, rfl⟩, ⟨rfl, rfl⟩, trivial⟩, ⟨⟨rfl, rfl, rfl⟩, ⟨rfl, rfl, rfl⟩, trivial⟩⟩ fun ⟨i, hi, hag⟩ => ?_
        conv => whnf
        have hl1 : IntKind.i64.wrap ((l.length : Int) - 1) = (l.length : Int) - 1 := IntWalk.i64_in _ (by omega)
        by_cases hlt : i < l.length
        · refine condY (by simpa using hlt) ?_
          conv => whnf
          refine condT (by simp; omega) ?_
          conv => whnf
          refine condT (by simpa using hlt) ?_
          conv => whnf
          have step : agreeB row l sp i = true → ∃ x' : {i : Nat // i ≤ l.length ∧ ∀ j, j < i → agreeB row l sp j = true}, x'.1 = i + 1 := fun ha => ⟨⟨i + 1, hlt, fun j hj => by
            by_cases hji : j = i
            · rw [hji]; exact ha
            · exact hag j (by omega)⟩, rfl⟩
          have next : ∀ (x' : {i : Nat // i ≤ l.length ∧ ∀ j, j < i → agreeB row l sp j = true}), x'.1 = i + 1 → AV.int .i64 (IntKind.i64.wrap ((i : Int) + 1)) = AV.int .i64 (x'.1 : Int) := fun x' hx => by
            rw [hx, IntWalk.i64_in _ (by omega)]; rfl
          refine condF (fun g => ?_) (fun g => ?_)
          · conv => whnf
            obtain ⟨x', hx⟩ := step (by unfold agreeB; rw [show (row.getD i 0 == l.getD i 0) = true by simpa using g]; rfl)
            refine ⟨x', ⟨[], rfl, rfl, rfl, ⟨⟨rfl, rfl⟩, ⟨rfl, rfl⟩, ⟨rfl, rfl⟩, ⟨rfl, rfl⟩, ⟨rfl, rfl⟩, ⟨next x' hx, rfl⟩, trivial⟩, ⟨⟨rfl, rfl, rfl⟩, ⟨rfl, rfl, rfl⟩, trivial⟩⟩, by show l.length - x'.1 < l.length - i; omega⟩
          · conv => whnf
            cases sp
            · conv => whnf
              rw [finR_no q row l false e (.inr (.inr ⟨i, hlt, by unfold agreeB; rw [show (row.getD i 0 == l.getD i 0) = false by simpa using g]; rfl⟩))]
              exact FrzK.le (leReqE rfl rfl rfl rfl Le.nilB (Le.nilI _) rfl)
            · conv => whnf
              by_cases hL : i = l.length - 1
              · refine condN ?_ ?_
                · rw [hl1]; simp; omega
                conv => whnf
                obtain ⟨x', hx⟩ := step (by unfold agreeB; simp [hL])
                refine ⟨x', ⟨[], rfl, rfl, rfl, ⟨⟨rfl, rfl⟩, ⟨rfl, rfl⟩, ⟨rfl, rfl⟩, ⟨rfl, rfl⟩, ⟨rfl, rfl⟩, ⟨next x' hx, rfl⟩, trivial⟩, ⟨⟨rfl, rfl, rfl⟩, ⟨rfl, rfl, rfl⟩, trivial⟩⟩, by show l.length - x'.1 < l.length - i; omega⟩
              · refine condY ?_ ?_
                · rw [hl1]; simp; omega
                conv => whnf
                rw [finR_no q row l true e (.inr (.inr ⟨i, hlt, by unfold agreeB; rw [show (row.getD i 0 == l.getD i 0) = false by simpa using g]; simp; omega⟩))]
                exact FrzK.le (leReqE rfl rfl rfl rfl Le.nilB (Le.nilI _) rfl)
        · refine condN (by simpa using hlt) ?_
          conv => whnf
          rw [finR_yes q row l sp e he hlen (fun j hj => hag j (by omega))]
          exact FrzK.le (leReqE rfl rfl rfl rfl (Le.refl _) (Le.refl _) rfl)
      · conv => whnf
        refine Tr.le (args' := [reqA q.f q.a q.n q.a2 (.roB q.b) (.roI .u16 q.r)]) ⟨Le.agg ⟨Le.refl _, Le.refl _, Le.refl _, Le.refl _, Le.refl _, (by rw [kr rfl]; exact Le.nilI _), trivial⟩, trivial⟩ (Ev.call hR ?_)
        conv => whnf
        refine condS (fun h => ?_) (fun h => ?_)
        · conv => whnf
          rw [finR_no q row l sp e (.inl (by simpa using h))]
          exact FrzK.le (leReqE rfl rfl rfl rfl Le.nilB (Le.nilI _) rfl)
        conv => whnf
        refine condS (fun h' => ?_) (fun h' => ?_)
        · conv => whnf
          rw [finR_no q row l sp e (.inr (.inl (by simp at h'; omega)))]
          exact FrzK.le (leReqE rfl rfl rfl rfl Le.nilB (Le.nilI _) rfl)
        conv => whnf
        have he : e = 0 := by simpa using h
        have hlen : row.length = l.length := by simp at h'; omega
        refine loopI (α := {i : Nat // i ≤ l.length ∧ ∀ j, j < i → agreeB row l sp j = true}) (fun i => [(0, .roI .u8 l), (2, .ptr 0 0), (4, .ptr 1 0), (6, .bool sp), (7, .roI .u8 row), (9, .int .i64 i.1)])
          (fun i => ⟨2, [(1, some (.obj [.int .u8 q.f, .int .u16 q.a, .int .u16 q.n, .int .u16 q.a2, .roB q.b, .nils])), (0, some (.obj [.int .u8 0, .int .u16 0, .int .u16 0, .int .u16 0, .nils, .nils]))]⟩) (fun i => l.length - i.1) ⟨0, Nat.zero_le _, fun j hj => absurd hj (Nat.not_lt_zero j)⟩
          ⟨[], rfl, rfl, rfl, ⟨⟨rfl, rfl⟩, ⟨rfl, rfl⟩, ⟨rfl, rfl⟩, ⟨rfl, rfl⟩, ⟨rfl, rfl⟩, ⟨rfl, rfl⟩, trivial⟩, ⟨⟨rfl, rfl, rfl⟩, ⟨rfl, rfl, rfl⟩, trivial⟩⟩ fun ⟨i, hi, hag⟩ => ?_
        conv => whnf
        have hl1 : IntKind.i64.wrap ((l.length : Int) - 1) = (l.length : Int) - 1 := IntWalk.i64_in _ (by omega)
        by_cases hlt : i < l.length
        · refine condY (by simpa using hlt) ?_
          conv => whnf
          refine condT (by simp; omega) ?_
          conv => whnf
          refine condT (by simpa using hlt) ?_
          conv => whnf
          have step : agreeB row l sp i = true → ∃ x' : {i : Nat // i ≤ l.length ∧ ∀ j, j < i → agreeB row l sp j = true}, x'.1 = i + 1 := fun ha => ⟨⟨i + 1, hlt, fun j hj => by
            by_cases hji : j = i
            · rw [hji]; exact ha
            · exact hag j (by omega)⟩, rfl⟩
          have next : ∀ (x' : {i : Nat // i ≤ l.length ∧ ∀ j, j < i → agreeB row l sp j = true}), x'.1 = i + 1 → AV.int .i64 (IntKind.i64.wrap ((i : Int) + 1)) = AV.int .i64 (x'.1 : Int) := fun x' hx => by
            rw [hx, IntWalk.i64_in _ (by omega)]; rfl
          refine condF (fun g => ?_) (fun g => ?_)
          · conv => whnf
            obtain ⟨x', hx⟩ := step (by unfold agreeB; rw [show (row.getD i 0 == l.getD i 0) = true by simpa using g]; rfl)
            refine ⟨x', ⟨[], rfl, rfl, rfl, ⟨⟨rfl, rfl⟩, ⟨rfl, rfl⟩, ⟨rfl, rfl⟩, ⟨rfl, rfl⟩, ⟨rfl, rfl⟩, ⟨next x' hx, rfl⟩, trivial⟩, ⟨⟨rfl, rfl, rfl⟩, ⟨rfl, rfl, rfl⟩, trivial⟩⟩, by show l.length - x'.1 < l.length - i; omega⟩
          · conv => whnf
            cases sp
            · conv => whnf
              rw [finR_no q row l false e (.inr (.inr ⟨i, hlt, by unfold agreeB; rw [show (row.getD i 0 == l.getD i 0) = false by simpa using g]; rfl⟩))]
              exact FrzK.le (leReqE rfl rfl rfl rfl Le.nilB (Le.nilI _) rfl)
            · conv => whnf
              by_cases hL : i = l.length - 1
              · refine condN ?_ ?_
                · rw [hl1]; simp; omega
                conv => whnf
                obtain ⟨x', hx⟩ := step (by unfold agreeB; simp [hL])
                refine ⟨x', ⟨[], rfl, rfl, rfl, ⟨⟨rfl, rfl⟩, ⟨rfl, rfl⟩, ⟨rfl, rfl⟩, ⟨rfl, rfl⟩, ⟨rfl, rfl⟩, ⟨next x' hx, rfl⟩, trivial⟩, ⟨⟨rfl, rfl, rfl⟩, ⟨rfl, rfl, rfl⟩, trivial⟩⟩, by show l.length - x'.1 < l.length - i; omega⟩
              · refine condY ?_ ?_
                · rw [hl1]; simp; omega
                conv => whnf
                rw [finR_no q row l true e (.inr (.inr ⟨i, hlt, by unfold agreeB; rw [show (row.getD i 0 == l.getD i 0) = false by simpa using g]; simp; omega⟩))]
                exact FrzK.le (leReqE rfl rfl rfl rfl Le.nilB (Le.nilI _) rfl)
        · refine condN (by simpa using hlt) ?_
          conv => whnf
          rw [finR_yes q row l sp e he hlen (fun j hj => hag j (by omega))]
          exact FrzK.le (leReqE rfl rfl rfl rfl (Le.refl _) (by rw [kr rfl]; exact Le.nilI _) rfl)
      · conv => whnf
        refine Tr.le (args' := [reqA q.f q.a q.n q.a2 (.roB q.b) (.roI .u16 q.r)]) ⟨Le.agg ⟨Le.refl _, Le.refl _, Le.refl _, Le.refl _, (by rw [kb rfl]; exact Le.nilB), Le.refl _, trivial⟩, trivial⟩ (Ev.call hR ?_)
        conv => whnf
        refine condS (fun h => ?_) (fun h => ?_)
        · conv => whnf
          rw [finR_no q row l sp e (.inl (by simpa using h))]
          exact FrzK.le (leReqE rfl rfl rfl rfl Le.nilB (Le.nilI _) rfl)
        conv => whnf
        refine condS (fun h' => ?_) (fun h' => ?_)
        · conv => whnf
          rw [finR_no q row l sp e (.inr (.inl (by simp at h'; omega)))]
          exact FrzK.le (leReqE rfl rfl rfl rfl Le.nilB (Le.nilI _) rfl)
        conv => whnf
        have he : e = 0 := by simpa using h
        have hlen : row.length = l.length := by simp at h'; omega
        refine loopI (α := {i : Nat // i ≤ l.length ∧ ∀ j, j < i → agreeB row l sp j = true}) (fun i => [(0, .roI .u8 l), (2, .ptr 0 0), (4, .ptr 1 0), (6, .bool sp), (7, .roI .u8 row), (9, .int .i64 i.1)])
          (fun i => ⟨2, [(1, some (.obj [.int .u8 q.f, .int .u16 q.a, .int .u16 q.n, .int .u16 q.a2, .nils, .roI .u16 q.r])), (0, some (.obj [.int .u8 0, .int .u16 0, .int .u16 0, .int .u16 0, .nils, .nils]))]⟩) (fun i => l.length - i.1) ⟨0, Nat.zero_le _, fun j hj => absurd hj (Nat.not_lt_zero j)⟩
          ⟨[], rfl, rfl, rfl, ⟨⟨rfl, rfl⟩, ⟨rfl, rfl⟩, ⟨rfl, rfl⟩, ⟨rfl, rfl⟩, ⟨rfl, rfl⟩, ⟨rfl, rfl⟩, trivial⟩, ⟨⟨rfl, rfl, rfl⟩, ⟨rfl, rfl, rfl⟩, trivial⟩⟩ fun ⟨i, hi, hag⟩ => ?_
        conv => whnf
        have hl1 : IntKind.i64.wrap ((l.length : Int) - 1) = (l.length : Int) - 1 := IntWalk.i64_in _ (by omega)
        by_cases hlt : i < l.length
        · refine condY (by simpa using hlt) ?_
          conv => whnf
          refine condT (by simp; omega) ?_
          conv => whnf
          refine condT (by simpa using hlt) ?_
          conv => whnf
          have step : agreeB row l sp i = true → ∃ x' : {i : Nat // i ≤ l.length ∧ ∀ j, j < i → agreeB row l sp j = true}, x'.1 = i + 1 := fun ha => ⟨⟨i + 1, hlt, fun j hj => by
            by_cases hji : j = i
            · rw [hji]; exact ha
            · exact hag j (by omega)⟩, rfl⟩
          have next : ∀ (x' : {i : Nat // i ≤ l.length ∧ ∀ j, j < i → agreeB row l sp j = true}), x'.1 = i + 1 → AV.int .i64 (IntKind.i64.wrap ((i : Int) + 1)) = AV.int .i64 (x'.1 : Int) := fun x' hx => by
            rw [hx, IntWalk.i64_in _ (by omega)]; rfl
          refine condF (fun g => ?_) (fun g => ?_)
          · conv => whnf
            obtain ⟨x', hx⟩ := step (by unfold agreeB; rw [show (row.getD i 0 == l.getD i 0) = true by simpa using g]; rfl)
            refine ⟨x', ⟨[], rfl, rfl, rfl, ⟨⟨rfl, rfl⟩, ⟨rfl, rfl⟩, ⟨rfl, rfl⟩, ⟨rfl, rfl⟩, ⟨rfl, rfl⟩, ⟨next x' hx, rfl⟩, trivial⟩, ⟨⟨rfl, rfl, rfl⟩, ⟨rfl, rfl, rfl⟩, trivial⟩⟩, by show l.length - x'.1 < l.length - i; omega⟩
          · conv => whnf
            cases sp
            · conv => whnf
              rw [finR_no q row l false e (.inr (.inr ⟨i, hlt, by unfold agreeB; rw [show (row.getD i 0 == l.getD i 0) = false by simpa using g]; rfl⟩))]
              exact FrzK.le (leReqE rfl rfl rfl rfl Le.nilB (Le.nilI _) rfl)
            · conv => whnf
              by_cases hL : i = l.length - 1
              · refine condN ?_ ?_
                · rw [hl1]; simp; omega
                conv => whnf
                obtain ⟨x', hx⟩ := step (by unfold agreeB; simp [hL])
                refine ⟨x', ⟨[], rfl, rfl, rfl, ⟨⟨rfl, rfl⟩, ⟨rfl, rfl⟩, ⟨rfl, rfl⟩, ⟨rfl, rfl⟩, ⟨rfl, rfl⟩, ⟨next x' hx, rfl⟩, trivial⟩, ⟨⟨rfl, rfl, rfl⟩, ⟨rfl, rfl, rfl⟩, trivial⟩⟩, by show l.length - x'.1 < l.length - i; omega⟩
              · refine condY ?_ ?_
                · rw [hl1]; simp; omega
                conv => whnf
                rw [finR_no q row l true e (.inr (.inr ⟨i, hlt, by unfold agreeB; rw [show (row.getD i 0 == l.getD i 0) = false by simpa using g]; simp; omega⟩))]
                exact FrzK.le (leReqE rfl rfl rfl rfl Le.nilB (Le.nilI _) rfl)
        · refine condN (by simpa using hlt) ?_
          conv => whnf
          rw [finR_yes q row l sp e he hlen (fun j hj => hag j (by omega))]
          exact FrzK.le (leReqE rfl rfl rfl rfl (by rw [kb rfl]; exact Le.nilB) (Le.refl _) rfl)
      · conv => whnf
        refine Tr.le (args' := [reqA q.f q.a q.n q.a2 (.roB q.b) (.roI .u16 q.r)]) ⟨Le.agg ⟨Le.refl _, Le.refl _, Le.refl _, Le.refl _, (by rw [kb rfl]; exact Le.nilB), (by rw [kr rfl]; exact Le.nilI _), trivial⟩, trivial⟩ (Ev.call hR ?_)
        conv => whnf
        refine condS (fun h => ?_) (fun h => ?_)
        · conv => whnf
          rw [finR_no q row l sp e (.inl (by simpa using h))]
          exact FrzK.le (leReqE rfl rfl rfl rfl Le.nilB (Le.nilI _) rfl)
        conv => whnf
        refine condS (fun h' => ?_) (fun h' => ?_)
        · conv => whnf
          rw [finR_no q row l sp e (.inr (.inl (by simp at h'; omega)))]
          exact FrzK.le (leReqE rfl rfl rfl rfl Le.nilB (Le.nilI _) rfl)
        conv => whnf
        have he : e = 0 := by simpa using h
        have hlen : row.length = l.length := by simp at h'; omega
        refine loopI (α := {i : Nat // i ≤ l.length ∧ ∀ j, j < i → agreeB row l sp j = true}) (fun i => [(0, .roI .u8 l), (2, .ptr 0 0), (4, .ptr 1 0), (6, .bool sp), (7, .roI .u8 row), (9, .int .i64 i.1)])
          (fun i => ⟨2, [(1, some (.obj [.int .u8 q.f, .int .u16 q.a, .int .u16 q.n, .int .u16 q.a2, .nils, .nils])), (0, some (.obj [.int .u8 0, .int .u16 0, .int .u16 0, .int .u16 0, .nils, .nils]))]⟩) (fun i => l.length - i.1) ⟨0, Nat.zero_le _, fun j hj => absurd hj (Nat.not_lt_zero j)⟩
          ⟨[], rfl, rfl, rfl, ⟨⟨rfl, rfl⟩, ⟨rfl, rfl⟩, ⟨rfl, rfl⟩, ⟨rfl, rfl⟩, ⟨rfl, rfl⟩, ⟨rfl, rfl⟩, trivial⟩, ⟨⟨rfl, rfl, rfl⟩, ⟨rfl, rfl, rfl⟩, trivial⟩⟩ fun ⟨i, hi, hag⟩ => ?_
        conv => whnf
        have hl1 : IntKind.i64.wrap ((l.length : Int) - 1) = (l.length : Int) - 1 := IntWalk.i64_in _ (by omega)
        by_cases hlt : i < l.length
        · refine condY (by simpa using hlt) ?_
          conv => whnf
          refine condT (by simp; omega) ?_
          conv => whnf
          refine condT (by simpa using hlt) ?_
          conv => whnf
          have step : agreeB row l sp i = true → ∃ x' : {i : Nat // i ≤ l.length ∧ ∀ j, j < i → agreeB row l sp j = true}, x'.1 = i + 1 := fun ha => ⟨⟨i + 1, hlt, fun j hj => by
            by_cases hji : j = i
            · rw [hji]; exact ha
            · exact hag j (by omega)⟩, rfl⟩
          have next : ∀ (x' : {i : Nat // i ≤ l.length ∧ ∀ j, j < i → agreeB row l sp j = true}), x'.1 = i + 1 → AV.int .i64 (IntKind.i64.wrap ((i : Int) + 1)) = AV.int .i64 (x'.1 : Int) := fun x' hx => by
            rw [hx, IntWalk.i64_in _ (by omega)]; rfl
          refine condF (fun g => ?_) (fun g => ?_)
          · conv => whnf
            obtain ⟨x', hx⟩ := step (by unfold agreeB; rw [show (row.getD i 0 == l.getD i 0) = true by simpa using g]; rfl)
            refine ⟨x', ⟨[], rfl, rfl, rfl, ⟨⟨rfl, rfl⟩, ⟨rfl, rfl⟩, ⟨rfl, rfl⟩, ⟨rfl, rfl⟩, ⟨rfl, rfl⟩, ⟨next x' hx, rfl⟩, trivial⟩, ⟨⟨rfl, rfl, rfl⟩, ⟨rfl, rfl, rfl⟩, trivial⟩⟩, by show l.length - x'.1 < l.length - i; omega⟩
          · conv => whnf
            cases sp
            · conv => whnf
              rw [finR_no q row l false e (.inr (.inr ⟨i, hlt, by unfold agreeB; rw [show (row.getD i 0 == l.getD i 0) = false by simpa using g]; rfl⟩))]
              exact FrzK.le (leReqE rfl rfl rfl rfl Le.nilB (Le.nilI _) rfl)
            · conv => whnf
              by_cases hL : i = l.length - 1
              · refine condN ?_ ?_
                · rw [hl1]; simp; omega
                conv => whnf
                obtain ⟨x', hx⟩ := step (by unfold agreeB; simp [hL])
                refine ⟨x', ⟨[], rfl, rfl, rfl, ⟨⟨rfl, rfl⟩, ⟨rfl, rfl⟩, ⟨rfl, rfl⟩, ⟨rfl, rfl⟩, ⟨rfl, rfl⟩, ⟨next x' hx, rfl⟩, trivial⟩, ⟨⟨rfl, rfl, rfl⟩, ⟨rfl, rfl, rfl⟩, trivial⟩⟩, by show l.length - x'.1 < l.length - i; omega⟩
              · refine condY ?_ ?_
                · rw [hl1]; simp; omega
                conv => whnf
                rw [finR_no q row l true e (.inr (.inr ⟨i, hlt, by unfold agreeB; rw [show (row.getD i 0 == l.getD i 0) = false by simpa using g]; simp; omega⟩))]
                exact FrzK.le (leReqE rfl rfl rfl rfl Le.nilB (Le.nilI _) rfl)
        · refine condN (by simpa using hlt) ?_
          conv => whnf
          rw [finR_yes q row l sp e he hlen (fun j hj => hag j (by omega))]
          exact FrzK.le (leReqE rfl rfl rfl rfl (by rw [kb rfl]; exact Le.nilB) (by rw [kr rfl]; exact Le.nilI _) rfl)
  · conv => whnf
    have : o = none := by rw [← ho]; unfold rOpenS; rw [if_pos h]
    subst this
    exact FrzK.le (leReqE rfl rfl rfl rfl Le.nilB (Le.nilI _) rfl)
theorem rOpen_ev (l : List Int) (hl : l.length ≤ 1000) : Ev Try.prog 54 [.roI .u8 l] (.tup [rqA (decR l).1, .int .i64 (decR l).2]) := FrzK.ev rfl (rOpen_raw l hl)
end Go.Proofs.Ytomodeliimnddaa
set_option linter.unusedVariables false
set_option linter.unusedSimpArgs false
namespace Go.Proofs.Ytomodeliimnddaa
open Go.Ab
theorem again_len (q : Rq) (l row : List Int) (e : Int) : (againS q l row e).length = row.length := by
  unfold againS
  split <;> simp
theorem row15_len (a : Int) (b : List Bool) : (row15 15 a b).length = 6 + (b.length + 7) / 8 := by
  simp [row15, pre3, two8, packN_length]; omega
/-- how long a request is, told by its first bytes -/
def expl (l : List Int) : Int :=
  if l.getD 0 0 = 15 ∨ l.getD 0 0 = 16 then 6 + l.getD 5 0 else if l.getD 0 0 = 23 then 10 + l.getD 9 0 else if l.getD 0 0 = 22 then 7 else 5
theorem getD_app (l m : List Int) (k : Nat) (h : k < l.length) : (l ++ m).getD k 0 = l.getD k 0 := by
  simp [List.getD_eq_getElem?_getD, List.getElem?_append_left h]
theorem getD_take (l : List Int) (k i : Nat) (h : i < k) : (l.take k).getD i 0 = l.getD i 0 := by
  simp [List.getD_eq_getElem?_getD, List.getElem?_take, h]
theorem getD_out (l : List Int) (i : Nat) (h : l.length ≤ i) : l.getD i 0 = 0 := by
  simp [List.getD_eq_getElem?_getD, List.getElem?_eq_none h]
theorem encR_ne (f a n a2 : Int) (b : List Bool) (r : List Int) (h : encR f a n a2 b r ≠ []) : encOk f n a2 b r = true := by
  unfold encR at h
  by_cases hk : encOk f n a2 b r = true
  · exact hk
  · rw [if_neg hk] at h; exact absurd rfl h
theorem expl_enc (f a n a2 : Int) (b : List Bool) (r : List Int) (hk : encOk f n a2 b r = true) :
    ((encR f a n a2 b r).length : Int) = expl (encR f a n a2 b r) ∧ (encR f a n a2 b r).getD 0 0 = f ∧ 5 ≤ (encR f a n a2 b r).length ∧ (f = 15 → 7 ≤ (encR f a n a2 b r).length) ∧ (f = 16 → 8 ≤ (encR f a n a2 b r).length) ∧ (f = 23 → 12 ≤ (encR f a n a2 b r).length) := by
  unfold encR
  rw [if_pos hk]
  by_cases h1 : f = 1
  · subst h1; simp [encOk, withinB] at hk; simp [expl, reqS, pre3, two8, twos_length] <;> omega
  by_cases h2 : f = 2
  · subst h2; simp [encOk, withinB] at hk; simp [expl, reqS, pre3, two8, twos_length] <;> omega
  by_cases h3 : f = 3
  · subst h3; simp [encOk, withinB] at hk; simp [expl, reqS, pre3, two8, twos_length] <;> omega
  by_cases h4 : f = 4
  · subst h4; simp [encOk, withinB] at hk; simp [expl, reqS, pre3, two8, twos_length] <;> omega
  by_cases h5 : f = 5
  · subst h5; simp [encOk, withinB] at hk; simp [expl, reqS, pre3, two8, twos_length] <;> omega
  by_cases h6 : f = 6
  · subst h6; simp [encOk, withinB] at hk; simp [expl, reqS, pre3, two8, twos_length] <;> omega
  by_cases h22 : f = 22
  · subst h22; simp [encOk, withinB] at hk; simp [expl, reqS, pre3, two8, twos_length] <;> omega
  by_cases h15 : f = 15
  · subst h15
    simp [encOk, withinB] at hk
    have hw : IntKind.u8.wrap (((b.length + 7) / 8 : Nat) : Int) = (((b.length + 7) / 8 : Nat) : Int) := u8_in _ (by omega) (by omega)
    have e : (reqS 15 a n a2 b r).row = row15 15 a b := rfl
    rw [e]
    have h0 : (row15 15 a b).getD 0 0 = 15 := rfl
    have hl := row15_len a b
    refine ⟨?_, h0, by omega, fun _ => by omega, fun h => by omega, fun h => by omega⟩
    unfold expl
    rw [if_pos (.inl h0), show (row15 15 a b).getD 5 0 = IntKind.u8.wrap (((b.length + 7) / 8 : Nat) : Int) from rfl, hw, hl]
    omega
  by_cases h16 : f = 16
  · subst h16
    simp [encOk, withinB] at hk
    have hw : IntKind.u8.wrap (IntKind.i64.wrap (2 * r.length)) = 2 * r.length := by rw [IntWalk.i64_in _ (by omega), u8_in _ (by omega) (by omega)]
    have e : (reqS 16 a n a2 b r).row = rowR (pre3 16 a) r := rfl
    rw [e]
    have h0 : (rowR (pre3 16 a) r).getD 0 0 = 16 := rfl
    have hl : (rowR (pre3 16 a) r).length = 6 + 2 * r.length := by simp [rowR, pre3, two8, twos_length]; omega
    refine ⟨?_, h0, by omega, fun h => by omega, fun _ => by omega, fun h => by omega⟩
    unfold expl
    rw [if_pos (.inr h0), show (rowR (pre3 16 a) r).getD 5 0 = IntKind.u8.wrap (IntKind.i64.wrap (2 * r.length)) from rfl, hw, hl]
    omega
  by_cases h23 : f = 23
  · subst h23
    simp [encOk, withinB] at hk
    have hw : IntKind.u8.wrap (IntKind.i64.wrap (2 * r.length)) = 2 * r.length := by rw [IntWalk.i64_in _ (by omega), u8_in _ (by omega) (by omega)]
    have e : (reqS 23 a n a2 b r).row = rowR (pre3 23 a ++ two8 n ++ two8 a2) r := rfl
    rw [e]
    have h0 : (rowR (pre3 23 a ++ two8 n ++ two8 a2) r).getD 0 0 = 23 := rfl
    have hl : (rowR (pre3 23 a ++ two8 n ++ two8 a2) r).length = 10 + 2 * r.length := by simp [rowR, pre3, two8, twos_length]; omega
    refine ⟨?_, h0, by omega, fun h => by omega, fun h => by omega, fun _ => by omega⟩
    unfold expl
    rw [if_neg (by rw [h0]; omega), if_pos h0, show (rowR (pre3 23 a ++ two8 n ++ two8 a2) r).getD 9 0 = IntKind.u8.wrap (IntKind.i64.wrap (2 * r.length)) from rfl, hw, hl]
    omega
  simp [encOk, *] at hk
theorem expl_dec (l : List Int) (h : (decS l).2 ≠ 30) : (l.length : Int) = expl l ∧ 5 ≤ l.length ∧ (l.getD 0 0 = 15 → 7 ≤ l.length) ∧ (l.getD 0 0 = 16 → 8 ≤ l.length) ∧ (l.getD 0 0 = 23 → 12 ≤ l.length) := by
  unfold decS at h
  split at h
  · rename_i ho
    split at h
    · rename_i hc
      simp only [Bool.and_eq_true, beq_iff_eq] at hc
      obtain ⟨he, ha⟩ := hc
      generalize hq : (openedS l).1 = q at *
      have hk : encOk q.f q.n q.a2 q.b q.r = true := by
        by_cases hk : encOk q.f q.n q.a2 q.b q.r = true
        · exact hk
        · unfold encE at he; rw [if_neg hk] at he; omega
      obtain ⟨h1, h2, h3, h4, h5, h6⟩ := expl_enc q.f q.a q.n q.a2 q.b q.r hk
      have hl : l.length = (encR q.f q.a q.n q.a2 q.b q.r).length := by
        have := again_len q l (encR q.f q.a q.n q.a2 q.b q.r) (encE q.f q.n q.a2 q.b q.r)
        rw [ha] at this; exact this
      have hget : ∀ k, k + 1 < l.length → l.getD k 0 = (encR q.f q.a q.n q.a2 q.b q.r).getD k 0 := by
        intro k hk
        have : l.getD k 0 = (againS q l (encR q.f q.a q.n q.a2 q.b q.r) (encE q.f q.n q.a2 q.b q.r)).getD k 0 := by rw [ha]
        rw [this]
        unfold againS
        split
        · rw [List.getD_eq_getElem?_getD, List.getElem?_set, if_neg (by omega), ← List.getD_eq_getElem?_getD]
        · rfl
      have g0 := hget 0 (by omega)
      rw [h2] at g0
      refine ⟨?_, by omega, fun h => ?_, fun h => ?_, fun h => ?_⟩
      · rw [hl, h1]
        unfold expl
        rw [g0, h2]
        by_cases k1 : q.f = 15 ∨ q.f = 16
        · have : 7 ≤ l.length := by rcases k1 with k | k; have := h4 k; omega; have := h5 k; omega
          rw [if_pos k1, if_pos k1, hget 5 (by omega)]
        · rw [if_neg k1, if_neg k1]
          by_cases k2 : q.f = 23
          · have := h6 k2
            rw [if_pos k2, if_pos k2, hget 9 (by omega)]
          · rw [if_neg k2, if_neg k2]
      · have := h4 (by rw [← g0]; exact h); omega
      · have := h5 (by rw [← g0]; exact h); omega
      · have := h6 (by rw [← g0]; exact h); omega
    · exact absurd rfl h
  · exact absurd rfl h
theorem short_no (f a n a2 : Int) (b : List Bool) (r : List Int) (hk : encOk f n a2 b r = true) (k : Nat) (h : k < (encR f a n a2 b r).length) (h0 : isB (encR f a n a2 b r)) : (decS ((encR f a n a2 b r).take k)).2 = 30 := by
  obtain ⟨h1, h2, h3, h4, h5, h6⟩ := expl_enc f a n a2 b r hk
  generalize encR f a n a2 b r = l at *
  by_cases hd : (decS (l.take k)).2 = 30
  · exact hd
  obtain ⟨g1, g2, g3, g4, g5⟩ := expl_dec _ hd
  have hlen : (l.take k).length = k := by simp; omega
  rw [hlen] at g1 g2 g3 g4 g5
  have e0 : (l.take k).getD 0 0 = f := by rw [getD_take l k 0 (by omega), h2]
  rw [e0] at g3 g4 g5
  unfold expl at g1 h1
  rw [e0] at g1
  rw [h2] at h1
  by_cases k1 : f = 15 ∨ f = 16
  · have : 6 < k := by rcases k1 with k | k; have := g3 k; omega; have := g4 k; omega
    rw [if_pos k1] at g1 h1
    rw [getD_take l k 5 (by omega)] at g1
    omega
  · rw [if_neg k1] at g1 h1
    by_cases k2 : f = 23
    · have := g5 k2
      rw [if_pos k2] at g1 h1
      rw [getD_take l k 9 (by omega)] at g1
      omega
    · rw [if_neg k2] at g1 h1
      omega
theorem more_no (f a n a2 : Int) (b : List Bool) (r m : List Int) (hk : encOk f n a2 b r = true) (hm : m ≠ []) : (decS (encR f a n a2 b r ++ m)).2 = 30 := by
  obtain ⟨h1, h2, h3, h4, h5, h6⟩ := expl_enc f a n a2 b r hk
  generalize encR f a n a2 b r = l at *
  by_cases hd : (decS (l ++ m)).2 = 30
  · exact hd
  obtain ⟨g1, _⟩ := expl_dec _ hd
  have hlen : (l ++ m).length = l.length + m.length := by simp
  have hm' : 0 < m.length := List.length_pos_iff.2 hm
  have e0 : (l ++ m).getD 0 0 = f := by rw [getD_app l m 0 (by omega), h2]
  unfold expl at g1 h1
  rw [e0, hlen] at g1
  rw [h2] at h1
  by_cases k1 : f = 15 ∨ f = 16
  · have : 6 < l.length := by rcases k1 with k | k; have := h4 k; omega; have := h5 k; omega
    rw [if_pos k1] at g1 h1
    rw [getD_app l m 5 (by omega)] at g1
    omega
  · rw [if_neg k1] at g1 h1
    by_cases k2 : f = 23
    · have := h6 k2
      rw [if_pos k2] at g1 h1
      rw [getD_app l m 9 (by omega)] at g1
      omega
    · rw [if_neg k2] at g1 h1
      omega
end Go.Proofs.Ytomodeliimnddaa
set_option linter.unusedVariables false
set_option linter.unusedSimpArgs false
namespace Go.Proofs.Ytomodeliimnddaa
open Go.Ab
/- rung/rungref3.same -/
def a123 : ACode := (.seq (.reg [⟨(some 4), .mov (.c (.bool false)), none, false⟩])
 (.seq (.reg [⟨(some 5), .mov (.t 0), none, false⟩, ⟨(some 6), .conv .toStr (.t 5), none, false⟩, ⟨(some 7), .mov (.t 1), none, false⟩, ⟨(some 8), .conv .toStr (.t 7), none, false⟩, ⟨(some 9), .bin .eql .other (.t 6) (.t 8), none, false⟩, ⟨(some 4), .mov (.t 9), none, false⟩])
 .ret))
def r123 : List ARes := [.t 4]
theorem c123 : compF Try.prog Try.f123 = some (a123, r123) := by kernel_rfl

/- rung/rungref3.OpenReply -/
def a59 : ACode := (.seq (.reg [⟨(some 2), .box (.t 0), none, false⟩, ⟨(some 4), .alloc [(2, (.int .u8 0)), (2, (.int .u16 0)), (2, .nils)], none, false⟩, ⟨(some 5), .mov (.c (.int .i64 0)), none, false⟩])
 (.seq (.reg [⟨(some 10), .load true 6 (.t 2), none, false⟩, ⟨(some 11), .call 49 [(.t 10)], none, false⟩, ⟨(some 9), .mov (.t 11), none, false⟩, ⟨(some 12), .ext (.t 9) 0, none, false⟩, ⟨(some 13), .ext (.t 9) 1, none, false⟩, ⟨(some 6), .mov (.t 12), none, false⟩, ⟨(some 7), .mov (.t 13), none, false⟩])
 (.seq (.seq (.reg [⟨(some 14), .mov (.t 7), none, false⟩, ⟨(some 15), .bin .neq .other (.t 14) (.c (.int .i64 0)), none, false⟩, ⟨(some 16), .mov (.t 15), none, true⟩, ⟨(some 17), .mov (.t 1), (some (16, false)), false⟩, ⟨(some 18), .len false (.t 17), (some (16, false)), false⟩, ⟨(some 19), .bin .lss .other (.t 18) (.c (.int .i64 2)), (some (16, false)), false⟩, ⟨(some 20), .pick (.t 16) (.c (.bool true)) (.t 19), none, false⟩])
 (.cond (.t 20) (.seq (.reg [⟨(some 21), .build [(.int .u8 0), (.int .u8 0), (.int .u16 0), (.int .u16 0), .nils, .nils] [], none, false⟩, ⟨none, .store 6 (.t 4) (.t 21), none, false⟩, ⟨(some 5), .mov (.c (.int .i64 30)), none, false⟩])
 .ret)
 .skip))
 (.seq (.seq (.draw [⟨0, ⟨(some 22), .mov (.t 1), none, false⟩, false, [], []⟩, ⟨1, ⟨(some 23), .idx 1 none false (.t 22) (.c (.int .i64 0)), none, false⟩, false, [], []⟩, ⟨2, ⟨(some 24), .load false 1 (.t 23), none, false⟩, false, [], []⟩, ⟨3, ⟨(some 25), .fld 0 1 false (.t 2), none, false⟩, false, [], []⟩, ⟨4, ⟨(some 26), .load false 1 (.t 25), none, false⟩, false, [], []⟩, ⟨5, ⟨(some 27), .bin .or .other (.t 26) (.c (.int .u8 128)), none, false⟩, false, [], []⟩, ⟨6, ⟨(some 28), .bin .eql .other (.t 24) (.t 27), none, false⟩, false, [], []⟩])
 (.cond (.t 28) (.seq (.seq (.reg [⟨(some 29), .mov (.t 1), none, false⟩, ⟨(some 30), .len false (.t 29), none, false⟩, ⟨(some 31), .bin .neq .other (.t 30) (.c (.int .i64 2)), none, false⟩, ⟨(some 32), .mov (.t 31), none, true⟩, ⟨(some 33), .mov (.t 1), (some (32, false)), false⟩, ⟨(some 34), .idx 1 none false (.t 33) (.c (.int .i64 1)), (some (32, false)), false⟩, ⟨(some 35), .load false 1 (.t 34), (some (32, false)), false⟩, ⟨(some 36), .bin .eql .other (.t 35) (.c (.int .u8 0)), (some (32, false)), false⟩, ⟨(some 37), .pick (.t 32) (.c (.bool true)) (.t 36), none, false⟩])
 (.cond (.t 37) (.seq (.reg [⟨(some 38), .build [(.int .u8 0), (.int .u8 0), (.int .u16 0), (.int .u16 0), .nils, .nils] [], none, false⟩, ⟨none, .store 6 (.t 4) (.t 38), none, false⟩, ⟨(some 5), .mov (.c (.int .i64 30)), none, false⟩])
 .ret)
 .skip))
 (.seq (.draw [⟨0, ⟨(some 39), .fld 0 1 false (.t 2), none, false⟩, false, [], []⟩, ⟨1, ⟨(some 40), .load false 1 (.t 39), none, false⟩, false, [], []⟩, ⟨2, ⟨(some 41), .mov (.t 1), none, false⟩, false, [], []⟩, ⟨3, ⟨(some 42), .idx 1 none false (.t 41) (.c (.int .i64 1)), none, false⟩, false, [], []⟩, ⟨4, ⟨(some 43), .load false 1 (.t 42), none, false⟩, false, [], []⟩, ⟨5, ⟨(some 44), .build [(.int .u8 0), (.int .u8 0), (.int .u16 0), (.int .u16 0), .nils, .nils] [(0, 1, (.t 40)), (1, 1, (.t 43))], none, false⟩, false, [], []⟩, ⟨6, ⟨none, .store 6 (.t 4) (.t 44), none, false⟩, true, [], []⟩, ⟨7, ⟨(some 5), .mov (.c (.int .i64 0)), none, false⟩, false, [], []⟩])
 .ret))
 .skip))
 (.seq (.seq (.draw [⟨0, ⟨(some 45), .mov (.t 1), none, false⟩, false, [], []⟩, ⟨1, ⟨(some 46), .idx 1 none false (.t 45) (.c (.int .i64 0)), none, false⟩, false, [], []⟩, ⟨2, ⟨(some 47), .load false 1 (.t 46), none, false⟩, false, [], []⟩, ⟨3, ⟨(some 48), .fld 0 1 false (.t 2), none, false⟩, false, [], []⟩, ⟨4, ⟨(some 49), .load false 1 (.t 48), none, false⟩, false, [], []⟩, ⟨5, ⟨(some 50), .bin .neq .other (.t 47) (.t 49), none, false⟩, false, [], []⟩])
 (.cond (.t 50) (.seq (.reg [⟨(some 51), .build [(.int .u8 0), (.int .u8 0), (.int .u16 0), (.int .u16 0), .nils, .nils] [], none, false⟩, ⟨none, .store 6 (.t 4) (.t 51), none, false⟩, ⟨(some 5), .mov (.c (.int .i64 30)), none, false⟩])
 .ret)
 .skip))
 (.seq (.reg [⟨(some 52), .fld 0 1 false (.t 2), none, false⟩, ⟨(some 53), .load false 1 (.t 52), none, false⟩, ⟨(some 54), .build [(.int .u8 0), (.int .u8 0), (.int .u16 0), (.int .u16 0), .nils, .nils] [(0, 1, (.t 53))], none, false⟩, ⟨(some 8), .alloc [(2, (.int .u8 0)), (2, (.int .u16 0)), (2, .nils)], none, false⟩, ⟨none, .store 6 (.t 8) (.t 54), none, false⟩])
 (.seq (.seq (.reg [⟨(some 55), .fld 0 1 false (.t 2), none, false⟩, ⟨(some 56), .load false 1 (.t 55), none, false⟩])
 (.block 0 (.seq (.seq (.reg [⟨(some 70), .bin .eql .other (.t 56) (.c (.int .u8 1)), none, false⟩, ⟨(some 69), .mov (.t 70), none, false⟩])
 (.cond (.t 69) .skip
 (.reg [⟨(some 71), .bin .eql .other (.t 56) (.c (.int .u8 2)), none, false⟩, ⟨(some 69), .mov (.t 71), none, false⟩])))
 (.cond (.t 69) (.seq (.seq (.draw [⟨0, ⟨(some 72), .mov (.t 1), none, false⟩, false, [], []⟩, ⟨1, ⟨(some 73), .idx 1 none false (.t 72) (.c (.int .i64 1)), none, false⟩, false, [], []⟩, ⟨2, ⟨(some 74), .load false 1 (.t 73), none, false⟩, false, [], []⟩, ⟨3, ⟨(some 75), .conv (.int .i64) (.t 74), none, false⟩, false, [], []⟩, ⟨4, ⟨(some 76), .fld 2 1 false (.t 2), none, false⟩, false, [], []⟩, ⟨5, ⟨(some 77), .load false 1 (.t 76), none, false⟩, false, [], []⟩, ⟨6, ⟨(some 78), .conv (.int .i64) (.t 77), none, false⟩, false, [], []⟩, ⟨7, ⟨(some 79), .bin .add .other (.t 78) (.c (.int .i64 7)), none, false⟩, false, [], []⟩, ⟨8, ⟨(some 80), .bin .quo .other (.t 79) (.c (.int .i64 8)), none, false⟩, false, [], []⟩, ⟨9, ⟨(some 81), .bin .neq .other (.t 75) (.t 80), none, false⟩, false, [], []⟩, ⟨10, ⟨(some 82), .mov (.t 81), none, true⟩, false, [], []⟩, ⟨11, ⟨(some 83), .mov (.t 1), (some (82, false)), false⟩, false, [], []⟩, ⟨12, ⟨(some 84), .len false (.t 83), (some (82, false)), false⟩, false, [], []⟩, ⟨13, ⟨(some 85), .mov (.t 1), (some (82, false)), false⟩, false, [], []⟩, ⟨14, ⟨(some 86), .idx 1 none false (.t 85) (.c (.int .i64 1)), (some (82, false)), false⟩, false, [], []⟩, ⟨15, ⟨(some 87), .load false 1 (.t 86), (some (82, false)), false⟩, false, [], []⟩, ⟨16, ⟨(some 88), .conv (.int .i64) (.t 87), (some (82, false)), false⟩, false, [], []⟩, ⟨17, ⟨(some 89), .bin .add .other (.c (.int .i64 2)) (.t 88), (some (82, false)), false⟩, false, [], []⟩, ⟨18, ⟨(some 90), .bin .neq .other (.t 84) (.t 89), (some (82, false)), false⟩, false, [], []⟩, ⟨19, ⟨(some 91), .pick (.t 82) (.c (.bool true)) (.t 90), none, false⟩, false, [], []⟩])
 (.cond (.t 91) (.seq (.reg [⟨(some 92), .build [(.int .u8 0), (.int .u8 0), (.int .u16 0), (.int .u16 0), .nils, .nils] [], none, false⟩, ⟨none, .store 6 (.t 4) (.t 92), none, false⟩, ⟨(some 5), .mov (.c (.int .i64 30)), none, false⟩])
 .ret)
 .skip))
 (.draw [⟨0, ⟨(some 93), .mov (.t 1), none, false⟩, false, [], []⟩, ⟨1, ⟨(some 94), .slice (.sl 1) (.t 93) (some (.c (.int .i64 2))) none, none, false⟩, false, [], []⟩, ⟨2, ⟨(some 95), .fld 2 1 false (.t 2), none, false⟩, false, [], []⟩, ⟨3, ⟨(some 96), .load false 1 (.t 95), none, false⟩, false, [], []⟩, ⟨4, ⟨(some 97), .conv (.int .i64) (.t 96), none, false⟩, false, [], []⟩, ⟨5, ⟨(some 98), .call 67 [(.t 94), (.t 97)], none, false⟩, true, [], []⟩, ⟨6, ⟨(some 99), .fld 4 1 false (.t 8), none, false⟩, false, [], []⟩, ⟨7, ⟨none, .store 1 (.t 99) (.t 98), none, false⟩, true, [], []⟩]))
 (.seq (.seq (.reg [⟨(some 101), .bin .eql .other (.t 56) (.c (.int .u8 3)), none, false⟩, ⟨(some 100), .mov (.t 101), none, false⟩])
 (.cond (.t 100) .skip
 (.seq (.reg [⟨(some 102), .bin .eql .other (.t 56) (.c (.int .u8 4)), none, false⟩, ⟨(some 100), .mov (.t 102), none, false⟩])
 (.cond (.t 100) .skip
 (.reg [⟨(some 103), .bin .eql .other (.t 56) (.c (.int .u8 23)), none, false⟩, ⟨(some 100), .mov (.t 103), none, false⟩])))))
 (.cond (.t 100) (.seq (.seq (.draw [⟨0, ⟨(some 104), .mov (.t 1), none, false⟩, false, [], []⟩, ⟨1, ⟨(some 105), .idx 1 none false (.t 104) (.c (.int .i64 1)), none, false⟩, false, [], []⟩, ⟨2, ⟨(some 106), .load false 1 (.t 105), none, false⟩, false, [], []⟩, ⟨3, ⟨(some 107), .conv (.int .i64) (.t 106), none, false⟩, false, [], []⟩, ⟨4, ⟨(some 108), .fld 2 1 false (.t 2), none, false⟩, false, [], []⟩, ⟨5, ⟨(some 109), .load false 1 (.t 108), none, false⟩, false, [], []⟩, ⟨6, ⟨(some 110), .conv (.int .i64) (.t 109), none, false⟩, false, [], []⟩, ⟨7, ⟨(some 111), .bin .mul .other (.c (.int .i64 2)) (.t 110), none, false⟩, false, [], []⟩, ⟨8, ⟨(some 112), .bin .neq .other (.t 107) (.t 111), none, false⟩, false, [], []⟩, ⟨9, ⟨(some 113), .mov (.t 112), none, true⟩, false, [], []⟩, ⟨10, ⟨(some 114), .mov (.t 1), (some (113, false)), false⟩, false, [], []⟩, ⟨11, ⟨(some 115), .len false (.t 114), (some (113, false)), false⟩, false, [], []⟩, ⟨12, ⟨(some 116), .mov (.t 1), (some (113, false)), false⟩, false, [], []⟩, ⟨13, ⟨(some 117), .idx 1 none false (.t 116) (.c (.int .i64 1)), (some (113, false)), false⟩, false, [], []⟩, ⟨14, ⟨(some 118), .load false 1 (.t 117), (some (113, false)), false⟩, false, [], []⟩, ⟨15, ⟨(some 119), .conv (.int .i64) (.t 118), (some (113, false)), false⟩, false, [], []⟩, ⟨16, ⟨(some 120), .bin .add .other (.c (.int .i64 2)) (.t 119), (some (113, false)), false⟩, false, [], []⟩, ⟨17, ⟨(some 121), .bin .neq .other (.t 115) (.t 120), (some (113, false)), false⟩, false, [], []⟩, ⟨18, ⟨(some 122), .pick (.t 113) (.c (.bool true)) (.t 121), none, false⟩, false, [], []⟩])
 (.cond (.t 122) (.seq (.reg [⟨(some 123), .build [(.int .u8 0), (.int .u8 0), (.int .u16 0), (.int .u16 0), .nils, .nils] [], none, false⟩, ⟨none, .store 6 (.t 4) (.t 123), none, false⟩, ⟨(some 5), .mov (.c (.int .i64 30)), none, false⟩])
 .ret)
 .skip))
 (.reg [⟨(some 124), .mov (.t 1), none, false⟩, ⟨(some 125), .slice (.sl 1) (.t 124) (some (.c (.int .i64 2))) none, none, false⟩, ⟨(some 126), .call 117 [(.t 125)], none, false⟩, ⟨(some 127), .fld 5 1 false (.t 8), none, false⟩, ⟨none, .store 1 (.t 127) (.t 126), none, false⟩]))
 (.seq (.seq (.reg [⟨(some 129), .bin .eql .other (.t 56) (.c (.int .u8 5)), none, false⟩, ⟨(some 128), .mov (.t 129), none, false⟩])
 (.cond (.t 128) .skip
 (.seq (.reg [⟨(some 130), .bin .eql .other (.t 56) (.c (.int .u8 6)), none, false⟩, ⟨(some 128), .mov (.t 130), none, false⟩])
 (.cond (.t 128) .skip
 (.reg [⟨(some 131), .bin .eql .other (.t 56) (.c (.int .u8 22)), none, false⟩, ⟨(some 128), .mov (.t 131), none, false⟩])))))
 (.cond (.t 128) (.seq (.seq (.reg [⟨(some 132), .mov (.t 1), none, false⟩, ⟨(some 133), .mov (.t 6), none, false⟩, ⟨(some 134), .call 123 [(.t 132), (.t 133)], none, false⟩, ⟨(some 135), .un .not (.t 134), none, false⟩])
 (.cond (.t 135) (.seq (.reg [⟨(some 136), .build [(.int .u8 0), (.int .u8 0), (.int .u16 0), (.int .u16 0), .nils, .nils] [], none, false⟩, ⟨none, .store 6 (.t 4) (.t 136), none, false⟩, ⟨(some 5), .mov (.c (.int .i64 30)), none, false⟩])
 .ret)
 .skip))
 (.draw [⟨0, ⟨(some 137), .fld 1 1 false (.t 2), none, false⟩, false, [], []⟩, ⟨1, ⟨(some 138), .load false 1 (.t 137), none, false⟩, false, [], []⟩, ⟨2, ⟨(some 139), .fld 4 1 false (.t 2), none, false⟩, false, [], []⟩, ⟨3, ⟨(some 140), .load false 1 (.t 139), none, false⟩, false, [], []⟩, ⟨4, ⟨(some 141), .fld 5 1 false (.t 2), none, false⟩, false, [], []⟩, ⟨5, ⟨(some 142), .load false 1 (.t 141), none, false⟩, false, [], []⟩, ⟨6, ⟨(some 143), .fld 2 1 false (.t 8), none, false⟩, false, [], []⟩, ⟨7, ⟨none, .store 1 (.t 143) (.t 138), none, false⟩, true, [], [(.t 139), (.t 141)]⟩, ⟨8, ⟨(some 144), .fld 4 1 false (.t 8), none, false⟩, false, [], []⟩, ⟨9, ⟨none, .store 1 (.t 144) (.t 140), none, false⟩, true, [], [(.t 141)]⟩, ⟨10, ⟨(some 145), .fld 5 1 false (.t 8), none, false⟩, false, [], []⟩, ⟨11, ⟨none, .store 1 (.t 145) (.t 142), none, false⟩, true, [], []⟩]))
 (.seq (.seq (.reg [⟨(some 57), .mov (.t 1), none, false⟩, ⟨(some 58), .mov (.t 6), none, false⟩, ⟨(some 59), .slice (.sl 1) (.t 58) none (some (.c (.int .i64 5))), none, false⟩, ⟨(some 60), .call 123 [(.t 57), (.t 59)], none, false⟩, ⟨(some 61), .un .not (.t 60), none, false⟩])
 (.cond (.t 61) (.seq (.reg [⟨(some 62), .build [(.int .u8 0), (.int .u8 0), (.int .u16 0), (.int .u16 0), .nils, .nils] [], none, false⟩, ⟨none, .store 6 (.t 4) (.t 62), none, false⟩, ⟨(some 5), .mov (.c (.int .i64 30)), none, false⟩])
 .ret)
 .skip))
 (.draw [⟨0, ⟨(some 63), .fld 1 1 false (.t 2), none, false⟩, false, [], []⟩, ⟨1, ⟨(some 64), .load false 1 (.t 63), none, false⟩, false, [], []⟩, ⟨2, ⟨(some 65), .mov (.t 1), none, false⟩, false, [], []⟩, ⟨4, ⟨(some 67), .fld 2 1 false (.t 8), none, false⟩, false, [], []⟩, ⟨3, ⟨(some 66), .call 116 [(.t 65), (.c (.int .i64 3))], none, false⟩, true, [], [(.t 63)]⟩, ⟨5, ⟨none, .store 1 (.t 67) (.t 64), none, false⟩, true, [], []⟩, ⟨6, ⟨(some 68), .fld 3 1 false (.t 8), none, false⟩, false, [], []⟩, ⟨7, ⟨none, .store 1 (.t 68) (.t 66), none, false⟩, true, [], []⟩]))))))))))
 (.seq (.reg [⟨(some 146), .load true 6 (.t 8), none, false⟩, ⟨none, .store 6 (.t 4) (.t 146), none, false⟩, ⟨(some 5), .mov (.c (.int .i64 0)), none, false⟩])
 .ret))))))))
def r59 : List ARes := [.cell 4 true 6, .t 5]
theorem c59 : compF Try.prog Try.f59 = some (a59, r59) := by kernel_rfl


theorem b123 : hasBody Try.prog 123 = true := by kernel_rfl
theorem g123 : Try.prog.funcs[123]? = some Try.f123 := by kernel_rfl
theorem b59 : hasBody Try.prog 59 = true := by kernel_rfl
theorem g59 : Try.prog.funcs[59]? = some Try.f59 := by kernel_rfl
theorem rsame_ev (l m : List Int) (hl : isB l) (hm : isB m) : Ev Try.prog 123 [.roI .u8 l, .roI .u8 m] (.bool (l == m)) := by
  refine FrzK.ev rfl (trF g123 b123 c123 ?_)
  conv => whnf
  refine FrzK.le (leBool ?_)
  have e : ((bytesStr l).toList == (bytesStr m).toList) = (l == m) := by
    rw [ByteArray.toList_eq, ByteArray.toList_eq, Bool.eq_iff_iff]
    simp only [beq_iff_eq]
    exact ⟨fun h => map_inj l m hl hm h, fun h => by rw [h]⟩
  exact e
def rorepT (q : Rq) (l asked : List Int) : Rp × Int :=
  if q.f == 1 then (if IntKind.i64.wrap (l.getD 1 0) != nB q.n || (l.length : Int) != IntKind.i64.wrap (2 + IntKind.i64.wrap (l.getD 1 0)) then (Rp.zero, 30) else (⟨q.f, 0, 0, 0, bitsA (cutF l 2) (bitsK (IntKind.i64.wrap q.n)), []⟩, 0))
  else if q.f == 2 then (if IntKind.i64.wrap (l.getD 1 0) != nB q.n || (l.length : Int) != IntKind.i64.wrap (2 + IntKind.i64.wrap (l.getD 1 0)) then (Rp.zero, 30) else (⟨q.f, 0, 0, 0, bitsA (cutF l 2) (bitsK (IntKind.i64.wrap q.n)), []⟩, 0))
  else if q.f == 3 then (if IntKind.i64.wrap (l.getD 1 0) != IntKind.i64.wrap (2 * IntKind.i64.wrap q.n) || (l.length : Int) != IntKind.i64.wrap (2 + IntKind.i64.wrap (l.getD 1 0)) then (Rp.zero, 30) else (⟨q.f, 0, 0, 0, [], numsN (cutF l 2) ((cutF l 2).length / 2)⟩, 0))
  else if q.f == 4 then (if IntKind.i64.wrap (l.getD 1 0) != IntKind.i64.wrap (2 * IntKind.i64.wrap q.n) || (l.length : Int) != IntKind.i64.wrap (2 + IntKind.i64.wrap (l.getD 1 0)) then (Rp.zero, 30) else (⟨q.f, 0, 0, 0, [], numsN (cutF l 2) ((cutF l 2).length / 2)⟩, 0))
  else if q.f == 23 then (if IntKind.i64.wrap (l.getD 1 0) != IntKind.i64.wrap (2 * IntKind.i64.wrap q.n) || (l.length : Int) != IntKind.i64.wrap (2 + IntKind.i64.wrap (l.getD 1 0)) then (Rp.zero, 30) else (⟨q.f, 0, 0, 0, [], numsN (cutF l 2) ((cutF l 2).length / 2)⟩, 0))
  else if q.f == 5 then (if !(l == asked) then (Rp.zero, 30) else (⟨q.f, 0, q.a, 0, q.b, q.r⟩, 0))
  else if q.f == 6 then (if !(l == asked) then (Rp.zero, 30) else (⟨q.f, 0, q.a, 0, q.b, q.r⟩, 0))
  else if q.f == 22 then (if !(l == asked) then (Rp.zero, 30) else (⟨q.f, 0, q.a, 0, q.b, q.r⟩, 0))
  else (if !(l == asked.take 5) then (Rp.zero, 30) else (⟨q.f, 0, q.a, numAt l 3, [], []⟩, 0))
def rorepA (q : Rq) (l asked : List Int) (e : Int) : Rp × Int :=
  if e != 0 then (Rp.zero, 30)
  else if decide ((l.length : Int) < 2) then (Rp.zero, 30)
  else if l.getD 0 0 == or128 q.f then (if (l.length : Int) != 2 then (Rp.zero, 30) else if l.getD 1 0 == 0 then (Rp.zero, 30) else (⟨q.f, l.getD 1 0, 0, 0, [], []⟩, 0))
  else if l.getD 0 0 != q.f then (Rp.zero, 30)
  else rorepT q l asked
def rorepS (q : Rq) (l : List Int) : Rp × Int := rorepA q l (encR q.f q.a q.n q.a2 q.b q.r) (encE q.f q.n q.a2 q.b q.r)
theorem enc5 (f a n a2 : Int) (b : List Bool) (r : List Int) (h : encE f n a2 b r = 0) : 5 ≤ (encR f a n a2 b r).length := by
  have hk : encOk f n a2 b r = true := by
    by_cases hk : encOk f n a2 b r = true
    · exact hk
    · unfold encE at h; rw [if_neg hk] at h; omega
  exact (expl_enc f a n a2 b r hk).2.2.1
set_option maxRecDepth 20000 in
set_option maxHeartbeats 4000000 in
theorem rOpenReply_raw (f a n a2 : Int) (b : List Bool) (r : List Int) (l : List Int) (hf : 0 ≤ f ∧ f < 256) (hn0 : 0 ≤ n) (hn1 : n < 65536) (hb : b.length ≤ 2500) (hr : r.length ≤ 200) (hl : l.length ≤ 1000) (hB : isB l) :
    Tr Try.prog 59 [reqA f a n a2 (.roB b) (.roI .u16 r), .roI .u8 l] ⟨0, []⟩ (FrzK (.tup [rpA (rorepS ⟨f, a, n, a2, b, r⟩ l).1, .int .i64 (rorepS ⟨f, a, n, a2, b, r⟩ l).2])) := by
  have hAB := enc_byte f a n a2 b r hf.1 hf.2
  have hA5 := enc5 f a n a2 b r
  refine trF g59 b59 c59 ?_
  conv => whnf
  refine Ev.call (rRequest_ev f a n a2 b r hn0 hn1 hb (by omega)) ?_
  conv => whnf
  unfold rorepS
  show _
  generalize encR f a n a2 b r = asked at *
  generalize encE f n a2 b r = e at *
  have hT5 : isB (asked.take 5) := fun x hx => hAB x (List.mem_of_mem_take hx)
  repeat' (first
    | (refine condY (by assumption) ?_; conv => whnf)
    | (refine condN (by assumption) ?_; conv => whnf)
    | (refine condT (by first | assumption | (simp; omega) | (have := hA5 (by simp_all); simp; omega) | (simp_all; done) | (simp_all; omega)) ?_; conv => whnf)
    | (refine condF (fun h => ?_) (fun h => ?_) <;> conv => whnf)
    | (refine ⟨rfl, ?_⟩; conv => whnf)
    | (refine Ev.call (rregs_ev _ (by first | omega | (simp [cutF, numsN_length, bitsA_length]; done) | (simp [cutF, numsN_length, bitsA_length]; omega) | (simp_all; omega))) ?_; conv => whnf)
    | (refine Ev.call (rbits_ev _ _ (by first | omega | (simp [cutF, numsN_length, bitsA_length]; done) | (simp [cutF, numsN_length, bitsA_length]; omega) | (simp_all; omega))) ?_; conv => whnf)
    | (refine Ev.call (rsame_ev _ _ hB hAB) ?_; conv => whnf)
    | (refine Ev.call (rsame_ev _ _ hB hT5) ?_; conv => whnf)
    | (refine Ev.call (at_ev' l 3 3 rfl (by
        have h5 := hA5 (by simp_all)
        have h6 : l = asked.take 5 := by simp_all
        rw [h6]; simp; omega) (by omega)) ?_; conv => whnf)
    )
  all_goals (try simp only [show Int.toNat 0 = 0 from rfl, show Int.toNat 1 = 1 from rfl, show Int.toNat 2 = 2 from rfl] at *)
  all_goals (try have hx : (l.getD 0 0 == or128 f) = false := by assumption)
  all_goals (try have hx : (l.getD 0 0 == or128 f) = true := by assumption)
  all_goals (try have hy : (!(l == asked.take 5)) = false := by assumption)
  all_goals (try have hy : (!(l == asked.take 5)) = true := by assumption)
  all_goals (generalize ho : rorepA ⟨f, a, n, a2, b, r⟩ l asked e = o; simp only [rorepA, rorepT, cutF, nB, *, if_true, if_false, Bool.false_eq_true, Bool.or_false, Bool.false_or, Bool.true_or, Bool.or_true, Bool.and_true, Bool.true_and, Bool.false_and, Bool.and_false] at ho)
  all_goals (try (first | erw [if_pos h] at ho | erw [if_neg (fun e => Bool.noConfusion (e.symm.trans h))] at ho))
  all_goals subst ho
  all_goals first
    | exact FrzK.le (leRep rfl rfl rfl rfl (by first | exact Le.refl _ | exact Le.nilB) (by first | exact Le.refl _ | exact Le.nilI _) rfl)
theorem rOpenReply_ev (f a n a2 : Int) (b : List Bool) (r : List Int) (l : List Int) (hf : 0 ≤ f ∧ f < 256) (hn0 : 0 ≤ n) (hn1 : n < 65536) (hb : b.length ≤ 2500) (hr : r.length ≤ 200) (hl : l.length ≤ 1000) (hB : isB l) :
    Ev Try.prog 59 [reqA f a n a2 (.roB b) (.roI .u16 r), .roI .u8 l] (.tup [rpA (rorepS ⟨f, a, n, a2, b, r⟩ l).1, .int .i64 (rorepS ⟨f, a, n, a2, b, r⟩ l).2]) := FrzK.ev rfl (rOpenReply_raw f a n a2 b r l hf hn0 hn1 hb hr hl hB)
end Go.Proofs.Ytomodeliimnddaa
set_option linter.unusedVariables false
set_option linter.unusedSimpArgs false
namespace Go.Proofs.Ytomodeliimnddaa
open Go.Ab
theorem twos_app : ∀ (a b : List Int), twos (a ++ b) = twos a ++ twos b
  | [], b => rfl
  | x :: a, b => by simp only [List.cons_append, twos, twos_app a b, List.append_assoc]
theorem two8_num (a b : Int) (h0 : 0 ≤ a) (h1 : a < 256) (h2 : 0 ≤ b) (h3 : b < 256) : two8 (num16 a b) = [a, b] := by
  rw [num16_eq a b h0 h1 h2 h3]
  unfold two8
  rw [hi8_eq _ (by omega) (by omega)]
  have e : IntKind.u8.wrap (256 * a + b) = b := by
    show (256 * a + b) % 256 = b
    omega
  rw [e]
  congr 1
  omega
theorem twos_nums (l : List Int) (hB : isB l) : ∀ k, 2 * k ≤ l.length → twos (numsN l k) = l.take (2 * k)
  | 0, _ => rfl
  | k + 1, h => by
    have ih := twos_nums l hB k (by omega)
    have e1 := hB.getD (2 * k)
    have e2 := hB.getD (2 * k + 1)
    have e3 : numsN l (k + 1) = numsN l k ++ [num16 (l.getD (2 * k) 0) (l.getD (2 * k + 1) 0)] := rfl
    rw [e3, twos_app, ih]
    have e4 : twos [num16 (l.getD (2 * k) 0) (l.getD (2 * k + 1) 0)] = [l.getD (2 * k) 0, l.getD (2 * k + 1) 0] := by
      simp only [twos, List.append_nil]
      exact two8_num _ _ e1.1 e1.2 e2.1 e2.2
    rw [e4]
    have g1 : 2 * k < l.length := by omega
    have g2 : 2 * k + 1 < l.length := by omega
    have d1 : l.getD (2 * k) 0 = l[2 * k] := by simp [List.getD_eq_getElem?_getD, g1]
    have d2 : l.getD (2 * k + 1) 0 = l[2 * k + 1] := by simp [List.getD_eq_getElem?_getD, g2]
    rw [d1, d2, show 2 * (k + 1) = 2 * k + 1 + 1 by omega, ← List.take_append_getElem g2, ← List.take_append_getElem g1, List.append_assoc]
    rfl
theorem plain3 (f n : Int) (hf : f = 3 ∨ f = 4 ∨ f = 23) (hn : 1 ≤ n ∧ n ≤ 125) (l : List Int) (hB : isB l) (h2 : 2 ≤ l.length) (hl : l.length ≤ 1000) :
    (if ((numsN (cutF l 2) ((cutF l 2).length / 2)).length : Int) != IntKind.i64.wrap n then (Rp.zero, (30 : Int)) else finS l ⟨f, 0, 0, 0, [], numsN (cutF l 2) ((cutF l 2).length / 2)⟩) =
    if l.getD 0 0 != f then (Rp.zero, 30) else if IntKind.i64.wrap (l.getD 1 0) != IntKind.i64.wrap (2 * IntKind.i64.wrap n) || (l.length : Int) != IntKind.i64.wrap (2 + IntKind.i64.wrap (l.getD 1 0)) then (Rp.zero, 30) else (⟨f, 0, 0, 0, [], numsN (cutF l 2) ((cutF l 2).length / 2)⟩, 0) := by
  obtain ⟨x, y, t, rfl⟩ : ∃ x y t, l = x :: y :: t := by
    match l, h2 with
    | x :: y :: t, _ => exact ⟨x, y, t, rfl⟩
  have hc : cutF (x :: y :: t) 2 = t := by rw [cutF_eq]; rfl
  rw [hc]
  have hy := hB y (by simp)
  have hBt : isB t := fun z hz => hB z (by simp [hz])
  have g0 : (x :: y :: t).getD 0 0 = x := rfl
  have g1 : (x :: y :: t).getD 1 0 = y := rfl
  rw [g0, g1, IntWalk.i64_in n (by omega), IntWalk.i64_in y (by omega), IntWalk.i64_in (2 * n) (by omega), IntWalk.i64_in (2 + y) (by omega), numsN_length]
  have htw := twos_nums t hBt (t.length / 2) (by omega)
  have hlt : (x :: y :: t).length = t.length + 2 := rfl
  have hnl := numsN_length t (t.length / 2)
  by_cases hlen : ((t.length / 2 : Nat) : Int) = n
  · rw [if_neg (by simp [hlen])]
    have hk : repOk f 0 0 0 [] (numsN t (t.length / 2)) = true := by
      rcases hf with rfl | rfl | rfl <;> simp [repOk, withinB, hnl] <;> omega
    have hrow : repB f 0 0 0 [] (numsN t (t.length / 2)) = f :: (2 * n) :: t.take (2 * (t.length / 2)) := by
      unfold repB
      rw [if_pos hk]
      have e : IntKind.u8.wrap (IntKind.i64.wrap (2 * ((t.length / 2 : Nat) : Int))) = 2 * n := by
        rw [hlen, IntWalk.i64_in _ (by omega), u8_in _ (by omega) (by omega)]
      rcases hf with rfl | rfl | rfl <;> simp only [repS, hnl, htw, e] <;> rfl
    unfold finS
    simp only [hrow]
    have hE : repE f 0 0 0 [] (numsN t (t.length / 2)) = 0 := by unfold repE; rw [if_pos hk]
    simp only [hE, beq_self_eq_true, Bool.true_and]
    by_cases hxf : x = f
    · subst hxf
      by_cases hy2 : y = 2 * n
      · subst hy2
        by_cases ht : t.length = 2 * (t.length / 2)
        · rw [if_pos (by rw [← ht, List.take_length]; simp), if_neg (by simp), if_neg (by simp; omega)]
        · rw [if_neg (fun h => by
            have := congrArg List.length (eq_of_beq h)
            simp at this; omega), if_neg (by simp), if_pos (by simp; omega)]
      · rw [if_neg (fun h => by
          have := eq_of_beq h
          simp only [List.cons.injEq] at this
          exact hy2 this.2.1.symm), if_neg (by simp), if_pos (by simp; omega)]
    · rw [if_neg (fun h => by
        have := eq_of_beq h
        simp only [List.cons.injEq] at this
        exact hxf this.1.symm), if_pos (by simpa using hxf)]
  · rw [if_pos (by simpa using hlen)]
    by_cases hxf : x = f
    · rw [if_neg (by simpa using hxf), if_pos (by simp; omega)]
    · rw [if_pos (by simpa using hxf)]
theorem row5 (f a n a2 : Int) (b : List Bool) (r : List Int) (hf : f = 5 ∨ f = 6 ∨ f = 22) (hk : encOk f n a2 b r = true) : repE f 0 a 0 b r = 0 ∧ repB f 0 a 0 b r = encR f a n a2 b r ∧ (encR f a n a2 b r).getD 0 0 = f := by
  have h : repOk f 0 a 0 b r = true := by
    rcases hf with rfl | rfl | rfl <;> simp [encOk, repOk] at hk ⊢ <;> simp [hk]
  unfold repE repB encR
  rw [if_pos h, if_pos h, if_pos hk]
  rcases hf with rfl | rfl | rfl <;> exact ⟨rfl, rfl, rfl⟩
theorem row15b (f a n a2 : Int) (b : List Bool) (r : List Int) (k : Int) (hf : (f = 15 ∧ k = IntKind.u16.wrap b.length) ∨ (f = 16 ∧ k = IntKind.u16.wrap r.length)) (hk : encOk f n a2 b r = true) :
    repE f 0 a k [] [] = 0 ∧ repB f 0 a k [] [] = (encR f a n a2 b r).take 5 ∧ (encR f a n a2 b r).getD 0 0 = f ∧ numAt ((encR f a n a2 b r).take 5) 3 = k := by
  rcases hf with ⟨rfl, rfl⟩ | ⟨rfl, rfl⟩
  · simp [encOk, withinB] at hk
    have hb : IntKind.u16.wrap (b.length : Int) = b.length := u16_in _ (by omega) (by omega)
    have h : repOk 15 0 a (IntKind.u16.wrap b.length) [] [] = true := by rw [hb]; simp [repOk, withinB]; omega
    have h2 : encOk 15 n a2 b r = true := by simp [encOk, withinB]; omega
    unfold repE repB encR
    rw [if_pos h, if_pos h, if_pos h2]
    refine ⟨rfl, rfl, rfl, ?_⟩
    exact num_two _ (by rw [hb]; omega) (by rw [hb]; omega)
  · simp [encOk, withinB] at hk
    have hb : IntKind.u16.wrap (r.length : Int) = r.length := u16_in _ (by omega) (by omega)
    have h : repOk 16 0 a (IntKind.u16.wrap r.length) [] [] = true := by rw [hb]; simp [repOk, withinB]; omega
    have h2 : encOk 16 n a2 b r = true := by simp [encOk, withinB]; omega
    unfold repE repB encR
    rw [if_pos h, if_pos h, if_pos h2]
    refine ⟨rfl, rfl, rfl, ?_⟩
    exact num_two _ (by rw [hb]; omega) (by rw [hb]; omega)
theorem fin5 (l asked : List Int) (p p' : Rp) (f : Int) (hE : repE p.f p.x p.a p.n p.b p.r = 0) (hR : repB p.f p.x p.a p.n p.b p.r = asked) (h0 : asked.getD 0 0 = f) (hp : l = asked → p = p') :
    finS l p = if l.getD 0 0 != f then (Rp.zero, 30) else if !(l == asked) then (Rp.zero, 30) else (p', 0) := by
  unfold finS
  rw [hE, hR]
  by_cases h : l = asked
  · subst h
    rw [if_pos (by simp), if_neg (by rw [h0]; simp), if_neg (by simp), hp rfl]
  · rw [if_neg (by simp; exact fun e => h e.symm)]
    split
    · rfl
    · rw [if_pos (by simpa using h)]
theorem orep_same (f a n a2 : Int) (b : List Bool) (r : List Int) (l : List Int) (hn : 0 ≤ n ∧ n < 65536) (hB : isB l) (hl : l.length ≤ 1000) : orepS ⟨f, a, n, a2, b, r⟩ l = rorepS ⟨f, a, n, a2, b, r⟩ l := by
  unfold orepS rorepS rorepA
  refine ite_congr rfl (fun _ => rfl) fun hA => ?_
  refine ite_congr rfl (fun _ => rfl) fun h2 => ?_
  refine ite_congr rfl (fun _ => rfl) fun hx => ?_
  have h2 : 2 ≤ l.length := by simp at h2; omega
  by_cases hk : encOk f n a2 b r = true
  · have h12 : ∀ k : Int, f = k → (k = 1 ∨ k = 2) → (if l.getD 0 0 != f || IntKind.i64.wrap (l.getD 1 0) != nB n || (l.length : Int) != IntKind.i64.wrap (nB n + 2) then (Rp.zero, (30 : Int)) else (⟨f, 0, 0, 0, bitsA (cutF l 2) (bitsK (IntKind.i64.wrap n)), []⟩, 0)) =
        if l.getD 0 0 != f then (Rp.zero, 30) else (if IntKind.i64.wrap (l.getD 1 0) != nB n || (l.length : Int) != IntKind.i64.wrap (2 + IntKind.i64.wrap (l.getD 1 0)) then (Rp.zero, 30) else (⟨f, 0, 0, 0, bitsA (cutF l 2) (bitsK (IntKind.i64.wrap n)), []⟩, 0)) := by
      intro k _ _
      generalize l.getD 0 0 = x0
      generalize l.getD 1 0 = x1
      by_cases c1 : x0 = f
      · by_cases c2 : IntKind.i64.wrap x1 = nB n
        · simp [c1, c2, Int.add_comm]
        · simp [c1, c2]
      · simp [c1]
    by_cases h1 : f = 1
    · subst h1; exact h12 1 rfl (.inl rfl)
    by_cases h1 : f = 2
    · subst h1; exact h12 2 rfl (.inr rfl)
    by_cases h1 : f = 3
    · subst h1; simp [encOk, withinB] at hk; exact plain3 3 n (.inl rfl) (by omega) l hB h2 hl
    by_cases h1 : f = 4
    · subst h1; simp [encOk, withinB] at hk; exact plain3 4 n (.inr (.inl rfl)) (by omega) l hB h2 hl
    by_cases h1 : f = 23
    · subst h1; simp [encOk, withinB] at hk; exact plain3 23 n (.inr (.inr rfl)) (by omega) l hB h2 hl
    by_cases h1 : f = 5
    · subst h1
      obtain ⟨q1, q2, q3⟩ := row5 5 a n a2 b r (.inl rfl) hk
      exact fin5 l _ ⟨5, 0, a, 0, b, r⟩ _ 5 q1 q2 q3 fun _ => rfl
    by_cases h1 : f = 6
    · subst h1
      obtain ⟨q1, q2, q3⟩ := row5 6 a n a2 b r (.inr (.inl rfl)) hk
      exact fin5 l _ ⟨6, 0, a, 0, b, r⟩ _ 6 q1 q2 q3 fun _ => rfl
    by_cases h1 : f = 22
    · subst h1
      obtain ⟨q1, q2, q3⟩ := row5 22 a n a2 b r (.inr (.inr rfl)) hk
      exact fin5 l _ ⟨22, 0, a, 0, b, r⟩ _ 22 q1 q2 q3 fun _ => rfl
    by_cases h1 : f = 15
    · subst h1
      obtain ⟨q1, q2, q3, q4⟩ := row15b 15 a n a2 b r _ (.inl ⟨rfl, rfl⟩) hk
      exact fin5 l _ ⟨15, 0, a, IntKind.u16.wrap b.length, [], []⟩ _ 15 q1 q2 (by rw [getD_take _ _ _ (by omega)]; exact q3) fun e => by rw [e, q4]
    by_cases h1 : f = 16
    · subst h1
      obtain ⟨q1, q2, q3, q4⟩ := row15b 16 a n a2 b r _ (.inr ⟨rfl, rfl⟩) hk
      exact fin5 l _ ⟨16, 0, a, IntKind.u16.wrap r.length, [], []⟩ _ 16 q1 q2 (by rw [getD_take _ _ _ (by omega)]; exact q3) fun e => by rw [e, q4]
    simp [encOk, *] at hk
  · exfalso
    apply hA
    show (encE f n a2 b r != 0) = true
    unfold encE
    rw [if_neg hk]
    rfl
end Go.Proofs.Ytomodeliimnddaa
set_option linter.unusedVariables false
set_option linter.unusedSimpArgs false
namespace Go.Proofs.Ytomodeliimnddaa
open Go.Ab
/- rung/runghelp.Place -/
def a68 : ACode := (.seq (.reg [⟨(some 4), .mov (.c (.int .i64 0)), none, false⟩])
 (.seq (.reg [⟨(some 5), .mov (.t 0), none, false⟩, ⟨(some 6), .mov (.t 1), none, false⟩, ⟨(some 7), .bin .rem .other (.t 5) (.t 6), none, false⟩, ⟨(some 0), .mov (.t 7), none, false⟩])
 (.seq (.seq (.reg [⟨(some 8), .mov (.t 0), none, false⟩, ⟨(some 9), .bin .lss .other (.t 8) (.c (.int .i64 0)), none, false⟩])
 (.cond (.t 9) (.reg [⟨(some 10), .mov (.t 0), none, false⟩, ⟨(some 11), .mov (.t 1), none, false⟩, ⟨(some 12), .bin .add .other (.t 10) (.t 11), none, false⟩, ⟨(some 0), .mov (.t 12), none, false⟩])
 .skip))
 (.seq (.reg [⟨(some 13), .mov (.t 0), none, false⟩, ⟨(some 4), .mov (.t 13), none, false⟩])
 .ret))))
def r68 : List ARes := [.t 4]
theorem c68 : compF Try.prog Try.f68 = some (a68, r68) := by kernel_rfl

theorem b68 : hasBody Try.prog 68 = true := by kernel_rfl
theorem g68 : Try.prog.funcs[68]? = some Try.f68 := by kernel_rfl
/- rung/runglaw3.PduShort -/
def a12 : ACode := (.seq (.reg [⟨(some 3), .box (.t 0), none, false⟩, ⟨(some 6), .mov (.c (.bool false)), none, false⟩])
 (.seq (.seq (.reg [⟨(some 20), .call 46 [], none, false⟩, ⟨(some 21), .un .not (.t 20), none, false⟩])
 (.cond (.t 21) (.seq (.reg [⟨(some 6), .mov (.c (.bool false)), none, false⟩])
 .ret)
 .skip))
 (.seq (.seq (.reg [⟨(some 22), .load true 6 (.t 3), none, false⟩, ⟨(some 23), .call 47 [(.t 22)], none, false⟩, ⟨(some 24), .un .not (.t 23), none, false⟩, ⟨(some 25), .mov (.t 24), none, true⟩, ⟨(some 26), .mov (.t 2), (some (25, false)), false⟩, ⟨(some 27), .len false (.t 26), (some (25, false)), false⟩, ⟨(some 28), .bin .gtr .other (.t 27) (.c (.int .i64 50)), (some (25, false)), false⟩, ⟨(some 29), .pick (.t 25) (.c (.bool true)) (.t 28), none, false⟩])
 (.cond (.t 29) (.seq (.reg [⟨(some 6), .mov (.c (.bool true)), none, false⟩])
 .ret)
 .skip))
 (.seq (.reg [⟨(some 31), .load true 6 (.t 3), none, false⟩, ⟨(some 32), .call 48 [(.t 31)], none, false⟩, ⟨(some 30), .mov (.t 32), none, false⟩, ⟨(some 33), .ext (.t 30) 0, none, false⟩, ⟨(some 34), .ext (.t 30) 1, none, false⟩, ⟨(some 7), .mov (.t 33), none, false⟩, ⟨(some 8), .mov (.t 34), none, false⟩])
 (.seq (.seq (.reg [⟨(some 35), .mov (.t 8), none, false⟩, ⟨(some 36), .bin .neq .other (.t 35) (.c (.int .i64 0)), none, false⟩, ⟨(some 37), .mov (.t 36), none, true⟩, ⟨(some 38), .mov (.t 7), (some (37, false)), false⟩, ⟨(some 39), .len false (.t 38), (some (37, false)), false⟩, ⟨(some 40), .bin .eql .other (.t 39) (.c (.int .i64 0)), (some (37, false)), false⟩, ⟨(some 41), .pick (.t 37) (.c (.bool true)) (.t 40), none, false⟩])
 (.cond (.t 41) (.seq (.reg [⟨(some 6), .mov (.c (.bool true)), none, false⟩])
 .ret)
 .skip))
 (.seq (.reg [⟨(some 43), .mov (.t 7), none, false⟩, ⟨(some 44), .mov (.t 1), none, false⟩, ⟨(some 45), .mov (.t 7), none, false⟩, ⟨(some 46), .len false (.t 45), none, false⟩, ⟨(some 47), .call 68 [(.t 44), (.t 46)], none, false⟩, ⟨(some 48), .slice (.sl 1) (.t 43) none (some (.t 47)), none, false⟩, ⟨(some 49), .call 51 [(.t 48)], none, false⟩, ⟨(some 42), .mov (.t 49), none, false⟩, ⟨(some 50), .ext (.t 42) 0, none, false⟩, ⟨(some 51), .ext (.t 42) 1, none, false⟩, ⟨(some 9), .alloc [(1, (.int .u8 0)), (3, (.int .u16 0)), (2, .nils)], none, false⟩, ⟨none, .store 6 (.t 9) (.t 50), none, false⟩, ⟨(some 10), .mov (.t 51), none, false⟩])
 (.seq (.reg [⟨(some 53), .mov (.t 7), none, false⟩, ⟨(some 54), .call 53 [(.t 53)], none, false⟩, ⟨(some 55), .mov (.t 2), none, false⟩, ⟨(some 56), .app 1 1 (.t 54) (.t 55), none, false⟩, ⟨(some 57), .call 51 [(.t 56)], none, false⟩, ⟨(some 52), .mov (.t 57), none, false⟩, ⟨(some 58), .ext (.t 52) 0, none, false⟩, ⟨(some 59), .ext (.t 52) 1, none, false⟩, ⟨(some 11), .alloc [(1, (.int .u8 0)), (3, (.int .u16 0)), (2, .nils)], none, false⟩, ⟨none, .store 6 (.t 11) (.t 58), none, false⟩, ⟨(some 12), .mov (.t 59), none, false⟩])
 (.seq (.seq (.reg [⟨(some 60), .mov (.t 10), none, false⟩, ⟨(some 61), .bin .neq .other (.t 60) (.c (.int .i64 30)), none, false⟩, ⟨(some 62), .mov (.t 61), none, true⟩, ⟨(some 63), .mov (.t 12), (some (62, false)), false⟩, ⟨(some 64), .bin .eql .other (.t 63) (.c (.int .i64 30)), (some (62, false)), false⟩, ⟨(some 65), .mov (.t 2), (some (62, false)), false⟩, ⟨(some 66), .len false (.t 65), (some (62, false)), false⟩, ⟨(some 67), .bin .gtr .other (.t 66) (.c (.int .i64 0)), (some (62, false)), false⟩, ⟨(some 68), .bin .neq .bool (.t 64) (.t 67), (some (62, false)), false⟩, ⟨(some 69), .pick (.t 62) (.c (.bool true)) (.t 68), none, false⟩])
 (.cond (.t 69) (.seq (.reg [⟨(some 6), .mov (.c (.bool false)), none, false⟩])
 .ret)
 .skip))
 (.seq (.reg [⟨(some 70), .fld 0 1 false (.t 3), none, false⟩, ⟨(some 71), .load false 1 (.t 70), none, false⟩, ⟨(some 72), .build [(.int .u8 0), (.int .u8 0), (.int .u16 0), (.int .u16 0), .nils, .nils] [(0, 1, (.t 71)), (1, 1, (.c (.int .u8 4)))], none, false⟩, ⟨(some 13), .alloc [(2, (.int .u8 0)), (2, (.int .u16 0)), (2, .nils)], none, false⟩, ⟨none, .store 6 (.t 13) (.t 72), none, false⟩])
 (.seq (.seq (.reg [⟨(some 73), .fld 0 1 false (.t 3), none, false⟩, ⟨(some 74), .load false 1 (.t 73), none, false⟩, ⟨(some 75), .bin .leq .other (.t 74) (.c (.int .u8 2)), none, false⟩])
 (.cond (.t 75) (.draw [⟨0, ⟨(some 76), .fld 0 1 false (.t 3), none, false⟩, false, [], []⟩, ⟨1, ⟨(some 77), .load false 1 (.t 76), none, false⟩, false, [], []⟩, ⟨2, ⟨(some 78), .fld 2 1 false (.t 3), none, false⟩, false, [], []⟩, ⟨3, ⟨(some 79), .load false 1 (.t 78), none, false⟩, false, [], []⟩, ⟨4, ⟨(some 80), .mkslice 1 1 .bool [(.bool false)] (.t 79), none, false⟩, false, [], []⟩, ⟨5, ⟨(some 81), .build [(.int .u8 0), (.int .u8 0), (.int .u16 0), (.int .u16 0), .nils, .nils] [(0, 1, (.t 77)), (4, 1, (.t 80))], none, false⟩, false, [], []⟩, ⟨6, ⟨none, .store 6 (.t 13) (.t 81), none, false⟩, true, [4], []⟩])
 (.seq (.reg [⟨(some 82), .fld 0 1 false (.t 3), none, false⟩, ⟨(some 83), .load false 1 (.t 82), none, false⟩, ⟨(some 84), .bin .leq .other (.t 83) (.c (.int .u8 4)), none, false⟩, ⟨(some 85), .mov (.t 84), none, true⟩, ⟨(some 86), .fld 0 1 false (.t 3), (some (85, false)), false⟩, ⟨(some 87), .load false 1 (.t 86), (some (85, false)), false⟩, ⟨(some 88), .bin .eql .other (.t 87) (.c (.int .u8 23)), (some (85, false)), false⟩, ⟨(some 89), .pick (.t 85) (.c (.bool true)) (.t 88), none, false⟩])
 (.cond (.t 89) (.draw [⟨0, ⟨(some 90), .fld 0 1 false (.t 3), none, false⟩, false, [], []⟩, ⟨1, ⟨(some 91), .load false 1 (.t 90), none, false⟩, false, [], []⟩, ⟨2, ⟨(some 92), .fld 2 1 false (.t 3), none, false⟩, false, [], []⟩, ⟨3, ⟨(some 93), .load false 1 (.t 92), none, false⟩, false, [], []⟩, ⟨4, ⟨(some 94), .mkslice 1 2 (.int .u16) [(.int .u16 0)] (.t 93), none, false⟩, false, [], []⟩, ⟨5, ⟨(some 95), .build [(.int .u8 0), (.int .u8 0), (.int .u16 0), (.int .u16 0), .nils, .nils] [(0, 1, (.t 91)), (5, 1, (.t 94))], none, false⟩, false, [], []⟩, ⟨6, ⟨none, .store 6 (.t 13) (.t 95), none, false⟩, true, [4], []⟩])
 .skip))))
 (.seq (.reg [⟨(some 97), .load true 6 (.t 13), none, false⟩, ⟨(some 98), .call 57 [(.t 97)], none, false⟩, ⟨(some 96), .mov (.t 98), none, false⟩, ⟨(some 99), .ext (.t 96) 0, none, false⟩, ⟨(some 100), .ext (.t 96) 1, none, false⟩, ⟨(some 14), .mov (.t 99), none, false⟩, ⟨(some 15), .mov (.t 100), none, false⟩])
 (.seq (.draw [⟨0, ⟨(some 102), .load true 6 (.t 3), none, false⟩, false, [], []⟩, ⟨1, ⟨(some 103), .mov (.t 14), none, false⟩, false, [], []⟩, ⟨2, ⟨(some 104), .mov (.t 1), none, false⟩, false, [], []⟩, ⟨3, ⟨(some 105), .mov (.t 14), none, false⟩, false, [], []⟩, ⟨4, ⟨(some 106), .len false (.t 105), none, false⟩, false, [], []⟩, ⟨11, ⟨(some 16), .alloc [(2, (.int .u8 0)), (2, (.int .u16 0)), (2, .nils)], none, false⟩, false, [], []⟩, ⟨5, ⟨(some 107), .call 68 [(.t 104), (.t 106)], none, false⟩, true, [], [(.t 3)]⟩, ⟨6, ⟨(some 108), .slice (.sl 1) (.t 103) none (some (.t 107)), none, false⟩, false, [], []⟩, ⟨7, ⟨(some 109), .call 58 [(.t 102), (.t 108)], none, false⟩, true, [], []⟩, ⟨8, ⟨(some 101), .mov (.t 109), none, false⟩, false, [], []⟩, ⟨9, ⟨(some 110), .ext (.t 101) 0, none, false⟩, false, [], []⟩, ⟨10, ⟨(some 111), .ext (.t 101) 1, none, false⟩, false, [], []⟩, ⟨12, ⟨none, .store 6 (.t 16) (.t 110), none, false⟩, true, [11], []⟩, ⟨13, ⟨(some 17), .mov (.t 111), none, false⟩, false, [], []⟩])
 (.seq (.draw [⟨0, ⟨(some 113), .load true 6 (.t 3), none, false⟩, false, [], []⟩, ⟨1, ⟨(some 114), .mov (.t 14), none, false⟩, false, [], []⟩, ⟨3, ⟨(some 116), .mov (.t 2), none, false⟩, false, [], []⟩, ⟨9, ⟨(some 18), .alloc [(2, (.int .u8 0)), (2, (.int .u16 0)), (2, .nils)], none, false⟩, false, [], []⟩, ⟨2, ⟨(some 115), .call 53 [(.t 114)], none, false⟩, true, [], [(.t 3)]⟩, ⟨4, ⟨(some 117), .app 1 1 (.t 115) (.t 116), none, false⟩, true, [], [(.t 3)]⟩, ⟨5, ⟨(some 118), .call 58 [(.t 113), (.t 117)], none, false⟩, true, [], []⟩, ⟨6, ⟨(some 112), .mov (.t 118), none, false⟩, false, [], []⟩, ⟨7, ⟨(some 119), .ext (.t 112) 0, none, false⟩, false, [], []⟩, ⟨8, ⟨(some 120), .ext (.t 112) 1, none, false⟩, false, [], []⟩, ⟨10, ⟨none, .store 6 (.t 18) (.t 119), none, false⟩, true, [9], []⟩, ⟨11, ⟨(some 19), .mov (.t 120), none, false⟩, false, [], []⟩])
 (.seq (.reg [⟨(some 121), .mov (.t 17), none, false⟩, ⟨(some 122), .bin .eql .other (.t 121) (.c (.int .i64 30)), none, false⟩, ⟨(some 123), .mov (.t 122), none, true⟩, ⟨(some 124), .mov (.t 19), (some (123, true)), false⟩, ⟨(some 125), .bin .eql .other (.t 124) (.c (.int .i64 30)), (some (123, true)), false⟩, ⟨(some 126), .mov (.t 2), (some (123, true)), false⟩, ⟨(some 127), .len false (.t 126), (some (123, true)), false⟩, ⟨(some 128), .bin .gtr .other (.t 127) (.c (.int .i64 0)), (some (123, true)), false⟩, ⟨(some 129), .bin .eql .bool (.t 125) (.t 128), (some (123, true)), false⟩, ⟨(some 130), .pick (.t 123) (.t 129) (.c (.bool false)), none, false⟩, ⟨(some 6), .mov (.t 130), none, false⟩])
 .ret))))))))))))))
def r12 : List ARes := [.t 6]
theorem c12 : compF Try.prog Try.f12 = some (a12, r12) := by kernel_rfl

theorem b12 : hasBody Try.prog 12 = true := by kernel_rfl
theorem g12 : Try.prog.funcs[12]? = some Try.f12 := by kernel_rfl

theorem nB_eq (n : Int) (h0 : 0 ≤ n) (h1 : n < 65536) : nB n = (n + 7) / 8 := by
  unfold nB
  rw [IntWalk.i64_in n (by omega), IntWalk.i64_in (n + 7) (by omega), Int.tdiv_eq_ediv_of_nonneg (by omega), IntWalk.i64_in _ (by omega)]
theorem or128_ne (f : Int) (h : f = 1 ∨ f = 2 ∨ f = 3 ∨ f = 4 ∨ f = 23) : (f == or128 f) = false := by
  rcases h with rfl | rfl | rfl | rfl | rfl <;> decide
theorem orep_len (q : Rq) (l : List Int) (h : l.length < 2) : (orepS q l).2 = 30 := by
  unfold orepS
  split
  · rfl
  · rw [if_pos (by simp; omega)]
theorem orep12 (f a n a2 : Int) (b : List Bool) (r l : List Int) (hf : f = 1 ∨ f = 2) (hE : encE f n a2 b r = 0) (hn : 1 ≤ n ∧ n ≤ 2000) (h0 : 2 ≤ l.length → l.getD 0 0 = f ∧ l.getD 1 0 = (n + 7) / 8) :
    (orepS ⟨f, a, n, a2, b, r⟩ l).2 = if (l.length : Int) = 2 + (n + 7) / 8 then 0 else 30 := by
  by_cases hl : l.length < 2
  · rw [orep_len _ _ hl, if_neg (by omega)]
  obtain ⟨g0, g1⟩ := h0 (by omega)
  have e1 := nB_eq n (by omega) (by omega)
  unfold orepS
  simp only [hE, g0]
  rw [if_neg (by decide), if_neg (by simp; omega), or128_ne f (by omega), if_neg (by simp)]
  have hT : orepT ⟨f, a, n, a2, b, r⟩ l = if l.getD 0 0 != f || IntKind.i64.wrap (l.getD 1 0) != nB n || (l.length : Int) != IntKind.i64.wrap (nB n + 2) then (Rp.zero, 30) else (⟨f, 0, 0, 0, bitsA (cutF l 2) (bitsK (IntKind.i64.wrap n)), []⟩, 0) := by
    unfold orepT
    rcases hf with rfl | rfl <;> simp
  rw [hT, g0, g1, e1, IntWalk.i64_in ((n + 7) / 8) (by omega), IntWalk.i64_in ((n + 7) / 8 + 2) (by omega)]
  by_cases hc : (l.length : Int) = 2 + (n + 7) / 8
  · rw [if_pos hc, if_neg (by simp; omega)]
  · rw [if_neg hc, if_pos (by simp; omega)]
theorem orep3_no (f a n a2 : Int) (b : List Bool) (r l : List Int) (hf : f = 3 ∨ f = 4 ∨ f = 23) (hE : encE f n a2 b r = 0) (hn : 1 ≤ n ∧ n ≤ 125) (h0 : 2 ≤ l.length → l.getD 0 0 = f) (hl : (l.length : Int) ≠ 2 + 2 * n) (hl2 : l.length ≤ 1000) :
    (orepS ⟨f, a, n, a2, b, r⟩ l).2 = 30 := by
  by_cases hl : l.length < 2
  · exact orep_len _ _ hl
  have g0 := h0 (by omega)
  unfold orepS
  simp only [hE, g0]
  rw [if_neg (by decide), if_neg (by simp; omega), or128_ne f (by omega), if_neg (by simp)]
  have hT : orepT ⟨f, a, n, a2, b, r⟩ l = if ((numsN (cutF l 2) ((cutF l 2).length / 2)).length : Int) != IntKind.i64.wrap n then (Rp.zero, 30) else finS l ⟨f, 0, 0, 0, [], numsN (cutF l 2) ((cutF l 2).length / 2)⟩ := by
    unfold orepT
    rcases hf with rfl | rfl | rfl <;> simp
  rw [hT, numsN_length, cutF_eq, IntWalk.i64_in n (by omega)]
  have hd : (l.drop 2).length = l.length - 2 := by simp
  rw [hd]
  by_cases hc : (((l.length - 2) / 2 : Nat) : Int) = n
  · rw [if_neg (by simp; omega)]
    have hrl : (repB f 0 0 0 [] (numsN (l.drop 2) ((l.length - 2) / 2))).length ≠ l.length := by
      unfold repB
      split
      · have : (repS f 0 0 0 [] (numsN (l.drop 2) ((l.length - 2) / 2))).row = [f] ++ [IntKind.u8.wrap (IntKind.i64.wrap (2 * (numsN (l.drop 2) ((l.length - 2) / 2)).length))] ++ twos (numsN (l.drop 2) ((l.length - 2) / 2)) := by
          rcases hf with rfl | rfl | rfl <;> rfl
        rw [this]
        simp [twos_length, numsN_length]
        omega
      · simp; omega
    rw [finS_no2 _ _ (by
      simp only [Bool.not_eq_true', beq_eq_false_iff_ne, ne_eq]
      intro e; exact hrl (by rw [e]))]
  · rw [if_pos (by simp; omega)]
theorem orep3_yes (f a n a2 : Int) (b : List Bool) (r : List Int) (hf : f = 3 ∨ f = 4 ∨ f = 23) (hE : encE f n a2 b r = 0) (hn : 1 ≤ n ∧ n ≤ 125) :
    (orepS ⟨f, a, n, a2, b, r⟩ (repB f 0 0 0 [] (List.replicate n.toNat 0))).2 = 0 ∧ ((repB f 0 0 0 [] (List.replicate n.toNat 0)).length : Int) = 2 + 2 * n ∧ (repB f 0 0 0 [] (List.replicate n.toNat 0)).getD 0 0 = f := by
  have hlr : (List.replicate n.toNat (0 : Int)).length = n.toNat := by simp
  have hok : repOk f 0 0 0 [] (List.replicate n.toNat 0) = true := by
    rcases hf with rfl | rfl | rfl <;> (simp [repOk, withinB]; omega)
  have hrow : repB f 0 0 0 [] (List.replicate n.toNat 0) = [f] ++ [IntKind.u8.wrap (IntKind.i64.wrap (2 * (List.replicate n.toNat (0 : Int)).length))] ++ twos (List.replicate n.toNat 0) := by
    unfold repB
    rw [if_pos hok]
    rcases hf with rfl | rfl | rfl <;> rfl
  have hlen : (repB f 0 0 0 [] (List.replicate n.toNat 0)).length = 2 + 2 * n.toNat := by
    rw [hrow]; simp [twos_length]; omega
  have hd : (repB f 0 0 0 [] (List.replicate n.toNat 0)).drop 2 = twos (List.replicate n.toNat 0) := by rw [hrow]; rfl
  have hnums : numsN (twos (List.replicate n.toNat 0)) n.toNat = List.replicate n.toNat 0 := by
    have := nums_twos (List.replicate n.toNat 0) (fun x hx => by rw [List.eq_of_mem_replicate hx]; decide) n.toNat (by simp)
    rw [this, List.take_of_length_le (by simp)]
  refine ⟨?_, by rw [hlen]; omega, by rw [hrow]; rfl⟩
  generalize hcc : repB f 0 0 0 [] (List.replicate n.toNat 0) = l at *
  have g0 : l.getD 0 0 = f := by rw [hrow]; rfl
  unfold orepS
  simp only [hE, g0]
  rw [if_neg (by decide), if_neg (by simp; omega), or128_ne f (by omega), if_neg (by simp)]
  have hT : orepT ⟨f, a, n, a2, b, r⟩ l = if ((numsN (cutF l 2) ((cutF l 2).length / 2)).length : Int) != IntKind.i64.wrap n then (Rp.zero, 30) else finS l ⟨f, 0, 0, 0, [], numsN (cutF l 2) ((cutF l 2).length / 2)⟩ := by
    unfold orepT
    rcases hf with rfl | rfl | rfl <;> simp
  have h2 : (twos (List.replicate n.toNat (0 : Int))).length / 2 = n.toNat := by simp [twos_length]
  rw [hT, cutF_eq, hd, h2, hnums, IntWalk.i64_in n (by omega), if_neg (by simp; omega), finS_yes]
  · simp [repE, hok]
  · simp only [hcc]; simp
theorem orepX (f a n a2 : Int) (b : List Bool) (r l : List Int) (hE : encE f n a2 b r = 0) (h0 : 2 ≤ l.length → l.getD 0 0 = or128 f) :
    (l.length ≠ 2 → (orepS ⟨f, a, n, a2, b, r⟩ l).2 = 30) ∧ (l = [or128 f, 4] → (orepS ⟨f, a, n, a2, b, r⟩ l).2 = 0) := by
  constructor
  · intro hl
    by_cases h2 : l.length < 2
    · exact orep_len _ _ h2
    unfold orepS
    simp only [hE, h0 (by omega)]
    rw [if_neg (by decide), if_neg (by simp; omega), beq_self_eq_true, if_pos rfl, if_pos (by simp; omega)]
  · rintro rfl
    unfold orepS
    simp only [hE]
    rw [if_neg (by decide)]
    simp
def placeS (k n : Int) : Int := if k.tmod n < 0 then k.tmod n + n else k.tmod n
theorem place_range (k n : Int) (h : 0 < n) : 0 ≤ placeS k n ∧ placeS k n < n := by
  unfold placeS
  have h1 := Int.tmod_lt_of_pos k h
  have h2 : -n < k.tmod n := by
    have := Int.tmod_lt_of_pos (-k) h
    rw [Int.neg_tmod] at this
    omega
  split <;> omega
theorem place_ev (k n : Int) (h : 0 < n) (h1 : n ≤ 100000) : Ev Try.prog 68 [.int .i64 k, .int .i64 n] (.int .i64 (placeS k n)) := by
  have hr := place_range k n h
  refine FrzK.ev rfl (trF g68 b68 c68 ?_)
  conv => whnf
  refine condT (by simp; omega) ?_
  conv => whnf
  unfold placeS at *
  refine condS (fun g => ?_) (fun g => ?_)
  · conv => whnf
    have g' : k.tmod n < 0 := by simpa using g
    rw [if_pos g'] at hr ⊢
    rw [IntWalk.i64_in _ (by omega)]
    exact FrzK.le (Le.refl _)
  · conv => whnf
    have g' : ¬ k.tmod n < 0 := by simpa using g
    rw [if_neg g']
    exact FrzK.le (Le.refl _)
theorem copy_call {l : List Int} {s : St} {K : AV → St → Prop} (hl : l.length ≤ 100000) (k : openS s fun n m => K (.sl 1 n 0 l.length) ⟨n + 1, (n, some (.rowI .u8 l)) :: m⟩) : Tr Try.prog 53 [.roI .u8 l] s K := by
  refine Tr.call [] (copy_tr l hl) rfl rfl trivial rfl fun v0 s0 ⟨hv, hs⟩ => ?_
  subst hv; subst hs
  rw [openS_eq] at k
  exact k
theorem OpenRequest_sl {h len : Nat} {L : List Int} {s : St} {K : AV → St → Prop} (hg : s.get h = some (.rowI .u8 L)) (hl : len = L.length) (hb : L.length ≤ 1000)
    (k : openS s fun n t => K (.tup [rqA (decS L).1, .int .i64 (decS L).2]) ⟨n, (h, none) :: t⟩) : Tr Try.prog 51 [.sl 1 h 0 len] s K := by
  refine Tr.lend h hg ?_
  have : frzL h (.rowI .u8 L) [.sl 1 h 0 len] = [.roI .u8 L] := by simp only [frzL, frz_row h .u8 L len hl]
  rw [this]
  exact Ev.call (OpenRequest_ev L hb) k
theorem frz_req (h : Nat) (c : Chunk) (f a n a2 : Int) (b : List Bool) (r : List Int) : (reqA f a n a2 (.roB b) (.roI .u16 r)).frz h c = reqA f a n a2 (.roB b) (.roI .u16 r) := rfl
theorem OpenReply_sl {h len : Nat} {L : List Int} {s : St} {K : AV → St → Prop} {f a n a2 : Int} {b : List Bool} {r : List Int} (hg : s.get h = some (.rowI .u8 L)) (hl : len = L.length) (hn0 : 0 ≤ n) (hn1 : n < 65536) (hb : b.length ≤ 2500) (hr : r.length ≤ 200) (hL : L.length ≤ 1000) (hc : ((f == 5) = false ∧ (f == 6) = false ∧ (f == 22) = false) ∨ L.length < 2 ∨ (L.getD 0 0 == or128 f) = true)
    (k : openS s fun nx t => K (.tup [rpA (orepS ⟨f, a, n, a2, b, r⟩ L).1, .int .i64 (orepS ⟨f, a, n, a2, b, r⟩ L).2]) ⟨nx, (h, none) :: t⟩) : Tr Try.prog 58 [reqA f a n a2 (.roB b) (.roI .u16 r), .sl 1 h 0 len] s K := by
  refine Tr.lend h hg ?_
  have : frzL h (.rowI .u8 L) [reqA f a n a2 (.roB b) (.roI .u16 r), .sl 1 h 0 len] = [reqA f a n a2 (.roB b) (.roI .u16 r), .roI .u8 L] := by simp only [frzL, frz_row h .u8 L len hl, frz_req]
  rw [this]
  exact Ev.call (OpenReply_ev f a n a2 b r L hn0 hn1 hb hr hL hc) k
theorem rReply_slB {h len : Nat} {L : List Bool} {s : St} {K : AV → St → Prop} {f : Int} (hg : s.get h = some (.rowB L)) (hl : len = L.length) (hL : L.length ≤ 2500)
    (k : openS s fun n t => K (.tup [.roI .u8 (repB f 0 0 0 L []), .int .i64 (repE f 0 0 0 L [])]) ⟨n, (h, none) :: t⟩) : Tr Try.prog 57 [repA f 0 0 0 (.sl 1 h 0 len) .nils] s K := by
  refine Tr.lend h hg ?_
  have : frzL h (.rowB L) [repA f 0 0 0 (.sl 1 h 0 len) .nils] = [repA f 0 0 0 (.roB L) .nils] := by
    simp only [frzL, repA, AV.frz, frzS_allB L len hl, beq_self, cond_true]
  rw [this]
  exact Tr.le (leRepN (Le.refl _) (Le.nilI _)) (Ev.call (rReply_ev f 0 0 0 L [] (by decide) (by decide) hL (by decide)) k)
theorem rReply_slI {h len : Nat} {L : List Int} {s : St} {K : AV → St → Prop} {f : Int} (hg : s.get h = some (.rowI .u16 L)) (hl : len = L.length) (hL : L.length ≤ 500)
    (k : openS s fun n t => K (.tup [.roI .u8 (repB f 0 0 0 [] L), .int .i64 (repE f 0 0 0 [] L)]) ⟨n, (h, none) :: t⟩) : Tr Try.prog 57 [repA f 0 0 0 .nils (.sl 1 h 0 len)] s K := by
  refine Tr.lend h hg ?_
  have : frzL h (.rowI .u16 L) [repA f 0 0 0 .nils (.sl 1 h 0 len)] = [repA f 0 0 0 .nils (.roI .u16 L)] := by
    simp only [frzL, repA, AV.frz, frzS_all .u16 L len hl, beq_self, cond_true]
  rw [this]
  exact Tr.le (leRepN Le.nilB (Le.refl _)) (Ev.call (rReply_ev f 0 0 0 [] L (by decide) (by decide) (by decide) hL) k)
theorem cRow12 (f a n a2 : Int) (b : List Bool) (r : List Int) (hf : f = 1 ∨ f = 2) (hn : 1 ≤ n ∧ n ≤ 2000) :
    ((repB f 0 0 0 (List.replicate n.toNat false) []).length : Int) = 2 + (n + 7) / 8 ∧ (repB f 0 0 0 (List.replicate n.toNat false) []).getD 0 0 = f ∧ (repB f 0 0 0 (List.replicate n.toNat false) []).getD 1 0 = (n + 7) / 8 := by
  have hlr : (List.replicate n.toNat false).length = n.toNat := by simp
  have hok : repOk f 0 0 0 (List.replicate n.toNat false) [] = true := by
    rcases hf with rfl | rfl <;> (simp [repOk, withinB]; omega)
  have hrow : repB f 0 0 0 (List.replicate n.toNat false) [] = [f] ++ [IntKind.u8.wrap (((List.replicate n.toNat false).length + 7) / 8 : Nat)] ++ packN (List.replicate n.toNat false) (List.replicate n.toNat false).length := by
    unfold repB
    rw [if_pos hok]
    rcases hf with rfl | rfl <;> rfl
  rw [hrow, hlr]
  refine ⟨?_, rfl, ?_⟩
  · simp [packN_length]; omega
  · show IntKind.u8.wrap (((n.toNat + 7) / 8 : Nat) : Int) = _
    rw [u8_in _ (by omega) (by omega)]
    omega
theorem encOk12 (f n a2 : Int) (b : List Bool) (r : List Int) (hk : encOk f n a2 b r = true) : (f = 1 ∨ f = 2 → 1 ≤ n ∧ n ≤ 2000) ∧ (f = 3 ∨ f = 4 ∨ f = 23 → 1 ≤ n ∧ n ≤ 125) ∧ (f = 1 ∨ f = 2 ∨ f = 3 ∨ f = 4 ∨ f = 5 ∨ f = 6 ∨ f = 15 ∨ f = 16 ∨ f = 22 ∨ f = 23) := by
  refine ⟨fun h => ?_, fun h => ?_, ?_⟩
  · rcases h with rfl | rfl <;> (simp [encOk, withinB] at hk; omega)
  · rcases h with rfl | rfl | rfl <;> (simp [encOk, withinB] at hk; omega)
  · by_cases h1 : f = 1 ∨ f = 2 ∨ f = 3 ∨ f = 4 ∨ f = 5 ∨ f = 6 ∨ f = 15 ∨ f = 16 ∨ f = 22 ∨ f = 23
    · exact h1
    · have h1 : ¬ f = 1 ∧ ¬ f = 2 ∧ ¬ f = 3 ∧ ¬ f = 4 ∧ ¬ f = 5 ∧ ¬ f = 6 ∧ ¬ f = 15 ∧ ¬ f = 16 ∧ ¬ f = 22 ∧ ¬ f = 23 := by omega
      obtain ⟨a1, a2, a3, a4, a5, a6, a7, a8, a9, a10⟩ := h1
      simp [encOk, *] at hk
theorem cX (f : Int) (hf : f < 128) : repB f 4 0 0 [] [] = [or128 f, 4] := by
  unfold repB
  rw [if_pos (by simp [repOk]; exact hf)]
  rfl
end Go.Proofs.Ytomodeliimnddaa
set_option linter.unusedVariables false
set_option linter.unusedSimpArgs false
namespace Go.Proofs.Ytomodeliimnddaa
open Go.Ab
def known9 (f : Int) : Prop := f = 1 ∨ f = 2 ∨ f = 3 ∨ f = 4 ∨ f = 5 ∨ f = 6 ∨ f = 15 ∨ f = 16 ∨ f = 22 ∨ f = 23
theorem or128_kn (f : Int) (h : known9 f) : or128 f = f + 128 := by
  rcases h with rfl | rfl | rfl | rfl | rfl | rfl | rfl | rfl | rfl | rfl <;> rfl
theorem rorep_go (q : Rq) (l asked : List Int) (h2 : 2 ≤ l.length) (h0 : l.getD 0 0 = q.f) (hk : known9 q.f) : rorepA q l asked 0 = rorepT q l asked := by
  unfold rorepA
  have h128 : (q.f == or128 q.f) = false := by
    rw [or128_kn q.f hk, beq_eq_false_iff_ne]; omega
  rw [if_neg (by decide), if_neg (by simp; omega), h0, if_neg (by rw [h128]; decide), if_neg (by simp)]
theorem own12 (f a n a2 : Int) (b : List Bool) (r : List Int) (asked : List Int) (L : List Bool) (hf : f = 1 ∨ f = 2) (hn : 1 ≤ n ∧ n ≤ 2000) (hL : L.length = n.toNat) :
    repE f 0 0 0 L [] = 0 ∧ rorepA ⟨f, a, n, a2, b, r⟩ (repB f 0 0 0 L []) asked 0 = (⟨f, 0, 0, 0, L, []⟩, 0) ∧ (repB f 0 0 0 L []).getD 0 0 = f ∧ 2 ≤ (repB f 0 0 0 L []).length ∧ isB (repB f 0 0 0 L []) := by
  have hok : repOk f 0 0 0 L [] = true := by rcases hf with rfl | rfl <;> (simp [repOk, withinB]; omega)
  have hrow : repB f 0 0 0 L [] = f :: ((n + 7) / 8) :: packN L L.length := by
    unfold repB
    rw [if_pos hok]
    have e : IntKind.u8.wrap (((L.length + 7) / 8 : Nat) : Int) = (n + 7) / 8 := by rw [u8_in _ (by omega) (by omega)]; omega
    rcases hf with rfl | rfl
    · exact congrArg (fun y => [(1 : Int)] ++ [y] ++ packN L L.length) e
    · exact congrArg (fun y => [(2 : Int)] ++ [y] ++ packN L L.length) e
  have hlen : (packN L L.length).length = (n.toNat + 7) / 8 := by rw [packN_length, hL]
  have hE : repE f 0 0 0 L [] = 0 := by unfold repE; rw [if_pos hok]
  have hB : isB (repB f 0 0 0 L []) := by
    rw [hrow]
    intro x hx
    simp only [List.mem_cons] at hx
    rcases hx with rfl | rfl | hx
    · omega
    · omega
    · exact isB_pack L L.length x hx
  refine ⟨hE, ?_, by rw [hrow]; rfl, by rw [hrow]; simp, hB⟩
  rw [rorep_go _ _ _ (by rw [hrow]; simp) (by rw [hrow]; rfl) (by rcases hf with rfl | rfl <;> simp [known9])]
  have hT : rorepT ⟨f, a, n, a2, b, r⟩ (repB f 0 0 0 L []) asked = (if IntKind.i64.wrap ((repB f 0 0 0 L []).getD 1 0) != nB n || ((repB f 0 0 0 L []).length : Int) != IntKind.i64.wrap (2 + IntKind.i64.wrap ((repB f 0 0 0 L []).getD 1 0)) then (Rp.zero, 30) else (⟨f, 0, 0, 0, bitsA (cutF (repB f 0 0 0 L []) 2) (bitsK (IntKind.i64.wrap n)), []⟩, 0)) := by
    rcases hf with rfl | rfl <;> rfl
  rw [hT, hrow]
  have g1 : (f :: ((n + 7) / 8) :: packN L L.length).getD 1 0 = (n + 7) / 8 := rfl
  have hc : cutF (f :: ((n + 7) / 8) :: packN L L.length) 2 = packN L L.length := by rw [cutF_eq]; rfl
  have hK : bitsK (IntKind.i64.wrap n) = n.toNat := by
    have := bitsK_len n.toNat (by omega)
    rwa [show ((n.toNat : Nat) : Int) = n by omega] at this
  rw [g1, hc, hK, nB_eq n (by omega) (by omega), IntWalk.i64_in ((n + 7) / 8) (by omega), IntWalk.i64_in (2 + (n + 7) / 8) (by omega), if_neg (by simp [hlen]; omega), ← hL, bits_pack L L.length (Nat.le_refl _), List.take_length]
theorem own3 (f a n a2 : Int) (b : List Bool) (r : List Int) (asked : List Int) (L : List Int) (hf : f = 3 ∨ f = 4 ∨ f = 23) (hn : 1 ≤ n ∧ n ≤ 125) (hL : L.length = n.toNat) (hr : ∀ x ∈ L, 0 ≤ x ∧ x < 65536) :
    repE f 0 0 0 [] L = 0 ∧ rorepA ⟨f, a, n, a2, b, r⟩ (repB f 0 0 0 [] L) asked 0 = (⟨f, 0, 0, 0, [], L⟩, 0) ∧ (repB f 0 0 0 [] L).getD 0 0 = f ∧ 2 ≤ (repB f 0 0 0 [] L).length ∧ isB (repB f 0 0 0 [] L) := by
  have hok : repOk f 0 0 0 [] L = true := by rcases hf with rfl | rfl | rfl <;> (simp [repOk, withinB]; omega)
  have hrow : repB f 0 0 0 [] L = f :: (2 * n) :: twos L := by
    unfold repB
    rw [if_pos hok]
    have e : IntKind.u8.wrap (IntKind.i64.wrap (2 * (L.length : Int))) = 2 * n := by rw [IntWalk.i64_in _ (by omega), u8_in _ (by omega) (by omega)]; omega
    rcases hf with rfl | rfl | rfl <;> simp only [repS] <;> simp [e]
  have hE : repE f 0 0 0 [] L = 0 := by unfold repE; rw [if_pos hok]
  have hB : isB (repB f 0 0 0 [] L) := by
    rw [hrow]
    intro x hx
    simp only [List.mem_cons] at hx
    rcases hx with rfl | rfl | hx
    · omega
    · omega
    · exact isB_twos L x hx
  refine ⟨hE, ?_, by rw [hrow]; rfl, by rw [hrow]; simp, hB⟩
  rw [rorep_go _ _ _ (by rw [hrow]; simp) (by rw [hrow]; rfl) (by rcases hf with rfl | rfl | rfl <;> simp [known9])]
  have hT : rorepT ⟨f, a, n, a2, b, r⟩ (repB f 0 0 0 [] L) asked = (if IntKind.i64.wrap ((repB f 0 0 0 [] L).getD 1 0) != IntKind.i64.wrap (2 * IntKind.i64.wrap n) || ((repB f 0 0 0 [] L).length : Int) != IntKind.i64.wrap (2 + IntKind.i64.wrap ((repB f 0 0 0 [] L).getD 1 0)) then (Rp.zero, 30) else (⟨f, 0, 0, 0, [], numsN (cutF (repB f 0 0 0 [] L) 2) ((cutF (repB f 0 0 0 [] L) 2).length / 2)⟩, 0)) := by
    rcases hf with rfl | rfl | rfl <;> rfl
  rw [hT, hrow]
  have g1 : (f :: (2 * n) :: twos L).getD 1 0 = 2 * n := rfl
  have hc : cutF (f :: (2 * n) :: twos L) 2 = twos L := by rw [cutF_eq]; rfl
  have hl2 : (twos L).length / 2 = L.length := by rw [twos_length]; omega
  rw [g1, hc, hl2, IntWalk.i64_in n (by omega), IntWalk.i64_in (2 * n) (by omega), IntWalk.i64_in (2 + 2 * n) (by omega), if_neg (by simp [twos_length]; omega), nums_twos L hr L.length (Nat.le_refl _), List.take_length]
theorem own5 (f a n a2 : Int) (b : List Bool) (r : List Int) (hf : f = 5 ∨ f = 6 ∨ f = 22) (hk : encOk f n a2 b r = true) :
    repE f 0 a 0 b r = 0 ∧ rorepA ⟨f, a, n, a2, b, r⟩ (repB f 0 a 0 b r) (encR f a n a2 b r) 0 = (⟨f, 0, a, 0, b, r⟩, 0) ∧ (repB f 0 a 0 b r).getD 0 0 = f ∧ 2 ≤ (repB f 0 a 0 b r).length := by
  obtain ⟨h1, h2, h3⟩ := row5 f a n a2 b r hf hk
  have h5 := (expl_enc f a n a2 b r hk).2.2.1
  refine ⟨h1, ?_, by rw [h2]; exact h3, by rw [h2]; omega⟩
  rw [h2, rorep_go _ _ _ (by omega) h3 (by rcases hf with rfl | rfl | rfl <;> simp [known9])]
  have hT : ∀ l asked : List Int, rorepT ⟨f, a, n, a2, b, r⟩ l asked = (if !(l == asked) then (Rp.zero, 30) else (⟨f, 0, a, 0, b, r⟩, 0)) := fun l asked => by
    rcases hf with rfl | rfl | rfl <;> rfl
  rw [hT, if_neg (by simp)]
theorem own15 (f a n a2 : Int) (b : List Bool) (r : List Int) (k : Int) (hf : (f = 15 ∧ k = IntKind.u16.wrap b.length) ∨ (f = 16 ∧ k = IntKind.u16.wrap r.length)) (hk : encOk f n a2 b r = true) :
    repE f 0 a k [] [] = 0 ∧ rorepA ⟨f, a, n, a2, b, r⟩ (repB f 0 a k [] []) (encR f a n a2 b r) 0 = (⟨f, 0, a, k, [], []⟩, 0) ∧ (repB f 0 a k [] []).getD 0 0 = f ∧ 2 ≤ (repB f 0 a k [] []).length := by
  obtain ⟨h1, h2, h3, h4⟩ := row15b f a n a2 b r k hf hk
  have h5 := (expl_enc f a n a2 b r hk).2.2.1
  have h6 : ((encR f a n a2 b r).take 5).getD 0 0 = f := by rw [getD_take _ _ _ (by omega)]; exact h3
  have h7 : 2 ≤ ((encR f a n a2 b r).take 5).length := by simp; omega
  refine ⟨h1, ?_, by rw [h2]; exact h6, by rw [h2]; exact h7⟩
  rw [h2, rorep_go _ _ _ h7 h6 (by rcases hf with ⟨rfl, _⟩ | ⟨rfl, _⟩ <;> simp [known9])]
  have hT : ∀ l asked : List Int, rorepT ⟨f, a, n, a2, b, r⟩ l asked = (if !(l == asked.take 5) then (Rp.zero, 30) else (⟨f, 0, a, numAt l 3, [], []⟩, 0)) := fun l asked => by
    rcases hf with ⟨rfl, _⟩ | ⟨rfl, _⟩ <;> rfl
  rw [hT, if_neg (by simp), h4]
theorem ownX (q : Rq) (x : Int) (asked : List Int) (hk : known9 q.f) (hx : x ≠ 0) :
    repE q.f x 0 0 [] [] = 0 ∧ repB q.f x 0 0 [] [] = [or128 q.f, x] ∧ rorepA q [or128 q.f, x] asked 0 = (⟨q.f, x, 0, 0, [], []⟩, 0) := by
  have hlt : q.f < 128 := by rcases hk with h | h | h | h | h | h | h | h | h | h <;> omega
  have hok : repOk q.f x 0 0 [] [] = true := by
    unfold repOk
    rw [if_pos (by simpa using hx)]
    simp [hlt]
  refine ⟨by unfold repE; rw [if_pos hok], ?_, ?_⟩
  · unfold repB
    rw [if_pos hok]
    unfold repS
    rw [if_pos (by simpa using hx)]
  · unfold rorepA
    rw [if_neg (by decide), if_neg (by simp)]
    have g0 : ([or128 q.f, x] : List Int).getD 0 0 = or128 q.f := rfl
    have g1 : ([or128 q.f, x] : List Int).getD 1 0 = x := rfl
    rw [g0, g1, if_pos (by simp), if_neg (by simp), if_neg (by simpa using hx)]
/-- of another function's request it is no answer -/
theorem other_no (f o : Int) (a n a2 : Int) (b : List Bool) (r l : List Int) (hk : known9 f) (ho : o ≠ f) (h0 : l.getD 0 0 = f ∨ l.getD 0 0 = or128 f) : (rorepS ⟨o, a, n, a2, b, r⟩ l).2 = 30 := by
  unfold rorepS rorepA
  by_cases hE : encOk o n a2 b r = true
  · have hko : known9 o := (encOk12 o n a2 b r hE).2.2
    have e1 := or128_kn f hk
    have e2 := or128_kn o hko
    have lf : 0 ≤ f ∧ f < 128 := by rcases hk with h | h | h | h | h | h | h | h | h | h <;> omega
    have lo : 0 ≤ o ∧ o < 128 := by rcases hko with h | h | h | h | h | h | h | h | h | h <;> omega
    show (if (encE o n a2 b r != 0) = true then (Rp.zero, (30 : Int)) else if decide ((l.length : Int) < 2) = true then (Rp.zero, 30) else if (l.getD 0 0 == or128 o) = true then _ else if (l.getD 0 0 != o) = true then (Rp.zero, 30) else _).2 = 30
    split
    · rfl
    · split
      · rfl
      · rw [if_neg (by simp only [beq_iff_eq]; omega), if_pos (by simp only [bne_iff_ne]; omega)]
  · show (if (encE o n a2 b r != 0) = true then (Rp.zero, (30 : Int)) else _).2 = 30
    rw [if_pos (by unfold encE; rw [if_neg hE]; decide)]
end Go.Proofs.Ytomodeliimnddaa
set_option linter.unusedVariables false
set_option linter.unusedSimpArgs false
namespace Go.Proofs.Ytomodeliimnddaa
open Go.Ab
/- rung/runglaw3.PduMatches -/
def a9 : ACode := (.seq (.reg [⟨(some 5), .box (.t 0), none, false⟩, ⟨(some 10), .mov (.c (.bool false)), none, false⟩])
 (.seq (.seq (.reg [⟨(some 21), .call 46 [], none, false⟩, ⟨(some 22), .un .not (.t 21), none, false⟩])
 (.cond (.t 22) (.seq (.reg [⟨(some 10), .mov (.c (.bool false)), none, false⟩])
 .ret)
 .skip))
 (.seq (.seq (.reg [⟨(some 23), .load true 6 (.t 5), none, false⟩, ⟨(some 24), .call 47 [(.t 23)], none, false⟩, ⟨(some 25), .un .not (.t 24), none, false⟩, ⟨(some 26), .mov (.t 25), none, true⟩, ⟨(some 27), .mov (.t 1), (some (26, false)), false⟩, ⟨(some 28), .len false (.t 27), (some (26, false)), false⟩, ⟨(some 29), .bin .gtr .other (.t 28) (.c (.int .i64 2500)), (some (26, false)), false⟩, ⟨(some 30), .pick (.t 26) (.c (.bool true)) (.t 29), none, false⟩, ⟨(some 31), .mov (.t 30), none, true⟩, ⟨(some 32), .mov (.t 2), (some (31, false)), false⟩, ⟨(some 33), .len false (.t 32), (some (31, false)), false⟩, ⟨(some 34), .bin .gtr .other (.t 33) (.c (.int .i64 200)), (some (31, false)), false⟩, ⟨(some 35), .pick (.t 31) (.c (.bool true)) (.t 34), none, false⟩])
 (.cond (.t 35) (.seq (.reg [⟨(some 10), .mov (.c (.bool true)), none, false⟩])
 .ret)
 .skip))
 (.seq (.seq (.reg [⟨(some 37), .load true 6 (.t 5), none, false⟩, ⟨(some 38), .call 49 [(.t 37)], none, false⟩, ⟨(some 36), .mov (.t 38), none, false⟩, ⟨(some 39), .ext (.t 36) 0, none, false⟩, ⟨(some 40), .ext (.t 36) 1, none, false⟩, ⟨(some 11), .mov (.t 39), none, false⟩, ⟨(some 12), .mov (.t 40), none, false⟩])
 (.seq (.reg [⟨(some 41), .mov (.t 12), none, false⟩, ⟨(some 42), .bin .neq .other (.t 41) (.c (.int .i64 0)), none, false⟩])
 (.cond (.t 42) (.seq (.reg [⟨(some 10), .mov (.c (.bool true)), none, false⟩])
 .ret)
 .skip)))
 (.seq (.reg [⟨(some 43), .fld 0 1 false (.t 5), none, false⟩, ⟨(some 44), .load false 1 (.t 43), none, false⟩, ⟨(some 45), .mov (.t 3), none, false⟩, ⟨(some 46), .build [(.int .u8 0), (.int .u8 0), (.int .u16 0), (.int .u16 0), .nils, .nils] [(0, 1, (.t 44)), (1, 1, (.t 45))], none, false⟩, ⟨(some 13), .alloc [(2, (.int .u8 0)), (2, (.int .u16 0)), (2, .nils)], none, false⟩, ⟨none, .store 6 (.t 13) (.t 46), none, false⟩])
 (.seq (.seq (.reg [⟨(some 47), .mov (.t 3), none, false⟩, ⟨(some 48), .bin .eql .other (.t 47) (.c (.int .u8 0)), none, false⟩])
 (.cond (.t 48) (.seq (.reg [⟨(some 49), .fld 0 1 false (.t 5), none, false⟩, ⟨(some 50), .load false 1 (.t 49), none, false⟩])
 (.block 0 (.seq (.seq (.reg [⟨(some 52), .bin .eql .other (.t 50) (.c (.int .u8 1)), none, false⟩, ⟨(some 51), .mov (.t 52), none, false⟩])
 (.cond (.t 51) .skip
 (.reg [⟨(some 53), .bin .eql .other (.t 50) (.c (.int .u8 2)), none, false⟩, ⟨(some 51), .mov (.t 53), none, false⟩])))
 (.cond (.t 51) (.draw [⟨0, ⟨(some 54), .mov (.t 1), none, false⟩, false, [], []⟩, ⟨2, ⟨(some 56), .fld 2 1 false (.t 5), none, false⟩, false, [], []⟩, ⟨3, ⟨(some 57), .load false 1 (.t 56), none, false⟩, false, [], []⟩, ⟨5, ⟨(some 59), .fld 2 1 false (.t 5), none, false⟩, false, [], []⟩, ⟨6, ⟨(some 60), .load false 1 (.t 59), none, false⟩, false, [], []⟩, ⟨1, ⟨(some 55), .app 1 1 (.c .nils) (.t 54), none, false⟩, true, [], [(.t 56), (.t 59)]⟩, ⟨4, ⟨(some 58), .appz 1 1 .bool [(.bool false)] (.t 55) (.t 57), none, false⟩, true, [], [(.t 59)]⟩, ⟨7, ⟨(some 61), .slice (.sl 1) (.t 58) none (some (.t 60)), none, false⟩, false, [], []⟩, ⟨8, ⟨(some 62), .fld 4 1 false (.t 13), none, false⟩, false, [], []⟩, ⟨9, ⟨none, .store 1 (.t 62) (.t 61), none, false⟩, true, [], []⟩])
 (.seq (.seq (.reg [⟨(some 64), .bin .eql .other (.t 50) (.c (.int .u8 3)), none, false⟩, ⟨(some 63), .mov (.t 64), none, false⟩])
 (.cond (.t 63) .skip
 (.seq (.reg [⟨(some 65), .bin .eql .other (.t 50) (.c (.int .u8 4)), none, false⟩, ⟨(some 63), .mov (.t 65), none, false⟩])
 (.cond (.t 63) .skip
 (.reg [⟨(some 66), .bin .eql .other (.t 50) (.c (.int .u8 23)), none, false⟩, ⟨(some 63), .mov (.t 66), none, false⟩])))))
 (.cond (.t 63) (.draw [⟨0, ⟨(some 67), .mov (.t 2), none, false⟩, false, [], []⟩, ⟨2, ⟨(some 69), .fld 2 1 false (.t 5), none, false⟩, false, [], []⟩, ⟨3, ⟨(some 70), .load false 1 (.t 69), none, false⟩, false, [], []⟩, ⟨5, ⟨(some 72), .fld 2 1 false (.t 5), none, false⟩, false, [], []⟩, ⟨6, ⟨(some 73), .load false 1 (.t 72), none, false⟩, false, [], []⟩, ⟨1, ⟨(some 68), .app 1 2 (.c .nils) (.t 67), none, false⟩, true, [], [(.t 69), (.t 72)]⟩, ⟨4, ⟨(some 71), .appz 1 2 (.int .u16) [(.int .u16 0)] (.t 68) (.t 70), none, false⟩, true, [], [(.t 72)]⟩, ⟨7, ⟨(some 74), .slice (.sl 1) (.t 71) none (some (.t 73)), none, false⟩, false, [], []⟩, ⟨8, ⟨(some 75), .fld 5 1 false (.t 13), none, false⟩, false, [], []⟩, ⟨9, ⟨none, .store 1 (.t 75) (.t 74), none, false⟩, true, [], []⟩])
 (.seq (.seq (.reg [⟨(some 77), .bin .eql .other (.t 50) (.c (.int .u8 5)), none, false⟩, ⟨(some 76), .mov (.t 77), none, false⟩])
 (.cond (.t 76) .skip
 (.seq (.reg [⟨(some 78), .bin .eql .other (.t 50) (.c (.int .u8 6)), none, false⟩, ⟨(some 76), .mov (.t 78), none, false⟩])
 (.cond (.t 76) .skip
 (.reg [⟨(some 79), .bin .eql .other (.t 50) (.c (.int .u8 22)), none, false⟩, ⟨(some 76), .mov (.t 79), none, false⟩])))))
 (.cond (.t 76) (.draw [⟨0, ⟨(some 80), .fld 1 1 false (.t 5), none, false⟩, false, [], []⟩, ⟨1, ⟨(some 81), .load false 1 (.t 80), none, false⟩, false, [], []⟩, ⟨2, ⟨(some 82), .fld 4 1 false (.t 5), none, false⟩, false, [], []⟩, ⟨3, ⟨(some 83), .load false 1 (.t 82), none, false⟩, false, [], []⟩, ⟨4, ⟨(some 84), .fld 5 1 false (.t 5), none, false⟩, false, [], []⟩, ⟨5, ⟨(some 85), .load false 1 (.t 84), none, false⟩, false, [], []⟩, ⟨6, ⟨(some 86), .fld 2 1 false (.t 13), none, false⟩, false, [], []⟩, ⟨7, ⟨none, .store 1 (.t 86) (.t 81), none, false⟩, true, [], [(.t 82), (.t 84)]⟩, ⟨8, ⟨(some 87), .fld 4 1 false (.t 13), none, false⟩, false, [], []⟩, ⟨9, ⟨none, .store 1 (.t 87) (.t 83), none, false⟩, true, [], [(.t 84)]⟩, ⟨10, ⟨(some 88), .fld 5 1 false (.t 13), none, false⟩, false, [], []⟩, ⟨11, ⟨none, .store 1 (.t 88) (.t 85), none, false⟩, true, [], []⟩])
 (.seq (.reg [⟨(some 90), .bin .eql .other (.t 50) (.c (.int .u8 15)), none, false⟩, ⟨(some 89), .mov (.t 90), none, false⟩])
 (.cond (.t 89) (.draw [⟨0, ⟨(some 91), .fld 1 1 false (.t 5), none, false⟩, false, [], []⟩, ⟨1, ⟨(some 92), .load false 1 (.t 91), none, false⟩, false, [], []⟩, ⟨2, ⟨(some 93), .fld 4 1 false (.t 5), none, false⟩, false, [], []⟩, ⟨3, ⟨(some 94), .load false 1 (.t 93), none, false⟩, false, [], []⟩, ⟨4, ⟨(some 95), .len false (.t 94), none, false⟩, false, [], []⟩, ⟨5, ⟨(some 96), .conv (.int .u16) (.t 95), none, false⟩, false, [], []⟩, ⟨6, ⟨(some 97), .fld 2 1 false (.t 13), none, false⟩, false, [], []⟩, ⟨7, ⟨none, .store 1 (.t 97) (.t 92), none, false⟩, true, [], [(.t 93)]⟩, ⟨8, ⟨(some 98), .fld 3 1 false (.t 13), none, false⟩, false, [], []⟩, ⟨9, ⟨none, .store 1 (.t 98) (.t 96), none, false⟩, true, [], []⟩])
 (.seq (.reg [⟨(some 100), .bin .eql .other (.t 50) (.c (.int .u8 16)), none, false⟩, ⟨(some 99), .mov (.t 100), none, false⟩])
 (.cond (.t 99) (.draw [⟨0, ⟨(some 101), .fld 1 1 false (.t 5), none, false⟩, false, [], []⟩, ⟨1, ⟨(some 102), .load false 1 (.t 101), none, false⟩, false, [], []⟩, ⟨2, ⟨(some 103), .fld 5 1 false (.t 5), none, false⟩, false, [], []⟩, ⟨3, ⟨(some 104), .load false 1 (.t 103), none, false⟩, false, [], []⟩, ⟨4, ⟨(some 105), .len false (.t 104), none, false⟩, false, [], []⟩, ⟨5, ⟨(some 106), .conv (.int .u16) (.t 105), none, false⟩, false, [], []⟩, ⟨6, ⟨(some 107), .fld 2 1 false (.t 13), none, false⟩, false, [], []⟩, ⟨7, ⟨none, .store 1 (.t 107) (.t 102), none, false⟩, true, [], [(.t 103)]⟩, ⟨8, ⟨(some 108), .fld 3 1 false (.t 13), none, false⟩, false, [], []⟩, ⟨9, ⟨none, .store 1 (.t 108) (.t 106), none, false⟩, true, [], []⟩])
 .skip))))))))))))
 .skip))
 (.seq (.reg [⟨(some 110), .load true 6 (.t 13), none, false⟩, ⟨(some 111), .call 56 [(.t 110)], none, false⟩, ⟨(some 109), .mov (.t 111), none, false⟩, ⟨(some 112), .ext (.t 109) 0, none, false⟩, ⟨(some 113), .ext (.t 109) 1, none, false⟩, ⟨(some 14), .mov (.t 112), none, false⟩, ⟨(some 15), .mov (.t 113), none, false⟩])
 (.seq (.reg [⟨(some 115), .load true 6 (.t 5), none, false⟩, ⟨(some 116), .mov (.t 14), none, false⟩, ⟨(some 117), .call 58 [(.t 115), (.t 116)], none, false⟩, ⟨(some 114), .mov (.t 117), none, false⟩, ⟨(some 118), .ext (.t 114) 0, none, false⟩, ⟨(some 119), .ext (.t 114) 1, none, false⟩, ⟨(some 16), .alloc [(2, (.int .u8 0)), (2, (.int .u16 0)), (2, .nils)], none, false⟩, ⟨none, .store 6 (.t 16) (.t 118), none, false⟩, ⟨(some 17), .mov (.t 119), none, false⟩])
 (.seq (.seq (.reg [⟨(some 120), .mov (.t 15), none, false⟩, ⟨(some 121), .mov (.t 17), none, false⟩, ⟨(some 122), .bin .add .other (.t 120) (.t 121), none, false⟩, ⟨(some 123), .bin .neq .other (.t 122) (.c (.int .i64 0)), none, false⟩, ⟨(some 124), .mov (.t 123), none, true⟩, ⟨(some 125), .load true 6 (.t 16), (some (124, false)), false⟩, ⟨(some 126), .load true 6 (.t 13), (some (124, false)), false⟩, ⟨(some 127), .call 60 [(.t 125), (.t 126)], (some (124, false)), false⟩, ⟨(some 128), .un .not (.t 127), (some (124, false)), false⟩, ⟨(some 129), .pick (.t 124) (.c (.bool true)) (.t 128), none, false⟩])
 (.cond (.t 129) (.seq (.reg [⟨(some 10), .mov (.c (.bool false)), none, false⟩])
 .ret)
 .skip))
 (.seq (.reg [⟨(some 130), .load true 6 (.t 5), none, false⟩, ⟨(some 18), .alloc [(1, (.int .u8 0)), (3, (.int .u16 0)), (2, .nils)], none, false⟩, ⟨none, .store 6 (.t 18) (.t 130), none, false⟩])
 (.seq (.reg [⟨(some 131), .mov (.t 4), none, false⟩, ⟨(some 132), .fld 0 1 false (.t 18), none, false⟩, ⟨none, .store 1 (.t 132) (.t 131), none, false⟩])
 (.seq (.reg [⟨(some 134), .load true 6 (.t 18), none, false⟩, ⟨(some 135), .mov (.t 14), none, false⟩, ⟨(some 136), .call 58 [(.t 134), (.t 135)], none, false⟩, ⟨(some 133), .mov (.t 136), none, false⟩, ⟨(some 137), .ext (.t 133) 0, none, false⟩, ⟨(some 138), .ext (.t 133) 1, none, false⟩, ⟨(some 19), .alloc [(2, (.int .u8 0)), (2, (.int .u16 0)), (2, .nils)], none, false⟩, ⟨none, .store 6 (.t 19) (.t 137), none, false⟩, ⟨(some 20), .mov (.t 138), none, false⟩])
 (.seq (.reg [⟨(some 139), .mov (.t 4), none, false⟩, ⟨(some 140), .fld 0 1 false (.t 5), none, false⟩, ⟨(some 141), .load false 1 (.t 140), none, false⟩, ⟨(some 142), .bin .eql .other (.t 139) (.t 141), none, false⟩, ⟨(some 143), .mov (.t 142), none, true⟩, ⟨(some 144), .mov (.t 20), (some (143, false)), false⟩, ⟨(some 145), .bin .eql .other (.t 144) (.c (.int .i64 30)), (some (143, false)), false⟩, ⟨(some 146), .pick (.t 143) (.c (.bool true)) (.t 145), none, false⟩, ⟨(some 10), .mov (.t 146), none, false⟩])
 .ret)))))))))))))
def r9 : List ARes := [.t 10]
theorem c9 : compF Try.prog Try.f9 = some (a9, r9) := by kernel_rfl

theorem b9 : hasBody Try.prog 9 = true := by kernel_rfl
theorem g9 : Try.prog.funcs[9]? = some Try.f9 := by kernel_rfl

/-- what a reply for a request comes to -/
def Own9 (f a n a2 : Int) (b : List Bool) (r : List Int) (x a' n' : Int) (B : List Bool) (R : List Int) : Prop :=
  ∃ l : List Int, Tr Try.prog 56 [repA f x a' n' (.roB B) (.roI .u16 R)] ⟨0, []⟩ (Ret1 l [.int .i64 0]) ∧ Ev Try.prog 58 [reqA f a n a2 (.roB b) (.roI .u16 r), .roI .u8 l] (.tup [repA f x a' n' (.roB B) (.roI .u16 R), .int .i64 0]) ∧
    ∀ o, ∃ p g, Ev Try.prog 58 [reqA o a n a2 (.roB b) (.roI .u16 r), .roI .u8 l] (.tup [rpA p, .int .i64 g]) ∧ (o ≠ f → g = 30)
theorem own9_of (f a n a2 : Int) (b : List Bool) (r : List Int) (x a' n' : Int) (B : List Bool) (R : List Int) (hn : 0 ≤ n ∧ n < 65536) (hb : b.length ≤ 2500) (hr : r.length ≤ 200) (hn' : 0 ≤ n' ∧ n' < 65536) (hB : B.length ≤ 2500) (hR : R.length ≤ 500)
    (hk : encOk f n a2 b r = true) (h1 : repE f x a' n' B R = 0) (h2 : rorepA ⟨f, a, n, a2, b, r⟩ (repB f x a' n' B R) (encR f a n a2 b r) 0 = (⟨f, x, a', n', B, R⟩, 0)) (h3 : isB (repB f x a' n' B R))
    (h4 : (repB f x a' n' B R).getD 0 0 = f ∨ (repB f x a' n' B R).getD 0 0 = or128 f) : Own9 f a n a2 b r x a' n' B R := by
  have hkn : known9 f := (encOk12 f n a2 b r hk).2.2
  have hlen := repB_len f x a' n' B R
  have hT := Reply_tr f x a' n' B R hn'.1 hn'.2 hB hR
  rw [h1] at hT
  refine ⟨_, hT, ?_, fun o => ?_⟩
  · have hO := OpenReplyF_ev f a n a2 b r (repB f x a' n' B R) hn.1 hn.2 hb hr (by omega)
    rw [orep_same f a n a2 b r _ hn h3 (by omega)] at hO
    have hE : encE f n a2 b r = 0 := by unfold encE; rw [if_pos hk]
    have : rorepS ⟨f, a, n, a2, b, r⟩ (repB f x a' n' B R) = (⟨f, x, a', n', B, R⟩, 0) := by
      unfold rorepS
      rw [hE]
      exact h2
    rw [this] at hO
    exact hO
  · refine ⟨_, _, OpenReplyF_ev o a n a2 b r (repB f x a' n' B R) hn.1 hn.2 hb hr (by omega), fun ho => ?_⟩
    rw [orep_same o a n a2 b r _ hn h3 (by omega)]
    exact other_no f o a n a2 b r _ hkn ho h4
theorem own9_12 (f a n a2 : Int) (b : List Bool) (r : List Int) (L : List Bool) (hf : f = 1 ∨ f = 2) (hn : 0 ≤ n ∧ n < 65536) (hb : b.length ≤ 2500) (hr : r.length ≤ 200) (hk : encOk f n a2 b r = true) (hL : L.length = n.toNat) : Own9 f a n a2 b r 0 0 0 L [] := by
  have h := (encOk12 f n a2 b r hk).1 hf
  obtain ⟨h1, h2, h3, h4, h5⟩ := own12 f a n a2 b r (encR f a n a2 b r) L hf h hL
  exact own9_of f a n a2 b r 0 0 0 L [] hn hb hr (by decide) (by omega) (by decide) hk h1 h2 h5 (.inl h3)
theorem own9_3 (f a n a2 : Int) (b : List Bool) (r : List Int) (L : List Int) (hf : f = 3 ∨ f = 4 ∨ f = 23) (hn : 0 ≤ n ∧ n < 65536) (hb : b.length ≤ 2500) (hr : r.length ≤ 200) (hk : encOk f n a2 b r = true) (hL : L.length = n.toNat) (hx : ∀ x ∈ L, 0 ≤ x ∧ x < 65536) : Own9 f a n a2 b r 0 0 0 [] L := by
  have h := (encOk12 f n a2 b r hk).2.1 hf
  obtain ⟨h1, h2, h3, h4, h5⟩ := own3 f a n a2 b r (encR f a n a2 b r) L hf h hL hx
  exact own9_of f a n a2 b r 0 0 0 [] L hn hb hr (by decide) (by decide) (by omega) hk h1 h2 h5 (.inl h3)
theorem own9_5 (f a n a2 : Int) (b : List Bool) (r : List Int) (hf : f = 5 ∨ f = 6 ∨ f = 22) (hn : 0 ≤ n ∧ n < 65536) (hb : b.length ≤ 2500) (hr : r.length ≤ 200) (hk : encOk f n a2 b r = true) : Own9 f a n a2 b r 0 a 0 b r := by
  obtain ⟨h1, h2, h3, h4⟩ := own5 f a n a2 b r hf hk
  have h5 := (row5 f a n a2 b r hf hk).2.1
  exact own9_of f a n a2 b r 0 a 0 b r hn hb hr (by decide) hb (by omega) hk h1 h2 (by rw [h5]; exact enc_byte f a n a2 b r (by omega) (by omega)) (.inl h3)
theorem own9_15 (f a n a2 : Int) (b : List Bool) (r : List Int) (k : Int) (hf : (f = 15 ∧ k = IntKind.u16.wrap b.length) ∨ (f = 16 ∧ k = IntKind.u16.wrap r.length)) (hn : 0 ≤ n ∧ n < 65536) (hb : b.length ≤ 2500) (hr : r.length ≤ 200) (hk : encOk f n a2 b r = true) : Own9 f a n a2 b r 0 a k [] [] := by
  obtain ⟨h1, h2, h3, h4⟩ := own15 f a n a2 b r k hf hk
  have h5 := (row15b f a n a2 b r k hf hk).2.1
  have hkk : 0 ≤ k ∧ k < 65536 := by rcases hf with ⟨_, rfl⟩ | ⟨_, rfl⟩ <;> exact wrap16_range _
  exact own9_of f a n a2 b r 0 a k [] [] hn hb hr hkk (by decide) (by decide) hk h1 h2 (by
    rw [h5]
    intro x hx
    exact enc_byte f a n a2 b r (by omega) (by omega) x (List.mem_of_mem_take hx)) (.inl h3)
theorem own9_X (f a n a2 : Int) (b : List Bool) (r : List Int) (x : Int) (hx0 : x ≠ 0) (hx : 0 ≤ x ∧ x < 256) (hn : 0 ≤ n ∧ n < 65536) (hb : b.length ≤ 2500) (hr : r.length ≤ 200) (hk : encOk f n a2 b r = true) : Own9 f a n a2 b r x 0 0 [] [] := by
  have hkn : known9 f := (encOk12 f n a2 b r hk).2.2
  obtain ⟨h1, h2, h3⟩ := ownX ⟨f, a, n, a2, b, r⟩ x (encR f a n a2 b r) hkn hx0
  refine own9_of f a n a2 b r x 0 0 [] [] hn hb hr (by decide) (by decide) (by decide) hk h1 (by rw [h2]; exact h3) ?_ (.inr (by rw [h2]; rfl))
  rw [h2]
  have e := or128_kn f hkn
  have lf : 0 ≤ f ∧ f < 128 := by rcases hkn with h | h | h | h | h | h | h | h | h | h <;> omega
  intro y hy
  simp only [List.mem_cons, List.not_mem_nil, or_false] at hy
  rcases hy with rfl | rfl
  · show 0 ≤ or128 f ∧ _
    rw [e]; omega
  · exact hx
theorem hrep_true (f a n a2 : Int) (b : List Bool) (r : List Int) (hb : b.length ≤ 100000) (hr : r.length ≤ 100000) :
    Ev Try.prog 60 [repA f a n a2 (.roB b) (.roI .u16 r), repA f a n a2 (.roB b) (.roI .u16 r)] (.bool true) := by
  have h : Ev Try.prog 60 [repA f a n a2 (.roB b) (.roI .u16 r), repA f a n a2 (.roB b) (.roI .u16 r)] (.bool (f == f && a == a && n == n && a2 == a2 && b == b && r == r)) := ⟨rfl, hrep_tr f a n a2 f a n a2 b b r r hb hr⟩
  simp only [beq_self_eq_true, Bool.and_self] at h
  exact h
set_option maxRecDepth 20000 in
set_option maxHeartbeats 4000000 in
theorem law9 (f a n a2 : Int) (b : List Bool) (r : List Int) (L : List Bool) (R : List Int) (x o : Int) (hf : 0 ≤ f ∧ f < 256) (hn : 0 ≤ n ∧ n < 65536) (hx : 0 ≤ x ∧ x < 256) (hR : ∀ x ∈ R, 0 ≤ x ∧ x < 65536) :
    Ev Try.prog 9 [reqA f a n a2 (.roB b) (.roI .u16 r), .roB L, .roI .u16 R, .int .u8 x, .int .u8 o] (.bool true) := by
  refine FrzK.ev rfl (trF g9 b9 c9 ?_)
  conv => whnf
  refine Ev.call known3 ?_
  conv => whnf
  refine Ev.call (light_ev _ _ _ _ _ _) ?_
  conv => whnf
  refine condS (fun h => ?_) (fun h => ?_)
  · conv => whnf
    exact FrzK.le (Le.refl _)
  conv => whnf
  have hb : b.length ≤ 2500 ∧ r.length ≤ 200 := by
    simp only [Bool.not_eq_false', Bool.and_eq_true, decide_eq_true_eq] at h
    omega
  refine condS (fun h => ?_) (fun h => ?_)
  · conv => whnf
    exact FrzK.le (Le.refl _)
  conv => whnf
  have hLl : L.length ≤ 2500 := by simp at h; omega
  refine condS (fun h => ?_) (fun h => ?_)
  · conv => whnf
    exact FrzK.le (Le.refl _)
  conv => whnf
  have hRl : R.length ≤ 200 := by simp at h; omega
  refine Ev.call (rRequest_ev f a n a2 b r hn.1 hn.2 hb.1 (by omega)) ?_
  conv => whnf
  cases hk : encOk f n a2 b r with
  | false =>
    refine condY (by simp [encE, hk]) ?_
    conv => whnf
    exact FrzK.le (Le.refl _)
  | true =>
  refine condN (by simp [encE, hk]) ?_
  conv => whnf
  by_cases hx0 : x = 0
  · subst hx0
    conv => whnf
    obtain ⟨e12, e3, hkn⟩ := encOk12 f n a2 b r hk
    rcases hkn with rfl | rfl | rfl | rfl | rfl | rfl | rfl | rfl | rfl | rfl
    · conv => whnf
      repeat' (first
        | (refine condT (by first | (simp; done) | (simp; omega)) ?_; conv => whnf)
        | (refine ⟨rfl, ?_⟩; conv => whnf))
      have hown := own9_12 1 a n a2 b r ((((L.drop 0).take L.length ++ List.replicate n.toNat false).drop (0 + 0 * 1)).take (n.toNat - 0)) (by decide) hn hb.1 hb.2 hk (by simp)
      obtain ⟨l, hT, hO, hP⟩ := hown
      refine Ret1.lookF hT rfl ⟨.aggL ⟨.same _ rfl, .same _ rfl, .same _ rfl, .same _ rfl, .rowB rfl (by simp), .le _ _ _ (.same _ rfl) (Le.nilI _), trivial⟩, trivial⟩ ?_
      conv => whnf
      refine Ev.call hO ?_
      conv => whnf
      refine Ev.look (hrep_true _ _ _ _ _ _ (by simp; omega) (by simp)) rfl ⟨.aggL ⟨.same _ rfl, .same _ rfl, .same _ rfl, .same _ rfl, .same _ rfl, .same _ rfl, trivial⟩, .aggL ⟨.same _ rfl, .same _ rfl, .same _ rfl, .same _ rfl, .rowB rfl (by simp), .le _ _ _ (.same _ rfl) (Le.nilI _), trivial⟩, trivial⟩ ?_
      conv => whnf
      obtain ⟨p, g, hE, hg⟩ := hP o
      refine Ev.call hE ?_
      conv => whnf
      refine condS (fun h => ?_) (fun h => ?_)
      · conv => whnf
        exact FrzK.le (Le.refl _)
      · conv => whnf
        have h30 : g = 30 := hg (by simpa using h)
        subst h30
        exact FrzK.le (Le.refl _)
    · conv => whnf
      repeat' (first
        | (refine condT (by first | (simp; done) | (simp; omega)) ?_; conv => whnf)
        | (refine ⟨rfl, ?_⟩; conv => whnf))
      have hown := own9_12 2 a n a2 b r ((((L.drop 0).take L.length ++ List.replicate n.toNat false).drop (0 + 0 * 1)).take (n.toNat - 0)) (by decide) hn hb.1 hb.2 hk (by simp)
      obtain ⟨l, hT, hO, hP⟩ := hown
      refine Ret1.lookF hT rfl ⟨.aggL ⟨.same _ rfl, .same _ rfl, .same _ rfl, .same _ rfl, .rowB rfl (by simp), .le _ _ _ (.same _ rfl) (Le.nilI _), trivial⟩, trivial⟩ ?_
      conv => whnf
      refine Ev.call hO ?_
      conv => whnf
      refine Ev.look (hrep_true _ _ _ _ _ _ (by simp; omega) (by simp)) rfl ⟨.aggL ⟨.same _ rfl, .same _ rfl, .same _ rfl, .same _ rfl, .same _ rfl, .same _ rfl, trivial⟩, .aggL ⟨.same _ rfl, .same _ rfl, .same _ rfl, .same _ rfl, .rowB rfl (by simp), .le _ _ _ (.same _ rfl) (Le.nilI _), trivial⟩, trivial⟩ ?_
      conv => whnf
      obtain ⟨p, g, hE, hg⟩ := hP o
      refine Ev.call hE ?_
      conv => whnf
      refine condS (fun h => ?_) (fun h => ?_)
      · conv => whnf
        exact FrzK.le (Le.refl _)
      · conv => whnf
        have h30 : g = 30 := hg (by simpa using h)
        subst h30
        exact FrzK.le (Le.refl _)
    · conv => whnf
      repeat' (first
        | (refine condT (by first | (simp; done) | (simp; omega)) ?_; conv => whnf)
        | (refine ⟨rfl, ?_⟩; conv => whnf))
      have hown := own9_3 3 a n a2 b r ((((R.drop 0).take R.length ++ List.replicate n.toNat (0 : Int)).drop (0 + 0 * 1)).take (n.toNat - 0)) (by decide) hn hb.1 hb.2 hk (by simp) (fun y hy => by
          have h2 := List.mem_of_mem_drop (List.mem_of_mem_take hy)
          rcases List.mem_append.1 h2 with h3 | h3
          · exact hR y (List.mem_of_mem_drop (List.mem_of_mem_take h3))
          · have := (List.mem_replicate.1 h3).2; omega)
      obtain ⟨l, hT, hO, hP⟩ := hown
      refine Ret1.lookF hT rfl ⟨.aggL ⟨.same _ rfl, .same _ rfl, .same _ rfl, .same _ rfl, .le _ _ _ (.same _ rfl) Le.nilB, .rowI rfl (by simp), trivial⟩, trivial⟩ ?_
      conv => whnf
      refine Ev.call hO ?_
      conv => whnf
      refine Ev.look (hrep_true _ _ _ _ _ _ (by simp) (by simp; omega)) rfl ⟨.aggL ⟨.same _ rfl, .same _ rfl, .same _ rfl, .same _ rfl, .same _ rfl, .same _ rfl, trivial⟩, .aggL ⟨.same _ rfl, .same _ rfl, .same _ rfl, .same _ rfl, .le _ _ _ (.same _ rfl) Le.nilB, .rowI rfl (by simp), trivial⟩, trivial⟩ ?_
      conv => whnf
      obtain ⟨p, g, hE, hg⟩ := hP o
      refine Ev.call hE ?_
      conv => whnf
      refine condS (fun h => ?_) (fun h => ?_)
      · conv => whnf
        exact FrzK.le (Le.refl _)
      · conv => whnf
        have h30 : g = 30 := hg (by simpa using h)
        subst h30
        exact FrzK.le (Le.refl _)
    · conv => whnf
      repeat' (first
        | (refine condT (by first | (simp; done) | (simp; omega)) ?_; conv => whnf)
        | (refine ⟨rfl, ?_⟩; conv => whnf))
      have hown := own9_3 4 a n a2 b r ((((R.drop 0).take R.length ++ List.replicate n.toNat (0 : Int)).drop (0 + 0 * 1)).take (n.toNat - 0)) (by decide) hn hb.1 hb.2 hk (by simp) (fun y hy => by
          have h2 := List.mem_of_mem_drop (List.mem_of_mem_take hy)
          rcases List.mem_append.1 h2 with h3 | h3
          · exact hR y (List.mem_of_mem_drop (List.mem_of_mem_take h3))
          · have := (List.mem_replicate.1 h3).2; omega)
      obtain ⟨l, hT, hO, hP⟩ := hown
      refine Ret1.lookF hT rfl ⟨.aggL ⟨.same _ rfl, .same _ rfl, .same _ rfl, .same _ rfl, .le _ _ _ (.same _ rfl) Le.nilB, .rowI rfl (by simp), trivial⟩, trivial⟩ ?_
      conv => whnf
      refine Ev.call hO ?_
      conv => whnf
      refine Ev.look (hrep_true _ _ _ _ _ _ (by simp) (by simp; omega)) rfl ⟨.aggL ⟨.same _ rfl, .same _ rfl, .same _ rfl, .same _ rfl, .same _ rfl, .same _ rfl, trivial⟩, .aggL ⟨.same _ rfl, .same _ rfl, .same _ rfl, .same _ rfl, .le _ _ _ (.same _ rfl) Le.nilB, .rowI rfl (by simp), trivial⟩, trivial⟩ ?_
      conv => whnf
      obtain ⟨p, g, hE, hg⟩ := hP o
      refine Ev.call hE ?_
      conv => whnf
      refine condS (fun h => ?_) (fun h => ?_)
      · conv => whnf
        exact FrzK.le (Le.refl _)
      · conv => whnf
        have h30 : g = 30 := hg (by simpa using h)
        subst h30
        exact FrzK.le (Le.refl _)
    · conv => whnf
      repeat' (first
        | (refine condT (by first | (simp; done) | (simp; omega)) ?_; conv => whnf)
        | (refine ⟨rfl, ?_⟩; conv => whnf))
      have hown := own9_5 5 a n a2 b r (by decide) hn hb.1 hb.2 hk
      obtain ⟨l, hT, hO, hP⟩ := hown
      refine Ret1.lookF hT rfl ⟨.aggL ⟨.same _ rfl, .same _ rfl, .same _ rfl, .same _ rfl, .same _ rfl, .same _ rfl, trivial⟩, trivial⟩ ?_
      conv => whnf
      refine Ev.call hO ?_
      conv => whnf
      refine Ev.look (hrep_true _ _ _ _ _ _ (by omega) (by omega)) rfl ⟨.aggL ⟨.same _ rfl, .same _ rfl, .same _ rfl, .same _ rfl, .same _ rfl, .same _ rfl, trivial⟩, .aggL ⟨.same _ rfl, .same _ rfl, .same _ rfl, .same _ rfl, .same _ rfl, .same _ rfl, trivial⟩, trivial⟩ ?_
      conv => whnf
      obtain ⟨p, g, hE, hg⟩ := hP o
      refine Ev.call hE ?_
      conv => whnf
      refine condS (fun h => ?_) (fun h => ?_)
      · conv => whnf
        exact FrzK.le (Le.refl _)
      · conv => whnf
        have h30 : g = 30 := hg (by simpa using h)
        subst h30
        exact FrzK.le (Le.refl _)
    · conv => whnf
      repeat' (first
        | (refine condT (by first | (simp; done) | (simp; omega)) ?_; conv => whnf)
        | (refine ⟨rfl, ?_⟩; conv => whnf))
      have hown := own9_5 6 a n a2 b r (by decide) hn hb.1 hb.2 hk
      obtain ⟨l, hT, hO, hP⟩ := hown
      refine Ret1.lookF hT rfl ⟨.aggL ⟨.same _ rfl, .same _ rfl, .same _ rfl, .same _ rfl, .same _ rfl, .same _ rfl, trivial⟩, trivial⟩ ?_
      conv => whnf
      refine Ev.call hO ?_
      conv => whnf
      refine Ev.look (hrep_true _ _ _ _ _ _ (by omega) (by omega)) rfl ⟨.aggL ⟨.same _ rfl, .same _ rfl, .same _ rfl, .same _ rfl, .same _ rfl, .same _ rfl, trivial⟩, .aggL ⟨.same _ rfl, .same _ rfl, .same _ rfl, .same _ rfl, .same _ rfl, .same _ rfl, trivial⟩, trivial⟩ ?_
      conv => whnf
      obtain ⟨p, g, hE, hg⟩ := hP o
      refine Ev.call hE ?_
      conv => whnf
      refine condS (fun h => ?_) (fun h => ?_)
      · conv => whnf
        exact FrzK.le (Le.refl _)
      · conv => whnf
        have h30 : g = 30 := hg (by simpa using h)
        subst h30
        exact FrzK.le (Le.refl _)
    · conv => whnf
      repeat' (first
        | (refine condT (by first | (simp; done) | (simp; omega)) ?_; conv => whnf)
        | (refine ⟨rfl, ?_⟩; conv => whnf))
      have hown := own9_15 15 a n a2 b r _ (by left; exact ⟨rfl, rfl⟩) hn hb.1 hb.2 hk
      obtain ⟨l, hT, hO, hP⟩ := hown
      refine Ret1.lookF hT rfl ⟨.aggL ⟨.same _ rfl, .same _ rfl, .same _ rfl, .same _ rfl, .le _ _ _ (.same _ rfl) Le.nilB, .le _ _ _ (.same _ rfl) (Le.nilI _), trivial⟩, trivial⟩ ?_
      conv => whnf
      refine Ev.call hO ?_
      conv => whnf
      refine Ev.look (hrep_true _ _ _ _ _ _ (by simp) (by simp)) rfl ⟨.aggL ⟨.same _ rfl, .same _ rfl, .same _ rfl, .same _ rfl, .same _ rfl, .same _ rfl, trivial⟩, .aggL ⟨.same _ rfl, .same _ rfl, .same _ rfl, .same _ rfl, .le _ _ _ (.same _ rfl) Le.nilB, .le _ _ _ (.same _ rfl) (Le.nilI _), trivial⟩, trivial⟩ ?_
      conv => whnf
      obtain ⟨p, g, hE, hg⟩ := hP o
      refine Ev.call hE ?_
      conv => whnf
      refine condS (fun h => ?_) (fun h => ?_)
      · conv => whnf
        exact FrzK.le (Le.refl _)
      · conv => whnf
        have h30 : g = 30 := hg (by simpa using h)
        subst h30
        exact FrzK.le (Le.refl _)
    · conv => whnf
      repeat' (first
        | (refine condT (by first | (simp; done) | (simp; omega)) ?_; conv => whnf)
        | (refine ⟨rfl, ?_⟩; conv => whnf))
      have hown := own9_15 16 a n a2 b r _ (by right; exact ⟨rfl, rfl⟩) hn hb.1 hb.2 hk
      obtain ⟨l, hT, hO, hP⟩ := hown
      refine Ret1.lookF hT rfl ⟨.aggL ⟨.same _ rfl, .same _ rfl, .same _ rfl, .same _ rfl, .le _ _ _ (.same _ rfl) Le.nilB, .le _ _ _ (.same _ rfl) (Le.nilI _), trivial⟩, trivial⟩ ?_
      conv => whnf
      refine Ev.call hO ?_
      conv => whnf
      refine Ev.look (hrep_true _ _ _ _ _ _ (by simp) (by simp)) rfl ⟨.aggL ⟨.same _ rfl, .same _ rfl, .same _ rfl, .same _ rfl, .same _ rfl, .same _ rfl, trivial⟩, .aggL ⟨.same _ rfl, .same _ rfl, .same _ rfl, .same _ rfl, .le _ _ _ (.same _ rfl) Le.nilB, .le _ _ _ (.same _ rfl) (Le.nilI _), trivial⟩, trivial⟩ ?_
      conv => whnf
      obtain ⟨p, g, hE, hg⟩ := hP o
      refine Ev.call hE ?_
      conv => whnf
      refine condS (fun h => ?_) (fun h => ?_)
      · conv => whnf
        exact FrzK.le (Le.refl _)
      · conv => whnf
        have h30 : g = 30 := hg (by simpa using h)
        subst h30
        exact FrzK.le (Le.refl _)
    · conv => whnf
      repeat' (first
        | (refine condT (by first | (simp; done) | (simp; omega)) ?_; conv => whnf)
        | (refine ⟨rfl, ?_⟩; conv => whnf))
      have hown := own9_5 22 a n a2 b r (by decide) hn hb.1 hb.2 hk
      obtain ⟨l, hT, hO, hP⟩ := hown
      refine Ret1.lookF hT rfl ⟨.aggL ⟨.same _ rfl, .same _ rfl, .same _ rfl, .same _ rfl, .same _ rfl, .same _ rfl, trivial⟩, trivial⟩ ?_
      conv => whnf
      refine Ev.call hO ?_
      conv => whnf
      refine Ev.look (hrep_true _ _ _ _ _ _ (by omega) (by omega)) rfl ⟨.aggL ⟨.same _ rfl, .same _ rfl, .same _ rfl, .same _ rfl, .same _ rfl, .same _ rfl, trivial⟩, .aggL ⟨.same _ rfl, .same _ rfl, .same _ rfl, .same _ rfl, .same _ rfl, .same _ rfl, trivial⟩, trivial⟩ ?_
      conv => whnf
      obtain ⟨p, g, hE, hg⟩ := hP o
      refine Ev.call hE ?_
      conv => whnf
      refine condS (fun h => ?_) (fun h => ?_)
      · conv => whnf
        exact FrzK.le (Le.refl _)
      · conv => whnf
        have h30 : g = 30 := hg (by simpa using h)
        subst h30
        exact FrzK.le (Le.refl _)
    · conv => whnf
      repeat' (first
        | (refine condT (by first | (simp; done) | (simp; omega)) ?_; conv => whnf)
        | (refine ⟨rfl, ?_⟩; conv => whnf))
      have hown := own9_3 23 a n a2 b r ((((R.drop 0).take R.length ++ List.replicate n.toNat (0 : Int)).drop (0 + 0 * 1)).take (n.toNat - 0)) (by decide) hn hb.1 hb.2 hk (by simp) (fun y hy => by
          have h2 := List.mem_of_mem_drop (List.mem_of_mem_take hy)
          rcases List.mem_append.1 h2 with h3 | h3
          · exact hR y (List.mem_of_mem_drop (List.mem_of_mem_take h3))
          · have := (List.mem_replicate.1 h3).2; omega)
      obtain ⟨l, hT, hO, hP⟩ := hown
      refine Ret1.lookF hT rfl ⟨.aggL ⟨.same _ rfl, .same _ rfl, .same _ rfl, .same _ rfl, .le _ _ _ (.same _ rfl) Le.nilB, .rowI rfl (by simp), trivial⟩, trivial⟩ ?_
      conv => whnf
      refine Ev.call hO ?_
      conv => whnf
      refine Ev.look (hrep_true _ _ _ _ _ _ (by simp) (by simp; omega)) rfl ⟨.aggL ⟨.same _ rfl, .same _ rfl, .same _ rfl, .same _ rfl, .same _ rfl, .same _ rfl, trivial⟩, .aggL ⟨.same _ rfl, .same _ rfl, .same _ rfl, .same _ rfl, .le _ _ _ (.same _ rfl) Le.nilB, .rowI rfl (by simp), trivial⟩, trivial⟩ ?_
      conv => whnf
      obtain ⟨p, g, hE, hg⟩ := hP o
      refine Ev.call hE ?_
      conv => whnf
      refine condS (fun h => ?_) (fun h => ?_)
      · conv => whnf
        exact FrzK.le (Le.refl _)
      · conv => whnf
        have h30 : g = 30 := hg (by simpa using h)
        subst h30
        exact FrzK.le (Le.refl _)
  · refine condN (by simpa using hx0) ?_
    conv => whnf
    have hown := own9_X f a n a2 b r x hx0 hx hn hb.1 hb.2 hk
    obtain ⟨l, hT, hO, hP⟩ := hown
    refine Ret1.lookF hT rfl ⟨.aggL ⟨.same _ rfl, .same _ rfl, .same _ rfl, .same _ rfl, .le _ _ _ (.same _ rfl) Le.nilB, .le _ _ _ (.same _ rfl) (Le.nilI _), trivial⟩, trivial⟩ ?_
    conv => whnf
    refine Ev.call hO ?_
    conv => whnf
    refine Ev.look (hrep_true _ _ _ _ _ _ (by simp) (by simp)) rfl ⟨.aggL ⟨.same _ rfl, .same _ rfl, .same _ rfl, .same _ rfl, .same _ rfl, .same _ rfl, trivial⟩, .aggL ⟨.same _ rfl, .same _ rfl, .same _ rfl, .same _ rfl, .le _ _ _ (.same _ rfl) Le.nilB, .le _ _ _ (.same _ rfl) (Le.nilI _), trivial⟩, trivial⟩ ?_
    conv => whnf
    obtain ⟨p, g, hE, hg⟩ := hP o
    refine Ev.call hE ?_
    conv => whnf
    refine condS (fun h => ?_) (fun h => ?_)
    · conv => whnf
      exact FrzK.le (Le.refl _)
    · conv => whnf
      have h30 : g = 30 := hg (by simpa using h)
      subst h30
      exact FrzK.le (Le.refl _)
end Go.Proofs.Ytomodeliimnddaa
set_option linter.unusedVariables false
set_option linter.unusedSimpArgs false
namespace Go.Ab
open Go.ChangeShapes Go.WideShapes Go.RowKit Go.Deep
def noM : Nat → Prop := fun _ => False
section
variable {P : Program} {H : Type} {enc : TypeId × Value → H} {W : World} {r : Reach} {b : Nat} {held : Bool}
theorem wf_has {k : IntKind} {n : Int} (h : (Lit.int k n).wf = true) : k.min ≤ n ∧ n ≤ k.max := by
  simpa [Lit.wf] using h
theorem cell_addr {t e : TypeId} {a : Addr} {len cap : Nat} (ht : P.underlying t = some (.slice e)) (h : Cell.okWide P W r b t (.slice (some a) len cap)) : a.spot = none ∧ a.block < W.heap.size := by
  simp only [Cell.okWide, ht, Cell.ok] at h
  obtain ⟨_, _, _, h2, row, cells, h3, _⟩ := h
  exact ⟨h2, lt_of_shape h3⟩
theorem gInts {t e : TypeId} {k : IntKind} {fuel : Nat} {v : Value} {x : DataW H × List MemPlace} (hok : Cell.okWide P W r b t v) (ht : P.underlying t = some (.slice e)) (he : P.underlying e = some (.int k)) (hc : P.cellsOf e = 1)
    (h : DataW.trod enc P W 0 (fun _ => true) held fuel t [v] = some x) : ∃ l : List Int, GRel W noM (.roI k l) v ∧ ∀ n ∈ l, k.min ≤ n ∧ n ≤ k.max := by
  rcases open_ints ht he hc h with ⟨hcs, _⟩ | ⟨a, len, cap, zs, hcs, _, hl, hm, hz, _, hcell, hwf⟩
  · obtain rfl : v = .slice none 0 0 := by simpa using hcs
    exact ⟨[], .sliceNil _ 1 (fun j => .int k (([] : List Int).getD j 0)) rfl, by simp⟩
  · obtain rfl : v = .slice (some a) len cap := by simpa using hcs
    obtain ⟨h1, h2⟩ := cell_addr ht hok
    have hz : zs.length = cap := by simpa using hz
    have hlen : (zs.take len).length = len := by rw [List.length_take]; omega
    refine ⟨zs.take len, ?_, fun n hn => wf_has (hwf n (List.mem_of_mem_take hn))⟩
    have := GRel.slice (w := W) (M := noM) (.roI k (zs.take len)) 1 (zs.take len).length (fun j => .int k ((zs.take len).getD j 0)) a cap (fun j => .int k (zs.getD j 0)) rfl h1 (fun h => h) h2 (by omega) (fun _ _ => rfl) (fun j hj => by
      rw [← add_eq a j h1]; exact hcell j (by omega)) (fun j hj => by
      have : (zs.take len).getD j 0 = zs.getD j 0 := by
        have hj' : j < len := by omega
        simp [List.getD_eq_getElem?_getD, List.getElem?_take, hj']
      show GRel W noM (.int k ((zs.take len).getD j 0)) _
      rw [this]; exact .int k _)
    rw [hlen] at this
    exact this
theorem gBools {t e : TypeId} {fuel : Nat} {v : Value} {x : DataW H × List MemPlace} (hok : Cell.okWide P W r b t v) (ht : P.underlying t = some (.slice e)) (he : P.underlying e = some .bool) (hc : P.cellsOf e = 1)
    (h : DataW.trod enc P W 0 (fun _ => true) held fuel t [v] = some x) : ∃ l : List Bool, GRel W noM (.roB l) v := by
  rcases open_bools ht he hc h with ⟨hcs, _⟩ | ⟨a, len, cap, B, hcs, _, hl, hm, _, hcell⟩
  · obtain rfl : v = .slice none 0 0 := by simpa using hcs
    exact ⟨[], .sliceNil _ 1 (fun j => .bool (([] : List Bool).getD j false)) rfl⟩
  · obtain rfl : v = .slice (some a) len cap := by simpa using hcs
    obtain ⟨h1, h2⟩ := cell_addr ht hok
    have hlen : ((List.range len).map B).length = len := by simp
    refine ⟨(List.range len).map B, ?_⟩
    have := GRel.slice (w := W) (M := noM) (.roB ((List.range len).map B)) 1 ((List.range len).map B).length (fun j => .bool (((List.range len).map B).getD j false)) a cap (fun j => .bool (B j)) rfl h1 (fun h => h) h2 (by omega) (fun _ _ => rfl) (fun j hj => by
      rw [← add_eq a j h1]; exact hcell j (by omega)) (fun j hj => by
      have : ((List.range len).map B).getD j false = B j := by
        have hj' : j < len := by omega
        simp [List.getD_eq_getElem?_getD, hj']
      show GRel W noM (.bool (((List.range len).map B).getD j false)) _
      rw [this]; exact .bool _)
    rw [hlen] at this
    exact this
theorem gInt {t : TypeId} {k : IntKind} {fuel : Nat} {v : Value} {x : DataW H × List MemPlace} (ht : P.underlying t = some (.int k)) (h : DataW.trod enc P W 0 (fun _ => true) held fuel t [v] = some x) :
    ∃ n, v = .int k n ∧ k.min ≤ n ∧ n ≤ k.max := by
  obtain ⟨n, h1, _, h2⟩ := DataW.trod_int ht h
  exact ⟨n, by simpa using h1, wf_has h2⟩
/-- a field of one cell -/
theorem gField {t : TypeId} {fs : Array Field} {fuel : Nat} {cs : List Value} {x : DataW H × List MemPlace} (ht : P.underlying t = some (.struct fs)) (h : DataW.trod enc P W 0 (fun _ => true) held fuel t cs = some x)
    (j : Nat) (f : Field) (hj : fs[j]? = some f) (ho : f.offset = j) (hc : P.cellsOf f.type = 1) (hl : j < cs.length) : ∃ n y, DataW.trod enc P W 0 (fun _ => true) held n f.type [cs.getD j default] = some y := by
  obtain ⟨xs, n, _, _, _, hxl, hf⟩ := DataW.trod_struct ht h
  have h1 := hf j f hj
  rw [ho, hc] at h1
  have hone : (cs.drop j).take 1 = [cs.getD j default] := by
    have h2 : cs.getD j default = cs[j] := by simp [List.getD_eq_getElem?_getD, List.getElem?_eq_getElem hl]
    rw [h2, List.drop_eq_getElem_cons hl]
    rfl
  rw [hone] at h1
  have hjl : j < fs.size := (Array.getElem?_eq_some_iff.1 hj).1
  exact ⟨n, _, h1.trans (List.getElem?_eq_getElem (show j < xs.length by omega))⟩
/-- a struct of four numbers, a row of truth values, a row of numbers -/
theorem gSix {t : TypeId} {f0 f1 f2 f3 f4 f5 : Field} {k0 k1 k2 k3 k5 : IntKind} {e4 e5 : TypeId} {v : Value} {d : DataW H} {p : List MemPlace} (hs : P.underlying t = some (.struct #[f0, f1, f2, f3, f4, f5]))
    (ho : f0.offset = 0 ∧ f1.offset = 1 ∧ f2.offset = 2 ∧ f3.offset = 3 ∧ f4.offset = 4 ∧ f5.offset = 5)
    (h0 : P.underlying f0.type = some (.int k0)) (h1 : P.underlying f1.type = some (.int k1)) (h2 : P.underlying f2.type = some (.int k2)) (h3 : P.underlying f3.type = some (.int k3))
    (h4 : P.underlying f4.type = some (.slice e4)) (h5 : P.underlying f5.type = some (.slice e5)) (g4 : P.underlying e4 = some .bool) (g5 : P.underlying e5 = some (.int k5))
    (hc : P.cellsOf f0.type = 1 ∧ P.cellsOf f1.type = 1 ∧ P.cellsOf f2.type = 1 ∧ P.cellsOf f3.type = 1 ∧ P.cellsOf f4.type = 1 ∧ P.cellsOf f5.type = 1) (c4 : P.cellsOf e4 = 1) (c5 : P.cellsOf e5 = 1) (hC : P.cellsOf t = 6)
    (hct : P.cellTypes P.depth t = some [f0.type, f1.type, f2.type, f3.type, f4.type, f5.type]) (hval : Value.okWide P W r b t v) (h : DataW.Trod enc P W 0 (fun _ => true) held t v d p) :
    ∃ (n0 n1 n2 n3 : Int) (B : List Bool) (R : List Int), GRel W noM (.agg [.int k0 n0, .int k1 n1, .int k2 n2, .int k3 n3, .roB B, .roI k5 R]) v ∧ (k0.min ≤ n0 ∧ n0 ≤ k0.max) ∧ (k1.min ≤ n1 ∧ n1 ≤ k1.max) ∧ (k2.min ≤ n2 ∧ n2 ≤ k2.max) ∧ (k3.min ≤ n3 ∧ n3 ≤ k3.max) ∧ ∀ n ∈ R, k5.min ≤ n ∧ n ≤ k5.max := by
  obtain ⟨cs, rfl, hsz⟩ := okWide_struct hs hval
  rw [hC] at hsz
  have hrow : Row.okWide P W r b t cs := by
    simp only [Value.okWide, hs] at hval
    obtain ⟨cs', h1, _, h3⟩ := hval
    cases h1
    exact h3
  obtain ⟨ts, hts, _, hcell⟩ := hrow
  rw [hct] at hts
  cases hts
  obtain ⟨fuel, hf⟩ := h
  have hf : DataW.trod enc P W 0 (fun _ => true) held fuel t cs.toList = some (d, p) := hf
  have hl : cs.toList.length = 6 := by simpa using hsz
  have hg : ∀ j, cs.toList.getD j default = cs.getD j default := fun j => by simp [List.getD_eq_getElem?_getD, Array.getD_eq_getD_getElem?]
  have hsome : ∀ j, j < 6 → cs[j]? = some (cs.getD j default) := fun j hj => by
    have : j < cs.size := by omega
    simp [Array.getD, this]
  obtain ⟨m0, y0, q0⟩ := gField hs hf 0 f0 rfl ho.1 hc.1 (by omega)
  obtain ⟨m1, y1, q1⟩ := gField hs hf 1 f1 rfl ho.2.1 hc.2.1 (by omega)
  obtain ⟨m2, y2, q2⟩ := gField hs hf 2 f2 rfl ho.2.2.1 hc.2.2.1 (by omega)
  obtain ⟨m3, y3, q3⟩ := gField hs hf 3 f3 rfl ho.2.2.2.1 hc.2.2.2.1 (by omega)
  obtain ⟨m4, y4, q4⟩ := gField hs hf 4 f4 rfl ho.2.2.2.2.1 hc.2.2.2.2.1 (by omega)
  obtain ⟨m5, y5, q5⟩ := gField hs hf 5 f5 rfl ho.2.2.2.2.2 hc.2.2.2.2.2 (by omega)
  rw [hg] at q0 q1 q2 q3 q4 q5
  obtain ⟨n0, r0, s0⟩ := gInt h0 q0
  obtain ⟨n1, r1, s1⟩ := gInt h1 q1
  obtain ⟨n2, r2, s2⟩ := gInt h2 q2
  obtain ⟨n3, r3, s3⟩ := gInt h3 q3
  obtain ⟨u4, i4, o4⟩ := hcell 4 _ (hsome 4 (by omega))
  obtain ⟨u5, i5, o5⟩ := hcell 5 _ (hsome 5 (by omega))
  cases i4
  cases i5
  obtain ⟨B, r4⟩ := gBools o4 h4 g4 c4 q4
  obtain ⟨R, r5, s5⟩ := gInts o5 h5 g5 c5 q5
  refine ⟨n0, n1, n2, n3, B, R, .agg _ cs hsz fun j hj => ?_, s0, s1, s2, s3, s5⟩
  match j, hj with
  | 0, _ => rw [r0]; exact .int _ _
  | 1, _ => rw [r1]; exact .int _ _
  | 2, _ => rw [r2]; exact .int _ _
  | 3, _ => rw [r3]; exact .int _ _
  | 4, _ => exact r4
  | 5, _ => exact r5
  | j + 6, hj => simp at hj; omega
/-- what a statement's walk needs, from a contract -/
theorem Ev.calls {f : Nat} {args : List AV} {Vs : Array Value} (h : Ev P f args (.bool true)) (hs : Vs.size = args.length) (hV : ∀ j, j < args.length → GRel W noM (args.getD j .undef) (Vs.getD j default)) :
    Calls P f Vs W fun e W' => e = .returned (.bool true) ∧ Below W.heap.size W W' := by
  obtain ⟨_, ht⟩ := h
  unfold Tr at ht
  have hR : Rep (fun _ => none) ⟨0, []⟩ W noM := ⟨fun _ _ => rfl, fun h c hg => (by cases hg), fun h h' c c' p p' hg => (by cases hg), fun b hb => False.elim hb⟩
  refine Calls.mono (ht.2 (fun _ => none) W noM Vs hR ⟨hs, fun j hj => .g _ _ (hV j hj)⟩) fun e W' he => ?_
  obtain ⟨V, ι', M', v, s', rfl, ⟨rfl, rfl⟩, h1, h2, h3⟩ := he
  obtain rfl := h1.bool_inv
  exact ⟨rfl, h3.os, h3.tape, h3.output, h3.size, fun k hk => h3.block k hk fun ⟨h, c, base, hg, _⟩ => by cases hg⟩
end
end Go.Ab
