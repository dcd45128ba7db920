/- Contracts: where a function's numbers lie; numbers read, set. Contracts: a table's numbers, one, many; are they there? Contracts: what the functions do over the tables. Plain laws: numbers and bits as bytes, and back. Contracts: bytes read as requests: the document's. Plain laws: the two readers of requests agree. Contracts: a request is served: the program's. Statements of layer 3: replies are written as the document says. Statements of layer 3: requests are written as the document says, and read back. Statements of layer 3: bits; unlike requests have unlike bytes. -/
import Derived.Laws.Strings
import Derived.Test.YtomodeliimnddaaHImg
import Derived.Test.YtomodeliimnddaaHEngD
import Derived.Test.YtomodeliimnddaaHPduA
set_option linter.unusedVariables false
set_option linter.unusedSimpArgs false
namespace Go.Proofs.Ytomodeliimnddaa
open Go.Ab
/- rung/addr.Size -/
def a154 : ACode := (.seq (.reg [⟨(some 2), .mov (.c (.int .i64 0)), none, false⟩])
 (.seq (.seq (.reg [⟨(some 3), .mov (.t 0), none, false⟩])
 (.block 0 (.seq (.seq (.reg [⟨(some 5), .bin .eql .other (.t 3) (.c (.int .i64 1)), none, false⟩, ⟨(some 4), .mov (.t 5), none, false⟩])
 (.cond (.t 4) .skip
 (.seq (.reg [⟨(some 6), .bin .eql .other (.t 3) (.c (.int .i64 2)), none, false⟩, ⟨(some 4), .mov (.t 6), none, false⟩])
 (.cond (.t 4) .skip
 (.reg [⟨(some 7), .bin .eql .other (.t 3) (.c (.int .i64 3)), none, false⟩, ⟨(some 4), .mov (.t 7), none, false⟩])))))
 (.cond (.t 4) (.seq (.reg [⟨(some 2), .mov (.c (.int .i64 128)), none, false⟩])
 .ret)
 (.seq (.seq (.reg [⟨(some 9), .bin .eql .other (.t 3) (.c (.int .i64 4)), none, false⟩, ⟨(some 8), .mov (.t 9), none, false⟩])
 (.cond (.t 8) .skip
 (.seq (.reg [⟨(some 10), .bin .eql .other (.t 3) (.c (.int .i64 5)), none, false⟩, ⟨(some 8), .mov (.t 10), none, false⟩])
 (.cond (.t 8) .skip
 (.reg [⟨(some 11), .bin .eql .other (.t 3) (.c (.int .i64 6)), none, false⟩, ⟨(some 8), .mov (.t 11), none, false⟩])))))
 (.cond (.t 8) (.seq (.reg [⟨(some 2), .mov (.c (.int .i64 64)), none, false⟩])
 .ret)
 .skip))))))
 (.seq (.reg [⟨(some 2), .mov (.c (.int .i64 0)), none, false⟩])
 .ret)))
def r154 : List ARes := [.t 2]
theorem c154 : compF Try.prog Try.f154 = some (a154, r154) := by kernel_rfl

theorem b154 : hasBody Try.prog 154 = true := by kernel_rfl
theorem g154 : Try.prog.funcs[154]? = some Try.f154 := by kernel_rfl
/- rung/addr.table -/
def a178 : ACode := (.seq (.reg [⟨(some 6), .mov (.c (.int .i64 0)), none, false⟩, ⟨(some 7), .mov (.c (.int .i64 0)), none, false⟩])
 (.seq (.block 0 (.seq (.reg [⟨(some 9), .mov (.t 2), none, false⟩, ⟨(some 10), .bin .lss .other (.t 9) (.c (.int .i64 0)), none, false⟩, ⟨(some 8), .mov (.t 10), none, false⟩])
 (.cond (.t 8) (.seq (.reg [⟨(some 6), .mov (.c (.int .i64 0)), none, false⟩, ⟨(some 7), .mov (.c (.int .i64 0)), none, false⟩])
 .ret)
 (.seq (.reg [⟨(some 12), .mov (.t 2), none, false⟩, ⟨(some 13), .mov (.t 0), none, false⟩, ⟨(some 14), .call 154 [(.t 13)], none, false⟩, ⟨(some 15), .bin .lss .other (.t 12) (.t 14), none, false⟩, ⟨(some 11), .mov (.t 15), none, false⟩])
 (.cond (.t 11) (.seq (.reg [⟨(some 16), .mov (.t 0), none, false⟩, ⟨(some 17), .mov (.t 2), none, false⟩, ⟨(some 6), .mov (.t 16), none, false⟩, ⟨(some 7), .mov (.t 17), none, false⟩])
 .ret)
 (.seq (.reg [⟨(some 19), .mov (.t 2), none, false⟩, ⟨(some 20), .mov (.t 0), none, false⟩, ⟨(some 21), .call 154 [(.t 20)], none, false⟩, ⟨(some 22), .bin .sub .other (.t 19) (.t 21), none, false⟩, ⟨(some 23), .mov (.t 1), none, false⟩, ⟨(some 24), .call 154 [(.t 23)], none, false⟩, ⟨(some 25), .bin .lss .other (.t 22) (.t 24), none, false⟩, ⟨(some 18), .mov (.t 25), none, false⟩])
 (.cond (.t 18) (.seq (.reg [⟨(some 26), .mov (.t 1), none, false⟩, ⟨(some 27), .mov (.t 2), none, false⟩, ⟨(some 28), .mov (.t 0), none, false⟩, ⟨(some 29), .call 154 [(.t 28)], none, false⟩, ⟨(some 30), .bin .sub .other (.t 27) (.t 29), none, false⟩, ⟨(some 6), .mov (.t 26), none, false⟩, ⟨(some 7), .mov (.t 30), none, false⟩])
 .ret)
 .skip)))))))
 (.seq (.reg [⟨(some 6), .mov (.c (.int .i64 0)), none, false⟩, ⟨(some 7), .mov (.c (.int .i64 0)), none, false⟩])
 .ret)))
def r178 : List ARes := [.t 6, .t 7]
theorem c178 : compF Try.prog Try.f178 = some (a178, r178) := by kernel_rfl

theorem b178 : hasBody Try.prog 178 = true := by kernel_rfl
theorem g178 : Try.prog.funcs[178]? = some Try.f178 := by kernel_rfl
/- rung/addr.Place -/
def a176 : ACode := (.seq (.reg [⟨(some 4), .mov (.c (.int .i64 0)), none, false⟩, ⟨(some 5), .mov (.c (.int .i64 0)), none, false⟩])
 (.seq (.seq (.reg [⟨(some 6), .mov (.t 0), none, false⟩])
 (.block 0 (.seq (.seq (.reg [⟨(some 8), .bin .eql .other (.t 6) (.c (.int .u8 1)), none, false⟩, ⟨(some 7), .mov (.t 8), none, false⟩])
 (.cond (.t 7) .skip
 (.seq (.reg [⟨(some 9), .bin .eql .other (.t 6) (.c (.int .u8 5)), none, false⟩, ⟨(some 7), .mov (.t 9), none, false⟩])
 (.cond (.t 7) .skip
 (.reg [⟨(some 10), .bin .eql .other (.t 6) (.c (.int .u8 15)), none, false⟩, ⟨(some 7), .mov (.t 10), none, false⟩])))))
 (.cond (.t 7) (.seq (.reg [⟨(some 11), .mov (.t 1), none, false⟩, ⟨(some 12), .call 178 [(.c (.int .i64 2)), (.c (.int .i64 3)), (.t 11)], none, false⟩, ⟨(some 13), .ext (.t 12) 0, none, false⟩, ⟨(some 14), .ext (.t 12) 1, none, false⟩, ⟨(some 4), .mov (.t 13), none, false⟩, ⟨(some 5), .mov (.t 14), none, false⟩])
 .ret)
 (.seq (.reg [⟨(some 16), .bin .eql .other (.t 6) (.c (.int .u8 2)), none, false⟩, ⟨(some 15), .mov (.t 16), none, false⟩])
 (.cond (.t 15) (.seq (.reg [⟨(some 17), .mov (.t 1), none, false⟩, ⟨(some 18), .call 178 [(.c (.int .i64 1)), (.c (.int .i64 0)), (.t 17)], none, false⟩, ⟨(some 19), .ext (.t 18) 0, none, false⟩, ⟨(some 20), .ext (.t 18) 1, none, false⟩, ⟨(some 4), .mov (.t 19), none, false⟩, ⟨(some 5), .mov (.t 20), none, false⟩])
 .ret)
 (.seq (.seq (.reg [⟨(some 22), .bin .eql .other (.t 6) (.c (.int .u8 3)), none, false⟩, ⟨(some 21), .mov (.t 22), none, false⟩])
 (.cond (.t 21) .skip
 (.seq (.reg [⟨(some 23), .bin .eql .other (.t 6) (.c (.int .u8 6)), none, false⟩, ⟨(some 21), .mov (.t 23), none, false⟩])
 (.cond (.t 21) .skip
 (.seq (.reg [⟨(some 24), .bin .eql .other (.t 6) (.c (.int .u8 16)), none, false⟩, ⟨(some 21), .mov (.t 24), none, false⟩])
 (.cond (.t 21) .skip
 (.seq (.reg [⟨(some 25), .bin .eql .other (.t 6) (.c (.int .u8 22)), none, false⟩, ⟨(some 21), .mov (.t 25), none, false⟩])
 (.cond (.t 21) .skip
 (.reg [⟨(some 26), .bin .eql .other (.t 6) (.c (.int .u8 23)), none, false⟩, ⟨(some 21), .mov (.t 26), none, false⟩])))))))))
 (.cond (.t 21) (.seq (.reg [⟨(some 27), .mov (.t 1), none, false⟩, ⟨(some 28), .call 178 [(.c (.int .i64 5)), (.c (.int .i64 6)), (.t 27)], none, false⟩, ⟨(some 29), .ext (.t 28) 0, none, false⟩, ⟨(some 30), .ext (.t 28) 1, none, false⟩, ⟨(some 4), .mov (.t 29), none, false⟩, ⟨(some 5), .mov (.t 30), none, false⟩])
 .ret)
 (.seq (.reg [⟨(some 32), .bin .eql .other (.t 6) (.c (.int .u8 4)), none, false⟩, ⟨(some 31), .mov (.t 32), none, false⟩])
 (.cond (.t 31) (.seq (.reg [⟨(some 33), .mov (.t 1), none, false⟩, ⟨(some 34), .call 178 [(.c (.int .i64 4)), (.c (.int .i64 0)), (.t 33)], none, false⟩, ⟨(some 35), .ext (.t 34) 0, none, false⟩, ⟨(some 36), .ext (.t 34) 1, none, false⟩, ⟨(some 4), .mov (.t 35), none, false⟩, ⟨(some 5), .mov (.t 36), none, false⟩])
 .ret)
 .skip))))))))))
 (.seq (.reg [⟨(some 4), .mov (.c (.int .i64 0)), none, false⟩, ⟨(some 5), .mov (.c (.int .i64 0)), none, false⟩])
 .ret)))
def r176 : List ARes := [.t 4, .t 5]
theorem c176 : compF Try.prog Try.f176 = some (a176, r176) := by kernel_rfl

theorem b176 : hasBody Try.prog 176 = true := by kernel_rfl
theorem g176 : Try.prog.funcs[176]? = some Try.f176 := by kernel_rfl
/- rung/rungref10.Place -/
def a156 : ACode := (.seq (.reg [⟨(some 4), .mov (.c (.int .i64 0)), none, false⟩, ⟨(some 5), .mov (.c (.int .i64 0)), none, false⟩])
 (.seq (.reg [⟨(some 6), .mov (.c (.int .i64 0)), none, false⟩])
 (.seq (.seq (.reg [⟨(some 7), .mov (.t 0), none, false⟩])
 (.block 0 (.seq (.seq (.reg [⟨(some 9), .bin .eql .other (.t 7) (.c (.int .u8 1)), none, false⟩, ⟨(some 8), .mov (.t 9), none, false⟩])
 (.cond (.t 8) .skip
 (.seq (.reg [⟨(some 10), .bin .eql .other (.t 7) (.c (.int .u8 5)), none, false⟩, ⟨(some 8), .mov (.t 10), none, false⟩])
 (.cond (.t 8) .skip
 (.reg [⟨(some 11), .bin .eql .other (.t 7) (.c (.int .u8 15)), none, false⟩, ⟨(some 8), .mov (.t 11), none, false⟩])))))
 (.cond (.t 8) (.seq (.reg [⟨(some 6), .mov (.c (.int .i64 2)), none, false⟩])
 (.seq (.reg [⟨(some 12), .mov (.t 1), none, false⟩, ⟨(some 13), .bin .geq .other (.t 12) (.c (.int .i64 128)), none, false⟩])
 (.cond (.t 13) (.reg [⟨(some 14), .mov (.t 1), none, false⟩, ⟨(some 15), .bin .sub .other (.t 14) (.c (.int .i64 128)), none, false⟩, ⟨(some 6), .mov (.c (.int .i64 3)), none, false⟩, ⟨(some 1), .mov (.t 15), none, false⟩])
 .skip)))
 (.seq (.reg [⟨(some 17), .bin .eql .other (.t 7) (.c (.int .u8 2)), none, false⟩, ⟨(some 16), .mov (.t 17), none, false⟩])
 (.cond (.t 16) (.reg [⟨(some 6), .mov (.c (.int .i64 1)), none, false⟩])
 (.seq (.seq (.reg [⟨(some 19), .bin .eql .other (.t 7) (.c (.int .u8 3)), none, false⟩, ⟨(some 18), .mov (.t 19), none, false⟩])
 (.cond (.t 18) .skip
 (.seq (.reg [⟨(some 20), .bin .eql .other (.t 7) (.c (.int .u8 6)), none, false⟩, ⟨(some 18), .mov (.t 20), none, false⟩])
 (.cond (.t 18) .skip
 (.seq (.reg [⟨(some 21), .bin .eql .other (.t 7) (.c (.int .u8 16)), none, false⟩, ⟨(some 18), .mov (.t 21), none, false⟩])
 (.cond (.t 18) .skip
 (.seq (.reg [⟨(some 22), .bin .eql .other (.t 7) (.c (.int .u8 22)), none, false⟩, ⟨(some 18), .mov (.t 22), none, false⟩])
 (.cond (.t 18) .skip
 (.reg [⟨(some 23), .bin .eql .other (.t 7) (.c (.int .u8 23)), none, false⟩, ⟨(some 18), .mov (.t 23), none, false⟩])))))))))
 (.cond (.t 18) (.seq (.reg [⟨(some 6), .mov (.c (.int .i64 5)), none, false⟩])
 (.seq (.reg [⟨(some 24), .mov (.t 1), none, false⟩, ⟨(some 25), .bin .geq .other (.t 24) (.c (.int .i64 64)), none, false⟩])
 (.cond (.t 25) (.reg [⟨(some 26), .mov (.t 1), none, false⟩, ⟨(some 27), .bin .sub .other (.t 26) (.c (.int .i64 64)), none, false⟩, ⟨(some 6), .mov (.c (.int .i64 6)), none, false⟩, ⟨(some 1), .mov (.t 27), none, false⟩])
 .skip)))
 (.seq (.reg [⟨(some 29), .bin .eql .other (.t 7) (.c (.int .u8 4)), none, false⟩, ⟨(some 28), .mov (.t 29), none, false⟩])
 (.cond (.t 28) (.reg [⟨(some 6), .mov (.c (.int .i64 4)), none, false⟩])
 .skip))))))))))
 (.seq (.seq (.reg [⟨(some 30), .mov (.t 1), none, false⟩, ⟨(some 31), .bin .lss .other (.t 30) (.c (.int .i64 0)), none, false⟩, ⟨(some 32), .mov (.t 31), none, true⟩, ⟨(some 33), .mov (.t 1), (some (32, false)), false⟩, ⟨(some 34), .mov (.t 6), (some (32, false)), false⟩, ⟨(some 35), .call 103 [(.t 34)], (some (32, false)), false⟩, ⟨(some 36), .bin .geq .other (.t 33) (.t 35), (some (32, false)), false⟩, ⟨(some 37), .pick (.t 32) (.c (.bool true)) (.t 36), none, false⟩])
 (.cond (.t 37) (.seq (.reg [⟨(some 4), .mov (.c (.int .i64 0)), none, false⟩, ⟨(some 5), .mov (.c (.int .i64 0)), none, false⟩])
 .ret)
 .skip))
 (.seq (.reg [⟨(some 38), .mov (.t 6), none, false⟩, ⟨(some 39), .mov (.t 1), none, false⟩, ⟨(some 4), .mov (.t 38), none, false⟩, ⟨(some 5), .mov (.t 39), none, false⟩])
 .ret)))))
def r156 : List ARes := [.t 4, .t 5]
theorem c156 : compF Try.prog Try.f156 = some (a156, r156) := by kernel_rfl

theorem b156 : hasBody Try.prog 156 = true := by kernel_rfl
theorem g156 : Try.prog.funcs[156]? = some Try.f156 := by kernel_rfl
/- rung/rungref25.size -/
def a138 : ACode := (.seq (.reg [⟨(some 2), .mov (.c (.int .i64 0)), none, false⟩])
 (.seq (.seq (.reg [⟨(some 3), .mov (.t 0), none, false⟩])
 (.block 0 (.seq (.seq (.reg [⟨(some 5), .bin .eql .other (.t 3) (.c (.int .u8 1)), none, false⟩, ⟨(some 4), .mov (.t 5), none, false⟩])
 (.cond (.t 4) .skip
 (.seq (.reg [⟨(some 6), .bin .eql .other (.t 3) (.c (.int .u8 5)), none, false⟩, ⟨(some 4), .mov (.t 6), none, false⟩])
 (.cond (.t 4) .skip
 (.reg [⟨(some 7), .bin .eql .other (.t 3) (.c (.int .u8 15)), none, false⟩, ⟨(some 4), .mov (.t 7), none, false⟩])))))
 (.cond (.t 4) (.seq (.reg [⟨(some 2), .mov (.c (.int .i64 256)), none, false⟩])
 .ret)
 (.seq (.reg [⟨(some 9), .bin .eql .other (.t 3) (.c (.int .u8 2)), none, false⟩, ⟨(some 8), .mov (.t 9), none, false⟩])
 (.cond (.t 8) (.seq (.reg [⟨(some 2), .mov (.c (.int .i64 128)), none, false⟩])
 .ret)
 (.seq (.reg [⟨(some 11), .bin .eql .other (.t 3) (.c (.int .u8 4)), none, false⟩, ⟨(some 10), .mov (.t 11), none, false⟩])
 (.cond (.t 10) (.seq (.reg [⟨(some 2), .mov (.c (.int .i64 64)), none, false⟩])
 .ret)
 .skip))))))))
 (.seq (.reg [⟨(some 2), .mov (.c (.int .i64 128)), none, false⟩])
 .ret)))
def r138 : List ARes := [.t 2]
theorem c138 : compF Try.prog Try.f138 = some (a138, r138) := by kernel_rfl

theorem b138 : hasBody Try.prog 138 = true := by kernel_rfl
theorem g138 : Try.prog.funcs[138]? = some Try.f138 := by kernel_rfl
/- (rung/slave.table).get -/
def a173 : ACode := (.seq (.reg [⟨(some 3), .box (.t 0), none, false⟩, ⟨(some 6), .mov (.c (.int .u16 0)), none, false⟩])
 (.seq (.reg [⟨(some 12), .fld 1 1 false (.t 3), none, false⟩, ⟨(some 13), .load false 1 (.t 12), none, false⟩, ⟨(some 14), .mov (.t 1), none, false⟩, ⟨(some 15), .conv (.int .i64) (.t 14), none, false⟩, ⟨(some 16), .mov (.t 2), none, false⟩, ⟨(some 17), .bin .add .other (.t 15) (.t 16), none, false⟩, ⟨(some 18), .call 176 [(.t 13), (.t 17)], none, false⟩, ⟨(some 11), .mov (.t 18), none, false⟩, ⟨(some 19), .ext (.t 11) 0, none, false⟩, ⟨(some 20), .ext (.t 11) 1, none, false⟩, ⟨(some 7), .mov (.t 19), none, false⟩, ⟨(some 8), .mov (.t 20), none, false⟩])
 (.seq (.reg [⟨(some 22), .fld 0 1 false (.t 3), none, false⟩, ⟨(some 23), .load false 1 (.t 22), none, false⟩, ⟨(some 24), .mov (.t 7), none, false⟩, ⟨(some 25), .mov (.t 8), none, false⟩, ⟨(some 26), .call 44 [(.t 23), (.t 24), (.t 25)], none, false⟩, ⟨(some 21), .mov (.t 26), none, false⟩, ⟨(some 27), .ext (.t 21) 0, none, false⟩, ⟨(some 28), .ext (.t 21) 1, none, false⟩, ⟨(some 9), .mov (.t 27), none, false⟩, ⟨(some 10), .mov (.t 28), none, false⟩])
 (.seq (.reg [⟨(some 29), .mov (.t 9), none, false⟩, ⟨(some 6), .mov (.t 29), none, false⟩])
 .ret))))
def r173 : List ARes := [.t 6]
theorem c173 : compF Try.prog Try.f173 = some (a173, r173) := by kernel_rfl

theorem b173 : hasBody Try.prog 173 = true := by kernel_rfl
theorem g173 : Try.prog.funcs[173]? = some Try.f173 := by kernel_rfl
/- (rung/slave.table).put -/
def a184 : ACode := (.seq (.reg [⟨(some 4), .box (.t 0), none, false⟩])
 (.seq (.reg [⟨(some 11), .fld 1 1 false (.t 4), none, false⟩, ⟨(some 12), .load false 1 (.t 11), none, false⟩, ⟨(some 13), .mov (.t 1), none, false⟩, ⟨(some 14), .conv (.int .i64) (.t 13), none, false⟩, ⟨(some 15), .mov (.t 2), none, false⟩, ⟨(some 16), .bin .add .other (.t 14) (.t 15), none, false⟩, ⟨(some 17), .call 176 [(.t 12), (.t 16)], none, false⟩, ⟨(some 10), .mov (.t 17), none, false⟩, ⟨(some 18), .ext (.t 10) 0, none, false⟩, ⟨(some 19), .ext (.t 10) 1, none, false⟩, ⟨(some 8), .mov (.t 18), none, false⟩, ⟨(some 9), .mov (.t 19), none, false⟩])
 (.reg [⟨(some 20), .fld 0 1 false (.t 4), none, false⟩, ⟨(some 21), .load false 1 (.t 20), none, false⟩, ⟨(some 22), .mov (.t 8), none, false⟩, ⟨(some 23), .mov (.t 9), none, false⟩, ⟨(some 24), .mov (.t 3), none, false⟩, ⟨(some 25), .call 29 [(.t 21), (.t 22), (.t 23), (.t 24)], none, false⟩])))
def r184 : List ARes := []
theorem c184 : compF Try.prog Try.f184 = some (a184, r184) := by kernel_rfl

theorem b184 : hasBody Try.prog 184 = true := by kernel_rfl
theorem g184 : Try.prog.funcs[184]? = some Try.f184 := by kernel_rfl
/- (rung/slave.table).has -/
def a177 : ACode := (.seq (.reg [⟨(some 3), .box (.t 0), none, false⟩, ⟨(some 6), .mov (.c (.bool false)), none, false⟩])
 (.seq (.reg [⟨(some 12), .fld 1 1 false (.t 3), none, false⟩, ⟨(some 13), .load false 1 (.t 12), none, false⟩, ⟨(some 14), .mov (.t 1), none, false⟩, ⟨(some 15), .conv (.int .i64) (.t 14), none, false⟩, ⟨(some 16), .call 176 [(.t 13), (.t 15)], none, false⟩, ⟨(some 11), .mov (.t 16), none, false⟩, ⟨(some 17), .ext (.t 11) 0, none, false⟩, ⟨(some 18), .ext (.t 11) 1, none, false⟩, ⟨(some 7), .mov (.t 17), none, false⟩, ⟨(some 8), .mov (.t 18), none, false⟩])
 (.seq (.reg [⟨(some 20), .fld 1 1 false (.t 3), none, false⟩, ⟨(some 21), .load false 1 (.t 20), none, false⟩, ⟨(some 22), .mov (.t 1), none, false⟩, ⟨(some 23), .conv (.int .i64) (.t 22), none, false⟩, ⟨(some 24), .mov (.t 2), none, false⟩, ⟨(some 25), .bin .add .other (.t 23) (.t 24), none, false⟩, ⟨(some 26), .bin .sub .other (.t 25) (.c (.int .i64 1)), none, false⟩, ⟨(some 27), .call 176 [(.t 21), (.t 26)], none, false⟩, ⟨(some 19), .mov (.t 27), none, false⟩, ⟨(some 28), .ext (.t 19) 0, none, false⟩, ⟨(some 29), .ext (.t 19) 1, none, false⟩, ⟨(some 9), .mov (.t 28), none, false⟩, ⟨(some 10), .mov (.t 29), none, false⟩])
 (.seq (.reg [⟨(some 30), .mov (.t 7), none, false⟩, ⟨(some 31), .bin .neq .other (.t 30) (.c (.int .i64 0)), none, false⟩, ⟨(some 32), .mov (.t 31), none, true⟩, ⟨(some 33), .mov (.t 9), (some (32, true)), false⟩, ⟨(some 34), .bin .neq .other (.t 33) (.c (.int .i64 0)), (some (32, true)), false⟩, ⟨(some 35), .pick (.t 32) (.t 34) (.c (.bool false)), none, false⟩, ⟨(some 6), .mov (.t 35), none, false⟩])
 .ret))))
def r177 : List ARes := [.t 6]
theorem c177 : compF Try.prog Try.f177 = some (a177, r177) := by kernel_rfl

theorem b177 : hasBody Try.prog 177 = true := by kernel_rfl
theorem g177 : Try.prog.funcs[177]? = some Try.f177 := by kernel_rfl
/- rung/rungref25.get -/
def a139 : ACode := (.seq (.reg [⟨(some 6), .mov (.c (.int .u16 0)), none, false⟩])
 (.seq (.reg [⟨(some 12), .mov (.t 1), none, false⟩, ⟨(some 13), .mov (.t 2), none, false⟩, ⟨(some 14), .call 156 [(.t 12), (.t 13)], none, false⟩, ⟨(some 11), .mov (.t 14), none, false⟩, ⟨(some 15), .ext (.t 11) 0, none, false⟩, ⟨(some 16), .ext (.t 11) 1, none, false⟩, ⟨(some 7), .mov (.t 15), none, false⟩, ⟨(some 8), .mov (.t 16), none, false⟩])
 (.seq (.reg [⟨(some 18), .mov (.t 0), none, false⟩, ⟨(some 19), .mov (.t 7), none, false⟩, ⟨(some 20), .mov (.t 8), none, false⟩, ⟨(some 21), .call 45 [(.t 18), (.t 19), (.t 20)], none, false⟩, ⟨(some 17), .mov (.t 21), none, false⟩, ⟨(some 22), .ext (.t 17) 0, none, false⟩, ⟨(some 23), .ext (.t 17) 1, none, false⟩, ⟨(some 9), .mov (.t 22), none, false⟩, ⟨(some 10), .mov (.t 23), none, false⟩])
 (.seq (.reg [⟨(some 24), .mov (.t 9), none, false⟩, ⟨(some 6), .mov (.t 24), none, false⟩])
 .ret))))
def r139 : List ARes := [.t 6]
theorem c139 : compF Try.prog Try.f139 = some (a139, r139) := by kernel_rfl

theorem b139 : hasBody Try.prog 139 = true := by kernel_rfl
theorem g139 : Try.prog.funcs[139]? = some Try.f139 := by kernel_rfl
/- rung/rungref25.put -/
def a140 : ACode := (.seq (.reg [⟨(some 11), .mov (.t 1), none, false⟩, ⟨(some 12), .mov (.t 2), none, false⟩, ⟨(some 13), .call 156 [(.t 11), (.t 12)], none, false⟩, ⟨(some 10), .mov (.t 13), none, false⟩, ⟨(some 14), .ext (.t 10) 0, none, false⟩, ⟨(some 15), .ext (.t 10) 1, none, false⟩, ⟨(some 8), .mov (.t 14), none, false⟩, ⟨(some 9), .mov (.t 15), none, false⟩])
 (.reg [⟨(some 16), .mov (.t 0), none, false⟩, ⟨(some 17), .mov (.t 8), none, false⟩, ⟨(some 18), .mov (.t 9), none, false⟩, ⟨(some 19), .mov (.t 3), none, false⟩, ⟨(some 20), .call 30 [(.t 16), (.t 17), (.t 18), (.t 19)], none, false⟩]))
def r140 : List ARes := []
theorem c140 : compF Try.prog Try.f140 = some (a140, r140) := by kernel_rfl

theorem b140 : hasBody Try.prog 140 = true := by kernel_rfl
theorem g140 : Try.prog.funcs[140]? = some Try.f140 := by kernel_rfl

def tblP (a b n : Int) : Int × Int := if n < 0 then (0, 0) else if n < szA a then (a, n) else if n - szA a < szA b then (b, n - szA a) else (0, 0)
/-- a function's number: its area, its place -/
def plc (f n : Int) : Int × Int :=
  if f = 1 ∨ f = 5 ∨ f = 15 then tblP 2 3 n else if f = 2 then tblP 1 0 n else if f = 3 ∨ f = 6 ∨ f = 16 ∨ f = 22 ∨ f = 23 then tblP 5 6 n else if f = 4 then tblP 4 0 n else (0, 0)
def szF (f : Int) : Int := if f = 1 ∨ f = 5 ∨ f = 15 then 256 else if f = 2 then 128 else if f = 4 then 64 else 128
def tg (o : Nat → Nat → Int) (f n : Int) : Int := getV o (plc f n).1 (plc f n).2
def tp (I : Img) (f n v : Int) : Img := I.put (plc f n).1 (plc f n).2 v
def hasB (f at_ n : Int) : Bool := (plc f at_).1 != 0 && (plc f (at_ + n - 1)).1 != 0
theorem w64i {n : Int} (h0 : -1000000 ≤ n) (h1 : n ≤ 1000000) : IntKind.i64.wrap n = n := IntWalk.i64_in n (by omega)
theorem asize_ev (a : Int) : Ev Try.prog 154 [.int .i64 a] (.int .i64 (szA a)) := by
  refine ⟨rfl, trF g154 b154 c154 ?_⟩
  conv => whnf
  repeat' (first
    | (refine condY (by assumption) ?_; conv => whnf)
    | (refine condN (by assumption) ?_; conv => whnf)
    | (refine condF (fun h => ?_) (fun h => ?_) <;> conv => whnf))
  all_goals exact ⟨by unfold szA; simp_all, rfl⟩
theorem table_ev (a b n : Int) (h0 : -200000 ≤ n) (h1 : n ≤ 200000) : Ev Try.prog 178 [.int .i64 a, .int .i64 b, .int .i64 n] (.tup [.int .i64 (tblP a b n).1, .int .i64 (tblP a b n).2]) := by
  have hw : IntKind.i64.wrap (n - szA a) = n - szA a := by
    have := szA_range a
    exact w64i (by omega) (by omega)
  refine ⟨rfl, trF g178 b178 c178 ?_⟩
  conv => whnf
  repeat' (first
    | (refine condF (fun h => ?_) (fun h => ?_) <;> conv => whnf)
    | (refine Ev.call (asize_ev _) ?_; conv => whnf))
  all_goals
    refine ⟨?_, rfl⟩
    simp only [hw, decide_eq_true_eq, decide_eq_false_iff_not] at *
    have key : ∀ x y : Int, tblP a b n = (x, y) → AV.tup [.int .i64 x, .int .i64 y] = AV.tup [.int .i64 (tblP a b n).1, .int .i64 (tblP a b n).2] := fun x y h => by rw [h]
    apply key
    unfold tblP
    repeat' split
    all_goals first | rfl | omega
theorem aplace_ev (f n : Int) (h0 : -200000 ≤ n) (h1 : n ≤ 200000) : Ev Try.prog 176 [.int .u8 f, .int .i64 n] (.tup [.int .i64 (plc f n).1, .int .i64 (plc f n).2]) := by
  refine ⟨rfl, trF g176 b176 c176 ?_⟩
  conv => whnf
  repeat' (first
    | (refine condY (by assumption) ?_; conv => whnf)
    | (refine condN (by assumption) ?_; conv => whnf)
    | (refine condF (fun h => ?_) (fun h => ?_) <;> conv => whnf)
    | (refine Ev.call (table_ev _ _ n h0 h1) ?_; conv => whnf))
  all_goals
    refine ⟨?_, rfl⟩
    simp_all [plc]
theorem rsizeF_ev (f : Int) : Ev Try.prog 138 [.int .u8 f] (.int .i64 (szF f)) := by
  refine ⟨rfl, trF g138 b138 c138 ?_⟩
  conv => whnf
  repeat' (first
    | (refine condY (by assumption) ?_; conv => whnf)
    | (refine condN (by assumption) ?_; conv => whnf)
    | (refine condF (fun h => ?_) (fun h => ?_) <;> conv => whnf))
  all_goals
    refine ⟨?_, rfl⟩
    simp_all [szF]
set_option maxHeartbeats 2000000 in
theorem rplace_ev (f n : Int) (h0 : -200000 ≤ n) (h1 : n ≤ 200000) : Ev Try.prog 156 [.int .u8 f, .int .i64 n] (.tup [.int .i64 (plc f n).1, .int .i64 (plc f n).2]) := by
  have hw1 : IntKind.i64.wrap (n - 128) = n - 128 := w64i (by omega) (by omega)
  have hw2 : IntKind.i64.wrap (n - 64) = n - 64 := w64i (by omega) (by omega)
  by_cases hf : f = 1 ∨ f = 5 ∨ f = 15 ∨ f = 2 ∨ f = 3 ∨ f = 6 ∨ f = 16 ∨ f = 22 ∨ f = 23 ∨ f = 4
  · have key : ∀ x y : Int, plc f n = (x, y) → AV.tup [.int .i64 x, .int .i64 y] = AV.tup [.int .i64 (plc f n).1, .int .i64 (plc f n).2] := fun x y h => by rw [h]
    have e : plc f n = if f = 1 ∨ f = 5 ∨ f = 15 then (if n < 0 then (0, 0) else if n < 128 then (2, n) else if n - 128 < 128 then (3, n - 128) else (0, 0)) else if f = 2 then (if n < 0 then (0, 0) else if n < 128 then (1, n) else (0, 0)) else if f = 4 then (if n < 0 then (0, 0) else if n < 64 then (4, n) else (0, 0)) else (if n < 0 then (0, 0) else if n < 64 then (5, n) else if n - 64 < 64 then (6, n - 64) else (0, 0)) := by
      have s0 : szA 0 = 0 := rfl
      have q2 : ∀ m : Int, tblP 1 0 m = if m < 0 then (0, 0) else if m < 128 then (1, m) else (0, 0) := fun m => by
        show (if m < 0 then ((0 : Int), (0 : Int)) else if m < 128 then (1, m) else if m - 128 < 0 then (0, m - 128) else (0, 0)) = _
        by_cases a : m < 0
        · rw [if_pos a, if_pos a]
        · rw [if_neg a, if_neg a]
          by_cases b : m < 128
          · rw [if_pos b, if_pos b]
          · rw [if_neg b, if_neg b, if_neg (by omega)]
      have q4 : ∀ m : Int, tblP 4 0 m = if m < 0 then (0, 0) else if m < 64 then (4, m) else (0, 0) := fun m => by
        show (if m < 0 then ((0 : Int), (0 : Int)) else if m < 64 then (4, m) else if m - 64 < 0 then (0, m - 64) else (0, 0)) = _
        by_cases a : m < 0
        · rw [if_pos a, if_pos a]
        · rw [if_neg a, if_neg a]
          by_cases b : m < 64
          · rw [if_pos b, if_pos b]
          · rw [if_neg b, if_neg b, if_neg (by omega)]
      rcases hf with rfl | rfl | rfl | rfl | rfl | rfl | rfl | rfl | rfl | rfl <;> first | rfl | exact q2 n | exact q4 n
    generalize plc f n = q at *
    refine ⟨rfl, ?_⟩
    rcases hf with rfl | rfl | rfl | rfl | rfl | rfl | rfl | rfl | rfl | rfl
    all_goals
      refine trF g156 b156 c156 ?_
      conv => whnf
      repeat' (first
        | (refine condF (fun h => ?_) (fun h => ?_) <;> conv => whnf)
        | (refine Ev.call (rsize_ev _) ?_; conv => whnf))
    all_goals
      refine ⟨?_, rfl⟩
      apply key
      simp only [hw1, hw2, decide_eq_true_eq, decide_eq_false_iff_not, show szA 1 = 128 from rfl, show szA 2 = 128 from rfl, show szA 3 = 128 from rfl, show szA 4 = 64 from rfl, show szA 5 = 64 from rfl, show szA 6 = 64 from rfl] at *
      rw [e]
      repeat' split
      all_goals first | rfl | (exfalso; omega) | contradiction | (exfalso; rename_i hh _ _; exact hh (by simp)) | (exfalso; rename_i hh _ _ _; exact hh (by simp)) | (exfalso; rename_i hh _ _ _ _; exact hh (by simp)) | (exfalso; rename_i hh _ _ _ _ _; exact hh (by simp)) | (exfalso; rename_i hh _ _ _ _ _ _; exact hh (by simp))
  · have e : plc f n = (0, 0) := by
      unfold plc
      rw [if_neg (by omega), if_neg (by omega), if_neg (by omega), if_neg (by omega)]
    rw [e]
    refine ⟨rfl, trF g156 b156 c156 ?_⟩
    conv => whnf
    repeat' (first
      | (refine condN (by simp; omega) ?_; conv => whnf)
      | (refine Ev.call (rsize_ev _) ?_; conv => whnf))
    refine condF (fun h => ?_) (fun h => ?_) <;> conv => whnf
    · refine Ev.call (rsize_ev _) ?_
      conv => whnf
      refine condY (by simp at h; show decide (n ≥ 0) = true; simpa using h) ?_
      conv => whnf
      exact ⟨rfl, rfl⟩
    · exact ⟨rfl, rfl⟩
end Go.Proofs.Ytomodeliimnddaa
set_option linter.unusedVariables false
set_option linter.unusedSimpArgs false
namespace Go.Proofs.Ytomodeliimnddaa
open Go.Ab
/- (rung/slave.table).regs -/
def a181 : ACode := (.seq (.reg [⟨(some 3), .box (.t 0), none, false⟩, ⟨(some 6), .mov (.c .nils), none, false⟩])
 (.seq (.reg [⟨(some 7), .mov (.c .nils), none, false⟩])
 (.seq (.seq (.reg [⟨(some 9), .mov (.t 2), none, false⟩, ⟨(some 10), .mov (.c (.int .i64 0)), none, false⟩])
 (.block 0 (.loop (.seq (.reg [⟨(some 11), .bin .lss .other (.t 10) (.t 9), none, false⟩])
 (.seq (.cond (.t 11) .skip
 (.exit 0))
 (.seq (.block 1 (.seq (.reg [⟨(some 12), .mov (.t 10), none, false⟩, ⟨(some 8), .mov (.t 12), none, false⟩])
 (.reg [⟨(some 13), .mov (.t 7), none, false⟩, ⟨(some 14), .load true 2 (.t 3), none, false⟩, ⟨(some 15), .mov (.t 1), none, false⟩, ⟨(some 16), .mov (.t 8), none, false⟩, ⟨(some 17), .call 173 [(.t 14), (.t 15), (.t 16)], none, false⟩, ⟨(some 18), .bslice 1 (.int .u16) [(.int .u16 0)] [(0, 1, (.t 17))] 1, none, false⟩, ⟨(some 19), .app 1 2 (.t 13) (.t 18), none, false⟩, ⟨(some 7), .mov (.t 19), none, false⟩])))
 (.reg [⟨(some 20), .bin .add .other (.t 10) (.c (.int .i64 1)), none, false⟩, ⟨(some 10), .mov (.t 20), none, false⟩])))))))
 (.seq (.reg [⟨(some 21), .mov (.t 7), none, false⟩, ⟨(some 6), .mov (.t 21), none, false⟩])
 .ret))))
def r181 : List ARes := [.t 6]
theorem c181 : compF Try.prog Try.f181 = some (a181, r181) := by kernel_rfl

theorem b181 : hasBody Try.prog 181 = true := by kernel_rfl
theorem g181 : Try.prog.funcs[181]? = some Try.f181 := by kernel_rfl
/- (rung/slave.table).write -/
def a187 : ACode := (.seq (.reg [⟨(some 3), .box (.t 0), none, false⟩])
 (.seq (.reg [⟨(some 8), .mov (.t 2), none, false⟩, ⟨(some 9), .len false (.t 8), none, false⟩, ⟨(some 10), .mov (.c (.int .i64 0)), none, false⟩])
 (.block 0 (.loop (.seq (.reg [⟨(some 11), .bin .lss .other (.t 10) (.t 9), none, false⟩])
 (.seq (.cond (.t 11) .skip
 (.exit 0))
 (.seq (.block 1 (.seq (.reg [⟨(some 12), .mov (.t 10), none, false⟩, ⟨(some 13), .idx 1 none false (.t 8) (.t 10), none, false⟩, ⟨(some 14), .load false 1 (.t 13), none, false⟩, ⟨(some 6), .mov (.t 12), none, false⟩, ⟨(some 7), .mov (.t 14), none, false⟩])
 (.reg [⟨(some 15), .load true 2 (.t 3), none, false⟩, ⟨(some 16), .mov (.t 1), none, false⟩, ⟨(some 17), .mov (.t 6), none, false⟩, ⟨(some 18), .mov (.t 7), none, false⟩, ⟨(some 19), .call 184 [(.t 15), (.t 16), (.t 17), (.t 18)], none, false⟩])))
 (.reg [⟨(some 20), .bin .add .other (.t 10) (.c (.int .i64 1)), none, false⟩, ⟨(some 10), .mov (.t 20), none, false⟩]))))))))
def r187 : List ARes := []
theorem c187 : compF Try.prog Try.f187 = some (a187, r187) := by kernel_rfl

theorem b187 : hasBody Try.prog 187 = true := by kernel_rfl
theorem g187 : Try.prog.funcs[187]? = some Try.f187 := by kernel_rfl
/- (rung/slave.readBits).there -/
def a175 : ACode := (.seq (.reg [⟨(some 3), .box (.t 0), none, false⟩, ⟨(some 4), .box (.t 1), none, false⟩, ⟨(some 5), .box (.t 2), none, false⟩, ⟨(some 6), .mov (.c (.bool false)), none, false⟩])
 (.seq (.reg [⟨(some 7), .load true 2 (.t 4), none, false⟩, ⟨(some 8), .fld 1 1 false (.t 5), none, false⟩, ⟨(some 9), .load false 1 (.t 8), none, false⟩, ⟨(some 10), .fld 2 1 false (.t 5), none, false⟩, ⟨(some 11), .load false 1 (.t 10), none, false⟩, ⟨(some 12), .conv (.int .i64) (.t 11), none, false⟩, ⟨(some 13), .call 177 [(.t 7), (.t 9), (.t 12)], none, false⟩, ⟨(some 6), .mov (.t 13), none, false⟩])
 .ret))
def r175 : List ARes := [.t 6]
theorem c175 : compF Try.prog Try.f175 = some (a175, r175) := by kernel_rfl

theorem b175 : hasBody Try.prog 175 = true := by kernel_rfl
theorem g175 : Try.prog.funcs[175]? = some Try.f175 := by kernel_rfl
/- (rung/slave.readRegs).there -/
def a180 : ACode := (.seq (.reg [⟨(some 3), .box (.t 0), none, false⟩, ⟨(some 4), .box (.t 1), none, false⟩, ⟨(some 5), .box (.t 2), none, false⟩, ⟨(some 6), .mov (.c (.bool false)), none, false⟩])
 (.seq (.reg [⟨(some 7), .load true 2 (.t 4), none, false⟩, ⟨(some 8), .fld 1 1 false (.t 5), none, false⟩, ⟨(some 9), .load false 1 (.t 8), none, false⟩, ⟨(some 10), .fld 2 1 false (.t 5), none, false⟩, ⟨(some 11), .load false 1 (.t 10), none, false⟩, ⟨(some 12), .conv (.int .i64) (.t 11), none, false⟩, ⟨(some 13), .call 177 [(.t 7), (.t 9), (.t 12)], none, false⟩, ⟨(some 6), .mov (.t 13), none, false⟩])
 .ret))
def r180 : List ARes := [.t 6]
theorem c180 : compF Try.prog Try.f180 = some (a180, r180) := by kernel_rfl

theorem b180 : hasBody Try.prog 180 = true := by kernel_rfl
theorem g180 : Try.prog.funcs[180]? = some Try.f180 := by kernel_rfl
/- (rung/slave.writeBits).there -/
def a183 : ACode := (.seq (.reg [⟨(some 3), .box (.t 0), none, false⟩, ⟨(some 4), .box (.t 1), none, false⟩, ⟨(some 5), .box (.t 2), none, false⟩, ⟨(some 6), .mov (.c (.bool false)), none, false⟩])
 (.seq (.reg [⟨(some 7), .load true 2 (.t 4), none, false⟩, ⟨(some 8), .fld 1 1 false (.t 5), none, false⟩, ⟨(some 9), .load false 1 (.t 8), none, false⟩, ⟨(some 10), .fld 4 1 false (.t 5), none, false⟩, ⟨(some 11), .load false 1 (.t 10), none, false⟩, ⟨(some 12), .len false (.t 11), none, false⟩, ⟨(some 13), .call 177 [(.t 7), (.t 9), (.t 12)], none, false⟩, ⟨(some 6), .mov (.t 13), none, false⟩])
 .ret))
def r183 : List ARes := [.t 6]
theorem c183 : compF Try.prog Try.f183 = some (a183, r183) := by kernel_rfl

theorem b183 : hasBody Try.prog 183 = true := by kernel_rfl
theorem g183 : Try.prog.funcs[183]? = some Try.f183 := by kernel_rfl
/- (rung/slave.writeRegs).there -/
def a186 : ACode := (.seq (.reg [⟨(some 3), .box (.t 0), none, false⟩, ⟨(some 4), .box (.t 1), none, false⟩, ⟨(some 5), .box (.t 2), none, false⟩, ⟨(some 6), .mov (.c (.bool false)), none, false⟩])
 (.seq (.reg [⟨(some 7), .load true 2 (.t 4), none, false⟩, ⟨(some 8), .fld 1 1 false (.t 5), none, false⟩, ⟨(some 9), .load false 1 (.t 8), none, false⟩, ⟨(some 10), .fld 5 1 false (.t 5), none, false⟩, ⟨(some 11), .load false 1 (.t 10), none, false⟩, ⟨(some 12), .len false (.t 11), none, false⟩, ⟨(some 13), .call 177 [(.t 7), (.t 9), (.t 12)], none, false⟩, ⟨(some 6), .mov (.t 13), none, false⟩])
 .ret))
def r186 : List ARes := [.t 6]
theorem c186 : compF Try.prog Try.f186 = some (a186, r186) := by kernel_rfl

theorem b186 : hasBody Try.prog 186 = true := by kernel_rfl
theorem g186 : Try.prog.funcs[186]? = some Try.f186 := by kernel_rfl
/- (rung/slave.mask).there -/
def a189 : ACode := (.seq (.reg [⟨(some 3), .box (.t 0), none, false⟩, ⟨(some 4), .box (.t 1), none, false⟩, ⟨(some 5), .box (.t 2), none, false⟩, ⟨(some 6), .mov (.c (.bool false)), none, false⟩])
 (.seq (.reg [⟨(some 7), .load true 2 (.t 4), none, false⟩, ⟨(some 8), .fld 1 1 false (.t 5), none, false⟩, ⟨(some 9), .load false 1 (.t 8), none, false⟩, ⟨(some 10), .call 177 [(.t 7), (.t 9), (.c (.int .i64 1))], none, false⟩, ⟨(some 6), .mov (.t 10), none, false⟩])
 .ret))
def r189 : List ARes := [.t 6]
theorem c189 : compF Try.prog Try.f189 = some (a189, r189) := by kernel_rfl

theorem b189 : hasBody Try.prog 189 = true := by kernel_rfl
theorem g189 : Try.prog.funcs[189]? = some Try.f189 := by kernel_rfl
/- (rung/slave.both).there -/
def a191 : ACode := (.seq (.reg [⟨(some 3), .box (.t 0), none, false⟩, ⟨(some 4), .box (.t 1), none, false⟩, ⟨(some 5), .box (.t 2), none, false⟩, ⟨(some 6), .mov (.c (.bool false)), none, false⟩])
 (.seq (.reg [⟨(some 7), .load true 2 (.t 4), none, false⟩, ⟨(some 8), .fld 1 1 false (.t 5), none, false⟩, ⟨(some 9), .load false 1 (.t 8), none, false⟩, ⟨(some 10), .fld 2 1 false (.t 5), none, false⟩, ⟨(some 11), .load false 1 (.t 10), none, false⟩, ⟨(some 12), .conv (.int .i64) (.t 11), none, false⟩, ⟨(some 13), .call 177 [(.t 7), (.t 9), (.t 12)], none, false⟩, ⟨(some 14), .mov (.t 13), none, true⟩, ⟨(some 15), .load true 2 (.t 4), (some (14, true)), false⟩, ⟨(some 16), .fld 3 1 false (.t 5), (some (14, true)), false⟩, ⟨(some 17), .load false 1 (.t 16), (some (14, true)), false⟩, ⟨(some 18), .fld 5 1 false (.t 5), (some (14, true)), false⟩, ⟨(some 19), .load false 1 (.t 18), (some (14, true)), false⟩, ⟨(some 20), .len false (.t 19), (some (14, true)), false⟩, ⟨(some 21), .call 177 [(.t 15), (.t 17), (.t 20)], (some (14, true)), false⟩, ⟨(some 22), .pick (.t 14) (.t 21) (.c (.bool false)), none, false⟩, ⟨(some 6), .mov (.t 22), none, false⟩])
 .ret))
def r191 : List ARes := [.t 6]
theorem c191 : compF Try.prog Try.f191 = some (a191, r191) := by kernel_rfl

theorem b191 : hasBody Try.prog 191 = true := by kernel_rfl
theorem g191 : Try.prog.funcs[191]? = some Try.f191 := by kernel_rfl

/-- a result with rows as values, and one block's new numbers -/
theorem imFrz {f N : Nat} {args : List AV} {k k' : Nat → IntKind} {g g' : Nat → Int} {v2 : AV} (h0 : v2.hok 0 nor = true)
    (h : Tr Try.prog f args ⟨1, [(0, some (.blk N k g))]⟩ fun v s => ∃ v1 s1, Frz v s v1 s1 ∧ Le v1 v2 ∧ s1.get 0 = some (.blk N k' g')) : BlkT f args N k g v2 k' g' := by
  refine blkNorm (ren_pure _ h0) (hok_mono _ h0) (Tr.leRes (K := fun v s => Le v v2 ∧ s.get 0 = some (.blk N k' g')) (Tr.freeze h fun v s ⟨v1, s1, h1, h2, h3⟩ => ⟨v1, s1, h1, h2, h3⟩) fun v s ⟨h1, h2⟩ => ⟨v2, h1, rfl, h2⟩)
def tbA (f : Int) : AV := .agg [.ptr 0 0, .int .u8 f]
theorem wAt {a i : Int} (ha : 0 ≤ a ∧ a < 65536) (hi : 0 ≤ i ∧ i ≤ 70000) : IntKind.i64.wrap (IntKind.i64.wrap a + i) = a + i := by
  rw [w64i (n := a) (by omega) (by omega), w64i (by omega) (by omega)]
theorem tget_tr (I : Img) (f a i : Int) (ha : 0 ≤ a ∧ a < 65536) (hi : 0 ≤ i ∧ i ≤ 4000) : ImT 173 [tbA f, .int .u16 a, .int .i64 i] I (.int .u16 (tg I.o f (a + i))) I := by
  refine blkNorm rfl rfl (trF g173 b173 c173 ?_)
  conv => whnf
  rw [wAt ha (by omega)]
  refine Ev.call (aplace_ev f (a + i) (by omega) (by omega)) ?_
  conv => whnf
  refine blkCall (Get_tr I _ _) rfl rfl rfl ?_
  conv => whnf
  exact ⟨rfl, rfl⟩
theorem tput_tr (I : Img) (f a i v : Int) (ha : 0 ≤ a ∧ a < 65536) (hi : 0 ≤ i ∧ i ≤ 4000) (hv : 0 ≤ v) : ImT 184 [tbA f, .int .u16 a, .int .i64 i, .int .u16 v] I (.tup []) (tp I f (a + i) v) := by
  refine blkNorm rfl rfl (trF g184 b184 c184 ?_)
  conv => whnf
  rw [wAt ha (by omega)]
  refine Ev.call (aplace_ev f (a + i) (by omega) (by omega)) ?_
  conv => whnf
  refine blkCall (Put_tr I _ _ _ hv) rfl rfl rfl ?_
  conv => whnf
  exact ⟨rfl, rfl⟩
theorem has_tr (I : Img) (f a n : Int) (ha : 0 ≤ a ∧ a < 65536) (hn : 0 ≤ n ∧ n < 65536) : ImT 177 [tbA f, .int .u16 a, .int .i64 n] I (.bool (hasB f a n)) I := by
  refine blkNorm rfl rfl (trF g177 b177 c177 ?_)
  have h1 : IntKind.i64.wrap a = a := w64i (by omega) (by omega)
  have h2 : IntKind.i64.wrap (a + n) = a + n := w64i (by omega) (by omega)
  have h3 : IntKind.i64.wrap (a + n - 1) = a + n - 1 := w64i (by omega) (by omega)
  conv => whnf
  refine Ev.call (aplace_ev f (IntKind.i64.wrap a) (by rw [h1]; omega) (by rw [h1]; omega)) ?_
  conv => whnf
  rw [h1, h2, h3]
  refine Ev.call (aplace_ev f (a + n - 1) (by omega) (by omega)) ?_
  conv => whnf
  refine condF (fun h => ?_) (fun h => ?_)
  · conv => whnf
    exact ⟨by rw [hasB, h]; rfl, rfl⟩
  · conv => whnf
    exact ⟨by rw [hasB, h]; rfl, rfl⟩
theorem rget_tr (I : Img) (f n : Int) (h0 : -200000 ≤ n) (h1 : n ≤ 200000) : RmT 139 [.ptr 0 0, .int .u8 f, .int .i64 n] I (.int .u16 (tg I.o f n)) I := by
  refine blkNorm rfl rfl (trF g139 b139 c139 ?_)
  conv => whnf
  refine Ev.call (rplace_ev f n h0 h1) ?_
  conv => whnf
  refine blkCall (rGet_tr I _ _) rfl rfl rfl ?_
  conv => whnf
  exact ⟨rfl, rfl⟩
theorem rput_tr (I : Img) (f n v : Int) (h0 : -200000 ≤ n) (h1 : n ≤ 200000) : RmT 140 [.ptr 0 0, .int .u8 f, .int .i64 n, .int .u16 v] I (.tup []) (tp I f n v) := by
  refine blkNorm rfl rfl (trF g140 b140 c140 ?_)
  conv => whnf
  refine Ev.call (rplace_ev f n h0 h1) ?_
  conv => whnf
  refine blkCall (rPut_tr I _ _ _) rfl rfl rfl ?_
  conv => whnf
  exact ⟨rfl, rfl⟩
def tgs (o : Nat → Nat → Int) (f a : Int) (n : Nat) : List Int := (List.range n).map fun (i : Nat) => tg o f (a + (i : Int))
def tpsN (I : Img) (f a : Int) (l : List Int) : Nat → Img
  | 0 => I
  | i + 1 => tp (tpsN I f a l i) f (a + i) (l.getD i 0)
def tps (I : Img) (f a : Int) (l : List Int) : Img := tpsN I f a l l.length
theorem tgs_length (o : Nat → Nat → Int) (f a : Int) (n : Nat) : (tgs o f a n).length = n := by simp [tgs]
theorem tgs_succ (o : Nat → Nat → Int) (f a : Int) (n : Nat) : tgs o f a (n + 1) = tgs o f a n ++ [tg o f (a + n)] := by simp [tgs, List.range_succ]
set_option maxRecDepth 20000 in
theorem sregs_tr (I : Img) (f a n : Int) (ha : 0 ≤ a ∧ a < 65536) (hn : 0 ≤ n ∧ n ≤ 4000) : AllT 181 [tbA f, .int .u16 a, .int .i64 n] (imC I) (tgs I.o f a n.toNat) := by
  refine Tr.norm (K := fun v s => v = .sl 1 1 0 (tgs I.o f a n.toNat).length ∧ s.get 1 = some (.rowI .u16 (tgs I.o f a n.toNat)) ∧ s.get 0 = some (imC I)) (trF g181 b181 c181 ?_) fun v s ⟨hv, h1, h0⟩ => ⟨_, _, ?_, rfl, rfl⟩
  · conv => whnf
    refine loopI (α := {i : Nat // i ≤ n.toNat}) (fun i => [(1, .int .u16 a), (3, .ptr 2 0), (7, .sl 1 1 0 i.1), (9, .int .i64 n), (10, .int .i64 i.1)]) (fun i => ⟨3, [(1, some (.rowI .u16 (tgs I.o f a i.1))), (0, some (imC I)), (2, some (.obj [.ptr 0 0, .int .u8 f]))]⟩) (fun i => n.toNat - i.1) ⟨0, Nat.zero_le _⟩
        ⟨[(1, none), (2, some 1)], rfl, rfl, rfl, ⟨⟨rfl, rfl⟩, ⟨rfl, rfl⟩, ⟨rfl, rfl⟩, ⟨rfl, rfl⟩, ⟨rfl, rfl⟩, trivial⟩, ⟨⟨trivial, rfl, rfl⟩, ⟨trivial, rfl, rfl⟩, ⟨rfl, rfl, rfl⟩, trivial⟩⟩ fun ⟨i, hi⟩ => ?_
    conv => whnf
    by_cases hlt : i < n.toNat
    · have hl := tgs_length I.o f a i
      refine condY (by simp; omega) ?_
      conv => whnf
      refine blkCall (tget_tr I f a i ha (by omega)) rfl rfl rfl ?_
      conv => whnf
      refine condT (by simp; omega) ?_
      conv => whnf
      refine ⟨⟨i + 1, hlt⟩, ⟨[(1, some 4)], rfl, rfl, rfl, ⟨⟨rfl, rfl⟩, ⟨rfl, rfl⟩, ⟨rfl, rfl⟩, ⟨rfl, rfl⟩, ⟨?_, rfl⟩, trivial⟩, ⟨⟨trivial, rfl, ?_⟩, ⟨trivial, rfl, rfl⟩, ⟨rfl, rfl, rfl⟩, trivial⟩⟩, by show n.toNat - (i + 1) < n.toNat - i; omega⟩
      · show AV.int .i64 (IntKind.i64.wrap ((i : Int) + 1)) = AV.int .i64 ((i + 1 : Nat) : Int)
        rw [s64 (by omega)]
      · show some (Chunk.rowI .u16 (((tgs I.o f a i).drop 0).take i ++ ([tg I.o f (a + i)].drop 0).take 1)) = some (Chunk.rowI .u16 (tgs I.o f a (i + 1)))
        rw [tgs_succ, List.drop_zero]
        conv => lhs; rw [List.take_of_length_le (by omega)]
        rfl
    · obtain rfl : i = n.toNat := by omega
      refine condN (by simp; omega) ?_
      conv => whnf
      exact ⟨by show AV.sl 1 1 0 _ = _; rw [tgs_length], rfl, rfl⟩
  · subst hv
    exact ⟨[], rfl, rfl, rfl, ⟨⟨rfl, rfl⟩, trivial⟩, ⟨⟨trivial, rfl, h1⟩, ⟨trivial, rfl, h0⟩, trivial⟩⟩
set_option maxRecDepth 20000 in
theorem write_tr (I : Img) (f a : Int) (l : List Int) (ha : 0 ≤ a ∧ a < 65536) (hl : l.length ≤ 4000) (hr : ∀ x ∈ l, 0 ≤ x) : ImT 187 [tbA f, .int .u16 a, .roI .u16 l] I (.tup []) (tps I f a l) := by
  refine blkNorm rfl rfl (trF g187 b187 c187 ?_)
  conv => whnf
  refine loopI (α := {i : Nat // i ≤ l.length}) (fun i => [(1, .int .u16 a), (3, .ptr 1 0), (8, .roI .u16 l), (9, .int .i64 l.length), (10, .int .i64 i.1)]) (fun i => ⟨2, [(0, some (imC (tpsN I f a l i.1))), (1, some (.obj [.ptr 0 0, .int .u8 f]))]⟩) (fun i => l.length - i.1) ⟨0, Nat.zero_le _⟩
      ⟨[], rfl, rfl, rfl, ⟨⟨rfl, rfl⟩, ⟨rfl, rfl⟩, ⟨rfl, rfl⟩, ⟨rfl, rfl⟩, ⟨rfl, rfl⟩, trivial⟩, ⟨⟨trivial, rfl, rfl⟩, ⟨rfl, rfl, rfl⟩, trivial⟩⟩ fun ⟨i, hi⟩ => ?_
  conv => whnf
  by_cases hlt : i < l.length
  · refine condY (by simp; omega) ?_
    conv => whnf
    refine condT (by simp; omega) ?_
    conv => whnf
    have hx : 0 ≤ l.getD i 0 := by
      have e : l.getD i 0 = l[i] := by simp [List.getD_eq_getElem?_getD, List.getElem?_eq_getElem hlt]
      rw [e]; exact hr _ (List.getElem_mem hlt)
    refine blkCall (tput_tr (tpsN I f a l i) f a i (l.getD i 0) ha (by omega) hx) rfl rfl rfl ?_
    conv => whnf
    refine ⟨⟨i + 1, hlt⟩, ⟨[], rfl, rfl, rfl, ⟨⟨rfl, rfl⟩, ⟨rfl, rfl⟩, ⟨rfl, rfl⟩, ⟨rfl, rfl⟩, ⟨?_, rfl⟩, trivial⟩, ⟨⟨trivial, rfl, rfl⟩, ⟨rfl, rfl, rfl⟩, trivial⟩⟩, by show l.length - (i + 1) < l.length - i; omega⟩
    show AV.int .i64 (IntKind.i64.wrap ((i : Int) + 1)) = AV.int .i64 ((i + 1 : Nat) : Int)
    rw [s64 (by omega)]
  · obtain rfl : i = l.length := by omega
    refine condN (by simp) ?_
    conv => whnf
    exact ⟨rfl, rfl⟩
theorem rbT_tr (I : Img) (f a n a2 : Int) (b : List Bool) (r : List Int) (ha : 0 ≤ a ∧ a < 65536) (hn : 0 ≤ n ∧ n < 65536) (ha2 : 0 ≤ a2 ∧ a2 < 65536) (hb : b.length ≤ 2500) (hr : r.length ≤ 500) : ImT 175 [.agg [], tbA f, reqA f a n a2 (.roB b) (.roI .u16 r)] I (.bool (hasB f a n)) I := by
  have hN : IntKind.i64.wrap n = n := w64i (by omega) (by omega)
  refine blkNorm rfl rfl (trF g175 b175 c175 ?_)
  conv => whnf
  rw [hN]
  refine blkCall (has_tr I f a n ha hn) rfl rfl rfl ?_
  conv => whnf
  exact ⟨rfl, rfl⟩
theorem rrT_tr (I : Img) (f a n a2 : Int) (b : List Bool) (r : List Int) (ha : 0 ≤ a ∧ a < 65536) (hn : 0 ≤ n ∧ n < 65536) (ha2 : 0 ≤ a2 ∧ a2 < 65536) (hb : b.length ≤ 2500) (hr : r.length ≤ 500) : ImT 180 [.agg [], tbA f, reqA f a n a2 (.roB b) (.roI .u16 r)] I (.bool (hasB f a n)) I := by
  have hN : IntKind.i64.wrap n = n := w64i (by omega) (by omega)
  refine blkNorm rfl rfl (trF g180 b180 c180 ?_)
  conv => whnf
  rw [hN]
  refine blkCall (has_tr I f a n ha hn) rfl rfl rfl ?_
  conv => whnf
  exact ⟨rfl, rfl⟩
theorem wbT_tr (I : Img) (f a n a2 : Int) (b : List Bool) (r : List Int) (ha : 0 ≤ a ∧ a < 65536) (hn : 0 ≤ n ∧ n < 65536) (ha2 : 0 ≤ a2 ∧ a2 < 65536) (hb : b.length ≤ 2500) (hr : r.length ≤ 500) : ImT 183 [.agg [], tbA f, reqA f a n a2 (.roB b) (.roI .u16 r)] I (.bool (hasB f a b.length)) I := by
  have hN : IntKind.i64.wrap n = n := w64i (by omega) (by omega)
  refine blkNorm rfl rfl (trF g183 b183 c183 ?_)
  conv => whnf
  refine blkCall (has_tr I f a b.length ha (by omega)) rfl rfl rfl ?_
  conv => whnf
  exact ⟨rfl, rfl⟩
theorem wrT_tr (I : Img) (f a n a2 : Int) (b : List Bool) (r : List Int) (ha : 0 ≤ a ∧ a < 65536) (hn : 0 ≤ n ∧ n < 65536) (ha2 : 0 ≤ a2 ∧ a2 < 65536) (hb : b.length ≤ 2500) (hr : r.length ≤ 500) : ImT 186 [.agg [], tbA f, reqA f a n a2 (.roB b) (.roI .u16 r)] I (.bool (hasB f a r.length)) I := by
  have hN : IntKind.i64.wrap n = n := w64i (by omega) (by omega)
  refine blkNorm rfl rfl (trF g186 b186 c186 ?_)
  conv => whnf
  refine blkCall (has_tr I f a r.length ha (by omega)) rfl rfl rfl ?_
  conv => whnf
  exact ⟨rfl, rfl⟩
theorem mkT_tr (I : Img) (f a n a2 : Int) (b : List Bool) (r : List Int) (ha : 0 ≤ a ∧ a < 65536) (hn : 0 ≤ n ∧ n < 65536) (ha2 : 0 ≤ a2 ∧ a2 < 65536) (hb : b.length ≤ 2500) (hr : r.length ≤ 500) : ImT 189 [.agg [], tbA f, reqA f a n a2 (.roB b) (.roI .u16 r)] I (.bool (hasB f a 1)) I := by
  have hN : IntKind.i64.wrap n = n := w64i (by omega) (by omega)
  refine blkNorm rfl rfl (trF g189 b189 c189 ?_)
  conv => whnf
  refine blkCall (has_tr I f a 1 ha (by decide)) rfl rfl rfl ?_
  conv => whnf
  exact ⟨rfl, rfl⟩
theorem boT_tr (I : Img) (f a n a2 : Int) (b : List Bool) (r : List Int) (ha : 0 ≤ a ∧ a < 65536) (hn : 0 ≤ n ∧ n < 65536) (ha2 : 0 ≤ a2 ∧ a2 < 65536) (hb : b.length ≤ 2500) (hr : r.length ≤ 500) : ImT 191 [.agg [], tbA f, reqA f a n a2 (.roB b) (.roI .u16 r)] I (.bool (hasB f a n && hasB f a2 r.length)) I := by
  have hN : IntKind.i64.wrap n = n := w64i (by omega) (by omega)
  refine blkNorm rfl rfl (trF g191 b191 c191 ?_)
  conv => whnf
  rw [hN]
  refine blkCall (has_tr I f a n ha hn) rfl rfl rfl ?_
  conv => whnf
  refine condF (fun h => ?_) (fun h => ?_)
  · conv => whnf
    exact ⟨by rw [h]; rfl, rfl⟩
  · conv => whnf
    refine blkCall (has_tr I f a2 r.length ha2 (by omega)) rfl rfl rfl ?_
    conv => whnf
    exact ⟨by rw [h]; rfl, rfl⟩
end Go.Proofs.Ytomodeliimnddaa
set_option linter.unusedVariables false
set_option linter.unusedSimpArgs false
namespace Go.Proofs.Ytomodeliimnddaa
open Go.Ab
/- (rung/slave.readBits).does -/
def a174 : ACode := (.seq (.reg [⟨(some 3), .box (.t 0), none, false⟩, ⟨(some 4), .box (.t 1), none, false⟩, ⟨(some 5), .box (.t 2), none, false⟩, ⟨(some 6), .alloc [(2, (.int .u8 0)), (2, (.int .u16 0)), (2, .nils)], none, false⟩])
 (.seq (.reg [⟨(some 9), .fld 0 1 false (.t 5), none, false⟩, ⟨(some 10), .load false 1 (.t 9), none, false⟩, ⟨(some 11), .build [(.int .u8 0), (.int .u8 0), (.int .u16 0), (.int .u16 0), .nils, .nils] [(0, 1, (.t 10))], none, false⟩, ⟨(some 7), .alloc [(2, (.int .u8 0)), (2, (.int .u16 0)), (2, .nils)], none, false⟩, ⟨none, .store 6 (.t 7) (.t 11), none, false⟩])
 (.seq (.seq (.reg [⟨(some 12), .fld 2 1 false (.t 5), none, false⟩, ⟨(some 13), .load false 1 (.t 12), none, false⟩, ⟨(some 14), .conv (.int .i64) (.t 13), none, false⟩, ⟨(some 15), .mov (.c (.int .i64 0)), none, false⟩])
 (.block 0 (.loop (.seq (.reg [⟨(some 16), .bin .lss .other (.t 15) (.t 14), none, false⟩])
 (.seq (.cond (.t 16) .skip
 (.exit 0))
 (.seq (.block 1 (.seq (.reg [⟨(some 17), .mov (.t 15), none, false⟩, ⟨(some 8), .mov (.t 17), none, false⟩])
 (.draw [⟨0, ⟨(some 18), .fld 4 1 false (.t 7), none, false⟩, false, [], []⟩, ⟨1, ⟨(some 19), .load false 1 (.t 18), none, false⟩, false, [], []⟩, ⟨2, ⟨(some 20), .load true 2 (.t 4), none, false⟩, false, [], []⟩, ⟨3, ⟨(some 21), .fld 1 1 false (.t 5), none, false⟩, false, [], []⟩, ⟨4, ⟨(some 22), .load false 1 (.t 21), none, false⟩, false, [], []⟩, ⟨5, ⟨(some 23), .mov (.t 8), none, false⟩, false, [], []⟩, ⟨6, ⟨(some 24), .call 173 [(.t 20), (.t 22), (.t 23)], none, false⟩, true, [], [(.t 18)]⟩, ⟨7, ⟨(some 25), .bin .neq .other (.t 24) (.c (.int .u16 0)), none, false⟩, false, [], []⟩, ⟨8, ⟨(some 26), .bslice 1 .bool [(.bool false)] [(0, 1, (.t 25))] 1, none, false⟩, false, [], []⟩, ⟨9, ⟨(some 27), .app 1 1 (.t 19) (.t 26), none, false⟩, true, [8], []⟩, ⟨10, ⟨(some 28), .fld 4 1 false (.t 7), none, false⟩, false, [], []⟩, ⟨11, ⟨none, .store 1 (.t 28) (.t 27), none, false⟩, true, [8], []⟩])))
 (.reg [⟨(some 29), .bin .add .other (.t 15) (.c (.int .i64 1)), none, false⟩, ⟨(some 15), .mov (.t 29), none, false⟩])))))))
 (.seq (.reg [⟨(some 30), .load true 6 (.t 7), none, false⟩, ⟨none, .store 6 (.t 6) (.t 30), none, false⟩])
 .ret))))
def r174 : List ARes := [.cell 6 true 6]
theorem c174 : compF Try.prog Try.f174 = some (a174, r174) := by kernel_rfl

theorem b174 : hasBody Try.prog 174 = true := by kernel_rfl
theorem g174 : Try.prog.funcs[174]? = some Try.f174 := by kernel_rfl
/- (rung/slave.readRegs).does -/
def a179 : ACode := (.seq (.reg [⟨(some 3), .box (.t 0), none, false⟩, ⟨(some 4), .box (.t 1), none, false⟩, ⟨(some 5), .box (.t 2), none, false⟩, ⟨(some 6), .alloc [(2, (.int .u8 0)), (2, (.int .u16 0)), (2, .nils)], none, false⟩])
 (.seq (.draw [⟨0, ⟨(some 7), .fld 0 1 false (.t 5), none, false⟩, false, [], []⟩, ⟨1, ⟨(some 8), .load false 1 (.t 7), none, false⟩, false, [], []⟩, ⟨2, ⟨(some 9), .load true 2 (.t 4), none, false⟩, false, [], []⟩, ⟨3, ⟨(some 10), .fld 1 1 false (.t 5), none, false⟩, false, [], []⟩, ⟨4, ⟨(some 11), .load false 1 (.t 10), none, false⟩, false, [], []⟩, ⟨5, ⟨(some 12), .fld 2 1 false (.t 5), none, false⟩, false, [], []⟩, ⟨6, ⟨(some 13), .load false 1 (.t 12), none, false⟩, false, [], []⟩, ⟨7, ⟨(some 14), .conv (.int .i64) (.t 13), none, false⟩, false, [], []⟩, ⟨8, ⟨(some 15), .call 181 [(.t 9), (.t 11), (.t 14)], none, false⟩, true, [], [(.t 7)]⟩, ⟨9, ⟨(some 16), .build [(.int .u8 0), (.int .u8 0), (.int .u16 0), (.int .u16 0), .nils, .nils] [(0, 1, (.t 8)), (5, 1, (.t 15))], none, false⟩, false, [], []⟩, ⟨10, ⟨none, .store 6 (.t 6) (.t 16), none, false⟩, true, [], []⟩])
 .ret))
def r179 : List ARes := [.cell 6 true 6]
theorem c179 : compF Try.prog Try.f179 = some (a179, r179) := by kernel_rfl

theorem b179 : hasBody Try.prog 179 = true := by kernel_rfl
theorem g179 : Try.prog.funcs[179]? = some Try.f179 := by kernel_rfl
/- (rung/slave.writeBits).does -/
def a182 : ACode := (.seq (.reg [⟨(some 3), .box (.t 0), none, false⟩, ⟨(some 4), .box (.t 1), none, false⟩, ⟨(some 5), .box (.t 2), none, false⟩, ⟨(some 6), .alloc [(2, (.int .u8 0)), (2, (.int .u16 0)), (2, .nils)], none, false⟩])
 (.seq (.seq (.reg [⟨(some 10), .fld 4 1 false (.t 5), none, false⟩, ⟨(some 11), .load false 1 (.t 10), none, false⟩, ⟨(some 12), .len false (.t 11), none, false⟩, ⟨(some 13), .mov (.c (.int .i64 0)), none, false⟩])
 (.block 0 (.loop (.seq (.reg [⟨(some 14), .bin .lss .other (.t 13) (.t 12), none, false⟩])
 (.seq (.cond (.t 14) .skip
 (.exit 0))
 (.seq (.block 1 (.seq (.reg [⟨(some 15), .mov (.t 13), none, false⟩, ⟨(some 16), .idx 1 none false (.t 11) (.t 13), none, false⟩, ⟨(some 17), .load false 1 (.t 16), none, false⟩, ⟨(some 7), .mov (.t 15), none, false⟩, ⟨(some 8), .mov (.t 17), none, false⟩])
 (.seq (.reg [⟨(some 9), .mov (.c (.int .u16 0)), none, false⟩])
 (.seq (.seq (.reg [⟨(some 18), .mov (.t 8), none, false⟩])
 (.cond (.t 18) (.reg [⟨(some 9), .mov (.c (.int .u16 1)), none, false⟩])
 .skip))
 (.reg [⟨(some 19), .load true 2 (.t 4), none, false⟩, ⟨(some 20), .fld 1 1 false (.t 5), none, false⟩, ⟨(some 21), .load false 1 (.t 20), none, false⟩, ⟨(some 22), .mov (.t 7), none, false⟩, ⟨(some 23), .mov (.t 9), none, false⟩, ⟨(some 24), .call 184 [(.t 19), (.t 21), (.t 22), (.t 23)], none, false⟩])))))
 (.reg [⟨(some 25), .bin .add .other (.t 13) (.c (.int .i64 1)), none, false⟩, ⟨(some 13), .mov (.t 25), none, false⟩])))))))
 (.seq (.seq (.reg [⟨(some 26), .fld 0 1 false (.t 5), none, false⟩, ⟨(some 27), .load false 1 (.t 26), none, false⟩, ⟨(some 28), .bin .eql .other (.t 27) (.c (.int .u8 15)), none, false⟩])
 (.cond (.t 28) (.seq (.reg [⟨(some 29), .fld 0 1 false (.t 5), none, false⟩, ⟨(some 30), .load false 1 (.t 29), none, false⟩, ⟨(some 31), .fld 1 1 false (.t 5), none, false⟩, ⟨(some 32), .load false 1 (.t 31), none, false⟩, ⟨(some 33), .fld 4 1 false (.t 5), none, false⟩, ⟨(some 34), .load false 1 (.t 33), none, false⟩, ⟨(some 35), .len false (.t 34), none, false⟩, ⟨(some 36), .conv (.int .u16) (.t 35), none, false⟩, ⟨(some 37), .build [(.int .u8 0), (.int .u8 0), (.int .u16 0), (.int .u16 0), .nils, .nils] [(0, 1, (.t 30)), (2, 1, (.t 32)), (3, 1, (.t 36))], none, false⟩, ⟨none, .store 6 (.t 6) (.t 37), none, false⟩])
 .ret)
 .skip))
 (.seq (.reg [⟨(some 38), .fld 0 1 false (.t 5), none, false⟩, ⟨(some 39), .load false 1 (.t 38), none, false⟩, ⟨(some 40), .fld 1 1 false (.t 5), none, false⟩, ⟨(some 41), .load false 1 (.t 40), none, false⟩, ⟨(some 42), .fld 4 1 false (.t 5), none, false⟩, ⟨(some 43), .load false 1 (.t 42), none, false⟩, ⟨(some 44), .build [(.int .u8 0), (.int .u8 0), (.int .u16 0), (.int .u16 0), .nils, .nils] [(0, 1, (.t 39)), (2, 1, (.t 41)), (4, 1, (.t 43))], none, false⟩, ⟨none, .store 6 (.t 6) (.t 44), none, false⟩])
 .ret))))
def r182 : List ARes := [.cell 6 true 6]
theorem c182 : compF Try.prog Try.f182 = some (a182, r182) := by kernel_rfl

theorem b182 : hasBody Try.prog 182 = true := by kernel_rfl
theorem g182 : Try.prog.funcs[182]? = some Try.f182 := by kernel_rfl
/- (rung/slave.writeRegs).does -/
def a185 : ACode := (.seq (.reg [⟨(some 3), .box (.t 0), none, false⟩, ⟨(some 4), .box (.t 1), none, false⟩, ⟨(some 5), .box (.t 2), none, false⟩, ⟨(some 6), .alloc [(2, (.int .u8 0)), (2, (.int .u16 0)), (2, .nils)], none, false⟩])
 (.seq (.reg [⟨(some 7), .load true 2 (.t 4), none, false⟩, ⟨(some 8), .fld 1 1 false (.t 5), none, false⟩, ⟨(some 9), .load false 1 (.t 8), none, false⟩, ⟨(some 10), .fld 5 1 false (.t 5), none, false⟩, ⟨(some 11), .load false 1 (.t 10), none, false⟩, ⟨(some 12), .call 187 [(.t 7), (.t 9), (.t 11)], none, false⟩])
 (.seq (.seq (.reg [⟨(some 13), .fld 0 1 false (.t 5), none, false⟩, ⟨(some 14), .load false 1 (.t 13), none, false⟩, ⟨(some 15), .bin .eql .other (.t 14) (.c (.int .u8 16)), none, false⟩])
 (.cond (.t 15) (.seq (.reg [⟨(some 16), .fld 0 1 false (.t 5), none, false⟩, ⟨(some 17), .load false 1 (.t 16), none, false⟩, ⟨(some 18), .fld 1 1 false (.t 5), none, false⟩, ⟨(some 19), .load false 1 (.t 18), none, false⟩, ⟨(some 20), .fld 5 1 false (.t 5), none, false⟩, ⟨(some 21), .load false 1 (.t 20), none, false⟩, ⟨(some 22), .len false (.t 21), none, false⟩, ⟨(some 23), .conv (.int .u16) (.t 22), none, false⟩, ⟨(some 24), .build [(.int .u8 0), (.int .u8 0), (.int .u16 0), (.int .u16 0), .nils, .nils] [(0, 1, (.t 17)), (2, 1, (.t 19)), (3, 1, (.t 23))], none, false⟩, ⟨none, .store 6 (.t 6) (.t 24), none, false⟩])
 .ret)
 .skip))
 (.seq (.reg [⟨(some 25), .fld 0 1 false (.t 5), none, false⟩, ⟨(some 26), .load false 1 (.t 25), none, false⟩, ⟨(some 27), .fld 1 1 false (.t 5), none, false⟩, ⟨(some 28), .load false 1 (.t 27), none, false⟩, ⟨(some 29), .fld 5 1 false (.t 5), none, false⟩, ⟨(some 30), .load false 1 (.t 29), none, false⟩, ⟨(some 31), .build [(.int .u8 0), (.int .u8 0), (.int .u16 0), (.int .u16 0), .nils, .nils] [(0, 1, (.t 26)), (2, 1, (.t 28)), (5, 1, (.t 30))], none, false⟩, ⟨none, .store 6 (.t 6) (.t 31), none, false⟩])
 .ret))))
def r185 : List ARes := [.cell 6 true 6]
theorem c185 : compF Try.prog Try.f185 = some (a185, r185) := by kernel_rfl

theorem b185 : hasBody Try.prog 185 = true := by kernel_rfl
theorem g185 : Try.prog.funcs[185]? = some Try.f185 := by kernel_rfl
/- (rung/slave.mask).does -/
def a188 : ACode := (.seq (.reg [⟨(some 3), .box (.t 0), none, false⟩, ⟨(some 4), .box (.t 1), none, false⟩, ⟨(some 5), .box (.t 2), none, false⟩, ⟨(some 6), .alloc [(2, (.int .u8 0)), (2, (.int .u16 0)), (2, .nils)], none, false⟩])
 (.seq (.draw [⟨0, ⟨(some 9), .fld 5 1 false (.t 5), none, false⟩, false, [], []⟩, ⟨1, ⟨(some 10), .load false 1 (.t 9), none, false⟩, false, [], []⟩, ⟨2, ⟨(some 11), .idx 1 none false (.t 10) (.c (.int .i64 0)), none, false⟩, false, [], []⟩, ⟨3, ⟨(some 12), .load false 1 (.t 11), none, false⟩, false, [], []⟩, ⟨4, ⟨(some 13), .fld 5 1 false (.t 5), none, false⟩, false, [], []⟩, ⟨5, ⟨(some 14), .load false 1 (.t 13), none, false⟩, false, [], []⟩, ⟨6, ⟨(some 15), .idx 1 none false (.t 14) (.c (.int .i64 1)), none, false⟩, false, [], []⟩, ⟨7, ⟨(some 16), .load false 1 (.t 15), none, false⟩, false, [], []⟩, ⟨8, ⟨(some 7), .mov (.t 12), none, false⟩, false, [], []⟩, ⟨9, ⟨(some 8), .mov (.t 16), none, false⟩, false, [], []⟩])
 (.seq (.draw [⟨0, ⟨(some 17), .load true 2 (.t 4), none, false⟩, false, [], []⟩, ⟨1, ⟨(some 18), .fld 1 1 false (.t 5), none, false⟩, false, [], []⟩, ⟨2, ⟨(some 19), .load false 1 (.t 18), none, false⟩, false, [], []⟩, ⟨3, ⟨(some 20), .load true 2 (.t 4), none, false⟩, false, [], []⟩, ⟨4, ⟨(some 21), .fld 1 1 false (.t 5), none, false⟩, false, [], []⟩, ⟨5, ⟨(some 22), .load false 1 (.t 21), none, false⟩, false, [], []⟩, ⟨7, ⟨(some 24), .mov (.t 7), none, false⟩, false, [], []⟩, ⟨9, ⟨(some 26), .mov (.t 8), none, false⟩, false, [], []⟩, ⟨10, ⟨(some 27), .mov (.t 7), none, false⟩, false, [], []⟩, ⟨11, ⟨(some 28), .bin .andNot .other (.t 26) (.t 27), none, false⟩, false, [], []⟩, ⟨6, ⟨(some 23), .call 173 [(.t 20), (.t 22), (.c (.int .i64 0))], none, false⟩, true, [], [(.t 4), (.t 18)]⟩, ⟨8, ⟨(some 25), .bin .and .other (.t 23) (.t 24), none, false⟩, false, [], []⟩, ⟨12, ⟨(some 29), .bin .or .other (.t 25) (.t 28), none, false⟩, false, [], []⟩, ⟨13, ⟨(some 30), .call 184 [(.t 17), (.t 19), (.c (.int .i64 0)), (.t 29)], none, false⟩, true, [], []⟩])
 (.seq (.reg [⟨(some 31), .fld 0 1 false (.t 5), none, false⟩, ⟨(some 32), .load false 1 (.t 31), none, false⟩, ⟨(some 33), .fld 1 1 false (.t 5), none, false⟩, ⟨(some 34), .load false 1 (.t 33), none, false⟩, ⟨(some 35), .fld 5 1 false (.t 5), none, false⟩, ⟨(some 36), .load false 1 (.t 35), none, false⟩, ⟨(some 37), .build [(.int .u8 0), (.int .u8 0), (.int .u16 0), (.int .u16 0), .nils, .nils] [(0, 1, (.t 32)), (2, 1, (.t 34)), (5, 1, (.t 36))], none, false⟩, ⟨none, .store 6 (.t 6) (.t 37), none, false⟩])
 .ret))))
def r188 : List ARes := [.cell 6 true 6]
theorem c188 : compF Try.prog Try.f188 = some (a188, r188) := by kernel_rfl

theorem b188 : hasBody Try.prog 188 = true := by kernel_rfl
theorem g188 : Try.prog.funcs[188]? = some Try.f188 := by kernel_rfl
/- (rung/slave.both).does -/
def a190 : ACode := (.seq (.reg [⟨(some 3), .box (.t 0), none, false⟩, ⟨(some 4), .box (.t 1), none, false⟩, ⟨(some 5), .box (.t 2), none, false⟩, ⟨(some 6), .alloc [(2, (.int .u8 0)), (2, (.int .u16 0)), (2, .nils)], none, false⟩])
 (.seq (.reg [⟨(some 7), .load true 2 (.t 4), none, false⟩, ⟨(some 8), .fld 3 1 false (.t 5), none, false⟩, ⟨(some 9), .load false 1 (.t 8), none, false⟩, ⟨(some 10), .fld 5 1 false (.t 5), none, false⟩, ⟨(some 11), .load false 1 (.t 10), none, false⟩, ⟨(some 12), .call 187 [(.t 7), (.t 9), (.t 11)], none, false⟩])
 (.seq (.draw [⟨0, ⟨(some 13), .fld 0 1 false (.t 5), none, false⟩, false, [], []⟩, ⟨1, ⟨(some 14), .load false 1 (.t 13), none, false⟩, false, [], []⟩, ⟨2, ⟨(some 15), .load true 2 (.t 4), none, false⟩, false, [], []⟩, ⟨3, ⟨(some 16), .fld 1 1 false (.t 5), none, false⟩, false, [], []⟩, ⟨4, ⟨(some 17), .load false 1 (.t 16), none, false⟩, false, [], []⟩, ⟨5, ⟨(some 18), .fld 2 1 false (.t 5), none, false⟩, false, [], []⟩, ⟨6, ⟨(some 19), .load false 1 (.t 18), none, false⟩, false, [], []⟩, ⟨7, ⟨(some 20), .conv (.int .i64) (.t 19), none, false⟩, false, [], []⟩, ⟨8, ⟨(some 21), .call 181 [(.t 15), (.t 17), (.t 20)], none, false⟩, true, [], [(.t 13)]⟩, ⟨9, ⟨(some 22), .build [(.int .u8 0), (.int .u8 0), (.int .u16 0), (.int .u16 0), .nils, .nils] [(0, 1, (.t 14)), (5, 1, (.t 21))], none, false⟩, false, [], []⟩, ⟨10, ⟨none, .store 6 (.t 6) (.t 22), none, false⟩, true, [], []⟩])
 .ret)))
def r190 : List ARes := [.cell 6 true 6]
theorem c190 : compF Try.prog Try.f190 = some (a190, r190) := by kernel_rfl

theorem b190 : hasBody Try.prog 190 = true := by kernel_rfl
theorem g190 : Try.prog.funcs[190]? = some Try.f190 := by kernel_rfl

/-- rows become values beside a block -/
def FrzB (v2 : AV) (c2 : Chunk) (v : AV) (s : St) : Prop := ∃ v1 s1, Frz v s v1 s1 ∧ Le v1 v2 ∧ s1.get 0 = some c2
theorem FrzB.le {v2 v : AV} {c2 : Chunk} {s : St} (h : Le v v2) (hs : s.get 0 = some c2) : FrzB v2 c2 v s := ⟨v, s, .refl _ _, h, hs⟩
theorem FrzB.step {v2 v : AV} {c2 : Chunk} {s : St} (h : Nat) {c : Chunk} (hg : s.get h = some c) (ht : FrzB v2 c2 (v.frz h c) (s.drop h)) : FrzB v2 c2 v s := by
  obtain ⟨v1, s1, h1, h2, h3⟩ := ht
  exact ⟨v1, s1, .step _ _ h c _ _ hg h1, h2, h3⟩
theorem FrzB.im {f : Nat} {args : List AV} {I J : Img} {v2 : AV} (h0 : v2.hok 0 nor = true)
    (h : Tr Try.prog f args ⟨1, [(0, some (imC I))]⟩ (FrzB v2 (imC J))) : ImT f args I v2 J := imFrz h0 h
theorem FrzB.rm {f : Nat} {args : List AV} {I J : Img} {v2 : AV} (h0 : v2.hok 0 nor = true)
    (h : Tr Try.prog f args ⟨1, [(0, some (rmC I))]⟩ (FrzB v2 (rmC J))) : RmT f args I v2 J := imFrz h0 h
def bitI (t : Bool) : Int := if t then 1 else 0
def maskV (v a o : Int) : Int := IntKind.u16.wrap ↑(BitVec.ofInt IntKind.u16.bits (IntKind.u16.wrap ↑(BitVec.ofInt IntKind.u16.bits v &&& BitVec.ofInt IntKind.u16.bits a).toNat) ||| BitVec.ofInt IntKind.u16.bits (IntKind.u16.wrap ↑(BitVec.ofInt IntKind.u16.bits o &&& ~~~BitVec.ofInt IntKind.u16.bits a).toNat)).toNat
theorem maskV_pos (v a o : Int) : 0 ≤ maskV v a o ∧ maskV v a o < 65536 := ⟨Int.emod_nonneg _ (by decide), Int.emod_lt_of_pos _ (by decide)⟩
theorem wLen (n : Nat) (h : n ≤ 4000) : IntKind.u16.wrap (n : Int) = n := Int.emod_eq_of_lt (by omega) (by show (n : Int) < 65536; omega)
set_option maxRecDepth 20000 in
theorem d179_tr (I : Img) (f a n a2 : Int) (b : List Bool) (r : List Int) (ha : 0 ≤ a ∧ a < 65536) (hn : 0 ≤ n ∧ n ≤ 4000) :
    ImT 179 [.agg [], tbA f, reqA f a n a2 (.roB b) (.roI .u16 r)] I (repA f 0 0 0 (.roB []) (.roI .u16 (tgs I.o f a n.toNat))) I := by
  have hN : IntKind.i64.wrap n = n := w64i (by omega) (by omega)
  refine FrzB.im rfl (trF g179 b179 c179 ?_)
  conv => whnf
  rw [hN]
  refine allCall (sregs_tr I f a n ha hn) rfl rfl rfl ?_
  conv => whnf
  refine ⟨rfl, ?_⟩
  conv => whnf
  refine FrzB.step 5 rfl ?_
  refine FrzB.le (Le.agg ⟨Le.refl _, Le.refl _, Le.refl _, Le.refl _, Le.nilB, ?_, trivial⟩) rfl
  rw [frz_row 5 .u16 _ _ rfl]
  exact Le.refl _
set_option maxRecDepth 20000 in
theorem d190_tr (I : Img) (f a n a2 : Int) (b : List Bool) (r : List Int) (ha : 0 ≤ a ∧ a < 65536) (hn : 0 ≤ n ∧ n ≤ 4000) (ha2 : 0 ≤ a2 ∧ a2 < 65536) (hr : r.length ≤ 500) (hx : ∀ x ∈ r, 0 ≤ x) :
    ImT 190 [.agg [], tbA f, reqA f a n a2 (.roB b) (.roI .u16 r)] I (repA f 0 0 0 (.roB []) (.roI .u16 (tgs (tps I f a2 r).o f a n.toNat))) (tps I f a2 r) := by
  have hN : IntKind.i64.wrap n = n := w64i (by omega) (by omega)
  refine FrzB.im rfl (trF g190 b190 c190 ?_)
  conv => whnf
  refine blkCall (write_tr I f a2 r ha2 (by omega) hx) rfl rfl rfl ?_
  conv => whnf
  rw [hN]
  refine allCall (sregs_tr (tps I f a2 r) f a n ha hn) rfl rfl rfl ?_
  conv => whnf
  refine ⟨rfl, ?_⟩
  conv => whnf
  refine FrzB.step 5 rfl ?_
  refine FrzB.le (Le.agg ⟨Le.refl _, Le.refl _, Le.refl _, Le.refl _, Le.nilB, ?_, trivial⟩) rfl
  rw [frz_row 5 .u16 _ _ rfl]
  exact Le.refl _
set_option maxRecDepth 20000 in
theorem d185_tr (I : Img) (f a n a2 : Int) (b : List Bool) (r : List Int) (ha : 0 ≤ a ∧ a < 65536) (hr : r.length ≤ 500) (hx : ∀ x ∈ r, 0 ≤ x) :
    ImT 185 [.agg [], tbA f, reqA f a n a2 (.roB b) (.roI .u16 r)] I (repA f 0 a (if f == 16 then r.length else 0) (.roB []) (.roI .u16 (if f == 16 then [] else r))) (tps I f a r) := by
  refine FrzB.im rfl (trF g185 b185 c185 ?_)
  conv => whnf
  refine blkCall (write_tr I f a r ha (by omega) hx) rfl rfl rfl ?_
  conv => whnf
  refine condF (fun h => ?_) (fun h => ?_)
  · conv => whnf
    refine FrzB.le ?_ rfl
    rw [h]
    exact Le.agg ⟨Le.refl _, Le.refl _, Le.refl _, Le.refl _, Le.nilB, Le.refl _, trivial⟩
  · conv => whnf
    refine FrzB.le ?_ rfl
    rw [h, wLen _ (by omega)]
    exact Le.agg ⟨Le.refl _, Le.refl _, Le.refl _, Le.refl _, Le.nilB, Le.nilI _, trivial⟩
set_option maxRecDepth 20000 in
theorem d188_tr (I : Img) (f a n a2 : Int) (b : List Bool) (r : List Int) (ha : 0 ≤ a ∧ a < 65536) (hr : r.length = 2) :
    ImT 188 [.agg [], tbA f, reqA f a n a2 (.roB b) (.roI .u16 r)] I (repA f 0 a 0 (.roB []) (.roI .u16 r)) (tp I f a (maskV (tg I.o f a) (r.getD 0 0) (r.getD 1 0))) := by
  refine FrzB.im rfl (trF g188 b188 c188 ?_)
  conv => whnf
  refine condT (by simp; omega) ?_
  conv => whnf
  refine condT (by simp; omega) ?_
  conv => whnf
  refine blkCall (tget_tr I f a 0 ha (by omega)) rfl rfl rfl ?_
  conv => whnf
  refine ⟨rfl, ?_⟩
  conv => whnf
  refine ⟨rfl, ?_⟩
  conv => whnf
  refine blkCall (tput_tr I f a 0 (maskV (tg I.o f (a + 0)) (r.getD 0 0) (r.getD 1 0)) ha (by omega) (maskV_pos _ _ _).1) rfl rfl rfl ?_
  conv => whnf
  rw [Int.add_zero]
  exact FrzB.le (Le.agg ⟨Le.refl _, Le.refl _, Le.refl _, Le.refl _, Le.nilB, Le.refl _, trivial⟩) rfl
set_option maxRecDepth 20000 in
theorem d174_tr (I : Img) (f a n a2 : Int) (b : List Bool) (r : List Int) (ha : 0 ≤ a ∧ a < 65536) (hn : 0 ≤ n ∧ n ≤ 4000) :
    ImT 174 [.agg [], tbA f, reqA f a n a2 (.roB b) (.roI .u16 r)] I (repA f 0 0 0 (.roB ((tgs I.o f a n.toNat).map fun x => x != 0)) (.roI .u16 [])) I := by
  have hN : IntKind.i64.wrap n = n := w64i (by omega) (by omega)
  refine FrzB.im rfl (trF g174 b174 c174 ?_)
  conv => whnf
  rw [hN]
  refine loopI (α := {i : Nat // i ≤ n.toNat}) (fun i => [(4, .ptr 2 0), (5, .ptr 3 0), (6, .ptr 4 0), (7, .ptr 5 0), (14, .int .i64 n), (15, .int .i64 i.1)])
      (fun i => ⟨6, [(1, some (.rowB ((tgs I.o f a i.1).map fun x => x != 0))), (0, some (imC I)), (2, some (.obj [.ptr 0 0, .int .u8 f])), (3, some (.obj [.int .u8 f, .int .u16 a, .int .u16 n, .int .u16 a2, .roB b, .roI .u16 r])), (4, some (.obj [.int .u8 0, .int .u8 0, .int .u16 0, .int .u16 0, .nils, .nils])), (5, some (.obj [.int .u8 f, .int .u8 0, .int .u16 0, .int .u16 0, .sl 1 1 0 i.1, .nils]))]⟩) (fun i => n.toNat - i.1) ⟨0, Nat.zero_le _⟩
      ⟨[(1, none)], rfl, rfl, rfl, ⟨⟨rfl, rfl⟩, ⟨rfl, rfl⟩, ⟨rfl, rfl⟩, ⟨rfl, rfl⟩, ⟨rfl, rfl⟩, ⟨rfl, rfl⟩, trivial⟩, ⟨⟨trivial, rfl, rfl⟩, ⟨trivial, rfl, rfl⟩, ⟨rfl, rfl, rfl⟩, ⟨rfl, rfl, rfl⟩, ⟨rfl, rfl, rfl⟩, ⟨rfl, rfl, rfl⟩, trivial⟩⟩ fun ⟨i, hi⟩ => ?_
  conv => whnf
  by_cases hlt : i < n.toNat
  · have hl : ((tgs I.o f a i).map fun x => x != 0).length = i := by simp [tgs_length]
    refine condY (by simp; omega) ?_
    conv => whnf
    refine blkCall (tget_tr I f a i ha (by omega)) rfl rfl rfl ?_
    conv => whnf
    refine ⟨rfl, ?_⟩
    conv => whnf
    refine condT (by simp [tgs_length]; omega) ?_
    conv => whnf
    refine ⟨⟨i + 1, hlt⟩, ⟨[(1, some 7)], rfl, rfl, rfl, ⟨⟨rfl, rfl⟩, ⟨rfl, rfl⟩, ⟨rfl, rfl⟩, ⟨rfl, rfl⟩, ⟨rfl, rfl⟩, ⟨?_, rfl⟩, trivial⟩, ⟨⟨trivial, rfl, ?_⟩, ⟨trivial, rfl, rfl⟩, ⟨rfl, rfl, rfl⟩, ⟨rfl, rfl, rfl⟩, ⟨rfl, rfl, rfl⟩, ⟨rfl, rfl, rfl⟩, trivial⟩⟩, by show n.toNat - (i + 1) < n.toNat - i; omega⟩
    · show AV.int .i64 (IntKind.i64.wrap ((i : Int) + 1)) = AV.int .i64 ((i + 1 : Nat) : Int)
      rw [s64 (by omega)]
    · show some (Chunk.rowB ((((tgs I.o f a i).map fun x => x != 0).drop 0).take i ++ ([tg I.o f (a + i) != 0].drop 0).take 1)) = some (Chunk.rowB ((tgs I.o f a (i + 1)).map fun x => x != 0))
      rw [tgs_succ, List.drop_zero, List.map_append]
      conv => lhs; rw [List.take_of_length_le (by omega)]
      rfl
  · obtain rfl : i = n.toNat := by omega
    refine condN (by simp; omega) ?_
    conv => whnf
    refine FrzB.step 1 rfl ?_
    refine FrzB.le (Le.agg ⟨Le.refl _, Le.refl _, Le.refl _, Le.refl _, ?_, Le.nilI _, trivial⟩) rfl
    rw [frz_rowB 1 _ _ (by simp [tgs_length])]
    exact Le.refl _
set_option maxRecDepth 20000 in
theorem d182_tr (I : Img) (f a n a2 : Int) (b : List Bool) (r : List Int) (ha : 0 ≤ a ∧ a < 65536) (hb : b.length ≤ 2500) :
    ImT 182 [.agg [], tbA f, reqA f a n a2 (.roB b) (.roI .u16 r)] I (repA f 0 a (if f == 15 then b.length else 0) (.roB (if f == 15 then [] else b)) (.roI .u16 [])) (tps I f a (b.map bitI)) := by
  refine FrzB.im rfl (trF g182 b182 c182 ?_)
  conv => whnf
  refine loopI (α := {i : Nat // i ≤ b.length}) (fun i => [(4, .ptr 2 0), (5, .ptr 3 0), (6, .ptr 4 0), (11, .roB b), (12, .int .i64 b.length), (13, .int .i64 i.1)])
      (fun i => ⟨5, [(0, some (imC (tpsN I f a (b.map bitI) i.1))), (2, some (.obj [.ptr 0 0, .int .u8 f])), (3, some (.obj [.int .u8 f, .int .u16 a, .int .u16 n, .int .u16 a2, .roB b, .roI .u16 r])), (4, some (.obj [.int .u8 0, .int .u8 0, .int .u16 0, .int .u16 0, .nils, .nils]))]⟩) (fun i => b.length - i.1) ⟨0, Nat.zero_le _⟩
      ⟨[], rfl, rfl, rfl, ⟨⟨rfl, rfl⟩, ⟨rfl, rfl⟩, ⟨rfl, rfl⟩, ⟨rfl, rfl⟩, ⟨rfl, rfl⟩, ⟨rfl, rfl⟩, trivial⟩, ⟨⟨trivial, rfl, rfl⟩, ⟨rfl, rfl, rfl⟩, ⟨rfl, rfl, rfl⟩, ⟨rfl, rfl, rfl⟩, trivial⟩⟩ fun ⟨i, hi⟩ => ?_
  conv => whnf
  by_cases hlt : i < b.length
  · refine condY (by simp; omega) ?_
    conv => whnf
    refine condT (by simp; omega) ?_
    conv => whnf
    have hg : (b.map bitI).getD i 0 = bitI (b.getD i false) := by simp [List.getD_eq_getElem?_getD, List.getElem?_eq_getElem hlt]
    have hs : ∀ K : Img → Prop, K (tpsN I f a (b.map bitI) (i + 1)) → K (tp (tpsN I f a (b.map bitI) i) f (a + i) (bitI (b.getD i false))) := fun K h => by rw [← hg]; exact h
    refine condF (fun h => ?_) (fun h => ?_)
    · have hv : bitI (b.getD i false) = 0 := by
        have : b.getD i false = false := h
        rw [this]; rfl
      rw [hv] at hs
      conv => whnf
      refine blkCall (tput_tr (tpsN I f a (b.map bitI) i) f a i 0 ha (by omega) (by decide)) rfl rfl rfl ?_
      conv => whnf
      refine ⟨⟨i + 1, hlt⟩, ⟨[], rfl, rfl, rfl, ⟨⟨rfl, rfl⟩, ⟨rfl, rfl⟩, ⟨rfl, rfl⟩, ⟨rfl, rfl⟩, ⟨rfl, rfl⟩, ⟨?_, rfl⟩, trivial⟩, ⟨⟨trivial, rfl, ?_⟩, ⟨rfl, rfl, rfl⟩, ⟨rfl, rfl, rfl⟩, ⟨rfl, rfl, rfl⟩, trivial⟩⟩, by show b.length - (i + 1) < b.length - i; omega⟩
      · show AV.int .i64 (IntKind.i64.wrap ((i : Int) + 1)) = AV.int .i64 ((i + 1 : Nat) : Int)
        rw [s64 (by omega)]
      · exact hs (fun J => some (imC J) = some (imC (tpsN I f a (b.map bitI) (i + 1)))) rfl
    · have hv : bitI (b.getD i false) = 1 := by
        have : b.getD i false = true := h
        rw [this]; rfl
      rw [hv] at hs
      conv => whnf
      refine blkCall (tput_tr (tpsN I f a (b.map bitI) i) f a i 1 ha (by omega) (by decide)) rfl rfl rfl ?_
      conv => whnf
      refine ⟨⟨i + 1, hlt⟩, ⟨[], rfl, rfl, rfl, ⟨⟨rfl, rfl⟩, ⟨rfl, rfl⟩, ⟨rfl, rfl⟩, ⟨rfl, rfl⟩, ⟨rfl, rfl⟩, ⟨?_, rfl⟩, trivial⟩, ⟨⟨trivial, rfl, ?_⟩, ⟨rfl, rfl, rfl⟩, ⟨rfl, rfl, rfl⟩, ⟨rfl, rfl, rfl⟩, trivial⟩⟩, by show b.length - (i + 1) < b.length - i; omega⟩
      · show AV.int .i64 (IntKind.i64.wrap ((i : Int) + 1)) = AV.int .i64 ((i + 1 : Nat) : Int)
        rw [s64 (by omega)]
      · exact hs (fun J => some (imC J) = some (imC (tpsN I f a (b.map bitI) (i + 1)))) rfl
  · obtain rfl : i = b.length := by omega
    refine condN (by simp) ?_
    conv => whnf
    have hT : tps I f a (b.map bitI) = tpsN I f a (b.map bitI) b.length := by rw [tps, List.length_map]
    rw [hT]
    refine condF (fun h => ?_) (fun h => ?_)
    · conv => whnf
      refine FrzB.le ?_ rfl
      rw [h]
      exact Le.agg ⟨Le.refl _, Le.refl _, Le.refl _, Le.refl _, Le.refl _, Le.nilI _, trivial⟩
    · conv => whnf
      refine FrzB.le ?_ rfl
      rw [h, wLen _ (by omega)]
      exact Le.agg ⟨Le.refl _, Le.refl _, Le.refl _, Le.refl _, Le.nilB, Le.nilI _, trivial⟩
end Go.Proofs.Ytomodeliimnddaa
set_option linter.unusedVariables false
set_option linter.unusedSimpArgs false
namespace Go.Proofs.Ytomodeliimnddaa
open Go.Ab
theorem u8_lo (n : Int) : 0 ≤ IntKind.u8.wrap n ∧ IntKind.u8.wrap n < 256 := ⟨Int.emod_nonneg _ (by decide), Int.emod_lt_of_pos _ (by decide)⟩
theorem u8_in (n : Int) (h : 0 ≤ n) (h' : n < 256) : IntKind.u8.wrap n = n := Int.emod_eq_of_lt h h'
theorem u16_in (n : Int) (h : 0 ≤ n) (h' : n < 65536) : IntKind.u16.wrap n = n := Int.emod_eq_of_lt h h'
theorem num16_eq (a b : Int) (h0 : 0 ≤ a) (h1 : a < 256) (h2 : 0 ≤ b) (h3 : b < 256) : num16 a b = 256 * a + b := by
  obtain ⟨x, rfl⟩ := Int.eq_ofNat_of_zero_le h0
  obtain ⟨y, rfl⟩ := Int.eq_ofNat_of_zero_le h2
  unfold num16
  rw [u16_in (x : Int) (by omega) (by omega), u16_in (y : Int) (by omega) (by omega), u16_in ((x : Int) * 2 ^ 8) (by omega) (by omega)]
  have e : (BitVec.ofInt 16 ((x : Int) * 2 ^ 8) ||| BitVec.ofInt 16 (y : Int)).toNat = 256 * x + y := by
    rw [BitVec.toNat_or, BitVec.toNat_ofInt, BitVec.toNat_ofInt]
    have a1 : (((x : Int) * 2 ^ 8) % ((2 ^ 16 : Nat) : Int)).toNat = 2 ^ 8 * x := by
      rw [Int.emod_eq_of_lt (by omega) (by omega)]; omega
    have a2 : ((y : Int) % ((2 ^ 16 : Nat) : Int)).toNat = y := by
      rw [Int.emod_eq_of_lt (by omega) (by omega)]; omega
    rw [a1, a2, ← Nat.two_pow_add_eq_or_of_lt (by omega)]
  rw [e, u16_in _ (by omega) (by omega)]
  omega
theorem hi8_eq (x : Int) (h0 : 0 ≤ x) (h1 : x < 65536) : hi8 x = x / 256 := by
  unfold hi8
  rw [Int.fdiv_eq_ediv_of_nonneg _ (by decide), u8_in _ (by omega) (by omega)]
  rfl
theorem num_two (x : Int) (h0 : 0 ≤ x) (h1 : x < 65536) : num16 (hi8 x) (IntKind.u8.wrap x) = x := by
  rw [num16_eq (hi8 x) _ (show 0 ≤ hi8 x from (u8_lo _).1) (show hi8 x < 256 from (u8_lo _).2) (u8_lo _).1 (u8_lo _).2, hi8_eq x h0 h1]
  show 256 * (x / 256) + x % 256 = x
  omega
theorem twos_getD (r : List Int) : ∀ (i : Nat), i < r.length → (twos r).getD (2 * i) 0 = hi8 (r.getD i 0) ∧ (twos r).getD (2 * i + 1) 0 = IntKind.u8.wrap (r.getD i 0) := by
  induction r with
  | nil => intro i hi; simp at hi
  | cons x r ih =>
    intro i hi
    cases i with
    | zero => exact ⟨rfl, rfl⟩
    | succ i =>
      have := ih i (by simpa using hi)
      exact this
theorem nums_twos (r : List Int) (hr : ∀ n ∈ r, 0 ≤ n ∧ n < 65536) : ∀ i, i ≤ r.length → numsN (twos r) i = r.take i := by
  intro i
  induction i with
  | zero => intro _; simp [numsN]
  | succ i ih =>
    intro hi
    obtain ⟨h1, h2⟩ := twos_getD r i (by omega)
    rw [numsN, ih (by omega), h1, h2]
    have hm : r.getD i 0 ∈ r := by
      rw [List.getD_eq_getElem?_getD, List.getElem?_eq_getElem (by omega)]
      exact List.getElem_mem _
    rw [num_two _ (hr _ hm).1 (hr _ hm).2, List.take_add_one, List.getD_eq_getElem?_getD, List.getElem?_eq_getElem (by omega)]
    rfl
theorem last_fin : ∀ a : Fin 256, ∀ k : Fin 8, lastB (a.val : Int) (a.val : Int) k.val = a.val := by decide +kernel
theorem last_same (x : Int) (h0 : 0 ≤ x) (h1 : x < 256) (n : Nat) : lastB x x n = x := by
  obtain ⟨y, rfl⟩ := Int.eq_ofNat_of_zero_le h0
  have := last_fin ⟨y, by omega⟩ ⟨n % 8, by omega⟩
  unfold lastB at *
  simpa using this
theorem or_fin : ∀ i j : Fin 8, ∀ a : Fin 256, bitE (orBit (a.val : Int) i.val) j.val = (decide (j = i) || bitE (a.val : Int) j.val) := by decide +kernel
theorem or_bit (a : Int) (h0 : 0 ≤ a) (h1 : a < 256) (i j : Nat) : bitE (orBit a i) j = (decide (j % 8 = i % 8) || bitE a j) := by
  obtain ⟨y, rfl⟩ := Int.eq_ofNat_of_zero_le h0
  have := or_fin ⟨i % 8, by omega⟩ ⟨j % 8, by omega⟩ ⟨y, by omega⟩
  unfold bitE orBit at *
  simpa [Fin.ext_iff] using this
theorem packN_byte (l : List Bool) : ∀ i k, 0 ≤ (packN l i).getD k 0 ∧ (packN l i).getD k 0 < 256 := by
  intro i
  induction i with
  | zero =>
    intro k
    simp only [packN, List.getD_eq_getElem?_getD, List.getElem?_replicate]
    split <;> simp
  | succ i ih =>
    intro k
    simp only [packN]
    split
    · simp only [List.getD_eq_getElem?_getD, List.getElem?_set]
      split
      · split
        · exact u8_lo _
        · simp
      · have := ih k
        simpa [List.getD_eq_getElem?_getD] using this
    · exact ih k
theorem bitE_zero (j : Nat) : bitE 0 j = false := by
  unfold bitE
  rw [Int.zero_fdiv]
  decide
theorem pack_bit (l : List Bool) : ∀ i, i ≤ l.length → ∀ j, j < l.length → bitAt (packN l i) j = (decide (j < i) && l.getD j false) := by
  intro i
  induction i with
  | zero =>
    intro _ j hj
    simp only [bitAt, packN, List.getD_eq_getElem?_getD, List.getElem?_replicate]
    split <;> simp [bitE_zero]
  | succ i ih =>
    intro hi j hj
    have ih := ih (by omega) j hj
    simp only [bitAt, packN_length] at ih ⊢
    have hd : decide (j / 8 < (l.length + 7) / 8) = true := by simp; omega
    rw [hd, Bool.true_and] at ih ⊢
    simp only [packN]
    cases hb : l.getD i false with
    | true =>
      simp only [if_true]
      by_cases hk : j / 8 = i / 8
      · have e : ((packN l i).set (i / 8) (orBit ((packN l i).getD (i / 8) 0) i)).getD (j / 8) 0 = orBit ((packN l i).getD (i / 8) 0) i := by
          rw [hk, List.getD_eq_getElem?_getD, List.getElem?_set, if_pos rfl, if_pos (by rw [packN_length]; omega)]
          rfl
        rw [e, or_bit _ (packN_byte l i _).1 (packN_byte l i _).2, ← hk, ih]
        by_cases hji : j = i
        · subst hji; rw [hb]; simp
        · have : ¬ (j % 8 = i % 8) := by omega
          simp only [this, decide_false, Bool.false_or]
          have h2 : (j < i) ↔ (j < i + 1) := by omega
          simp [h2]
      · have e : ((packN l i).set (i / 8) (orBit ((packN l i).getD (i / 8) 0) i)).getD (j / 8) 0 = (packN l i).getD (j / 8) 0 := by
          rw [List.getD_eq_getElem?_getD, List.getElem?_set, if_neg (fun h => hk h.symm)]
          rfl
        rw [e, ih]
        have h2 : (j < i) ↔ (j < i + 1) := by
          have : j ≠ i := fun h => hk (by rw [h])
          omega
        simp [h2]
    | false =>
      simp only [Bool.false_eq_true, if_false]
      rw [ih]
      by_cases hji : j = i
      · subst hji; rw [hb]; simp
      · have h2 : (j < i) ↔ (j < i + 1) := by omega
        simp [h2]
theorem bits_pack (l : List Bool) : ∀ i, i ≤ l.length → bitsA (packN l l.length) i = l.take i := by
  intro i
  induction i with
  | zero => intro _; simp [bitsA]
  | succ i ih =>
    intro hi
    rw [bitsA, ih (by omega), pack_bit l l.length (Nat.le_refl _) i (by omega), List.take_add_one]
    have : i < l.length := by omega
    simp [this]

theorem numAt_two (x : Int) (h0 : 0 ≤ x) (h1 : x < 65536) (t : List Int) : numAt (two8 x ++ t) 0 = x := num_two x h0 h1

/-! ### a request's bytes are read as that request -/
def isB (l : List Int) : Prop := ∀ x ∈ l, 0 ≤ x ∧ x < 256
theorem isB.app {l m : List Int} (h : isB l) (k : isB m) : isB (l ++ m) := fun x hx => by
  rcases List.mem_append.1 hx with h1 | h1
  · exact h x h1
  · exact k x h1
theorem isB.getD {l : List Int} (h : isB l) (k : Nat) : 0 ≤ l.getD k 0 ∧ l.getD k 0 < 256 := by
  rw [List.getD_eq_getElem?_getD]
  by_cases hk : k < l.length
  · rw [List.getElem?_eq_getElem hk]; exact h _ (List.getElem_mem _)
  · rw [List.getElem?_eq_none (by omega)]; decide
theorem isB_two (x : Int) : isB (two8 x) := fun y hy => by
  simp only [two8, List.mem_cons, List.not_mem_nil, or_false] at hy
  rcases hy with rfl | rfl
  · exact u8_lo _
  · exact u8_lo _
theorem isB_twos : ∀ r : List Int, isB (twos r)
  | [] => fun x hx => by cases hx
  | y :: r => (isB_two y).app (isB_twos r)
theorem isB_one (x : Int) : isB [IntKind.u8.wrap x] := fun y hy => by
  simp only [List.mem_cons, List.not_mem_nil, or_false] at hy
  subst hy; exact u8_lo _
theorem isB_f (f : Int) (h0 : 0 ≤ f) (h1 : f < 256) : isB [f] := fun y hy => by
  simp only [List.mem_cons, List.not_mem_nil, or_false] at hy
  subst hy; exact ⟨h0, h1⟩
theorem isB_nil : isB [] := fun x hx => by cases hx
theorem isB_pack (l : List Bool) (i : Nat) : isB (packN l i) := fun x hx => by
  obtain ⟨k, hk⟩ := List.getElem?_of_mem hx
  have := packN_byte l i k
  rw [List.getD_eq_getElem?_getD, hk] at this
  exact this
theorem enc_byte (f a n a2 : Int) (b : List Bool) (r : List Int) (h0 : 0 ≤ f) (h1 : f < 256) : isB (encR f a n a2 b r) := by
  have hf := isB_f f h0 h1
  have ht := isB_two
  unfold encR
  by_cases ho : encOk f n a2 b r = true
  · rw [if_pos ho]
    unfold reqS
    by_cases h1 : (f == 1) = true
    · rw [if_pos h1]; exact (hf.app (ht _)).app (ht _)
    rw [if_neg h1]
    by_cases h2 : (f == 2) = true
    · rw [if_pos h2]; exact (hf.app (ht _)).app (ht _)
    rw [if_neg h2]
    by_cases h3 : (f == 3) = true
    · rw [if_pos h3]; exact (hf.app (ht _)).app (ht _)
    rw [if_neg h3]
    by_cases h4 : (f == 4) = true
    · rw [if_pos h4]; exact (hf.app (ht _)).app (ht _)
    rw [if_neg h4]
    by_cases h5 : (f == 5) = true
    · rw [if_pos h5]; exact (hf.app (ht _)).app (ht _)
    rw [if_neg h5]
    by_cases h6 : (f == 6) = true
    · rw [if_pos h6]; exact (hf.app (ht _)).app (isB_twos _)
    rw [if_neg h6]
    by_cases h22 : (f == 22) = true
    · rw [if_pos h22]; exact (hf.app (ht _)).app (isB_twos _)
    rw [if_neg h22]
    by_cases h15 : (f == 15) = true
    · rw [if_pos h15]; exact (((hf.app (ht _)).app (ht _)).app (isB_one _)).app (isB_pack _ _)
    rw [if_neg h15]
    by_cases h16 : (f == 16) = true
    · rw [if_pos h16]; exact (((hf.app (ht _)).app (ht _)).app (isB_one _)).app (isB_twos _)
    rw [if_neg h16]
    by_cases h23 : (f == 23) = true
    · rw [if_pos h23]; exact (((((hf.app (ht _)).app (ht _)).app (ht _)).app (ht _)).app (isB_one _)).app (isB_twos _)
    rw [if_neg h23]
    exact isB_nil
  · rw [if_neg ho]; exact isB_nil
theorem coil_range (x : Bool) : 0 ≤ coilN x ∧ coilN x < 65536 := by cases x <;> decide
theorem coil_back (x : Bool) : (coilN x == 65280) = x := by cases x <;> decide
theorem bitsK_len (n : Nat) (h : n ≤ 2000) : bitsK (IntKind.i64.wrap (n : Int)) = n := by
  rw [IntWalk.i64_in _ (by omega)]
  unfold bitsK
  rw [if_neg (show ¬ ((0 : Int) > n) by omega), if_neg (show ¬ ((2000 : Int) < n) by omega)]
  simp
theorem opened_enc (f a n a2 : Int) (b : List Bool) (r : List Int) (ha : 0 ≤ a ∧ a < 65536) (hn : 0 ≤ n ∧ n < 65536) (ha2 : 0 ≤ a2 ∧ a2 < 65536) (hr : ∀ x ∈ r, 0 ≤ x ∧ x < 65536) (hk : encOk f n a2 b r = true) :
    openedS (encR f a n a2 b r) = (⟨f, a, n, a2, b, r⟩, true) := by
  have na := num_two a ha.1 ha.2
  have nn := num_two n hn.1 hn.2
  have n2 := num_two a2 ha2.1 ha2.2
  have nr := nums_twos r hr r.length (Nat.le_refl _)
  have nb := bits_pack b b.length (Nat.le_refl _)
  rw [List.take_length] at nr nb
  unfold encR
  rw [if_pos hk]
  by_cases h1 : f = 1
  · subst h1
    simp [encOk, withinB] at hk
    obtain ⟨⟨⟨_, rfl⟩, rfl⟩, rfl⟩ := hk
    simp [reqS, openedS, openedT, cutF_eq, pre3, two8, numAt, na, nn]
  by_cases h2 : f = 2
  · subst h2
    simp [encOk, withinB] at hk
    obtain ⟨⟨⟨_, rfl⟩, rfl⟩, rfl⟩ := hk
    simp [reqS, openedS, openedT, cutF_eq, pre3, two8, numAt, na, nn]
  by_cases h3 : f = 3
  · subst h3
    simp [encOk, withinB] at hk
    obtain ⟨⟨⟨_, rfl⟩, rfl⟩, rfl⟩ := hk
    simp [reqS, openedS, openedT, cutF_eq, pre3, two8, numAt, na, nn]
  by_cases h4 : f = 4
  · subst h4
    simp [encOk, withinB] at hk
    obtain ⟨⟨⟨_, rfl⟩, rfl⟩, rfl⟩ := hk
    simp [reqS, openedS, openedT, cutF_eq, pre3, two8, numAt, na, nn]
  by_cases h5 : f = 5
  · subst h5
    simp [encOk, withinB] at hk
    obtain ⟨⟨⟨rfl, hb⟩, rfl⟩, rfl⟩ := hk
    match b, hb with
    | [x], _ =>
      have nc := num_two (coilN x) (coil_range x).1 (coil_range x).2
      simp [reqS, openedS, openedT, cutF_eq, pre3, two8, numAt, na, nc]
      exact eq_of_beq (by cases x <;> rfl)
  by_cases h6 : f = 6
  · subst h6
    simp [encOk, withinB] at hk
    obtain ⟨⟨⟨rfl, rfl⟩, hb⟩, rfl⟩ := hk
    simp [reqS, openedS, openedT, cutF_eq, pre3, two8, numAt, na, twos_length, nr, hb]
  by_cases h22 : f = 22
  · subst h22
    simp [encOk, withinB] at hk
    obtain ⟨⟨⟨rfl, rfl⟩, hb⟩, rfl⟩ := hk
    simp [reqS, openedS, openedT, cutF_eq, pre3, two8, numAt, na, twos_length, nr, hb]
  by_cases h15 : f = 15
  · subst h15
    simp [encOk, withinB] at hk
    obtain ⟨⟨⟨rfl, hb⟩, rfl⟩, rfl⟩ := hk
    have nl := num_two (IntKind.u16.wrap b.length) (wrap16_range _).1 (wrap16_range _).2
    have nl2 : IntKind.u16.wrap (b.length : Int) = b.length := u16_in _ (by omega) (by omega)
    rw [nl2] at nl
    have nk := bitsK_len b.length (by omega)
    simp [reqS, row15, openedS, openedT, cutF_eq, pre3, two8, numAt, na, nl2, nl, nk, nb]
    rw [if_neg (by omega), if_neg (by omega)]
  by_cases h16 : f = 16
  · subst h16
    simp [encOk, withinB] at hk
    obtain ⟨⟨⟨rfl, rfl⟩, hb⟩, rfl⟩ := hk
    simp [reqS, rowR, openedS, openedT, cutF_eq, pre3, two8, numAt, na, twos_length, nr]
    rw [if_neg (by omega), if_neg (by omega)]
  by_cases h23 : f = 23
  · subst h23
    simp [encOk, withinB] at hk
    obtain ⟨⟨_, rfl⟩, hb⟩ := hk
    simp [reqS, rowR, openedS, openedT, cutF_eq, pre3, two8, numAt, na, nn, n2, twos_length, nr]
    rw [if_neg (by omega), if_neg (by omega)]
  simp [encOk, *] at hk
theorem set_same (l : List Int) (k : Nat) : l.set k (l.getD k 0) = l := by
  by_cases hk : k < l.length
  · rw [List.getD_eq_getElem?_getD, List.getElem?_eq_getElem hk]
    exact List.set_getElem_self hk
  · exact List.set_eq_of_length_le (by omega)
theorem again_same (q : Rq) (l : List Int) (e : Int) (h : isB l) : againS q l l e = l := by
  unfold againS
  split
  · rw [last_same _ (h.getD _).1 (h.getD _).2, set_same]
  · rfl
theorem dec_enc (f a n a2 : Int) (b : List Bool) (r : List Int) (hf : 0 ≤ f ∧ f < 256) (ha : 0 ≤ a ∧ a < 65536) (hn : 0 ≤ n ∧ n < 65536) (ha2 : 0 ≤ a2 ∧ a2 < 65536) (hr : ∀ x ∈ r, 0 ≤ x ∧ x < 65536) (hk : encOk f n a2 b r = true) :
    decS (encR f a n a2 b r) = (⟨f, a, n, a2, b, r⟩, 0) := by
  unfold decS
  rw [opened_enc f a n a2 b r ha hn ha2 hr hk]
  simp only [if_true]
  rw [again_same _ _ _ (enc_byte f a n a2 b r hf.1 hf.2)]
  simp [encE, hk]
end Go.Proofs.Ytomodeliimnddaa
set_option linter.unusedVariables false
set_option linter.unusedSimpArgs false
namespace Go.Proofs.Ytomodeliimnddaa
open Go.Ab
/- rung/rungref3.at -/
def a116 : ACode := (.seq (.reg [⟨(some 4), .mov (.c (.int .u16 0)), none, false⟩])
 (.seq (.draw [⟨0, ⟨(some 5), .mov (.t 0), none, false⟩, false, [], []⟩, ⟨1, ⟨(some 6), .mov (.t 1), none, false⟩, false, [], []⟩, ⟨2, ⟨(some 7), .idx 1 none false (.t 5) (.t 6), none, false⟩, false, [], []⟩, ⟨3, ⟨(some 8), .load false 1 (.t 7), none, false⟩, false, [], []⟩, ⟨4, ⟨(some 9), .conv (.int .u16) (.t 8), none, false⟩, false, [], []⟩, ⟨5, ⟨(some 10), .bin .shl .other (.t 9) (.c (.int .u64 8)), none, false⟩, false, [], []⟩, ⟨6, ⟨(some 11), .mov (.t 0), none, false⟩, false, [], []⟩, ⟨7, ⟨(some 12), .mov (.t 1), none, false⟩, false, [], []⟩, ⟨8, ⟨(some 13), .bin .add .other (.t 12) (.c (.int .i64 1)), none, false⟩, false, [], []⟩, ⟨9, ⟨(some 14), .idx 1 none false (.t 11) (.t 13), none, false⟩, false, [], []⟩, ⟨10, ⟨(some 15), .load false 1 (.t 14), none, false⟩, false, [], []⟩, ⟨11, ⟨(some 16), .conv (.int .u16) (.t 15), none, false⟩, false, [], []⟩, ⟨12, ⟨(some 17), .bin .or .other (.t 10) (.t 16), none, false⟩, false, [], []⟩, ⟨13, ⟨(some 4), .mov (.t 17), none, false⟩, false, [], []⟩])
 .ret))
def r116 : List ARes := [.t 4]
theorem c116 : compF Try.prog Try.f116 = some (a116, r116) := by kernel_rfl

theorem b116 : hasBody Try.prog 116 = true := by kernel_rfl
theorem g116 : Try.prog.funcs[116]? = some Try.f116 := by kernel_rfl
/- rung/rungref3.regs -/
def a117 : ACode := (.seq (.reg [⟨(some 2), .mov (.c .nils), none, false⟩])
 (.seq (.reg [⟨(some 3), .mov (.c .nils), none, false⟩])
 (.seq (.seq (.reg [⟨(some 4), .mov (.c (.int .i64 0)), none, false⟩])
 (.block 0 (.loop (.seq (.seq (.reg [⟨(some 5), .mov (.t 4), none, false⟩, ⟨(some 6), .bin .add .other (.t 5) (.c (.int .i64 1)), none, false⟩, ⟨(some 7), .mov (.t 0), none, false⟩, ⟨(some 8), .len false (.t 7), none, false⟩, ⟨(some 9), .bin .lss .other (.t 6) (.t 8), none, false⟩])
 (.cond (.t 9) .skip
 (.exit 0)))
 (.seq (.block 1 (.reg [⟨(some 12), .mov (.t 3), none, false⟩, ⟨(some 13), .mov (.t 0), none, false⟩, ⟨(some 14), .mov (.t 4), none, false⟩, ⟨(some 15), .call 116 [(.t 13), (.t 14)], none, false⟩, ⟨(some 16), .bslice 1 (.int .u16) [(.int .u16 0)] [(0, 1, (.t 15))] 1, none, false⟩, ⟨(some 17), .app 1 2 (.t 12) (.t 16), none, false⟩, ⟨(some 3), .mov (.t 17), none, false⟩]))
 (.reg [⟨(some 10), .mov (.t 4), none, false⟩, ⟨(some 11), .bin .add .other (.t 10) (.c (.int .i64 2)), none, false⟩, ⟨(some 4), .mov (.t 11), none, false⟩]))))))
 (.seq (.reg [⟨(some 18), .mov (.t 3), none, false⟩, ⟨(some 2), .mov (.t 18), none, false⟩])
 .ret))))
def r117 : List ARes := [.t 2]
theorem c117 : compF Try.prog Try.f117 = some (a117, r117) := by kernel_rfl

theorem b117 : hasBody Try.prog 117 = true := by kernel_rfl
theorem g117 : Try.prog.funcs[117]? = some Try.f117 := by kernel_rfl
/- rung/rungref3.OpenRequest -/
def a54 : ACode := (.seq (.reg [⟨(some 2), .alloc [(1, (.int .u8 0)), (3, (.int .u16 0)), (2, .nils)], none, false⟩, ⟨(some 3), .mov (.c (.int .i64 0)), none, false⟩])
 (.seq (.seq (.reg [⟨(some 10), .mov (.t 0), none, false⟩, ⟨(some 11), .len false (.t 10), none, false⟩, ⟨(some 12), .bin .lss .other (.t 11) (.c (.int .i64 5)), none, false⟩])
 (.cond (.t 12) (.seq (.reg [⟨(some 13), .build [(.int .u8 0), (.int .u16 0), (.int .u16 0), (.int .u16 0), .nils, .nils] [], none, false⟩, ⟨none, .store 6 (.t 2) (.t 13), none, false⟩, ⟨(some 3), .mov (.c (.int .i64 30)), none, false⟩])
 .ret)
 .skip))
 (.seq (.draw [⟨0, ⟨(some 14), .mov (.t 0), none, false⟩, false, [], []⟩, ⟨1, ⟨(some 15), .idx 1 none false (.t 14) (.c (.int .i64 0)), none, false⟩, false, [], []⟩, ⟨2, ⟨(some 16), .load false 1 (.t 15), none, false⟩, false, [], []⟩, ⟨3, ⟨(some 17), .mov (.t 0), none, false⟩, false, [], []⟩, ⟨6, ⟨(some 4), .alloc [(1, (.int .u8 0)), (3, (.int .u16 0)), (2, .nils)], none, false⟩, false, [], []⟩, ⟨4, ⟨(some 18), .call 116 [(.t 17), (.c (.int .i64 1))], none, false⟩, true, [], [(.t 15)]⟩, ⟨5, ⟨(some 19), .build [(.int .u8 0), (.int .u16 0), (.int .u16 0), (.int .u16 0), .nils, .nils] [(0, 1, (.t 16)), (1, 1, (.t 18))], none, false⟩, false, [], []⟩, ⟨7, ⟨none, .store 6 (.t 4) (.t 19), none, false⟩, true, [6], []⟩])
 (.seq (.reg [⟨(some 20), .mov (.t 0), none, false⟩, ⟨(some 21), .call 116 [(.t 20), (.c (.int .i64 3))], none, false⟩, ⟨(some 5), .mov (.t 21), none, false⟩])
 (.seq (.reg [⟨(some 6), .mov (.c (.bool false)), none, false⟩])
 (.seq (.seq (.reg [⟨(some 22), .fld 0 1 false (.t 4), none, false⟩, ⟨(some 23), .load false 1 (.t 22), none, false⟩])
 (.block 0 (.seq (.seq (.reg [⟨(some 25), .bin .eql .other (.t 23) (.c (.int .u8 1)), none, false⟩, ⟨(some 24), .mov (.t 25), none, false⟩])
 (.cond (.t 24) .skip
 (.seq (.reg [⟨(some 26), .bin .eql .other (.t 23) (.c (.int .u8 2)), none, false⟩, ⟨(some 24), .mov (.t 26), none, false⟩])
 (.cond (.t 24) .skip
 (.seq (.reg [⟨(some 27), .bin .eql .other (.t 23) (.c (.int .u8 3)), none, false⟩, ⟨(some 24), .mov (.t 27), none, false⟩])
 (.cond (.t 24) .skip
 (.reg [⟨(some 28), .bin .eql .other (.t 23) (.c (.int .u8 4)), none, false⟩, ⟨(some 24), .mov (.t 28), none, false⟩])))))))
 (.cond (.t 24) (.reg [⟨(some 29), .mov (.t 5), none, false⟩, ⟨(some 30), .fld 2 1 false (.t 4), none, false⟩, ⟨none, .store 1 (.t 30) (.t 29), none, false⟩])
 (.seq (.reg [⟨(some 32), .bin .eql .other (.t 23) (.c (.int .u8 5)), none, false⟩, ⟨(some 31), .mov (.t 32), none, false⟩])
 (.cond (.t 31) (.reg [⟨(some 33), .mov (.t 5), none, false⟩, ⟨(some 34), .bin .eql .other (.t 33) (.c (.int .u16 65280)), none, false⟩, ⟨(some 35), .bslice 1 .bool [(.bool false)] [(0, 1, (.t 34))] 1, none, false⟩, ⟨(some 36), .fld 4 1 false (.t 4), none, false⟩, ⟨none, .store 1 (.t 36) (.t 35), none, false⟩])
 (.seq (.reg [⟨(some 38), .bin .eql .other (.t 23) (.c (.int .u8 6)), none, false⟩, ⟨(some 37), .mov (.t 38), none, false⟩])
 (.cond (.t 37) (.reg [⟨(some 39), .mov (.t 5), none, false⟩, ⟨(some 40), .bslice 1 (.int .u16) [(.int .u16 0)] [(0, 1, (.t 39))] 1, none, false⟩, ⟨(some 41), .fld 5 1 false (.t 4), none, false⟩, ⟨none, .store 1 (.t 41) (.t 40), none, false⟩])
 (.seq (.reg [⟨(some 43), .bin .eql .other (.t 23) (.c (.int .u8 15)), none, false⟩, ⟨(some 42), .mov (.t 43), none, false⟩])
 (.cond (.t 42) (.seq (.seq (.reg [⟨(some 44), .mov (.t 0), none, false⟩, ⟨(some 45), .len false (.t 44), none, false⟩, ⟨(some 46), .bin .lss .other (.t 45) (.c (.int .i64 6)), none, false⟩, ⟨(some 47), .mov (.t 46), none, true⟩, ⟨(some 48), .mov (.t 5), (some (47, false)), false⟩, ⟨(some 49), .bin .lss .other (.t 48) (.c (.int .u16 1)), (some (47, false)), false⟩, ⟨(some 50), .pick (.t 47) (.c (.bool true)) (.t 49), none, false⟩, ⟨(some 51), .mov (.t 50), none, true⟩, ⟨(some 52), .mov (.t 5), (some (51, false)), false⟩, ⟨(some 53), .bin .gtr .other (.t 52) (.c (.int .u16 1968)), (some (51, false)), false⟩, ⟨(some 54), .pick (.t 51) (.c (.bool true)) (.t 53), none, false⟩, ⟨(some 55), .mov (.t 54), none, true⟩, ⟨(some 56), .mov (.t 0), (some (55, false)), false⟩, ⟨(some 57), .len false (.t 56), (some (55, false)), false⟩, ⟨(some 58), .mov (.t 0), (some (55, false)), false⟩, ⟨(some 59), .idx 1 none false (.t 58) (.c (.int .i64 5)), (some (55, false)), false⟩, ⟨(some 60), .load false 1 (.t 59), (some (55, false)), false⟩, ⟨(some 61), .conv (.int .i64) (.t 60), (some (55, false)), false⟩, ⟨(some 62), .bin .add .other (.c (.int .i64 6)) (.t 61), (some (55, false)), false⟩, ⟨(some 63), .bin .neq .other (.t 57) (.t 62), (some (55, false)), false⟩, ⟨(some 64), .pick (.t 55) (.c (.bool true)) (.t 63), none, false⟩])
 (.cond (.t 64) (.seq (.reg [⟨(some 65), .build [(.int .u8 0), (.int .u16 0), (.int .u16 0), (.int .u16 0), .nils, .nils] [], none, false⟩, ⟨none, .store 6 (.t 2) (.t 65), none, false⟩, ⟨(some 3), .mov (.c (.int .i64 30)), none, false⟩])
 .ret)
 .skip))
 (.reg [⟨(some 66), .mov (.t 0), none, false⟩, ⟨(some 67), .slice (.sl 1) (.t 66) (some (.c (.int .i64 6))) none, none, false⟩, ⟨(some 68), .mov (.t 5), none, false⟩, ⟨(some 69), .conv (.int .i64) (.t 68), none, false⟩, ⟨(some 70), .call 67 [(.t 67), (.t 69)], none, false⟩, ⟨(some 71), .fld 4 1 false (.t 4), none, false⟩, ⟨none, .store 1 (.t 71) (.t 70), none, false⟩, ⟨(some 6), .mov (.c (.bool true)), none, false⟩]))
 (.seq (.reg [⟨(some 73), .bin .eql .other (.t 23) (.c (.int .u8 16)), none, false⟩, ⟨(some 72), .mov (.t 73), none, false⟩])
 (.cond (.t 72) (.seq (.seq (.reg [⟨(some 74), .mov (.t 0), none, false⟩, ⟨(some 75), .len false (.t 74), none, false⟩, ⟨(some 76), .bin .lss .other (.t 75) (.c (.int .i64 6)), none, false⟩])
 (.cond (.t 76) (.seq (.reg [⟨(some 77), .build [(.int .u8 0), (.int .u16 0), (.int .u16 0), (.int .u16 0), .nils, .nils] [], none, false⟩, ⟨none, .store 6 (.t 2) (.t 77), none, false⟩, ⟨(some 3), .mov (.c (.int .i64 30)), none, false⟩])
 .ret)
 .skip))
 (.reg [⟨(some 78), .mov (.t 0), none, false⟩, ⟨(some 79), .slice (.sl 1) (.t 78) (some (.c (.int .i64 6))) none, none, false⟩, ⟨(some 80), .call 117 [(.t 79)], none, false⟩, ⟨(some 81), .fld 5 1 false (.t 4), none, false⟩, ⟨none, .store 1 (.t 81) (.t 80), none, false⟩]))
 (.seq (.reg [⟨(some 83), .bin .eql .other (.t 23) (.c (.int .u8 22)), none, false⟩, ⟨(some 82), .mov (.t 83), none, false⟩])
 (.cond (.t 82) (.reg [⟨(some 84), .mov (.t 0), none, false⟩, ⟨(some 85), .slice (.sl 1) (.t 84) (some (.c (.int .i64 3))) none, none, false⟩, ⟨(some 86), .call 117 [(.t 85)], none, false⟩, ⟨(some 87), .fld 5 1 false (.t 4), none, false⟩, ⟨none, .store 1 (.t 87) (.t 86), none, false⟩])
 (.seq (.reg [⟨(some 89), .bin .eql .other (.t 23) (.c (.int .u8 23)), none, false⟩, ⟨(some 88), .mov (.t 89), none, false⟩])
 (.cond (.t 88) (.seq (.seq (.reg [⟨(some 90), .mov (.t 0), none, false⟩, ⟨(some 91), .len false (.t 90), none, false⟩, ⟨(some 92), .bin .lss .other (.t 91) (.c (.int .i64 10)), none, false⟩])
 (.cond (.t 92) (.seq (.reg [⟨(some 93), .build [(.int .u8 0), (.int .u16 0), (.int .u16 0), (.int .u16 0), .nils, .nils] [], none, false⟩, ⟨none, .store 6 (.t 2) (.t 93), none, false⟩, ⟨(some 3), .mov (.c (.int .i64 30)), none, false⟩])
 .ret)
 .skip))
 (.draw [⟨0, ⟨(some 94), .mov (.t 5), none, false⟩, false, [], []⟩, ⟨1, ⟨(some 95), .mov (.t 0), none, false⟩, false, [], []⟩, ⟨3, ⟨(some 97), .mov (.t 0), none, false⟩, false, [], []⟩, ⟨4, ⟨(some 98), .slice (.sl 1) (.t 97) (some (.c (.int .i64 10))) none, none, false⟩, false, [], []⟩, ⟨6, ⟨(some 100), .fld 2 1 false (.t 4), none, false⟩, false, [], []⟩, ⟨2, ⟨(some 96), .call 116 [(.t 95), (.c (.int .i64 5))], none, false⟩, true, [], []⟩, ⟨5, ⟨(some 99), .call 117 [(.t 98)], none, false⟩, true, [], []⟩, ⟨7, ⟨none, .store 1 (.t 100) (.t 94), none, false⟩, true, [], []⟩, ⟨8, ⟨(some 101), .fld 3 1 false (.t 4), none, false⟩, false, [], []⟩, ⟨9, ⟨none, .store 1 (.t 101) (.t 96), none, false⟩, true, [], []⟩, ⟨10, ⟨(some 102), .fld 5 1 false (.t 4), none, false⟩, false, [], []⟩, ⟨11, ⟨none, .store 1 (.t 102) (.t 99), none, false⟩, true, [], []⟩]))
 .skip))))))))))))))))
 (.seq (.reg [⟨(some 104), .load true 6 (.t 4), none, false⟩, ⟨(some 105), .call 49 [(.t 104)], none, false⟩, ⟨(some 103), .mov (.t 105), none, false⟩, ⟨(some 106), .ext (.t 103) 0, none, false⟩, ⟨(some 107), .ext (.t 103) 1, none, false⟩, ⟨(some 7), .mov (.t 106), none, false⟩, ⟨(some 8), .mov (.t 107), none, false⟩])
 (.seq (.seq (.reg [⟨(some 108), .mov (.t 8), none, false⟩, ⟨(some 109), .bin .neq .other (.t 108) (.c (.int .i64 0)), none, false⟩, ⟨(some 110), .mov (.t 109), none, true⟩, ⟨(some 111), .mov (.t 7), (some (110, false)), false⟩, ⟨(some 112), .len false (.t 111), (some (110, false)), false⟩, ⟨(some 113), .mov (.t 0), (some (110, false)), false⟩, ⟨(some 114), .len false (.t 113), (some (110, false)), false⟩, ⟨(some 115), .bin .neq .other (.t 112) (.t 114), (some (110, false)), false⟩, ⟨(some 116), .pick (.t 110) (.c (.bool true)) (.t 115), none, false⟩])
 (.cond (.t 116) (.seq (.reg [⟨(some 117), .build [(.int .u8 0), (.int .u16 0), (.int .u16 0), (.int .u16 0), .nils, .nils] [], none, false⟩, ⟨none, .store 6 (.t 2) (.t 117), none, false⟩, ⟨(some 3), .mov (.c (.int .i64 30)), none, false⟩])
 .ret)
 .skip))
 (.seq (.seq (.reg [⟨(some 9), .mov (.c (.int .i64 0)), none, false⟩])
 (.block 1 (.loop (.seq (.seq (.reg [⟨(some 118), .mov (.t 9), none, false⟩, ⟨(some 119), .mov (.t 0), none, false⟩, ⟨(some 120), .len false (.t 119), none, false⟩, ⟨(some 121), .bin .lss .other (.t 118) (.t 120), none, false⟩])
 (.cond (.t 121) .skip
 (.exit 1)))
 (.seq (.block 2 (.seq (.draw [⟨0, ⟨(some 124), .mov (.t 7), none, false⟩, false, [], []⟩, ⟨1, ⟨(some 125), .mov (.t 9), none, false⟩, false, [], []⟩, ⟨2, ⟨(some 126), .idx 1 none false (.t 124) (.t 125), none, false⟩, false, [], []⟩, ⟨3, ⟨(some 127), .load false 1 (.t 126), none, false⟩, false, [], []⟩, ⟨4, ⟨(some 128), .mov (.t 0), none, false⟩, false, [], []⟩, ⟨5, ⟨(some 129), .mov (.t 9), none, false⟩, false, [], []⟩, ⟨6, ⟨(some 130), .idx 1 none false (.t 128) (.t 129), none, false⟩, false, [], []⟩, ⟨7, ⟨(some 131), .load false 1 (.t 130), none, false⟩, false, [], []⟩, ⟨8, ⟨(some 132), .bin .neq .other (.t 127) (.t 131), none, false⟩, false, [], []⟩, ⟨9, ⟨(some 133), .mov (.t 132), none, true⟩, false, [], []⟩, ⟨10, ⟨(some 134), .mov (.t 6), (some (133, true)), false⟩, false, [], []⟩, ⟨11, ⟨(some 135), .mov (.t 134), (some (133, true)), true⟩, false, [], []⟩, ⟨12, ⟨(some 136), .mov (.t 9), (some (135, true)), false⟩, false, [], []⟩, ⟨13, ⟨(some 137), .mov (.t 0), (some (135, true)), false⟩, false, [], []⟩, ⟨14, ⟨(some 138), .len false (.t 137), (some (135, true)), false⟩, false, [], []⟩, ⟨15, ⟨(some 139), .bin .sub .other (.t 138) (.c (.int .i64 1)), (some (135, true)), false⟩, false, [], []⟩, ⟨16, ⟨(some 140), .bin .eql .other (.t 136) (.t 139), (some (135, true)), false⟩, false, [], []⟩, ⟨17, ⟨(some 141), .pick (.t 135) (.t 140) (.c (.bool false)), (some (133, true)), false⟩, false, [], []⟩, ⟨18, ⟨(some 142), .un .not (.t 141), (some (133, true)), false⟩, false, [], []⟩, ⟨19, ⟨(some 143), .pick (.t 133) (.t 142) (.c (.bool false)), none, false⟩, false, [], []⟩])
 (.cond (.t 143) (.seq (.reg [⟨(some 144), .build [(.int .u8 0), (.int .u16 0), (.int .u16 0), (.int .u16 0), .nils, .nils] [], none, false⟩, ⟨none, .store 6 (.t 2) (.t 144), none, false⟩, ⟨(some 3), .mov (.c (.int .i64 30)), none, false⟩])
 .ret)
 .skip)))
 (.reg [⟨(some 122), .mov (.t 9), none, false⟩, ⟨(some 123), .bin .add .other (.t 122) (.c (.int .i64 1)), none, false⟩, ⟨(some 9), .mov (.t 123), none, false⟩]))))))
 (.seq (.reg [⟨(some 145), .load true 6 (.t 4), none, false⟩, ⟨none, .store 6 (.t 2) (.t 145), none, false⟩, ⟨(some 3), .mov (.c (.int .i64 0)), none, false⟩])
 .ret))))))))))
def r54 : List ARes := [.cell 2 true 6, .t 3]
theorem c54 : compF Try.prog Try.f54 = some (a54, r54) := by kernel_rfl

theorem b54 : hasBody Try.prog 54 = true := by kernel_rfl
theorem g54 : Try.prog.funcs[54]? = some Try.f54 := by kernel_rfl

theorem at_ev (l : List Int) (i : Nat) (h : i + 1 < l.length) (hl : l.length ≤ 100000) : Ev Try.prog 116 [.roI .u8 l, .int .i64 i] (.int .u16 (numAt l i)) := by
  refine FrzK.ev rfl (trF g116 b116 c116 ?_)
  have h1 : IntKind.i64.wrap ((i : Int) + 1) = ((i + 1 : Nat) : Int) := by rw [IntWalk.i64_in _ (by omega)]; rfl
  conv => whnf
  refine condT (by simp; omega) ?_
  conv => whnf
  refine condT (by simp only [h1]; simp; omega) ?_
  conv => whnf
  simp only [h1]
  exact FrzK.le (Le.refl _)
theorem at_ev' (l : List Int) (i : Int) (k : Nat) (hk : i = k) (h : k + 1 < l.length) (hl : l.length ≤ 100000) : Ev Try.prog 116 [.roI .u8 l, .int .i64 i] (.int .u16 (numAt l k)) := by subst hk; exact at_ev l k h hl
theorem rregs_tr (l : List Int) (hl : l.length ≤ 100000) : Tr Try.prog 117 [.roI .u8 l] ⟨0, []⟩ fun v s => v = .sl 1 0 0 (numsN l (l.length / 2)).length ∧ s = ⟨1, [(0, some (.rowI .u16 (numsN l (l.length / 2))))]⟩ := by
  refine Tr.norm (K := fun v s => (∃ h, v = .sl 1 h 0 (numsN l (l.length / 2)).length ∧ s.get h = some (.rowI .u16 (numsN l (l.length / 2)))) ∨ (numsN l (l.length / 2) = [] ∧ v = .nils)) ?_ fun v s h => ?_
  · refine trF g117 b117 c117 ?_
    conv => whnf
    refine loopI (α := {i : Nat // i ≤ l.length / 2}) (fun i => [(0, .roI .u8 l), (3, .sl 1 0 0 i.1), (4, .int .i64 (2 * i.1 : Nat))]) (fun i => ⟨1, [(0, some (.rowI .u16 (numsN l i.1)))]⟩) (fun i => l.length / 2 - i.1) ⟨0, Nat.zero_le _⟩
      ⟨[(0, none)], rfl, rfl, rfl, ⟨⟨rfl, rfl⟩, ⟨rfl, rfl⟩, ⟨rfl, rfl⟩, trivial⟩, ⟨trivial, rfl, rfl⟩, trivial⟩ fun ⟨i, hi⟩ => ?_
    conv => whnf
    have h1 : IntKind.i64.wrap (((2 * i : Nat) : Int) + 1) = ((2 * i + 1 : Nat) : Int) := by rw [IntWalk.i64_in _ (by omega)]; rfl
    have h2 : IntKind.i64.wrap (((2 * i : Nat) : Int) + 2) = ((2 * (i + 1) : Nat) : Int) := by rw [IntWalk.i64_in _ (by omega)]; rfl
    by_cases hlt : i < l.length / 2
    · refine condY (by simp only [h1]; simp; omega) ?_
      conv => whnf
      refine Ev.call (at_ev l (2 * i) (by omega) hl) ?_
      conv => whnf
      refine condT (by simp [numsN_length]; omega) ?_
      conv => whnf
      refine ⟨⟨i + 1, hlt⟩, ⟨[(0, some 2)], rfl, rfl, rfl, ⟨⟨rfl, rfl⟩, ⟨rfl, rfl⟩, ⟨?_, rfl⟩, trivial⟩, ⟨⟨trivial, rfl, ?_⟩, trivial⟩⟩, by show l.length / 2 - (i + 1) < l.length / 2 - i; omega⟩
      · show AV.int .i64 (IntKind.i64.wrap (((2 * i : Nat) : Int) + 2)) = AV.int .i64 ((2 * (i + 1) : Nat) : Int)
        rw [h2]
      · show some (Chunk.rowI .u16 (List.take i (List.drop 0 (numsN l i)) ++ List.take 1 (List.drop 0 [numAt l (2 * i)]))) = some (Chunk.rowI .u16 (numsN l (i + 1)))
        rw [List.drop_zero, List.take_of_length_le (by rw [numsN_length]; omega)]
        rfl
    · refine condN (by simp only [h1]; simp; omega) ?_
      conv => whnf
      have : i = l.length / 2 := by omega
      subst this
      exact .inl ⟨0, by rw [numsN_length], rfl⟩
  · refine ⟨_, _, ?_, rfl, rfl⟩
    rcases h with ⟨h, rfl, hg⟩ | ⟨hn, rfl⟩
    · exact ⟨[(0, some h)], rfl, rfl, rfl, ⟨⟨rfl, rfl⟩, trivial⟩, ⟨⟨trivial, rfl, hg⟩, trivial⟩⟩
    · rw [hn]
      exact ⟨[(0, none)], rfl, rfl, rfl, ⟨⟨rfl, rfl⟩, trivial⟩, ⟨⟨trivial, rfl, rfl⟩, trivial⟩⟩
theorem rregs_ev (l : List Int) (hl : l.length ≤ 100000) : Ev Try.prog 117 [.roI .u8 l] (.roI .u16 (numsN l (l.length / 2))) := Ev.row rfl (rregs_tr l hl)
theorem rbits_ev (l : List Int) (n : Int) (hl : l.length ≤ 100000) : Ev Try.prog 67 [.roI .u8 l, .int .i64 n] (.roB (bitsA l (bitsK n))) := by
  refine Ev.rowB rfl ?_
  rw [bitsA_length]
  exact rbits_tr l n hl
def rOpenT (f a v : Int) (l : List Int) : Option (Rq × Bool) :=
  if f == 1 then some (⟨f, a, v, 0, [], []⟩, false)
  else if f == 2 then some (⟨f, a, v, 0, [], []⟩, false)
  else if f == 3 then some (⟨f, a, v, 0, [], []⟩, false)
  else if f == 4 then some (⟨f, a, v, 0, [], []⟩, false)
  else if f == 5 then some (⟨f, a, 0, 0, [v == 65280], []⟩, false)
  else if f == 6 then some (⟨f, a, 0, 0, [], [v]⟩, false)
  else if f == 15 then (if decide ((l.length : Int) < 6) || decide (v < 1) || decide (v > 1968) || (l.length : Int) != IntKind.i64.wrap (6 + IntKind.i64.wrap (l.getD 5 0)) then none else some (⟨f, a, 0, 0, bitsA (cutF l 6) (bitsK (IntKind.i64.wrap v)), []⟩, true))
  else if f == 16 then (if decide ((l.length : Int) < 6) then none else some (⟨f, a, 0, 0, [], numsN (cutF l 6) ((cutF l 6).length / 2)⟩, false))
  else if f == 22 then some (⟨f, a, 0, 0, [], numsN (cutF l 3) ((cutF l 3).length / 2)⟩, false)
  else if f == 23 then (if decide ((l.length : Int) < 10) then none else some (⟨f, a, v, numAt l 5, [], numsN (cutF l 10) ((cutF l 10).length / 2)⟩, false))
  else some (⟨f, a, 0, 0, [], []⟩, false)
def rOpenS (l : List Int) : Option (Rq × Bool) := if decide ((l.length : Int) < 5) then none else rOpenT (l.getD 0 0) (numAt l 1) (numAt l 3) l
def agreeB (row l : List Int) (sp : Bool) (j : Nat) : Bool := row.getD j 0 == l.getD j 0 || (sp && (j : Int) == ((l.length - 1 : Nat) : Int))
def decT (l : List Int) (o : Option (Rq × Bool)) : Rq × Int :=
  match o with
  | none => (Rq.zero, 30)
  | some (q, sp) => if encE q.f q.n q.a2 q.b q.r == 0 && ((encR q.f q.a q.n q.a2 q.b q.r).length : Int) == l.length && (List.range l.length).all (agreeB (encR q.f q.a q.n q.a2 q.b q.r) l sp) then (q, 0) else (Rq.zero, 30)
def decR (l : List Int) : Rq × Int := decT l (rOpenS l)
def OkR (o : Option (Rq × Bool)) : Prop := ∀ q sp, o = some (q, sp) → InR q
theorem rOpenT_range (f a v : Int) (l : List Int) (hv : 0 ≤ v ∧ v < 65536) (hl : l.length ≤ 1000) : OkR (rOpenT f a v l) := by
  intro q sp
  have h2 := bitsK_le (IntKind.i64.wrap v)
  unfold rOpenT
  by_cases h1 : (f == 1) = true
  · rw [if_pos h1]; (intro h; first | (simp only [Option.some.injEq, Prod.mk.injEq] at h; obtain ⟨rfl, _⟩ := h; simp only [InR, hv.1, hv.2, numAt0, numAtL, bitsA_length, numsN_length, cutF_eq, List.length_nil, List.length_cons, List.length_drop, true_and]; omega) | (simp only [Option.some.injEq, Prod.mk.injEq] at h; obtain ⟨rfl, _⟩ := h; simp only [InR, hv.1, hv.2, numAt0, numAtL, bitsA_length, numsN_length, cutF_eq, List.length_nil, List.length_cons, List.length_drop, true_and]; done) | cases h)
  rw [if_neg h1]
  by_cases h2 : (f == 2) = true
  · rw [if_pos h2]; (intro h; first | (simp only [Option.some.injEq, Prod.mk.injEq] at h; obtain ⟨rfl, _⟩ := h; simp only [InR, hv.1, hv.2, numAt0, numAtL, bitsA_length, numsN_length, cutF_eq, List.length_nil, List.length_cons, List.length_drop, true_and]; omega) | (simp only [Option.some.injEq, Prod.mk.injEq] at h; obtain ⟨rfl, _⟩ := h; simp only [InR, hv.1, hv.2, numAt0, numAtL, bitsA_length, numsN_length, cutF_eq, List.length_nil, List.length_cons, List.length_drop, true_and]; done) | cases h)
  rw [if_neg h2]
  by_cases h3 : (f == 3) = true
  · rw [if_pos h3]; (intro h; first | (simp only [Option.some.injEq, Prod.mk.injEq] at h; obtain ⟨rfl, _⟩ := h; simp only [InR, hv.1, hv.2, numAt0, numAtL, bitsA_length, numsN_length, cutF_eq, List.length_nil, List.length_cons, List.length_drop, true_and]; omega) | (simp only [Option.some.injEq, Prod.mk.injEq] at h; obtain ⟨rfl, _⟩ := h; simp only [InR, hv.1, hv.2, numAt0, numAtL, bitsA_length, numsN_length, cutF_eq, List.length_nil, List.length_cons, List.length_drop, true_and]; done) | cases h)
  rw [if_neg h3]
  by_cases h4 : (f == 4) = true
  · rw [if_pos h4]; (intro h; first | (simp only [Option.some.injEq, Prod.mk.injEq] at h; obtain ⟨rfl, _⟩ := h; simp only [InR, hv.1, hv.2, numAt0, numAtL, bitsA_length, numsN_length, cutF_eq, List.length_nil, List.length_cons, List.length_drop, true_and]; omega) | (simp only [Option.some.injEq, Prod.mk.injEq] at h; obtain ⟨rfl, _⟩ := h; simp only [InR, hv.1, hv.2, numAt0, numAtL, bitsA_length, numsN_length, cutF_eq, List.length_nil, List.length_cons, List.length_drop, true_and]; done) | cases h)
  rw [if_neg h4]
  by_cases h5 : (f == 5) = true
  · rw [if_pos h5]; (intro h; first | (simp only [Option.some.injEq, Prod.mk.injEq] at h; obtain ⟨rfl, _⟩ := h; simp only [InR, hv.1, hv.2, numAt0, numAtL, bitsA_length, numsN_length, cutF_eq, List.length_nil, List.length_cons, List.length_drop, true_and]; omega) | (simp only [Option.some.injEq, Prod.mk.injEq] at h; obtain ⟨rfl, _⟩ := h; simp only [InR, hv.1, hv.2, numAt0, numAtL, bitsA_length, numsN_length, cutF_eq, List.length_nil, List.length_cons, List.length_drop, true_and]; done) | cases h)
  rw [if_neg h5]
  by_cases h6 : (f == 6) = true
  · rw [if_pos h6]; (intro h; first | (simp only [Option.some.injEq, Prod.mk.injEq] at h; obtain ⟨rfl, _⟩ := h; simp only [InR, hv.1, hv.2, numAt0, numAtL, bitsA_length, numsN_length, cutF_eq, List.length_nil, List.length_cons, List.length_drop, true_and]; omega) | (simp only [Option.some.injEq, Prod.mk.injEq] at h; obtain ⟨rfl, _⟩ := h; simp only [InR, hv.1, hv.2, numAt0, numAtL, bitsA_length, numsN_length, cutF_eq, List.length_nil, List.length_cons, List.length_drop, true_and]; done) | cases h)
  rw [if_neg h6]
  by_cases h15 : (f == 15) = true
  · rw [if_pos h15]; by_cases g : (decide ((l.length : Int) < 6) || decide (v < 1) || decide (v > 1968) || (l.length : Int) != IntKind.i64.wrap (6 + IntKind.i64.wrap (l.getD 5 0))) = true
    · rw [if_pos g]; (intro h; first | (simp only [Option.some.injEq, Prod.mk.injEq] at h; obtain ⟨rfl, _⟩ := h; simp only [InR, hv.1, hv.2, numAt0, numAtL, bitsA_length, numsN_length, cutF_eq, List.length_nil, List.length_cons, List.length_drop, true_and]; omega) | (simp only [Option.some.injEq, Prod.mk.injEq] at h; obtain ⟨rfl, _⟩ := h; simp only [InR, hv.1, hv.2, numAt0, numAtL, bitsA_length, numsN_length, cutF_eq, List.length_nil, List.length_cons, List.length_drop, true_and]; done) | cases h)
    · rw [if_neg g]; (intro h; first | (simp only [Option.some.injEq, Prod.mk.injEq] at h; obtain ⟨rfl, _⟩ := h; simp only [InR, hv.1, hv.2, numAt0, numAtL, bitsA_length, numsN_length, cutF_eq, List.length_nil, List.length_cons, List.length_drop, true_and]; omega) | (simp only [Option.some.injEq, Prod.mk.injEq] at h; obtain ⟨rfl, _⟩ := h; simp only [InR, hv.1, hv.2, numAt0, numAtL, bitsA_length, numsN_length, cutF_eq, List.length_nil, List.length_cons, List.length_drop, true_and]; done) | cases h)
  rw [if_neg h15]
  by_cases h16 : (f == 16) = true
  · rw [if_pos h16]; by_cases g : decide ((l.length : Int) < 6) = true
    · rw [if_pos g]; (intro h; first | (simp only [Option.some.injEq, Prod.mk.injEq] at h; obtain ⟨rfl, _⟩ := h; simp only [InR, hv.1, hv.2, numAt0, numAtL, bitsA_length, numsN_length, cutF_eq, List.length_nil, List.length_cons, List.length_drop, true_and]; omega) | (simp only [Option.some.injEq, Prod.mk.injEq] at h; obtain ⟨rfl, _⟩ := h; simp only [InR, hv.1, hv.2, numAt0, numAtL, bitsA_length, numsN_length, cutF_eq, List.length_nil, List.length_cons, List.length_drop, true_and]; done) | cases h)
    · rw [if_neg g]; (intro h; first | (simp only [Option.some.injEq, Prod.mk.injEq] at h; obtain ⟨rfl, _⟩ := h; simp only [InR, hv.1, hv.2, numAt0, numAtL, bitsA_length, numsN_length, cutF_eq, List.length_nil, List.length_cons, List.length_drop, true_and]; omega) | (simp only [Option.some.injEq, Prod.mk.injEq] at h; obtain ⟨rfl, _⟩ := h; simp only [InR, hv.1, hv.2, numAt0, numAtL, bitsA_length, numsN_length, cutF_eq, List.length_nil, List.length_cons, List.length_drop, true_and]; done) | cases h)
  rw [if_neg h16]
  by_cases h22 : (f == 22) = true
  · rw [if_pos h22]; (intro h; first | (simp only [Option.some.injEq, Prod.mk.injEq] at h; obtain ⟨rfl, _⟩ := h; simp only [InR, hv.1, hv.2, numAt0, numAtL, bitsA_length, numsN_length, cutF_eq, List.length_nil, List.length_cons, List.length_drop, true_and]; omega) | (simp only [Option.some.injEq, Prod.mk.injEq] at h; obtain ⟨rfl, _⟩ := h; simp only [InR, hv.1, hv.2, numAt0, numAtL, bitsA_length, numsN_length, cutF_eq, List.length_nil, List.length_cons, List.length_drop, true_and]; done) | cases h)
  rw [if_neg h22]
  by_cases h23 : (f == 23) = true
  · rw [if_pos h23]; by_cases g : decide ((l.length : Int) < 10) = true
    · rw [if_pos g]; (intro h; first | (simp only [Option.some.injEq, Prod.mk.injEq] at h; obtain ⟨rfl, _⟩ := h; simp only [InR, hv.1, hv.2, numAt0, numAtL, bitsA_length, numsN_length, cutF_eq, List.length_nil, List.length_cons, List.length_drop, true_and]; omega) | (simp only [Option.some.injEq, Prod.mk.injEq] at h; obtain ⟨rfl, _⟩ := h; simp only [InR, hv.1, hv.2, numAt0, numAtL, bitsA_length, numsN_length, cutF_eq, List.length_nil, List.length_cons, List.length_drop, true_and]; done) | cases h)
    · rw [if_neg g]; (intro h; first | (simp only [Option.some.injEq, Prod.mk.injEq] at h; obtain ⟨rfl, _⟩ := h; simp only [InR, hv.1, hv.2, numAt0, numAtL, bitsA_length, numsN_length, cutF_eq, List.length_nil, List.length_cons, List.length_drop, true_and]; omega) | (simp only [Option.some.injEq, Prod.mk.injEq] at h; obtain ⟨rfl, _⟩ := h; simp only [InR, hv.1, hv.2, numAt0, numAtL, bitsA_length, numsN_length, cutF_eq, List.length_nil, List.length_cons, List.length_drop, true_and]; done) | cases h)
  rw [if_neg h23]
  (intro h; first | (simp only [Option.some.injEq, Prod.mk.injEq] at h; obtain ⟨rfl, _⟩ := h; simp only [InR, hv.1, hv.2, numAt0, numAtL, bitsA_length, numsN_length, cutF_eq, List.length_nil, List.length_cons, List.length_drop, true_and]; omega) | (simp only [Option.some.injEq, Prod.mk.injEq] at h; obtain ⟨rfl, _⟩ := h; simp only [InR, hv.1, hv.2, numAt0, numAtL, bitsA_length, numsN_length, cutF_eq, List.length_nil, List.length_cons, List.length_drop, true_and]; done) | cases h)
theorem rOpen_range (l : List Int) (hl : l.length ≤ 1000) : OkR (rOpenS l) := by
  unfold rOpenS
  split
  · intro q sp h; cases h
  · exact rOpenT_range _ _ _ _ ⟨numAt0 _ _, numAtL _ _⟩ hl
def finR (q : Rq) (row l : List Int) (sp : Bool) (e : Int) : Rq × Int := if e == 0 && (row.length : Int) == l.length && (List.range l.length).all (agreeB row l sp) then (q, 0) else (Rq.zero, 30)
theorem decT_some (l : List Int) (q : Rq) (sp : Bool) : decT l (some (q, sp)) = finR q (encR q.f q.a q.n q.a2 q.b q.r) l sp (encE q.f q.n q.a2 q.b q.r) := rfl
theorem finR_no (q : Rq) (row l : List Int) (sp : Bool) (e : Int) (h : e ≠ 0 ∨ row.length ≠ l.length ∨ ∃ i, i < l.length ∧ agreeB row l sp i = false) : finR q row l sp e = (Rq.zero, 30) := by
  unfold finR
  rw [if_neg]
  intro hc
  simp only [Bool.and_eq_true, beq_iff_eq, List.all_eq_true, List.mem_range] at hc
  obtain ⟨⟨h1, h2⟩, h3⟩ := hc
  rcases h with h | h | ⟨i, hi, h⟩
  · exact h h1
  · omega
  · rw [h3 i hi] at h; cases h
theorem finR_yes (q : Rq) (row l : List Int) (sp : Bool) (e : Int) (h1 : e = 0) (h2 : row.length = l.length) (h3 : ∀ i, i < l.length → agreeB row l sp i = true) : finR q row l sp e = (q, 0) := by
  unfold finR
  rw [if_pos]
  simp only [Bool.and_eq_true, beq_iff_eq, List.all_eq_true, List.mem_range]
  exact ⟨⟨h1, by omega⟩, h3⟩
def nb (x : Bool) (q : Rq) : AV := bif x then .nils else .roB q.b
def nr (x : Bool) (q : Rq) : AV := bif x then .nils else .roI .u16 q.r
set_option maxRecDepth 20000 in
set_option maxHeartbeats 4000000 in
theorem rOpen_raw (l : List Int) (hl : l.length ≤ 1000) : Tr Try.prog 54 [.roI .u8 l] ⟨0, []⟩ (FrzK (.tup [rqA (decR l).1, .int .i64 (decR l).2])) := by
  have hok := rOpen_range l hl
  unfold decR
  generalize ho : rOpenS l = o at *
  refine trZ [104] [35, 40] g54 b54 c54 ?_
  conv => whnf
  refine condF (fun h => ?_) (fun h => ?_)
  · conv => whnf
    repeat' (first
      | (refine condT (by first | assumption | (simp [cutF]; done) | (simp [cutF]; omega) | (simp_all; done) | (simp_all; omega)) ?_; conv => whnf)
      | (refine ⟨rfl, ?_⟩; conv => whnf)
      | (refine Ev.call (at_ev' l 1 1 rfl (by first | (simp [cutF]; done) | (simp [cutF]; omega) | omega | (simp_all; omega)) (by omega)) ?_; conv => whnf)
      | (refine Ev.call (at_ev' l 3 3 rfl (by first | (simp [cutF]; done) | (simp [cutF]; omega) | omega | (simp_all; omega)) (by omega)) ?_; conv => whnf)
      )
    refine joinI (α := {x : Bool × Bool // o.isSome = true ∧ (x.1 = true → (o.getD (Rq.zero, false)).1.b = []) ∧ (x.2 = true → (o.getD (Rq.zero, false)).1.r = [])})
      (fun x => [(0, .roI .u8 l), (2, .ptr 0 0), (4, .ptr 1 0), (6, .bool (o.getD (Rq.zero, false)).2)])
      (fun x => ⟨2, [(1, some (.obj [.int .u8 (o.getD (Rq.zero, false)).1.f, .int .u16 (o.getD (Rq.zero, false)).1.a, .int .u16 (o.getD (Rq.zero, false)).1.n, .int .u16 (o.getD (Rq.zero, false)).1.a2, nb x.1.1 (o.getD (Rq.zero, false)).1, nr x.1.2 (o.getD (Rq.zero, false)).1])), (0, some (.obj [.int .u8 0, .int .u16 0, .int .u16 0, .int .u16 0, .nils, .nils]))]⟩) ?_ ?_
    · conv => whnf
      repeat' (first
        | (refine condY (by assumption) ?_; conv => whnf)
        | (refine condN (by assumption) ?_; conv => whnf)
        | (refine condT (by first | assumption | (simp [cutF]; done) | (simp [cutF]; omega) | (simp_all; done) | (simp_all; omega)) ?_; conv => whnf)
        | (refine condF (fun h => ?_) (fun h => ?_) <;> conv => whnf)
        | (refine ⟨rfl, ?_⟩; conv => whnf)
        | (refine Ev.call (at_ev' l 5 5 rfl (by first | (simp [cutF]; done) | (simp [cutF]; omega) | omega | (simp_all; omega)) (by omega)) ?_; conv => whnf)
        | (refine Ev.call (rregs_ev _ (by first | (simp [cutF]; done) | (simp [cutF]; omega) | omega | (simp_all; omega))) ?_; conv => whnf)
        | (refine Ev.call (rbits_ev _ _ (by first | (simp [cutF]; done) | (simp [cutF]; omega) | omega | (simp_all; omega))) ?_; conv => whnf)
        )
      all_goals (try simp only [show Int.toNat 0 = 0 from rfl, show Int.toNat 1 = 1 from rfl, show Int.toNat 3 = 3 from rfl, show Int.toNat 5 = 5 from rfl, show Int.toNat 6 = 6 from rfl, show Int.toNat 10 = 10 from rfl] at *)
      all_goals (simp only [rOpenS, rOpenT, cutF, *, if_true, if_false, Bool.false_eq_true, Bool.or_false, Bool.false_or, Bool.true_or, Bool.or_true] at ho)
      all_goals (try (first | erw [if_pos h] at ho | erw [if_neg (fun e => Bool.noConfusion (e.symm.trans h))] at ho))
      all_goals subst ho
      all_goals first
        | exact ⟨⟨(true, true), rfl, fun _ => rfl, fun _ => rfl⟩, [], rfl, rfl, rfl, ⟨⟨rfl, rfl⟩, ⟨rfl, rfl⟩, ⟨rfl, rfl⟩, ⟨rfl, rfl⟩, trivial⟩, ⟨⟨rfl, rfl, rfl⟩, ⟨rfl, rfl, rfl⟩, trivial⟩⟩
        | exact ⟨⟨(true, false), rfl, fun _ => rfl, fun h => nomatch h⟩, [], rfl, rfl, rfl, ⟨⟨rfl, rfl⟩, ⟨rfl, rfl⟩, ⟨rfl, rfl⟩, ⟨rfl, rfl⟩, trivial⟩, ⟨⟨rfl, rfl, rfl⟩, ⟨rfl, rfl, rfl⟩, trivial⟩⟩
        | exact ⟨⟨(false, true), rfl, fun h => nomatch h, fun _ => rfl⟩, [], rfl, rfl, rfl, ⟨⟨rfl, rfl⟩, ⟨rfl, rfl⟩, ⟨rfl, rfl⟩, ⟨rfl, rfl⟩, trivial⟩, ⟨⟨rfl, rfl, rfl⟩, ⟨rfl, rfl, rfl⟩, trivial⟩⟩
        | exact FrzK.le (leReqE rfl rfl rfl rfl Le.nilB (Le.nilI _) rfl)
        | (refine ⟨⟨(false, true), rfl, fun h => Bool.noConfusion h, fun _ => rfl⟩, [], rfl, rfl, rfl, ⟨⟨rfl, rfl⟩, ⟨rfl, rfl⟩, ⟨rfl, rfl⟩, ⟨rfl, rfl⟩, trivial⟩, ?_⟩; refine ⟨⟨rfl, rfl, ?_⟩, ⟨rfl, rfl, rfl⟩, trivial⟩; rfl)
    · rintro ⟨⟨bn, rn⟩, hs, hb0, hr0⟩
      cases o with
      | none => cases hs
      | some qs =>
      obtain ⟨q, sp⟩ := qs
      obtain ⟨hn0, hn1, hqb, hqr⟩ := hok q sp rfl
      have kb : bn = true → q.b = [] := hb0
      have kr : rn = true → q.r = [] := hr0
      have hR := rRequest_ev q.f q.a q.n q.a2 q.b q.r hn0 hn1 hqb hqr
      rw [decT_some]
      generalize encR q.f q.a q.n q.a2 q.b q.r = row at *
      generalize encE q.f q.n q.a2 q.b q.r = e at *
      cases bn <;> cases rn
      · conv => whnf
        refine Tr.le (args' := [reqA q.f q.a q.n q.a2 (.roB q.b) (.roI .u16 q.r)]) ⟨Le.agg ⟨Le.refl _, Le.refl _, Le.refl _, Le.refl _, Le.refl _, Le.refl _, trivial⟩, trivial⟩ (Ev.call hR ?_)
        conv => whnf
        refine condS (fun h => ?_) (fun h => ?_)
        · conv => whnf
          rw [finR_no q row l sp e (.inl (by simpa using h))]
          exact FrzK.le (leReqE rfl rfl rfl rfl Le.nilB (Le.nilI _) rfl)
        conv => whnf
        refine condS (fun h' => ?_) (fun h' => ?_)
        · conv => whnf
          rw [finR_no q row l sp e (.inr (.inl (by simp at h'; omega)))]
          exact FrzK.le (leReqE rfl rfl rfl rfl Le.nilB (Le.nilI _) rfl)
        conv => whnf
        have he : e = 0 := by simpa using h
        have hlen : row.length = l.length := by simp at h'; omega
        refine loopI (α := {i : Nat // i ≤ l.length ∧ ∀ j, j < i → agreeB row l sp j = true}) (fun i => [(0, .roI .u8 l), (2, .ptr 0 0), (4, .ptr 1 0), (6, .bool sp), (7, .roI .u8 row), (9, .int .i64 i.1)])
          (fun i => ⟨2, [(1, some (.obj [.int .u8 q.f, .int .u16 q.a, .int .u16 q.n, .int .u16 q.a2, .roB q.b, .roI .u16 q.r])), (0, some (.obj [.int .u8 0, .int .u16 0, .int .u16 0, .int .u16 0, .nils, .nils]))]⟩) (fun i => l.length - i.1) ⟨0, Nat.zero_le _, fun j hj => absurd hj (Nat.not_lt_zero j)⟩
          ⟨[], rfl, rfl, rfl, ⟨⟨rfl, rfl⟩, ⟨rfl, rfl⟩, ⟨rfl, rfl⟩, ⟨rfl, rfl⟩, ⟨rfl, rfl⟩, ⟨rfl, rfl⟩, trivial⟩, ⟨⟨rfl, rfl, rfl⟩, ⟨rfl, rfl, rfl⟩, trivial⟩⟩ fun ⟨i, hi, hag⟩ => ?_
        conv => whnf
        have hl1 : IntKind.i64.wrap ((l.length : Int) - 1) = (l.length : Int) - 1 := IntWalk.i64_in _ (by omega)
        by_cases hlt : i < l.length
        · refine condY (by simpa using hlt) ?_
          conv => whnf
          refine condT (by simp; omega) ?_
          conv => whnf
          refine condT (by simpa using hlt) ?_
          conv => whnf
          have step : agreeB row l sp i = true → ∃ x' : {i : Nat // i ≤ l.length ∧ ∀ j, j < i → agreeB row l sp j = true}, x'.1 = i + 1 := fun ha => ⟨⟨i + 1, hlt, fun j hj => by
            by_cases hji : j = i
            · rw [hji]; exact ha
            · exact hag j (by omega)⟩, rfl⟩
          have next : ∀ (x' : {i : Nat // i ≤ l.length ∧ ∀ j, j < i → agreeB row l sp j = true}), x'.1 = i + 1 → AV.int .i64 (IntKind.i64.wrap ((i : Int) + 1)) = AV.int .i64 (x'.1 : Int) := fun x' hx => by
            rw [hx, IntWalk.i64_in _ (by omega)]; rfl
          refine condF (fun g => ?_) (fun g => ?_)
          · conv => whnf
            obtain ⟨x', hx⟩ := step (by unfold agreeB; rw [show (row.getD i 0 == l.getD i 0) = true by simpa using g]; rfl)
            refine ⟨x', ⟨[], rfl, rfl, rfl, ⟨⟨rfl, rfl⟩, ⟨rfl, rfl⟩, ⟨rfl, rfl⟩, ⟨rfl, rfl⟩, ⟨rfl, rfl⟩, ⟨next x' hx, rfl⟩, trivial⟩, ⟨⟨rfl, rfl, rfl⟩, ⟨rfl, rfl, rfl⟩, trivial⟩⟩, by show l.length - x'.1 < l.length - i; omega⟩
          · conv => whnf
            cases sp
            · conv => whnf
              rw [finR_no q row l false e (.inr (.inr ⟨i, hlt, by unfold agreeB; rw [show (row.getD i 0 == l.getD i 0) = false by simpa using g]; rfl⟩))]
              exact FrzK.le (leReqE rfl rfl rfl rfl Le.nilB (Le.nilI _) rfl)
            · conv => whnf
              by_cases hL : i = l.length - 1
              · refine condN ?_ ?_
                · rw [hl1]; simp; omega
                conv => whnf
                obtain ⟨x', hx⟩ := step (by unfold agreeB; simp [hL])
                refine ⟨x', ⟨[], rfl, rfl, rfl, ⟨⟨rfl, rfl⟩, ⟨rfl, rfl⟩, ⟨rfl, rfl⟩, ⟨rfl, rfl⟩, ⟨rfl, rfl⟩, ⟨next x' hx, rfl⟩, trivial⟩, ⟨⟨rfl, rfl, rfl⟩, ⟨rfl, rfl, rfl⟩, trivial⟩⟩, by show l.length - x'.1 < l.length - i; omega⟩
              · refine condY ?_ ?_
                · rw [hl1]; simp; omega
                conv => whnf
                rw [finR_no q row l true e (.inr (.inr ⟨i, hlt, by unfold agreeB; rw [show (row.getD i 0 == l.getD i 0) = false by simpa using g]; simp; omega⟩))]
                exact FrzK.le (leReqE rfl rfl rfl rfl Le.nilB (Le.nilI _) rfl)
        · refine condN (by simpa using hlt) ?_
          conv => whnf
          rw [finR_yes q row l sp e he hlen (fun j hj => hag j (by omega))]
          exact FrzK.le (leReqE rfl rfl rfl rfl (Le.refl _) (Le.refl _) rfl)
      · conv => whnf
        refine Tr.le (args' := [reqA q.f q.a q.n q.a2 (.roB q.b) (.roI .u16 q.r)]) ⟨Le.agg ⟨Le.refl _, Le.refl _, Le.refl _, Le.refl _, Le.refl _, (by rw [kr rfl]; exact Le.nilI _), trivial⟩, trivial⟩ (Ev.call hR ?_)
        conv => whnf
        refine condS (fun h => ?_) (fun h => ?_)
        · conv => whnf
          rw [finR_no q row l sp e (.inl (by simpa using h))]
          exact FrzK.le (leReqE rfl rfl rfl rfl Le.nilB (Le.nilI _) rfl)
        conv => whnf
        refine condS (fun h' => ?_) (fun h' => ?_)
        · conv => whnf
          rw [finR_no q row l sp e (.inr (.inl (by simp at h'; omega)))]
          exact FrzK.le (leReqE rfl rfl rfl rfl Le.nilB (Le.nilI _) rfl)
        conv => whnf
        have he : e = 0 := by simpa using h
        have hlen : row.length = l.length := by simp at h'; omega
        refine loopI (α := {i : Nat // i ≤ l.length ∧ ∀ j, j < i → agreeB row l sp j = true}) (fun i => [(0, .roI .u8 l), (2, .ptr 0 0), (4, .ptr 1 0), (6, .bool sp), (7, .roI .u8 row), (9, .int .i64 i.1)])
          (fun i => ⟨2, [(1, some (.obj [.int .u8 q.f, .int .u16 q.a, .int .u16 q.n, .int .u16 q.a2, .roB q.b, .nils])), (0, some (.obj [.int .u8 0, .int .u16 0, .int .u16 0, .int .u16 0, .nils, .nils]))]⟩) (fun i => l.length - i.1) ⟨0, Nat.zero_le _, fun j hj => absurd hj (Nat.not_lt_zero j)⟩
          ⟨[], rfl, rfl, rfl, ⟨⟨rfl, rfl⟩, ⟨rfl, rfl⟩, ⟨rfl, rfl⟩, ⟨rfl, rfl⟩, ⟨rfl, rfl⟩, ⟨rfl, rfl⟩, trivial⟩, ⟨⟨rfl, rfl, rfl⟩, ⟨rfl, rfl, rfl⟩, trivial⟩⟩ fun ⟨i, hi, hag⟩ => ?_
        conv => whnf
        have hl1 : IntKind.i64.wrap ((l.length : Int) - 1) = (l.length : Int) - 1 := IntWalk.i64_in _ (by omega)
        by_cases hlt : i < l.length
        · refine condY (by simpa using hlt) ?_
          conv => whnf
          refine condT (by simp; omega) ?_
          conv => whnf
          refine condT (by simpa using hlt) ?_
          conv => whnf
          have step : agreeB row l sp i = true → ∃ x' : {i : Nat // i ≤ l.length ∧ ∀ j, j < i → agreeB row l sp j = true}, x'.1 = i + 1 := fun ha => ⟨⟨i + 1, hlt, fun j hj => by
            by_cases hji : j = i
            · rw [hji]; exact ha
            · exact hag j (by omega)⟩, rfl⟩
          have next : ∀ (x' : {i : Nat // i ≤ l.length ∧ ∀ j, j < i → agreeB row l sp j = true}), x'.1 = i + 1 → AV.int .i64 (IntKind.i64.wrap ((i : Int) + 1)) = AV.int .i64 (x'.1 : Int) := fun x' hx => by
            rw [hx, IntWalk.i64_in _ (by omega)]; rfl
          refine condF (fun g => ?_) (fun g => ?_)
          · conv => whnf
            obtain ⟨x', hx⟩ := step (by unfold agreeB; rw [show (row.getD i 0 == l.getD i 0) = true by simpa using g]; rfl)
            refine ⟨x', ⟨[], rfl, rfl, rfl, ⟨⟨rfl, rfl⟩, ⟨rfl, rfl⟩, ⟨rfl, rfl⟩, ⟨rfl, rfl⟩, ⟨rfl, rfl⟩, ⟨next x' hx, rfl⟩, trivial⟩, ⟨⟨rfl, rfl, rfl⟩, ⟨rfl, rfl, rfl⟩, trivial⟩⟩, by show l.length - x'.1 < l.length - i; omega⟩
          · conv => whnf
            cases sp
            · conv => whnf
              rw [finR_no q row l false e (.inr (.inr ⟨i, hlt, by unfold agreeB; rw [show (row.getD i 0 == l.getD i 0) = false by simpa using g]; rfl⟩))]
              exact FrzK.le (leReqE rfl rfl rfl rfl Le.nilB (Le.nilI _) rfl)
            · conv => whnf
              by_cases hL : i = l.length - 1
              · refine condN ?_ ?_
                · rw [hl1]; simp; omega
                conv => whnf
                obtain ⟨x', hx⟩ := step (by unfold agreeB; simp [hL])
                refine ⟨x', ⟨[], rfl, rfl, rfl, ⟨⟨rfl, rfl⟩, ⟨rfl, rfl⟩, ⟨rfl, rfl⟩, ⟨rfl, rfl⟩, ⟨rfl, rfl⟩, ⟨next x' hx, rfl⟩, trivial⟩, ⟨⟨rfl, rfl, rfl⟩, ⟨rfl, rfl, rfl⟩, trivial⟩⟩, by show l.length - x'.1 < l.length - i; omega⟩
              · refine condY ?_ ?_
                · rw [hl1]; simp; omega
                conv => whnf
                rw [finR_no q row l true e (.inr (.inr ⟨i, hlt, by unfold agreeB; rw [show (row.getD i 0 == l.getD i 0) = false by simpa using g]; simp; omega⟩))]
                exact FrzK.le (leReqE rfl rfl rfl rfl Le.nilB (Le.nilI _) rfl)
        · refine condN (by simpa using hlt) ?_
          conv => whnf
          rw [finR_yes q row l sp e he hlen (fun j hj => hag j (by omega))]
          exact FrzK.le (leReqE rfl rfl rfl rfl (Le.refl _) (by rw [kr rfl]; exact Le.nilI _) rfl)
      · conv => whnf
        refine Tr.le (args' := [reqA q.f q.a q.n q.a2 (.roB q.b) (.roI .u16 q.r)]) ⟨Le.agg ⟨Le.refl _, Le.refl _, Le.refl _, Le.refl _, (by rw [kb rfl]; exact Le.nilB), Le.refl _, trivial⟩, trivial⟩ (Ev.call hR ?_)
        conv => whnf
        refine condS (fun h => ?_) (fun h => ?_)
        · conv => whnf
          rw [finR_no q row l sp e (.inl (by simpa using h))]
          exact FrzK.le (leReqE rfl rfl rfl rfl Le.nilB (Le.nilI _) rfl)
        conv => whnf
        refine condS (fun h' => ?_) (fun h' => ?_)
        · conv => whnf
          rw [finR_no q row l sp e (.inr (.inl (by simp at h'; omega)))]
          exact FrzK.le (leReqE rfl rfl rfl rfl Le.nilB (Le.nilI _) rfl)
        conv => whnf
        have he : e = 0 := by simpa using h
        have hlen : row.length = l.length := by simp at h'; omega
        refine loopI (α := {i : Nat // i ≤ l.length ∧ ∀ j, j < i → agreeB row l sp j = true}) (fun i => [(0, .roI .u8 l), (2, .ptr 0 0), (4, .ptr 1 0), (6, .bool sp), (7, .roI .u8 row), (9, .int .i64 i.1)])
          (fun i => ⟨2, [(1, some (.obj [.int .u8 q.f, .int .u16 q.a, .int .u16 q.n, .int .u16 q.a2, .nils, .roI .u16 q.r])), (0, some (.obj [.int .u8 0, .int .u16 0, .int .u16 0, .int .u16 0, .nils, .nils]))]⟩) (fun i => l.length - i.1) ⟨0, Nat.zero_le _, fun j hj => absurd hj (Nat.not_lt_zero j)⟩
          ⟨[], rfl, rfl, rfl, ⟨⟨rfl, rfl⟩, ⟨rfl, rfl⟩, ⟨rfl, rfl⟩, ⟨rfl, rfl⟩, ⟨rfl, rfl⟩, ⟨rfl, rfl⟩, trivial⟩, ⟨⟨rfl, rfl, rfl⟩, ⟨rfl, rfl, rfl⟩, trivial⟩⟩ fun ⟨i, hi, hag⟩ => ?_
        conv => whnf
        have hl1 : IntKind.i64.wrap ((l.length : Int) - 1) = (l.length : Int) - 1 := IntWalk.i64_in _ (by omega)
        by_cases hlt : i < l.length
        · refine condY (by simpa using hlt) ?_
          conv => whnf
          refine condT (by simp; omega) ?_
          conv => whnf
          refine condT (by simpa using hlt) ?_
          conv => whnf
          have step : agreeB row l sp i = true → ∃ x' : {i : Nat // i ≤ l.length ∧ ∀ j, j < i → agreeB row l sp j = true}, x'.1 = i + 1 := fun ha => ⟨⟨i + 1, hlt, fun j hj => by
            by_cases hji : j = i
            · rw [hji]; exact ha
            · exact hag j (by omega)⟩, rfl⟩
          have next : ∀ (x' : {i : Nat // i ≤ l.length ∧ ∀ j, j < i → agreeB row l sp j = true}), x'.1 = i + 1 → AV.int .i64 (IntKind.i64.wrap ((i : Int) + 1)) = AV.int .i64 (x'.1 : Int) := fun x' hx => by
            rw [hx, IntWalk.i64_in _ (by omega)]; rfl
          refine condF (fun g => ?_) (fun g => ?_)
          · conv => whnf
            obtain ⟨x', hx⟩ := step (by unfold agreeB; rw [show (row.getD i 0 == l.getD i 0) = true by simpa using g]; rfl)
            refine ⟨x', ⟨[], rfl, rfl, rfl, ⟨⟨rfl, rfl⟩, ⟨rfl, rfl⟩, ⟨rfl, rfl⟩, ⟨rfl, rfl⟩, ⟨rfl, rfl⟩, ⟨next x' hx, rfl⟩, trivial⟩, ⟨⟨rfl, rfl, rfl⟩, ⟨rfl, rfl, rfl⟩, trivial⟩⟩, by show l.length - x'.1 < l.length - i; omega⟩
          · conv => whnf
            cases sp
            · conv => whnf
              rw [finR_no q row l false e (.inr (.inr ⟨i, hlt, by unfold agreeB; rw [show (row.getD i 0 == l.getD i 0) = false by simpa using g]; rfl⟩))]
              exact FrzK.le (leReqE rfl rfl rfl rfl Le.nilB (Le.nilI _) rfl)
            · conv => whnf
              by_cases hL : i = l.length - 1
              · refine condN ?_ ?_
                · rw [hl1]; simp; omega
                conv => whnf
                obtain ⟨x', hx⟩ := step (by unfold agreeB; simp [hL])
                refine ⟨x', ⟨[], rfl, rfl, rfl, ⟨⟨rfl, rfl⟩, ⟨rfl, rfl⟩, ⟨rfl, rfl⟩, ⟨rfl, rfl⟩, ⟨rfl, rfl⟩, ⟨next x' hx, rfl⟩, trivial⟩, ⟨⟨rfl, rfl, rfl⟩, ⟨rfl, rfl, rfl⟩, trivial⟩⟩, by show l.length - x'.1 < l.length - i; omega⟩
              · refine condY ?_ ?_
                · rw [hl1]; simp; omega
                conv => whnf
                rw [finR_no q row l true e (.inr (.inr ⟨i, hlt, by unfold agreeB; rw [show (row.getD i 0 == l.getD i 0) = false by simpa using g]; simp; omega⟩))]
                exact FrzK.le (leReqE rfl rfl rfl rfl Le.nilB (Le.nilI _) rfl)
        · refine condN (by simpa using hlt) ?_
          conv => whnf
          rw [finR_yes q row l sp e he hlen (fun j hj => hag j (by omega))]
          exact FrzK.le (leReqE rfl rfl rfl rfl (by rw [kb rfl]; exact Le.nilB) (Le.refl _) rfl)
      · conv => whnf
        refine Tr.le (args' := [reqA q.f q.a q.n q.a2 (.roB q.b) (.roI .u16 q.r)]) ⟨Le.agg ⟨Le.refl _, Le.refl _, Le.refl _, Le.refl _, (by rw [kb rfl]; exact Le.nilB), (by rw [kr rfl]; exact Le.nilI _), trivial⟩, trivial⟩ (Ev.call hR ?_)
        conv => whnf
        refine condS (fun h => ?_) (fun h => ?_)
        · conv => whnf
          rw [finR_no q row l sp e (.inl (by simpa using h))]
          exact FrzK.le (leReqE rfl rfl rfl rfl Le.nilB (Le.nilI _) rfl)
        conv => whnf
        refine condS (fun h' => ?_) (fun h' => ?_)
        · conv => whnf
          rw [finR_no q row l sp e (.inr (.inl (by simp at h'; omega)))]
          exact FrzK.le (leReqE rfl rfl rfl rfl Le.nilB (Le.nilI _) rfl)
        conv => whnf
        have he : e = 0 := by simpa using h
        have hlen : row.length = l.length := by simp at h'; omega
        refine loopI (α := {i : Nat // i ≤ l.length ∧ ∀ j, j < i → agreeB row l sp j = true}) (fun i => [(0, .roI .u8 l), (2, .ptr 0 0), (4, .ptr 1 0), (6, .bool sp), (7, .roI .u8 row), (9, .int .i64 i.1)])
          (fun i => ⟨2, [(1, some (.obj [.int .u8 q.f, .int .u16 q.a, .int .u16 q.n, .int .u16 q.a2, .nils, .nils])), (0, some (.obj [.int .u8 0, .int .u16 0, .int .u16 0, .int .u16 0, .nils, .nils]))]⟩) (fun i => l.length - i.1) ⟨0, Nat.zero_le _, fun j hj => absurd hj (Nat.not_lt_zero j)⟩
          ⟨[], rfl, rfl, rfl, ⟨⟨rfl, rfl⟩, ⟨rfl, rfl⟩, ⟨rfl, rfl⟩, ⟨rfl, rfl⟩, ⟨rfl, rfl⟩, ⟨rfl, rfl⟩, trivial⟩, ⟨⟨rfl, rfl, rfl⟩, ⟨rfl, rfl, rfl⟩, trivial⟩⟩ fun ⟨i, hi, hag⟩ => ?_
        conv => whnf
        have hl1 : IntKind.i64.wrap ((l.length : Int) - 1) = (l.length : Int) - 1 := IntWalk.i64_in _ (by omega)
        by_cases hlt : i < l.length
        · refine condY (by simpa using hlt) ?_
          conv => whnf
          refine condT (by simp; omega) ?_
          conv => whnf
          refine condT (by simpa using hlt) ?_
          conv => whnf
          have step : agreeB row l sp i = true → ∃ x' : {i : Nat // i ≤ l.length ∧ ∀ j, j < i → agreeB row l sp j = true}, x'.1 = i + 1 := fun ha => ⟨⟨i + 1, hlt, fun j hj => by
            by_cases hji : j = i
            · rw [hji]; exact ha
            · exact hag j (by omega)⟩, rfl⟩
          have next : ∀ (x' : {i : Nat // i ≤ l.length ∧ ∀ j, j < i → agreeB row l sp j = true}), x'.1 = i + 1 → AV.int .i64 (IntKind.i64.wrap ((i : Int) + 1)) = AV.int .i64 (x'.1 : Int) := fun x' hx => by
            rw [hx, IntWalk.i64_in _ (by omega)]; rfl
          refine condF (fun g => ?_) (fun g => ?_)
          · conv => whnf
            obtain ⟨x', hx⟩ := step (by unfold agreeB; rw [show (row.getD i 0 == l.getD i 0) = true by simpa using g]; rfl)
            refine ⟨x', ⟨[], rfl, rfl, rfl, ⟨⟨rfl, rfl⟩, ⟨rfl, rfl⟩, ⟨rfl, rfl⟩, ⟨rfl, rfl⟩, ⟨rfl, rfl⟩, ⟨next x' hx, rfl⟩, trivial⟩, ⟨⟨rfl, rfl, rfl⟩, ⟨rfl, rfl, rfl⟩, trivial⟩⟩, by show l.length - x'.1 < l.length - i; omega⟩
          · conv => whnf
            cases sp
            · conv => whnf
              rw [finR_no q row l false e (.inr (.inr ⟨i, hlt, by unfold agreeB; rw [show (row.getD i 0 == l.getD i 0) = false by simpa using g]; rfl⟩))]
              exact FrzK.le (leReqE rfl rfl rfl rfl Le.nilB (Le.nilI _) rfl)
            · conv => whnf
              by_cases hL : i = l.length - 1
              · refine condN ?_ ?_
                · rw [hl1]; simp; omega
                conv => whnf
                obtain ⟨x', hx⟩ := step (by unfold agreeB; simp [hL])
                refine ⟨x', ⟨[], rfl, rfl, rfl, ⟨⟨rfl, rfl⟩, ⟨rfl, rfl⟩, ⟨rfl, rfl⟩, ⟨rfl, rfl⟩, ⟨rfl, rfl⟩, ⟨next x' hx, rfl⟩, trivial⟩, ⟨⟨rfl, rfl, rfl⟩, ⟨rfl, rfl, rfl⟩, trivial⟩⟩, by show l.length - x'.1 < l.length - i; omega⟩
              · refine condY ?_ ?_
                · rw [hl1]; simp; omega
                conv => whnf
                rw [finR_no q row l true e (.inr (.inr ⟨i, hlt, by unfold agreeB; rw [show (row.getD i 0 == l.getD i 0) = false by simpa using g]; simp; omega⟩))]
                exact FrzK.le (leReqE rfl rfl rfl rfl Le.nilB (Le.nilI _) rfl)
        · refine condN (by simpa using hlt) ?_
          conv => whnf
          rw [finR_yes q row l sp e he hlen (fun j hj => hag j (by omega))]
          exact FrzK.le (leReqE rfl rfl rfl rfl (by rw [kb rfl]; exact Le.nilB) (by rw [kr rfl]; exact Le.nilI _) rfl)
  · conv => whnf
    have : o = none := by rw [← ho]; unfold rOpenS; rw [if_pos h]
    subst this
    exact FrzK.le (leReqE rfl rfl rfl rfl Le.nilB (Le.nilI _) rfl)
theorem rOpen_ev (l : List Int) (hl : l.length ≤ 1000) : Ev Try.prog 54 [.roI .u8 l] (.tup [rqA (decR l).1, .int .i64 (decR l).2]) := FrzK.ev rfl (rOpen_raw l hl)
end Go.Proofs.Ytomodeliimnddaa
set_option linter.unusedVariables false
set_option linter.unusedSimpArgs false
namespace Go.Proofs.Ytomodeliimnddaa
open Go.Ab
theorem pack_bit8 (l : List Bool) : ∀ i, i ≤ l.length → ∀ j, j / 8 < (l.length + 7) / 8 → bitAt (packN l i) j = (decide (j < i) && l.getD j false) := by
  intro i
  induction i with
  | zero =>
    intro _ j hj
    simp only [bitAt, packN, List.getD_eq_getElem?_getD, List.getElem?_replicate]
    split <;> simp [bitE_zero]
  | succ i ih =>
    intro hi j hj
    have ih := ih (by omega) j hj
    simp only [bitAt, packN_length] at ih ⊢
    have hd : decide (j / 8 < (l.length + 7) / 8) = true := by simp; omega
    rw [hd, Bool.true_and] at ih ⊢
    simp only [packN]
    cases hb : l.getD i false with
    | true =>
      simp only [if_true]
      by_cases hk : j / 8 = i / 8
      · have e : ((packN l i).set (i / 8) (orBit ((packN l i).getD (i / 8) 0) i)).getD (j / 8) 0 = orBit ((packN l i).getD (i / 8) 0) i := by
          rw [hk, List.getD_eq_getElem?_getD, List.getElem?_set, if_pos rfl, if_pos (by rw [packN_length]; omega)]
          rfl
        rw [e, or_bit _ (packN_byte l i _).1 (packN_byte l i _).2, ← hk, ih]
        by_cases hji : j = i
        · subst hji; rw [hb]; simp
        · have : ¬ (j % 8 = i % 8) := by omega
          simp only [this, decide_false, Bool.false_or]
          have h2 : (j < i) ↔ (j < i + 1) := by omega
          simp [h2]
      · have e : ((packN l i).set (i / 8) (orBit ((packN l i).getD (i / 8) 0) i)).getD (j / 8) 0 = (packN l i).getD (j / 8) 0 := by
          rw [List.getD_eq_getElem?_getD, List.getElem?_set, if_neg (fun h => hk h.symm)]
          rfl
        rw [e, ih]
        have h2 : (j < i) ↔ (j < i + 1) := by
          have : j ≠ i := fun h => hk (by rw [h])
          omega
        simp [h2]
    | false =>
      simp only [Bool.false_eq_true, if_false]
      rw [ih]
      by_cases hji : j = i
      · subst hji; rw [hb]; simp
      · have h2 : (j < i) ↔ (j < i + 1) := by omega
        simp [h2]
def sum8 (f : Nat → Bool) : Int := (if f 0 then 1 else 0) + (if f 1 then 2 else 0) + (if f 2 then 4 else 0) + (if f 3 then 8 else 0) + (if f 4 then 16 else 0) + (if f 5 then 32 else 0) + (if f 6 then 64 else 0) + (if f 7 then 128 else 0)
theorem sum_fin : ∀ x : Fin 256, (x.val : Int) = sum8 (bitE (x.val : Int)) := by decide +kernel
theorem byte_ext (x y : Int) (hx : 0 ≤ x ∧ x < 256) (hy : 0 ≤ y ∧ y < 256) (h : ∀ j, j < 8 → bitE x j = bitE y j) : x = y := by
  obtain ⟨a, rfl⟩ := Int.eq_ofNat_of_zero_le hx.1
  obtain ⟨b, rfl⟩ := Int.eq_ofNat_of_zero_le hy.1
  have h1 := sum_fin ⟨a, by omega⟩
  have h2 := sum_fin ⟨b, by omega⟩
  simp only at h1 h2
  rw [h1, h2]
  unfold sum8
  rw [h 0 (by omega), h 1 (by omega), h 2 (by omega), h 3 (by omega), h 4 (by omega), h 5 (by omega), h 6 (by omega), h 7 (by omega)]
theorem low_fin : ∀ k j : Fin 8, ∀ y : Fin 256, bitE ((y.val % 2 ^ k.val : Nat) : Int) j.val = (decide (j.val < k.val) && bitE (y.val : Int) j.val) := by decide +kernel
theorem lastlow_fin : ∀ k : Fin 8, ∀ y : Fin 256, lastB ((y.val % 2 ^ k.val : Nat) : Int) (y.val : Int) k.val = y.val := by decide +kernel
theorem bitE_mod (a : Int) (j : Nat) : bitE a j = bitE a (j % 8) := by unfold bitE; rw [Nat.mod_mod]
theorem bitsA_getD (t : List Int) : ∀ n j, j < n → (bitsA t n).getD j false = bitAt t j := by
  intro n
  induction n with
  | zero => intro j hj; omega
  | succ n ih =>
    intro j hj
    have hl : ∀ i, (bitsA t i).length = i := by
      intro i
      induction i with
      | zero => rfl
      | succ i ih => simp [bitsA, ih]
    rw [bitsA, List.getD_eq_getElem?_getD]
    by_cases hjn : j < n
    · rw [List.getElem?_append_left (by rw [hl]; exact hjn)]
      have := ih j hjn
      rw [List.getD_eq_getElem?_getD] at this
      exact this
    · have : j = n := by omega
      subst this
      rw [List.getElem?_append_right (by rw [hl]; omega), hl]
      simp
theorem bitsA_len (t : List Int) : ∀ n, (bitsA t n).length = n := by
  intro n
  induction n with
  | zero => rfl
  | succ n ih => simp [bitsA, ih]
/-- what the k-th byte of packed bits of bytes is -/
theorem repack (t : List Int) (n k : Nat) (ht : t.length = (n + 7) / 8) (hk : k < (n + 7) / 8) (hb : ∀ i, 0 ≤ t.getD i 0 ∧ t.getD i 0 < 256) :
    (8 * k + 8 ≤ n → (packN (bitsA t n) n).getD k 0 = t.getD k 0) ∧ (n < 8 * k + 8 → lastB ((packN (bitsA t n) n).getD k 0) (t.getD k 0) n = t.getD k 0) := by
  have hl := bitsA_len t n
  have hbit : ∀ j, j < 8 → bitE ((packN (bitsA t n) n).getD k 0) j = (decide (8 * k + j < n) && bitE (t.getD k 0) j) := by
    intro j hj
    have h := pack_bit8 (bitsA t n) n (by omega) (8 * k + j) (by rw [hl]; omega)
    have e1 : (8 * k + j) / 8 = k := by omega
    have e2 : (8 * k + j) % 8 = j := by omega
    simp only [bitAt, packN_length, hl, e1] at h
    rw [bitE_mod _ (8 * k + j), e2, show decide (k < (n + 7) / 8) = true by simp; omega, Bool.true_and] at h
    rw [h]
    by_cases hjn : 8 * k + j < n
    · rw [bitsA_getD t n _ hjn]
      simp only [bitAt, e1, ht, hk, decide_true, Bool.true_and, hjn]
      rw [bitE_mod _ (8 * k + j), e2]
    · simp [hjn]
  have hp := packN_byte (bitsA t n) n k
  constructor
  · intro h
    refine byte_ext _ _ hp (hb k) fun j hj => ?_
    rw [hbit j hj]
    have : 8 * k + j < n := by omega
    simp [this]
  · intro h
    obtain ⟨y, hy⟩ := Int.eq_ofNat_of_zero_le (hb k).1
    have hy2 := (hb k).2
    have hr : n = 8 * k + n % 8 ∧ 0 < n % 8 := by omega
    have e : (packN (bitsA t n) n).getD k 0 = ((y % 2 ^ (n % 8) : Nat) : Int) := by
      have hlt : y % 2 ^ (n % 8) ≤ y := Nat.mod_le _ _
      refine byte_ext _ _ hp ⟨by omega, by omega⟩ fun j hj => ?_
      have := low_fin ⟨n % 8, by omega⟩ ⟨j, hj⟩ ⟨y, by omega⟩
      simp only at this
      rw [this, hbit j hj, hy]
      have e3 : decide (8 * k + j < n) = decide (j < n % 8) := by
        rw [Bool.eq_iff_iff]; simp; omega
      rw [e3]
    have := lastlow_fin ⟨n % 8, by omega⟩ ⟨y, by omega⟩
    simp only at this
    rw [e, hy]
    unfold lastB at this ⊢
    rw [Nat.mod_mod] at this
    exact this

theorem numAt_drop (l : List Int) (k i : Nat) : numAt (l.drop k) i = numAt l (k + i) := by
  unfold numAt
  simp [List.getD_eq_getElem?_getD, List.getElem?_drop, Nat.add_assoc]
theorem agree_all (row l : List Int) : ((row.length : Int) == l.length && (List.range l.length).all (agreeB row l false)) = (row == l) := by
  rw [Bool.eq_iff_iff]
  simp only [Bool.and_eq_true, beq_iff_eq, List.all_eq_true, List.mem_range, agreeB, Bool.false_and, Bool.or_false]
  constructor
  · rintro ⟨h1, h2⟩
    have h1 : row.length = l.length := by omega
    refine List.ext_getElem h1 fun i h3 h4 => ?_
    have := h2 i h4
    simpa [List.getD_eq_getElem?_getD, h3, h4] using this
  · rintro rfl
    exact ⟨rfl, fun _ _ => rfl⟩
theorem again_not15 (q : Rq) (l row : List Int) (e : Int) (h : (q.f == 15) = false) : againS q l row e = row := by
  unfold againS
  rw [h]; simp
/-- the comparison at the end, where no bits are spare -/
theorem fin_same (q : Rq) (l : List Int) (h : (q.f == 15) = false) :
    (if encE q.f q.n q.a2 q.b q.r == 0 && againS q l (encR q.f q.a q.n q.a2 q.b q.r) (encE q.f q.n q.a2 q.b q.r) == l then (q, (0 : Int)) else (Rq.zero, 30)) = decT l (some (q, false)) := by
  simp only [decT, again_not15 _ _ _ _ h, Bool.and_assoc, agree_all]
theorem decS_def (l : List Int) (q : Rq) (h : openedS l = (q, true)) : decS l = if encE q.f q.n q.a2 q.b q.r == 0 && againS q l (encR q.f q.a q.n q.a2 q.b q.r) (encE q.f q.n q.a2 q.b q.r) == l then (q, (0 : Int)) else (Rq.zero, 30) := by
  unfold decS
  rw [h]
  rfl
theorem same_of (l : List Int) (q : Rq) (h1 : openedS l = (q, true)) (h2 : rOpenS l = some (q, false)) (h : (q.f == 15) = false) : decR l = decS l := by
  rw [decS_def l q h1, fin_same q l h]
  unfold decR
  rw [h2]
theorem decS_no (l : List Int) (h : (openedS l).2 = false) : decS l = (Rq.zero, 30) := by
  unfold decS
  rw [h]
  rfl
theorem opS (l : List Int) (h5 : 5 ≤ l.length) : openedS l = openedT (l.getD 0 0) (numAt l 1) (l.drop 3) := by
  unfold openedS
  rw [if_neg (by simp; omega), cutF_eq, cutF_eq, numAt_drop]
theorem opR (l : List Int) (h5 : 5 ≤ l.length) : rOpenS l = rOpenT (l.getD 0 0) (numAt l 1) (numAt l 3) l := by
  unfold rOpenS
  rw [if_neg (by simp; omega)]
theorem ne_len {row l : List Int} (h : row.length ≠ l.length) : (row == l) = false := by
  rw [beq_eq_false_iff_ne]
  intro e; exact h (by rw [e])
theorem again_len (q : Rq) (l row : List Int) (e : Int) : (againS q l row e).length = row.length := by
  unfold againS
  split <;> simp
theorem decR_none (l : List Int) (h : rOpenS l = none) : decR l = (Rq.zero, 30) := by
  unfold decR
  rw [h]
  rfl
theorem both_no (l : List Int) (q q' : Rq) (sp : Bool) (h1 : openedS l = (q, true)) (h2 : rOpenS l = some (q', sp)) (k1 : (encR q.f q.a q.n q.a2 q.b q.r).length ≠ l.length) (k2 : (encR q'.f q'.a q'.n q'.a2 q'.b q'.r).length ≠ l.length) : decR l = decS l := by
  rw [decS_def l q h1]
  unfold decR
  rw [h2]
  have e1 : (againS q l (encR q.f q.a q.n q.a2 q.b q.r) (encE q.f q.n q.a2 q.b q.r) == l) = false := ne_len (by rw [again_len]; exact k1)
  have e2 : (((encR q'.f q'.a q'.n q'.a2 q'.b q'.r).length : Int) == l.length) = false := by
    rw [beq_eq_false_iff_ne]; omega
  simp [decT, e1, e2]
theorem enc6_len (a n a2 : Int) (b : List Bool) (r : List Int) : (encR 6 a n a2 b r).length = 5 ∨ (encR 6 a n a2 b r).length = 0 := by
  unfold encR
  by_cases hk : encOk 6 n a2 b r = true
  · rw [if_pos hk]
    simp [encOk] at hk
    left
    have h1 : r.length = 1 := by omega
    simp [reqS, pre3, two8, twos_length, hk, h1]
  · rw [if_neg hk]; right; rfl
theorem agree_set (row l : List Int) (h : row.length = l.length) (hl : 0 < l.length) : (row.set (l.length - 1) (l.getD (l.length - 1) 0) == l) = (List.range l.length).all (agreeB row l true) := by
  rw [Bool.eq_iff_iff]
  simp only [beq_iff_eq, List.all_eq_true, List.mem_range, agreeB, Bool.true_and, Bool.or_eq_true]
  constructor
  · intro e j hj
    by_cases hjl : j = l.length - 1
    · right; omega
    · left
      have : (row.set (l.length - 1) (l.getD (l.length - 1) 0)).getD j 0 = l.getD j 0 := by rw [e]
      rw [List.getD_eq_getElem?_getD, List.getElem?_set, if_neg (fun h => hjl h.symm)] at this
      exact this
  · intro e
    refine List.ext_getElem (by simp [h]) fun j h3 h4 => ?_
    rw [List.getElem_set]
    split
    · rename_i hj
      subst hj
      simp [List.getD_eq_getElem?_getD, h4]
    · rename_i hj
      rcases e j h4 with e | e
      · have h5 : j < row.length := by omega
        simpa [List.getD_eq_getElem?_getD, h5, h4] using e
      · omega
theorem row15_len (a : Int) (b : List Bool) : (row15 15 a b).length = 6 + (b.length + 7) / 8 := by
  simp [row15, pre3, two8, packN_length]; omega
theorem row15_get (a : Int) (b : List Bool) (k : Nat) : (row15 15 a b).getD (6 + k) 0 = (packN b b.length).getD k 0 := by
  simp only [row15, pre3, two8, List.cons_append, List.nil_append, List.append_assoc]
  rw [show 6 + k = k + 6 by omega]
  rfl
theorem row15_5 (a : Int) (b : List Bool) : (row15 15 a b).getD 5 0 = IntKind.u8.wrap (((b.length + 7) / 8 : Nat) : Int) := rfl
theorem drop_get (l : List Int) (k i : Nat) : (l.drop k).getD i 0 = l.getD (k + i) 0 := by
  simp [List.getD_eq_getElem?_getD, List.getElem?_drop]
theorem bitsK_v (v : Int) (h0 : 0 ≤ v) (h1 : v < 65536) : bitsK (IntKind.i64.wrap v) = min v.toNat 2000 := by
  rw [IntWalk.i64_in _ (by omega)]
  unfold bitsK
  rw [if_neg (show ¬ (0 > v) by omega)]
  split
  · rw [Nat.min_eq_right (by omega)]; rfl
  · rw [Nat.min_eq_left (by omega)]
theorem o15n (a : Int) (t : List Int) (h : t.length < 3) : openedT 15 a t = (⟨15, a, 0, 0, [], []⟩, false) := by
  have e : decide ((t.length : Int) < 3) = true := by simp; omega
  unfold openedT; rw [e]; rfl
theorem o15y (a : Int) (t : List Int) (h : 3 ≤ t.length) : openedT 15 a t = (⟨15, a, 0, 0, bitsA (cutF t 3) (bitsK (IntKind.i64.wrap (numAt t 0))), []⟩, true) := by
  have e : decide ((t.length : Int) < 3) = false := by simp; omega
  unfold openedT; rw [e]; rfl
theorem o16n (a : Int) (t : List Int) (h : t.length < 3) : openedT 16 a t = (⟨16, a, 0, 0, [], []⟩, false) := by
  have e : decide ((t.length : Int) < 3) = true := by simp; omega
  unfold openedT; rw [e]; rfl
theorem o16y (a : Int) (t : List Int) (h : 3 ≤ t.length) : openedT 16 a t = (⟨16, a, 0, 0, [], numsN (cutF t 3) ((cutF t 3).length / 2)⟩, true) := by
  have e : decide ((t.length : Int) < 3) = false := by simp; omega
  unfold openedT; rw [e]; rfl
theorem o23n (a : Int) (t : List Int) (h : t.length < 7) : openedT 23 a t = (⟨23, a, 0, 0, [], []⟩, false) := by
  have e : decide ((t.length : Int) < 7) = true := by simp; omega
  unfold openedT; rw [e]; rfl
theorem o23y (a : Int) (t : List Int) (h : 7 ≤ t.length) : openedT 23 a t = (⟨23, a, numAt t 0, numAt (cutF t 2) 0, [], numsN (cutF t 7) ((cutF t 7).length / 2)⟩, true) := by
  have e : decide ((t.length : Int) < 7) = false := by simp; omega
  unfold openedT; rw [e]; rfl
theorem r16n (a v : Int) (l : List Int) (u : Unit) (h : l.length < 6) : rOpenT 16 a v l = none := by
  have e : decide ((l.length : Int) < 6) = true := by simp; omega
  unfold rOpenT; rw [e]; rfl
theorem r16y (a v : Int) (l : List Int) (u : Unit) (h : 6 ≤ l.length) : rOpenT 16 a v l = some (⟨16, a, 0, 0, [], numsN (cutF l 6) ((cutF l 6).length / 2)⟩, false) := by
  have e : decide ((l.length : Int) < 6) = false := by simp; omega
  unfold rOpenT; rw [e]; rfl
theorem r23n (a v : Int) (l : List Int) (u : Unit) (h : l.length < 10) : rOpenT 23 a v l = none := by
  have e : decide ((l.length : Int) < 10) = true := by simp; omega
  unfold rOpenT; rw [e]; rfl
theorem r23y (a v : Int) (l : List Int) (u : Unit) (h : 10 ≤ l.length) : rOpenT 23 a v l = some (⟨23, a, v, numAt l 5, [], numsN (cutF l 10) ((cutF l 10).length / 2)⟩, false) := by
  have e : decide ((l.length : Int) < 10) = false := by simp; omega
  unfold rOpenT; rw [e]; rfl
theorem dec15 (l : List Int) (hb : isB l) (hlen : l.length ≤ 1000) (h6 : 6 ≤ l.length) (hf : l.getD 0 0 = 15) : decR l = decS l := by
  have hS := opS l (by omega)
  have hR := opR l (by omega)
  rw [hf] at hS hR
  have hv0 := numAt0 l 3
  have hv1 := numAtL l 3
  have hK := bitsK_v (numAt l 3) hv0 hv1
  have h1 : openedS l = (⟨15, numAt l 1, 0, 0, bitsA (l.drop 6) (bitsK (IntKind.i64.wrap (numAt l 3))), []⟩, true) := by
    rw [hS]
    rw [o15y _ _ (by simp; omega), numAt_drop, cutF_eq, List.drop_drop]
  rw [hK] at h1
  have hr : rOpenS l = if decide ((l.length : Int) < 6) || decide (numAt l 3 < 1) || decide (numAt l 3 > 1968) || (l.length : Int) != IntKind.i64.wrap (6 + IntKind.i64.wrap (l.getD 5 0)) then none else some (⟨15, numAt l 1, 0, 0, bitsA (cutF l 6) (bitsK (IntKind.i64.wrap (numAt l 3))), []⟩, true) := by
    rw [hR]; simp [rOpenT]
  rw [hK, cutF_eq] at hr
  have h5b := hb.getD 5
  have hw : IntKind.i64.wrap (6 + IntKind.i64.wrap (l.getD 5 0)) = 6 + l.getD 5 0 := by
    rw [IntWalk.i64_in (l.getD 5 0) (by omega), IntWalk.i64_in _ (by omega)]
  rw [hw] at hr
  generalize hc5 : l.getD 5 0 = c5 at hr h5b
  generalize hnn : min (numAt l 3).toNat 2000 = n at h1 hr
  have hbl : (bitsA (l.drop 6) n).length = n := bitsA_len _ _
  by_cases hv : 1 ≤ numAt l 3 ∧ numAt l 3 ≤ 1968
  · have hn : 1 ≤ n ∧ n ≤ 1968 := by omega
    have hok : encOk 15 0 0 (bitsA (l.drop 6) n) [] = true := by simp [encOk, withinB, hbl]; omega
    have henc : encR 15 (numAt l 1) 0 0 (bitsA (l.drop 6) n) [] = row15 15 (numAt l 1) (bitsA (l.drop 6) n) := by
      unfold encR
      rw [if_pos hok]
      rfl
    have hE : encE 15 0 0 (bitsA (l.drop 6) n) [] = 0 := by unfold encE; rw [if_pos hok]
    have hrl := row15_len (numAt l 1) (bitsA (l.drop 6) n)
    rw [hbl] at hrl
    by_cases hc : (l.length : Int) = 6 + c5
    · have h2 : rOpenS l = some (⟨15, numAt l 1, 0, 0, bitsA (l.drop 6) n, []⟩, true) := by
        rw [hr, if_neg]
        simp; omega
      by_cases hl : (row15 15 (numAt l 1) (bitsA (l.drop 6) n)).length = l.length
      · rw [decS_def l _ h1]
        unfold decR
        rw [h2]
        simp only [decT, henc, hE]
        have hL : l.length - 1 = 6 + ((n + 7) / 8 - 1) := by omega
        have hrep := repack (l.drop 6) n ((n + 7) / 8 - 1) (by simp; omega) (by omega) (fun i => by rw [drop_get]; exact hb.getD _)
        have hset : againS ⟨15, numAt l 1, 0, 0, bitsA (l.drop 6) n, []⟩ l (row15 15 (numAt l 1) (bitsA (l.drop 6) n)) 0 = (row15 15 (numAt l 1) (bitsA (l.drop 6) n)).set (l.length - 1) (l.getD (l.length - 1) 0) := by
          have g1 : (row15 15 (numAt l 1) (bitsA (l.drop 6) n)).getD (l.length - 1) 0 = (packN (bitsA (l.drop 6) n) n).getD ((n + 7) / 8 - 1) 0 := by
            rw [hL, row15_get, hbl]
          have g2 : l.getD (l.length - 1) 0 = (l.drop 6).getD ((n + 7) / 8 - 1) 0 := by rw [hL, drop_get]
          unfold againS
          simp only [hl, hbl, beq_self_eq_true, Bool.true_and, Bool.and_true, decide_eq_true_eq]
          by_cases hm : 0 < n % 8
          · rw [if_pos (by omega), g1, g2, hrep.2 (by omega)]
          · rw [if_neg (by omega)]
            have g3 : l.getD (l.length - 1) 0 = (row15 15 (numAt l 1) (bitsA (l.drop 6) n)).getD (l.length - 1) 0 := by
              rw [g1, g2, hrep.1 (by omega)]
            rw [g3, set_same]
        rw [hset, agree_set _ _ hl (by omega), hl]
        simp
      · exact both_no l _ _ true h1 h2 (by simp only [henc]; exact hl) (by simp only [henc]; exact hl)
    · rw [decR_none l (by
        rw [hr, if_pos]
        simp; omega), decS_def l _ h1]
      simp only [henc, hE]
      rw [if_neg]
      intro h
      simp only [beq_self_eq_true, Bool.true_and, beq_iff_eq] at h
      have k1 : (againS ⟨15, numAt l 1, 0, 0, bitsA (l.drop 6) n, []⟩ l (row15 15 (numAt l 1) (bitsA (l.drop 6) n)) 0).length = l.length := by rw [h]
      rw [again_len, hrl] at k1
      have k2 : (againS ⟨15, numAt l 1, 0, 0, bitsA (l.drop 6) n, []⟩ l (row15 15 (numAt l 1) (bitsA (l.drop 6) n)) 0).getD 5 0 = c5 := by rw [h]; exact hc5
      have k3 : (againS ⟨15, numAt l 1, 0, 0, bitsA (l.drop 6) n, []⟩ l (row15 15 (numAt l 1) (bitsA (l.drop 6) n)) 0).getD 5 0 = (row15 15 (numAt l 1) (bitsA (l.drop 6) n)).getD 5 0 := by
        unfold againS
        split
        · rw [List.getD_eq_getElem?_getD, List.getElem?_set, if_neg (by omega), ← List.getD_eq_getElem?_getD]
        · rfl
      rw [k3, row15_5, hbl, u8_in _ (by omega) (by omega)] at k2
      omega
  · rw [decR_none l (by
      rw [hr, if_pos]
      simp; omega), decS_def l _ h1]
    have hok : encOk 15 0 0 (bitsA (l.drop 6) n) [] = false := by
      simp [encOk, withinB, hbl]; omega
    have hE : encE 15 0 0 (bitsA (l.drop 6) n) [] = 30 := by unfold encE; rw [if_neg (by rw [hok]; simp)]
    simp only [hE]
    rw [if_neg]
    simp
theorem dec_same (l : List Int) (hb : isB l) (hlen : l.length ≤ 1000) : decR l = decS l := by
  by_cases h5 : l.length < 5
  · rw [decS_no l (by unfold openedS; rw [if_pos (by simp; omega)]), decR_none l (by unfold rOpenS; rw [if_pos (by simp; omega)])]
  have hS := opS l (by omega)
  have hR := opR l (by omega)
  by_cases h15 : l.getD 0 0 = 15
  · by_cases h6 : l.length < 6
    · rw [h15] at hS hR
      rw [decS_no l (by rw [hS, o15n _ _ (by simp; omega)]), decR_none l (by rw [hR]; simp [rOpenT]; omega)]
    · exact dec15 l hb hlen (by omega) h15
  generalize hf : l.getD 0 0 = f at hS hR h15
  by_cases h1 : f = 1
  · subst h1
    exact same_of l ⟨1, numAt l 1, numAt l 3, 0, [], []⟩ (by rw [hS]; simp [openedT, numAt_drop]) (by rw [hR]; simp [rOpenT]) rfl
  by_cases h2 : f = 2
  · subst h2
    exact same_of l ⟨2, numAt l 1, numAt l 3, 0, [], []⟩ (by rw [hS]; simp [openedT, numAt_drop]) (by rw [hR]; simp [rOpenT]) rfl
  by_cases h3 : f = 3
  · subst h3
    exact same_of l ⟨3, numAt l 1, numAt l 3, 0, [], []⟩ (by rw [hS]; simp [openedT, numAt_drop]) (by rw [hR]; simp [rOpenT]) rfl
  by_cases h4 : f = 4
  · subst h4
    exact same_of l ⟨4, numAt l 1, numAt l 3, 0, [], []⟩ (by rw [hS]; simp [openedT, numAt_drop]) (by rw [hR]; simp [rOpenT]) rfl
  by_cases h5 : f = 5
  · subst h5
    exact same_of l ⟨5, numAt l 1, 0, 0, [numAt l 3 == 65280], []⟩ (by rw [hS]; simp [openedT, numAt_drop]) (by rw [hR]; simp [rOpenT]) rfl
  by_cases h6 : f = 6
  · subst h6
    by_cases hl : l.length = 5
    · refine same_of l ⟨6, numAt l 1, 0, 0, [], [numAt l 3]⟩ (by
        rw [hS]
        have e : (l.drop 3).length = 2 := by simp; omega
        have e2 : numsN (l.drop 3) 1 = [numAt l 3] := by
          have := numAt_drop l 3 0
          simp only [numsN, List.nil_append]
          exact congrArg (fun x => [x]) this
        simp [openedT, hl, e2]) (by rw [hR]; simp [rOpenT]) rfl
    · refine both_no l ⟨6, numAt l 1, 0, 0, [], numsN (l.drop 3) ((l.drop 3).length / 2)⟩ ⟨6, numAt l 1, 0, 0, [], [numAt l 3]⟩ false (by rw [hS]; simp [openedT]) (by rw [hR]; simp [rOpenT]) ?_ ?_
      · rcases enc6_len (numAt l 1) 0 0 [] (numsN (l.drop 3) ((l.drop 3).length / 2)) with e | e <;> (simp only [e]; omega)
      · rcases enc6_len (numAt l 1) 0 0 [] [numAt l 3] with e | e <;> (simp only [e]; omega)
  by_cases h22 : f = 22
  · subst h22
    exact same_of l ⟨22, numAt l 1, 0, 0, [], numsN (l.drop 3) ((l.drop 3).length / 2)⟩ (by rw [hS]; simp [openedT]) (by rw [hR]; simp [rOpenT, cutF_eq]) rfl
  by_cases h16 : f = 16
  · subst h16
    by_cases hl : l.length < 6
    · rw [decS_no l (by rw [hS, o16n _ _ (by simp; omega)]), decR_none l (by rw [hR, r16n _ _ _ () (by omega)])]
    · refine same_of l ⟨16, numAt l 1, 0, 0, [], numsN (l.drop 6) ((l.drop 6).length / 2)⟩ (by
        rw [hS, o16y _ _ (by simp; omega), cutF_eq, List.drop_drop]) (by rw [hR, r16y _ _ _ () (by omega), cutF_eq]) rfl
  by_cases h23 : f = 23
  · subst h23
    by_cases hl : l.length < 10
    · rw [decS_no l (by rw [hS, o23n _ _ (by simp; omega)]), decR_none l (by rw [hR, r23n _ _ _ () (by omega)])]
    · refine same_of l ⟨23, numAt l 1, numAt l 3, numAt l 5, [], numsN (l.drop 10) ((l.drop 10).length / 2)⟩ (by
        rw [hS, o23y _ _ (by simp; omega), cutF_eq, cutF_eq, List.drop_drop, List.drop_drop, numAt_drop, numAt_drop]) (by rw [hR, r23y _ _ _ () (by omega), cutF_eq]) rfl
  refine same_of l ⟨f, numAt l 1, 0, 0, [], []⟩ (by rw [hS]; simp [openedT, *]) (by rw [hR]; simp [rOpenT, *]) (by simpa using h15)
end Go.Proofs.Ytomodeliimnddaa
set_option linter.unusedVariables false
set_option linter.unusedSimpArgs false
namespace Go.Proofs.Ytomodeliimnddaa
open Go.Ab
/- rung/slave.Exception -/
def a94 : ACode := (.seq (.reg [⟨(some 4), .mov (.c .nils), none, false⟩])
 (.seq (.reg [⟨(some 5), .mov (.c (.int .u8 0)), none, false⟩])
 (.seq (.seq (.reg [⟨(some 6), .mov (.t 0), none, false⟩, ⟨(some 7), .len false (.t 6), none, false⟩, ⟨(some 8), .bin .gtr .other (.t 7) (.c (.int .i64 0)), none, false⟩])
 (.cond (.t 8) (.reg [⟨(some 9), .mov (.t 0), none, false⟩, ⟨(some 10), .idx 1 none false (.t 9) (.c (.int .i64 0)), none, false⟩, ⟨(some 11), .load false 1 (.t 10), none, false⟩, ⟨(some 5), .mov (.t 11), none, false⟩])
 .skip))
 (.seq (.reg [⟨(some 12), .mov (.t 5), none, false⟩, ⟨(some 13), .bin .or .other (.t 12) (.c (.int .u8 128)), none, false⟩, ⟨(some 14), .mov (.t 1), none, false⟩, ⟨(some 15), .bslice 1 (.int .u8) [(.int .u8 0), (.int .u8 0)] [(0, 1, (.t 13)), (1, 1, (.t 14))] 2, none, false⟩, ⟨(some 4), .mov (.t 15), none, false⟩])
 .ret))))
def r94 : List ARes := [.t 4]
theorem c94 : compF Try.prog Try.f94 = some (a94, r94) := by kernel_rfl

theorem b94 : hasBody Try.prog 94 = true := by kernel_rfl
theorem g94 : Try.prog.funcs[94]? = some Try.f94 := by kernel_rfl
/- rung/rungref25.Exception -/
def a95 : ACode := (.seq (.reg [⟨(some 4), .mov (.c .nils), none, false⟩])
 (.seq (.reg [⟨(some 5), .mov (.c (.int .u8 0)), none, false⟩])
 (.seq (.seq (.reg [⟨(some 6), .mov (.t 0), none, false⟩, ⟨(some 7), .len false (.t 6), none, false⟩, ⟨(some 8), .bin .gtr .other (.t 7) (.c (.int .i64 0)), none, false⟩])
 (.cond (.t 8) (.reg [⟨(some 9), .mov (.t 0), none, false⟩, ⟨(some 10), .idx 1 none false (.t 9) (.c (.int .i64 0)), none, false⟩, ⟨(some 11), .load false 1 (.t 10), none, false⟩, ⟨(some 5), .mov (.t 11), none, false⟩])
 .skip))
 (.seq (.reg [⟨(some 12), .mov (.t 5), none, false⟩, ⟨(some 13), .bin .or .other (.t 12) (.c (.int .u8 128)), none, false⟩, ⟨(some 14), .mov (.t 1), none, false⟩, ⟨(some 15), .bslice 1 (.int .u8) [(.int .u8 0), (.int .u8 0)] [(0, 1, (.t 13)), (1, 1, (.t 14))] 2, none, false⟩, ⟨(some 4), .mov (.t 15), none, false⟩])
 .ret))))
def r95 : List ARes := [.t 4]
theorem c95 : compF Try.prog Try.f95 = some (a95, r95) := by kernel_rfl

theorem b95 : hasBody Try.prog 95 = true := by kernel_rfl
theorem g95 : Try.prog.funcs[95]? = some Try.f95 := by kernel_rfl
/- rung/slave.of -/
def a124 : ACode := (.seq (.reg [⟨(some 2), .mov (.c .nili), none, false⟩])
 (.seq (.seq (.reg [⟨(some 3), .mov (.t 0), none, false⟩])
 (.block 0 (.seq (.seq (.reg [⟨(some 5), .bin .eql .other (.t 3) (.c (.int .u8 1)), none, false⟩, ⟨(some 4), .mov (.t 5), none, false⟩])
 (.cond (.t 4) .skip
 (.reg [⟨(some 6), .bin .eql .other (.t 3) (.c (.int .u8 2)), none, false⟩, ⟨(some 4), .mov (.t 6), none, false⟩])))
 (.cond (.t 4) (.seq (.reg [⟨(some 7), .build [] [], none, false⟩, ⟨(some 8), .mkif 206 (.t 7), none, false⟩, ⟨(some 2), .mov (.t 8), none, false⟩])
 .ret)
 (.seq (.seq (.reg [⟨(some 10), .bin .eql .other (.t 3) (.c (.int .u8 3)), none, false⟩, ⟨(some 9), .mov (.t 10), none, false⟩])
 (.cond (.t 9) .skip
 (.reg [⟨(some 11), .bin .eql .other (.t 3) (.c (.int .u8 4)), none, false⟩, ⟨(some 9), .mov (.t 11), none, false⟩])))
 (.cond (.t 9) (.seq (.reg [⟨(some 12), .build [] [], none, false⟩, ⟨(some 13), .mkif 207 (.t 12), none, false⟩, ⟨(some 2), .mov (.t 13), none, false⟩])
 .ret)
 (.seq (.seq (.reg [⟨(some 15), .bin .eql .other (.t 3) (.c (.int .u8 5)), none, false⟩, ⟨(some 14), .mov (.t 15), none, false⟩])
 (.cond (.t 14) .skip
 (.reg [⟨(some 16), .bin .eql .other (.t 3) (.c (.int .u8 15)), none, false⟩, ⟨(some 14), .mov (.t 16), none, false⟩])))
 (.cond (.t 14) (.seq (.reg [⟨(some 17), .build [] [], none, false⟩, ⟨(some 18), .mkif 208 (.t 17), none, false⟩, ⟨(some 2), .mov (.t 18), none, false⟩])
 .ret)
 (.seq (.seq (.reg [⟨(some 20), .bin .eql .other (.t 3) (.c (.int .u8 6)), none, false⟩, ⟨(some 19), .mov (.t 20), none, false⟩])
 (.cond (.t 19) .skip
 (.reg [⟨(some 21), .bin .eql .other (.t 3) (.c (.int .u8 16)), none, false⟩, ⟨(some 19), .mov (.t 21), none, false⟩])))
 (.cond (.t 19) (.seq (.reg [⟨(some 22), .build [] [], none, false⟩, ⟨(some 23), .mkif 209 (.t 22), none, false⟩, ⟨(some 2), .mov (.t 23), none, false⟩])
 .ret)
 (.seq (.reg [⟨(some 25), .bin .eql .other (.t 3) (.c (.int .u8 22)), none, false⟩, ⟨(some 24), .mov (.t 25), none, false⟩])
 (.cond (.t 24) (.seq (.reg [⟨(some 26), .build [] [], none, false⟩, ⟨(some 27), .mkif 210 (.t 26), none, false⟩, ⟨(some 2), .mov (.t 27), none, false⟩])
 .ret)
 .skip))))))))))))
 (.seq (.reg [⟨(some 28), .build [] [], none, false⟩, ⟨(some 29), .mkif 211 (.t 28), none, false⟩, ⟨(some 2), .mov (.t 29), none, false⟩])
 .ret)))
def r124 : List ARes := [.t 2]
theorem c124 : compF Try.prog Try.f124 = some (a124, r124) := by kernel_rfl

theorem b124 : hasBody Try.prog 124 = true := by kernel_rfl
theorem g124 : Try.prog.funcs[124]? = some Try.f124 := by kernel_rfl
/- rung/slave.Serve -/
def a71 : ACode := (.seq (.reg [⟨(some 4), .mov (.c .nils), none, false⟩])
 (.seq (.seq (.reg [⟨(some 11), .mov (.t 1), none, false⟩, ⟨(some 12), .len false (.t 11), none, false⟩, ⟨(some 13), .bin .eql .other (.t 12) (.c (.int .i64 0)), none, false⟩])
 (.cond (.t 13) (.seq (.reg [⟨(some 4), .mov (.c .nils), none, false⟩])
 .ret)
 .skip))
 (.seq (.seq (.reg [⟨(some 14), .mov (.t 1), none, false⟩, ⟨(some 15), .idx 1 none false (.t 14) (.c (.int .i64 0)), none, false⟩, ⟨(some 16), .load false 1 (.t 15), none, false⟩, ⟨(some 17), .call 65 [(.t 16)], none, false⟩, ⟨(some 18), .un .not (.t 17), none, false⟩])
 (.cond (.t 18) (.seq (.reg [⟨(some 19), .mov (.t 1), none, false⟩, ⟨(some 20), .call 94 [(.t 19), (.c (.int .u8 1))], none, false⟩, ⟨(some 4), .mov (.t 20), none, false⟩])
 .ret)
 .skip))
 (.seq (.reg [⟨(some 22), .mov (.t 1), none, false⟩, ⟨(some 23), .call 51 [(.t 22)], none, false⟩, ⟨(some 21), .mov (.t 23), none, false⟩, ⟨(some 24), .ext (.t 21) 0, none, false⟩, ⟨(some 25), .ext (.t 21) 1, none, false⟩, ⟨(some 5), .alloc [(1, (.int .u8 0)), (3, (.int .u16 0)), (2, .nils)], none, false⟩, ⟨none, .store 6 (.t 5) (.t 24), none, false⟩, ⟨(some 6), .mov (.t 25), none, false⟩])
 (.seq (.seq (.reg [⟨(some 26), .mov (.t 6), none, false⟩, ⟨(some 27), .bin .neq .other (.t 26) (.c (.int .i64 0)), none, false⟩])
 (.cond (.t 27) (.seq (.reg [⟨(some 28), .mov (.t 1), none, false⟩, ⟨(some 29), .call 94 [(.t 28), (.c (.int .u8 3))], none, false⟩, ⟨(some 4), .mov (.t 29), none, false⟩])
 .ret)
 .skip))
 (.seq (.draw [⟨0, ⟨(some 30), .fld 0 1 false (.t 5), none, false⟩, false, [], []⟩, ⟨1, ⟨(some 31), .load false 1 (.t 30), none, false⟩, false, [], []⟩, ⟨3, ⟨(some 33), .mov (.t 0), none, false⟩, false, [], []⟩, ⟨4, ⟨(some 34), .fld 0 1 false (.t 5), none, false⟩, false, [], []⟩, ⟨5, ⟨(some 35), .load false 1 (.t 34), none, false⟩, false, [], []⟩, ⟨6, ⟨(some 36), .build [.nilp, (.int .u8 0)] [(0, 1, (.t 33)), (1, 1, (.t 35))], none, false⟩, false, [], []⟩, ⟨7, ⟨(some 8), .alloc [(1, .nilp), (1, (.int .u8 0))], none, false⟩, false, [], []⟩, ⟨2, ⟨(some 32), .call 124 [(.t 31)], none, false⟩, true, [], [(.t 34)]⟩, ⟨8, ⟨(some 7), .mov (.t 32), none, false⟩, false, [], []⟩, ⟨9, ⟨none, .store 2 (.t 8) (.t 36), none, false⟩, true, [7], []⟩])
 (.seq (.seq (.reg [⟨(some 37), .mov (.t 7), none, false⟩, ⟨(some 38), .load true 2 (.t 8), none, false⟩, ⟨(some 39), .load true 6 (.t 5), none, false⟩, ⟨(some 40), .inv [(206, 175), (207, 180), (208, 183), (209, 186), (210, 189), (211, 191)] (.t 37) [(.t 38), (.t 39)], none, false⟩, ⟨(some 41), .un .not (.t 40), none, false⟩])
 (.cond (.t 41) (.seq (.reg [⟨(some 42), .mov (.t 1), none, false⟩, ⟨(some 43), .call 94 [(.t 42), (.c (.int .u8 2))], none, false⟩, ⟨(some 4), .mov (.t 43), none, false⟩])
 .ret)
 .skip))
 (.seq (.reg [⟨(some 45), .mov (.t 7), none, false⟩, ⟨(some 46), .load true 2 (.t 8), none, false⟩, ⟨(some 47), .load true 6 (.t 5), none, false⟩, ⟨(some 48), .inv [(206, 174), (207, 179), (208, 182), (209, 185), (210, 188), (211, 190)] (.t 45) [(.t 46), (.t 47)], none, false⟩, ⟨(some 49), .call 56 [(.t 48)], none, false⟩, ⟨(some 44), .mov (.t 49), none, false⟩, ⟨(some 50), .ext (.t 44) 0, none, false⟩, ⟨(some 51), .ext (.t 44) 1, none, false⟩, ⟨(some 9), .mov (.t 50), none, false⟩, ⟨(some 10), .mov (.t 51), none, false⟩])
 (.seq (.reg [⟨(some 52), .mov (.t 9), none, false⟩, ⟨(some 4), .mov (.t 52), none, false⟩])
 .ret)))))))))
def r71 : List ARes := [.t 4]
theorem c71 : compF Try.prog Try.f71 = some (a71, r71) := by kernel_rfl

theorem b71 : hasBody Try.prog 71 = true := by kernel_rfl
theorem g71 : Try.prog.funcs[71]? = some Try.f71 := by kernel_rfl

def excB (l : List Int) (c : Int) : List Int := [IntKind.u8.wrap ↑(BitVec.ofInt IntKind.u8.bits (l.getD 0 0) ||| BitVec.ofInt IntKind.u8.bits 128).toNat, c]
theorem exc_ev (l : List Int) (c : Int) : Ev Try.prog 94 [.roI .u8 l, .int .u8 c] (.roI .u8 (excB l c)) := by
  refine Ev.row rfl (Tr.norm (K := fun v s => ∃ h, v = .sl 1 h 0 2 ∧ s.get h = some (.rowI .u8 (excB l c))) (trF g94 b94 c94 ?_) fun v s ⟨h, hv, hs⟩ => ⟨_, _, ?_, rfl, rfl⟩)
  · conv => whnf
    refine condF (fun h => ?_) (fun h => ?_)
    · have hl : l = [] := by
        cases l with
        | nil => rfl
        | cons a t => simp at h <;> omega
      subst hl
      conv => whnf
      exact ⟨_, rfl, rfl⟩
    · have hl : 0 < l.length := by simpa using h
      conv => whnf
      refine condT (by simp; omega) ?_
      conv => whnf
      exact ⟨_, rfl, rfl⟩
  · subst hv
    exact ⟨[(0, some h)], rfl, rfl, rfl, ⟨⟨rfl, rfl⟩, trivial⟩, ⟨⟨trivial, rfl, hs⟩, trivial⟩⟩
theorem rexc_ev (l : List Int) (c : Int) : Ev Try.prog 95 [.roI .u8 l, .int .u8 c] (.roI .u8 (excB l c)) := by
  refine Ev.row rfl (Tr.norm (K := fun v s => ∃ h, v = .sl 1 h 0 2 ∧ s.get h = some (.rowI .u8 (excB l c))) (trF g95 b95 c95 ?_) fun v s ⟨h, hv, hs⟩ => ⟨_, _, ?_, rfl, rfl⟩)
  · conv => whnf
    refine condF (fun h => ?_) (fun h => ?_)
    · have hl : l = [] := by
        cases l with
        | nil => rfl
        | cons a t => simp at h <;> omega
      subst hl
      conv => whnf
      exact ⟨_, rfl, rfl⟩
    · have hl : 0 < l.length := by simpa using h
      conv => whnf
      refine condT (by simp; omega) ?_
      conv => whnf
      exact ⟨_, rfl, rfl⟩
  · subst hv
    exact ⟨[(0, some h)], rfl, rfl, rfl, ⟨⟨rfl, rfl⟩, trivial⟩, ⟨⟨trivial, rfl, hs⟩, trivial⟩⟩

def stepF (f : Int) : AV := .iface (if f == 1 || f == 2 then 206 else if f == 3 || f == 4 then 207 else if f == 5 || f == 15 then 208 else if f == 6 || f == 16 then 209 else if f == 22 then 210 else 211) (.agg [])
theorem of_ev (f : Int) (hf : knownB f = true) : Ev Try.prog 124 [.int .u8 f] (stepF f) := by
  simp only [knownB, Bool.or_eq_true, beq_iff_eq] at hf
  refine Ev.of rfl (trF g124 b124 c124 ?_)
  rcases hf with ((((((((rfl | rfl) | rfl) | rfl) | rfl) | rfl) | rfl) | rfl) | rfl) | rfl <;>
  · conv => whnf
    exact ⟨_, _, .refl _ _, Le.refl _⟩
def thereB (f a n a2 : Int) (b : List Bool) (r : List Int) : Bool :=
  if f == 5 || f == 15 then hasB f a b.length else if f == 6 || f == 16 then hasB f a r.length else if f == 22 then hasB f a 1 else if f == 23 then hasB f a n && hasB f a2 r.length else hasB f a n
def doesI (I : Img) (f a n a2 : Int) (b : List Bool) (r : List Int) : Img :=
  if f == 5 || f == 15 then tps I f a (b.map bitI) else if f == 6 || f == 16 then tps I f a r else if f == 22 then tp I f a (maskV (tg I.o f a) (r.getD 0 0) (r.getD 1 0)) else if f == 23 then tps I f a2 r else I
def doesB (I : Img) (f a n a2 : Int) (b : List Bool) (r : List Int) : List Int :=
  if f == 1 || f == 2 then repB f 0 0 0 ((tgs I.o f a n.toNat).map fun x => x != 0) []
  else if f == 3 || f == 4 then repB f 0 0 0 [] (tgs I.o f a n.toNat)
  else if f == 5 then repB f 0 a 0 b []
  else if f == 15 then repB f 0 a b.length [] []
  else if f == 6 then repB f 0 a 0 [] r
  else if f == 16 then repB f 0 a r.length [] []
  else if f == 22 then repB f 0 a 0 [] r
  else repB f 0 0 0 [] (tgs (tps I f a2 r).o f a n.toNat)
def serveB (I : Img) (l : List Int) : List Int :=
  if l = [] then [] else if knownB (l.getD 0 0) then (if (decS l).2 = 0 then (if thereB (decS l).1.f (decS l).1.a (decS l).1.n (decS l).1.a2 (decS l).1.b (decS l).1.r then doesB I (decS l).1.f (decS l).1.a (decS l).1.n (decS l).1.a2 (decS l).1.b (decS l).1.r else excB l 2) else excB l 3) else excB l 1
def serveI (I : Img) (l : List Int) : Img :=
  if l = [] then I else if knownB (l.getD 0 0) then (if (decS l).2 = 0 then (if thereB (decS l).1.f (decS l).1.a (decS l).1.n (decS l).1.a2 (decS l).1.b (decS l).1.r then doesI I (decS l).1.f (decS l).1.a (decS l).1.n (decS l).1.a2 (decS l).1.b (decS l).1.r else I) else I) else I
/-- what a request that was read has -/
structure OkQ (f a n a2 : Int) (b : List Bool) (r : List Int) : Prop where
  ha : 0 ≤ a ∧ a < 65536
  hn : 0 ≤ n ∧ n < 65536
  ha2 : 0 ≤ a2 ∧ a2 < 65536
  hb : b.length ≤ 2500
  hr : r.length ≤ 500
  hx : ∀ x ∈ r, 0 ≤ x ∧ x < 65536
  ok : encOk f n a2 b r = true
theorem numsN_range (l : List Int) : ∀ (i : Nat), ∀ x ∈ numsN l i, 0 ≤ x ∧ x < 65536
  | 0, x, h => by simp [numsN] at h
  | i + 1, x, h => by
    rw [numsN, List.mem_append] at h
    rcases h with h | h
    · exact numsN_range l i x h
    · rw [List.mem_singleton] at h
      subst h
      exact wrap16_range _
theorem opened_more (l : List Int) (h : (openedS l).2 = true) : (openedS l).1.f = l.getD 0 0 ∧ (0 ≤ (openedS l).1.a ∧ (openedS l).1.a < 65536) ∧ (0 ≤ (openedS l).1.a2 ∧ (openedS l).1.a2 < 65536) ∧ ∀ x ∈ (openedS l).1.r, 0 ≤ x ∧ x < 65536 := by
  have hA := numAt_range (cutF l 1) 0
  have hA2 := numAt_range (cutF (cutF l 3) 2) 0
  have h1 := numsN_range (cutF l 3) ((cutF l 3).length / 2)
  have h2 := numsN_range (cutF (cutF l 3) 3) ((cutF (cutF l 3) 3).length / 2)
  have h3 := numsN_range (cutF (cutF l 3) 7) ((cutF (cutF l 3) 7).length / 2)
  unfold openedS at *
  by_cases h5 : decide ((l.length : Int) < 5) = true
  · rw [if_pos h5] at h; cases h
  · rw [if_neg h5] at h ⊢
    generalize l.getD 0 0 = f at *
    generalize numAt (cutF l 1) 0 = a at *
    generalize cutF l 3 = t at *
    unfold openedT at *
    by_cases c1 : (f == 1) = true
    · rw [if_pos c1] at h ⊢
      exact ⟨rfl, hA, ⟨by show (0 : Int) ≤ 0; omega, by show (0 : Int) < 65536; omega⟩, by first | exact h1 | exact h2 | exact h3 | (intro x hx; cases hx)⟩
    rw [if_neg c1] at h ⊢
    by_cases c2 : (f == 2) = true
    · rw [if_pos c2] at h ⊢
      exact ⟨rfl, hA, ⟨by show (0 : Int) ≤ 0; omega, by show (0 : Int) < 65536; omega⟩, by first | exact h1 | exact h2 | exact h3 | (intro x hx; cases hx)⟩
    rw [if_neg c2] at h ⊢
    by_cases c3 : (f == 3) = true
    · rw [if_pos c3] at h ⊢
      exact ⟨rfl, hA, ⟨by show (0 : Int) ≤ 0; omega, by show (0 : Int) < 65536; omega⟩, by first | exact h1 | exact h2 | exact h3 | (intro x hx; cases hx)⟩
    rw [if_neg c3] at h ⊢
    by_cases c4 : (f == 4) = true
    · rw [if_pos c4] at h ⊢
      exact ⟨rfl, hA, ⟨by show (0 : Int) ≤ 0; omega, by show (0 : Int) < 65536; omega⟩, by first | exact h1 | exact h2 | exact h3 | (intro x hx; cases hx)⟩
    rw [if_neg c4] at h ⊢
    by_cases c5 : (f == 5) = true
    · rw [if_pos c5] at h ⊢
      exact ⟨rfl, hA, ⟨by show (0 : Int) ≤ 0; omega, by show (0 : Int) < 65536; omega⟩, by first | exact h1 | exact h2 | exact h3 | (intro x hx; cases hx)⟩
    rw [if_neg c5] at h ⊢
    by_cases c6 : (f == 6) = true
    · rw [if_pos c6] at h ⊢
      exact ⟨rfl, hA, ⟨by show (0 : Int) ≤ 0; omega, by show (0 : Int) < 65536; omega⟩, by first | exact h1 | exact h2 | exact h3 | (intro x hx; cases hx)⟩
    rw [if_neg c6] at h ⊢
    by_cases c22 : (f == 22) = true
    · rw [if_pos c22] at h ⊢
      exact ⟨rfl, hA, ⟨by show (0 : Int) ≤ 0; omega, by show (0 : Int) < 65536; omega⟩, by first | exact h1 | exact h2 | exact h3 | (intro x hx; cases hx)⟩
    rw [if_neg c22] at h ⊢
    by_cases c15 : (f == 15) = true
    · rw [if_pos c15] at h ⊢
      by_cases d : decide ((t.length : Int) < 3) = true
      · rw [if_pos d] at h; cases h
      · rw [if_neg d] at h ⊢
        exact ⟨rfl, hA, ⟨by show (0 : Int) ≤ 0; omega, by show (0 : Int) < 65536; omega⟩, by first | exact h1 | exact h2 | exact h3 | (intro x hx; cases hx)⟩
    rw [if_neg c15] at h ⊢
    by_cases c16 : (f == 16) = true
    · rw [if_pos c16] at h ⊢
      by_cases d : decide ((t.length : Int) < 3) = true
      · rw [if_pos d] at h; cases h
      · rw [if_neg d] at h ⊢
        exact ⟨rfl, hA, ⟨by show (0 : Int) ≤ 0; omega, by show (0 : Int) < 65536; omega⟩, by first | exact h1 | exact h2 | exact h3 | (intro x hx; cases hx)⟩
    rw [if_neg c16] at h ⊢
    by_cases c23 : (f == 23) = true
    · rw [if_pos c23] at h ⊢
      by_cases d : decide ((t.length : Int) < 7) = true
      · rw [if_pos d] at h; cases h
      · rw [if_neg d] at h ⊢
        exact ⟨rfl, hA, hA2, h3⟩
    rw [if_neg c23] at h ⊢
    exact ⟨rfl, hA, ⟨by show (0 : Int) ≤ 0; omega, by show (0 : Int) < 65536; omega⟩, by first | exact h1 | exact h2 | exact h3 | (intro x hx; cases hx)⟩
theorem decS_ok (l : List Int) (hl : l.length ≤ 1000) (he : (decS l).2 = 0) : (decS l).1.f = l.getD 0 0 ∧ OkQ (decS l).1.f (decS l).1.a (decS l).1.n (decS l).1.a2 (decS l).1.b (decS l).1.r := by
  obtain ⟨k1, k2, k3, k4⟩ := opened_range l hl
  have hm := opened_more l
  unfold decS at *
  split at he
  · rw [if_pos (by assumption)]
    split at he
    · rw [if_pos (by assumption)]
      have ho := hm (by assumption)
      have hk : encOk (openedS l).1.f (openedS l).1.n (openedS l).1.a2 (openedS l).1.b (openedS l).1.r = true := by
        rename_i h
        simp only [Bool.and_eq_true, beq_iff_eq] at h
        have h1 := h.1
        unfold encE at h1
        split at h1
        · assumption
        · cases h1
      exact ⟨ho.1, ho.2.1, ⟨by omega, by omega⟩, ho.2.2.1, by omega, by omega, ho.2.2.2, hk⟩
    · cases he
  · cases he
set_option maxRecDepth 20000 in
theorem Serve_tr (I : Img) (l : List Int) (hl : l.length ≤ 1000) : ImT 71 [.ptr 0 0, .roI .u8 l] I (.roI .u8 (serveB I l)) (serveI I l) := by
  refine FrzB.im rfl (trF g71 b71 c71 ?_)
  conv => whnf
  by_cases h0 : l = []
  · subst h0
    conv => whnf
    exact FrzB.le (Le.nilI _) rfl
  have hlen : 0 < l.length := by cases l with
    | nil => exact absurd rfl h0
    | cons a t => simp
  refine condN (by simp; omega) ?_
  conv => whnf
  refine condT (by simp; omega) ?_
  conv => whnf
  refine Ev.call (⟨rfl, known_tr (l.getD 0 0)⟩ : Ev Try.prog 65 [.int .u8 (l.getD 0 0)] (.bool (knownB (l.getD 0 0)))) ?_
  conv => whnf
  by_cases hk : knownB (l.getD 0 0) = true
  · refine condN (by rw [hk]; rfl) ?_
    conv => whnf
    refine Ev.call (OpenRequest_ev l hl) ?_
    have hS : serveB I l = (if (decS l).2 = 0 then (if thereB (decS l).1.f (decS l).1.a (decS l).1.n (decS l).1.a2 (decS l).1.b (decS l).1.r then doesB I (decS l).1.f (decS l).1.a (decS l).1.n (decS l).1.a2 (decS l).1.b (decS l).1.r else excB l 2) else excB l 3) := by
      unfold serveB; rw [if_neg h0, if_pos hk]
    have hI : serveI I l = (if (decS l).2 = 0 then (if thereB (decS l).1.f (decS l).1.a (decS l).1.n (decS l).1.a2 (decS l).1.b (decS l).1.r then doesI I (decS l).1.f (decS l).1.a (decS l).1.n (decS l).1.a2 (decS l).1.b (decS l).1.r else I) else I) := by
      unfold serveI; rw [if_neg h0, if_pos hk]
    have hq := decS_ok l hl
    generalize decS l = d at *
    obtain ⟨⟨f, a, n, a2, b, r⟩, e⟩ := d
    conv => whnf
    by_cases he : e = 0
    · obtain ⟨hf, hQ⟩ := hq he
      have hf : f = l.getD 0 0 := hf
      have hQ : OkQ f a n a2 b r := hQ
      rw [← hf] at hk
      subst he
      rw [if_pos rfl] at hS hI
      have hS : serveB I l = (if thereB f a n a2 b r then doesB I f a n a2 b r else excB l 2) := hS
      have hI : serveI I l = (if thereB f a n a2 b r then doesI I f a n a2 b r else I) := hI
      clear hq hf
      obtain ⟨ha, hn, ha2, hb, hr, hx, ok⟩ := hQ
      have hx0 : ∀ x ∈ r, 0 ≤ x := fun x h => (hx x h).1
      rw [hS, hI]
      clear hS hI
      conv => whnf
      refine Ev.call (of_ev f hk) ?_
      simp only [knownB, Bool.or_eq_true, beq_iff_eq] at hk
      rcases hk with ((((((((rfl | rfl) | rfl) | rfl) | rfl) | rfl) | rfl) | rfl) | rfl) | rfl
      · have hk : encOk 1 n a2 b r = true := ok
        simp [encOk, withinB] at hk
        conv => whnf
        refine ⟨rfl, ?_⟩
        conv => whnf
        refine blkCall (rbT_tr I 1 a n a2 b r ha hn ha2 hb hr) rfl rfl rfl ?_
        conv => whnf
        have hT : thereB 1 a n a2 b r = hasB 1 a n := rfl
        rw [hT]
        by_cases hh : hasB 1 a n = true
        · rw [if_pos hh, if_pos hh]
          refine condN (by rw [hh]; rfl) ?_
          conv => whnf
          refine blkCall (d174_tr I 1 a n a2 b r ha ⟨by omega, by omega⟩) rfl rfl rfl ?_
          conv => whnf
          refine Ev.call (Reply_ev 1 0 0 0 ((tgs I.o 1 a n.toNat).map fun x => x != 0) [] (by omega) (by omega) (by first | omega | (simp [tgs_length]; done) | (simp [tgs_length]; omega)) (by first | omega | (simp [tgs_length]; done) | (simp [tgs_length]; omega))) ?_
          conv => whnf
          exact FrzB.le (Le.refl _) rfl
        · have hh' : hasB 1 a n = false := by simpa using hh
          rw [if_neg hh, if_neg hh]
          refine condY (by rw [hh']; rfl) ?_
          conv => whnf
          refine Ev.call (exc_ev l 2) ?_
          conv => whnf
          exact FrzB.le (Le.refl _) rfl
      · have hk : encOk 2 n a2 b r = true := ok
        simp [encOk, withinB] at hk
        conv => whnf
        refine ⟨rfl, ?_⟩
        conv => whnf
        refine blkCall (rbT_tr I 2 a n a2 b r ha hn ha2 hb hr) rfl rfl rfl ?_
        conv => whnf
        have hT : thereB 2 a n a2 b r = hasB 2 a n := rfl
        rw [hT]
        by_cases hh : hasB 2 a n = true
        · rw [if_pos hh, if_pos hh]
          refine condN (by rw [hh]; rfl) ?_
          conv => whnf
          refine blkCall (d174_tr I 2 a n a2 b r ha ⟨by omega, by omega⟩) rfl rfl rfl ?_
          conv => whnf
          refine Ev.call (Reply_ev 2 0 0 0 ((tgs I.o 2 a n.toNat).map fun x => x != 0) [] (by omega) (by omega) (by first | omega | (simp [tgs_length]; done) | (simp [tgs_length]; omega)) (by first | omega | (simp [tgs_length]; done) | (simp [tgs_length]; omega))) ?_
          conv => whnf
          exact FrzB.le (Le.refl _) rfl
        · have hh' : hasB 2 a n = false := by simpa using hh
          rw [if_neg hh, if_neg hh]
          refine condY (by rw [hh']; rfl) ?_
          conv => whnf
          refine Ev.call (exc_ev l 2) ?_
          conv => whnf
          exact FrzB.le (Le.refl _) rfl
      · have hk : encOk 3 n a2 b r = true := ok
        simp [encOk, withinB] at hk
        conv => whnf
        refine ⟨rfl, ?_⟩
        conv => whnf
        refine blkCall (rrT_tr I 3 a n a2 b r ha hn ha2 hb hr) rfl rfl rfl ?_
        conv => whnf
        have hT : thereB 3 a n a2 b r = hasB 3 a n := rfl
        rw [hT]
        by_cases hh : hasB 3 a n = true
        · rw [if_pos hh, if_pos hh]
          refine condN (by rw [hh]; rfl) ?_
          conv => whnf
          refine blkCall (d179_tr I 3 a n a2 b r ha ⟨by omega, by omega⟩) rfl rfl rfl ?_
          conv => whnf
          refine Ev.call (Reply_ev 3 0 0 0 [] (tgs I.o 3 a n.toNat) (by omega) (by omega) (by first | omega | (simp [tgs_length]; done) | (simp [tgs_length]; omega)) (by first | omega | (simp [tgs_length]; done) | (simp [tgs_length]; omega))) ?_
          conv => whnf
          exact FrzB.le (Le.refl _) rfl
        · have hh' : hasB 3 a n = false := by simpa using hh
          rw [if_neg hh, if_neg hh]
          refine condY (by rw [hh']; rfl) ?_
          conv => whnf
          refine Ev.call (exc_ev l 2) ?_
          conv => whnf
          exact FrzB.le (Le.refl _) rfl
      · have hk : encOk 4 n a2 b r = true := ok
        simp [encOk, withinB] at hk
        conv => whnf
        refine ⟨rfl, ?_⟩
        conv => whnf
        refine blkCall (rrT_tr I 4 a n a2 b r ha hn ha2 hb hr) rfl rfl rfl ?_
        conv => whnf
        have hT : thereB 4 a n a2 b r = hasB 4 a n := rfl
        rw [hT]
        by_cases hh : hasB 4 a n = true
        · rw [if_pos hh, if_pos hh]
          refine condN (by rw [hh]; rfl) ?_
          conv => whnf
          refine blkCall (d179_tr I 4 a n a2 b r ha ⟨by omega, by omega⟩) rfl rfl rfl ?_
          conv => whnf
          refine Ev.call (Reply_ev 4 0 0 0 [] (tgs I.o 4 a n.toNat) (by omega) (by omega) (by first | omega | (simp [tgs_length]; done) | (simp [tgs_length]; omega)) (by first | omega | (simp [tgs_length]; done) | (simp [tgs_length]; omega))) ?_
          conv => whnf
          exact FrzB.le (Le.refl _) rfl
        · have hh' : hasB 4 a n = false := by simpa using hh
          rw [if_neg hh, if_neg hh]
          refine condY (by rw [hh']; rfl) ?_
          conv => whnf
          refine Ev.call (exc_ev l 2) ?_
          conv => whnf
          exact FrzB.le (Le.refl _) rfl
      · have hk : encOk 5 n a2 b r = true := ok
        simp [encOk, withinB] at hk
        conv => whnf
        refine ⟨rfl, ?_⟩
        conv => whnf
        refine blkCall (wbT_tr I 5 a n a2 b r ha hn ha2 hb hr) rfl rfl rfl ?_
        conv => whnf
        have hT : thereB 5 a n a2 b r = hasB 5 a b.length := rfl
        rw [hT]
        by_cases hh : hasB 5 a b.length = true
        · rw [if_pos hh, if_pos hh]
          refine condN (by rw [hh]; rfl) ?_
          conv => whnf
          refine blkCall (d182_tr I 5 a n a2 b r ha hb) rfl rfl rfl ?_
          conv => whnf
          refine Ev.call (Reply_ev 5 0 a 0 b [] (by omega) (by omega) (by first | omega | (simp [tgs_length]; done) | (simp [tgs_length]; omega)) (by first | omega | (simp [tgs_length]; done) | (simp [tgs_length]; omega))) ?_
          conv => whnf
          exact FrzB.le (Le.refl _) rfl
        · have hh' : hasB 5 a b.length = false := by simpa using hh
          rw [if_neg hh, if_neg hh]
          refine condY (by rw [hh']; rfl) ?_
          conv => whnf
          refine Ev.call (exc_ev l 2) ?_
          conv => whnf
          exact FrzB.le (Le.refl _) rfl
      · have hk : encOk 6 n a2 b r = true := ok
        simp [encOk, withinB] at hk
        conv => whnf
        refine ⟨rfl, ?_⟩
        conv => whnf
        refine blkCall (wrT_tr I 6 a n a2 b r ha hn ha2 hb hr) rfl rfl rfl ?_
        conv => whnf
        have hT : thereB 6 a n a2 b r = hasB 6 a r.length := rfl
        rw [hT]
        by_cases hh : hasB 6 a r.length = true
        · rw [if_pos hh, if_pos hh]
          refine condN (by rw [hh]; rfl) ?_
          conv => whnf
          refine blkCall (d185_tr I 6 a n a2 b r ha hr hx0) rfl rfl rfl ?_
          conv => whnf
          refine Ev.call (Reply_ev 6 0 a 0 [] r (by omega) (by omega) (by first | omega | (simp [tgs_length]; done) | (simp [tgs_length]; omega)) (by first | omega | (simp [tgs_length]; done) | (simp [tgs_length]; omega))) ?_
          conv => whnf
          exact FrzB.le (Le.refl _) rfl
        · have hh' : hasB 6 a r.length = false := by simpa using hh
          rw [if_neg hh, if_neg hh]
          refine condY (by rw [hh']; rfl) ?_
          conv => whnf
          refine Ev.call (exc_ev l 2) ?_
          conv => whnf
          exact FrzB.le (Le.refl _) rfl
      · have hk : encOk 15 n a2 b r = true := ok
        simp [encOk, withinB] at hk
        conv => whnf
        refine ⟨rfl, ?_⟩
        conv => whnf
        refine blkCall (wbT_tr I 15 a n a2 b r ha hn ha2 hb hr) rfl rfl rfl ?_
        conv => whnf
        have hT : thereB 15 a n a2 b r = hasB 15 a b.length := rfl
        rw [hT]
        by_cases hh : hasB 15 a b.length = true
        · rw [if_pos hh, if_pos hh]
          refine condN (by rw [hh]; rfl) ?_
          conv => whnf
          refine blkCall (d182_tr I 15 a n a2 b r ha hb) rfl rfl rfl ?_
          conv => whnf
          refine Ev.call (Reply_ev 15 0 a b.length [] [] (by omega) (by omega) (by first | omega | (simp [tgs_length]; done) | (simp [tgs_length]; omega)) (by first | omega | (simp [tgs_length]; done) | (simp [tgs_length]; omega))) ?_
          conv => whnf
          exact FrzB.le (Le.refl _) rfl
        · have hh' : hasB 15 a b.length = false := by simpa using hh
          rw [if_neg hh, if_neg hh]
          refine condY (by rw [hh']; rfl) ?_
          conv => whnf
          refine Ev.call (exc_ev l 2) ?_
          conv => whnf
          exact FrzB.le (Le.refl _) rfl
      · have hk : encOk 16 n a2 b r = true := ok
        simp [encOk, withinB] at hk
        conv => whnf
        refine ⟨rfl, ?_⟩
        conv => whnf
        refine blkCall (wrT_tr I 16 a n a2 b r ha hn ha2 hb hr) rfl rfl rfl ?_
        conv => whnf
        have hT : thereB 16 a n a2 b r = hasB 16 a r.length := rfl
        rw [hT]
        by_cases hh : hasB 16 a r.length = true
        · rw [if_pos hh, if_pos hh]
          refine condN (by rw [hh]; rfl) ?_
          conv => whnf
          refine blkCall (d185_tr I 16 a n a2 b r ha hr hx0) rfl rfl rfl ?_
          conv => whnf
          refine Ev.call (Reply_ev 16 0 a r.length [] [] (by omega) (by omega) (by first | omega | (simp [tgs_length]; done) | (simp [tgs_length]; omega)) (by first | omega | (simp [tgs_length]; done) | (simp [tgs_length]; omega))) ?_
          conv => whnf
          exact FrzB.le (Le.refl _) rfl
        · have hh' : hasB 16 a r.length = false := by simpa using hh
          rw [if_neg hh, if_neg hh]
          refine condY (by rw [hh']; rfl) ?_
          conv => whnf
          refine Ev.call (exc_ev l 2) ?_
          conv => whnf
          exact FrzB.le (Le.refl _) rfl
      · have hk : encOk 22 n a2 b r = true := ok
        simp [encOk, withinB] at hk
        conv => whnf
        refine ⟨rfl, ?_⟩
        conv => whnf
        refine blkCall (mkT_tr I 22 a n a2 b r ha hn ha2 hb hr) rfl rfl rfl ?_
        conv => whnf
        have hT : thereB 22 a n a2 b r = hasB 22 a 1 := rfl
        rw [hT]
        by_cases hh : hasB 22 a 1 = true
        · rw [if_pos hh, if_pos hh]
          refine condN (by rw [hh]; rfl) ?_
          conv => whnf
          refine blkCall (d188_tr I 22 a n a2 b r ha (by omega)) rfl rfl rfl ?_
          conv => whnf
          refine Ev.call (Reply_ev 22 0 a 0 [] r (by omega) (by omega) (by first | omega | (simp [tgs_length]; done) | (simp [tgs_length]; omega)) (by first | omega | (simp [tgs_length]; done) | (simp [tgs_length]; omega))) ?_
          conv => whnf
          exact FrzB.le (Le.refl _) rfl
        · have hh' : hasB 22 a 1 = false := by simpa using hh
          rw [if_neg hh, if_neg hh]
          refine condY (by rw [hh']; rfl) ?_
          conv => whnf
          refine Ev.call (exc_ev l 2) ?_
          conv => whnf
          exact FrzB.le (Le.refl _) rfl
      · have hk : encOk 23 n a2 b r = true := ok
        simp [encOk, withinB] at hk
        conv => whnf
        refine ⟨rfl, ?_⟩
        conv => whnf
        refine blkCall (boT_tr I 23 a n a2 b r ha hn ha2 hb hr) rfl rfl rfl ?_
        conv => whnf
        have hT : thereB 23 a n a2 b r = (hasB 23 a n && hasB 23 a2 r.length) := rfl
        rw [hT]
        by_cases hh : (hasB 23 a n && hasB 23 a2 r.length) = true
        · rw [if_pos hh, if_pos hh]
          refine condN (by rw [hh]; rfl) ?_
          conv => whnf
          refine blkCall (d190_tr I 23 a n a2 b r ha ⟨by omega, by omega⟩ ha2 hr hx0) rfl rfl rfl ?_
          conv => whnf
          refine Ev.call (Reply_ev 23 0 0 0 [] (tgs (tps I 23 a2 r).o 23 a n.toNat) (by omega) (by omega) (by first | omega | (simp [tgs_length]; done) | (simp [tgs_length]; omega)) (by first | omega | (simp [tgs_length]; done) | (simp [tgs_length]; omega))) ?_
          conv => whnf
          exact FrzB.le (Le.refl _) rfl
        · have hh' : (hasB 23 a n && hasB 23 a2 r.length) = false := by simpa using hh
          rw [if_neg hh, if_neg hh]
          refine condY (by rw [hh']; rfl) ?_
          conv => whnf
          refine Ev.call (exc_ev l 2) ?_
          conv => whnf
          exact FrzB.le (Le.refl _) rfl

    · rw [if_neg he] at hS hI
      refine condY (by simp [he]) ?_
      conv => whnf
      refine Ev.call (exc_ev l 3) ?_
      conv => whnf
      rw [hS, hI]
      exact FrzB.le (Le.refl _) rfl
  · have hk' : knownB (l.getD 0 0) = false := by simpa using hk
    refine condY (by show (!knownB (l.getD 0 0)) = true; rw [hk']; rfl) ?_
    conv => whnf
    refine Ev.call (exc_ev l 1) ?_
    conv => whnf
    unfold serveB serveI
    rw [if_neg h0, if_neg hk, if_neg h0, if_neg hk]
    exact FrzB.le (Le.refl _) rfl
end Go.Proofs.Ytomodeliimnddaa
set_option linter.unusedVariables false
set_option linter.unusedSimpArgs false
namespace Go.Proofs.Ytomodeliimnddaa
open Go.Ab
/- rung/runglaw3.PduReplies -/
def a7 : ACode := (.seq (.reg [⟨(some 1), .box (.t 0), none, false⟩, ⟨(some 2), .mov (.c (.bool false)), none, false⟩])
 (.seq (.seq (.reg [⟨(some 7), .call 46 [], none, false⟩, ⟨(some 8), .un .not (.t 7), none, false⟩])
 (.cond (.t 8) (.seq (.reg [⟨(some 2), .mov (.c (.bool false)), none, false⟩])
 .ret)
 .skip))
 (.seq (.seq (.reg [⟨(some 9), .load true 6 (.t 1), none, false⟩, ⟨(some 10), .call 55 [(.t 9)], none, false⟩, ⟨(some 11), .un .not (.t 10), none, false⟩])
 (.cond (.t 11) (.seq (.reg [⟨(some 2), .mov (.c (.bool true)), none, false⟩])
 .ret)
 .skip))
 (.seq (.reg [⟨(some 13), .load true 6 (.t 1), none, false⟩, ⟨(some 14), .call 56 [(.t 13)], none, false⟩, ⟨(some 12), .mov (.t 14), none, false⟩, ⟨(some 15), .ext (.t 12) 0, none, false⟩, ⟨(some 16), .ext (.t 12) 1, none, false⟩, ⟨(some 3), .mov (.t 15), none, false⟩, ⟨(some 4), .mov (.t 16), none, false⟩])
 (.seq (.reg [⟨(some 18), .load true 6 (.t 1), none, false⟩, ⟨(some 19), .call 57 [(.t 18)], none, false⟩, ⟨(some 17), .mov (.t 19), none, false⟩, ⟨(some 20), .ext (.t 17) 0, none, false⟩, ⟨(some 21), .ext (.t 17) 1, none, false⟩, ⟨(some 5), .mov (.t 20), none, false⟩, ⟨(some 6), .mov (.t 21), none, false⟩])
 (.seq (.reg [⟨(some 22), .mov (.t 3), none, false⟩, ⟨(some 23), .mov (.t 5), none, false⟩, ⟨(some 24), .call 50 [(.t 22), (.t 23)], none, false⟩, ⟨(some 25), .mov (.t 24), none, true⟩, ⟨(some 26), .mov (.t 4), (some (25, true)), false⟩, ⟨(some 27), .mov (.t 6), (some (25, true)), false⟩, ⟨(some 28), .bin .eql .other (.t 26) (.t 27), (some (25, true)), false⟩, ⟨(some 29), .pick (.t 25) (.t 28) (.c (.bool false)), none, false⟩, ⟨(some 30), .mov (.t 29), none, true⟩, ⟨(some 31), .mov (.t 3), (some (30, true)), false⟩, ⟨(some 32), .len false (.t 31), (some (30, true)), false⟩, ⟨(some 33), .bin .leq .other (.t 32) (.c (.int .i64 253)), (some (30, true)), false⟩, ⟨(some 34), .pick (.t 30) (.t 33) (.c (.bool false)), none, false⟩, ⟨(some 2), .mov (.t 34), none, false⟩])
 .ret))))))
def r7 : List ARes := [.t 2]
theorem c7 : compF Try.prog Try.f7 = some (a7, r7) := by kernel_rfl

theorem b7 : hasBody Try.prog 7 = true := by kernel_rfl
theorem g7 : Try.prog.funcs[7]? = some Try.f7 := by kernel_rfl

theorem light_ev (f a n a2 : Int) (b : List Bool) (r : List Int) : Ev Try.prog 47 [reqA f a n a2 (.roB b) (.roI .u16 r)] (.bool (decide ((b.length : Int) ≤ 2500) && decide ((r.length : Int) ≤ 200))) := by
  refine FrzK.ev rfl (trF g47 b47 c47 ?_)
  conv => whnf
  refine condS (fun h => ?_) (fun h => ?_)
  · conv => whnf
    rw [h, Bool.true_and]
    exact FrzK.le (Le.refl _)
  · conv => whnf
    rw [h]
    exact FrzK.le (Le.refl _)
theorem lightly_ev (f a n a2 : Int) (b : List Bool) (r : List Int) : Ev Try.prog 55 [repA f a n a2 (.roB b) (.roI .u16 r)] (.bool (decide ((b.length : Int) ≤ 2500) && decide ((r.length : Int) ≤ 200))) := by
  refine FrzK.ev rfl (trF g55 b55 c55 ?_)
  conv => whnf
  refine condS (fun h => ?_) (fun h => ?_)
  · conv => whnf
    rw [h, Bool.true_and]
    exact FrzK.le (Le.refl _)
  · conv => whnf
    rw [h]
    exact FrzK.le (Le.refl _)
theorem bytes_same (l : List Int) : Ev Try.prog 50 [.roI .u8 l, .roI .u8 l] (.bool true) := by
  have h := bytes_ev l l
  rwa [beq_self_eq_true] at h
theorem repB_len (f x a n : Int) (b : List Bool) (r : List Int) : (repB f x a n b r).length ≤ 253 := by
  unfold repB
  by_cases ho : repOk f x a n b r = true
  · rw [if_pos ho]
    by_cases hx : x = 0
    · subst hx
      by_cases h1 : f = 1
      · subst h1; simp [repOk, withinB] at ho; simp [repS, packN_length, twos_length, two8] <;> omega
      by_cases h2 : f = 2
      · subst h2; simp [repOk, withinB] at ho; simp [repS, packN_length, twos_length, two8] <;> omega
      by_cases h3 : f = 3
      · subst h3; simp [repOk, withinB] at ho; simp [repS, packN_length, twos_length, two8] <;> omega
      by_cases h4 : f = 4
      · subst h4; simp [repOk, withinB] at ho; simp [repS, packN_length, twos_length, two8] <;> omega
      by_cases h23 : f = 23
      · subst h23; simp [repOk, withinB] at ho; simp [repS, packN_length, twos_length, two8] <;> omega
      by_cases h5 : f = 5
      · subst h5; simp [repOk, withinB] at ho; simp [repS, packN_length, twos_length, two8] <;> omega
      by_cases h6 : f = 6
      · subst h6; simp [repOk, withinB] at ho; simp [repS, packN_length, twos_length, two8] <;> omega
      by_cases h15 : f = 15
      · subst h15; simp [repOk, withinB] at ho; simp [repS, packN_length, twos_length, two8] <;> omega
      by_cases h16 : f = 16
      · subst h16; simp [repOk, withinB] at ho; simp [repS, packN_length, twos_length, two8] <;> omega
      by_cases h22 : f = 22
      · subst h22; simp [repOk, withinB] at ho; simp [repS, packN_length, twos_length, two8] <;> omega
      simp [repOk, *] at ho
    · simp [repS, hx]
  · rw [if_neg ho]; simp
set_option maxRecDepth 20000 in
theorem law7 (f x a n : Int) (b : List Bool) (r : List Int) (hn0 : 0 ≤ n) (hn1 : n < 65536) : Ev Try.prog 7 [repA f x a n (.roB b) (.roI .u16 r)] (.bool true) := by
  refine FrzK.ev rfl (trF g7 b7 c7 ?_)
  conv => whnf
  refine Ev.call known3 ?_
  conv => whnf
  refine Ev.call (lightly_ev _ _ _ _ _ _) ?_
  conv => whnf
  refine condS (fun h => ?_) (fun h => ?_)
  · conv => whnf
    exact FrzK.le (Le.refl _)
  conv => whnf
  have hb : b.length ≤ 2500 ∧ r.length ≤ 200 := by
    simp only [Bool.not_eq_false', Bool.and_eq_true, decide_eq_true_eq] at h
    omega
  have hl := repB_len f x a n b r
  refine Ev.call (Reply_ev f x a n b r hn0 hn1 hb.1 (by omega)) ?_
  conv => whnf
  refine Ev.call (rReply_ev f x a n b r hn0 hn1 hb.1 (by omega)) ?_
  conv => whnf
  refine Ev.call (bytes_same _) ?_
  conv => whnf
  refine condF (fun h => ?_) (fun h => ?_)
  · simp at h
  conv => whnf
  have e : decide (((repB f x a n b r).length : Int) ≤ 253) = true := by simp; omega
  rw [e]
  exact FrzK.le (Le.refl _)
end Go.Proofs.Ytomodeliimnddaa
set_option linter.unusedVariables false
set_option linter.unusedSimpArgs false
namespace Go.Proofs.Ytomodeliimnddaa
open Go.Ab
/- rung/runglaw3.PduRequests -/
def a5 : ACode := (.seq (.reg [⟨(some 1), .box (.t 0), none, false⟩, ⟨(some 2), .mov (.c (.bool false)), none, false⟩])
 (.seq (.seq (.reg [⟨(some 9), .call 46 [], none, false⟩, ⟨(some 10), .un .not (.t 9), none, false⟩])
 (.cond (.t 10) (.seq (.reg [⟨(some 2), .mov (.c (.bool false)), none, false⟩])
 .ret)
 .skip))
 (.seq (.seq (.reg [⟨(some 11), .load true 6 (.t 1), none, false⟩, ⟨(some 12), .call 47 [(.t 11)], none, false⟩, ⟨(some 13), .un .not (.t 12), none, false⟩])
 (.cond (.t 13) (.seq (.reg [⟨(some 2), .mov (.c (.bool true)), none, false⟩])
 .ret)
 .skip))
 (.seq (.reg [⟨(some 15), .load true 6 (.t 1), none, false⟩, ⟨(some 16), .call 48 [(.t 15)], none, false⟩, ⟨(some 14), .mov (.t 16), none, false⟩, ⟨(some 17), .ext (.t 14) 0, none, false⟩, ⟨(some 18), .ext (.t 14) 1, none, false⟩, ⟨(some 3), .mov (.t 17), none, false⟩, ⟨(some 4), .mov (.t 18), none, false⟩])
 (.seq (.reg [⟨(some 20), .load true 6 (.t 1), none, false⟩, ⟨(some 21), .call 49 [(.t 20)], none, false⟩, ⟨(some 19), .mov (.t 21), none, false⟩, ⟨(some 22), .ext (.t 19) 0, none, false⟩, ⟨(some 23), .ext (.t 19) 1, none, false⟩, ⟨(some 5), .mov (.t 22), none, false⟩, ⟨(some 6), .mov (.t 23), none, false⟩])
 (.seq (.seq (.reg [⟨(some 24), .mov (.t 3), none, false⟩, ⟨(some 25), .mov (.t 5), none, false⟩, ⟨(some 26), .call 50 [(.t 24), (.t 25)], none, false⟩, ⟨(some 27), .un .not (.t 26), none, false⟩, ⟨(some 28), .mov (.t 27), none, true⟩, ⟨(some 29), .mov (.t 4), (some (28, false)), false⟩, ⟨(some 30), .mov (.t 6), (some (28, false)), false⟩, ⟨(some 31), .bin .neq .other (.t 29) (.t 30), (some (28, false)), false⟩, ⟨(some 32), .pick (.t 28) (.c (.bool true)) (.t 31), none, false⟩, ⟨(some 33), .mov (.t 32), none, true⟩, ⟨(some 34), .mov (.t 3), (some (33, false)), false⟩, ⟨(some 35), .len false (.t 34), (some (33, false)), false⟩, ⟨(some 36), .bin .gtr .other (.t 35) (.c (.int .i64 253)), (some (33, false)), false⟩, ⟨(some 37), .pick (.t 33) (.c (.bool true)) (.t 36), none, false⟩])
 (.cond (.t 37) (.seq (.reg [⟨(some 2), .mov (.c (.bool false)), none, false⟩])
 .ret)
 .skip))
 (.seq (.seq (.reg [⟨(some 38), .mov (.t 6), none, false⟩, ⟨(some 39), .bin .neq .other (.t 38) (.c (.int .i64 0)), none, false⟩])
 (.cond (.t 39) (.seq (.reg [⟨(some 2), .mov (.c (.bool true)), none, false⟩])
 .ret)
 .skip))
 (.seq (.reg [⟨(some 41), .mov (.t 3), none, false⟩, ⟨(some 42), .call 51 [(.t 41)], none, false⟩, ⟨(some 40), .mov (.t 42), none, false⟩, ⟨(some 43), .ext (.t 40) 0, none, false⟩, ⟨(some 44), .ext (.t 40) 1, none, false⟩, ⟨(some 7), .alloc [(1, (.int .u8 0)), (3, (.int .u16 0)), (2, .nils)], none, false⟩, ⟨none, .store 6 (.t 7) (.t 43), none, false⟩, ⟨(some 8), .mov (.t 44), none, false⟩])
 (.seq (.reg [⟨(some 45), .mov (.t 8), none, false⟩, ⟨(some 46), .bin .eql .other (.t 45) (.c (.int .i64 0)), none, false⟩, ⟨(some 47), .mov (.t 46), none, true⟩, ⟨(some 48), .load true 6 (.t 7), (some (47, true)), false⟩, ⟨(some 49), .load true 6 (.t 1), (some (47, true)), false⟩, ⟨(some 50), .call 52 [(.t 48), (.t 49)], (some (47, true)), false⟩, ⟨(some 51), .pick (.t 47) (.t 50) (.c (.bool false)), none, false⟩, ⟨(some 2), .mov (.t 51), none, false⟩])
 .ret)))))))))
def r5 : List ARes := [.t 2]
theorem c5 : compF Try.prog Try.f5 = some (a5, r5) := by kernel_rfl

theorem b5 : hasBody Try.prog 5 = true := by kernel_rfl
theorem g5 : Try.prog.funcs[5]? = some Try.f5 := by kernel_rfl

theorem hreq_ev (f a n a2 f' a' n' a2' : Int) (b b' : List Bool) (r r' : List Int) (hb : b.length ≤ 100000) (hr : r.length ≤ 100000) :
    Ev Try.prog 52 [reqA f a n a2 (.roB b) (.roI .u16 r), reqA f' a' n' a2' (.roB b') (.roI .u16 r')] (.bool (f == f' && a == a' && n == n' && a2 == a2' && b == b' && r == r')) := ⟨rfl, hreq_tr f a n a2 f' a' n' a2' b b' r r' hb hr⟩
theorem hreq_same (f a n a2 : Int) (b : List Bool) (r : List Int) (hb : b.length ≤ 100000) (hr : r.length ≤ 100000) :
    Ev Try.prog 52 [reqA f a n a2 (.roB b) (.roI .u16 r), reqA f a n a2 (.roB b) (.roI .u16 r)] (.bool true) := by
  have h := hreq_ev f a n a2 f a n a2 b b r r hb hr
  simp only [beq_self_eq_true, Bool.and_self] at h
  exact h
theorem encR_len253 (f a n a2 : Int) (b : List Bool) (r : List Int) : (encR f a n a2 b r).length ≤ 253 := by
  unfold encR
  by_cases ho : encOk f n a2 b r = true
  · rw [if_pos ho]
    by_cases h1 : f = 1
    · subst h1; simp [encOk, withinB] at ho; simp [reqS, row15, rowR, pre3, packN_length, twos_length, two8] <;> omega
    by_cases h2 : f = 2
    · subst h2; simp [encOk, withinB] at ho; simp [reqS, row15, rowR, pre3, packN_length, twos_length, two8] <;> omega
    by_cases h3 : f = 3
    · subst h3; simp [encOk, withinB] at ho; simp [reqS, row15, rowR, pre3, packN_length, twos_length, two8] <;> omega
    by_cases h4 : f = 4
    · subst h4; simp [encOk, withinB] at ho; simp [reqS, row15, rowR, pre3, packN_length, twos_length, two8] <;> omega
    by_cases h5 : f = 5
    · subst h5; simp [encOk, withinB] at ho; simp [reqS, row15, rowR, pre3, packN_length, twos_length, two8] <;> omega
    by_cases h6 : f = 6
    · subst h6; simp [encOk, withinB] at ho; simp [reqS, row15, rowR, pre3, packN_length, twos_length, two8] <;> omega
    by_cases h15 : f = 15
    · subst h15; simp [encOk, withinB] at ho; simp [reqS, row15, rowR, pre3, packN_length, twos_length, two8] <;> omega
    by_cases h16 : f = 16
    · subst h16; simp [encOk, withinB] at ho; simp [reqS, row15, rowR, pre3, packN_length, twos_length, two8] <;> omega
    by_cases h22 : f = 22
    · subst h22; simp [encOk, withinB] at ho; simp [reqS, row15, rowR, pre3, packN_length, twos_length, two8] <;> omega
    by_cases h23 : f = 23
    · subst h23; simp [encOk, withinB] at ho; simp [reqS, row15, rowR, pre3, packN_length, twos_length, two8] <;> omega
    simp [encOk, *] at ho
  · rw [if_neg ho]; simp
set_option maxRecDepth 20000 in
theorem law5 (f a n a2 : Int) (b : List Bool) (r : List Int) (hf : 0 ≤ f ∧ f < 256) (ha : 0 ≤ a ∧ a < 65536) (hn : 0 ≤ n ∧ n < 65536) (ha2 : 0 ≤ a2 ∧ a2 < 65536) (hrr : ∀ x ∈ r, 0 ≤ x ∧ x < 65536) : Ev Try.prog 5 [reqA f a n a2 (.roB b) (.roI .u16 r)] (.bool true) := by
  refine FrzK.ev rfl (trF g5 b5 c5 ?_)
  conv => whnf
  refine Ev.call known3 ?_
  conv => whnf
  refine Ev.call (light_ev _ _ _ _ _ _) ?_
  conv => whnf
  refine condS (fun h => ?_) (fun h => ?_)
  · conv => whnf
    exact FrzK.le (Le.refl _)
  conv => whnf
  have hb : b.length ≤ 2500 ∧ r.length ≤ 200 := by
    simp only [Bool.not_eq_false', Bool.and_eq_true, decide_eq_true_eq] at h
    omega
  have hl := encR_len253 f a n a2 b r
  refine Ev.call (Request_ev f a n a2 b r hn.1 hn.2 hb.1 (by omega)) ?_
  conv => whnf
  refine Ev.call (rRequest_ev f a n a2 b r hn.1 hn.2 hb.1 (by omega)) ?_
  conv => whnf
  refine Ev.call (bytes_same _) ?_
  conv => whnf
  refine condN (by simp) ?_
  conv => whnf
  refine condN (by simp; omega) ?_
  conv => whnf
  cases hk : encOk f n a2 b r with
  | false =>
    refine condY (by simp [encE, hk]) ?_
    conv => whnf
    exact FrzK.le (Le.refl _)
  | true =>
    refine condN (by simp [encE, hk]) ?_
    conv => whnf
    have hO := OpenRequest_ev (encR f a n a2 b r) (by omega)
    rw [dec_enc f a n a2 b r hf ha hn ha2 hrr hk] at hO
    refine Ev.call hO ?_
    conv => whnf
    refine Ev.call (hreq_same f a n a2 b r (by omega) (by omega)) ?_
    conv => whnf
    exact FrzK.le (Le.refl _)
end Go.Proofs.Ytomodeliimnddaa
set_option linter.unusedVariables false
set_option linter.unusedSimpArgs false
namespace Go.Proofs.Ytomodeliimnddaa
open Go.Ab
/- rung/rungref3.Known -/
def a66 : ACode := (.seq (.reg [⟨(some 2), .mov (.c (.bool false)), none, false⟩])
 (.seq (.reg [⟨(some 3), .mov (.t 0), none, false⟩, ⟨(some 4), .bin .geq .other (.t 3) (.c (.int .u8 1)), none, false⟩, ⟨(some 5), .mov (.t 4), none, true⟩, ⟨(some 6), .mov (.t 0), (some (5, true)), false⟩, ⟨(some 7), .bin .leq .other (.t 6) (.c (.int .u8 6)), (some (5, true)), false⟩, ⟨(some 8), .pick (.t 5) (.t 7) (.c (.bool false)), none, false⟩, ⟨(some 9), .mov (.t 8), none, true⟩, ⟨(some 10), .mov (.t 0), (some (9, false)), false⟩, ⟨(some 11), .bin .eql .other (.t 10) (.c (.int .u8 15)), (some (9, false)), false⟩, ⟨(some 12), .pick (.t 9) (.c (.bool true)) (.t 11), none, false⟩, ⟨(some 13), .mov (.t 12), none, true⟩, ⟨(some 14), .mov (.t 0), (some (13, false)), false⟩, ⟨(some 15), .bin .eql .other (.t 14) (.c (.int .u8 16)), (some (13, false)), false⟩, ⟨(some 16), .pick (.t 13) (.c (.bool true)) (.t 15), none, false⟩, ⟨(some 17), .mov (.t 16), none, true⟩, ⟨(some 18), .mov (.t 0), (some (17, false)), false⟩, ⟨(some 19), .bin .eql .other (.t 18) (.c (.int .u8 22)), (some (17, false)), false⟩, ⟨(some 20), .pick (.t 17) (.c (.bool true)) (.t 19), none, false⟩, ⟨(some 21), .mov (.t 20), none, true⟩, ⟨(some 22), .mov (.t 0), (some (21, false)), false⟩, ⟨(some 23), .bin .eql .other (.t 22) (.c (.int .u8 23)), (some (21, false)), false⟩, ⟨(some 24), .pick (.t 21) (.c (.bool true)) (.t 23), none, false⟩, ⟨(some 2), .mov (.t 24), none, false⟩])
 .ret))
def r66 : List ARes := [.t 2]
theorem c66 : compF Try.prog Try.f66 = some (a66, r66) := by kernel_rfl

theorem b66 : hasBody Try.prog 66 = true := by kernel_rfl
theorem g66 : Try.prog.funcs[66]? = some Try.f66 := by kernel_rfl
/- rung/runglaw3.PduBits -/
def a10 : ACode := (.seq (.reg [⟨(some 6), .mov (.c (.bool false)), none, false⟩])
 (.seq (.seq (.reg [⟨(some 9), .call 46 [], none, false⟩, ⟨(some 10), .un .not (.t 9), none, false⟩])
 (.cond (.t 10) (.seq (.reg [⟨(some 6), .mov (.c (.bool false)), none, false⟩])
 .ret)
 .skip))
 (.seq (.seq (.reg [⟨(some 11), .mov (.t 0), none, false⟩, ⟨(some 12), .len false (.t 11), none, false⟩, ⟨(some 13), .bin .gtr .other (.t 12) (.c (.int .i64 2000)), none, false⟩, ⟨(some 14), .mov (.t 13), none, true⟩, ⟨(some 15), .mov (.t 1), (some (14, false)), false⟩, ⟨(some 16), .len false (.t 15), (some (14, false)), false⟩, ⟨(some 17), .bin .gtr .other (.t 16) (.c (.int .i64 300)), (some (14, false)), false⟩, ⟨(some 18), .pick (.t 14) (.c (.bool true)) (.t 17), none, false⟩])
 (.cond (.t 18) (.seq (.reg [⟨(some 6), .mov (.c (.bool true)), none, false⟩])
 .ret)
 .skip))
 (.seq (.reg [⟨(some 19), .mov (.t 0), none, false⟩, ⟨(some 20), .call 61 [(.t 19)], none, false⟩, ⟨(some 7), .mov (.t 20), none, false⟩])
 (.seq (.seq (.reg [⟨(some 21), .mov (.t 7), none, false⟩, ⟨(some 22), .mov (.t 0), none, false⟩, ⟨(some 23), .call 62 [(.t 22)], none, false⟩, ⟨(some 24), .call 50 [(.t 21), (.t 23)], none, false⟩, ⟨(some 25), .un .not (.t 24), none, false⟩, ⟨(some 26), .mov (.t 25), none, true⟩, ⟨(some 27), .mov (.t 7), (some (26, false)), false⟩, ⟨(some 28), .mov (.t 0), (some (26, false)), false⟩, ⟨(some 29), .len false (.t 28), (some (26, false)), false⟩, ⟨(some 30), .call 64 [(.t 27), (.t 29)], (some (26, false)), false⟩, ⟨(some 31), .mov (.t 0), (some (26, false)), false⟩, ⟨(some 32), .call 63 [(.t 30), (.t 31)], (some (26, false)), false⟩, ⟨(some 33), .un .not (.t 32), (some (26, false)), false⟩, ⟨(some 34), .pick (.t 26) (.c (.bool true)) (.t 33), none, false⟩])
 (.cond (.t 34) (.seq (.reg [⟨(some 6), .mov (.c (.bool false)), none, false⟩])
 .ret)
 .skip))
 (.seq (.seq (.reg [⟨(some 8), .mov (.c (.int .i64 0)), none, false⟩])
 (.block 0 (.loop (.seq (.seq (.reg [⟨(some 35), .mov (.t 8), none, false⟩, ⟨(some 36), .bin .lss .other (.t 35) (.c (.int .i64 256)), none, false⟩])
 (.cond (.t 36) .skip
 (.exit 0)))
 (.seq (.block 1 (.seq (.reg [⟨(some 39), .mov (.t 8), none, false⟩, ⟨(some 40), .conv (.int .u8) (.t 39), none, false⟩, ⟨(some 41), .call 65 [(.t 40)], none, false⟩, ⟨(some 42), .mov (.t 8), none, false⟩, ⟨(some 43), .conv (.int .u8) (.t 42), none, false⟩, ⟨(some 44), .call 66 [(.t 43)], none, false⟩, ⟨(some 45), .bin .neq .bool (.t 41) (.t 44), none, false⟩])
 (.cond (.t 45) (.seq (.reg [⟨(some 6), .mov (.c (.bool false)), none, false⟩])
 .ret)
 .skip)))
 (.reg [⟨(some 37), .mov (.t 8), none, false⟩, ⟨(some 38), .bin .add .other (.t 37) (.c (.int .i64 1)), none, false⟩, ⟨(some 8), .mov (.t 38), none, false⟩]))))))
 (.seq (.reg [⟨(some 46), .mov (.t 1), none, false⟩, ⟨(some 47), .mov (.t 2), none, false⟩, ⟨(some 48), .call 64 [(.t 46), (.t 47)], none, false⟩, ⟨(some 49), .mov (.t 1), none, false⟩, ⟨(some 50), .mov (.t 2), none, false⟩, ⟨(some 51), .call 67 [(.t 49), (.t 50)], none, false⟩, ⟨(some 52), .call 63 [(.t 48), (.t 51)], none, false⟩, ⟨(some 6), .mov (.t 52), none, false⟩])
 .ret)))))))
def r10 : List ARes := [.t 6]
theorem c10 : compF Try.prog Try.f10 = some (a10, r10) := by kernel_rfl

theorem b10 : hasBody Try.prog 10 = true := by kernel_rfl
theorem g10 : Try.prog.funcs[10]? = some Try.f10 := by kernel_rfl
/- rung/runglaw3.PduOnce -/
def a11 : ACode := (.seq (.reg [⟨(some 2), .box (.t 0), none, false⟩, ⟨(some 3), .box (.t 1), none, false⟩, ⟨(some 4), .mov (.c (.bool false)), none, false⟩])
 (.seq (.seq (.reg [⟨(some 9), .call 46 [], none, false⟩, ⟨(some 10), .un .not (.t 9), none, false⟩])
 (.cond (.t 10) (.seq (.reg [⟨(some 4), .mov (.c (.bool false)), none, false⟩])
 .ret)
 .skip))
 (.seq (.seq (.reg [⟨(some 11), .load true 6 (.t 2), none, false⟩, ⟨(some 12), .call 47 [(.t 11)], none, false⟩, ⟨(some 13), .un .not (.t 12), none, false⟩, ⟨(some 14), .mov (.t 13), none, true⟩, ⟨(some 15), .load true 6 (.t 3), (some (14, false)), false⟩, ⟨(some 16), .call 47 [(.t 15)], (some (14, false)), false⟩, ⟨(some 17), .un .not (.t 16), (some (14, false)), false⟩, ⟨(some 18), .pick (.t 14) (.c (.bool true)) (.t 17), none, false⟩])
 (.cond (.t 18) (.seq (.reg [⟨(some 4), .mov (.c (.bool true)), none, false⟩])
 .ret)
 .skip))
 (.seq (.reg [⟨(some 20), .load true 6 (.t 2), none, false⟩, ⟨(some 21), .call 48 [(.t 20)], none, false⟩, ⟨(some 19), .mov (.t 21), none, false⟩, ⟨(some 22), .ext (.t 19) 0, none, false⟩, ⟨(some 23), .ext (.t 19) 1, none, false⟩, ⟨(some 5), .mov (.t 22), none, false⟩, ⟨(some 6), .mov (.t 23), none, false⟩])
 (.seq (.reg [⟨(some 25), .load true 6 (.t 3), none, false⟩, ⟨(some 26), .call 48 [(.t 25)], none, false⟩, ⟨(some 24), .mov (.t 26), none, false⟩, ⟨(some 27), .ext (.t 24) 0, none, false⟩, ⟨(some 28), .ext (.t 24) 1, none, false⟩, ⟨(some 7), .mov (.t 27), none, false⟩, ⟨(some 8), .mov (.t 28), none, false⟩])
 (.seq (.draw [⟨0, ⟨(some 29), .mov (.t 6), none, false⟩, false, [], []⟩, ⟨1, ⟨(some 30), .mov (.t 8), none, false⟩, false, [], []⟩, ⟨2, ⟨(some 31), .bin .add .other (.t 29) (.t 30), none, false⟩, false, [], []⟩, ⟨3, ⟨(some 32), .bin .neq .other (.t 31) (.c (.int .i64 0)), none, false⟩, false, [], []⟩, ⟨4, ⟨(some 33), .mov (.t 32), none, true⟩, false, [], []⟩, ⟨5, ⟨(some 34), .mov (.t 5), (some (33, false)), false⟩, false, [], []⟩, ⟨6, ⟨(some 35), .mov (.t 7), (some (33, false)), false⟩, false, [], []⟩, ⟨8, ⟨(some 37), .load true 6 (.t 2), (some (33, false)), false⟩, false, [], []⟩, ⟨9, ⟨(some 38), .load true 6 (.t 3), (some (33, false)), false⟩, false, [], []⟩, ⟨7, ⟨(some 36), .call 50 [(.t 34), (.t 35)], (some (33, false)), false⟩, true, [], [(.t 2), (.t 3)]⟩, ⟨10, ⟨(some 39), .call 52 [(.t 37), (.t 38)], (some (33, false)), false⟩, true, [], []⟩, ⟨11, ⟨(some 40), .bin .eql .bool (.t 36) (.t 39), (some (33, false)), false⟩, false, [], []⟩, ⟨12, ⟨(some 41), .pick (.t 33) (.c (.bool true)) (.t 40), none, false⟩, false, [], []⟩, ⟨13, ⟨(some 4), .mov (.t 41), none, false⟩, false, [], []⟩])
 .ret))))))
def r11 : List ARes := [.t 4]
theorem c11 : compF Try.prog Try.f11 = some (a11, r11) := by kernel_rfl

theorem b11 : hasBody Try.prog 11 = true := by kernel_rfl
theorem g11 : Try.prog.funcs[11]? = some Try.f11 := by kernel_rfl

theorem u8_inj (x y : Int) (h0 : 0 ≤ x ∧ x < 256) (h1 : 0 ≤ y ∧ y < 256) (h : UInt8.ofNat x.toNat = UInt8.ofNat y.toNat) : x = y := by
  have := congrArg UInt8.toNat h
  simp only [UInt8.toNat_ofNat'] at this
  omega
theorem map_inj : ∀ (l m : List Int), isB l → isB m → l.map (fun n => UInt8.ofNat n.toNat) = m.map (fun n => UInt8.ofNat n.toNat) → l = m
  | [], [], _, _, _ => rfl
  | [], y :: m, _, _, h => by simp at h
  | x :: l, [], _, _, h => by simp at h
  | x :: l, y :: m, hl, hm, h => by
    simp only [List.map_cons, List.cons.injEq] at h
    rw [u8_inj x y (hl x (by simp)) (hm y (by simp)) h.1, map_inj l m (fun z hz => hl z (by simp [hz])) (fun z hz => hm z (by simp [hz])) h.2]
theorem bytes_byte (l m : List Int) (hl : isB l) (hm : isB m) : Ev Try.prog 50 [.roI .u8 l, .roI .u8 m] (.bool (l == m)) := by
  have h := bytes_ev l m
  have e : ((bytesStr l).toList == (bytesStr m).toList) = (l == m) := by
    rw [ByteArray.toList_eq, ByteArray.toList_eq, Bool.eq_iff_iff]
    simp only [beq_iff_eq]
    exact ⟨fun h => map_inj l m hl hm h, fun h => by rw [h]⟩
  rwa [e] at h
theorem bits_len_ev (l : List Bool) (hl : l.length ≤ 2000) : Ev Try.prog 64 [.roI .u8 (packN l l.length), .int .i64 l.length] (.roB l) := by
  have h := bits_ev (packN l l.length) l.length (by rw [packN_length]; omega)
  have e := bitsK_len l.length hl
  rw [IntWalk.i64_in _ (by omega)] at e
  rw [e, bits_pack l l.length (Nat.le_refl _), List.take_length] at h
  exact h
theorem rbits10_ev (l : List Int) (n : Int) (hl : l.length ≤ 100000) : Ev Try.prog 67 [.roI .u8 l, .int .i64 n] (.roB (bitsA l (bitsK n))) := by
  refine Ev.rowB rfl ?_
  rw [bitsA_length]
  exact rbits_tr l n hl
theorem hbits_same (l : List Bool) (hl : l.length ≤ 100000) : Ev Try.prog 63 [.roB l, .roB l] (.bool true) := by
  have h : Ev Try.prog 63 [.roB l, .roB l] (.bool (l == l)) := ⟨rfl, hbits_tr l l hl⟩
  rwa [beq_self_eq_true] at h
theorem leBool {b c : Bool} (h : b = c) : Le (.bool b) (.bool c) := h ▸ Le.refl _
set_option maxHeartbeats 1000000 in
theorem rknown_ev (x : Int) : Ev Try.prog 66 [.int .u8 x] (.bool (knownB x)) := by
  refine FrzK.ev rfl (trF g66 b66 c66 ?_)
  conv => whnf
  repeat' (first
    | (refine condY (by assumption) ?_; conv => whnf)
    | (refine condN (by assumption) ?_; conv => whnf)
    | (refine condF (fun h => ?_) (fun h => ?_) <;> conv => whnf))
  all_goals (refine FrzK.le ?_)
  all_goals (refine leBool ?_)
  all_goals (rw [Bool.eq_iff_iff]; simp only [knownB, Bool.or_eq_true, beq_iff_eq, Bool.true_eq, Bool.false_eq_true, false_iff, true_iff, decide_eq_true_eq, decide_eq_false_iff_not, beq_eq_false_iff_ne, ne_eq] at *; omega)
set_option maxRecDepth 20000 in
theorem law10 (l : List Bool) (b : List Int) (n : Int) : Ev Try.prog 10 [.roB l, .roI .u8 b, .int .i64 n] (.bool true) := by
  refine FrzK.ev rfl (trF g10 b10 c10 ?_)
  conv => whnf
  refine Ev.call known3 ?_
  conv => whnf
  refine condF (fun h => ?_) (fun h => ?_)
  · conv => whnf
    refine condF (fun h' => ?_) (fun h' => ?_)
    · conv => whnf
      have hl : l.length ≤ 2000 := by simp at h; omega
      have hb : b.length ≤ 300 := by simp at h'; omega
      refine Ev.call (pack_ev l (by omega)) ?_
      conv => whnf
      refine Ev.call (rpack_ev l (by omega)) ?_
      conv => whnf
      refine Ev.call (bytes_same _) ?_
      conv => whnf
      refine Ev.call (bits_len_ev l hl) ?_
      conv => whnf
      refine Ev.call (hbits_same l (by omega)) ?_
      conv => whnf
      refine loopI (α := {i : Nat // i ≤ 256}) (fun i => [(1, .roI .u8 b), (2, .int .i64 n), (8, .int .i64 i.1)]) (fun i => ⟨0, []⟩) (fun i => 256 - i.1) ⟨0, Nat.zero_le _⟩
        ⟨[], rfl, rfl, rfl, ⟨⟨rfl, rfl⟩, ⟨rfl, rfl⟩, ⟨rfl, rfl⟩, trivial⟩, trivial⟩ fun ⟨i, hi⟩ => ?_
      conv => whnf
      by_cases hlt : i < 256
      · refine condY (by simp; omega) ?_
        conv => whnf
        refine Ev.call (known_ev _) ?_
        conv => whnf
        refine Ev.call (rknown_ev _) ?_
        conv => whnf
        refine condN (by simp) ?_
        conv => whnf
        refine ⟨⟨i + 1, hlt⟩, ⟨[], rfl, rfl, rfl, ⟨⟨rfl, rfl⟩, ⟨rfl, rfl⟩, ⟨?_, rfl⟩, trivial⟩, trivial⟩, by show 256 - (i + 1) < 256 - i; omega⟩
        show AV.int .i64 (IntKind.i64.wrap ((i : Int) + 1)) = AV.int .i64 ((i + 1 : Nat) : Int)
        rw [IntWalk.i64_in _ (by omega)]; rfl
      · refine condN (by simp; omega) ?_
        conv => whnf
        refine Ev.call (bits_ev b n (by omega)) ?_
        conv => whnf
        refine Ev.call (rbits10_ev b n (by omega)) ?_
        conv => whnf
        refine Ev.call (hbits_same _ (by rw [bitsA_length]; have := bitsK_le n; omega)) ?_
        conv => whnf
        exact FrzK.le (Le.refl _)
    · conv => whnf
      exact FrzK.le (Le.refl _)
  · conv => whnf
    exact FrzK.le (Le.refl _)
theorem enc_inj (f a n a2 f' a' n' a2' : Int) (b b' : List Bool) (r r' : List Int) (hf : 0 ≤ f ∧ f < 256) (ha : 0 ≤ a ∧ a < 65536) (hn : 0 ≤ n ∧ n < 65536) (ha2 : 0 ≤ a2 ∧ a2 < 65536) (hrr : ∀ x ∈ r, 0 ≤ x ∧ x < 65536)
    (hf' : 0 ≤ f' ∧ f' < 256) (ha' : 0 ≤ a' ∧ a' < 65536) (hn' : 0 ≤ n' ∧ n' < 65536) (ha2' : 0 ≤ a2' ∧ a2' < 65536) (hrr' : ∀ x ∈ r', 0 ≤ x ∧ x < 65536) (hk : encOk f n a2 b r = true) (hk' : encOk f' n' a2' b' r' = true) :
    (encR f a n a2 b r == encR f' a' n' a2' b' r') = (f == f' && a == a' && n == n' && a2 == a2' && b == b' && r == r') := by
  rw [Bool.eq_iff_iff]
  simp only [beq_iff_eq, Bool.and_eq_true]
  constructor
  · intro h
    have h1 := dec_enc f a n a2 b r hf ha hn ha2 hrr hk
    have h2 := dec_enc f' a' n' a2' b' r' hf' ha' hn' ha2' hrr' hk'
    rw [h, h2] at h1
    simp only [Prod.mk.injEq, Rq.mk.injEq] at h1
    obtain ⟨⟨h1, h2, h3, h4, h5, h6⟩, _⟩ := h1
    exact ⟨⟨⟨⟨⟨h1.symm, h2.symm⟩, h3.symm⟩, h4.symm⟩, h5.symm⟩, h6.symm⟩
  · rintro ⟨⟨⟨⟨⟨rfl, rfl⟩, rfl⟩, rfl⟩, rfl⟩, rfl⟩
    rfl
set_option maxRecDepth 20000 in
theorem law11 (f a n a2 f' a' n' a2' : Int) (b b' : List Bool) (r r' : List Int) (hf : 0 ≤ f ∧ f < 256) (ha : 0 ≤ a ∧ a < 65536) (hn : 0 ≤ n ∧ n < 65536) (ha2 : 0 ≤ a2 ∧ a2 < 65536) (hrr : ∀ x ∈ r, 0 ≤ x ∧ x < 65536)
    (hf' : 0 ≤ f' ∧ f' < 256) (ha' : 0 ≤ a' ∧ a' < 65536) (hn' : 0 ≤ n' ∧ n' < 65536) (ha2' : 0 ≤ a2' ∧ a2' < 65536) (hrr' : ∀ x ∈ r', 0 ≤ x ∧ x < 65536) :
    Ev Try.prog 11 [reqA f a n a2 (.roB b) (.roI .u16 r), reqA f' a' n' a2' (.roB b') (.roI .u16 r')] (.bool true) := by
  refine FrzK.ev rfl (trF g11 b11 c11 ?_)
  conv => whnf
  refine Ev.call known3 ?_
  conv => whnf
  refine Ev.call (light_ev _ _ _ _ _ _) ?_
  conv => whnf
  refine condS (fun h => ?_) (fun h => ?_)
  · conv => whnf
    exact FrzK.le (Le.refl _)
  conv => whnf
  refine Ev.call (light_ev _ _ _ _ _ _) ?_
  conv => whnf
  refine condS (fun h' => ?_) (fun h' => ?_)
  · conv => whnf
    exact FrzK.le (Le.refl _)
  conv => whnf
  have hb : b.length ≤ 2500 ∧ r.length ≤ 200 := by
    simp only [Bool.not_eq_false', Bool.and_eq_true, decide_eq_true_eq] at h
    omega
  have hb' : b'.length ≤ 2500 ∧ r'.length ≤ 200 := by
    simp only [Bool.not_eq_false', Bool.and_eq_true, decide_eq_true_eq] at h'
    omega
  refine Ev.call (Request_ev f a n a2 b r hn.1 hn.2 hb.1 (by omega)) ?_
  conv => whnf
  refine Ev.call (Request_ev f' a' n' a2' b' r' hn'.1 hn'.2 hb'.1 (by omega)) ?_
  conv => whnf
  cases hk : encOk f n a2 b r with
  | false =>
    refine condY ?_ ?_
    · cases hk' : encOk f' n' a2' b' r' <;> simp only [encE, hk, hk', if_true, if_false, Bool.false_eq_true] <;> decide
    conv => whnf
    exact FrzK.le (Le.refl _)
  | true =>
    cases hk' : encOk f' n' a2' b' r' with
    | false =>
      refine condY ?_ ?_
      · simp only [encE, hk, hk', if_true, if_false, Bool.false_eq_true]; decide
      conv => whnf
      exact FrzK.le (Le.refl _)
    | true =>
      refine condN ?_ ?_
      · simp only [encE, hk, hk', if_true]; decide
      conv => whnf
      refine Ev.call (bytes_byte _ _ (enc_byte _ _ _ _ _ _ hf.1 hf.2) (enc_byte _ _ _ _ _ _ hf'.1 hf'.2)) ?_
      conv => whnf
      repeat' (first
        | (refine ⟨rfl, ?_⟩; conv => whnf)
        | (refine Ev.call (hreq_ev _ _ _ _ _ _ _ _ _ _ _ _ (by omega) (by omega)) ?_; conv => whnf))
      refine FrzK.le (leBool ?_)
      rw [enc_inj f a n a2 f' a' n' a2' b b' r r' hf ha hn ha2 hrr hf' ha' hn' ha2' hrr' hk hk', beq_self_eq_true]
end Go.Proofs.Ytomodeliimnddaa
