/- Statement of layer 26: a poll is stale. From a statement's arguments to the engine's values; a statement's row from a contract. -/
import Derived.Test.YtomodeliimnddaaRows
import Derived.WalkKit
import Derived.ProofKit
import Derived.OpenShut
import Derived.ShutString
import Derived.ChangeOld
import Derived.Below
import Derived.Deep.Grids
import Derived.Test.YtomodeliimnddaaHMstB
import Derived.Test.YtomodeliimnddaaHEngD
set_option linter.unusedVariables false
set_option linter.unusedSimpArgs false
namespace Go.Proofs.Ytomodeliimnddaa
open Go.Ab
/- rung/runglaw26.MasterStale$1 -/
def a81 : ACode := (.seq (.reg [⟨(some 2), .alloc [(1, (.int .u16 0)), (1, (.int .u8 0)), (1, .nils)], none, false⟩])
 (.seq (.reg [⟨(some 4), .load false 1 (.t 0), none, false⟩, ⟨(some 5), .load false 1 (.t 1), none, false⟩, ⟨(some 6), .call 75 [(.t 4), (.t 5)], none, false⟩])
 (.seq (.reg [⟨(some 7), .load false 1 (.t 0), none, false⟩, ⟨(some 8), .call 76 [(.t 7)], none, false⟩, ⟨(some 3), .mov (.t 8), none, false⟩])
 (.seq (.seq (.reg [⟨(some 9), .mov (.t 3), none, false⟩, ⟨(some 10), .len false (.t 9), none, false⟩, ⟨(some 11), .bin .neq .other (.t 10) (.c (.int .i64 1)), none, false⟩])
 (.cond (.t 11) (.seq (.reg [⟨(some 12), .build [(.int .u16 0), (.int .u8 0), .nils] [], none, false⟩, ⟨none, .store 3 (.t 2) (.t 12), none, false⟩])
 .ret)
 .skip))
 (.seq (.reg [⟨(some 13), .mov (.t 3), none, false⟩, ⟨(some 14), .idx 3 none true (.t 13) (.c (.int .i64 0)), none, false⟩, ⟨(some 15), .load true 3 (.t 14), none, false⟩, ⟨none, .store 3 (.t 2) (.t 15), none, false⟩])
 .ret)))))
def r81 : List ARes := [.cell 2 true 3]
theorem c81 : compF Try.prog Try.f81 = some (a81, r81) := by kernel_rfl

theorem b81 : hasBody Try.prog 81 = true := by kernel_rfl
theorem g81 : Try.prog.funcs[81]? = some Try.f81 := by kernel_rfl
/- rung/runglaw26.MasterStale -/
def a17 : ACode := (.seq (.reg [⟨(some 10), .mov (.c (.bool false)), none, false⟩])
 (.seq (.seq (.reg [⟨(some 23), .call 72 [], none, false⟩, ⟨(some 24), .un .not (.t 23), none, false⟩])
 (.cond (.t 24) (.seq (.reg [⟨(some 10), .mov (.c (.bool false)), none, false⟩])
 .ret)
 .skip))
 (.seq (.reg [⟨(some 25), .mov (.t 0), none, false⟩, ⟨(some 26), .call 68 [(.t 25), (.c (.int .i64 8))], none, false⟩, ⟨(some 27), .bin .add .other (.c (.int .i64 1)) (.t 26), none, false⟩, ⟨(some 28), .mov (.t 1), none, false⟩, ⟨(some 29), .call 68 [(.t 28), (.c (.int .i64 20))], none, false⟩, ⟨(some 30), .mov (.t 2), none, false⟩, ⟨(some 31), .call 68 [(.t 30), (.c (.int .i64 5))], none, false⟩, ⟨(some 32), .bin .add .other (.c (.int .i64 1)) (.t 31), none, false⟩, ⟨(some 0), .mov (.t 27), none, false⟩, ⟨(some 1), .mov (.t 29), none, false⟩, ⟨(some 2), .mov (.t 32), none, false⟩])
 (.seq (.reg [⟨(some 34), .mov (.t 2), none, false⟩, ⟨(some 35), .mov (.t 0), none, false⟩, ⟨(some 36), .build [(.int .u8 0), (.int .u8 0), (.int .u16 0), (.int .i64 0), (.int .i64 0), (.int .i64 0), (.int .i64 0), (.int .i64 0)] [(0, 1, (.c (.int .u8 9))), (1, 1, (.c (.int .u8 4))), (2, 1, (.c (.int .u16 1))), (3, 1, (.c (.int .i64 1))), (4, 1, (.c (.int .i64 0))), (5, 1, (.c (.int .i64 1))), (6, 1, (.t 34)), (7, 1, (.t 35))], none, false⟩, ⟨(some 37), .bslice 8 .gen [(.int .u8 0), (.int .u8 0), (.int .u16 0), (.int .i64 0), (.int .i64 0), (.int .i64 0), (.int .i64 0), (.int .i64 0)] [(0, 8, (.t 36))] 1, none, false⟩, ⟨(some 38), .call 73 [(.t 37)], none, false⟩, ⟨(some 33), .mov (.t 38), none, false⟩, ⟨(some 39), .ext (.t 33) 0, none, false⟩, ⟨(some 40), .ext (.t 33) 1, none, false⟩, ⟨(some 11), .alloc [(1, .nilp)], none, false⟩, ⟨none, .store 1 (.t 11) (.t 39), none, false⟩, ⟨(some 12), .mov (.t 40), none, false⟩])
 (.seq (.reg [⟨(some 41), .call 27 [], none, false⟩, ⟨(some 13), .alloc [(1, .nilp)], none, false⟩, ⟨none, .store 1 (.t 13) (.t 41), none, false⟩])
 (.seq (.seq (.reg [⟨(some 42), .mov (.t 12), none, false⟩, ⟨(some 43), .bin .neq .other (.t 42) (.c (.int .i64 0)), none, false⟩])
 (.cond (.t 43) (.seq (.reg [⟨(some 10), .mov (.c (.bool false)), none, false⟩])
 .ret)
 .skip))
 (.seq (.reg [⟨(some 44), .mkfn 81 [(.t 11), (.t 13)], none, false⟩, ⟨(some 14), .mov (.t 44), none, false⟩])
 (.seq (.reg [⟨(some 45), .mov (.t 3), none, false⟩, ⟨(some 46), .bin .shr .other (.t 45) (.c (.int .u64 8)), none, false⟩, ⟨(some 47), .conv (.int .u8) (.t 46), none, false⟩, ⟨(some 48), .mov (.t 3), none, false⟩, ⟨(some 49), .conv (.int .u8) (.t 48), none, false⟩, ⟨(some 50), .bslice 1 (.int .u8) [(.int .u8 0), (.int .u8 0), (.int .u8 0), (.int .u8 0)] [(0, 1, (.c (.int .u8 4))), (1, 1, (.c (.int .u8 2))), (2, 1, (.t 47)), (3, 1, (.t 49))] 4, none, false⟩, ⟨(some 15), .mov (.t 50), none, false⟩])
 (.seq (.reg [⟨(some 51), .mov (.t 14), none, false⟩, ⟨(some 52), .callv (.t 51) [], none, false⟩, ⟨(some 16), .alloc [(1, (.int .u16 0)), (1, (.int .u8 0)), (1, .nils)], none, false⟩, ⟨none, .store 3 (.t 16) (.t 52), none, false⟩])
 (.seq (.seq (.reg [⟨(some 53), .load false 1 (.t 11), none, false⟩, ⟨(some 54), .fld 0 1 false (.t 16), none, false⟩, ⟨(some 55), .load false 1 (.t 54), none, false⟩, ⟨(some 56), .mov (.t 15), none, false⟩, ⟨(some 57), .build [(.int .u16 0), (.int .u8 0), .nils] [(0, 1, (.t 55)), (1, 1, (.c (.int .u8 9))), (2, 1, (.t 56))], none, false⟩, ⟨(some 58), .call 77 [(.t 53), (.t 57)], none, false⟩, ⟨(some 59), .un .not (.t 58), none, false⟩])
 (.cond (.t 59) (.seq (.reg [⟨(some 10), .mov (.c (.bool false)), none, false⟩])
 .ret)
 .skip))
 (.seq (.seq (.reg [⟨(some 17), .mov (.c (.int .i64 1)), none, false⟩])
 (.block 0 (.loop (.seq (.seq (.reg [⟨(some 60), .mov (.t 17), none, false⟩, ⟨(some 61), .mov (.t 1), none, false⟩, ⟨(some 62), .bin .leq .other (.t 60) (.t 61), none, false⟩])
 (.cond (.t 62) .skip
 (.exit 0)))
 (.seq (.block 1 (.seq (.reg [⟨(some 65), .mov (.t 14), none, false⟩, ⟨(some 66), .callv (.t 65) [], none, false⟩, ⟨none, .store 3 (.t 16) (.t 66), none, false⟩])
 (.seq (.seq (.reg [⟨(some 67), .mov (.t 4), none, false⟩])
 (.cond (.t 67) (.seq (.reg [⟨(some 68), .load false 1 (.t 11), none, false⟩, ⟨(some 69), .fld 0 1 false (.t 16), none, false⟩, ⟨(some 70), .load false 1 (.t 69), none, false⟩, ⟨(some 71), .bslice 1 (.int .u8) [(.int .u8 0), (.int .u8 0)] [(0, 1, (.c (.int .u8 132))), (1, 1, (.c (.int .u8 2)))] 2, none, false⟩, ⟨(some 72), .build [(.int .u16 0), (.int .u8 0), .nils] [(0, 1, (.t 70)), (1, 1, (.c (.int .u8 9))), (2, 1, (.t 71))], none, false⟩, ⟨(some 73), .call 77 [(.t 68), (.t 72)], none, false⟩, ⟨(some 74), .un .not (.t 73), none, false⟩])
 (.cond (.t 74) (.seq (.reg [⟨(some 10), .mov (.c (.bool false)), none, false⟩])
 .ret)
 .skip))
 (.seq (.seq (.reg [⟨(some 18), .mov (.c (.int .i64 0)), none, false⟩])
 (.block 2 (.loop (.seq (.seq (.reg [⟨(some 75), .mov (.t 18), none, false⟩, ⟨(some 76), .mov (.t 2), none, false⟩, ⟨(some 77), .bin .lss .other (.t 75) (.t 76), none, false⟩])
 (.cond (.t 77) .skip
 (.exit 2)))
 (.seq (.block 3 (.seq (.seq (.reg [⟨(some 81), .load false 1 (.t 11), none, false⟩, ⟨(some 82), .call 82 [(.t 81), (.c (.int .i64 0))], none, false⟩, ⟨(some 80), .mov (.t 82), none, false⟩, ⟨(some 83), .ext (.t 80) 0, none, false⟩, ⟨(some 84), .ext (.t 80) 1, none, false⟩, ⟨(some 19), .mov (.t 83), none, false⟩, ⟨(some 20), .mov (.t 84), none, false⟩])
 (.seq (.reg [⟨(some 85), .mov (.t 20), none, false⟩, ⟨(some 86), .un .not (.t 85), none, false⟩])
 (.cond (.t 86) (.seq (.reg [⟨(some 10), .mov (.c (.bool false)), none, false⟩])
 .ret)
 .skip)))
 (.reg [⟨(some 87), .load false 1 (.t 11), none, false⟩, ⟨(some 88), .call 83 [(.t 87)], none, false⟩])))
 (.reg [⟨(some 78), .mov (.t 18), none, false⟩, ⟨(some 79), .bin .add .other (.t 78) (.c (.int .i64 1)), none, false⟩, ⟨(some 18), .mov (.t 79), none, false⟩]))))))
 (.seq (.reg [⟨(some 89), .load false 1 (.t 11), none, false⟩, ⟨(some 90), .fld 0 1 false (.t 16), none, false⟩, ⟨(some 91), .load false 1 (.t 90), none, false⟩, ⟨(some 92), .mov (.t 15), none, false⟩, ⟨(some 93), .build [(.int .u16 0), (.int .u8 0), .nils] [(0, 1, (.t 91)), (1, 1, (.c (.int .u8 9))), (2, 1, (.t 92))], none, false⟩, ⟨(some 94), .call 77 [(.t 89), (.t 93)], none, false⟩])
 (.cond (.t 94) (.seq (.reg [⟨(some 10), .mov (.c (.bool false)), none, false⟩])
 .ret)
 .skip)))))
 (.seq (.reg [⟨(some 95), .load false 1 (.t 11), none, false⟩, ⟨(some 96), .load false 1 (.t 13), none, false⟩, ⟨(some 97), .call 78 [(.t 95), (.t 96)], none, false⟩])
 (.seq (.reg [⟨(some 99), .load false 1 (.t 13), none, false⟩, ⟨(some 100), .call 44 [(.t 99), (.c (.int .i64 4)), (.c (.int .i64 0))], none, false⟩, ⟨(some 98), .mov (.t 100), none, false⟩, ⟨(some 101), .ext (.t 98) 0, none, false⟩, ⟨(some 102), .ext (.t 98) 1, none, false⟩, ⟨(some 21), .mov (.t 101), none, false⟩, ⟨(some 22), .mov (.t 102), none, false⟩])
 (.seq (.reg [⟨(some 103), .load false 1 (.t 11), none, false⟩, ⟨(some 104), .call 80 [(.t 103), (.c (.int .i64 0))], none, false⟩, ⟨(some 105), .mov (.t 17), none, false⟩, ⟨(some 106), .mov (.t 0), none, false⟩, ⟨(some 107), .bin .geq .other (.t 105) (.t 106), none, false⟩, ⟨(some 108), .bin .neq .bool (.t 104) (.t 107), none, false⟩, ⟨(some 109), .mov (.t 108), none, true⟩, ⟨(some 110), .mov (.t 21), (some (109, false)), false⟩, ⟨(some 111), .mov (.t 3), (some (109, false)), false⟩, ⟨(some 112), .bin .neq .other (.t 110) (.t 111), (some (109, false)), false⟩, ⟨(some 113), .pick (.t 109) (.c (.bool true)) (.t 112), none, false⟩])
 (.cond (.t 113) (.seq (.reg [⟨(some 10), .mov (.c (.bool false)), none, false⟩])
 .ret)
 .skip)))))))
 (.reg [⟨(some 63), .mov (.t 17), none, false⟩, ⟨(some 64), .bin .add .other (.t 63) (.c (.int .i64 1)), none, false⟩, ⟨(some 17), .mov (.t 64), none, false⟩]))))))
 (.seq (.reg [⟨(some 114), .mov (.t 14), none, false⟩, ⟨(some 115), .callv (.t 114) [], none, false⟩, ⟨none, .store 3 (.t 16) (.t 115), none, false⟩])
 (.seq (.reg [⟨(some 116), .load false 1 (.t 11), none, false⟩, ⟨(some 117), .fld 0 1 false (.t 16), none, false⟩, ⟨(some 118), .load false 1 (.t 117), none, false⟩, ⟨(some 119), .mov (.t 15), none, false⟩, ⟨(some 120), .build [(.int .u16 0), (.int .u8 0), .nils] [(0, 1, (.t 118)), (1, 1, (.c (.int .u8 9))), (2, 1, (.t 119))], none, false⟩, ⟨(some 121), .call 77 [(.t 116), (.t 120)], none, false⟩, ⟨(some 122), .mov (.t 121), none, true⟩, ⟨(some 123), .load false 1 (.t 11), (some (122, true)), false⟩, ⟨(some 124), .call 80 [(.t 123), (.c (.int .i64 0))], (some (122, true)), false⟩, ⟨(some 125), .un .not (.t 124), (some (122, true)), false⟩, ⟨(some 126), .pick (.t 122) (.t 125) (.c (.bool false)), none, false⟩, ⟨(some 127), .mov (.t 126), none, true⟩, ⟨(some 128), .load false 1 (.t 11), (some (127, true)), false⟩, ⟨(some 129), .call 79 [(.t 128), (.c (.int .i64 0))], (some (127, true)), false⟩, ⟨(some 130), .bin .eql .other (.t 129) (.c (.int .i64 0)), (some (127, true)), false⟩, ⟨(some 131), .pick (.t 127) (.t 130) (.c (.bool false)), none, false⟩, ⟨(some 10), .mov (.t 131), none, false⟩])
 .ret)))))))))))))
def r17 : List ARes := [.t 10]
theorem c17 : compF Try.prog Try.f17 = some (a17, r17) := by kernel_rfl

theorem b17 : hasBody Try.prog 17 = true := by kernel_rfl
theorem g17 : Try.prog.funcs[17]? = some Try.f17 := by kernel_rfl

theorem reFam {P : Program} {f : Nat} {args : List AV} {n c : Nat} {m : Mem} {x : Pl} {K : AV → St → Prop} (h : Tr P f args ⟨n, m.dropLast ++ famP c 0 [x]⟩ K) (e : m.dropLast ++ famP c 0 [x] = m) : Tr P f args ⟨n, m⟩ K := e ▸ h
def sp (t r : Int) : Po := ⟨9, 4, 1, 1, 0, 1, t, r⟩
/-- a poll of a register that has asked before -/
def sx (p : Po) (w : Bool) (id le ms : Int) (st : Bool) (ag : Int) (l : List Int) : Pl := ⟨p, 4, 0, w, id, le, 4, 1, 1, [], [], ms, st, ag, l⟩
theorem sx_begin (t r id le ms ag L : Int) (st : Bool) (l : List Int) (I : Img) : bgN ([sx (sp t r) false id le ms st ag l].map Pl.older) I L 1 = ([sx (sp t r) true (IntKind.u16.wrap (IntKind.u32.wrap (L + 1))) t ms st (IntKind.i64.wrap (ag + 1)) l], IntKind.u32.wrap (L + 1), [⟨IntKind.u16.wrap (IntKind.u32.wrap (L + 1)), 9, [4, 0, 1, 0, 1]⟩]) := by
  rw [bg_due (x := sx (sp t r) false id le ms st ag l) rfl, asks_rd (show (4 : Int) < 5 by decide), sends_rd (show (4 : Int) < 5 by decide)]
  rfl
theorem new_begin (t r : Int) (I : Img) : bgN ([newP (sp t r)].map Pl.older) I 0 1 = ([sx (sp t r) true 1 t 0 false 1 []], 1, [⟨1, 9, [4, 0, 1, 0, 1]⟩]) := by
  rw [bg_due (x := newP (sp t r)) rfl, asks_rd (show (4 : Int) < 5 by decide), sends_rd (show (4 : Int) < 5 by decide)]
  rfl
theorem sx_good (t r id le ms ag v : Int) (st : Bool) (l : List Int) (h0 : 0 ≤ v) (h1 : v < 65536) : takeP id 9 (good 4 v) [sx (sp t r) true id le ms st ag l] = (true, [sx (sp t r) false id le 0 false 0 [v]]) := by
  have ho : orepS (sx (sp t r) true id le ms st ag l).rq (good 4 v) = (⟨4, 0, 0, 0, [], [v]⟩, 0) := orep_good 4 1 v (.inr rfl) h0 h1
  rw [take_one_yes]
  · unfold gotP
    rw [ho, if_pos rfl]
    rfl
  · unfold hitB
    rw [ho]
    show (true && (id == id) && ((9 : Int) == 9) && ((0 : Int) == 0)) = true
    rw [beq_self_eq_true]; rfl
theorem sx_exc (t r id le ms ag : Int) (st : Bool) (l : List Int) : takeP id 9 [132, 2] [sx (sp t r) true id le ms st ag l] = (true, [(sx (sp t r) true id le ms st ag l).miss]) := by
  have ho : orepS (sx (sp t r) true id le ms st ag l).rq [132, 2] = (⟨4, 2, 0, 0, [], []⟩, 0) := orep_exc 4 1 rfl
  rw [take_one_yes]
  · unfold gotP
    rw [ho, if_neg (by decide)]
  · unfold hitB
    rw [ho]
    show (true && (id == id) && ((9 : Int) == 9) && ((0 : Int) == 0)) = true
    rw [beq_self_eq_true]; rfl
theorem sx_late (t r id fid le ms ag : Int) (st : Bool) (l m : List Int) : takeP fid 9 m [sx (sp t r) false id le ms st ag l] = (false, [sx (sp t r) false id le ms st ag l]) := take_one_no rfl
theorem sx_miss (t r id le ms ag : Int) (w : Bool) (l : List Int) (h0 : 0 ≤ ms) (h1 : ms < 1000) : (sx (sp t r) w id le ms (decide (ms ≥ r)) ag l).miss = sx (sp t r) false id le (ms + 1) (decide (ms + 1 ≥ r)) ag l := by
  show (⟨sp t r, 4, 0, false, id, le, 4, 1, 1, [], [], IntKind.i64.wrap (ms + 1), decide (ms ≥ r) || decide (IntKind.i64.wrap (ms + 1) ≥ r), ag, l⟩ : Pl) = _
  rw [w64i (by omega) (by omega)]
  have : (decide (ms ≥ r) || decide (ms + 1 ≥ r)) = decide (ms + 1 ≥ r) := by
    by_cases h : ms ≥ r
    · rw [decide_eq_true h, decide_eq_true (show ms + 1 ≥ r by omega)]; rfl
    · rw [decide_eq_false h]; rfl
  rw [this]; rfl
theorem okx_sx (p : Po) (w : Bool) (id le ms : Int) (st : Bool) (ag : Int) (l : List Int) (hp : p.f = 4) : OkX [sx p w id le ms st ag l] := mem_one ⟨(by decide : (0 : Int) ≤ 1), (by decide : (1 : Int) < 65536), Nat.zero_le _, Nat.zero_le _, fun _ => hp.symm⟩
theorem sx_tick (t r id le ms ag : Int) (st : Bool) (l : List Int) (h : 2 ≤ le ∧ le ≤ 1000000) : (sx (sp t r) true id le ms st ag l).tick = sx (sp t r) true id (le - 1) ms st ag l := by
  unfold Pl.tick
  rw [if_pos (show (sx (sp t r) true id le ms st ag l).w = true from rfl), if_neg (by show ¬ IntKind.i64.wrap (le - 1) = 0; rw [w64i (by omega) (by omega)]; omega)]
  show (⟨sp t r, 4, 0, true, id, IntKind.i64.wrap (le - 1), 4, 1, 1, [], [], ms, st, ag, l⟩ : Pl) = _
  rw [w64i (by omega) (by omega)]; rfl
theorem sx_tick1 (t r id ms ag : Int) (st : Bool) (l : List Int) : (sx (sp t r) true id 1 ms st ag l).tick = (sx (sp t r) true id 0 ms st ag l).miss := rfl
theorem sx_latch (J : Img) (p : Po) (w : Bool) (id le ms : Int) (st : Bool) (ag v : Int) (hp : p.p = 0) : latchN J [sx p w id le ms st ag [v]] 1 = J.put 4 0 v := by
  show J.put 4 (IntKind.i64.wrap (p.p + 0)) v = _
  rw [hp]; rfl
theorem getV_put (J : Img) (a i v : Int) (h : inA a i = true) : getV (J.put a i v).o a i = bitV a v := by
  unfold getV
  rw [if_pos h]
  show (putO J.o a i v) a.toNat i.toNat = _
  unfold putO
  rw [if_pos h]
  unfold set2
  rw [if_pos ⟨rfl, rfl⟩]
theorem one_fam {s : St} {c : Nat} {x : Pl} (h : s.get (c + (0 + 3)) = some (plC x)) : ∀ j (hj : j < [x].length), s.get (c + (j + 3)) = some (plC [x][j]) := fun j hj => by
  obtain rfl : j = 0 := by have h : j < 1 := hj; omega
  exact h
/-- what is known at the head of the loop -/
structure LS where
  i : Nat
  id : Int
  le : Int
  ag : Int
  L : Int
  fi : Int
  fl : List Int
  J : Img
set_option maxRecDepth 20000 in
set_option maxHeartbeats 2000000 in
theorem law17 (retries misses timeout v : Int) (exc : Bool) (hv0 : 0 ≤ v) (hv1 : v < 65536) : Ev Try.prog 17 [.int .i64 retries, .int .i64 misses, .int .i64 timeout, .int .u16 v, .bool exc] (.bool true) := by
  refine FrzK.ev rfl (trZ [] [50] g17 b17 c17 ?_)
  conv => whnf
  refine Ev.call known26_ev ?_
  conv => whnf
  refine Ev.call (place_ev retries 8 (by decide) (by decide)) ?_
  conv => whnf
  refine Ev.call (place_ev misses 20 (by decide) (by decide)) ?_
  conv => whnf
  refine Ev.call (place_ev timeout 5 (by decide) (by decide)) ?_
  have hr := place_range retries 8 (by decide)
  have hm := place_range misses 20 (by decide)
  have ht := place_range timeout 5 (by decide)
  generalize placeS retries 8 = r0 at *
  generalize placeS misses 20 = m0 at *
  generalize placeS timeout 5 = t0 at *
  rw [w64i (n := 1 + r0) (by omega) (by omega)]
  conv => whnf
  rw [w64i (n := 1 + t0) (by omega) (by omega)]
  obtain ⟨rt, hrt⟩ : ∃ rt, rt = 1 + r0 := ⟨_, rfl⟩
  obtain ⟨tt, htt⟩ : ∃ tt, tt = 1 + t0 := ⟨_, rfl⟩
  rw [← hrt, ← htt]
  have hal : allR [sp tt rt] = true := by
    exact allR_one (right_of (by decide) (by decide) (by decide) (by decide) (by decide) (by decide) (by omega) (by omega))
  refine pkNew (S := [sp tt rt]) ⟨see_polls0 (S := [sp tt rt]) rfl, trivial⟩ (mem_one ⟨(by decide : (0 : Int) ≤ 1), (by decide : (1 : Int) < 65536)⟩) (by decide : (1 : Nat) ≤ 32) hal rfl ?_
  conv => whnf
  refine newCall New_tr ?_
  conv => whnf
  refine reFam (c := 1) (x := newP (sp tt rt)) ?_ rfl
  refine trF g81 b81 c81 ?_
  conv => whnf
  with_reducible (first | refine unc1 ?_ | refine unc2 ?_ | refine unc3 ?_ | refine unc4 ?_ | refine unc5 ?_ | refine unc6 ?_ | refine unc7 ?_ | refine unc8 ?_ | refine unc9 ?_ | refine unc10 ?_ | refine unc11 ?_ | refine unc12 ?_ | refine unc13 ?_ | refine unc14 ?_ | refine unc15 ?_ | refine unc16 ?_ | skip)
  refine pkBeginA (last := 0) (I := .zero) (X := [newP (sp tt rt)]) ?_ (by decide : (1 : Nat) ≤ 36) (mem_one ⟨(by decide : (1 : Int) ≤ 1), (by decide : (1 : Int) ≤ 64)⟩) ?_ ?_ ?_ ?_ (new_begin tt rt .zero) ?_
  · exact ⟨rfl, rfl, rfl, outN⟩
  · rfl
  · rfl
  · exact .inr (by decide)
  · rfl
  conv => whnf
  with_reducible (first | refine unc1 ?_ | refine unc2 ?_ | refine unc3 ?_ | refine unc4 ?_ | refine unc5 ?_ | refine unc6 ?_ | refine unc7 ?_ | refine unc8 ?_ | refine unc9 ?_ | refine unc10 ?_ | refine unc11 ?_ | refine unc12 ?_ | refine unc13 ?_ | refine unc14 ?_ | refine unc15 ?_ | refine unc16 ?_ | skip)
  refine pkOutA (last := 1) (X := [sx (sp tt rt) true 1 tt 0 false 1 []]) (oc := .sl 3 46 0 1) ?_ (by decide : (1 : Nat) ≤ 36) ?_
  · exact ⟨rfl, rfl, rfl, outS _ _ _⟩
  conv => whnf
  have h1 : takeP 1 9 (good 4 v) [sx (sp tt rt) true 1 tt 0 false 1 []] = (true, [sx (sp tt rt) false 1 tt (((1 : Nat) : Int) - 1) (decide ((((1 : Nat) : Int) - 1) ≥ rt)) 0 [v]]) := by
    rw [sx_good tt rt 1 tt 0 1 v false [] hv0 hv1, show (((1 : Nat) : Int) - 1) = 0 by decide, decide_eq_false (show ¬ (0 : Int) ≥ rt by omega)]
  have hgl : (good 4 v).length ≤ 1000 := by show 4 ≤ 1000; decide
  with_reducible (first | refine unc1 ?_ | refine unc2 ?_ | refine unc3 ?_ | refine unc4 ?_ | refine unc5 ?_ | refine unc6 ?_ | refine unc7 ?_ | refine unc8 ?_ | refine unc9 ?_ | refine unc10 ?_ | refine unc11 ?_ | refine unc12 ?_ | refine unc13 ?_ | refine unc14 ?_ | refine unc15 ?_ | refine unc16 ?_ | skip)
  refine pkTakeR (last := 1) (X := [sx (sp tt rt) true 1 tt 0 false 1 []]) (oc := .nils) (l := good 4 v) ?_ (by decide : (1 : Nat) ≤ 36) (okx_sx _ _ _ _ _ _ _ _ rfl) hgl (h1) ?_
  · exact ⟨rfl, rfl, rfl, outN⟩
  conv => whnf
  refine loopI (α := {a : LS // 1 ≤ a.i ∧ a.i ≤ m0.toNat + 1}) (fun ⟨a, _⟩ => [(0, .int .i64 rt), (1, .int .i64 m0), (2, .int .i64 tt), (3, .int .u16 v), (4, .bool exc), (11, .ptr 41 0), (13, .ptr 43 0), (14, .fn 81 [.ptr 41 0, .ptr 43 0]), (15, .roI .u8 (good 4 v)), (16, .ptr 47 0), (17, .int .i64 a.i)]) (fun ⟨a, _⟩ => ⟨48, [(1, some (msP 1 1 (a.L) .nils)), (2, some (mrP 1 1)), (41, some (.obj [.ptr 1 0])), (42, some (imC (a.J))), (43, some (.obj [.ptr 42 0])), (47, some (.obj [.int .u16 (a.fi), .int .u8 9, .roI .u8 (a.fl)]))] ++ famP 1 0 [sx (sp tt rt) false a.id a.le ((a.i : Int) - 1) (decide (((a.i : Int) - 1) ≥ rt)) a.ag [v]]⟩) (fun ⟨a, _⟩ => m0.toNat + 1 - a.i) ⟨⟨1, 1, tt, 0, 1, 1, [4, 0, 1, 0, 1], .zero⟩, Nat.le_refl _, by show 1 ≤ m0.toNat + 1; omega⟩ ?_ fun ⟨a, ha1, ha2⟩ => ?_
  · exact subPk (c := 1) (X := [sx (sp tt rt) false 1 tt (((1 : Nat) : Int) - 1) (decide ((((1 : Nat) : Int) - 1) ≥ rt)) 0 [v]]) [] rfl rfl rfl (by decide : (1 : Nat) ≤ 36) (fun _ _ _ => rfl) rfl rfl ⟨⟨rfl, rfl⟩, ⟨rfl, rfl⟩, ⟨rfl, rfl⟩, ⟨rfl, rfl⟩, ⟨rfl, rfl⟩, ⟨rfl, rfl⟩, ⟨rfl, rfl⟩, ⟨rfl, rfl⟩, ⟨rfl, rfl⟩, ⟨rfl, rfl⟩, ⟨rfl, rfl⟩, trivial⟩ ⟨⟨msP_hok rfl, rfl, rfl⟩, ⟨mrP_hok rfl, rfl, rfl⟩, ⟨rfl, rfl, rfl⟩, ⟨trivial, rfl, rfl⟩, ⟨rfl, rfl, rfl⟩, ⟨rfl, rfl, rfl⟩, trivial⟩ (one_fam rfl)
  · conv => whnf
    by_cases hlt : (a.i : Int) ≤ m0
    · refine condY (by simpa using hlt) ?_
      conv => whnf
      refine trF g81 b81 c81 ?_
      conv => whnf
      with_reducible (first | refine unc1 ?_ | refine unc2 ?_ | refine unc3 ?_ | refine unc4 ?_ | refine unc5 ?_ | refine unc6 ?_ | refine unc7 ?_ | refine unc8 ?_ | refine unc9 ?_ | refine unc10 ?_ | refine unc11 ?_ | refine unc12 ?_ | refine unc13 ?_ | refine unc14 ?_ | refine unc15 ?_ | refine unc16 ?_ | skip)
      refine pkBeginA (last := a.L) (I := a.J) (X := [sx (sp tt rt) false a.id a.le ((a.i : Int) - 1) (decide (((a.i : Int) - 1) ≥ rt)) a.ag [v]]) ?_ (by decide : (1 : Nat) ≤ 36) (mem_one ⟨(by decide : (1 : Int) ≤ 1), (by decide : (1 : Int) ≤ 64)⟩) ?_ ?_ ?_ ?_ (sx_begin tt rt a.id a.le ((a.i : Int) - 1) a.ag a.L (decide (((a.i : Int) - 1) ≥ rt)) [v] a.J) ?_
      · exact ⟨rfl, rfl, rfl, outN⟩
      · rfl
      · rfl
      · exact .inr (by decide)
      · rfl
      conv => whnf
      with_reducible (first | refine unc1 ?_ | refine unc2 ?_ | refine unc3 ?_ | refine unc4 ?_ | refine unc5 ?_ | refine unc6 ?_ | refine unc7 ?_ | refine unc8 ?_ | refine unc9 ?_ | refine unc10 ?_ | refine unc11 ?_ | refine unc12 ?_ | refine unc13 ?_ | refine unc14 ?_ | refine unc15 ?_ | refine unc16 ?_ | skip)
      refine pkOutA (last := IntKind.u32.wrap (a.L + 1)) (X := [sx (sp tt rt) true (IntKind.u16.wrap (IntKind.u32.wrap (a.L + 1))) tt ((a.i : Int) - 1) (decide (((a.i : Int) - 1) ≥ rt)) (IntKind.i64.wrap (a.ag + 1)) [v]]) (oc := .sl 3 49 0 1) ?_ (by decide : (1 : Nat) ≤ 36) ?_
      · exact ⟨rfl, rfl, rfl, outS _ _ _⟩
      conv => whnf
      refine condF (fun he => ?_) (fun he => ?_)
      · conv => whnf
        refine loopI (α := {k : Nat // (k : Int) ≤ tt}) (fun k => [(0, .int .i64 rt), (1, .int .i64 m0), (2, .int .i64 tt), (3, .int .u16 v), (4, .bool exc), (11, .ptr 41 0), (13, .ptr 43 0), (14, .fn 81 [.ptr 41 0, .ptr 43 0]), (15, .roI .u8 (good 4 v)), (16, .ptr 47 0), (17, .int .i64 a.i), (18, .int .i64 k.1)]) (fun k => ⟨48, [(1, some (msP 1 1 (IntKind.u32.wrap (a.L + 1)) .nils)), (2, some (mrP 1 1)), (41, some (.obj [.ptr 1 0])), (42, some (imC (a.J))), (43, some (.obj [.ptr 42 0])), (47, some (.obj [.int .u16 (IntKind.u16.wrap (IntKind.u32.wrap (a.L + 1))), .int .u8 9, .roI .u8 ([4, 0, 1, 0, 1])]))] ++ famP 1 0 [(if (k.1 : Int) < tt then sx (sp tt rt) true (IntKind.u16.wrap (IntKind.u32.wrap (a.L + 1))) (tt - k.1) ((a.i : Int) - 1) (decide (((a.i : Int) - 1) ≥ rt)) (IntKind.i64.wrap (a.ag + 1)) [v] else sx (sp tt rt) false (IntKind.u16.wrap (IntKind.u32.wrap (a.L + 1))) 0 (((a.i + 1 : Nat) : Int) - 1) (decide ((((a.i + 1 : Nat) : Int) - 1) ≥ rt)) (IntKind.i64.wrap (a.ag + 1)) [v])]⟩) (fun k => tt.toNat - k.1) ⟨0, by show (0 : Int) ≤ tt; omega⟩ ?_ fun k => ?_
        · rw [if_pos (show (((0 : Nat) : Int) < tt) by omega), show tt - ((0 : Nat) : Int) = tt by omega]
          exact subPk (c := 1) (X := [sx (sp tt rt) true (IntKind.u16.wrap (IntKind.u32.wrap (a.L + 1))) tt ((a.i : Int) - 1) (decide (((a.i : Int) - 1) ≥ rt)) (IntKind.i64.wrap (a.ag + 1)) [v]]) [] rfl rfl rfl (by decide : (1 : Nat) ≤ 36) (fun _ _ _ => rfl) rfl rfl ⟨⟨rfl, rfl⟩, ⟨rfl, rfl⟩, ⟨rfl, rfl⟩, ⟨rfl, rfl⟩, ⟨rfl, rfl⟩, ⟨rfl, rfl⟩, ⟨rfl, rfl⟩, ⟨rfl, rfl⟩, ⟨rfl, rfl⟩, ⟨rfl, rfl⟩, ⟨rfl, rfl⟩, ⟨rfl, rfl⟩, trivial⟩ ⟨⟨msP_hok rfl, rfl, rfl⟩, ⟨mrP_hok rfl, rfl, rfl⟩, ⟨rfl, rfl, rfl⟩, ⟨trivial, rfl, rfl⟩, ⟨rfl, rfl, rfl⟩, ⟨rfl, rfl, rfl⟩, trivial⟩ (one_fam rfl)
        · obtain ⟨k, hk⟩ := k
          conv => whnf
          by_cases hkt : (k : Int) < tt
          · rw [if_pos hkt]
            refine condY (by simpa using hkt) ?_
            conv => whnf
            have htk : (sx (sp tt rt) true (IntKind.u16.wrap (IntKind.u32.wrap (a.L + 1))) (tt - ((k : Nat) : Int)) ((a.i : Int) - 1) (decide (((a.i : Int) - 1) ≥ rt)) (IntKind.i64.wrap (a.ag + 1)) [v]).tick = (if ((k + 1 : Nat) : Int) < tt then sx (sp tt rt) true (IntKind.u16.wrap (IntKind.u32.wrap (a.L + 1))) (tt - ((k + 1 : Nat) : Int)) ((a.i : Int) - 1) (decide (((a.i : Int) - 1) ≥ rt)) (IntKind.i64.wrap (a.ag + 1)) [v] else sx (sp tt rt) false (IntKind.u16.wrap (IntKind.u32.wrap (a.L + 1))) 0 (((a.i + 1 : Nat) : Int) - 1) (decide ((((a.i + 1 : Nat) : Int) - 1) ≥ rt)) (IntKind.i64.wrap (a.ag + 1)) [v]) := by
              by_cases hk1 : ((k + 1 : Nat) : Int) < tt
              · rw [if_pos hk1, sx_tick _ _ _ _ _ _ _ _ (by omega), show tt - (k : Int) - 1 = tt - ((k + 1 : Nat) : Int) by omega]
              · rw [if_neg hk1, show tt - (k : Int) = 1 by omega, sx_tick1, sx_miss _ _ _ _ _ _ _ _ (by omega) (by omega), show ((a.i : Int) - 1) + 1 = (((a.i + 1 : Nat) : Int) - 1) by omega]
            with_reducible (first | refine unc1 ?_ | refine unc2 ?_ | refine unc3 ?_ | refine unc4 ?_ | refine unc5 ?_ | refine unc6 ?_ | refine unc7 ?_ | refine unc8 ?_ | refine unc9 ?_ | refine unc10 ?_ | refine unc11 ?_ | refine unc12 ?_ | refine unc13 ?_ | refine unc14 ?_ | refine unc15 ?_ | refine unc16 ?_ | skip)
            refine pkWaits (last := IntKind.u32.wrap (a.L + 1)) (X := [sx (sp tt rt) true (IntKind.u16.wrap (IntKind.u32.wrap (a.L + 1))) (tt - ((k : Nat) : Int)) ((a.i : Int) - 1) (decide (((a.i : Int) - 1) ≥ rt)) (IntKind.i64.wrap (a.ag + 1)) [v]]) (oc := .nils) ?_ (by decide : (1 : Nat) ≤ 36) (by decide) (by decide : (0 : Int) < 1) ?_
            · exact ⟨rfl, rfl, rfl, outN⟩
            conv => whnf
            with_reducible (first | refine unc1 ?_ | refine unc2 ?_ | refine unc3 ?_ | refine unc4 ?_ | refine unc5 ?_ | refine unc6 ?_ | refine unc7 ?_ | refine unc8 ?_ | refine unc9 ?_ | refine unc10 ?_ | refine unc11 ?_ | refine unc12 ?_ | refine unc13 ?_ | refine unc14 ?_ | refine unc15 ?_ | refine unc16 ?_ | skip)
            refine pkTick (last := IntKind.u32.wrap (a.L + 1)) (X := [sx (sp tt rt) true (IntKind.u16.wrap (IntKind.u32.wrap (a.L + 1))) (tt - ((k : Nat) : Int)) ((a.i : Int) - 1) (decide (((a.i : Int) - 1) ≥ rt)) (IntKind.i64.wrap (a.ag + 1)) [v]]) (oc := .nils) ?_ (by decide : (1 : Nat) ≤ 36) ?_
            · exact ⟨rfl, rfl, rfl, outN⟩
            rw [show [sx (sp tt rt) true (IntKind.u16.wrap (IntKind.u32.wrap (a.L + 1))) (tt - ((k : Nat) : Int)) ((a.i : Int) - 1) (decide (((a.i : Int) - 1) ≥ rt)) (IntKind.i64.wrap (a.ag + 1)) [v]].map Pl.tick = [(if ((k + 1 : Nat) : Int) < tt then sx (sp tt rt) true (IntKind.u16.wrap (IntKind.u32.wrap (a.L + 1))) (tt - ((k + 1 : Nat) : Int)) ((a.i : Int) - 1) (decide (((a.i : Int) - 1) ≥ rt)) (IntKind.i64.wrap (a.ag + 1)) [v] else sx (sp tt rt) false (IntKind.u16.wrap (IntKind.u32.wrap (a.L + 1))) 0 (((a.i + 1 : Nat) : Int) - 1) (decide ((((a.i + 1 : Nat) : Int) - 1) ≥ rt)) (IntKind.i64.wrap (a.ag + 1)) [v])] from congrArg (fun x => [x]) htk]
            conv => whnf
            refine ⟨⟨k + 1, by show ((k + 1 : Nat) : Int) ≤ tt; omega⟩, subPk (c := 1) (X := [(if ((k + 1 : Nat) : Int) < tt then sx (sp tt rt) true (IntKind.u16.wrap (IntKind.u32.wrap (a.L + 1))) (tt - ((k + 1 : Nat) : Int)) ((a.i : Int) - 1) (decide (((a.i : Int) - 1) ≥ rt)) (IntKind.i64.wrap (a.ag + 1)) [v] else sx (sp tt rt) false (IntKind.u16.wrap (IntKind.u32.wrap (a.L + 1))) 0 (((a.i + 1 : Nat) : Int) - 1) (decide ((((a.i + 1 : Nat) : Int) - 1) ≥ rt)) (IntKind.i64.wrap (a.ag + 1)) [v])]) [] rfl rfl rfl (by decide : (1 : Nat) ≤ 36) (fun _ _ _ => rfl) rfl rfl ⟨⟨rfl, rfl⟩, ⟨rfl, rfl⟩, ⟨rfl, rfl⟩, ⟨rfl, rfl⟩, ⟨rfl, rfl⟩, ⟨rfl, rfl⟩, ⟨rfl, rfl⟩, ⟨rfl, rfl⟩, ⟨rfl, rfl⟩, ⟨rfl, rfl⟩, ⟨rfl, rfl⟩, ⟨?_, rfl⟩, trivial⟩ ⟨⟨msP_hok rfl, rfl, rfl⟩, ⟨mrP_hok rfl, rfl, rfl⟩, ⟨rfl, rfl, rfl⟩, ⟨trivial, rfl, rfl⟩, ⟨rfl, rfl, rfl⟩, ⟨rfl, rfl, rfl⟩, trivial⟩ (one_fam rfl), by show tt.toNat - (k + 1) < tt.toNat - k; omega⟩
            show AV.int .i64 (IntKind.i64.wrap ((k : Int) + 1)) = AV.int .i64 ((k + 1 : Nat) : Int)
            rw [s64 (by omega)]
          · rw [if_neg hkt]
            refine condN (by simpa using hkt) ?_
            conv => whnf
            with_reducible (first | refine unc1 ?_ | refine unc2 ?_ | refine unc3 ?_ | refine unc4 ?_ | refine unc5 ?_ | refine unc6 ?_ | refine unc7 ?_ | refine unc8 ?_ | refine unc9 ?_ | refine unc10 ?_ | refine unc11 ?_ | refine unc12 ?_ | refine unc13 ?_ | refine unc14 ?_ | refine unc15 ?_ | refine unc16 ?_ | skip)
            refine pkTakeR (last := IntKind.u32.wrap (a.L + 1)) (X := [sx (sp tt rt) false (IntKind.u16.wrap (IntKind.u32.wrap (a.L + 1))) 0 (((a.i + 1 : Nat) : Int) - 1) (decide ((((a.i + 1 : Nat) : Int) - 1) ≥ rt)) (IntKind.i64.wrap (a.ag + 1)) [v]]) (oc := .nils) (l := good 4 v) ?_ (by decide : (1 : Nat) ≤ 36) (okx_sx _ _ _ _ _ _ _ _ rfl) hgl (sx_late _ _ _ _ _ _ _ _ _ _) ?_
            · exact ⟨rfl, rfl, rfl, outN⟩
            conv => whnf
            with_reducible (first | refine unc1 ?_ | refine unc2 ?_ | refine unc3 ?_ | refine unc4 ?_ | refine unc5 ?_ | refine unc6 ?_ | refine unc7 ?_ | refine unc8 ?_ | refine unc9 ?_ | refine unc10 ?_ | refine unc11 ?_ | refine unc12 ?_ | refine unc13 ?_ | refine unc14 ?_ | refine unc15 ?_ | refine unc16 ?_ | skip)
            refine pkLatchA (last := IntKind.u32.wrap (a.L + 1)) (X := [sx (sp tt rt) false (IntKind.u16.wrap (IntKind.u32.wrap (a.L + 1))) 0 (((a.i + 1 : Nat) : Int) - 1) (decide ((((a.i + 1 : Nat) : Int) - 1) ≥ rt)) (IntKind.i64.wrap (a.ag + 1)) [v]]) (oc := .nils) (J := a.J) ?_ (by decide : (1 : Nat) ≤ 36) (mem_one ⟨(by decide : (1 : Nat) ≤ 1000), mem_one hv0⟩) ?_ ?_ ?_
            · exact ⟨rfl, rfl, rfl, outN⟩
            · exact .inr (by decide)
            · rfl
            rw [show latchN a.J [sx (sp tt rt) false (IntKind.u16.wrap (IntKind.u32.wrap (a.L + 1))) 0 (((a.i + 1 : Nat) : Int) - 1) (decide ((((a.i + 1 : Nat) : Int) - 1) ≥ rt)) (IntKind.i64.wrap (a.ag + 1)) [v]] [sx (sp tt rt) false (IntKind.u16.wrap (IntKind.u32.wrap (a.L + 1))) 0 (((a.i + 1 : Nat) : Int) - 1) (decide ((((a.i + 1 : Nat) : Int) - 1) ≥ rt)) (IntKind.i64.wrap (a.ag + 1)) [v]].length = a.J.put 4 0 v from sx_latch _ _ _ _ _ _ _ _ _ rfl]
            conv => whnf
            refine blkCall (Get_tr (a.J.put 4 0 v) 4 0) rfl rfl rfl ?_
            rw [getV_put _ 4 0 v rfl, show bitV 4 v = v from rfl]
            conv => whnf
            with_reducible (first | refine unc1 ?_ | refine unc2 ?_ | refine unc3 ?_ | refine unc4 ?_ | refine unc5 ?_ | refine unc6 ?_ | refine unc7 ?_ | refine unc8 ?_ | refine unc9 ?_ | refine unc10 ?_ | refine unc11 ?_ | refine unc12 ?_ | refine unc13 ?_ | refine unc14 ?_ | refine unc15 ?_ | refine unc16 ?_ | skip)
            refine pkStale (last := IntKind.u32.wrap (a.L + 1)) (X := [sx (sp tt rt) false (IntKind.u16.wrap (IntKind.u32.wrap (a.L + 1))) 0 (((a.i + 1 : Nat) : Int) - 1) (decide ((((a.i + 1 : Nat) : Int) - 1) ≥ rt)) (IntKind.i64.wrap (a.ag + 1)) [v]]) (oc := .nils) ?_ (by decide : (1 : Nat) ≤ 36) (by decide) (by decide : (0 : Int) < 1) ?_
            · exact ⟨rfl, rfl, rfl, outN⟩
            conv => whnf
            refine condN (by show (!(decide ((((a.i + 1 : Nat) : Int) - 1) ≥ rt) == decide ((a.i : Int) ≥ rt))) = false; rw [show (((a.i + 1 : Nat) : Int) - 1) = (a.i : Int) by omega, beq_self_eq_true]; rfl) ?_
            conv => whnf
            refine condN (by show (v != v) = false; simp) ?_
            conv => whnf
            refine ⟨⟨⟨a.i + 1, IntKind.u16.wrap (IntKind.u32.wrap (a.L + 1)), 0, IntKind.i64.wrap (a.ag + 1), IntKind.u32.wrap (a.L + 1), IntKind.u16.wrap (IntKind.u32.wrap (a.L + 1)), [4, 0, 1, 0, 1], a.J.put 4 0 v⟩, Nat.le_add_left .., by show a.i + 1 ≤ m0.toNat + 1; omega⟩, subPk (c := 1) (X := [sx (sp tt rt) false (IntKind.u16.wrap (IntKind.u32.wrap (a.L + 1))) 0 (((a.i + 1 : Nat) : Int) - 1) (decide ((((a.i + 1 : Nat) : Int) - 1) ≥ rt)) (IntKind.i64.wrap (a.ag + 1)) [v]]) [] rfl rfl rfl (by decide : (1 : Nat) ≤ 36) (fun _ _ _ => rfl) rfl rfl ⟨⟨rfl, rfl⟩, ⟨rfl, rfl⟩, ⟨rfl, rfl⟩, ⟨rfl, rfl⟩, ⟨rfl, rfl⟩, ⟨rfl, rfl⟩, ⟨rfl, rfl⟩, ⟨rfl, rfl⟩, ⟨rfl, rfl⟩, ⟨rfl, rfl⟩, ⟨?_, rfl⟩, trivial⟩ ⟨⟨msP_hok rfl, rfl, rfl⟩, ⟨mrP_hok rfl, rfl, rfl⟩, ⟨rfl, rfl, rfl⟩, ⟨trivial, rfl, rfl⟩, ⟨rfl, rfl, rfl⟩, ⟨rfl, rfl, rfl⟩, trivial⟩ (one_fam rfl), by show m0.toNat + 1 - (a.i + 1) < m0.toNat + 1 - a.i; omega⟩
            show AV.int .i64 (IntKind.i64.wrap ((a.i : Int) + 1)) = AV.int .i64 ((a.i + 1 : Nat) : Int)
            rw [s64 (by omega)]
      · conv => whnf
        have h2 : takeP (IntKind.u16.wrap (IntKind.u32.wrap (a.L + 1))) 9 [132, 2] [sx (sp tt rt) true (IntKind.u16.wrap (IntKind.u32.wrap (a.L + 1))) tt ((a.i : Int) - 1) (decide (((a.i : Int) - 1) ≥ rt)) (IntKind.i64.wrap (a.ag + 1)) [v]] = (true, [sx (sp tt rt) false (IntKind.u16.wrap (IntKind.u32.wrap (a.L + 1))) tt (((a.i + 1 : Nat) : Int) - 1) (decide ((((a.i + 1 : Nat) : Int) - 1) ≥ rt)) (IntKind.i64.wrap (a.ag + 1)) [v]]) := by
          rw [sx_exc, sx_miss _ _ _ _ _ _ _ _ (by omega) (by omega), show ((a.i : Int) - 1) + 1 = (((a.i + 1 : Nat) : Int) - 1) by omega]
        with_reducible (first | refine unc1 ?_ | refine unc2 ?_ | refine unc3 ?_ | refine unc4 ?_ | refine unc5 ?_ | refine unc6 ?_ | refine unc7 ?_ | refine unc8 ?_ | refine unc9 ?_ | refine unc10 ?_ | refine unc11 ?_ | refine unc12 ?_ | refine unc13 ?_ | refine unc14 ?_ | refine unc15 ?_ | refine unc16 ?_ | skip)
        refine pkTake (last := IntKind.u32.wrap (a.L + 1)) (X := [sx (sp tt rt) true (IntKind.u16.wrap (IntKind.u32.wrap (a.L + 1))) tt ((a.i : Int) - 1) (decide (((a.i : Int) - 1) ≥ rt)) (IntKind.i64.wrap (a.ag + 1)) [v]]) (oc := .nils) (h := 50) (l := [132, 2]) ?_ (by decide : (1 : Nat) ≤ 36) (okx_sx _ _ _ _ _ _ _ _ rfl) (by decide) ?_ rfl h2 ?_
        · exact ⟨rfl, rfl, rfl, outN⟩
        · rfl
        conv => whnf
        with_reducible (first | refine unc1 ?_ | refine unc2 ?_ | refine unc3 ?_ | refine unc4 ?_ | refine unc5 ?_ | refine unc6 ?_ | refine unc7 ?_ | refine unc8 ?_ | refine unc9 ?_ | refine unc10 ?_ | refine unc11 ?_ | refine unc12 ?_ | refine unc13 ?_ | refine unc14 ?_ | refine unc15 ?_ | refine unc16 ?_ | skip)
        refine pkLatchA (last := IntKind.u32.wrap (a.L + 1)) (X := [sx (sp tt rt) false (IntKind.u16.wrap (IntKind.u32.wrap (a.L + 1))) tt (((a.i + 1 : Nat) : Int) - 1) (decide ((((a.i + 1 : Nat) : Int) - 1) ≥ rt)) (IntKind.i64.wrap (a.ag + 1)) [v]]) (oc := .nils) (J := a.J) ?_ (by decide : (1 : Nat) ≤ 36) (mem_one ⟨(by decide : (1 : Nat) ≤ 1000), mem_one hv0⟩) ?_ ?_ ?_
        · exact ⟨rfl, rfl, rfl, outN⟩
        · exact .inr (by decide)
        · rfl
        rw [show latchN a.J [sx (sp tt rt) false (IntKind.u16.wrap (IntKind.u32.wrap (a.L + 1))) tt (((a.i + 1 : Nat) : Int) - 1) (decide ((((a.i + 1 : Nat) : Int) - 1) ≥ rt)) (IntKind.i64.wrap (a.ag + 1)) [v]] [sx (sp tt rt) false (IntKind.u16.wrap (IntKind.u32.wrap (a.L + 1))) tt (((a.i + 1 : Nat) : Int) - 1) (decide ((((a.i + 1 : Nat) : Int) - 1) ≥ rt)) (IntKind.i64.wrap (a.ag + 1)) [v]].length = a.J.put 4 0 v from sx_latch _ _ _ _ _ _ _ _ _ rfl]
        conv => whnf
        refine blkCall (Get_tr (a.J.put 4 0 v) 4 0) rfl rfl rfl ?_
        rw [getV_put _ 4 0 v rfl, show bitV 4 v = v from rfl]
        conv => whnf
        with_reducible (first | refine unc1 ?_ | refine unc2 ?_ | refine unc3 ?_ | refine unc4 ?_ | refine unc5 ?_ | refine unc6 ?_ | refine unc7 ?_ | refine unc8 ?_ | refine unc9 ?_ | refine unc10 ?_ | refine unc11 ?_ | refine unc12 ?_ | refine unc13 ?_ | refine unc14 ?_ | refine unc15 ?_ | refine unc16 ?_ | skip)
        refine pkStale (last := IntKind.u32.wrap (a.L + 1)) (X := [sx (sp tt rt) false (IntKind.u16.wrap (IntKind.u32.wrap (a.L + 1))) tt (((a.i + 1 : Nat) : Int) - 1) (decide ((((a.i + 1 : Nat) : Int) - 1) ≥ rt)) (IntKind.i64.wrap (a.ag + 1)) [v]]) (oc := .nils) ?_ (by decide : (1 : Nat) ≤ 36) (by decide) (by decide : (0 : Int) < 1) ?_
        · exact ⟨rfl, rfl, rfl, outN⟩
        conv => whnf
        refine condN (by show (!(decide ((((a.i + 1 : Nat) : Int) - 1) ≥ rt) == decide ((a.i : Int) ≥ rt))) = false; rw [show (((a.i + 1 : Nat) : Int) - 1) = (a.i : Int) by omega, beq_self_eq_true]; rfl) ?_
        conv => whnf
        refine condN (by show (v != v) = false; simp) ?_
        conv => whnf
        refine ⟨⟨⟨a.i + 1, IntKind.u16.wrap (IntKind.u32.wrap (a.L + 1)), tt, IntKind.i64.wrap (a.ag + 1), IntKind.u32.wrap (a.L + 1), IntKind.u16.wrap (IntKind.u32.wrap (a.L + 1)), [4, 0, 1, 0, 1], a.J.put 4 0 v⟩, Nat.le_add_left .., by show a.i + 1 ≤ m0.toNat + 1; omega⟩, subPk (c := 1) (X := [sx (sp tt rt) false (IntKind.u16.wrap (IntKind.u32.wrap (a.L + 1))) tt (((a.i + 1 : Nat) : Int) - 1) (decide ((((a.i + 1 : Nat) : Int) - 1) ≥ rt)) (IntKind.i64.wrap (a.ag + 1)) [v]]) [] rfl rfl rfl (by decide : (1 : Nat) ≤ 36) (fun _ _ _ => rfl) rfl rfl ⟨⟨rfl, rfl⟩, ⟨rfl, rfl⟩, ⟨rfl, rfl⟩, ⟨rfl, rfl⟩, ⟨rfl, rfl⟩, ⟨rfl, rfl⟩, ⟨rfl, rfl⟩, ⟨rfl, rfl⟩, ⟨rfl, rfl⟩, ⟨rfl, rfl⟩, ⟨?_, rfl⟩, trivial⟩ ⟨⟨msP_hok rfl, rfl, rfl⟩, ⟨mrP_hok rfl, rfl, rfl⟩, ⟨rfl, rfl, rfl⟩, ⟨trivial, rfl, rfl⟩, ⟨rfl, rfl, rfl⟩, ⟨rfl, rfl, rfl⟩, trivial⟩ (one_fam rfl), by show m0.toNat + 1 - (a.i + 1) < m0.toNat + 1 - a.i; omega⟩
        show AV.int .i64 (IntKind.i64.wrap ((a.i : Int) + 1)) = AV.int .i64 ((a.i + 1 : Nat) : Int)
        rw [s64 (by omega)]
    · refine condN (by simpa using hlt) ?_
      conv => whnf
      refine trF g81 b81 c81 ?_
      conv => whnf
      with_reducible (first | refine unc1 ?_ | refine unc2 ?_ | refine unc3 ?_ | refine unc4 ?_ | refine unc5 ?_ | refine unc6 ?_ | refine unc7 ?_ | refine unc8 ?_ | refine unc9 ?_ | refine unc10 ?_ | refine unc11 ?_ | refine unc12 ?_ | refine unc13 ?_ | refine unc14 ?_ | refine unc15 ?_ | refine unc16 ?_ | skip)
      refine pkBeginA (last := a.L) (I := a.J) (X := [sx (sp tt rt) false a.id a.le ((a.i : Int) - 1) (decide (((a.i : Int) - 1) ≥ rt)) a.ag [v]]) ?_ (by decide : (1 : Nat) ≤ 36) (mem_one ⟨(by decide : (1 : Int) ≤ 1), (by decide : (1 : Int) ≤ 64)⟩) ?_ ?_ ?_ ?_ (sx_begin tt rt a.id a.le ((a.i : Int) - 1) a.ag a.L (decide (((a.i : Int) - 1) ≥ rt)) [v] a.J) ?_
      · exact ⟨rfl, rfl, rfl, outN⟩
      · rfl
      · rfl
      · exact .inr (by decide)
      · rfl
      conv => whnf
      with_reducible (first | refine unc1 ?_ | refine unc2 ?_ | refine unc3 ?_ | refine unc4 ?_ | refine unc5 ?_ | refine unc6 ?_ | refine unc7 ?_ | refine unc8 ?_ | refine unc9 ?_ | refine unc10 ?_ | refine unc11 ?_ | refine unc12 ?_ | refine unc13 ?_ | refine unc14 ?_ | refine unc15 ?_ | refine unc16 ?_ | skip)
      refine pkOutA (last := IntKind.u32.wrap (a.L + 1)) (X := [sx (sp tt rt) true (IntKind.u16.wrap (IntKind.u32.wrap (a.L + 1))) tt ((a.i : Int) - 1) (decide (((a.i : Int) - 1) ≥ rt)) (IntKind.i64.wrap (a.ag + 1)) [v]]) (oc := .sl 3 49 0 1) ?_ (by decide : (1 : Nat) ≤ 36) ?_
      · exact ⟨rfl, rfl, rfl, outS _ _ _⟩
      conv => whnf
      with_reducible (first | refine unc1 ?_ | refine unc2 ?_ | refine unc3 ?_ | refine unc4 ?_ | refine unc5 ?_ | refine unc6 ?_ | refine unc7 ?_ | refine unc8 ?_ | refine unc9 ?_ | refine unc10 ?_ | refine unc11 ?_ | refine unc12 ?_ | refine unc13 ?_ | refine unc14 ?_ | refine unc15 ?_ | refine unc16 ?_ | skip)
      refine pkTakeR (last := IntKind.u32.wrap (a.L + 1)) (X := [sx (sp tt rt) true (IntKind.u16.wrap (IntKind.u32.wrap (a.L + 1))) tt ((a.i : Int) - 1) (decide (((a.i : Int) - 1) ≥ rt)) (IntKind.i64.wrap (a.ag + 1)) [v]]) (oc := .nils) (l := good 4 v) ?_ (by decide : (1 : Nat) ≤ 36) (okx_sx _ _ _ _ _ _ _ _ rfl) hgl (sx_good tt rt (IntKind.u16.wrap (IntKind.u32.wrap (a.L + 1))) tt ((a.i : Int) - 1) (IntKind.i64.wrap (a.ag + 1)) v (decide (((a.i : Int) - 1) ≥ rt)) [v] hv0 hv1) ?_
      · exact ⟨rfl, rfl, rfl, outN⟩
      conv => whnf
      with_reducible (first | refine unc1 ?_ | refine unc2 ?_ | refine unc3 ?_ | refine unc4 ?_ | refine unc5 ?_ | refine unc6 ?_ | refine unc7 ?_ | refine unc8 ?_ | refine unc9 ?_ | refine unc10 ?_ | refine unc11 ?_ | refine unc12 ?_ | refine unc13 ?_ | refine unc14 ?_ | refine unc15 ?_ | refine unc16 ?_ | skip)
      refine pkStale (last := IntKind.u32.wrap (a.L + 1)) (X := [sx (sp tt rt) false (IntKind.u16.wrap (IntKind.u32.wrap (a.L + 1))) tt 0 false 0 [v]]) (oc := .nils) ?_ (by decide : (1 : Nat) ≤ 36) (by decide) (by decide : (0 : Int) < 1) ?_
      · exact ⟨rfl, rfl, rfl, outN⟩
      conv => whnf
      with_reducible (first | refine unc1 ?_ | refine unc2 ?_ | refine unc3 ?_ | refine unc4 ?_ | refine unc5 ?_ | refine unc6 ?_ | refine unc7 ?_ | refine unc8 ?_ | refine unc9 ?_ | refine unc10 ?_ | refine unc11 ?_ | refine unc12 ?_ | refine unc13 ?_ | refine unc14 ?_ | refine unc15 ?_ | refine unc16 ?_ | skip)
      refine pkAge (last := IntKind.u32.wrap (a.L + 1)) (X := [sx (sp tt rt) false (IntKind.u16.wrap (IntKind.u32.wrap (a.L + 1))) tt 0 false 0 [v]]) (oc := .nils) ?_ (by decide : (1 : Nat) ≤ 36) (by decide) (by decide : (0 : Int) < 1) ?_
      · exact ⟨rfl, rfl, rfl, outN⟩
      conv => whnf
      exact FrzK.le (Le.refl _)
end Go.Proofs.Ytomodeliimnddaa
set_option linter.unusedVariables false
set_option linter.unusedSimpArgs false
namespace Go.Ab
open Go.ChangeShapes Go.WideShapes Go.RowKit Go.Deep
def noM : Nat → Prop := fun _ => False
section
variable {P : Program} {H : Type} {enc : TypeId × Value → H} {W : World} {r : Reach} {b : Nat} {held : Bool}
theorem wf_has {k : IntKind} {n : Int} (h : (Lit.int k n).wf = true) : k.min ≤ n ∧ n ≤ k.max := by
  simpa [Lit.wf] using h
theorem cell_addr {t e : TypeId} {a : Addr} {len cap : Nat} (ht : P.underlying t = some (.slice e)) (h : Cell.okWide P W r b t (.slice (some a) len cap)) : a.spot = none ∧ a.block < W.heap.size := by
  simp only [Cell.okWide, ht, Cell.ok] at h
  obtain ⟨_, _, _, h2, row, cells, h3, _⟩ := h
  exact ⟨h2, lt_of_shape h3⟩
theorem gInts {t e : TypeId} {k : IntKind} {fuel : Nat} {v : Value} {x : DataW H × List MemPlace} (hok : Cell.okWide P W r b t v) (ht : P.underlying t = some (.slice e)) (he : P.underlying e = some (.int k)) (hc : P.cellsOf e = 1)
    (h : DataW.trod enc P W 0 (fun _ => true) held fuel t [v] = some x) : ∃ l : List Int, GRel W noM (.roI k l) v ∧ ∀ n ∈ l, k.min ≤ n ∧ n ≤ k.max := by
  rcases open_ints ht he hc h with ⟨hcs, _⟩ | ⟨a, len, cap, zs, hcs, _, hl, hm, hz, _, hcell, hwf⟩
  · obtain rfl : v = .slice none 0 0 := by simpa using hcs
    exact ⟨[], .sliceNil _ 1 (fun j => .int k (([] : List Int).getD j 0)) rfl, by simp⟩
  · obtain rfl : v = .slice (some a) len cap := by simpa using hcs
    obtain ⟨h1, h2⟩ := cell_addr ht hok
    have hz : zs.length = cap := by simpa using hz
    have hlen : (zs.take len).length = len := by rw [List.length_take]; omega
    refine ⟨zs.take len, ?_, fun n hn => wf_has (hwf n (List.mem_of_mem_take hn))⟩
    have := GRel.slice (w := W) (M := noM) (.roI k (zs.take len)) 1 (zs.take len).length (fun j => .int k ((zs.take len).getD j 0)) a cap (fun j => .int k (zs.getD j 0)) rfl (fun _ => ⟨h1, fun h => h, h2⟩) (by omega) (fun _ _ => rfl) (fun j hj => by
      rw [← add_eq a j h1]; exact hcell j (by omega)) (fun j hj => by
      have : (zs.take len).getD j 0 = zs.getD j 0 := by
        have hj' : j < len := by omega
        simp [List.getD_eq_getElem?_getD, List.getElem?_take, hj']
      show GRel W noM (.int k ((zs.take len).getD j 0)) _
      rw [this]; exact .int k _)
    rw [hlen] at this
    exact this
theorem gBools {t e : TypeId} {fuel : Nat} {v : Value} {x : DataW H × List MemPlace} (hok : Cell.okWide P W r b t v) (ht : P.underlying t = some (.slice e)) (he : P.underlying e = some .bool) (hc : P.cellsOf e = 1)
    (h : DataW.trod enc P W 0 (fun _ => true) held fuel t [v] = some x) : ∃ l : List Bool, GRel W noM (.roB l) v := by
  rcases open_bools ht he hc h with ⟨hcs, _⟩ | ⟨a, len, cap, B, hcs, _, hl, hm, _, hcell⟩
  · obtain rfl : v = .slice none 0 0 := by simpa using hcs
    exact ⟨[], .sliceNil _ 1 (fun j => .bool (([] : List Bool).getD j false)) rfl⟩
  · obtain rfl : v = .slice (some a) len cap := by simpa using hcs
    obtain ⟨h1, h2⟩ := cell_addr ht hok
    have hlen : ((List.range len).map B).length = len := by simp
    refine ⟨(List.range len).map B, ?_⟩
    have := GRel.slice (w := W) (M := noM) (.roB ((List.range len).map B)) 1 ((List.range len).map B).length (fun j => .bool (((List.range len).map B).getD j false)) a cap (fun j => .bool (B j)) rfl (fun _ => ⟨h1, fun h => h, h2⟩) (by omega) (fun _ _ => rfl) (fun j hj => by
      rw [← add_eq a j h1]; exact hcell j (by omega)) (fun j hj => by
      have : ((List.range len).map B).getD j false = B j := by
        have hj' : j < len := by omega
        simp [List.getD_eq_getElem?_getD, hj']
      show GRel W noM (.bool (((List.range len).map B).getD j false)) _
      rw [this]; exact .bool _)
    rw [hlen] at this
    exact this
theorem gInt {t : TypeId} {k : IntKind} {fuel : Nat} {v : Value} {x : DataW H × List MemPlace} (ht : P.underlying t = some (.int k)) (h : DataW.trod enc P W 0 (fun _ => true) held fuel t [v] = some x) :
    ∃ n, v = .int k n ∧ k.min ≤ n ∧ n ≤ k.max := by
  obtain ⟨n, h1, _, h2⟩ := DataW.trod_int ht h
  exact ⟨n, by simpa using h1, wf_has h2⟩
/-- a field of one cell -/
theorem gField {t : TypeId} {fs : Array Field} {fuel : Nat} {cs : List Value} {x : DataW H × List MemPlace} (ht : P.underlying t = some (.struct fs)) (h : DataW.trod enc P W 0 (fun _ => true) held fuel t cs = some x)
    (j : Nat) (f : Field) (hj : fs[j]? = some f) (ho : f.offset = j) (hc : P.cellsOf f.type = 1) (hl : j < cs.length) : ∃ n y, DataW.trod enc P W 0 (fun _ => true) held n f.type [cs.getD j default] = some y := by
  obtain ⟨xs, n, _, _, _, hxl, hf⟩ := DataW.trod_struct ht h
  have h1 := hf j f hj
  rw [ho, hc] at h1
  have hone : (cs.drop j).take 1 = [cs.getD j default] := by
    have h2 : cs.getD j default = cs[j] := by simp [List.getD_eq_getElem?_getD, List.getElem?_eq_getElem hl]
    rw [h2, List.drop_eq_getElem_cons hl]
    rfl
  rw [hone] at h1
  have hjl : j < fs.size := (Array.getElem?_eq_some_iff.1 hj).1
  exact ⟨n, _, h1.trans (List.getElem?_eq_getElem (show j < xs.length by omega))⟩
/-- a struct of four numbers, a row of truth values, a row of numbers -/
theorem gSix {t : TypeId} {f0 f1 f2 f3 f4 f5 : Field} {k0 k1 k2 k3 k5 : IntKind} {e4 e5 : TypeId} {v : Value} {d : DataW H} {p : List MemPlace} (hs : P.underlying t = some (.struct #[f0, f1, f2, f3, f4, f5]))
    (ho : f0.offset = 0 ∧ f1.offset = 1 ∧ f2.offset = 2 ∧ f3.offset = 3 ∧ f4.offset = 4 ∧ f5.offset = 5)
    (h0 : P.underlying f0.type = some (.int k0)) (h1 : P.underlying f1.type = some (.int k1)) (h2 : P.underlying f2.type = some (.int k2)) (h3 : P.underlying f3.type = some (.int k3))
    (h4 : P.underlying f4.type = some (.slice e4)) (h5 : P.underlying f5.type = some (.slice e5)) (g4 : P.underlying e4 = some .bool) (g5 : P.underlying e5 = some (.int k5))
    (hc : P.cellsOf f0.type = 1 ∧ P.cellsOf f1.type = 1 ∧ P.cellsOf f2.type = 1 ∧ P.cellsOf f3.type = 1 ∧ P.cellsOf f4.type = 1 ∧ P.cellsOf f5.type = 1) (c4 : P.cellsOf e4 = 1) (c5 : P.cellsOf e5 = 1) (hC : P.cellsOf t = 6)
    (hct : P.cellTypes P.depth t = some [f0.type, f1.type, f2.type, f3.type, f4.type, f5.type]) (hval : Value.okWide P W r b t v) (h : DataW.Trod enc P W 0 (fun _ => true) held t v d p) :
    ∃ (n0 n1 n2 n3 : Int) (B : List Bool) (R : List Int), GRel W noM (.agg [.int k0 n0, .int k1 n1, .int k2 n2, .int k3 n3, .roB B, .roI k5 R]) v ∧ (k0.min ≤ n0 ∧ n0 ≤ k0.max) ∧ (k1.min ≤ n1 ∧ n1 ≤ k1.max) ∧ (k2.min ≤ n2 ∧ n2 ≤ k2.max) ∧ (k3.min ≤ n3 ∧ n3 ≤ k3.max) ∧ ∀ n ∈ R, k5.min ≤ n ∧ n ≤ k5.max := by
  obtain ⟨cs, rfl, hsz⟩ := okWide_struct hs hval
  rw [hC] at hsz
  have hrow : Row.okWide P W r b t cs := by
    simp only [Value.okWide, hs] at hval
    obtain ⟨cs', h1, _, h3⟩ := hval
    cases h1
    exact h3
  obtain ⟨ts, hts, _, hcell⟩ := hrow
  rw [hct] at hts
  cases hts
  obtain ⟨fuel, hf⟩ := h
  have hf : DataW.trod enc P W 0 (fun _ => true) held fuel t cs.toList = some (d, p) := hf
  have hl : cs.toList.length = 6 := by simpa using hsz
  have hg : ∀ j, cs.toList.getD j default = cs.getD j default := fun j => by simp [List.getD_eq_getElem?_getD, Array.getD_eq_getD_getElem?]
  have hsome : ∀ j, j < 6 → cs[j]? = some (cs.getD j default) := fun j hj => by
    have : j < cs.size := by omega
    simp [Array.getD, this]
  obtain ⟨m0, y0, q0⟩ := gField hs hf 0 f0 rfl ho.1 hc.1 (by omega)
  obtain ⟨m1, y1, q1⟩ := gField hs hf 1 f1 rfl ho.2.1 hc.2.1 (by omega)
  obtain ⟨m2, y2, q2⟩ := gField hs hf 2 f2 rfl ho.2.2.1 hc.2.2.1 (by omega)
  obtain ⟨m3, y3, q3⟩ := gField hs hf 3 f3 rfl ho.2.2.2.1 hc.2.2.2.1 (by omega)
  obtain ⟨m4, y4, q4⟩ := gField hs hf 4 f4 rfl ho.2.2.2.2.1 hc.2.2.2.2.1 (by omega)
  obtain ⟨m5, y5, q5⟩ := gField hs hf 5 f5 rfl ho.2.2.2.2.2 hc.2.2.2.2.2 (by omega)
  rw [hg] at q0 q1 q2 q3 q4 q5
  obtain ⟨n0, r0, s0⟩ := gInt h0 q0
  obtain ⟨n1, r1, s1⟩ := gInt h1 q1
  obtain ⟨n2, r2, s2⟩ := gInt h2 q2
  obtain ⟨n3, r3, s3⟩ := gInt h3 q3
  obtain ⟨u4, i4, o4⟩ := hcell 4 _ (hsome 4 (by omega))
  obtain ⟨u5, i5, o5⟩ := hcell 5 _ (hsome 5 (by omega))
  cases i4
  cases i5
  obtain ⟨B, r4⟩ := gBools o4 h4 g4 c4 q4
  obtain ⟨R, r5, s5⟩ := gInts o5 h5 g5 c5 q5
  refine ⟨n0, n1, n2, n3, B, R, .agg _ cs hsz fun j hj => ?_, s0, s1, s2, s3, s5⟩
  match j, hj with
  | 0, _ => rw [r0]; exact .int _ _
  | 1, _ => rw [r1]; exact .int _ _
  | 2, _ => rw [r2]; exact .int _ _
  | 3, _ => rw [r3]; exact .int _ _
  | 4, _ => exact r4
  | 5, _ => exact r5
  | j + 6, hj => simp at hj; omega
/-- what a statement's walk needs, from a contract -/
theorem Ev.calls {f : Nat} {args : List AV} {Vs : Array Value} (h : Ev P f args (.bool true)) (hs : Vs.size = args.length) (hV : ∀ j, j < args.length → GRel W noM (args.getD j .undef) (Vs.getD j default)) :
    Calls P f Vs W fun e W' => e = .returned (.bool true) ∧ Below W.heap.size W W' := by
  obtain ⟨_, ht⟩ := h
  unfold Tr at ht
  have hR : Rep (fun _ => none) ⟨0, []⟩ W noM := ⟨fun _ _ => rfl, fun h c hg => (by cases hg), fun h h' c c' p p' hg => (by cases hg), fun b hb => False.elim hb⟩
  refine Calls.mono (ht.2 (fun _ => none) W noM Vs hR ⟨hs, fun j hj => .g _ _ (hV j hj)⟩) fun e W' he => ?_
  obtain ⟨V, ι', M', v, s', rfl, ⟨rfl, rfl⟩, h1, h2, h3⟩ := he
  obtain rfl := h1.bool_inv
  exact ⟨rfl, h3.os, h3.tape, h3.output, h3.size, fun k hk => h3.block k hk fun ⟨h, c, base, hg, _⟩ => by cases hg⟩
end
end Go.Ab
