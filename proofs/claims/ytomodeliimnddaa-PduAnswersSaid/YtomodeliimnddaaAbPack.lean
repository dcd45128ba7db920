/- Contracts: bits packed into bytes. -/
import Derived.Test.YtomodeliimnddaaAbUse
set_option linter.unusedVariables false
set_option linter.unusedSimpArgs false
namespace Go.Proofs.Ytomodeliimnddaa
open Go.Ab
def orBit (a : Int) (i : Nat) : Int := IntKind.u8.wrap (BitVec.ofInt 8 a ||| BitVec.ofInt 8 (IntKind.u8.wrap (1 * 2 ^ min (i % 8) 8))).toNat
def packN (l : List Bool) : Nat → List Int
  | 0 => List.replicate ((l.length + 7) / 8) 0
  | i + 1 => if l.getD i false = true then (packN l i).set (i / 8) (orBit ((packN l i).getD (i / 8) 0) i) else packN l i
theorem packN_length (l : List Bool) : ∀ i, (packN l i).length = (l.length + 7) / 8
  | 0 => by simp [packN]
  | i + 1 => by
    simp only [packN]
    split
    · simp [packN_length l i]
    · exact packN_length l i
theorem w64 {i : Nat} (h : i ≤ 1000000) : IntKind.i64.wrap (i : Int) = i := IntWalk.i64_in _ (by omega)
theorem q64 {i : Nat} (h : i ≤ 1000000) : IntKind.i64.wrap ((i : Int).tdiv 8) = ((i / 8 : Nat) : Int) := by
  show IntKind.i64.wrap ((i / 8 : Nat) : Int) = _
  exact w64 (by omega)
theorem r64' {i : Nat} : (i : Int).tmod 8 = ((i % 8 : Nat) : Int) := rfl
theorem s64 {i : Nat} (h : i < 1000000) : IntKind.i64.wrap ((i : Int) + 1) = ((i + 1 : Nat) : Int) := w64 (i := i + 1) (by omega)
/- rung/pdu.Pack -/
def a61 : ACode := (.seq (.reg [⟨(some 2), .mov (.c .nils), none, false⟩])
 (.seq (.reg [⟨(some 6), .mov (.t 0), none, false⟩, ⟨(some 7), .len false (.t 6), none, false⟩, ⟨(some 8), .bin .add .other (.t 7) (.c (.int .i64 7)), none, false⟩, ⟨(some 9), .bin .quo .other (.t 8) (.c (.int .i64 8)), none, false⟩, ⟨(some 10), .mkslice 1 1 (.int .u8) [(.int .u8 0)] (.t 9), none, false⟩, ⟨(some 3), .mov (.t 10), none, false⟩])
 (.seq (.seq (.reg [⟨(some 11), .mov (.t 0), none, false⟩, ⟨(some 12), .len false (.t 11), none, false⟩, ⟨(some 13), .mov (.c (.int .i64 0)), none, false⟩])
 (.block 0 (.loop (.seq (.reg [⟨(some 14), .bin .lss .other (.t 13) (.t 12), none, false⟩])
 (.seq (.cond (.t 14) .skip
 (.exit 0))
 (.seq (.block 1 (.seq (.reg [⟨(some 15), .mov (.t 13), none, false⟩, ⟨(some 16), .idx 1 none false (.t 11) (.t 13), none, false⟩, ⟨(some 17), .load false 1 (.t 16), none, false⟩, ⟨(some 4), .mov (.t 15), none, false⟩, ⟨(some 5), .mov (.t 17), none, false⟩])
 (.seq (.reg [⟨(some 18), .mov (.t 5), none, false⟩])
 (.cond (.t 18) (.reg [⟨(some 19), .mov (.t 3), none, false⟩, ⟨(some 20), .mov (.t 4), none, false⟩, ⟨(some 21), .bin .quo .other (.t 20) (.c (.int .i64 8)), none, false⟩, ⟨(some 22), .idx 1 none false (.t 19) (.t 21), none, false⟩, ⟨(some 23), .load false 1 (.t 22), none, false⟩, ⟨(some 24), .mov (.t 4), none, false⟩, ⟨(some 25), .bin .rem .other (.t 24) (.c (.int .i64 8)), none, false⟩, ⟨(some 26), .conv (.int .u64) (.t 25), none, false⟩, ⟨(some 27), .bin .shl .other (.c (.int .u8 1)) (.t 26), none, false⟩, ⟨(some 28), .bin .or .other (.t 23) (.t 27), none, false⟩, ⟨(some 29), .idx 1 none false (.t 19) (.t 21), none, false⟩, ⟨none, .store 1 (.t 29) (.t 28), none, false⟩])
 .skip))))
 (.reg [⟨(some 30), .bin .add .other (.t 13) (.c (.int .i64 1)), none, false⟩, ⟨(some 13), .mov (.t 30), none, false⟩])))))))
 (.seq (.reg [⟨(some 31), .mov (.t 3), none, false⟩, ⟨(some 2), .mov (.t 31), none, false⟩])
 .ret))))
def r61 : List ARes := [.t 2]
theorem c61 : compF Try.prog Try.f61 = some (a61, r61) := by kernel_rfl

theorem b61 : hasBody Try.prog 61 = true := by kernel_rfl
theorem g61 : Try.prog.funcs[61]? = some Try.f61 := by kernel_rfl

theorem pack_tr (l : List Bool) (hl : l.length ≤ 100000) : Tr Try.prog 61 [.roB l] ⟨0, []⟩ fun v s => v = .sl 1 0 0 ((l.length + 7) / 8) ∧ s = ⟨1, [(0, some (.rowI .u8 (packN l l.length)))]⟩ := by
  refine trOf g61 b61 c61 ?_
  conv => whnf
  have h0 : IntKind.i64.wrap ((IntKind.i64.wrap ((l.length : Int) + 7)).tdiv 8) = (((l.length + 7) / 8 : Nat) : Int) := by
    rw [show IntKind.i64.wrap ((l.length : Int) + 7) = ((l.length + 7 : Nat) : Int) from w64 (i := l.length + 7) (by omega)]
    exact q64 (by omega)
  refine condT (by rw [h0]; simp; omega) ?_
  conv => whnf
  refine loopI (α := {i : Nat // i ≤ l.length}) (fun i => [(3, .sl 1 0 0 ((l.length + 7) / 8)), (11, .roB l), (12, .int .i64 l.length), (13, .int .i64 i.1)]) (fun i => ⟨1, [(0, some (.rowI .u8 (packN l i.1)))]⟩) (fun i => l.length - i.1) ⟨0, Nat.zero_le _⟩
      ⟨[], rfl, rfl, rfl, ⟨⟨?_, rfl⟩, ⟨rfl, rfl⟩, ⟨rfl, rfl⟩, ⟨rfl, rfl⟩, trivial⟩, ⟨⟨trivial, rfl, ?_⟩, trivial⟩⟩ fun ⟨i, hi⟩ => ?_
  · show AV.sl 1 0 0 (IntKind.i64.wrap ((IntKind.i64.wrap ((l.length : Int) + 7)).tdiv 8)).toNat = AV.sl 1 0 0 ((l.length + 7) / 8)
    rw [h0]; rfl
  · show some (Chunk.rowI .u8 (List.replicate (IntKind.i64.wrap ((IntKind.i64.wrap ((l.length : Int) + 7)).tdiv 8)).toNat 0)) = some (Chunk.rowI .u8 (packN l 0))
    rw [h0]; rfl
  conv => whnf
  by_cases hlt : i < l.length
  · refine condY (by simpa using hlt) ?_
    conv => whnf
    refine condT (by simpa using hlt) ?_
    conv => whnf
    have hq := q64 (i := i) (by omega)
    refine condS (fun h => ?_) (fun h => ?_)
    · have hb : l.getD i false = true := h
      conv => whnf
      refine condT (by simp only [hq]; simp; omega) ?_
      conv => whnf
      refine condT (by simp only [hq, Chunk.ld]; simp [packN_length]; omega) ?_
      conv => whnf
      refine condT (by simp only [hq]; simp; omega) ?_
      conv => whnf
      refine condT (by show decide (0 + (IntKind.i64.wrap ((i : Int).tdiv 8)).toNat * 1 + 1 ≤ (packN l i).length) = true; simp only [hq, packN_length]; simp; omega) ?_
      conv => whnf
      refine ⟨⟨i + 1, hlt⟩, ⟨[], rfl, rfl, rfl, ⟨⟨rfl, rfl⟩, ⟨rfl, rfl⟩, ⟨rfl, rfl⟩, ⟨?_, rfl⟩, trivial⟩, ⟨⟨trivial, rfl, ?_⟩, trivial⟩⟩, by show l.length - (i + 1) < l.length - i; omega⟩
      · show AV.int .i64 (IntKind.i64.wrap ((i : Int) + 1)) = AV.int .i64 ((i + 1 : Nat) : Int)
        rw [s64 (by omega)]
      · refine congrArg (fun r => some (Chunk.rowI .u8 r)) ?_
        show (packN l i).set (0 + (IntKind.i64.wrap ((i : Int).tdiv 8)).toNat * 1) (IntKind.u8.wrap (BitVec.ofInt 8 ((packN l i).getD (0 + (IntKind.i64.wrap ((i : Int).tdiv 8)).toNat * 1) 0) ||| BitVec.ofInt 8 (IntKind.u8.wrap (1 * 2 ^ (min (IntKind.u64.wrap ((i : Int).tmod 8)).toNat 8)))).toNat) = packN l (i + 1)
        have hu : IntKind.u64.wrap ((i : Int).tmod 8) = ((i % 8 : Nat) : Int) := by
          rw [r64']
          exact Int.emod_eq_of_lt (by omega) (by show ((i % 8 : Nat) : Int) < 18446744073709551616; omega)
        simp only [packN, hb, if_true, hq, hu, Int.toNat_natCast, Nat.zero_add, Nat.mul_one, orBit]
    · have hb : l.getD i false = false := h
      conv => whnf
      refine ⟨⟨i + 1, hlt⟩, ⟨[], rfl, rfl, rfl, ⟨⟨rfl, rfl⟩, ⟨rfl, rfl⟩, ⟨rfl, rfl⟩, ⟨?_, rfl⟩, trivial⟩, ⟨⟨trivial, rfl, ?_⟩, trivial⟩⟩, by show l.length - (i + 1) < l.length - i; omega⟩
      · show AV.int .i64 (IntKind.i64.wrap ((i : Int) + 1)) = AV.int .i64 ((i + 1 : Nat) : Int)
        rw [s64 (by omega)]
      · refine congrArg (fun r => some (Chunk.rowI .u8 r)) ?_
        show packN l i = packN l (i + 1)
        simp only [packN, hb, Bool.false_eq_true, if_false]
  · refine condN (by simpa using hlt) ?_
    conv => whnf
    have : i = l.length := by omega
    subst this
    exact ⟨rfl, rfl⟩
/- rung/rungref3.Pack -/
def a62 : ACode := (.seq (.reg [⟨(some 2), .mov (.c .nils), none, false⟩])
 (.seq (.reg [⟨(some 5), .mov (.t 0), none, false⟩, ⟨(some 6), .len false (.t 5), none, false⟩, ⟨(some 7), .bin .add .other (.t 6) (.c (.int .i64 7)), none, false⟩, ⟨(some 8), .bin .quo .other (.t 7) (.c (.int .i64 8)), none, false⟩, ⟨(some 9), .mkslice 1 1 (.int .u8) [(.int .u8 0)] (.t 8), none, false⟩, ⟨(some 3), .mov (.t 9), none, false⟩])
 (.seq (.seq (.reg [⟨(some 4), .mov (.c (.int .i64 0)), none, false⟩])
 (.block 0 (.loop (.seq (.seq (.reg [⟨(some 10), .mov (.t 4), none, false⟩, ⟨(some 11), .mov (.t 0), none, false⟩, ⟨(some 12), .len false (.t 11), none, false⟩, ⟨(some 13), .bin .lss .other (.t 10) (.t 12), none, false⟩])
 (.cond (.t 13) .skip
 (.exit 0)))
 (.seq (.block 1 (.seq (.reg [⟨(some 16), .mov (.t 0), none, false⟩, ⟨(some 17), .mov (.t 4), none, false⟩, ⟨(some 18), .idx 1 none false (.t 16) (.t 17), none, false⟩, ⟨(some 19), .load false 1 (.t 18), none, false⟩])
 (.cond (.t 19) (.draw [⟨0, ⟨(some 20), .mov (.t 3), none, false⟩, false, [], []⟩, ⟨1, ⟨(some 21), .mov (.t 4), none, false⟩, false, [], []⟩, ⟨2, ⟨(some 22), .bin .quo .other (.t 21) (.c (.int .i64 8)), none, false⟩, false, [], []⟩, ⟨3, ⟨(some 23), .mov (.t 3), none, false⟩, false, [], []⟩, ⟨4, ⟨(some 24), .mov (.t 4), none, false⟩, false, [], []⟩, ⟨5, ⟨(some 25), .bin .quo .other (.t 24) (.c (.int .i64 8)), none, false⟩, false, [], []⟩, ⟨6, ⟨(some 26), .idx 1 none false (.t 23) (.t 25), none, false⟩, false, [], []⟩, ⟨7, ⟨(some 27), .load false 1 (.t 26), none, false⟩, false, [], []⟩, ⟨8, ⟨(some 28), .mov (.t 4), none, false⟩, false, [], []⟩, ⟨9, ⟨(some 29), .bin .rem .other (.t 28) (.c (.int .i64 8)), none, false⟩, false, [], []⟩, ⟨10, ⟨(some 30), .bin .shl .other (.c (.int .u8 1)) (.t 29), none, false⟩, false, [], []⟩, ⟨11, ⟨(some 31), .bin .or .other (.t 27) (.t 30), none, false⟩, false, [], []⟩, ⟨12, ⟨(some 32), .idx 1 none false (.t 20) (.t 22), none, false⟩, false, [], []⟩, ⟨13, ⟨none, .store 1 (.t 32) (.t 31), none, false⟩, true, [], []⟩])
 .skip)))
 (.reg [⟨(some 14), .mov (.t 4), none, false⟩, ⟨(some 15), .bin .add .other (.t 14) (.c (.int .i64 1)), none, false⟩, ⟨(some 4), .mov (.t 15), none, false⟩]))))))
 (.seq (.reg [⟨(some 33), .mov (.t 3), none, false⟩, ⟨(some 2), .mov (.t 33), none, false⟩])
 .ret))))
def r62 : List ARes := [.t 2]
theorem c62 : compF Try.prog Try.f62 = some (a62, r62) := by kernel_rfl

theorem b62 : hasBody Try.prog 62 = true := by kernel_rfl
theorem g62 : Try.prog.funcs[62]? = some Try.f62 := by kernel_rfl

theorem rpack_tr (l : List Bool) (hl : l.length ≤ 100000) : Tr Try.prog 62 [.roB l] ⟨0, []⟩ fun v s => v = .sl 1 0 0 ((l.length + 7) / 8) ∧ s = ⟨1, [(0, some (.rowI .u8 (packN l l.length)))]⟩ := by
  refine trOf g62 b62 c62 ?_
  conv => whnf
  have h0 : IntKind.i64.wrap ((IntKind.i64.wrap ((l.length : Int) + 7)).tdiv 8) = (((l.length + 7) / 8 : Nat) : Int) := by
    rw [show IntKind.i64.wrap ((l.length : Int) + 7) = ((l.length + 7 : Nat) : Int) from w64 (i := l.length + 7) (by omega)]
    exact q64 (by omega)
  refine condT (by rw [h0]; simp; omega) ?_
  conv => whnf
  refine loopI (α := {i : Nat // i ≤ l.length}) (fun i => [(0, .roB l), (3, .sl 1 0 0 ((l.length + 7) / 8)), (4, .int .i64 i.1)]) (fun i => ⟨1, [(0, some (.rowI .u8 (packN l i.1)))]⟩) (fun i => l.length - i.1) ⟨0, Nat.zero_le _⟩
      ⟨[], rfl, rfl, rfl, ⟨⟨rfl, rfl⟩, ⟨?_, rfl⟩, ⟨rfl, rfl⟩, trivial⟩, ⟨⟨trivial, rfl, ?_⟩, trivial⟩⟩ fun ⟨i, hi⟩ => ?_
  · show AV.sl 1 0 0 (IntKind.i64.wrap ((IntKind.i64.wrap ((l.length : Int) + 7)).tdiv 8)).toNat = AV.sl 1 0 0 ((l.length + 7) / 8)
    rw [h0]; rfl
  · show some (Chunk.rowI .u8 (List.replicate (IntKind.i64.wrap ((IntKind.i64.wrap ((l.length : Int) + 7)).tdiv 8)).toNat 0)) = some (Chunk.rowI .u8 (packN l 0))
    rw [h0]; rfl
  conv => whnf
  by_cases hlt : i < l.length
  · refine condY (by simpa using hlt) ?_
    conv => whnf
    refine condT (by simpa using hlt) ?_
    conv => whnf
    have hq := q64 (i := i) (by omega)
    refine condS (fun h => ?_) (fun h => ?_)
    · have hb : l.getD i false = true := h
      conv => whnf
      refine condT (by simp only [hq]; simp; omega) ?_
      conv => whnf
      refine condT (by simp only [hq, Chunk.ld]; simp [packN_length]; omega) ?_
      conv => whnf
      refine condT (by simp only [hq]; simp; omega) ?_
      conv => whnf
      refine condT (by show decide (0 + (IntKind.i64.wrap ((i : Int).tdiv 8)).toNat * 1 + 1 ≤ (packN l i).length) = true; simp only [hq, packN_length]; simp; omega) ?_
      conv => whnf
      refine ⟨⟨i + 1, hlt⟩, ⟨[], rfl, rfl, rfl, ⟨⟨rfl, rfl⟩, ⟨rfl, rfl⟩, ⟨?_, rfl⟩, trivial⟩, ⟨⟨trivial, rfl, ?_⟩, trivial⟩⟩, by show l.length - (i + 1) < l.length - i; omega⟩
      · show AV.int .i64 (IntKind.i64.wrap ((i : Int) + 1)) = AV.int .i64 ((i + 1 : Nat) : Int)
        rw [s64 (by omega)]
      · refine congrArg (fun r => some (Chunk.rowI .u8 r)) ?_
        show (packN l i).set (0 + (IntKind.i64.wrap ((i : Int).tdiv 8)).toNat * 1) (IntKind.u8.wrap (BitVec.ofInt 8 ((packN l i).getD (0 + (IntKind.i64.wrap ((i : Int).tdiv 8)).toNat * 1) 0) ||| BitVec.ofInt 8 (IntKind.u8.wrap (1 * 2 ^ (min ((i : Int).tmod 8).toNat 8)))).toNat) = packN l (i + 1)
        simp only [packN, hb, if_true, hq, r64', Int.toNat_natCast, Nat.zero_add, Nat.mul_one, orBit]
    · have hb : l.getD i false = false := h
      conv => whnf
      refine ⟨⟨i + 1, hlt⟩, ⟨[], rfl, rfl, rfl, ⟨⟨rfl, rfl⟩, ⟨rfl, rfl⟩, ⟨?_, rfl⟩, trivial⟩, ⟨⟨trivial, rfl, ?_⟩, trivial⟩⟩, by show l.length - (i + 1) < l.length - i; omega⟩
      · show AV.int .i64 (IntKind.i64.wrap ((i : Int) + 1)) = AV.int .i64 ((i + 1 : Nat) : Int)
        rw [s64 (by omega)]
      · refine congrArg (fun r => some (Chunk.rowI .u8 r)) ?_
        show packN l i = packN l (i + 1)
        simp only [packN, hb, Bool.false_eq_true, if_false]
  · refine condN (by simpa using hlt) ?_
    conv => whnf
    have : i = l.length := by omega
    subst this
    exact ⟨rfl, rfl⟩
end Go.Proofs.Ytomodeliimnddaa
