/- Contracts: bits taken out of bytes. -/
import Derived.Test.YtomodeliimnddaaAbPack
set_option linter.unusedVariables false
set_option linter.unusedSimpArgs false
namespace Go.Proofs.Ytomodeliimnddaa
open Go.Ab
def bitE (a : Int) (i : Nat) : Bool := IntKind.u8.wrap (BitVec.ofInt 8 (a.fdiv (2 ^ min (i % 8) 8)) &&& BitVec.ofInt 8 1).toNat == 1
def bitAt (l : List Int) (i : Nat) : Bool := decide (i / 8 < l.length) && bitE (l.getD (i / 8) 0) i
def bitsN (l : List Int) (k : Nat) : Nat → List Bool
  | 0 => List.replicate k false
  | i + 1 => (bitsN l k i).set i (bitAt l i)
theorem bitsN_length (l : List Int) (k : Nat) : ∀ i, (bitsN l k i).length = k
  | 0 => by simp [bitsN]
  | i + 1 => by simp [bitsN, bitsN_length l k i]
def bitsK (n : Int) : Nat := (if 2000 < (if 0 > n then 0 else n) then 2000 else (if 0 > n then 0 else n)).toNat
/- rung/pdu.Bits -/
def a64 : ACode := (.seq (.reg [⟨(some 4), .mov (.c .nils), none, false⟩])
 (.seq (.reg [⟨(some 7), .mov (.t 1), none, false⟩, ⟨(some 8), .mx (.t 7) (.c (.int .i64 0)), none, false⟩, ⟨(some 9), .mn (.t 8) (.c (.int .i64 2000)), none, false⟩, ⟨(some 10), .mkslice 1 1 .bool [(.bool false)] (.t 9), none, false⟩, ⟨(some 5), .mov (.t 10), none, false⟩])
 (.seq (.seq (.reg [⟨(some 11), .mov (.t 5), none, false⟩, ⟨(some 12), .len false (.t 11), none, false⟩, ⟨(some 13), .mov (.c (.int .i64 0)), none, false⟩])
 (.block 0 (.loop (.seq (.reg [⟨(some 14), .bin .lss .other (.t 13) (.t 12), none, false⟩])
 (.seq (.cond (.t 14) .skip
 (.exit 0))
 (.seq (.block 1 (.seq (.reg [⟨(some 15), .mov (.t 13), none, false⟩, ⟨(some 6), .mov (.t 15), none, false⟩])
 (.reg [⟨(some 16), .mov (.t 5), none, false⟩, ⟨(some 17), .mov (.t 6), none, false⟩, ⟨(some 18), .mov (.t 6), none, false⟩, ⟨(some 19), .bin .quo .other (.t 18) (.c (.int .i64 8)), none, false⟩, ⟨(some 20), .mov (.t 0), none, false⟩, ⟨(some 21), .len false (.t 20), none, false⟩, ⟨(some 22), .bin .lss .other (.t 19) (.t 21), none, false⟩, ⟨(some 23), .mov (.t 22), none, true⟩, ⟨(some 24), .mov (.t 0), (some (23, true)), false⟩, ⟨(some 25), .mov (.t 6), (some (23, true)), false⟩, ⟨(some 26), .bin .quo .other (.t 25) (.c (.int .i64 8)), (some (23, true)), false⟩, ⟨(some 27), .idx 1 none false (.t 24) (.t 26), (some (23, true)), false⟩, ⟨(some 28), .load false 1 (.t 27), (some (23, true)), false⟩, ⟨(some 29), .mov (.t 6), (some (23, true)), false⟩, ⟨(some 30), .bin .rem .other (.t 29) (.c (.int .i64 8)), (some (23, true)), false⟩, ⟨(some 31), .conv (.int .u64) (.t 30), (some (23, true)), false⟩, ⟨(some 32), .bin .shr .other (.t 28) (.t 31), (some (23, true)), false⟩, ⟨(some 33), .bin .and .other (.t 32) (.c (.int .u8 1)), (some (23, true)), false⟩, ⟨(some 34), .bin .eql .other (.t 33) (.c (.int .u8 1)), (some (23, true)), false⟩, ⟨(some 35), .pick (.t 23) (.t 34) (.c (.bool false)), none, false⟩, ⟨(some 36), .idx 1 none false (.t 16) (.t 17), none, false⟩, ⟨none, .store 1 (.t 36) (.t 35), none, false⟩])))
 (.reg [⟨(some 37), .bin .add .other (.t 13) (.c (.int .i64 1)), none, false⟩, ⟨(some 13), .mov (.t 37), none, false⟩])))))))
 (.seq (.reg [⟨(some 38), .mov (.t 5), none, false⟩, ⟨(some 4), .mov (.t 38), none, false⟩])
 .ret))))
def r64 : List ARes := [.t 4]
theorem c64 : compF Try.prog Try.f64 = some (a64, r64) := by kernel_rfl

theorem b64 : hasBody Try.prog 64 = true := by kernel_rfl
theorem g64 : Try.prog.funcs[64]? = some Try.f64 := by kernel_rfl

theorem bits_tr (l : List Int) (n : Int) (hl : l.length ≤ 100000) : Tr Try.prog 64 [.roI .u8 l, .int .i64 n] ⟨0, []⟩ fun v s => v = .sl 1 0 0 (bitsK n) ∧ s = ⟨1, [(0, some (.rowB (bitsN l (bitsK n) (bitsK n))))]⟩ := by
  refine trOf g64 b64 c64 ?_
  conv => whnf
  have hkN : (if 2000 < (if 0 > n then 0 else n) then 2000 else (if 0 > n then 0 else n)) = ((bitsK n : Nat) : Int) := by
    unfold bitsK; split <;> split <;> omega
  have hk2 : bitsK n ≤ 2000 := by unfold bitsK; split <;> split <;> omega
  refine condT (by simp only [hkN]; simp; omega) ?_
  conv => whnf
  refine loopI (α := {i : Nat // i ≤ bitsK n}) (fun i => [(0, .roI .u8 l), (5, .sl 1 0 0 (bitsK n)), (12, .int .i64 (bitsK n)), (13, .int .i64 i.1)]) (fun i => ⟨1, [(0, some (.rowB (bitsN l (bitsK n) i.1)))]⟩) (fun i => bitsK n - i.1) ⟨0, Nat.zero_le _⟩
      ⟨[], rfl, rfl, rfl, ⟨⟨rfl, rfl⟩, ⟨rfl, rfl⟩, ⟨rfl, rfl⟩, ⟨rfl, rfl⟩, trivial⟩, ⟨⟨trivial, rfl, rfl⟩, trivial⟩⟩ fun ⟨i, hi⟩ => ?_
  conv => whnf
  by_cases hlt : i < bitsK n
  · have hq := q64 (i := i) (by omega)
    have hu : IntKind.u64.wrap ((i : Int).tmod 8) = ((i % 8 : Nat) : Int) := by
      rw [r64']
      exact Int.emod_eq_of_lt (by omega) (by show ((i % 8 : Nat) : Int) < 18446744073709551616; omega)
    refine condY (by simpa using hlt) ?_
    conv => whnf
    refine condF (fun h => ?_) (fun h => ?_)
    · have hb : bitAt l i = false := by
        have h' : ¬ (IntKind.i64.wrap ((i : Int).tdiv 8) < (l.length : Int)) := of_decide_eq_false h
        rw [hq] at h'
        have h'' : ¬ (i / 8 < l.length) := by omega
        simp [bitAt, h'']
      conv => whnf
      refine condT (by simp; omega) ?_
      conv => whnf
      refine condT (by show decide (0 + i * 1 + 1 ≤ (bitsN l (bitsK n) i).length) = true; simp [bitsN_length]; omega) ?_
      conv => whnf
      refine ⟨⟨i + 1, hlt⟩, ⟨[], rfl, rfl, rfl, ⟨⟨rfl, rfl⟩, ⟨rfl, rfl⟩, ⟨rfl, rfl⟩, ⟨?_, rfl⟩, trivial⟩, ⟨⟨trivial, rfl, ?_⟩, trivial⟩⟩, by show bitsK n - (i + 1) < bitsK n - i; omega⟩
      · show AV.int .i64 (IntKind.i64.wrap ((i : Int) + 1)) = AV.int .i64 ((i + 1 : Nat) : Int)
        rw [s64 (by omega)]
      · show some (Chunk.rowB ((bitsN l (bitsK n) i).set (0 + i * 1) false)) = some (Chunk.rowB (bitsN l (bitsK n) (i + 1)))
        simp only [bitsN, hb, Nat.zero_add, Nat.mul_one]
    · have h' : IntKind.i64.wrap ((i : Int).tdiv 8) < (l.length : Int) := of_decide_eq_true h
      have hl8 : i / 8 < l.length := by rw [hq] at h'; omega
      conv => whnf
      refine condT (by simp only [hq]; simp; omega) ?_
      conv => whnf
      refine condT (by simp; omega) ?_
      conv => whnf
      refine condT (by show decide (0 + i * 1 + 1 ≤ (bitsN l (bitsK n) i).length) = true; simp [bitsN_length]; omega) ?_
      conv => whnf
      refine ⟨⟨i + 1, hlt⟩, ⟨[], rfl, rfl, rfl, ⟨⟨rfl, rfl⟩, ⟨rfl, rfl⟩, ⟨rfl, rfl⟩, ⟨?_, rfl⟩, trivial⟩, ⟨⟨trivial, rfl, ?_⟩, trivial⟩⟩, by show bitsK n - (i + 1) < bitsK n - i; omega⟩
      · show AV.int .i64 (IntKind.i64.wrap ((i : Int) + 1)) = AV.int .i64 ((i + 1 : Nat) : Int)
        rw [s64 (by omega)]
      · show some (Chunk.rowB ((bitsN l (bitsK n) i).set (0 + i * 1) (IntKind.u8.wrap (BitVec.ofInt 8 ((l.getD (IntKind.i64.wrap ((i : Int).tdiv 8)).toNat 0).fdiv (2 ^ min (IntKind.u64.wrap ((i : Int).tmod 8)).toNat 8)) &&& BitVec.ofInt 8 1).toNat == 1))) = some (Chunk.rowB (bitsN l (bitsK n) (i + 1)))
        simp only [bitsN, bitAt, bitE, hl8, decide_true, Bool.true_and, hq, hu, Int.toNat_natCast, Nat.zero_add, Nat.mul_one]
  · refine condN (by simpa using hlt) ?_
    conv => whnf
    have : i = bitsK n := by omega
    subst this
    exact ⟨rfl, rfl⟩

def bitsA (l : List Int) : Nat → List Bool
  | 0 => []
  | i + 1 => bitsA l i ++ [bitAt l i]
theorem bitsA_length (l : List Int) : ∀ i, (bitsA l i).length = i
  | 0 => rfl
  | i + 1 => by simp [bitsA, bitsA_length l i]
theorem bitsN_eq (l : List Int) (k : Nat) : ∀ i, i ≤ k → bitsN l k i = bitsA l i ++ List.replicate (k - i) false
  | 0, _ => by simp [bitsN, bitsA]
  | i + 1, h => by
    rw [bitsN, bitsN_eq l k i (by omega), bitsA, show k - i = (k - (i + 1)) + 1 by omega, List.replicate_succ, List.set_append]
    simp [bitsA_length]
theorem bitsN_all (l : List Int) (k : Nat) : bitsN l k k = bitsA l k := by rw [bitsN_eq l k k (Nat.le_refl _)]; simp
/- rung/rungref3.Bits -/
def a67 : ACode := (.seq (.reg [⟨(some 4), .mov (.c .nils), none, false⟩])
 (.seq (.reg [⟨(some 5), .mov (.c .nils), none, false⟩])
 (.seq (.seq (.reg [⟨(some 6), .mov (.c (.int .i64 0)), none, false⟩])
 (.block 0 (.loop (.seq (.seq (.reg [⟨(some 7), .mov (.t 6), none, false⟩, ⟨(some 8), .mov (.t 1), none, false⟩, ⟨(some 9), .mn (.t 8) (.c (.int .i64 2000)), none, false⟩, ⟨(some 10), .bin .lss .other (.t 7) (.t 9), none, false⟩])
 (.cond (.t 10) .skip
 (.exit 0)))
 (.seq (.block 1 (.reg [⟨(some 13), .mov (.t 5), none, false⟩, ⟨(some 14), .mov (.t 6), none, false⟩, ⟨(some 15), .bin .quo .other (.t 14) (.c (.int .i64 8)), none, false⟩, ⟨(some 16), .mov (.t 0), none, false⟩, ⟨(some 17), .len false (.t 16), none, false⟩, ⟨(some 18), .bin .lss .other (.t 15) (.t 17), none, false⟩, ⟨(some 19), .mov (.t 18), none, true⟩, ⟨(some 20), .mov (.t 0), (some (19, true)), false⟩, ⟨(some 21), .mov (.t 6), (some (19, true)), false⟩, ⟨(some 22), .bin .quo .other (.t 21) (.c (.int .i64 8)), (some (19, true)), false⟩, ⟨(some 23), .idx 1 none false (.t 20) (.t 22), (some (19, true)), false⟩, ⟨(some 24), .load false 1 (.t 23), (some (19, true)), false⟩, ⟨(some 25), .mov (.t 6), (some (19, true)), false⟩, ⟨(some 26), .bin .rem .other (.t 25) (.c (.int .i64 8)), (some (19, true)), false⟩, ⟨(some 27), .bin .shr .other (.t 24) (.t 26), (some (19, true)), false⟩, ⟨(some 28), .bin .and .other (.t 27) (.c (.int .u8 1)), (some (19, true)), false⟩, ⟨(some 29), .bin .eql .other (.t 28) (.c (.int .u8 1)), (some (19, true)), false⟩, ⟨(some 30), .pick (.t 19) (.t 29) (.c (.bool false)), none, false⟩, ⟨(some 31), .bslice 1 .bool [(.bool false)] [(0, 1, (.t 30))] 1, none, false⟩, ⟨(some 32), .app 1 1 (.t 13) (.t 31), none, false⟩, ⟨(some 5), .mov (.t 32), none, false⟩]))
 (.reg [⟨(some 11), .mov (.t 6), none, false⟩, ⟨(some 12), .bin .add .other (.t 11) (.c (.int .i64 1)), none, false⟩, ⟨(some 6), .mov (.t 12), none, false⟩]))))))
 (.seq (.reg [⟨(some 33), .mov (.t 5), none, false⟩, ⟨(some 4), .mov (.t 33), none, false⟩])
 .ret))))
def r67 : List ARes := [.t 4]
theorem c67 : compF Try.prog Try.f67 = some (a67, r67) := by kernel_rfl

theorem b67 : hasBody Try.prog 67 = true := by kernel_rfl
theorem g67 : Try.prog.funcs[67]? = some Try.f67 := by kernel_rfl

theorem rbits_tr (l : List Int) (n : Int) (hl : l.length ≤ 100000) : Tr Try.prog 67 [.roI .u8 l, .int .i64 n] ⟨0, []⟩ fun v s => v = .sl 1 0 0 (bitsK n) ∧ s = ⟨1, [(0, some (.rowB (bitsA l (bitsK n))))]⟩ := by
  have hk2 : bitsK n ≤ 2000 := by unfold bitsK; split <;> split <;> omega
  have hc : ∀ i : Nat, i ≤ bitsK n → ((i : Int) < (if 2000 < n then 2000 else n) ↔ i < bitsK n) := by
    intro i hi
    unfold bitsK at *
    split <;> split <;> (try split) <;> omega
  refine trOf g67 b67 c67 ?_
  conv => whnf
  refine loopI (α := {i : Nat // i ≤ bitsK n}) (fun i => [(0, .roI .u8 l), (1, .int .i64 n), (5, .sl 1 0 0 i.1), (6, .int .i64 i.1)]) (fun i => ⟨1, [(0, some (.rowB (bitsA l i.1)))]⟩) (fun i => bitsK n - i.1) ⟨0, Nat.zero_le _⟩
      ⟨[(0, none)], rfl, rfl, rfl, ⟨⟨rfl, rfl⟩, ⟨rfl, rfl⟩, ⟨rfl, rfl⟩, ⟨rfl, rfl⟩, trivial⟩, ⟨⟨trivial, rfl, rfl⟩, trivial⟩⟩ fun ⟨i, hi⟩ => ?_
  conv => whnf
  by_cases hlt : i < bitsK n
  · have hq := q64 (i := i) (by omega)
    refine condY (decide_eq_true ((hc i hi).2 hlt)) ?_
    conv => whnf
    refine condF (fun h => ?_) (fun h => ?_)
    · have hb : bitAt l i = false := by
        have h' : ¬ (IntKind.i64.wrap ((i : Int).tdiv 8) < (l.length : Int)) := of_decide_eq_false h
        rw [hq] at h'
        have h'' : ¬ (i / 8 < l.length) := by omega
        simp [bitAt, h'']
      conv => whnf
      refine condT (by simp [bitsA_length]; omega) ?_
      conv => whnf
      refine ⟨⟨i + 1, hlt⟩, ⟨[(0, some 2)], rfl, rfl, rfl, ⟨⟨rfl, rfl⟩, ⟨rfl, rfl⟩, ⟨rfl, rfl⟩, ⟨?_, rfl⟩, trivial⟩, ⟨⟨trivial, rfl, ?_⟩, trivial⟩⟩, by show bitsK n - (i + 1) < bitsK n - i; omega⟩
      · show AV.int .i64 (IntKind.i64.wrap ((i : Int) + 1)) = AV.int .i64 ((i + 1 : Nat) : Int)
        rw [s64 (by omega)]
      · show some (Chunk.rowB (((bitsA l i).drop 0).take i ++ [false])) = some (Chunk.rowB (bitsA l (i + 1)))
        rw [List.drop_zero, List.take_of_length_le (by rw [bitsA_length]; exact Nat.le_refl _)]
        simp only [bitsA, hb]
    · have h' : IntKind.i64.wrap ((i : Int).tdiv 8) < (l.length : Int) := of_decide_eq_true h
      have hl8 : i / 8 < l.length := by rw [hq] at h'; omega
      conv => whnf
      refine condT (by simp only [hq]; simp; omega) ?_
      conv => whnf
      refine condT (by simp [bitsA_length]; omega) ?_
      conv => whnf
      refine ⟨⟨i + 1, hlt⟩, ⟨[(0, some 2)], rfl, rfl, rfl, ⟨⟨rfl, rfl⟩, ⟨rfl, rfl⟩, ⟨rfl, rfl⟩, ⟨?_, rfl⟩, trivial⟩, ⟨⟨trivial, rfl, ?_⟩, trivial⟩⟩, by show bitsK n - (i + 1) < bitsK n - i; omega⟩
      · show AV.int .i64 (IntKind.i64.wrap ((i : Int) + 1)) = AV.int .i64 ((i + 1 : Nat) : Int)
        rw [s64 (by omega)]
      · show some (Chunk.rowB (((bitsA l i).drop 0).take i ++ [IntKind.u8.wrap (BitVec.ofInt 8 ((l.getD (IntKind.i64.wrap ((i : Int).tdiv 8)).toNat 0).fdiv (2 ^ min ((i : Int).tmod 8).toNat 8)) &&& BitVec.ofInt 8 1).toNat == 1])) = some (Chunk.rowB (bitsA l (i + 1)))
        rw [List.drop_zero, List.take_of_length_le (by rw [bitsA_length]; exact Nat.le_refl _)]
        simp only [bitsA, bitAt, bitE, hl8, decide_true, Bool.true_and, hq, r64', Int.toNat_natCast]
  · refine condN (decide_eq_false fun h => hlt ((hc i hi).1 h)) ?_
    conv => whnf
    have : i = bitsK n := by omega
    subst this
    exact ⟨rfl, rfl⟩
end Go.Proofs.Ytomodeliimnddaa
