/- Contracts: pdu, the small ones. -/
import Derived.Test.YtomodeliimnddaaAbUse
set_option linter.unusedVariables false
set_option linter.unusedSimpArgs false
namespace Go.Proofs.Ytomodeliimnddaa
open Go.Ab
/- rung/pdu.two -/
def a146 : ACode := (.seq (.reg [⟨(some 4), .mov (.c .nils), none, false⟩])
 (.seq (.reg [⟨(some 5), .mov (.t 0), none, false⟩, ⟨(some 6), .mov (.t 1), none, false⟩, ⟨(some 7), .bin .shr .other (.t 6) (.c (.int .u64 8)), none, false⟩, ⟨(some 8), .conv (.int .u8) (.t 7), none, false⟩, ⟨(some 9), .mov (.t 1), none, false⟩, ⟨(some 10), .conv (.int .u8) (.t 9), none, false⟩, ⟨(some 11), .bslice 1 (.int .u8) [(.int .u8 0), (.int .u8 0)] [(0, 1, (.t 8)), (1, 1, (.t 10))] 2, none, false⟩, ⟨(some 12), .app 1 1 (.t 5) (.t 11), none, false⟩, ⟨(some 4), .mov (.t 12), none, false⟩])
 .ret))
def r146 : List ARes := [.t 4]
theorem c146 : compF Try.prog Try.f146 = some (a146, r146) := by kernel_rfl

/- rung/pdu.regs -/
def a149 : ACode := (.seq (.reg [⟨(some 4), .mov (.c .nils), none, false⟩])
 (.seq (.seq (.reg [⟨(some 7), .mov (.t 1), none, false⟩, ⟨(some 8), .len false (.t 7), none, false⟩, ⟨(some 9), .mov (.c (.int .i64 0)), none, false⟩])
 (.block 0 (.loop (.seq (.reg [⟨(some 10), .bin .lss .other (.t 9) (.t 8), none, false⟩])
 (.seq (.cond (.t 10) .skip
 (.exit 0))
 (.seq (.block 1 (.seq (.reg [⟨(some 11), .idx 1 none false (.t 7) (.t 9), none, false⟩, ⟨(some 12), .load false 1 (.t 11), none, false⟩, ⟨(some 6), .mov (.t 12), none, false⟩])
 (.reg [⟨(some 13), .mov (.t 0), none, false⟩, ⟨(some 14), .mov (.t 6), none, false⟩, ⟨(some 15), .call 146 [(.t 13), (.t 14)], none, false⟩, ⟨(some 0), .mov (.t 15), none, false⟩])))
 (.reg [⟨(some 16), .bin .add .other (.t 9) (.c (.int .i64 1)), none, false⟩, ⟨(some 9), .mov (.t 16), none, false⟩])))))))
 (.seq (.reg [⟨(some 17), .mov (.t 0), none, false⟩, ⟨(some 4), .mov (.t 17), none, false⟩])
 .ret)))
def r149 : List ARes := [.t 4]
theorem c149 : compF Try.prog Try.f149 = some (a149, r149) := by kernel_rfl

theorem b146 : hasBody Try.prog 146 = true := by kernel_rfl
theorem g146 : Try.prog.funcs[146]? = some Try.f146 := by kernel_rfl
def hi8 (x : Int) : Int := IntKind.u8.wrap (x.fdiv (2 ^ 8))
def two8 (x : Int) : List Int := [hi8 x, IntKind.u8.wrap x]
theorem two_tr (l : List Int) (x : Int) (hl : l.length ≤ 100000) : Tr Try.prog 146 [.sl 1 0 0 l.length, .int .u16 x] ⟨1, [(0, some (.rowI .u8 l))]⟩ fun v s => v = .sl 1 1 0 (l.length + 2) ∧ s = ⟨2, [(1, some (.rowI .u8 (l ++ two8 x)))]⟩ := by
  refine Tr.norm (K := fun v s => v = .sl 1 2 0 (l.length + 2) ∧ s = ⟨3, [(2, some (.rowI .u8 (l ++ two8 x))), (0, none), (1, some (.rowI .u8 (two8 x))), (0, some (.rowI .u8 l))]⟩) ?_ fun v s ⟨hv, hs⟩ => ?_
  · refine trOf g146 b146 c146 ?_
    conv => whnf
    refine condT (by simp; omega) ?_
    conv => whnf
    refine ⟨rfl, ?_⟩
    simp [two8, hi8]
    rfl
  · subst hv; subst hs
    refine ⟨_, _, ?_, rfl, rfl⟩
    exact ⟨[(1, some 2)], rfl, rfl, rfl, ⟨⟨rfl, rfl⟩, trivial⟩, ⟨⟨trivial, rfl, rfl⟩, trivial⟩⟩

theorem b149 : hasBody Try.prog 149 = true := by kernel_rfl
theorem g149 : Try.prog.funcs[149]? = some Try.f149 := by kernel_rfl
def twos : List Int → List Int
  | [] => []
  | x :: r => two8 x ++ twos r
theorem twos_length : ∀ m, (twos m).length = 2 * m.length
  | [] => rfl
  | x :: r => by simp [twos, two8, twos_length r]; omega
theorem twos_take (m : List Int) (i : Nat) (h : i < m.length) : twos (m.take (i + 1)) = twos (m.take i) ++ two8 (m.getD i 0) := by
  induction m generalizing i with
  | nil => simp at h
  | cons x r ih =>
    cases i with
    | zero => simp [twos]
    | succ i =>
      have := ih i (by simpa using h)
      simp [twos, this]
theorem regs_tr (l m : List Int) (hl : l.length ≤ 1000) (hm : m.length ≤ 1000) : Tr Try.prog 149 [.sl 1 0 0 l.length, .roI .u16 m] ⟨1, [(0, some (.rowI .u8 l))]⟩ fun v s => v = .sl 1 1 0 (l.length + 2 * m.length) ∧ s = ⟨2, [(1, some (.rowI .u8 (l ++ twos m)))]⟩ := by
  refine trOf g149 b149 c149 ?_
  conv => whnf
  refine loopI (α := {i : Nat // i ≤ m.length}) (fun i => [(0, .sl 1 1 0 (l.length + 2 * i.1)), (7, .roI .u16 m), (8, .int .i64 m.length), (9, .int .i64 i.1)]) (fun i => ⟨2, [(1, some (.rowI .u8 (l ++ twos (m.take i.1))))]⟩) (fun i => m.length - i.1) ⟨0, Nat.zero_le _⟩
    ⟨[(1, some 0)], rfl, rfl, rfl, ⟨⟨rfl, rfl⟩, ⟨rfl, rfl⟩, ⟨rfl, rfl⟩, ⟨rfl, rfl⟩, trivial⟩, ⟨trivial, rfl, by simp [twos, Chunk.ren]; rfl⟩, trivial⟩ fun ⟨i, hi⟩ => ?_
  conv => whnf
  by_cases hlt : i < m.length
  · refine condY (by simpa using hlt) ?_
    conv => whnf
    refine condT (by simp; omega) ?_
    conv => whnf
    have hlen : (l ++ twos (m.take i)).length = l.length + 2 * i := by simp [twos_length]; omega
    refine Tr.call [(0, some 1)] (two_tr (l ++ twos (m.take i)) (m.getD i 0) (by omega)) ?_ ?_ ?_ ?_ fun v s ⟨hv, hs⟩ => ?_
    · rw [hlen]; rfl
    · rfl
    · exact ⟨⟨trivial, rfl, rfl⟩, trivial⟩
    · rfl
    · subst hv; subst hs
      conv => whnf
      refine ⟨⟨i + 1, hlt⟩, ⟨[(1, some 2)], rfl, rfl, rfl, ⟨⟨?_, rfl⟩, ⟨rfl, rfl⟩, ⟨rfl, rfl⟩, ⟨?_, rfl⟩, trivial⟩, ⟨⟨trivial, rfl, ?_⟩, trivial⟩⟩, by show m.length - (i + 1) < m.length - i; omega⟩
      · show AV.sl 1 2 0 ((l ++ twos (m.take i)).length + 2) = AV.sl 1 2 0 (l.length + 2 * (i + 1))
        rw [hlen]; rfl
      · show AV.int .i64 (IntKind.i64.wrap ((i : Int) + 1)) = AV.int .i64 ((i + 1 : Nat) : Int)
        rw [IntWalk.i64_in _ (by omega)]; rfl
      · show some (Chunk.rowI .u8 (l ++ twos (m.take i) ++ two8 (m.getD i 0))) = some (Chunk.rowI .u8 (l ++ twos (m.take (i + 1))))
        rw [twos_take m i hlt, List.append_assoc]
  · refine condN (by simpa using hlt) ?_
    conv => whnf
    have : i = m.length := by omega
    subst this
    exact ⟨rfl, by simp⟩
/- rung/pdu.Known -/
def a65 : ACode := (.seq (.reg [⟨(some 2), .mov (.c (.bool false)), none, false⟩])
 (.seq (.seq (.reg [⟨(some 3), .mov (.t 0), none, false⟩])
 (.block 0 (.seq (.seq (.reg [⟨(some 5), .bin .eql .other (.t 3) (.c (.int .u8 1)), none, false⟩, ⟨(some 4), .mov (.t 5), none, false⟩])
 (.cond (.t 4) .skip
 (.seq (.reg [⟨(some 6), .bin .eql .other (.t 3) (.c (.int .u8 2)), none, false⟩, ⟨(some 4), .mov (.t 6), none, false⟩])
 (.cond (.t 4) .skip
 (.seq (.reg [⟨(some 7), .bin .eql .other (.t 3) (.c (.int .u8 3)), none, false⟩, ⟨(some 4), .mov (.t 7), none, false⟩])
 (.cond (.t 4) .skip
 (.seq (.reg [⟨(some 8), .bin .eql .other (.t 3) (.c (.int .u8 4)), none, false⟩, ⟨(some 4), .mov (.t 8), none, false⟩])
 (.cond (.t 4) .skip
 (.seq (.reg [⟨(some 9), .bin .eql .other (.t 3) (.c (.int .u8 5)), none, false⟩, ⟨(some 4), .mov (.t 9), none, false⟩])
 (.cond (.t 4) .skip
 (.seq (.reg [⟨(some 10), .bin .eql .other (.t 3) (.c (.int .u8 6)), none, false⟩, ⟨(some 4), .mov (.t 10), none, false⟩])
 (.cond (.t 4) .skip
 (.seq (.reg [⟨(some 11), .bin .eql .other (.t 3) (.c (.int .u8 15)), none, false⟩, ⟨(some 4), .mov (.t 11), none, false⟩])
 (.cond (.t 4) .skip
 (.seq (.reg [⟨(some 12), .bin .eql .other (.t 3) (.c (.int .u8 16)), none, false⟩, ⟨(some 4), .mov (.t 12), none, false⟩])
 (.cond (.t 4) .skip
 (.seq (.reg [⟨(some 13), .bin .eql .other (.t 3) (.c (.int .u8 22)), none, false⟩, ⟨(some 4), .mov (.t 13), none, false⟩])
 (.cond (.t 4) .skip
 (.reg [⟨(some 14), .bin .eql .other (.t 3) (.c (.int .u8 23)), none, false⟩, ⟨(some 4), .mov (.t 14), none, false⟩])))))))))))))))))))
 (.cond (.t 4) (.seq (.reg [⟨(some 2), .mov (.c (.bool true)), none, false⟩])
 .ret)
 .skip))))
 (.seq (.reg [⟨(some 2), .mov (.c (.bool false)), none, false⟩])
 .ret)))
def r65 : List ARes := [.t 2]
theorem c65 : compF Try.prog Try.f65 = some (a65, r65) := by kernel_rfl

theorem b65 : hasBody Try.prog 65 = true := by kernel_rfl
theorem g65 : Try.prog.funcs[65]? = some Try.f65 := by kernel_rfl
/- rung/pdu.number -/
def a151 : ACode := (.seq (.reg [⟨(some 2), .mov (.c (.int .u16 0)), none, false⟩])
 (.seq (.draw [⟨0, ⟨(some 3), .mov (.t 0), none, false⟩, false, [], []⟩, ⟨1, ⟨(some 4), .idx 1 none false (.t 3) (.c (.int .i64 0)), none, false⟩, false, [], []⟩, ⟨2, ⟨(some 5), .load false 1 (.t 4), none, false⟩, false, [], []⟩, ⟨3, ⟨(some 6), .conv (.int .u16) (.t 5), none, false⟩, false, [], []⟩, ⟨4, ⟨(some 7), .bin .shl .other (.t 6) (.c (.int .u64 8)), none, false⟩, false, [], []⟩, ⟨5, ⟨(some 8), .mov (.t 0), none, false⟩, false, [], []⟩, ⟨6, ⟨(some 9), .idx 1 none false (.t 8) (.c (.int .i64 1)), none, false⟩, false, [], []⟩, ⟨7, ⟨(some 10), .load false 1 (.t 9), none, false⟩, false, [], []⟩, ⟨8, ⟨(some 11), .conv (.int .u16) (.t 10), none, false⟩, false, [], []⟩, ⟨9, ⟨(some 12), .bin .or .other (.t 7) (.t 11), none, false⟩, false, [], []⟩, ⟨10, ⟨(some 2), .mov (.t 12), none, false⟩, false, [], []⟩])
 .ret))
def r151 : List ARes := [.t 2]
theorem c151 : compF Try.prog Try.f151 = some (a151, r151) := by kernel_rfl

theorem b151 : hasBody Try.prog 151 = true := by kernel_rfl
theorem g151 : Try.prog.funcs[151]? = some Try.f151 := by kernel_rfl
/- rung/pdu.coil -/
def a148 : ACode := (.seq (.reg [⟨(some 4), .mov (.c .nils), none, false⟩])
 (.seq (.seq (.reg [⟨(some 5), .mov (.t 1), none, false⟩])
 (.cond (.t 5) (.seq (.reg [⟨(some 6), .mov (.t 0), none, false⟩, ⟨(some 7), .call 146 [(.t 6), (.c (.int .u16 65280))], none, false⟩, ⟨(some 4), .mov (.t 7), none, false⟩])
 .ret)
 .skip))
 (.seq (.reg [⟨(some 8), .mov (.t 0), none, false⟩, ⟨(some 9), .call 146 [(.t 8), (.c (.int .u16 0))], none, false⟩, ⟨(some 4), .mov (.t 9), none, false⟩])
 .ret)))
def r148 : List ARes := [.t 4]
theorem c148 : compF Try.prog Try.f148 = some (a148, r148) := by kernel_rfl

theorem b148 : hasBody Try.prog 148 = true := by kernel_rfl
theorem g148 : Try.prog.funcs[148]? = some Try.f148 := by kernel_rfl
/- rung/pdu.within[int] -/
def a150 : ACode := (.seq (.reg [⟨(some 4), .mov (.c (.bool false)), none, false⟩])
 (.seq (.reg [⟨(some 5), .mov (.t 0), none, false⟩, ⟨(some 6), .bin .geq .other (.t 5) (.c (.int .i64 1)), none, false⟩, ⟨(some 7), .mov (.t 6), none, true⟩, ⟨(some 8), .mov (.t 0), (some (7, true)), false⟩, ⟨(some 9), .mov (.t 1), (some (7, true)), false⟩, ⟨(some 10), .bin .leq .other (.t 8) (.t 9), (some (7, true)), false⟩, ⟨(some 11), .pick (.t 7) (.t 10) (.c (.bool false)), none, false⟩, ⟨(some 4), .mov (.t 11), none, false⟩])
 .ret))
def r150 : List ARes := [.t 4]
theorem c150 : compF Try.prog Try.f150 = some (a150, r150) := by kernel_rfl

theorem b150 : hasBody Try.prog 150 = true := by kernel_rfl
theorem g150 : Try.prog.funcs[150]? = some Try.f150 := by kernel_rfl
/- rung/pdu.within[uint16] -/
def a147 : ACode := (.seq (.reg [⟨(some 4), .mov (.c (.bool false)), none, false⟩])
 (.seq (.reg [⟨(some 5), .mov (.t 0), none, false⟩, ⟨(some 6), .bin .geq .other (.t 5) (.c (.int .u16 1)), none, false⟩, ⟨(some 7), .mov (.t 6), none, true⟩, ⟨(some 8), .mov (.t 0), (some (7, true)), false⟩, ⟨(some 9), .mov (.t 1), (some (7, true)), false⟩, ⟨(some 10), .bin .leq .other (.t 8) (.t 9), (some (7, true)), false⟩, ⟨(some 11), .pick (.t 7) (.t 10) (.c (.bool false)), none, false⟩, ⟨(some 4), .mov (.t 11), none, false⟩])
 .ret))
def r147 : List ARes := [.t 4]
theorem c147 : compF Try.prog Try.f147 = some (a147, r147) := by kernel_rfl

theorem b147 : hasBody Try.prog 147 = true := by kernel_rfl
theorem g147 : Try.prog.funcs[147]? = some Try.f147 := by kernel_rfl

def knownB (x : Int) : Bool := x == 1 || x == 2 || x == 3 || x == 4 || x == 5 || x == 6 || x == 15 || x == 16 || x == 22 || x == 23
theorem known_tr (x : Int) : Tr Try.prog 65 [.int .u8 x] ⟨0, []⟩ fun v s => v = .bool (knownB x) ∧ s = ⟨0, []⟩ := by
  refine trOf g65 b65 c65 ?_
  conv => whnf
  iterate 9 (refine condS (fun h => by conv => whnf
                                       exact condY h (by conv => whnf
                                                         exact ⟨by simp [knownB, eq_of_beq h], rfl⟩)) (fun h => ?_)
             conv => whnf)
  refine condS (fun h => by conv => whnf
                            exact ⟨by simp [knownB, eq_of_beq h], rfl⟩) (fun h => ?_)
  conv => whnf
  exact ⟨by simp_all [knownB], rfl⟩

def num16 (a b : Int) : Int := IntKind.u16.wrap (BitVec.ofInt 16 (IntKind.u16.wrap (IntKind.u16.wrap a * 2 ^ 8)) ||| BitVec.ofInt 16 (IntKind.u16.wrap b)).toNat
theorem number_tr (l : List Int) (hl : 2 ≤ l.length) : Tr Try.prog 151 [.roI .u8 l] ⟨0, []⟩ fun v s => v = .int .u16 (num16 (l.getD 0 0) (l.getD 1 0)) ∧ s = ⟨0, []⟩ := by
  refine trOf g151 b151 c151 ?_
  conv => whnf
  refine condT (by simp; omega) ?_
  conv => whnf
  refine condT (by simp; omega) ?_
  conv => whnf
  exact ⟨rfl, rfl⟩

def coilN (b : Bool) : Int := bif b then 65280 else 0
theorem coil_tr (l : List Int) (b : Bool) (hl : l.length ≤ 100000) : Tr Try.prog 148 [.sl 1 0 0 l.length, .bool b] ⟨1, [(0, some (.rowI .u8 l))]⟩ fun v s => v = .sl 1 1 0 (l.length + 2) ∧ s = ⟨2, [(1, some (.rowI .u8 (l ++ two8 (coilN b)))), (0, none), (0, some (.rowI .u8 l))]⟩ := by
  refine trOf g148 b148 c148 ?_
  conv => whnf
  cases b
  · conv => whnf
    refine Tr.call [(0, some 0)] (two_tr l 0 hl) rfl rfl ⟨⟨trivial, rfl, rfl⟩, trivial⟩ rfl fun v s ⟨hv, hs⟩ => ?_
    subst hv; subst hs
    conv => whnf
    exact ⟨rfl, rfl⟩
  · conv => whnf
    refine Tr.call [(0, some 0)] (two_tr l 65280 hl) rfl rfl ⟨⟨trivial, rfl, rfl⟩, trivial⟩ rfl fun v s ⟨hv, hs⟩ => ?_
    subst hv; subst hs
    conv => whnf
    exact ⟨rfl, rfl⟩

def withinB (n m : Int) : Bool := decide (1 ≤ n) && decide (n ≤ m)
theorem within_tr (n m : Int) : Tr Try.prog 150 [.int .i64 n, .int .i64 m] ⟨0, []⟩ fun v s => v = .bool (withinB n m) ∧ s = ⟨0, []⟩ := by
  refine trOf g150 b150 c150 ?_
  conv => whnf
  refine condS (fun h => ?_) (fun h => ?_)
  · conv => whnf
    exact ⟨by simp only [withinB]; simp at h; simp [h], rfl⟩
  · conv => whnf
    exact ⟨by simp only [withinB]; simp at h; simp; omega, rfl⟩
theorem within16_tr (n m : Int) : Tr Try.prog 147 [.int .u16 n, .int .u16 m] ⟨0, []⟩ fun v s => v = .bool (withinB n m) ∧ s = ⟨0, []⟩ := by
  refine trOf g147 b147 c147 ?_
  conv => whnf
  refine condS (fun h => ?_) (fun h => ?_)
  · conv => whnf
    exact ⟨by simp only [withinB]; simp at h; simp [h], rfl⟩
  · conv => whnf
    exact ⟨by simp only [withinB]; simp at h; simp; omega, rfl⟩
end Go.Proofs.Ytomodeliimnddaa
