/- Contracts: bytes read as numbers. -/
import Derived.Test.YtomodeliimnddaaAbPdu1
import Derived.Test.YtomodeliimnddaaAbPack
set_option linter.unusedVariables false
set_option linter.unusedSimpArgs false
namespace Go.Proofs.Ytomodeliimnddaa
open Go.Ab
def numsN (l : List Int) : Nat → List Int
  | 0 => []
  | i + 1 => numsN l i ++ [num16 (l.getD (2 * i) 0) (l.getD (2 * i + 1) 0)]
theorem numsN_length (l : List Int) : ∀ i, (numsN l i).length = i
  | 0 => rfl
  | i + 1 => by simp [numsN, numsN_length l i]
/- rung/pdu.numbers -/
def a121 : ACode := (.seq (.reg [⟨(some 2), .mov (.c .nils), none, false⟩])
 (.seq (.reg [⟨(some 3), .mov (.c .nils), none, false⟩])
 (.seq (.block 0 (.loop (.seq (.seq (.reg [⟨(some 4), .mov (.t 0), none, false⟩, ⟨(some 5), .len false (.t 4), none, false⟩, ⟨(some 6), .bin .gtr .other (.t 5) (.c (.int .i64 1)), none, false⟩])
 (.cond (.t 6) .skip
 (.exit 0)))
 (.seq (.block 1 (.reg [⟨(some 9), .mov (.t 3), none, false⟩, ⟨(some 10), .mov (.t 0), none, false⟩, ⟨(some 11), .call 151 [(.t 10)], none, false⟩, ⟨(some 12), .bslice 1 (.int .u16) [(.int .u16 0)] [(0, 1, (.t 11))] 1, none, false⟩, ⟨(some 13), .app 1 2 (.t 9) (.t 12), none, false⟩, ⟨(some 3), .mov (.t 13), none, false⟩]))
 (.reg [⟨(some 7), .mov (.t 0), none, false⟩, ⟨(some 8), .slice (.sl 1) (.t 7) (some (.c (.int .i64 2))) none, none, false⟩, ⟨(some 0), .mov (.t 8), none, false⟩])))))
 (.seq (.reg [⟨(some 14), .mov (.t 3), none, false⟩, ⟨(some 2), .mov (.t 14), none, false⟩])
 .ret))))
def r121 : List ARes := [.t 2]
theorem c121 : compF Try.prog Try.f121 = some (a121, r121) := by kernel_rfl

theorem b121 : hasBody Try.prog 121 = true := by kernel_rfl
theorem g121 : Try.prog.funcs[121]? = some Try.f121 := by kernel_rfl

theorem numbers_tr (l : List Int) (hl : l.length ≤ 100000) : Tr Try.prog 121 [.roI .u8 l] ⟨0, []⟩ fun v s => v = .sl 1 0 0 (l.length / 2) ∧ s = ⟨1, [(0, some (.rowI .u16 (numsN l (l.length / 2))))]⟩ := by
  refine trOf g121 b121 c121 ?_
  conv => whnf
  refine loopI (α := {i : Nat // 2 * i ≤ l.length}) (fun i => [(0, .roI .u8 (l.drop (2 * i.1))), (3, .sl 1 0 0 i.1)]) (fun i => ⟨1, [(0, some (.rowI .u16 (numsN l i.1)))]⟩) (fun i => l.length - 2 * i.1) ⟨0, Nat.zero_le _⟩
      ⟨[(0, none)], rfl, rfl, rfl, ⟨⟨rfl, rfl⟩, ⟨rfl, rfl⟩, trivial⟩, ⟨⟨trivial, rfl, rfl⟩, trivial⟩⟩ fun ⟨i, hi⟩ => ?_
  conv => whnf
  refine condS (fun h => ?_) (fun h => ?_)
  · have hlt : 1 < l.length - 2 * i := by
      have h' : (1 : Int) < ((l.length - 2 * i : Nat) : Int) := by simpa using h
      omega
    conv => whnf
    refine Tr.call [] (number_tr (l.drop (2 * i)) (by simp; omega)) rfl rfl trivial rfl fun v s ⟨hv, hs⟩ => ?_
    subst hv; subst hs
    conv => whnf
    refine condT (by simp [numsN_length]; omega) ?_
    conv => whnf
    refine condT (by simp; omega) ?_
    conv => whnf
    refine ⟨⟨i + 1, by omega⟩, ⟨[(0, some 2)], rfl, rfl, rfl, ⟨⟨?_, rfl⟩, ⟨rfl, rfl⟩, trivial⟩, ⟨⟨trivial, rfl, ?_⟩, trivial⟩⟩, by show l.length - 2 * (i + 1) < l.length - 2 * i; omega⟩
    · show AV.roI .u8 (((l.drop (2 * i)).drop 2).take ((l.drop (2 * i)).length - 2)) = AV.roI .u8 (l.drop (2 * (i + 1)))
      rw [List.take_of_length_le (by simp; omega), List.drop_drop, show 2 * i + 2 = 2 * (i + 1) by omega]
    · show some (Chunk.rowI .u16 (((numsN l i).drop 0).take i ++ [num16 ((l.drop (2 * i)).getD 0 0) ((l.drop (2 * i)).getD 1 0)])) = some (Chunk.rowI .u16 (numsN l (i + 1)))
      rw [List.drop_zero, List.take_of_length_le (by rw [numsN_length]; exact Nat.le_refl _)]
      simp [numsN, List.getD_eq_getElem?_getD]
  · have hlt : l.length - 2 * i ≤ 1 := by
      have h' : ¬ (1 : Int) < ((l.length - 2 * i : Nat) : Int) := by
        have := of_decide_eq_false h
        simpa using this
      omega
    conv => whnf
    have : l.length / 2 = i := by omega
    rw [this]
    exact ⟨rfl, rfl⟩
end Go.Proofs.Ytomodeliimnddaa
