/- Contracts: runghelp, the small ones. -/
import Derived.Test.YtomodeliimnddaaAbEq
set_option linter.unusedVariables false
set_option linter.unusedSimpArgs false
namespace Go.Proofs.Ytomodeliimnddaa
open Go.Ab
/- rung/runghelp.Bytes -/
def a50 : ACode := (.seq (.reg [⟨(some 4), .mov (.c (.bool false)), none, false⟩])
 (.seq (.reg [⟨(some 5), .mov (.t 0), none, false⟩, ⟨(some 6), .conv .toStr (.t 5), none, false⟩, ⟨(some 7), .mov (.t 1), none, false⟩, ⟨(some 8), .conv .toStr (.t 7), none, false⟩, ⟨(some 9), .bin .eql .other (.t 6) (.t 8), none, false⟩, ⟨(some 4), .mov (.t 9), none, false⟩])
 .ret))
def r50 : List ARes := [.t 4]
theorem c50 : compF Try.prog Try.f50 = some (a50, r50) := by kernel_rfl

theorem b50 : hasBody Try.prog 50 = true := by kernel_rfl
theorem g50 : Try.prog.funcs[50]? = some Try.f50 := by kernel_rfl
/- rung/runghelp.Copy -/
def a53 : ACode := (.seq (.reg [⟨(some 2), .mov (.c .nils), none, false⟩])
 (.seq (.reg [⟨(some 3), .mov (.t 0), none, false⟩, ⟨(some 4), .app 1 1 (.c .nils) (.t 3), none, false⟩, ⟨(some 2), .mov (.t 4), none, false⟩])
 .ret))
def r53 : List ARes := [.t 2]
theorem c53 : compF Try.prog Try.f53 = some (a53, r53) := by kernel_rfl

theorem b53 : hasBody Try.prog 53 = true := by kernel_rfl
theorem g53 : Try.prog.funcs[53]? = some Try.f53 := by kernel_rfl

theorem bytes_tr (l m : List Int) : Tr Try.prog 50 [.roI .u8 l, .roI .u8 m] ⟨0, []⟩ fun v s => v = .bool ((bytesStr l).toList == (bytesStr m).toList) ∧ s = ⟨0, []⟩ := by
  refine trOf g50 b50 c50 ?_
  conv => whnf
  exact ⟨rfl, rfl⟩
theorem copy_tr (l : List Int) (hl : l.length ≤ 100000) : Tr Try.prog 53 [.roI .u8 l] ⟨0, []⟩ fun v s => v = .sl 1 0 0 l.length ∧ s = ⟨1, [(0, some (.rowI .u8 l))]⟩ := by
  refine trOf g53 b53 c53 ?_
  conv => whnf
  refine condT (by simp; omega) ?_
  conv => whnf
  exact ⟨rfl, rfl⟩
end Go.Proofs.Ytomodeliimnddaa
