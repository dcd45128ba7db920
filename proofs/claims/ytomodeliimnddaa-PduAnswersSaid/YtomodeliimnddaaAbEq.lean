/- Contracts: rows that are alike. -/
import Derived.Test.YtomodeliimnddaaAbUse
set_option linter.unusedVariables false
set_option linter.unusedSimpArgs false
namespace Go.Proofs.Ytomodeliimnddaa
open Go.Ab
theorem take_succ_eq {α : Type} {l m : List α} {i : Nat} (d : α) (h : l.length = m.length) (hi : i < l.length) (ht : l.take i = m.take i) (he : l.getD i d = m.getD i d) : l.take (i + 1) = m.take (i + 1) := by
  rw [List.take_add_one, List.take_add_one, ht]
  have h1 : l[i]? = m[i]? := by
    simp only [List.getD_eq_getElem?_getD, List.getElem?_eq_getElem hi, List.getElem?_eq_getElem (h ▸ hi), Option.getD_some] at he
    simp [List.getElem?_eq_getElem hi, List.getElem?_eq_getElem (h ▸ hi), he]
  rw [h1]
/- slices.Equal[[]byte,byte] -/
def a115 : ACode := (.seq (.reg [⟨(some 4), .mov (.c (.bool false)), none, false⟩])
 (.seq (.seq (.reg [⟨(some 6), .mov (.t 0), none, false⟩, ⟨(some 7), .len false (.t 6), none, false⟩, ⟨(some 8), .mov (.t 1), none, false⟩, ⟨(some 9), .len false (.t 8), none, false⟩, ⟨(some 10), .bin .neq .other (.t 7) (.t 9), none, false⟩])
 (.cond (.t 10) (.seq (.reg [⟨(some 4), .mov (.c (.bool false)), none, false⟩])
 .ret)
 .skip))
 (.seq (.seq (.reg [⟨(some 11), .mov (.t 0), none, false⟩, ⟨(some 12), .len false (.t 11), none, false⟩, ⟨(some 13), .mov (.c (.int .i64 0)), none, false⟩])
 (.block 0 (.loop (.seq (.reg [⟨(some 14), .bin .lss .other (.t 13) (.t 12), none, false⟩])
 (.seq (.cond (.t 14) .skip
 (.exit 0))
 (.seq (.block 1 (.seq (.reg [⟨(some 15), .mov (.t 13), none, false⟩, ⟨(some 5), .mov (.t 15), none, false⟩])
 (.seq (.draw [⟨0, ⟨(some 16), .mov (.t 0), none, false⟩, false, [], []⟩, ⟨1, ⟨(some 17), .mov (.t 5), none, false⟩, false, [], []⟩, ⟨2, ⟨(some 18), .idx 1 none false (.t 16) (.t 17), none, false⟩, false, [], []⟩, ⟨3, ⟨(some 19), .load false 1 (.t 18), none, false⟩, false, [], []⟩, ⟨4, ⟨(some 20), .mov (.t 1), none, false⟩, false, [], []⟩, ⟨5, ⟨(some 21), .mov (.t 5), none, false⟩, false, [], []⟩, ⟨6, ⟨(some 22), .idx 1 none false (.t 20) (.t 21), none, false⟩, false, [], []⟩, ⟨7, ⟨(some 23), .load false 1 (.t 22), none, false⟩, false, [], []⟩, ⟨8, ⟨(some 24), .bin .neq .other (.t 19) (.t 23), none, false⟩, false, [], []⟩])
 (.cond (.t 24) (.seq (.reg [⟨(some 4), .mov (.c (.bool false)), none, false⟩])
 .ret)
 .skip))))
 (.reg [⟨(some 25), .bin .add .other (.t 13) (.c (.int .i64 1)), none, false⟩, ⟨(some 13), .mov (.t 25), none, false⟩])))))))
 (.seq (.reg [⟨(some 4), .mov (.c (.bool true)), none, false⟩])
 .ret))))
def r115 : List ARes := [.t 4]
theorem c115 : compF Try.prog Try.f115 = some (a115, r115) := by kernel_rfl

theorem b115 : hasBody Try.prog 115 = true := by kernel_rfl
theorem g115 : Try.prog.funcs[115]? = some Try.f115 := by kernel_rfl

theorem equal8_tr (l m : List Int) (hl : l.length ≤ 100000) : Tr Try.prog 115 [.roI .u8 l, .roI .u8 m] ⟨0, []⟩ fun v s => v = .bool (l == m) ∧ s = ⟨0, []⟩ := by
  refine trOf g115 b115 c115 ?_
  conv => whnf
  refine condS (fun h => ?_) (fun h => ?_)
  · conv => whnf
    have hne : (l == m) = false := by
      have h : (l.length : Int) ≠ m.length := by simpa using h
      simp only [beq_eq_false_iff_ne, ne_eq]
      intro e; exact h (by rw [e])
    exact ⟨by rw [hne], rfl⟩
  · have hlen : l.length = m.length := by
      have h : (l.length : Int) = m.length := by simpa using h
      omega
    conv => whnf
    refine loopI (α := {i : Nat // i ≤ l.length ∧ l.take i = m.take i}) (fun i => [(0, .roI .u8 l), (1, .roI .u8 m), (12, .int .i64 l.length), (13, .int .i64 i.1)]) (fun i => ⟨0, []⟩) (fun i => l.length - i.1) ⟨0, Nat.zero_le _, by simp⟩
      ⟨[], rfl, rfl, rfl, ⟨⟨rfl, rfl⟩, ⟨rfl, rfl⟩, ⟨rfl, rfl⟩, ⟨rfl, rfl⟩, trivial⟩, trivial⟩ fun ⟨i, hi, ht⟩ => ?_
    conv => whnf
    by_cases hlt : i < l.length
    · refine condY (by simpa using hlt) ?_
      conv => whnf
      refine condT (by simpa using hlt) ?_
      conv => whnf
      refine condT (by simp; omega) ?_
      conv => whnf
      refine condS (fun h => ?_) (fun h => ?_)
      · conv => whnf
        have hne : (l == m) = false := by
          simp only [beq_eq_false_iff_ne, ne_eq]
          intro e
          subst e
          simp at h
        exact ⟨by rw [hne], rfl⟩
      · conv => whnf
        have he : l.getD i 0 = m.getD i 0 := by simpa using h
        refine ⟨⟨i + 1, hlt, take_succ_eq 0 hlen hlt ht he⟩, ⟨[], rfl, rfl, rfl, ⟨⟨rfl, rfl⟩, ⟨rfl, rfl⟩, ⟨rfl, rfl⟩, ⟨?_, rfl⟩, trivial⟩, trivial⟩, by show l.length - (i + 1) < l.length - i; omega⟩
        show AV.int .i64 (IntKind.i64.wrap ((i : Int) + 1)) = AV.int .i64 ((i + 1 : Nat) : Int)
        rw [IntWalk.i64_in _ (by omega)]; rfl
    · refine condN (by simpa using hlt) ?_
      conv => whnf
      have heq : l = m := by
        have h1 : l.take i = l := List.take_of_length_le (by omega)
        have h2 : m.take i = m := List.take_of_length_le (by omega)
        rw [← h1, ← h2]; exact ht
      exact ⟨by rw [heq]; simp, rfl⟩
/- slices.Equal[[]uint16,uint16] -/
def a120 : ACode := (.seq (.reg [⟨(some 4), .mov (.c (.bool false)), none, false⟩])
 (.seq (.seq (.reg [⟨(some 6), .mov (.t 0), none, false⟩, ⟨(some 7), .len false (.t 6), none, false⟩, ⟨(some 8), .mov (.t 1), none, false⟩, ⟨(some 9), .len false (.t 8), none, false⟩, ⟨(some 10), .bin .neq .other (.t 7) (.t 9), none, false⟩])
 (.cond (.t 10) (.seq (.reg [⟨(some 4), .mov (.c (.bool false)), none, false⟩])
 .ret)
 .skip))
 (.seq (.seq (.reg [⟨(some 11), .mov (.t 0), none, false⟩, ⟨(some 12), .len false (.t 11), none, false⟩, ⟨(some 13), .mov (.c (.int .i64 0)), none, false⟩])
 (.block 0 (.loop (.seq (.reg [⟨(some 14), .bin .lss .other (.t 13) (.t 12), none, false⟩])
 (.seq (.cond (.t 14) .skip
 (.exit 0))
 (.seq (.block 1 (.seq (.reg [⟨(some 15), .mov (.t 13), none, false⟩, ⟨(some 5), .mov (.t 15), none, false⟩])
 (.seq (.draw [⟨0, ⟨(some 16), .mov (.t 0), none, false⟩, false, [], []⟩, ⟨1, ⟨(some 17), .mov (.t 5), none, false⟩, false, [], []⟩, ⟨2, ⟨(some 18), .idx 1 none false (.t 16) (.t 17), none, false⟩, false, [], []⟩, ⟨3, ⟨(some 19), .load false 1 (.t 18), none, false⟩, false, [], []⟩, ⟨4, ⟨(some 20), .mov (.t 1), none, false⟩, false, [], []⟩, ⟨5, ⟨(some 21), .mov (.t 5), none, false⟩, false, [], []⟩, ⟨6, ⟨(some 22), .idx 1 none false (.t 20) (.t 21), none, false⟩, false, [], []⟩, ⟨7, ⟨(some 23), .load false 1 (.t 22), none, false⟩, false, [], []⟩, ⟨8, ⟨(some 24), .bin .neq .other (.t 19) (.t 23), none, false⟩, false, [], []⟩])
 (.cond (.t 24) (.seq (.reg [⟨(some 4), .mov (.c (.bool false)), none, false⟩])
 .ret)
 .skip))))
 (.reg [⟨(some 25), .bin .add .other (.t 13) (.c (.int .i64 1)), none, false⟩, ⟨(some 13), .mov (.t 25), none, false⟩])))))))
 (.seq (.reg [⟨(some 4), .mov (.c (.bool true)), none, false⟩])
 .ret))))
def r120 : List ARes := [.t 4]
theorem c120 : compF Try.prog Try.f120 = some (a120, r120) := by kernel_rfl

theorem b120 : hasBody Try.prog 120 = true := by kernel_rfl
theorem g120 : Try.prog.funcs[120]? = some Try.f120 := by kernel_rfl

theorem equal16_tr (l m : List Int) (hl : l.length ≤ 100000) : Tr Try.prog 120 [.roI .u16 l, .roI .u16 m] ⟨0, []⟩ fun v s => v = .bool (l == m) ∧ s = ⟨0, []⟩ := by
  refine trOf g120 b120 c120 ?_
  conv => whnf
  refine condS (fun h => ?_) (fun h => ?_)
  · conv => whnf
    have hne : (l == m) = false := by
      have h : (l.length : Int) ≠ m.length := by simpa using h
      simp only [beq_eq_false_iff_ne, ne_eq]
      intro e; exact h (by rw [e])
    exact ⟨by rw [hne], rfl⟩
  · have hlen : l.length = m.length := by
      have h : (l.length : Int) = m.length := by simpa using h
      omega
    conv => whnf
    refine loopI (α := {i : Nat // i ≤ l.length ∧ l.take i = m.take i}) (fun i => [(0, .roI .u16 l), (1, .roI .u16 m), (12, .int .i64 l.length), (13, .int .i64 i.1)]) (fun i => ⟨0, []⟩) (fun i => l.length - i.1) ⟨0, Nat.zero_le _, by simp⟩
      ⟨[], rfl, rfl, rfl, ⟨⟨rfl, rfl⟩, ⟨rfl, rfl⟩, ⟨rfl, rfl⟩, ⟨rfl, rfl⟩, trivial⟩, trivial⟩ fun ⟨i, hi, ht⟩ => ?_
    conv => whnf
    by_cases hlt : i < l.length
    · refine condY (by simpa using hlt) ?_
      conv => whnf
      refine condT (by simpa using hlt) ?_
      conv => whnf
      refine condT (by simp; omega) ?_
      conv => whnf
      refine condS (fun h => ?_) (fun h => ?_)
      · conv => whnf
        have hne : (l == m) = false := by
          simp only [beq_eq_false_iff_ne, ne_eq]
          intro e
          subst e
          simp at h
        exact ⟨by rw [hne], rfl⟩
      · conv => whnf
        have he : l.getD i 0 = m.getD i 0 := by simpa using h
        refine ⟨⟨i + 1, hlt, take_succ_eq 0 hlen hlt ht he⟩, ⟨[], rfl, rfl, rfl, ⟨⟨rfl, rfl⟩, ⟨rfl, rfl⟩, ⟨rfl, rfl⟩, ⟨?_, rfl⟩, trivial⟩, trivial⟩, by show l.length - (i + 1) < l.length - i; omega⟩
        show AV.int .i64 (IntKind.i64.wrap ((i : Int) + 1)) = AV.int .i64 ((i + 1 : Nat) : Int)
        rw [IntWalk.i64_in _ (by omega)]; rfl
    · refine condN (by simpa using hlt) ?_
      conv => whnf
      have heq : l = m := by
        have h1 : l.take i = l := List.take_of_length_le (by omega)
        have h2 : m.take i = m := List.take_of_length_le (by omega)
        rw [← h1, ← h2]; exact ht
      exact ⟨by rw [heq]; simp, rfl⟩
/- slices.Equal[[]bool,bool] -/
def a119 : ACode := (.seq (.reg [⟨(some 4), .mov (.c (.bool false)), none, false⟩])
 (.seq (.seq (.reg [⟨(some 6), .mov (.t 0), none, false⟩, ⟨(some 7), .len false (.t 6), none, false⟩, ⟨(some 8), .mov (.t 1), none, false⟩, ⟨(some 9), .len false (.t 8), none, false⟩, ⟨(some 10), .bin .neq .other (.t 7) (.t 9), none, false⟩])
 (.cond (.t 10) (.seq (.reg [⟨(some 4), .mov (.c (.bool false)), none, false⟩])
 .ret)
 .skip))
 (.seq (.seq (.reg [⟨(some 11), .mov (.t 0), none, false⟩, ⟨(some 12), .len false (.t 11), none, false⟩, ⟨(some 13), .mov (.c (.int .i64 0)), none, false⟩])
 (.block 0 (.loop (.seq (.reg [⟨(some 14), .bin .lss .other (.t 13) (.t 12), none, false⟩])
 (.seq (.cond (.t 14) .skip
 (.exit 0))
 (.seq (.block 1 (.seq (.reg [⟨(some 15), .mov (.t 13), none, false⟩, ⟨(some 5), .mov (.t 15), none, false⟩])
 (.seq (.draw [⟨0, ⟨(some 16), .mov (.t 0), none, false⟩, false, [], []⟩, ⟨1, ⟨(some 17), .mov (.t 5), none, false⟩, false, [], []⟩, ⟨2, ⟨(some 18), .idx 1 none false (.t 16) (.t 17), none, false⟩, false, [], []⟩, ⟨3, ⟨(some 19), .load false 1 (.t 18), none, false⟩, false, [], []⟩, ⟨4, ⟨(some 20), .mov (.t 1), none, false⟩, false, [], []⟩, ⟨5, ⟨(some 21), .mov (.t 5), none, false⟩, false, [], []⟩, ⟨6, ⟨(some 22), .idx 1 none false (.t 20) (.t 21), none, false⟩, false, [], []⟩, ⟨7, ⟨(some 23), .load false 1 (.t 22), none, false⟩, false, [], []⟩, ⟨8, ⟨(some 24), .bin .neq .bool (.t 19) (.t 23), none, false⟩, false, [], []⟩])
 (.cond (.t 24) (.seq (.reg [⟨(some 4), .mov (.c (.bool false)), none, false⟩])
 .ret)
 .skip))))
 (.reg [⟨(some 25), .bin .add .other (.t 13) (.c (.int .i64 1)), none, false⟩, ⟨(some 13), .mov (.t 25), none, false⟩])))))))
 (.seq (.reg [⟨(some 4), .mov (.c (.bool true)), none, false⟩])
 .ret))))
def r119 : List ARes := [.t 4]
theorem c119 : compF Try.prog Try.f119 = some (a119, r119) := by kernel_rfl

theorem b119 : hasBody Try.prog 119 = true := by kernel_rfl
theorem g119 : Try.prog.funcs[119]? = some Try.f119 := by kernel_rfl

theorem equalB_tr (l m : List Bool) (hl : l.length ≤ 100000) : Tr Try.prog 119 [.roB l, .roB m] ⟨0, []⟩ fun v s => v = .bool (l == m) ∧ s = ⟨0, []⟩ := by
  refine trOf g119 b119 c119 ?_
  conv => whnf
  refine condS (fun h => ?_) (fun h => ?_)
  · conv => whnf
    have hne : (l == m) = false := by
      have h : (l.length : Int) ≠ m.length := by simpa using h
      simp only [beq_eq_false_iff_ne, ne_eq]
      intro e; exact h (by rw [e])
    exact ⟨by rw [hne], rfl⟩
  · have hlen : l.length = m.length := by
      have h : (l.length : Int) = m.length := by simpa using h
      omega
    conv => whnf
    refine loopI (α := {i : Nat // i ≤ l.length ∧ l.take i = m.take i}) (fun i => [(0, .roB l), (1, .roB m), (12, .int .i64 l.length), (13, .int .i64 i.1)]) (fun i => ⟨0, []⟩) (fun i => l.length - i.1) ⟨0, Nat.zero_le _, by simp⟩
      ⟨[], rfl, rfl, rfl, ⟨⟨rfl, rfl⟩, ⟨rfl, rfl⟩, ⟨rfl, rfl⟩, ⟨rfl, rfl⟩, trivial⟩, trivial⟩ fun ⟨i, hi, ht⟩ => ?_
    conv => whnf
    by_cases hlt : i < l.length
    · refine condY (by simpa using hlt) ?_
      conv => whnf
      refine condT (by simpa using hlt) ?_
      conv => whnf
      refine condT (by simp; omega) ?_
      conv => whnf
      refine condS (fun h => ?_) (fun h => ?_)
      · conv => whnf
        have hne : (l == m) = false := by
          simp only [beq_eq_false_iff_ne, ne_eq]
          intro e
          subst e
          simp at h
        exact ⟨by rw [hne], rfl⟩
      · conv => whnf
        have he : l.getD i false = m.getD i false := by simpa using h
        refine ⟨⟨i + 1, hlt, take_succ_eq false hlen hlt ht he⟩, ⟨[], rfl, rfl, rfl, ⟨⟨rfl, rfl⟩, ⟨rfl, rfl⟩, ⟨rfl, rfl⟩, ⟨?_, rfl⟩, trivial⟩, trivial⟩, by show l.length - (i + 1) < l.length - i; omega⟩
        show AV.int .i64 (IntKind.i64.wrap ((i : Int) + 1)) = AV.int .i64 ((i + 1 : Nat) : Int)
        rw [IntWalk.i64_in _ (by omega)]; rfl
    · refine condN (by simpa using hlt) ?_
      conv => whnf
      have heq : l = m := by
        have h1 : l.take i = l := List.take_of_length_le (by omega)
        have h2 : m.take i = m := List.take_of_length_le (by omega)
        rw [← h1, ← h2]; exact ht
      exact ⟨by rw [heq]; simp, rfl⟩
/- rung/runghelp.Regs -/
def a35 : ACode := (.seq (.reg [⟨(some 4), .mov (.c (.bool false)), none, false⟩])
 (.seq (.seq (.reg [⟨(some 6), .mov (.t 0), none, false⟩, ⟨(some 7), .len false (.t 6), none, false⟩, ⟨(some 8), .mov (.t 1), none, false⟩, ⟨(some 9), .len false (.t 8), none, false⟩, ⟨(some 10), .bin .neq .other (.t 7) (.t 9), none, false⟩])
 (.cond (.t 10) (.seq (.reg [⟨(some 4), .mov (.c (.bool false)), none, false⟩])
 .ret)
 .skip))
 (.seq (.seq (.reg [⟨(some 5), .mov (.c (.int .i64 0)), none, false⟩])
 (.block 0 (.loop (.seq (.seq (.reg [⟨(some 11), .mov (.t 5), none, false⟩, ⟨(some 12), .mov (.t 0), none, false⟩, ⟨(some 13), .len false (.t 12), none, false⟩, ⟨(some 14), .bin .lss .other (.t 11) (.t 13), none, false⟩])
 (.cond (.t 14) .skip
 (.exit 0)))
 (.seq (.block 1 (.seq (.draw [⟨0, ⟨(some 17), .mov (.t 0), none, false⟩, false, [], []⟩, ⟨1, ⟨(some 18), .mov (.t 5), none, false⟩, false, [], []⟩, ⟨2, ⟨(some 19), .idx 1 none false (.t 17) (.t 18), none, false⟩, false, [], []⟩, ⟨3, ⟨(some 20), .load false 1 (.t 19), none, false⟩, false, [], []⟩, ⟨4, ⟨(some 21), .mov (.t 1), none, false⟩, false, [], []⟩, ⟨5, ⟨(some 22), .mov (.t 5), none, false⟩, false, [], []⟩, ⟨6, ⟨(some 23), .idx 1 none false (.t 21) (.t 22), none, false⟩, false, [], []⟩, ⟨7, ⟨(some 24), .load false 1 (.t 23), none, false⟩, false, [], []⟩, ⟨8, ⟨(some 25), .bin .neq .other (.t 20) (.t 24), none, false⟩, false, [], []⟩])
 (.cond (.t 25) (.seq (.reg [⟨(some 4), .mov (.c (.bool false)), none, false⟩])
 .ret)
 .skip)))
 (.reg [⟨(some 15), .mov (.t 5), none, false⟩, ⟨(some 16), .bin .add .other (.t 15) (.c (.int .i64 1)), none, false⟩, ⟨(some 5), .mov (.t 16), none, false⟩]))))))
 (.seq (.reg [⟨(some 4), .mov (.c (.bool true)), none, false⟩])
 .ret))))
def r35 : List ARes := [.t 4]
theorem c35 : compF Try.prog Try.f35 = some (a35, r35) := by kernel_rfl

theorem b35 : hasBody Try.prog 35 = true := by kernel_rfl
theorem g35 : Try.prog.funcs[35]? = some Try.f35 := by kernel_rfl

theorem hregs_tr (l m : List Int) (hl : l.length ≤ 100000) : Tr Try.prog 35 [.roI .u16 l, .roI .u16 m] ⟨0, []⟩ fun v s => v = .bool (l == m) ∧ s = ⟨0, []⟩ := by
  refine trOf g35 b35 c35 ?_
  conv => whnf
  refine condS (fun h => ?_) (fun h => ?_)
  · conv => whnf
    have hne : (l == m) = false := by
      have h : (l.length : Int) ≠ m.length := by simpa using h
      simp only [beq_eq_false_iff_ne, ne_eq]
      intro e; exact h (by rw [e])
    exact ⟨by rw [hne], rfl⟩
  · have hlen : l.length = m.length := by
      have h : (l.length : Int) = m.length := by simpa using h
      omega
    conv => whnf
    refine loopI (α := {i : Nat // i ≤ l.length ∧ l.take i = m.take i}) (fun i => [(0, .roI .u16 l), (1, .roI .u16 m), (5, .int .i64 i.1)]) (fun i => ⟨0, []⟩) (fun i => l.length - i.1) ⟨0, Nat.zero_le _, by simp⟩
      ⟨[], rfl, rfl, rfl, ⟨⟨rfl, rfl⟩, ⟨rfl, rfl⟩, ⟨rfl, rfl⟩, trivial⟩, trivial⟩ fun ⟨i, hi, ht⟩ => ?_
    conv => whnf
    by_cases hlt : i < l.length
    · refine condY (by simpa using hlt) ?_
      conv => whnf
      refine condT (by simpa using hlt) ?_
      conv => whnf
      refine condT (by simp; omega) ?_
      conv => whnf
      refine condS (fun h => ?_) (fun h => ?_)
      · conv => whnf
        have hne : (l == m) = false := by
          simp only [beq_eq_false_iff_ne, ne_eq]
          intro e
          subst e
          simp at h
        exact ⟨by rw [hne], rfl⟩
      · conv => whnf
        have he : l.getD i 0 = m.getD i 0 := by simpa using h
        refine ⟨⟨i + 1, hlt, take_succ_eq 0 hlen hlt ht he⟩, ⟨[], rfl, rfl, rfl, ⟨⟨rfl, rfl⟩, ⟨rfl, rfl⟩, ⟨?_, rfl⟩, trivial⟩, trivial⟩, by show l.length - (i + 1) < l.length - i; omega⟩
        show AV.int .i64 (IntKind.i64.wrap ((i : Int) + 1)) = AV.int .i64 ((i + 1 : Nat) : Int)
        rw [IntWalk.i64_in _ (by omega)]; rfl
    · refine condN (by simpa using hlt) ?_
      conv => whnf
      have heq : l = m := by
        have h1 : l.take i = l := List.take_of_length_le (by omega)
        have h2 : m.take i = m := List.take_of_length_le (by omega)
        rw [← h1, ← h2]; exact ht
      exact ⟨by rw [heq]; simp, rfl⟩
/- rung/runghelp.Bits -/
def a63 : ACode := (.seq (.reg [⟨(some 4), .mov (.c (.bool false)), none, false⟩])
 (.seq (.seq (.reg [⟨(some 6), .mov (.t 0), none, false⟩, ⟨(some 7), .len false (.t 6), none, false⟩, ⟨(some 8), .mov (.t 1), none, false⟩, ⟨(some 9), .len false (.t 8), none, false⟩, ⟨(some 10), .bin .neq .other (.t 7) (.t 9), none, false⟩])
 (.cond (.t 10) (.seq (.reg [⟨(some 4), .mov (.c (.bool false)), none, false⟩])
 .ret)
 .skip))
 (.seq (.seq (.reg [⟨(some 5), .mov (.c (.int .i64 0)), none, false⟩])
 (.block 0 (.loop (.seq (.seq (.reg [⟨(some 11), .mov (.t 5), none, false⟩, ⟨(some 12), .mov (.t 0), none, false⟩, ⟨(some 13), .len false (.t 12), none, false⟩, ⟨(some 14), .bin .lss .other (.t 11) (.t 13), none, false⟩])
 (.cond (.t 14) .skip
 (.exit 0)))
 (.seq (.block 1 (.seq (.draw [⟨0, ⟨(some 17), .mov (.t 0), none, false⟩, false, [], []⟩, ⟨1, ⟨(some 18), .mov (.t 5), none, false⟩, false, [], []⟩, ⟨2, ⟨(some 19), .idx 1 none false (.t 17) (.t 18), none, false⟩, false, [], []⟩, ⟨3, ⟨(some 20), .load false 1 (.t 19), none, false⟩, false, [], []⟩, ⟨4, ⟨(some 21), .mov (.t 1), none, false⟩, false, [], []⟩, ⟨5, ⟨(some 22), .mov (.t 5), none, false⟩, false, [], []⟩, ⟨6, ⟨(some 23), .idx 1 none false (.t 21) (.t 22), none, false⟩, false, [], []⟩, ⟨7, ⟨(some 24), .load false 1 (.t 23), none, false⟩, false, [], []⟩, ⟨8, ⟨(some 25), .bin .neq .bool (.t 20) (.t 24), none, false⟩, false, [], []⟩])
 (.cond (.t 25) (.seq (.reg [⟨(some 4), .mov (.c (.bool false)), none, false⟩])
 .ret)
 .skip)))
 (.reg [⟨(some 15), .mov (.t 5), none, false⟩, ⟨(some 16), .bin .add .other (.t 15) (.c (.int .i64 1)), none, false⟩, ⟨(some 5), .mov (.t 16), none, false⟩]))))))
 (.seq (.reg [⟨(some 4), .mov (.c (.bool true)), none, false⟩])
 .ret))))
def r63 : List ARes := [.t 4]
theorem c63 : compF Try.prog Try.f63 = some (a63, r63) := by kernel_rfl

theorem b63 : hasBody Try.prog 63 = true := by kernel_rfl
theorem g63 : Try.prog.funcs[63]? = some Try.f63 := by kernel_rfl

theorem hbits_tr (l m : List Bool) (hl : l.length ≤ 100000) : Tr Try.prog 63 [.roB l, .roB m] ⟨0, []⟩ fun v s => v = .bool (l == m) ∧ s = ⟨0, []⟩ := by
  refine trOf g63 b63 c63 ?_
  conv => whnf
  refine condS (fun h => ?_) (fun h => ?_)
  · conv => whnf
    have hne : (l == m) = false := by
      have h : (l.length : Int) ≠ m.length := by simpa using h
      simp only [beq_eq_false_iff_ne, ne_eq]
      intro e; exact h (by rw [e])
    exact ⟨by rw [hne], rfl⟩
  · have hlen : l.length = m.length := by
      have h : (l.length : Int) = m.length := by simpa using h
      omega
    conv => whnf
    refine loopI (α := {i : Nat // i ≤ l.length ∧ l.take i = m.take i}) (fun i => [(0, .roB l), (1, .roB m), (5, .int .i64 i.1)]) (fun i => ⟨0, []⟩) (fun i => l.length - i.1) ⟨0, Nat.zero_le _, by simp⟩
      ⟨[], rfl, rfl, rfl, ⟨⟨rfl, rfl⟩, ⟨rfl, rfl⟩, ⟨rfl, rfl⟩, trivial⟩, trivial⟩ fun ⟨i, hi, ht⟩ => ?_
    conv => whnf
    by_cases hlt : i < l.length
    · refine condY (by simpa using hlt) ?_
      conv => whnf
      refine condT (by simpa using hlt) ?_
      conv => whnf
      refine condT (by simp; omega) ?_
      conv => whnf
      refine condS (fun h => ?_) (fun h => ?_)
      · conv => whnf
        have hne : (l == m) = false := by
          simp only [beq_eq_false_iff_ne, ne_eq]
          intro e
          subst e
          simp at h
        exact ⟨by rw [hne], rfl⟩
      · conv => whnf
        have he : l.getD i false = m.getD i false := by simpa using h
        refine ⟨⟨i + 1, hlt, take_succ_eq false hlen hlt ht he⟩, ⟨[], rfl, rfl, rfl, ⟨⟨rfl, rfl⟩, ⟨rfl, rfl⟩, ⟨?_, rfl⟩, trivial⟩, trivial⟩, by show l.length - (i + 1) < l.length - i; omega⟩
        show AV.int .i64 (IntKind.i64.wrap ((i : Int) + 1)) = AV.int .i64 ((i + 1 : Nat) : Int)
        rw [IntWalk.i64_in _ (by omega)]; rfl
    · refine condN (by simpa using hlt) ?_
      conv => whnf
      have heq : l = m := by
        have h1 : l.take i = l := List.take_of_length_le (by omega)
        have h2 : m.take i = m := List.take_of_length_le (by omega)
        rw [← h1, ← h2]; exact ht
      exact ⟨by rw [heq]; simp, rfl⟩
end Go.Proofs.Ytomodeliimnddaa
