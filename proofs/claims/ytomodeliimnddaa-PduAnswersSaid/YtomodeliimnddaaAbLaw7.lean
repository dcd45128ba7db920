/- Statements of layer 3: replies are written as the document says. -/
import Derived.Test.YtomodeliimnddaaAbKnown3
set_option linter.unusedVariables false
set_option linter.unusedSimpArgs false
namespace Go.Proofs.Ytomodeliimnddaa
open Go.Ab
/- rung/runglaw3.PduReplies -/
def a7 : ACode := (.seq (.reg [⟨(some 1), .box (.t 0), none, false⟩, ⟨(some 2), .mov (.c (.bool false)), none, false⟩])
 (.seq (.seq (.reg [⟨(some 7), .call 46 [], none, false⟩, ⟨(some 8), .un .not (.t 7), none, false⟩])
 (.cond (.t 8) (.seq (.reg [⟨(some 2), .mov (.c (.bool false)), none, false⟩])
 .ret)
 .skip))
 (.seq (.seq (.reg [⟨(some 9), .load true 6 (.t 1), none, false⟩, ⟨(some 10), .call 55 [(.t 9)], none, false⟩, ⟨(some 11), .un .not (.t 10), none, false⟩])
 (.cond (.t 11) (.seq (.reg [⟨(some 2), .mov (.c (.bool true)), none, false⟩])
 .ret)
 .skip))
 (.seq (.reg [⟨(some 13), .load true 6 (.t 1), none, false⟩, ⟨(some 14), .call 56 [(.t 13)], none, false⟩, ⟨(some 12), .mov (.t 14), none, false⟩, ⟨(some 15), .ext (.t 12) 0, none, false⟩, ⟨(some 16), .ext (.t 12) 1, none, false⟩, ⟨(some 3), .mov (.t 15), none, false⟩, ⟨(some 4), .mov (.t 16), none, false⟩])
 (.seq (.reg [⟨(some 18), .load true 6 (.t 1), none, false⟩, ⟨(some 19), .call 57 [(.t 18)], none, false⟩, ⟨(some 17), .mov (.t 19), none, false⟩, ⟨(some 20), .ext (.t 17) 0, none, false⟩, ⟨(some 21), .ext (.t 17) 1, none, false⟩, ⟨(some 5), .mov (.t 20), none, false⟩, ⟨(some 6), .mov (.t 21), none, false⟩])
 (.seq (.reg [⟨(some 22), .mov (.t 3), none, false⟩, ⟨(some 23), .mov (.t 5), none, false⟩, ⟨(some 24), .call 50 [(.t 22), (.t 23)], none, false⟩, ⟨(some 25), .mov (.t 24), none, true⟩, ⟨(some 26), .mov (.t 4), (some (25, true)), false⟩, ⟨(some 27), .mov (.t 6), (some (25, true)), false⟩, ⟨(some 28), .bin .eql .other (.t 26) (.t 27), (some (25, true)), false⟩, ⟨(some 29), .pick (.t 25) (.t 28) (.c (.bool false)), none, false⟩, ⟨(some 30), .mov (.t 29), none, true⟩, ⟨(some 31), .mov (.t 3), (some (30, true)), false⟩, ⟨(some 32), .len false (.t 31), (some (30, true)), false⟩, ⟨(some 33), .bin .leq .other (.t 32) (.c (.int .i64 253)), (some (30, true)), false⟩, ⟨(some 34), .pick (.t 30) (.t 33) (.c (.bool false)), none, false⟩, ⟨(some 2), .mov (.t 34), none, false⟩])
 .ret))))))
def r7 : List ARes := [.t 2]
theorem c7 : compF Try.prog Try.f7 = some (a7, r7) := by kernel_rfl

theorem b7 : hasBody Try.prog 7 = true := by kernel_rfl
theorem g7 : Try.prog.funcs[7]? = some Try.f7 := by kernel_rfl

theorem light_ev (f a n a2 : Int) (b : List Bool) (r : List Int) : Ev Try.prog 47 [reqA f a n a2 (.roB b) (.roI .u16 r)] (.bool (decide ((b.length : Int) ≤ 2500) && decide ((r.length : Int) ≤ 200))) := by
  refine FrzK.ev rfl (trF g47 b47 c47 ?_)
  conv => whnf
  refine condS (fun h => ?_) (fun h => ?_)
  · conv => whnf
    rw [h, Bool.true_and]
    exact FrzK.le (Le.refl _)
  · conv => whnf
    rw [h]
    exact FrzK.le (Le.refl _)
theorem lightly_ev (f a n a2 : Int) (b : List Bool) (r : List Int) : Ev Try.prog 55 [repA f a n a2 (.roB b) (.roI .u16 r)] (.bool (decide ((b.length : Int) ≤ 2500) && decide ((r.length : Int) ≤ 200))) := by
  refine FrzK.ev rfl (trF g55 b55 c55 ?_)
  conv => whnf
  refine condS (fun h => ?_) (fun h => ?_)
  · conv => whnf
    rw [h, Bool.true_and]
    exact FrzK.le (Le.refl _)
  · conv => whnf
    rw [h]
    exact FrzK.le (Le.refl _)
theorem bytes_same (l : List Int) : Ev Try.prog 50 [.roI .u8 l, .roI .u8 l] (.bool true) := by
  have h := bytes_ev l l
  rwa [beq_self_eq_true] at h
theorem repB_len (f x a n : Int) (b : List Bool) (r : List Int) : (repB f x a n b r).length ≤ 253 := by
  unfold repB
  by_cases ho : repOk f x a n b r = true
  · rw [if_pos ho]
    by_cases hx : x = 0
    · subst hx
      by_cases h1 : f = 1
      · subst h1; simp [repOk, withinB] at ho; simp [repS, packN_length, twos_length, two8] <;> omega
      by_cases h2 : f = 2
      · subst h2; simp [repOk, withinB] at ho; simp [repS, packN_length, twos_length, two8] <;> omega
      by_cases h3 : f = 3
      · subst h3; simp [repOk, withinB] at ho; simp [repS, packN_length, twos_length, two8] <;> omega
      by_cases h4 : f = 4
      · subst h4; simp [repOk, withinB] at ho; simp [repS, packN_length, twos_length, two8] <;> omega
      by_cases h23 : f = 23
      · subst h23; simp [repOk, withinB] at ho; simp [repS, packN_length, twos_length, two8] <;> omega
      by_cases h5 : f = 5
      · subst h5; simp [repOk, withinB] at ho; simp [repS, packN_length, twos_length, two8] <;> omega
      by_cases h6 : f = 6
      · subst h6; simp [repOk, withinB] at ho; simp [repS, packN_length, twos_length, two8] <;> omega
      by_cases h15 : f = 15
      · subst h15; simp [repOk, withinB] at ho; simp [repS, packN_length, twos_length, two8] <;> omega
      by_cases h16 : f = 16
      · subst h16; simp [repOk, withinB] at ho; simp [repS, packN_length, twos_length, two8] <;> omega
      by_cases h22 : f = 22
      · subst h22; simp [repOk, withinB] at ho; simp [repS, packN_length, twos_length, two8] <;> omega
      simp [repOk, *] at ho
    · simp [repS, hx]
  · rw [if_neg ho]; simp
set_option maxRecDepth 20000 in
theorem law7 (f x a n : Int) (b : List Bool) (r : List Int) (hn0 : 0 ≤ n) (hn1 : n < 65536) : Ev Try.prog 7 [repA f x a n (.roB b) (.roI .u16 r)] (.bool true) := by
  refine FrzK.ev rfl (trF g7 b7 c7 ?_)
  conv => whnf
  refine Ev.call known3 ?_
  conv => whnf
  refine Ev.call (lightly_ev _ _ _ _ _ _) ?_
  conv => whnf
  refine condS (fun h => ?_) (fun h => ?_)
  · conv => whnf
    exact FrzK.le (Le.refl _)
  conv => whnf
  have hb : b.length ≤ 2500 ∧ r.length ≤ 200 := by
    simp only [Bool.not_eq_false', Bool.and_eq_true, decide_eq_true_eq] at h
    omega
  have hl := repB_len f x a n b r
  refine Ev.call (Reply_ev f x a n b r hn0 hn1 hb.1 (by omega)) ?_
  conv => whnf
  refine Ev.call (rReply_ev f x a n b r hn0 hn1 hb.1 (by omega)) ?_
  conv => whnf
  refine Ev.call (bytes_same _) ?_
  conv => whnf
  refine condF (fun h => ?_) (fun h => ?_)
  · simp at h
  conv => whnf
  have e : decide (((repB f x a n b r).length : Int) ≤ 253) = true := by simp; omega
  rw [e]
  exact FrzK.le (Le.refl _)
end Go.Proofs.Ytomodeliimnddaa
