/- Statements of layer 3: requests are written as the document says, and read back. -/
import Derived.Test.YtomodeliimnddaaAbLaw7
import Derived.Test.YtomodeliimnddaaAbPlain1
set_option linter.unusedVariables false
set_option linter.unusedSimpArgs false
namespace Go.Proofs.Ytomodeliimnddaa
open Go.Ab
/- rung/runglaw3.PduRequests -/
def a5 : ACode := (.seq (.reg [⟨(some 1), .box (.t 0), none, false⟩, ⟨(some 2), .mov (.c (.bool false)), none, false⟩])
 (.seq (.seq (.reg [⟨(some 9), .call 46 [], none, false⟩, ⟨(some 10), .un .not (.t 9), none, false⟩])
 (.cond (.t 10) (.seq (.reg [⟨(some 2), .mov (.c (.bool false)), none, false⟩])
 .ret)
 .skip))
 (.seq (.seq (.reg [⟨(some 11), .load true 6 (.t 1), none, false⟩, ⟨(some 12), .call 47 [(.t 11)], none, false⟩, ⟨(some 13), .un .not (.t 12), none, false⟩])
 (.cond (.t 13) (.seq (.reg [⟨(some 2), .mov (.c (.bool true)), none, false⟩])
 .ret)
 .skip))
 (.seq (.reg [⟨(some 15), .load true 6 (.t 1), none, false⟩, ⟨(some 16), .call 48 [(.t 15)], none, false⟩, ⟨(some 14), .mov (.t 16), none, false⟩, ⟨(some 17), .ext (.t 14) 0, none, false⟩, ⟨(some 18), .ext (.t 14) 1, none, false⟩, ⟨(some 3), .mov (.t 17), none, false⟩, ⟨(some 4), .mov (.t 18), none, false⟩])
 (.seq (.reg [⟨(some 20), .load true 6 (.t 1), none, false⟩, ⟨(some 21), .call 49 [(.t 20)], none, false⟩, ⟨(some 19), .mov (.t 21), none, false⟩, ⟨(some 22), .ext (.t 19) 0, none, false⟩, ⟨(some 23), .ext (.t 19) 1, none, false⟩, ⟨(some 5), .mov (.t 22), none, false⟩, ⟨(some 6), .mov (.t 23), none, false⟩])
 (.seq (.seq (.reg [⟨(some 24), .mov (.t 3), none, false⟩, ⟨(some 25), .mov (.t 5), none, false⟩, ⟨(some 26), .call 50 [(.t 24), (.t 25)], none, false⟩, ⟨(some 27), .un .not (.t 26), none, false⟩, ⟨(some 28), .mov (.t 27), none, true⟩, ⟨(some 29), .mov (.t 4), (some (28, false)), false⟩, ⟨(some 30), .mov (.t 6), (some (28, false)), false⟩, ⟨(some 31), .bin .neq .other (.t 29) (.t 30), (some (28, false)), false⟩, ⟨(some 32), .pick (.t 28) (.c (.bool true)) (.t 31), none, false⟩, ⟨(some 33), .mov (.t 32), none, true⟩, ⟨(some 34), .mov (.t 3), (some (33, false)), false⟩, ⟨(some 35), .len false (.t 34), (some (33, false)), false⟩, ⟨(some 36), .bin .gtr .other (.t 35) (.c (.int .i64 253)), (some (33, false)), false⟩, ⟨(some 37), .pick (.t 33) (.c (.bool true)) (.t 36), none, false⟩])
 (.cond (.t 37) (.seq (.reg [⟨(some 2), .mov (.c (.bool false)), none, false⟩])
 .ret)
 .skip))
 (.seq (.seq (.reg [⟨(some 38), .mov (.t 6), none, false⟩, ⟨(some 39), .bin .neq .other (.t 38) (.c (.int .i64 0)), none, false⟩])
 (.cond (.t 39) (.seq (.reg [⟨(some 2), .mov (.c (.bool true)), none, false⟩])
 .ret)
 .skip))
 (.seq (.reg [⟨(some 41), .mov (.t 3), none, false⟩, ⟨(some 42), .call 51 [(.t 41)], none, false⟩, ⟨(some 40), .mov (.t 42), none, false⟩, ⟨(some 43), .ext (.t 40) 0, none, false⟩, ⟨(some 44), .ext (.t 40) 1, none, false⟩, ⟨(some 7), .alloc [(1, (.int .u8 0)), (3, (.int .u16 0)), (2, .nils)], none, false⟩, ⟨none, .store 6 (.t 7) (.t 43), none, false⟩, ⟨(some 8), .mov (.t 44), none, false⟩])
 (.seq (.reg [⟨(some 45), .mov (.t 8), none, false⟩, ⟨(some 46), .bin .eql .other (.t 45) (.c (.int .i64 0)), none, false⟩, ⟨(some 47), .mov (.t 46), none, true⟩, ⟨(some 48), .load true 6 (.t 7), (some (47, true)), false⟩, ⟨(some 49), .load true 6 (.t 1), (some (47, true)), false⟩, ⟨(some 50), .call 52 [(.t 48), (.t 49)], (some (47, true)), false⟩, ⟨(some 51), .pick (.t 47) (.t 50) (.c (.bool false)), none, false⟩, ⟨(some 2), .mov (.t 51), none, false⟩])
 .ret)))))))))
def r5 : List ARes := [.t 2]
theorem c5 : compF Try.prog Try.f5 = some (a5, r5) := by kernel_rfl

theorem b5 : hasBody Try.prog 5 = true := by kernel_rfl
theorem g5 : Try.prog.funcs[5]? = some Try.f5 := by kernel_rfl

theorem hreq_ev (f a n a2 f' a' n' a2' : Int) (b b' : List Bool) (r r' : List Int) (hb : b.length ≤ 100000) (hr : r.length ≤ 100000) :
    Ev Try.prog 52 [reqA f a n a2 (.roB b) (.roI .u16 r), reqA f' a' n' a2' (.roB b') (.roI .u16 r')] (.bool (f == f' && a == a' && n == n' && a2 == a2' && b == b' && r == r')) := ⟨rfl, hreq_tr f a n a2 f' a' n' a2' b b' r r' hb hr⟩
theorem hreq_same (f a n a2 : Int) (b : List Bool) (r : List Int) (hb : b.length ≤ 100000) (hr : r.length ≤ 100000) :
    Ev Try.prog 52 [reqA f a n a2 (.roB b) (.roI .u16 r), reqA f a n a2 (.roB b) (.roI .u16 r)] (.bool true) := by
  have h := hreq_ev f a n a2 f a n a2 b b r r hb hr
  simp only [beq_self_eq_true, Bool.and_self] at h
  exact h
theorem encR_len253 (f a n a2 : Int) (b : List Bool) (r : List Int) : (encR f a n a2 b r).length ≤ 253 := by
  unfold encR
  by_cases ho : encOk f n a2 b r = true
  · rw [if_pos ho]
    by_cases h1 : f = 1
    · subst h1; simp [encOk, withinB] at ho; simp [reqS, row15, rowR, pre3, packN_length, twos_length, two8] <;> omega
    by_cases h2 : f = 2
    · subst h2; simp [encOk, withinB] at ho; simp [reqS, row15, rowR, pre3, packN_length, twos_length, two8] <;> omega
    by_cases h3 : f = 3
    · subst h3; simp [encOk, withinB] at ho; simp [reqS, row15, rowR, pre3, packN_length, twos_length, two8] <;> omega
    by_cases h4 : f = 4
    · subst h4; simp [encOk, withinB] at ho; simp [reqS, row15, rowR, pre3, packN_length, twos_length, two8] <;> omega
    by_cases h5 : f = 5
    · subst h5; simp [encOk, withinB] at ho; simp [reqS, row15, rowR, pre3, packN_length, twos_length, two8] <;> omega
    by_cases h6 : f = 6
    · subst h6; simp [encOk, withinB] at ho; simp [reqS, row15, rowR, pre3, packN_length, twos_length, two8] <;> omega
    by_cases h15 : f = 15
    · subst h15; simp [encOk, withinB] at ho; simp [reqS, row15, rowR, pre3, packN_length, twos_length, two8] <;> omega
    by_cases h16 : f = 16
    · subst h16; simp [encOk, withinB] at ho; simp [reqS, row15, rowR, pre3, packN_length, twos_length, two8] <;> omega
    by_cases h22 : f = 22
    · subst h22; simp [encOk, withinB] at ho; simp [reqS, row15, rowR, pre3, packN_length, twos_length, two8] <;> omega
    by_cases h23 : f = 23
    · subst h23; simp [encOk, withinB] at ho; simp [reqS, row15, rowR, pre3, packN_length, twos_length, two8] <;> omega
    simp [encOk, *] at ho
  · rw [if_neg ho]; simp
set_option maxRecDepth 20000 in
theorem law5 (f a n a2 : Int) (b : List Bool) (r : List Int) (hf : 0 ≤ f ∧ f < 256) (ha : 0 ≤ a ∧ a < 65536) (hn : 0 ≤ n ∧ n < 65536) (ha2 : 0 ≤ a2 ∧ a2 < 65536) (hrr : ∀ x ∈ r, 0 ≤ x ∧ x < 65536) : Ev Try.prog 5 [reqA f a n a2 (.roB b) (.roI .u16 r)] (.bool true) := by
  refine FrzK.ev rfl (trF g5 b5 c5 ?_)
  conv => whnf
  refine Ev.call known3 ?_
  conv => whnf
  refine Ev.call (light_ev _ _ _ _ _ _) ?_
  conv => whnf
  refine condS (fun h => ?_) (fun h => ?_)
  · conv => whnf
    exact FrzK.le (Le.refl _)
  conv => whnf
  have hb : b.length ≤ 2500 ∧ r.length ≤ 200 := by
    simp only [Bool.not_eq_false', Bool.and_eq_true, decide_eq_true_eq] at h
    omega
  have hl := encR_len253 f a n a2 b r
  refine Ev.call (Request_ev f a n a2 b r hn.1 hn.2 hb.1 (by omega)) ?_
  conv => whnf
  refine Ev.call (rRequest_ev f a n a2 b r hn.1 hn.2 hb.1 (by omega)) ?_
  conv => whnf
  refine Ev.call (bytes_same _) ?_
  conv => whnf
  refine condN (by simp) ?_
  conv => whnf
  refine condN (by simp; omega) ?_
  conv => whnf
  cases hk : encOk f n a2 b r with
  | false =>
    refine condY (by simp [encE, hk]) ?_
    conv => whnf
    exact FrzK.le (Le.refl _)
  | true =>
    refine condN (by simp [encE, hk]) ?_
    conv => whnf
    have hO := OpenRequest_ev (encR f a n a2 b r) (by omega)
    rw [dec_enc f a n a2 b r hf ha hn ha2 hrr hk] at hO
    refine Ev.call hO ?_
    conv => whnf
    refine Ev.call (hreq_same f a n a2 b r (by omega) (by omega)) ?_
    conv => whnf
    exact FrzK.le (Le.refl _)
end Go.Proofs.Ytomodeliimnddaa
