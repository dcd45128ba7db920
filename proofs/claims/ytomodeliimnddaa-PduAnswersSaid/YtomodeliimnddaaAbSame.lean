/- Contracts: requests that are alike. -/
import Derived.Test.YtomodeliimnddaaAbEq
set_option linter.unusedVariables false
set_option linter.unusedSimpArgs false
namespace Go.Proofs.Ytomodeliimnddaa
open Go.Ab
def reqA (f a n a2 : Int) (b r : AV) : AV := .agg [.int .u8 f, .int .u16 a, .int .u16 n, .int .u16 a2, b, r]
/- rung/pdu.same -/
def a110 : ACode := (.seq (.reg [⟨(some 2), .box (.t 0), none, false⟩, ⟨(some 3), .box (.t 1), none, false⟩, ⟨(some 4), .mov (.c (.bool false)), none, false⟩])
 (.seq (.reg [⟨(some 5), .fld 0 1 false (.t 2), none, false⟩, ⟨(some 6), .load false 1 (.t 5), none, false⟩, ⟨(some 7), .fld 0 1 false (.t 3), none, false⟩, ⟨(some 8), .load false 1 (.t 7), none, false⟩, ⟨(some 9), .bin .eql .other (.t 6) (.t 8), none, false⟩, ⟨(some 10), .mov (.t 9), none, true⟩, ⟨(some 11), .fld 1 1 false (.t 2), (some (10, true)), false⟩, ⟨(some 12), .load false 1 (.t 11), (some (10, true)), false⟩, ⟨(some 13), .fld 1 1 false (.t 3), (some (10, true)), false⟩, ⟨(some 14), .load false 1 (.t 13), (some (10, true)), false⟩, ⟨(some 15), .bin .eql .other (.t 12) (.t 14), (some (10, true)), false⟩, ⟨(some 16), .pick (.t 10) (.t 15) (.c (.bool false)), none, false⟩, ⟨(some 17), .mov (.t 16), none, true⟩, ⟨(some 18), .fld 2 1 false (.t 2), (some (17, true)), false⟩, ⟨(some 19), .load false 1 (.t 18), (some (17, true)), false⟩, ⟨(some 20), .fld 2 1 false (.t 3), (some (17, true)), false⟩, ⟨(some 21), .load false 1 (.t 20), (some (17, true)), false⟩, ⟨(some 22), .bin .eql .other (.t 19) (.t 21), (some (17, true)), false⟩, ⟨(some 23), .pick (.t 17) (.t 22) (.c (.bool false)), none, false⟩, ⟨(some 24), .mov (.t 23), none, true⟩, ⟨(some 25), .fld 3 1 false (.t 2), (some (24, true)), false⟩, ⟨(some 26), .load false 1 (.t 25), (some (24, true)), false⟩, ⟨(some 27), .fld 3 1 false (.t 3), (some (24, true)), false⟩, ⟨(some 28), .load false 1 (.t 27), (some (24, true)), false⟩, ⟨(some 29), .bin .eql .other (.t 26) (.t 28), (some (24, true)), false⟩, ⟨(some 30), .pick (.t 24) (.t 29) (.c (.bool false)), none, false⟩, ⟨(some 31), .mov (.t 30), none, true⟩, ⟨(some 32), .fld 4 1 false (.t 2), (some (31, true)), false⟩, ⟨(some 33), .load false 1 (.t 32), (some (31, true)), false⟩, ⟨(some 34), .fld 4 1 false (.t 3), (some (31, true)), false⟩, ⟨(some 35), .load false 1 (.t 34), (some (31, true)), false⟩, ⟨(some 36), .call 119 [(.t 33), (.t 35)], (some (31, true)), false⟩, ⟨(some 37), .pick (.t 31) (.t 36) (.c (.bool false)), none, false⟩, ⟨(some 38), .mov (.t 37), none, true⟩, ⟨(some 39), .fld 5 1 false (.t 2), (some (38, true)), false⟩, ⟨(some 40), .load false 1 (.t 39), (some (38, true)), false⟩, ⟨(some 41), .fld 5 1 false (.t 3), (some (38, true)), false⟩, ⟨(some 42), .load false 1 (.t 41), (some (38, true)), false⟩, ⟨(some 43), .call 120 [(.t 40), (.t 42)], (some (38, true)), false⟩, ⟨(some 44), .pick (.t 38) (.t 43) (.c (.bool false)), none, false⟩, ⟨(some 4), .mov (.t 44), none, false⟩])
 .ret))
def r110 : List ARes := [.t 4]
theorem c110 : compF Try.prog Try.f110 = some (a110, r110) := by kernel_rfl

theorem b110 : hasBody Try.prog 110 = true := by kernel_rfl
theorem g110 : Try.prog.funcs[110]? = some Try.f110 := by kernel_rfl

theorem same_tr (f a n a2 f' a' n' a2' : Int) (b b' : List Bool) (r r' : List Int) (hb : b.length ≤ 100000) (hr : r.length ≤ 100000) :
    Tr Try.prog 110 [reqA f a n a2 (.roB b) (.roI .u16 r), reqA f' a' n' a2' (.roB b') (.roI .u16 r')] ⟨0, []⟩ fun v s => v = .bool (f == f' && a == a' && n == n' && a2 == a2' && b == b' && r == r') ∧ s = ⟨0, []⟩ := by
  refine Tr.norm (K := fun v s => v = .bool (f == f' && a == a' && n == n' && a2 == a2' && b == b' && r == r')) ?_ fun v s hv => ?_
  · refine trOf g110 b110 c110 ?_
    conv => whnf
    refine condF (fun h1 => ?_) (fun h1 => ?_)
    · conv => whnf
      simp only [h1, Bool.false_and]
    conv => whnf
    refine condF (fun h2 => ?_) (fun h2 => ?_)
    · conv => whnf
      simp only [h1, h2, Bool.false_and, Bool.true_and]
    conv => whnf
    refine condF (fun h3 => ?_) (fun h3 => ?_)
    · conv => whnf
      simp only [h1, h2, h3, Bool.false_and, Bool.true_and]
    conv => whnf
    refine condF (fun h4 => ?_) (fun h4 => ?_)
    · conv => whnf
      simp only [h1, h2, h3, h4, Bool.false_and, Bool.true_and]
    conv => whnf
    refine Tr.call [] (equalB_tr b b' hb) rfl rfl trivial rfl fun v s ⟨hv, hs⟩ => ?_
    subst hv; subst hs
    conv => whnf
    refine condF (fun h5 => ?_) (fun h5 => ?_)
    · conv => whnf
      simp only [h1, h2, h3, h4, h5, Bool.false_and, Bool.true_and]
    conv => whnf
    refine Tr.call [] (equal16_tr r r' hr) rfl rfl trivial rfl fun v s ⟨hv, hs⟩ => ?_
    subst hv; subst hs
    conv => whnf
    simp only [h1, h2, h3, h4, h5, Bool.true_and]
  · subst hv
    refine ⟨_, _, ?_, rfl, rfl⟩
    exact ⟨[], rfl, rfl, rfl, ⟨⟨rfl, rfl⟩, trivial⟩, trivial⟩
/- rung/runghelp.Request -/
def a52 : ACode := (.seq (.reg [⟨(some 2), .box (.t 0), none, false⟩, ⟨(some 3), .box (.t 1), none, false⟩, ⟨(some 4), .mov (.c (.bool false)), none, false⟩])
 (.seq (.reg [⟨(some 5), .fld 0 1 false (.t 2), none, false⟩, ⟨(some 6), .load false 1 (.t 5), none, false⟩, ⟨(some 7), .fld 0 1 false (.t 3), none, false⟩, ⟨(some 8), .load false 1 (.t 7), none, false⟩, ⟨(some 9), .bin .eql .other (.t 6) (.t 8), none, false⟩, ⟨(some 10), .mov (.t 9), none, true⟩, ⟨(some 11), .fld 1 1 false (.t 2), (some (10, true)), false⟩, ⟨(some 12), .load false 1 (.t 11), (some (10, true)), false⟩, ⟨(some 13), .fld 1 1 false (.t 3), (some (10, true)), false⟩, ⟨(some 14), .load false 1 (.t 13), (some (10, true)), false⟩, ⟨(some 15), .bin .eql .other (.t 12) (.t 14), (some (10, true)), false⟩, ⟨(some 16), .pick (.t 10) (.t 15) (.c (.bool false)), none, false⟩, ⟨(some 17), .mov (.t 16), none, true⟩, ⟨(some 18), .fld 2 1 false (.t 2), (some (17, true)), false⟩, ⟨(some 19), .load false 1 (.t 18), (some (17, true)), false⟩, ⟨(some 20), .fld 2 1 false (.t 3), (some (17, true)), false⟩, ⟨(some 21), .load false 1 (.t 20), (some (17, true)), false⟩, ⟨(some 22), .bin .eql .other (.t 19) (.t 21), (some (17, true)), false⟩, ⟨(some 23), .pick (.t 17) (.t 22) (.c (.bool false)), none, false⟩, ⟨(some 24), .mov (.t 23), none, true⟩, ⟨(some 25), .fld 3 1 false (.t 2), (some (24, true)), false⟩, ⟨(some 26), .load false 1 (.t 25), (some (24, true)), false⟩, ⟨(some 27), .fld 3 1 false (.t 3), (some (24, true)), false⟩, ⟨(some 28), .load false 1 (.t 27), (some (24, true)), false⟩, ⟨(some 29), .bin .eql .other (.t 26) (.t 28), (some (24, true)), false⟩, ⟨(some 30), .pick (.t 24) (.t 29) (.c (.bool false)), none, false⟩, ⟨(some 31), .mov (.t 30), none, true⟩, ⟨(some 32), .fld 4 1 false (.t 2), (some (31, true)), false⟩, ⟨(some 33), .load false 1 (.t 32), (some (31, true)), false⟩, ⟨(some 34), .fld 4 1 false (.t 3), (some (31, true)), false⟩, ⟨(some 35), .load false 1 (.t 34), (some (31, true)), false⟩, ⟨(some 36), .call 63 [(.t 33), (.t 35)], (some (31, true)), false⟩, ⟨(some 37), .pick (.t 31) (.t 36) (.c (.bool false)), none, false⟩, ⟨(some 38), .mov (.t 37), none, true⟩, ⟨(some 39), .fld 5 1 false (.t 2), (some (38, true)), false⟩, ⟨(some 40), .load false 1 (.t 39), (some (38, true)), false⟩, ⟨(some 41), .fld 5 1 false (.t 3), (some (38, true)), false⟩, ⟨(some 42), .load false 1 (.t 41), (some (38, true)), false⟩, ⟨(some 43), .call 35 [(.t 40), (.t 42)], (some (38, true)), false⟩, ⟨(some 44), .pick (.t 38) (.t 43) (.c (.bool false)), none, false⟩, ⟨(some 4), .mov (.t 44), none, false⟩])
 .ret))
def r52 : List ARes := [.t 4]
theorem c52 : compF Try.prog Try.f52 = some (a52, r52) := by kernel_rfl

theorem b52 : hasBody Try.prog 52 = true := by kernel_rfl
theorem g52 : Try.prog.funcs[52]? = some Try.f52 := by kernel_rfl

theorem hreq_tr (f a n a2 f' a' n' a2' : Int) (b b' : List Bool) (r r' : List Int) (hb : b.length ≤ 100000) (hr : r.length ≤ 100000) :
    Tr Try.prog 52 [reqA f a n a2 (.roB b) (.roI .u16 r), reqA f' a' n' a2' (.roB b') (.roI .u16 r')] ⟨0, []⟩ fun v s => v = .bool (f == f' && a == a' && n == n' && a2 == a2' && b == b' && r == r') ∧ s = ⟨0, []⟩ := by
  refine Tr.norm (K := fun v s => v = .bool (f == f' && a == a' && n == n' && a2 == a2' && b == b' && r == r')) ?_ fun v s hv => ?_
  · refine trOf g52 b52 c52 ?_
    conv => whnf
    refine condF (fun h1 => ?_) (fun h1 => ?_)
    · conv => whnf
      simp only [h1, Bool.false_and]
    conv => whnf
    refine condF (fun h2 => ?_) (fun h2 => ?_)
    · conv => whnf
      simp only [h1, h2, Bool.false_and, Bool.true_and]
    conv => whnf
    refine condF (fun h3 => ?_) (fun h3 => ?_)
    · conv => whnf
      simp only [h1, h2, h3, Bool.false_and, Bool.true_and]
    conv => whnf
    refine condF (fun h4 => ?_) (fun h4 => ?_)
    · conv => whnf
      simp only [h1, h2, h3, h4, Bool.false_and, Bool.true_and]
    conv => whnf
    refine Tr.call [] (hbits_tr b b' hb) rfl rfl trivial rfl fun v s ⟨hv, hs⟩ => ?_
    subst hv; subst hs
    conv => whnf
    refine condF (fun h5 => ?_) (fun h5 => ?_)
    · conv => whnf
      simp only [h1, h2, h3, h4, h5, Bool.false_and, Bool.true_and]
    conv => whnf
    refine Tr.call [] (hregs_tr r r' hr) rfl rfl trivial rfl fun v s ⟨hv, hs⟩ => ?_
    subst hv; subst hs
    conv => whnf
    simp only [h1, h2, h3, h4, h5, Bool.true_and]
  · subst hv
    refine ⟨_, _, ?_, rfl, rfl⟩
    exact ⟨[], rfl, rfl, rfl, ⟨⟨rfl, rfl⟩, trivial⟩, trivial⟩
def repA (f x a n : Int) (b r : AV) : AV := .agg [.int .u8 f, .int .u8 x, .int .u16 a, .int .u16 n, b, r]
/- rung/runghelp.Reply -/
def a60 : ACode := (.seq (.reg [⟨(some 2), .box (.t 0), none, false⟩, ⟨(some 3), .box (.t 1), none, false⟩, ⟨(some 4), .mov (.c (.bool false)), none, false⟩])
 (.seq (.reg [⟨(some 5), .fld 0 1 false (.t 2), none, false⟩, ⟨(some 6), .load false 1 (.t 5), none, false⟩, ⟨(some 7), .fld 0 1 false (.t 3), none, false⟩, ⟨(some 8), .load false 1 (.t 7), none, false⟩, ⟨(some 9), .bin .eql .other (.t 6) (.t 8), none, false⟩, ⟨(some 10), .mov (.t 9), none, true⟩, ⟨(some 11), .fld 1 1 false (.t 2), (some (10, true)), false⟩, ⟨(some 12), .load false 1 (.t 11), (some (10, true)), false⟩, ⟨(some 13), .fld 1 1 false (.t 3), (some (10, true)), false⟩, ⟨(some 14), .load false 1 (.t 13), (some (10, true)), false⟩, ⟨(some 15), .bin .eql .other (.t 12) (.t 14), (some (10, true)), false⟩, ⟨(some 16), .pick (.t 10) (.t 15) (.c (.bool false)), none, false⟩, ⟨(some 17), .mov (.t 16), none, true⟩, ⟨(some 18), .fld 2 1 false (.t 2), (some (17, true)), false⟩, ⟨(some 19), .load false 1 (.t 18), (some (17, true)), false⟩, ⟨(some 20), .fld 2 1 false (.t 3), (some (17, true)), false⟩, ⟨(some 21), .load false 1 (.t 20), (some (17, true)), false⟩, ⟨(some 22), .bin .eql .other (.t 19) (.t 21), (some (17, true)), false⟩, ⟨(some 23), .pick (.t 17) (.t 22) (.c (.bool false)), none, false⟩, ⟨(some 24), .mov (.t 23), none, true⟩, ⟨(some 25), .fld 3 1 false (.t 2), (some (24, true)), false⟩, ⟨(some 26), .load false 1 (.t 25), (some (24, true)), false⟩, ⟨(some 27), .fld 3 1 false (.t 3), (some (24, true)), false⟩, ⟨(some 28), .load false 1 (.t 27), (some (24, true)), false⟩, ⟨(some 29), .bin .eql .other (.t 26) (.t 28), (some (24, true)), false⟩, ⟨(some 30), .pick (.t 24) (.t 29) (.c (.bool false)), none, false⟩, ⟨(some 31), .mov (.t 30), none, true⟩, ⟨(some 32), .fld 4 1 false (.t 2), (some (31, true)), false⟩, ⟨(some 33), .load false 1 (.t 32), (some (31, true)), false⟩, ⟨(some 34), .fld 4 1 false (.t 3), (some (31, true)), false⟩, ⟨(some 35), .load false 1 (.t 34), (some (31, true)), false⟩, ⟨(some 36), .call 63 [(.t 33), (.t 35)], (some (31, true)), false⟩, ⟨(some 37), .pick (.t 31) (.t 36) (.c (.bool false)), none, false⟩, ⟨(some 38), .mov (.t 37), none, true⟩, ⟨(some 39), .fld 5 1 false (.t 2), (some (38, true)), false⟩, ⟨(some 40), .load false 1 (.t 39), (some (38, true)), false⟩, ⟨(some 41), .fld 5 1 false (.t 3), (some (38, true)), false⟩, ⟨(some 42), .load false 1 (.t 41), (some (38, true)), false⟩, ⟨(some 43), .call 35 [(.t 40), (.t 42)], (some (38, true)), false⟩, ⟨(some 44), .pick (.t 38) (.t 43) (.c (.bool false)), none, false⟩, ⟨(some 4), .mov (.t 44), none, false⟩])
 .ret))
def r60 : List ARes := [.t 4]
theorem c60 : compF Try.prog Try.f60 = some (a60, r60) := by kernel_rfl

theorem b60 : hasBody Try.prog 60 = true := by kernel_rfl
theorem g60 : Try.prog.funcs[60]? = some Try.f60 := by kernel_rfl

theorem hrep_tr (f a n a2 f' a' n' a2' : Int) (b b' : List Bool) (r r' : List Int) (hb : b.length ≤ 100000) (hr : r.length ≤ 100000) :
    Tr Try.prog 60 [repA f a n a2 (.roB b) (.roI .u16 r), repA f' a' n' a2' (.roB b') (.roI .u16 r')] ⟨0, []⟩ fun v s => v = .bool (f == f' && a == a' && n == n' && a2 == a2' && b == b' && r == r') ∧ s = ⟨0, []⟩ := by
  refine Tr.norm (K := fun v s => v = .bool (f == f' && a == a' && n == n' && a2 == a2' && b == b' && r == r')) ?_ fun v s hv => ?_
  · refine trOf g60 b60 c60 ?_
    conv => whnf
    refine condF (fun h1 => ?_) (fun h1 => ?_)
    · conv => whnf
      simp only [h1, Bool.false_and]
    conv => whnf
    refine condF (fun h2 => ?_) (fun h2 => ?_)
    · conv => whnf
      simp only [h1, h2, Bool.false_and, Bool.true_and]
    conv => whnf
    refine condF (fun h3 => ?_) (fun h3 => ?_)
    · conv => whnf
      simp only [h1, h2, h3, Bool.false_and, Bool.true_and]
    conv => whnf
    refine condF (fun h4 => ?_) (fun h4 => ?_)
    · conv => whnf
      simp only [h1, h2, h3, h4, Bool.false_and, Bool.true_and]
    conv => whnf
    refine Tr.call [] (hbits_tr b b' hb) rfl rfl trivial rfl fun v s ⟨hv, hs⟩ => ?_
    subst hv; subst hs
    conv => whnf
    refine condF (fun h5 => ?_) (fun h5 => ?_)
    · conv => whnf
      simp only [h1, h2, h3, h4, h5, Bool.false_and, Bool.true_and]
    conv => whnf
    refine Tr.call [] (hregs_tr r r' hr) rfl rfl trivial rfl fun v s ⟨hv, hs⟩ => ?_
    subst hv; subst hs
    conv => whnf
    simp only [h1, h2, h3, h4, h5, Bool.true_and]
  · subst hv
    refine ⟨_, _, ?_, rfl, rfl⟩
    exact ⟨[], rfl, rfl, rfl, ⟨⟨rfl, rfl⟩, trivial⟩, trivial⟩
end Go.Proofs.Ytomodeliimnddaa
