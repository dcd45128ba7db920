/- Statements of layer 3: of any request and any bytes it is told as the document says whether they answer it. -/
import Derived.Test.YtomodeliimnddaaAbORepF
import Derived.Test.YtomodeliimnddaaAbPlain4
set_option linter.unusedVariables false
set_option linter.unusedSimpArgs false
namespace Go.Proofs.Ytomodeliimnddaa
open Go.Ab
/- rung/runglaw3.PduAnswers -/
def a8 : ACode := (.seq (.reg [⟨(some 2), .box (.t 0), none, false⟩, ⟨(some 4), .mov (.c (.bool false)), none, false⟩])
 (.seq (.seq (.reg [⟨(some 9), .call 46 [], none, false⟩, ⟨(some 10), .un .not (.t 9), none, false⟩])
 (.cond (.t 10) (.seq (.reg [⟨(some 4), .mov (.c (.bool false)), none, false⟩])
 .ret)
 .skip))
 (.seq (.seq (.reg [⟨(some 11), .load true 6 (.t 2), none, false⟩, ⟨(some 12), .call 47 [(.t 11)], none, false⟩, ⟨(some 13), .un .not (.t 12), none, false⟩, ⟨(some 14), .mov (.t 13), none, true⟩, ⟨(some 15), .mov (.t 1), (some (14, false)), false⟩, ⟨(some 16), .len false (.t 15), (some (14, false)), false⟩, ⟨(some 17), .bin .gtr .other (.t 16) (.c (.int .i64 400)), (some (14, false)), false⟩, ⟨(some 18), .pick (.t 14) (.c (.bool true)) (.t 17), none, false⟩])
 (.cond (.t 18) (.seq (.reg [⟨(some 4), .mov (.c (.bool true)), none, false⟩])
 .ret)
 .skip))
 (.seq (.reg [⟨(some 20), .load true 6 (.t 2), none, false⟩, ⟨(some 21), .mov (.t 1), none, false⟩, ⟨(some 22), .call 58 [(.t 20), (.t 21)], none, false⟩, ⟨(some 19), .mov (.t 22), none, false⟩, ⟨(some 23), .ext (.t 19) 0, none, false⟩, ⟨(some 24), .ext (.t 19) 1, none, false⟩, ⟨(some 5), .alloc [(2, (.int .u8 0)), (2, (.int .u16 0)), (2, .nils)], none, false⟩, ⟨none, .store 6 (.t 5) (.t 23), none, false⟩, ⟨(some 6), .mov (.t 24), none, false⟩])
 (.seq (.reg [⟨(some 26), .load true 6 (.t 2), none, false⟩, ⟨(some 27), .mov (.t 1), none, false⟩, ⟨(some 28), .call 59 [(.t 26), (.t 27)], none, false⟩, ⟨(some 25), .mov (.t 28), none, false⟩, ⟨(some 29), .ext (.t 25) 0, none, false⟩, ⟨(some 30), .ext (.t 25) 1, none, false⟩, ⟨(some 7), .alloc [(2, (.int .u8 0)), (2, (.int .u16 0)), (2, .nils)], none, false⟩, ⟨none, .store 6 (.t 7) (.t 29), none, false⟩, ⟨(some 8), .mov (.t 30), none, false⟩])
 (.seq (.reg [⟨(some 31), .mov (.t 6), none, false⟩, ⟨(some 32), .mov (.t 8), none, false⟩, ⟨(some 33), .bin .eql .other (.t 31) (.t 32), none, false⟩, ⟨(some 34), .mov (.t 33), none, true⟩, ⟨(some 35), .load true 6 (.t 5), (some (34, true)), false⟩, ⟨(some 36), .load true 6 (.t 7), (some (34, true)), false⟩, ⟨(some 37), .call 60 [(.t 35), (.t 36)], (some (34, true)), false⟩, ⟨(some 38), .pick (.t 34) (.t 37) (.c (.bool false)), none, false⟩, ⟨(some 4), .mov (.t 38), none, false⟩])
 .ret))))))
def r8 : List ARes := [.t 4]
theorem c8 : compF Try.prog Try.f8 = some (a8, r8) := by kernel_rfl


theorem b8 : hasBody Try.prog 8 = true := by kernel_rfl
theorem g8 : Try.prog.funcs[8]? = some Try.f8 := by kernel_rfl
theorem hrep_same (f a n a2 : Int) (b : List Bool) (r : List Int) (hb : b.length ≤ 100000) (hr : r.length ≤ 100000) :
    Ev Try.prog 60 [repA f a n a2 (.roB b) (.roI .u16 r), repA f a n a2 (.roB b) (.roI .u16 r)] (.bool true) := by
  have h : Ev Try.prog 60 [repA f a n a2 (.roB b) (.roI .u16 r), repA f a n a2 (.roB b) (.roI .u16 r)] (.bool (f == f && a == a && n == n && a2 == a2 && b == b && r == r)) := ⟨rfl, hrep_tr f a n a2 f a n a2 b b r r hb hr⟩
  simp only [beq_self_eq_true, Bool.and_self] at h
  exact h
def SmallP (x : Rp × Int) : Prop := x.1.b.length ≤ 100000 ∧ x.1.r.length ≤ 100000
theorem SmallP.ite {c : Prop} [Decidable c] {a b : Rp × Int} (ha : SmallP a) (hb : SmallP b) : SmallP (if c then a else b) := by
  split
  · exact ha
  · exact hb
theorem orep_len (q : Rq) (l : List Int) (hb : q.b.length ≤ 2500) (hr : q.r.length ≤ 200) (hl : l.length ≤ 1000) : SmallP (orepS q l) := by
  have h2 := bitsK_le (IntKind.i64.wrap q.n)
  have h3 : SmallP (Rp.zero, 30) := ⟨by decide, by decide⟩
  have h4 : ∀ f x a n : Int, SmallP (⟨f, x, a, n, [], []⟩, 0) := fun f x a n => ⟨Nat.zero_le _, Nat.zero_le _⟩
  have h5 : ∀ f x a n : Int, SmallP (⟨f, x, a, n, bitsA (cutF l 2) (bitsK (IntKind.i64.wrap q.n)), []⟩, 0) := fun f x a n => ⟨by show (bitsA _ _).length ≤ _; rw [bitsA_length]; omega, Nat.zero_le _⟩
  have h6 : ∀ f x a n : Int, SmallP (⟨f, x, a, n, [], numsN (cutF l 2) ((cutF l 2).length / 2)⟩, 0) := fun f x a n => ⟨Nat.zero_le _, by show (numsN _ _).length ≤ _; rw [numsN_length, cutF_eq, List.length_drop]; omega⟩
  have h7 : ∀ f x a n : Int, SmallP (⟨f, x, a, n, q.b, q.r⟩, 0) := fun f x a n => ⟨by show q.b.length ≤ _; omega, by show q.r.length ≤ _; omega⟩
  have fin : ∀ p : Rp, SmallP (p, 0) → SmallP (finS l p) := fun p h => SmallP.ite h h3
  unfold orepS orepT
  repeat' apply SmallP.ite
  all_goals first
    | exact h3
    | exact h4 _ _ _ _
    | exact h5 _ _ _ _
    | exact h6 _ _ _ _
    | exact h7 _ _ _ _
    | exact fin _ (h4 _ _ _ _)
    | exact fin _ (h6 _ _ _ _)
    | exact fin _ (h7 _ _ _ _)
set_option maxRecDepth 20000 in
theorem law8 (f a n a2 : Int) (b : List Bool) (r : List Int) (l : List Int) (hf : 0 ≤ f ∧ f < 256) (hn : 0 ≤ n ∧ n < 65536) (hB : ∀ x ∈ l, 0 ≤ x ∧ x < 256) :
    Ev Try.prog 8 [reqA f a n a2 (.roB b) (.roI .u16 r), .roI .u8 l] (.bool true) := by
  refine FrzK.ev rfl (trF g8 b8 c8 ?_)
  conv => whnf
  refine Ev.call known3 ?_
  conv => whnf
  refine Ev.call (light_ev _ _ _ _ _ _) ?_
  conv => whnf
  refine condS (fun h => ?_) (fun h => ?_)
  · conv => whnf
    exact FrzK.le (Le.refl _)
  conv => whnf
  have hb : b.length ≤ 2500 ∧ r.length ≤ 200 := by
    simp only [Bool.not_eq_false', Bool.and_eq_true, decide_eq_true_eq] at h
    omega
  refine condS (fun h => ?_) (fun h => ?_)
  · conv => whnf
    exact FrzK.le (Le.refl _)
  conv => whnf
  have hl : l.length ≤ 400 := by simp at h; omega
  have hO := OpenReplyF_ev f a n a2 b r l hn.1 hn.2 hb.1 hb.2 (by omega)
  have hS := rOpenReply_ev f a n a2 b r l hf hn.1 hn.2 hb.1 hb.2 (by omega) hB
  rw [← orep_same f a n a2 b r l hn hB (by omega)] at hS
  have hq := orep_len ⟨f, a, n, a2, b, r⟩ l hb.1 hb.2 (by omega)
  generalize orepS ⟨f, a, n, a2, b, r⟩ l = d at *
  obtain ⟨⟨f', x', a', n', b', r'⟩, e⟩ := d
  refine Ev.call hO ?_
  conv => whnf
  refine Ev.call hS ?_
  conv => whnf
  refine condY (by simp) ?_
  conv => whnf
  refine Ev.call (hrep_same f' x' a' n' b' r' hq.1 hq.2) ?_
  conv => whnf
  exact FrzK.le (Le.refl _)
end Go.Proofs.Ytomodeliimnddaa
