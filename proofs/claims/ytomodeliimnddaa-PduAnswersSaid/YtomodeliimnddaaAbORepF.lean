/- Contracts: bytes read as replies: pdu, with its clones. -/
import Derived.Test.YtomodeliimnddaaAbClone
import Derived.Test.YtomodeliimnddaaAbORep
set_option linter.unusedVariables false
set_option linter.unusedSimpArgs false
namespace Go.Proofs.Ytomodeliimnddaa
open Go.Ab

set_option maxRecDepth 20000 in
set_option maxHeartbeats 4000000 in
theorem OpenReplyF_raw (f a n a2 : Int) (b : List Bool) (r : List Int) (l : List Int) (hn0 : 0 ≤ n) (hn1 : n < 65536) (hb : b.length ≤ 2500) (hr : r.length ≤ 200) (hl : l.length ≤ 1000) :
    Tr Try.prog 58 [reqA f a n a2 (.roB b) (.roI .u16 r), .roI .u8 l] ⟨0, []⟩ (FrzK (.tup [rpA (orepS ⟨f, a, n, a2, b, r⟩ l).1, .int .i64 (orepS ⟨f, a, n, a2, b, r⟩ l).2])) := by
  refine trF g58 b58 c58 ?_
  conv => whnf
  refine Ev.call (Request_ev f a n a2 b r hn0 hn1 hb (by omega)) ?_
  conv => whnf
  repeat' (first
    | (refine condY (by assumption) ?_; conv => whnf)
    | (refine condN (by assumption) ?_; conv => whnf)
    | (refine condT (by first | assumption | (simp; omega) | (simp_all; done) | (simp_all; omega)) ?_; conv => whnf)
    | (refine condF (fun h => ?_) (fun h => ?_) <;> conv => whnf)
    | (refine ⟨rfl, ?_⟩; conv => whnf)
    | (refine Ev.call (cloneB_ev _ (by omega)) ?_; conv => whnf)
    | (refine Ev.call (cloneI_ev _ (by omega)) ?_; conv => whnf)
    | (refine Ev.call (numbers_ev _ (by first | omega | (simp [cutF, numsN_length, bitsA_length]; done) | (simp [cutF, numsN_length, bitsA_length]; omega) | (simp_all; omega))) ?_; conv => whnf)
    | (refine Ev.call (bits_ev _ _ (by first | omega | (simp [cutF, numsN_length, bitsA_length]; done) | (simp [cutF, numsN_length, bitsA_length]; omega) | (simp_all; omega))) ?_; conv => whnf)
    | (refine Tr.le (leRepN (by first | exact Le.refl _ | exact Le.nilB) (by first | exact Le.refl _ | exact Le.nilI _)) (Ev.call (Reply_ev _ _ _ _ _ _ (by first | decide | exact (wrap16_range _).1) (by first | decide | exact (wrap16_range _).2) (by first | omega | (simp [cutF, numsN_length, bitsA_length]; done) | (simp [cutF, numsN_length, bitsA_length]; omega) | (simp_all; omega)) (by first | omega | (simp [cutF, numsN_length, bitsA_length]; done) | (simp [cutF, numsN_length, bitsA_length]; omega) | (simp_all; omega))) ?_); conv => whnf)
    | (refine Ev.call (equal8_ev _ _ (Nat.le_trans (repB_len _ _ _ _ _ _) (by omega))) ?_; conv => whnf)
    )
  all_goals (try simp only [show Int.toNat 0 = 0 from rfl, show Int.toNat 1 = 1 from rfl, show Int.toNat 2 = 2 from rfl] at *)
  all_goals (try have hx : (l.getD 0 0 == or128 f) = false := by assumption)
  all_goals (try have hx : (l.getD 0 0 == or128 f) = true := by assumption)
  all_goals (generalize ho : orepS ⟨f, a, n, a2, b, r⟩ l = o; simp only [orepS, orepT, cutF, nB, *, if_true, if_false, Bool.false_eq_true, Bool.or_false, Bool.false_or, Bool.true_or, Bool.or_true, Bool.and_true, Bool.true_and, Bool.false_and, Bool.and_false] at ho)
  all_goals (try (first | rw [finS_yes _ _ (by assumption) (by assumption)] at ho | rw [finS_no1 _ _ (by assumption)] at ho | rw [finS_no2 _ _ (by assumption)] at ho))
  all_goals (try (first | erw [if_pos h] at ho | erw [if_neg (fun e => Bool.noConfusion (e.symm.trans h))] at ho))
  all_goals subst ho
  all_goals first
    | exact FrzK.le (leRep rfl rfl rfl rfl (by first | exact Le.refl _ | exact Le.nilB) (by first | exact Le.refl _ | exact Le.nilI _) rfl)
theorem OpenReplyF_ev (f a n a2 : Int) (b : List Bool) (r : List Int) (l : List Int) (hn0 : 0 ≤ n) (hn1 : n < 65536) (hb : b.length ≤ 2500) (hr : r.length ≤ 200) (hl : l.length ≤ 1000) :
    Ev Try.prog 58 [reqA f a n a2 (.roB b) (.roI .u16 r), .roI .u8 l] (.tup [rpA (orepS ⟨f, a, n, a2, b, r⟩ l).1, .int .i64 (orepS ⟨f, a, n, a2, b, r⟩ l).2]) := FrzK.ev rfl (OpenReplyF_raw f a n a2 b r l hn0 hn1 hb hr hl)
end Go.Proofs.Ytomodeliimnddaa
