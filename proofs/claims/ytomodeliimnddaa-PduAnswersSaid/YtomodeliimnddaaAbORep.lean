/- Contracts: bytes read as replies: pdu. -/
import Derived.Test.YtomodeliimnddaaAbKnown3
import Derived.Test.YtomodeliimnddaaAbLaw10
set_option linter.unusedVariables false
set_option linter.unusedSimpArgs false
namespace Go.Proofs.Ytomodeliimnddaa
open Go.Ab
structure Rp where
  f : Int
  x : Int
  a : Int
  n : Int
  b : List Bool
  r : List Int
def rpA (q : Rp) : AV := repA q.f q.x q.a q.n (.roB q.b) (.roI .u16 q.r)
def Rp.zero : Rp := ⟨0, 0, 0, 0, [], []⟩
def finS (l : List Int) (r : Rp) : Rp × Int := if repE r.f r.x r.a r.n r.b r.r == 0 && repB r.f r.x r.a r.n r.b r.r == l then (r, 0) else (Rp.zero, 30)
def nB (n : Int) : Int := IntKind.i64.wrap ((IntKind.i64.wrap (IntKind.i64.wrap n + 7)).tdiv 8)
def orepT (q : Rq) (l : List Int) : Rp × Int :=
  if q.f == 1 then (if l.getD 0 0 != q.f || IntKind.i64.wrap (l.getD 1 0) != nB q.n || (l.length : Int) != IntKind.i64.wrap (nB q.n + 2) then (Rp.zero, 30) else (⟨q.f, 0, 0, 0, bitsA (cutF l 2) (bitsK (IntKind.i64.wrap q.n)), []⟩, 0))
  else if q.f == 2 then (if l.getD 0 0 != q.f || IntKind.i64.wrap (l.getD 1 0) != nB q.n || (l.length : Int) != IntKind.i64.wrap (nB q.n + 2) then (Rp.zero, 30) else (⟨q.f, 0, 0, 0, bitsA (cutF l 2) (bitsK (IntKind.i64.wrap q.n)), []⟩, 0))
  else if q.f == 3 then (if ((numsN (cutF l 2) ((cutF l 2).length / 2)).length : Int) != IntKind.i64.wrap q.n then (Rp.zero, 30) else finS l ⟨q.f, 0, 0, 0, [], numsN (cutF l 2) ((cutF l 2).length / 2)⟩)
  else if q.f == 4 then (if ((numsN (cutF l 2) ((cutF l 2).length / 2)).length : Int) != IntKind.i64.wrap q.n then (Rp.zero, 30) else finS l ⟨q.f, 0, 0, 0, [], numsN (cutF l 2) ((cutF l 2).length / 2)⟩)
  else if q.f == 23 then (if ((numsN (cutF l 2) ((cutF l 2).length / 2)).length : Int) != IntKind.i64.wrap q.n then (Rp.zero, 30) else finS l ⟨q.f, 0, 0, 0, [], numsN (cutF l 2) ((cutF l 2).length / 2)⟩)
  else if q.f == 5 then finS l ⟨q.f, 0, q.a, 0, q.b, q.r⟩
  else if q.f == 6 then finS l ⟨q.f, 0, q.a, 0, q.b, q.r⟩
  else if q.f == 22 then finS l ⟨q.f, 0, q.a, 0, q.b, q.r⟩
  else if q.f == 15 then finS l ⟨q.f, 0, q.a, IntKind.u16.wrap q.b.length, [], []⟩
  else if q.f == 16 then finS l ⟨q.f, 0, q.a, IntKind.u16.wrap q.r.length, [], []⟩
  else finS l ⟨q.f, 0, 0, 0, [], []⟩
def orepS (q : Rq) (l : List Int) : Rp × Int :=
  if encE q.f q.n q.a2 q.b q.r != 0 then (Rp.zero, 30)
  else if decide ((l.length : Int) < 2) then (Rp.zero, 30)
  else if l.getD 0 0 == or128 q.f then (if (l.length : Int) != 2 then (Rp.zero, 30) else if l.getD 1 0 == 0 then (Rp.zero, 30) else (⟨q.f, l.getD 1 0, 0, 0, [], []⟩, 0))
  else orepT q l

theorem finS_yes (l : List Int) (r : Rp) (h1 : (repE r.f r.x r.a r.n r.b r.r != 0) = false) (h2 : (!(repB r.f r.x r.a r.n r.b r.r == l)) = false) : finS l r = (r, 0) := by
  unfold finS
  rw [if_pos (by simp at h1 h2 ⊢; exact ⟨h1, h2⟩)]
theorem finS_no1 (l : List Int) (r : Rp) (h1 : (repE r.f r.x r.a r.n r.b r.r != 0) = true) : finS l r = (Rp.zero, 30) := by
  unfold finS
  rw [if_neg (by simp at h1 ⊢; intro h; exact absurd h h1)]
theorem finS_no2 (l : List Int) (r : Rp) (h2 : (!(repB r.f r.x r.a r.n r.b r.r == l)) = true) : finS l r = (Rp.zero, 30) := by
  unfold finS
  rw [if_neg (by simp at h2 ⊢; intro _; exact h2)]
set_option maxRecDepth 20000 in
set_option maxHeartbeats 4000000 in
theorem OpenReply_raw (f a n a2 : Int) (b : List Bool) (r : List Int) (l : List Int) (hn0 : 0 ≤ n) (hn1 : n < 65536) (hb : b.length ≤ 2500) (hr : r.length ≤ 200) (hl : l.length ≤ 1000) (hc : ((f == 5) = false ∧ (f == 6) = false ∧ (f == 22) = false) ∨ l.length < 2 ∨ (l.getD 0 0 == or128 f) = true) :
    Tr Try.prog 58 [reqA f a n a2 (.roB b) (.roI .u16 r), .roI .u8 l] ⟨0, []⟩ (FrzK (.tup [rpA (orepS ⟨f, a, n, a2, b, r⟩ l).1, .int .i64 (orepS ⟨f, a, n, a2, b, r⟩ l).2])) := by
  refine trF g58 b58 c58 ?_
  conv => whnf
  refine Ev.call (Request_ev f a n a2 b r hn0 hn1 hb (by omega)) ?_
  conv => whnf
  repeat' (first
    | (refine condY (by assumption) ?_; conv => whnf)
    | (refine condN (by assumption) ?_; conv => whnf)
    | (refine condT (by first | assumption | (simp; omega) | (simp_all; done) | (simp_all; omega)) ?_; conv => whnf)
    | (refine condF (fun h => ?_) (fun h => ?_) <;> conv => whnf)
    | (refine ⟨rfl, ?_⟩; conv => whnf)
    | (refine Ev.call (numbers_ev _ (by first | omega | (simp [cutF, numsN_length, bitsA_length]; done) | (simp [cutF, numsN_length, bitsA_length]; omega) | (simp_all; omega))) ?_; conv => whnf)
    | (refine Ev.call (bits_ev _ _ (by first | omega | (simp [cutF, numsN_length, bitsA_length]; done) | (simp [cutF, numsN_length, bitsA_length]; omega) | (simp_all; omega))) ?_; conv => whnf)
    | (refine Tr.le (leRepN (by first | exact Le.refl _ | exact Le.nilB) (by first | exact Le.refl _ | exact Le.nilI _)) (Ev.call (Reply_ev _ _ _ _ _ _ (by first | decide | exact (wrap16_range _).1) (by first | decide | exact (wrap16_range _).2) (by first | omega | (simp [cutF, numsN_length, bitsA_length]; done) | (simp [cutF, numsN_length, bitsA_length]; omega) | (simp_all; omega)) (by first | omega | (simp [cutF, numsN_length, bitsA_length]; done) | (simp [cutF, numsN_length, bitsA_length]; omega) | (simp_all; omega))) ?_); conv => whnf)
    | (refine Ev.call (equal8_ev _ _ (Nat.le_trans (repB_len _ _ _ _ _ _) (by omega))) ?_; conv => whnf)
    )
  all_goals (try simp only [show Int.toNat 0 = 0 from rfl, show Int.toNat 1 = 1 from rfl, show Int.toNat 2 = 2 from rfl] at *)
  all_goals first
    | (exfalso
       have hx : (l.getD 0 0 == or128 f) = false := by assumption
       rcases hc with ⟨k5, k6, k22⟩ | hc | hc
       · first
           | exact Bool.noConfusion (k5.symm.trans (show (f == 5) = true by assumption))
           | exact Bool.noConfusion (k6.symm.trans (show (f == 6) = true by assumption))
           | exact Bool.noConfusion (k22.symm.trans (show (f == 22) = true by assumption))
       · simp only [decide_eq_false_iff_not] at *; omega
       · rw [hx] at hc; cases hc)
    | skip
  all_goals (try have hx : (l.getD 0 0 == or128 f) = false := by assumption)
  all_goals (try have hx : (l.getD 0 0 == or128 f) = true := by assumption)
  all_goals (generalize ho : orepS ⟨f, a, n, a2, b, r⟩ l = o; simp only [orepS, orepT, cutF, nB, *, if_true, if_false, Bool.false_eq_true, Bool.or_false, Bool.false_or, Bool.true_or, Bool.or_true, Bool.and_true, Bool.true_and, Bool.false_and, Bool.and_false] at ho)
  all_goals (try (first | rw [finS_yes _ _ (by assumption) (by assumption)] at ho | rw [finS_no1 _ _ (by assumption)] at ho | rw [finS_no2 _ _ (by assumption)] at ho))
  all_goals (try (first | erw [if_pos h] at ho | erw [if_neg (fun e => Bool.noConfusion (e.symm.trans h))] at ho))
  all_goals subst ho
  all_goals first
    | exact FrzK.le (leRep rfl rfl rfl rfl (by first | exact Le.refl _ | exact Le.nilB) (by first | exact Le.refl _ | exact Le.nilI _) rfl)
theorem OpenReply_ev (f a n a2 : Int) (b : List Bool) (r : List Int) (l : List Int) (hn0 : 0 ≤ n) (hn1 : n < 65536) (hb : b.length ≤ 2500) (hr : r.length ≤ 200) (hl : l.length ≤ 1000) (hc : ((f == 5) = false ∧ (f == 6) = false ∧ (f == 22) = false) ∨ l.length < 2 ∨ (l.getD 0 0 == or128 f) = true) :
    Ev Try.prog 58 [reqA f a n a2 (.roB b) (.roI .u16 r), .roI .u8 l] (.tup [rpA (orepS ⟨f, a, n, a2, b, r⟩ l).1, .int .i64 (orepS ⟨f, a, n, a2, b, r⟩ l).2]) := FrzK.ev rfl (OpenReply_raw f a n a2 b r l hn0 hn1 hb hr hl hc)
end Go.Proofs.Ytomodeliimnddaa
