/- The plain law: both readings of a reply are the same. -/
import Derived.Test.YtomodeliimnddaaAbRORep
set_option linter.unusedVariables false
set_option linter.unusedSimpArgs false
namespace Go.Proofs.Ytomodeliimnddaa
open Go.Ab
theorem twos_app : ∀ (a b : List Int), twos (a ++ b) = twos a ++ twos b
  | [], b => rfl
  | x :: a, b => by simp only [List.cons_append, twos, twos_app a b, List.append_assoc]
theorem two8_num (a b : Int) (h0 : 0 ≤ a) (h1 : a < 256) (h2 : 0 ≤ b) (h3 : b < 256) : two8 (num16 a b) = [a, b] := by
  rw [num16_eq a b h0 h1 h2 h3]
  unfold two8
  rw [hi8_eq _ (by omega) (by omega)]
  have e : IntKind.u8.wrap (256 * a + b) = b := by
    show (256 * a + b) % 256 = b
    omega
  rw [e]
  congr 1
  omega
theorem twos_nums (l : List Int) (hB : isB l) : ∀ k, 2 * k ≤ l.length → twos (numsN l k) = l.take (2 * k)
  | 0, _ => rfl
  | k + 1, h => by
    have ih := twos_nums l hB k (by omega)
    have e1 := hB.getD (2 * k)
    have e2 := hB.getD (2 * k + 1)
    have e3 : numsN l (k + 1) = numsN l k ++ [num16 (l.getD (2 * k) 0) (l.getD (2 * k + 1) 0)] := rfl
    rw [e3, twos_app, ih]
    have e4 : twos [num16 (l.getD (2 * k) 0) (l.getD (2 * k + 1) 0)] = [l.getD (2 * k) 0, l.getD (2 * k + 1) 0] := by
      simp only [twos, List.append_nil]
      exact two8_num _ _ e1.1 e1.2 e2.1 e2.2
    rw [e4]
    have g1 : 2 * k < l.length := by omega
    have g2 : 2 * k + 1 < l.length := by omega
    have d1 : l.getD (2 * k) 0 = l[2 * k] := by simp [List.getD_eq_getElem?_getD, g1]
    have d2 : l.getD (2 * k + 1) 0 = l[2 * k + 1] := by simp [List.getD_eq_getElem?_getD, g2]
    rw [d1, d2, show 2 * (k + 1) = 2 * k + 1 + 1 by omega, ← List.take_append_getElem g2, ← List.take_append_getElem g1, List.append_assoc]
    rfl
theorem plain3 (f n : Int) (hf : f = 3 ∨ f = 4 ∨ f = 23) (hn : 1 ≤ n ∧ n ≤ 125) (l : List Int) (hB : isB l) (h2 : 2 ≤ l.length) (hl : l.length ≤ 1000) :
    (if ((numsN (cutF l 2) ((cutF l 2).length / 2)).length : Int) != IntKind.i64.wrap n then (Rp.zero, (30 : Int)) else finS l ⟨f, 0, 0, 0, [], numsN (cutF l 2) ((cutF l 2).length / 2)⟩) =
    if l.getD 0 0 != f then (Rp.zero, 30) else if IntKind.i64.wrap (l.getD 1 0) != IntKind.i64.wrap (2 * IntKind.i64.wrap n) || (l.length : Int) != IntKind.i64.wrap (2 + IntKind.i64.wrap (l.getD 1 0)) then (Rp.zero, 30) else (⟨f, 0, 0, 0, [], numsN (cutF l 2) ((cutF l 2).length / 2)⟩, 0) := by
  obtain ⟨x, y, t, rfl⟩ : ∃ x y t, l = x :: y :: t := by
    match l, h2 with
    | x :: y :: t, _ => exact ⟨x, y, t, rfl⟩
  have hc : cutF (x :: y :: t) 2 = t := by rw [cutF_eq]; rfl
  rw [hc]
  have hy := hB y (by simp)
  have hBt : isB t := fun z hz => hB z (by simp [hz])
  have g0 : (x :: y :: t).getD 0 0 = x := rfl
  have g1 : (x :: y :: t).getD 1 0 = y := rfl
  rw [g0, g1, IntWalk.i64_in n (by omega), IntWalk.i64_in y (by omega), IntWalk.i64_in (2 * n) (by omega), IntWalk.i64_in (2 + y) (by omega), numsN_length]
  have htw := twos_nums t hBt (t.length / 2) (by omega)
  have hlt : (x :: y :: t).length = t.length + 2 := rfl
  have hnl := numsN_length t (t.length / 2)
  by_cases hlen : ((t.length / 2 : Nat) : Int) = n
  · rw [if_neg (by simp [hlen])]
    have hk : repOk f 0 0 0 [] (numsN t (t.length / 2)) = true := by
      rcases hf with rfl | rfl | rfl <;> simp [repOk, withinB, hnl] <;> omega
    have hrow : repB f 0 0 0 [] (numsN t (t.length / 2)) = f :: (2 * n) :: t.take (2 * (t.length / 2)) := by
      unfold repB
      rw [if_pos hk]
      have e : IntKind.u8.wrap (IntKind.i64.wrap (2 * ((t.length / 2 : Nat) : Int))) = 2 * n := by
        rw [hlen, IntWalk.i64_in _ (by omega), u8_in _ (by omega) (by omega)]
      rcases hf with rfl | rfl | rfl <;> simp only [repS, hnl, htw, e] <;> rfl
    unfold finS
    simp only [hrow]
    have hE : repE f 0 0 0 [] (numsN t (t.length / 2)) = 0 := by unfold repE; rw [if_pos hk]
    simp only [hE, beq_self_eq_true, Bool.true_and]
    by_cases hxf : x = f
    · subst hxf
      by_cases hy2 : y = 2 * n
      · subst hy2
        by_cases ht : t.length = 2 * (t.length / 2)
        · rw [if_pos (by rw [← ht, List.take_length]; simp), if_neg (by simp), if_neg (by simp; omega)]
        · rw [if_neg (fun h => by
            have := congrArg List.length (eq_of_beq h)
            simp at this; omega), if_neg (by simp), if_pos (by simp; omega)]
      · rw [if_neg (fun h => by
          have := eq_of_beq h
          simp only [List.cons.injEq] at this
          exact hy2 this.2.1.symm), if_neg (by simp), if_pos (by simp; omega)]
    · rw [if_neg (fun h => by
        have := eq_of_beq h
        simp only [List.cons.injEq] at this
        exact hxf this.1.symm), if_pos (by simpa using hxf)]
  · rw [if_pos (by simpa using hlen)]
    by_cases hxf : x = f
    · rw [if_neg (by simpa using hxf), if_pos (by simp; omega)]
    · rw [if_pos (by simpa using hxf)]
theorem row5 (f a n a2 : Int) (b : List Bool) (r : List Int) (hf : f = 5 ∨ f = 6 ∨ f = 22) (hk : encOk f n a2 b r = true) : repE f 0 a 0 b r = 0 ∧ repB f 0 a 0 b r = encR f a n a2 b r ∧ (encR f a n a2 b r).getD 0 0 = f := by
  have h : repOk f 0 a 0 b r = true := by
    rcases hf with rfl | rfl | rfl <;> simp [encOk, repOk] at hk ⊢ <;> simp [hk]
  unfold repE repB encR
  rw [if_pos h, if_pos h, if_pos hk]
  rcases hf with rfl | rfl | rfl <;> exact ⟨rfl, rfl, rfl⟩
theorem row15b (f a n a2 : Int) (b : List Bool) (r : List Int) (k : Int) (hf : (f = 15 ∧ k = IntKind.u16.wrap b.length) ∨ (f = 16 ∧ k = IntKind.u16.wrap r.length)) (hk : encOk f n a2 b r = true) :
    repE f 0 a k [] [] = 0 ∧ repB f 0 a k [] [] = (encR f a n a2 b r).take 5 ∧ (encR f a n a2 b r).getD 0 0 = f ∧ numAt ((encR f a n a2 b r).take 5) 3 = k := by
  rcases hf with ⟨rfl, rfl⟩ | ⟨rfl, rfl⟩
  · simp [encOk, withinB] at hk
    have hb : IntKind.u16.wrap (b.length : Int) = b.length := u16_in _ (by omega) (by omega)
    have h : repOk 15 0 a (IntKind.u16.wrap b.length) [] [] = true := by rw [hb]; simp [repOk, withinB]; omega
    have h2 : encOk 15 n a2 b r = true := by simp [encOk, withinB]; omega
    unfold repE repB encR
    rw [if_pos h, if_pos h, if_pos h2]
    refine ⟨rfl, rfl, rfl, ?_⟩
    exact num_two _ (by rw [hb]; omega) (by rw [hb]; omega)
  · simp [encOk, withinB] at hk
    have hb : IntKind.u16.wrap (r.length : Int) = r.length := u16_in _ (by omega) (by omega)
    have h : repOk 16 0 a (IntKind.u16.wrap r.length) [] [] = true := by rw [hb]; simp [repOk, withinB]; omega
    have h2 : encOk 16 n a2 b r = true := by simp [encOk, withinB]; omega
    unfold repE repB encR
    rw [if_pos h, if_pos h, if_pos h2]
    refine ⟨rfl, rfl, rfl, ?_⟩
    exact num_two _ (by rw [hb]; omega) (by rw [hb]; omega)
theorem fin5 (l asked : List Int) (p p' : Rp) (f : Int) (hE : repE p.f p.x p.a p.n p.b p.r = 0) (hR : repB p.f p.x p.a p.n p.b p.r = asked) (h0 : asked.getD 0 0 = f) (hp : l = asked → p = p') :
    finS l p = if l.getD 0 0 != f then (Rp.zero, 30) else if !(l == asked) then (Rp.zero, 30) else (p', 0) := by
  unfold finS
  rw [hE, hR]
  by_cases h : l = asked
  · subst h
    rw [if_pos (by simp), if_neg (by rw [h0]; simp), if_neg (by simp), hp rfl]
  · rw [if_neg (by simp; exact fun e => h e.symm)]
    split
    · rfl
    · rw [if_pos (by simpa using h)]
theorem orep_same (f a n a2 : Int) (b : List Bool) (r : List Int) (l : List Int) (hn : 0 ≤ n ∧ n < 65536) (hB : isB l) (hl : l.length ≤ 1000) : orepS ⟨f, a, n, a2, b, r⟩ l = rorepS ⟨f, a, n, a2, b, r⟩ l := by
  unfold orepS rorepS rorepA
  refine ite_congr rfl (fun _ => rfl) fun hA => ?_
  refine ite_congr rfl (fun _ => rfl) fun h2 => ?_
  refine ite_congr rfl (fun _ => rfl) fun hx => ?_
  have h2 : 2 ≤ l.length := by simp at h2; omega
  by_cases hk : encOk f n a2 b r = true
  · have h12 : ∀ k : Int, f = k → (k = 1 ∨ k = 2) → (if l.getD 0 0 != f || IntKind.i64.wrap (l.getD 1 0) != nB n || (l.length : Int) != IntKind.i64.wrap (nB n + 2) then (Rp.zero, (30 : Int)) else (⟨f, 0, 0, 0, bitsA (cutF l 2) (bitsK (IntKind.i64.wrap n)), []⟩, 0)) =
        if l.getD 0 0 != f then (Rp.zero, 30) else (if IntKind.i64.wrap (l.getD 1 0) != nB n || (l.length : Int) != IntKind.i64.wrap (2 + IntKind.i64.wrap (l.getD 1 0)) then (Rp.zero, 30) else (⟨f, 0, 0, 0, bitsA (cutF l 2) (bitsK (IntKind.i64.wrap n)), []⟩, 0)) := by
      intro k _ _
      generalize l.getD 0 0 = x0
      generalize l.getD 1 0 = x1
      by_cases c1 : x0 = f
      · by_cases c2 : IntKind.i64.wrap x1 = nB n
        · simp [c1, c2, Int.add_comm]
        · simp [c1, c2]
      · simp [c1]
    by_cases h1 : f = 1
    · subst h1; exact h12 1 rfl (.inl rfl)
    by_cases h1 : f = 2
    · subst h1; exact h12 2 rfl (.inr rfl)
    by_cases h1 : f = 3
    · subst h1; simp [encOk, withinB] at hk; exact plain3 3 n (.inl rfl) (by omega) l hB h2 hl
    by_cases h1 : f = 4
    · subst h1; simp [encOk, withinB] at hk; exact plain3 4 n (.inr (.inl rfl)) (by omega) l hB h2 hl
    by_cases h1 : f = 23
    · subst h1; simp [encOk, withinB] at hk; exact plain3 23 n (.inr (.inr rfl)) (by omega) l hB h2 hl
    by_cases h1 : f = 5
    · subst h1
      obtain ⟨q1, q2, q3⟩ := row5 5 a n a2 b r (.inl rfl) hk
      exact fin5 l _ ⟨5, 0, a, 0, b, r⟩ _ 5 q1 q2 q3 fun _ => rfl
    by_cases h1 : f = 6
    · subst h1
      obtain ⟨q1, q2, q3⟩ := row5 6 a n a2 b r (.inr (.inl rfl)) hk
      exact fin5 l _ ⟨6, 0, a, 0, b, r⟩ _ 6 q1 q2 q3 fun _ => rfl
    by_cases h1 : f = 22
    · subst h1
      obtain ⟨q1, q2, q3⟩ := row5 22 a n a2 b r (.inr (.inr rfl)) hk
      exact fin5 l _ ⟨22, 0, a, 0, b, r⟩ _ 22 q1 q2 q3 fun _ => rfl
    by_cases h1 : f = 15
    · subst h1
      obtain ⟨q1, q2, q3, q4⟩ := row15b 15 a n a2 b r _ (.inl ⟨rfl, rfl⟩) hk
      exact fin5 l _ ⟨15, 0, a, IntKind.u16.wrap b.length, [], []⟩ _ 15 q1 q2 (by rw [getD_take _ _ _ (by omega)]; exact q3) fun e => by rw [e, q4]
    by_cases h1 : f = 16
    · subst h1
      obtain ⟨q1, q2, q3, q4⟩ := row15b 16 a n a2 b r _ (.inr ⟨rfl, rfl⟩) hk
      exact fin5 l _ ⟨16, 0, a, IntKind.u16.wrap r.length, [], []⟩ _ 16 q1 q2 (by rw [getD_take _ _ _ (by omega)]; exact q3) fun e => by rw [e, q4]
    simp [encOk, *] at hk
  · exfalso
    apply hA
    show (encE f n a2 b r != 0) = true
    unfold encE
    rw [if_neg hk]
    rfl
end Go.Proofs.Ytomodeliimnddaa
