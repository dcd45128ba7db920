/- Plain laws: requests and replies cut short, or with more behind. -/
import Derived.Test.YtomodeliimnddaaAbORep
set_option linter.unusedVariables false
set_option linter.unusedSimpArgs false
namespace Go.Proofs.Ytomodeliimnddaa
open Go.Ab
theorem again_len (q : Rq) (l row : List Int) (e : Int) : (againS q l row e).length = row.length := by
  unfold againS
  split <;> simp
theorem row15_len (a : Int) (b : List Bool) : (row15 15 a b).length = 6 + (b.length + 7) / 8 := by
  simp [row15, pre3, two8, packN_length]; omega
/-- how long a request is, told by its first bytes -/
def expl (l : List Int) : Int :=
  if l.getD 0 0 = 15 ∨ l.getD 0 0 = 16 then 6 + l.getD 5 0 else if l.getD 0 0 = 23 then 10 + l.getD 9 0 else if l.getD 0 0 = 22 then 7 else 5
theorem getD_app (l m : List Int) (k : Nat) (h : k < l.length) : (l ++ m).getD k 0 = l.getD k 0 := by
  simp [List.getD_eq_getElem?_getD, List.getElem?_append_left h]
theorem getD_take (l : List Int) (k i : Nat) (h : i < k) : (l.take k).getD i 0 = l.getD i 0 := by
  simp [List.getD_eq_getElem?_getD, List.getElem?_take, h]
theorem getD_out (l : List Int) (i : Nat) (h : l.length ≤ i) : l.getD i 0 = 0 := by
  simp [List.getD_eq_getElem?_getD, List.getElem?_eq_none h]
theorem encR_ne (f a n a2 : Int) (b : List Bool) (r : List Int) (h : encR f a n a2 b r ≠ []) : encOk f n a2 b r = true := by
  unfold encR at h
  by_cases hk : encOk f n a2 b r = true
  · exact hk
  · rw [if_neg hk] at h; exact absurd rfl h
theorem expl_enc (f a n a2 : Int) (b : List Bool) (r : List Int) (hk : encOk f n a2 b r = true) :
    ((encR f a n a2 b r).length : Int) = expl (encR f a n a2 b r) ∧ (encR f a n a2 b r).getD 0 0 = f ∧ 5 ≤ (encR f a n a2 b r).length ∧ (f = 15 → 7 ≤ (encR f a n a2 b r).length) ∧ (f = 16 → 8 ≤ (encR f a n a2 b r).length) ∧ (f = 23 → 12 ≤ (encR f a n a2 b r).length) := by
  unfold encR
  rw [if_pos hk]
  by_cases h1 : f = 1
  · subst h1; simp [encOk, withinB] at hk; simp [expl, reqS, pre3, two8, twos_length] <;> omega
  by_cases h2 : f = 2
  · subst h2; simp [encOk, withinB] at hk; simp [expl, reqS, pre3, two8, twos_length] <;> omega
  by_cases h3 : f = 3
  · subst h3; simp [encOk, withinB] at hk; simp [expl, reqS, pre3, two8, twos_length] <;> omega
  by_cases h4 : f = 4
  · subst h4; simp [encOk, withinB] at hk; simp [expl, reqS, pre3, two8, twos_length] <;> omega
  by_cases h5 : f = 5
  · subst h5; simp [encOk, withinB] at hk; simp [expl, reqS, pre3, two8, twos_length] <;> omega
  by_cases h6 : f = 6
  · subst h6; simp [encOk, withinB] at hk; simp [expl, reqS, pre3, two8, twos_length] <;> omega
  by_cases h22 : f = 22
  · subst h22; simp [encOk, withinB] at hk; simp [expl, reqS, pre3, two8, twos_length] <;> omega
  by_cases h15 : f = 15
  · subst h15
    simp [encOk, withinB] at hk
    have hw : IntKind.u8.wrap (((b.length + 7) / 8 : Nat) : Int) = (((b.length + 7) / 8 : Nat) : Int) := u8_in _ (by omega) (by omega)
    have e : (reqS 15 a n a2 b r).row = row15 15 a b := rfl
    rw [e]
    have h0 : (row15 15 a b).getD 0 0 = 15 := rfl
    have hl := row15_len a b
    refine ⟨?_, h0, by omega, fun _ => by omega, fun h => by omega, fun h => by omega⟩
    unfold expl
    rw [if_pos (.inl h0), show (row15 15 a b).getD 5 0 = IntKind.u8.wrap (((b.length + 7) / 8 : Nat) : Int) from rfl, hw, hl]
    omega
  by_cases h16 : f = 16
  · subst h16
    simp [encOk, withinB] at hk
    have hw : IntKind.u8.wrap (IntKind.i64.wrap (2 * r.length)) = 2 * r.length := by rw [IntWalk.i64_in _ (by omega), u8_in _ (by omega) (by omega)]
    have e : (reqS 16 a n a2 b r).row = rowR (pre3 16 a) r := rfl
    rw [e]
    have h0 : (rowR (pre3 16 a) r).getD 0 0 = 16 := rfl
    have hl : (rowR (pre3 16 a) r).length = 6 + 2 * r.length := by simp [rowR, pre3, two8, twos_length]; omega
    refine ⟨?_, h0, by omega, fun h => by omega, fun _ => by omega, fun h => by omega⟩
    unfold expl
    rw [if_pos (.inr h0), show (rowR (pre3 16 a) r).getD 5 0 = IntKind.u8.wrap (IntKind.i64.wrap (2 * r.length)) from rfl, hw, hl]
    omega
  by_cases h23 : f = 23
  · subst h23
    simp [encOk, withinB] at hk
    have hw : IntKind.u8.wrap (IntKind.i64.wrap (2 * r.length)) = 2 * r.length := by rw [IntWalk.i64_in _ (by omega), u8_in _ (by omega) (by omega)]
    have e : (reqS 23 a n a2 b r).row = rowR (pre3 23 a ++ two8 n ++ two8 a2) r := rfl
    rw [e]
    have h0 : (rowR (pre3 23 a ++ two8 n ++ two8 a2) r).getD 0 0 = 23 := rfl
    have hl : (rowR (pre3 23 a ++ two8 n ++ two8 a2) r).length = 10 + 2 * r.length := by simp [rowR, pre3, two8, twos_length]; omega
    refine ⟨?_, h0, by omega, fun h => by omega, fun h => by omega, fun _ => by omega⟩
    unfold expl
    rw [if_neg (by rw [h0]; omega), if_pos h0, show (rowR (pre3 23 a ++ two8 n ++ two8 a2) r).getD 9 0 = IntKind.u8.wrap (IntKind.i64.wrap (2 * r.length)) from rfl, hw, hl]
    omega
  simp [encOk, *] at hk
theorem expl_dec (l : List Int) (h : (decS l).2 ≠ 30) : (l.length : Int) = expl l ∧ 5 ≤ l.length ∧ (l.getD 0 0 = 15 → 7 ≤ l.length) ∧ (l.getD 0 0 = 16 → 8 ≤ l.length) ∧ (l.getD 0 0 = 23 → 12 ≤ l.length) := by
  unfold decS at h
  split at h
  · rename_i ho
    split at h
    · rename_i hc
      simp only [Bool.and_eq_true, beq_iff_eq] at hc
      obtain ⟨he, ha⟩ := hc
      generalize hq : (openedS l).1 = q at *
      have hk : encOk q.f q.n q.a2 q.b q.r = true := by
        by_cases hk : encOk q.f q.n q.a2 q.b q.r = true
        · exact hk
        · unfold encE at he; rw [if_neg hk] at he; omega
      obtain ⟨h1, h2, h3, h4, h5, h6⟩ := expl_enc q.f q.a q.n q.a2 q.b q.r hk
      have hl : l.length = (encR q.f q.a q.n q.a2 q.b q.r).length := by
        have := again_len q l (encR q.f q.a q.n q.a2 q.b q.r) (encE q.f q.n q.a2 q.b q.r)
        rw [ha] at this; exact this
      have hget : ∀ k, k + 1 < l.length → l.getD k 0 = (encR q.f q.a q.n q.a2 q.b q.r).getD k 0 := by
        intro k hk
        have : l.getD k 0 = (againS q l (encR q.f q.a q.n q.a2 q.b q.r) (encE q.f q.n q.a2 q.b q.r)).getD k 0 := by rw [ha]
        rw [this]
        unfold againS
        split
        · rw [List.getD_eq_getElem?_getD, List.getElem?_set, if_neg (by omega), ← List.getD_eq_getElem?_getD]
        · rfl
      have g0 := hget 0 (by omega)
      rw [h2] at g0
      refine ⟨?_, by omega, fun h => ?_, fun h => ?_, fun h => ?_⟩
      · rw [hl, h1]
        unfold expl
        rw [g0, h2]
        by_cases k1 : q.f = 15 ∨ q.f = 16
        · have : 7 ≤ l.length := by rcases k1 with k | k; have := h4 k; omega; have := h5 k; omega
          rw [if_pos k1, if_pos k1, hget 5 (by omega)]
        · rw [if_neg k1, if_neg k1]
          by_cases k2 : q.f = 23
          · have := h6 k2
            rw [if_pos k2, if_pos k2, hget 9 (by omega)]
          · rw [if_neg k2, if_neg k2]
      · have := h4 (by rw [← g0]; exact h); omega
      · have := h5 (by rw [← g0]; exact h); omega
      · have := h6 (by rw [← g0]; exact h); omega
    · exact absurd rfl h
  · exact absurd rfl h
theorem short_no (f a n a2 : Int) (b : List Bool) (r : List Int) (hk : encOk f n a2 b r = true) (k : Nat) (h : k < (encR f a n a2 b r).length) (h0 : isB (encR f a n a2 b r)) : (decS ((encR f a n a2 b r).take k)).2 = 30 := by
  obtain ⟨h1, h2, h3, h4, h5, h6⟩ := expl_enc f a n a2 b r hk
  generalize encR f a n a2 b r = l at *
  by_cases hd : (decS (l.take k)).2 = 30
  · exact hd
  obtain ⟨g1, g2, g3, g4, g5⟩ := expl_dec _ hd
  have hlen : (l.take k).length = k := by simp; omega
  rw [hlen] at g1 g2 g3 g4 g5
  have e0 : (l.take k).getD 0 0 = f := by rw [getD_take l k 0 (by omega), h2]
  rw [e0] at g3 g4 g5
  unfold expl at g1 h1
  rw [e0] at g1
  rw [h2] at h1
  by_cases k1 : f = 15 ∨ f = 16
  · have : 6 < k := by rcases k1 with k | k; have := g3 k; omega; have := g4 k; omega
    rw [if_pos k1] at g1 h1
    rw [getD_take l k 5 (by omega)] at g1
    omega
  · rw [if_neg k1] at g1 h1
    by_cases k2 : f = 23
    · have := g5 k2
      rw [if_pos k2] at g1 h1
      rw [getD_take l k 9 (by omega)] at g1
      omega
    · rw [if_neg k2] at g1 h1
      omega
theorem more_no (f a n a2 : Int) (b : List Bool) (r m : List Int) (hk : encOk f n a2 b r = true) (hm : m ≠ []) : (decS (encR f a n a2 b r ++ m)).2 = 30 := by
  obtain ⟨h1, h2, h3, h4, h5, h6⟩ := expl_enc f a n a2 b r hk
  generalize encR f a n a2 b r = l at *
  by_cases hd : (decS (l ++ m)).2 = 30
  · exact hd
  obtain ⟨g1, _⟩ := expl_dec _ hd
  have hlen : (l ++ m).length = l.length + m.length := by simp
  have hm' : 0 < m.length := List.length_pos_iff.2 hm
  have e0 : (l ++ m).getD 0 0 = f := by rw [getD_app l m 0 (by omega), h2]
  unfold expl at g1 h1
  rw [e0, hlen] at g1
  rw [h2] at h1
  by_cases k1 : f = 15 ∨ f = 16
  · have : 6 < l.length := by rcases k1 with k | k; have := h4 k; omega; have := h5 k; omega
    rw [if_pos k1] at g1 h1
    rw [getD_app l m 5 (by omega)] at g1
    omega
  · rw [if_neg k1] at g1 h1
    by_cases k2 : f = 23
    · have := h6 k2
      rw [if_pos k2] at g1 h1
      rw [getD_app l m 9 (by omega)] at g1
      omega
    · rw [if_neg k2] at g1 h1
      omega
end Go.Proofs.Ytomodeliimnddaa
