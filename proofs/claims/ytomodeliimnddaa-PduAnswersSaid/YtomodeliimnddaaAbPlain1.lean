/- Plain laws: numbers and bits as bytes, and back. -/
import Derived.Test.YtomodeliimnddaaAbOpen2
set_option linter.unusedVariables false
set_option linter.unusedSimpArgs false
namespace Go.Proofs.Ytomodeliimnddaa
open Go.Ab
theorem u8_lo (n : Int) : 0 ≤ IntKind.u8.wrap n ∧ IntKind.u8.wrap n < 256 := ⟨Int.emod_nonneg _ (by decide), Int.emod_lt_of_pos _ (by decide)⟩
theorem u8_in (n : Int) (h : 0 ≤ n) (h' : n < 256) : IntKind.u8.wrap n = n := Int.emod_eq_of_lt h h'
theorem u16_in (n : Int) (h : 0 ≤ n) (h' : n < 65536) : IntKind.u16.wrap n = n := Int.emod_eq_of_lt h h'
theorem num16_eq (a b : Int) (h0 : 0 ≤ a) (h1 : a < 256) (h2 : 0 ≤ b) (h3 : b < 256) : num16 a b = 256 * a + b := by
  obtain ⟨x, rfl⟩ := Int.eq_ofNat_of_zero_le h0
  obtain ⟨y, rfl⟩ := Int.eq_ofNat_of_zero_le h2
  unfold num16
  rw [u16_in (x : Int) (by omega) (by omega), u16_in (y : Int) (by omega) (by omega), u16_in ((x : Int) * 2 ^ 8) (by omega) (by omega)]
  have e : (BitVec.ofInt 16 ((x : Int) * 2 ^ 8) ||| BitVec.ofInt 16 (y : Int)).toNat = 256 * x + y := by
    rw [BitVec.toNat_or, BitVec.toNat_ofInt, BitVec.toNat_ofInt]
    have a1 : (((x : Int) * 2 ^ 8) % ((2 ^ 16 : Nat) : Int)).toNat = 2 ^ 8 * x := by
      rw [Int.emod_eq_of_lt (by omega) (by omega)]; omega
    have a2 : ((y : Int) % ((2 ^ 16 : Nat) : Int)).toNat = y := by
      rw [Int.emod_eq_of_lt (by omega) (by omega)]; omega
    rw [a1, a2, ← Nat.two_pow_add_eq_or_of_lt (by omega)]
  rw [e, u16_in _ (by omega) (by omega)]
  omega
theorem hi8_eq (x : Int) (h0 : 0 ≤ x) (h1 : x < 65536) : hi8 x = x / 256 := by
  unfold hi8
  rw [Int.fdiv_eq_ediv_of_nonneg _ (by decide), u8_in _ (by omega) (by omega)]
  rfl
theorem num_two (x : Int) (h0 : 0 ≤ x) (h1 : x < 65536) : num16 (hi8 x) (IntKind.u8.wrap x) = x := by
  rw [num16_eq (hi8 x) _ (show 0 ≤ hi8 x from (u8_lo _).1) (show hi8 x < 256 from (u8_lo _).2) (u8_lo _).1 (u8_lo _).2, hi8_eq x h0 h1]
  show 256 * (x / 256) + x % 256 = x
  omega
theorem twos_getD (r : List Int) : ∀ (i : Nat), i < r.length → (twos r).getD (2 * i) 0 = hi8 (r.getD i 0) ∧ (twos r).getD (2 * i + 1) 0 = IntKind.u8.wrap (r.getD i 0) := by
  induction r with
  | nil => intro i hi; simp at hi
  | cons x r ih =>
    intro i hi
    cases i with
    | zero => exact ⟨rfl, rfl⟩
    | succ i =>
      have := ih i (by simpa using hi)
      exact this
theorem nums_twos (r : List Int) (hr : ∀ n ∈ r, 0 ≤ n ∧ n < 65536) : ∀ i, i ≤ r.length → numsN (twos r) i = r.take i := by
  intro i
  induction i with
  | zero => intro _; simp [numsN]
  | succ i ih =>
    intro hi
    obtain ⟨h1, h2⟩ := twos_getD r i (by omega)
    rw [numsN, ih (by omega), h1, h2]
    have hm : r.getD i 0 ∈ r := by
      rw [List.getD_eq_getElem?_getD, List.getElem?_eq_getElem (by omega)]
      exact List.getElem_mem _
    rw [num_two _ (hr _ hm).1 (hr _ hm).2, List.take_add_one, List.getD_eq_getElem?_getD, List.getElem?_eq_getElem (by omega)]
    rfl
theorem last_fin : ∀ a : Fin 256, ∀ k : Fin 8, lastB (a.val : Int) (a.val : Int) k.val = a.val := by decide +kernel
theorem last_same (x : Int) (h0 : 0 ≤ x) (h1 : x < 256) (n : Nat) : lastB x x n = x := by
  obtain ⟨y, rfl⟩ := Int.eq_ofNat_of_zero_le h0
  have := last_fin ⟨y, by omega⟩ ⟨n % 8, by omega⟩
  unfold lastB at *
  simpa using this
theorem or_fin : ∀ i j : Fin 8, ∀ a : Fin 256, bitE (orBit (a.val : Int) i.val) j.val = (decide (j = i) || bitE (a.val : Int) j.val) := by decide +kernel
theorem or_bit (a : Int) (h0 : 0 ≤ a) (h1 : a < 256) (i j : Nat) : bitE (orBit a i) j = (decide (j % 8 = i % 8) || bitE a j) := by
  obtain ⟨y, rfl⟩ := Int.eq_ofNat_of_zero_le h0
  have := or_fin ⟨i % 8, by omega⟩ ⟨j % 8, by omega⟩ ⟨y, by omega⟩
  unfold bitE orBit at *
  simpa [Fin.ext_iff] using this
theorem packN_byte (l : List Bool) : ∀ i k, 0 ≤ (packN l i).getD k 0 ∧ (packN l i).getD k 0 < 256 := by
  intro i
  induction i with
  | zero =>
    intro k
    simp only [packN, List.getD_eq_getElem?_getD, List.getElem?_replicate]
    split <;> simp
  | succ i ih =>
    intro k
    simp only [packN]
    split
    · simp only [List.getD_eq_getElem?_getD, List.getElem?_set]
      split
      · split
        · exact u8_lo _
        · simp
      · have := ih k
        simpa [List.getD_eq_getElem?_getD] using this
    · exact ih k
theorem bitE_zero (j : Nat) : bitE 0 j = false := by
  unfold bitE
  rw [Int.zero_fdiv]
  decide
theorem pack_bit (l : List Bool) : ∀ i, i ≤ l.length → ∀ j, j < l.length → bitAt (packN l i) j = (decide (j < i) && l.getD j false) := by
  intro i
  induction i with
  | zero =>
    intro _ j hj
    simp only [bitAt, packN, List.getD_eq_getElem?_getD, List.getElem?_replicate]
    split <;> simp [bitE_zero]
  | succ i ih =>
    intro hi j hj
    have ih := ih (by omega) j hj
    simp only [bitAt, packN_length] at ih ⊢
    have hd : decide (j / 8 < (l.length + 7) / 8) = true := by simp; omega
    rw [hd, Bool.true_and] at ih ⊢
    simp only [packN]
    cases hb : l.getD i false with
    | true =>
      simp only [if_true]
      by_cases hk : j / 8 = i / 8
      · have e : ((packN l i).set (i / 8) (orBit ((packN l i).getD (i / 8) 0) i)).getD (j / 8) 0 = orBit ((packN l i).getD (i / 8) 0) i := by
          rw [hk, List.getD_eq_getElem?_getD, List.getElem?_set, if_pos rfl, if_pos (by rw [packN_length]; omega)]
          rfl
        rw [e, or_bit _ (packN_byte l i _).1 (packN_byte l i _).2, ← hk, ih]
        by_cases hji : j = i
        · subst hji; rw [hb]; simp
        · have : ¬ (j % 8 = i % 8) := by omega
          simp only [this, decide_false, Bool.false_or]
          have h2 : (j < i) ↔ (j < i + 1) := by omega
          simp [h2]
      · have e : ((packN l i).set (i / 8) (orBit ((packN l i).getD (i / 8) 0) i)).getD (j / 8) 0 = (packN l i).getD (j / 8) 0 := by
          rw [List.getD_eq_getElem?_getD, List.getElem?_set, if_neg (fun h => hk h.symm)]
          rfl
        rw [e, ih]
        have h2 : (j < i) ↔ (j < i + 1) := by
          have : j ≠ i := fun h => hk (by rw [h])
          omega
        simp [h2]
    | false =>
      simp only [Bool.false_eq_true, if_false]
      rw [ih]
      by_cases hji : j = i
      · subst hji; rw [hb]; simp
      · have h2 : (j < i) ↔ (j < i + 1) := by omega
        simp [h2]
theorem bits_pack (l : List Bool) : ∀ i, i ≤ l.length → bitsA (packN l l.length) i = l.take i := by
  intro i
  induction i with
  | zero => intro _; simp [bitsA]
  | succ i ih =>
    intro hi
    rw [bitsA, ih (by omega), pack_bit l l.length (Nat.le_refl _) i (by omega), List.take_add_one]
    have : i < l.length := by omega
    simp [this]

theorem numAt_two (x : Int) (h0 : 0 ≤ x) (h1 : x < 65536) (t : List Int) : numAt (two8 x ++ t) 0 = x := num_two x h0 h1

/-! ### a request's bytes are read as that request -/
def isB (l : List Int) : Prop := ∀ x ∈ l, 0 ≤ x ∧ x < 256
theorem isB.app {l m : List Int} (h : isB l) (k : isB m) : isB (l ++ m) := fun x hx => by
  rcases List.mem_append.1 hx with h1 | h1
  · exact h x h1
  · exact k x h1
theorem isB.getD {l : List Int} (h : isB l) (k : Nat) : 0 ≤ l.getD k 0 ∧ l.getD k 0 < 256 := by
  rw [List.getD_eq_getElem?_getD]
  by_cases hk : k < l.length
  · rw [List.getElem?_eq_getElem hk]; exact h _ (List.getElem_mem _)
  · rw [List.getElem?_eq_none (by omega)]; decide
theorem isB_two (x : Int) : isB (two8 x) := fun y hy => by
  simp only [two8, List.mem_cons, List.not_mem_nil, or_false] at hy
  rcases hy with rfl | rfl
  · exact u8_lo _
  · exact u8_lo _
theorem isB_twos : ∀ r : List Int, isB (twos r)
  | [] => fun x hx => by cases hx
  | y :: r => (isB_two y).app (isB_twos r)
theorem isB_one (x : Int) : isB [IntKind.u8.wrap x] := fun y hy => by
  simp only [List.mem_cons, List.not_mem_nil, or_false] at hy
  subst hy; exact u8_lo _
theorem isB_f (f : Int) (h0 : 0 ≤ f) (h1 : f < 256) : isB [f] := fun y hy => by
  simp only [List.mem_cons, List.not_mem_nil, or_false] at hy
  subst hy; exact ⟨h0, h1⟩
theorem isB_nil : isB [] := fun x hx => by cases hx
theorem isB_pack (l : List Bool) (i : Nat) : isB (packN l i) := fun x hx => by
  obtain ⟨k, hk⟩ := List.getElem?_of_mem hx
  have := packN_byte l i k
  rw [List.getD_eq_getElem?_getD, hk] at this
  exact this
theorem enc_byte (f a n a2 : Int) (b : List Bool) (r : List Int) (h0 : 0 ≤ f) (h1 : f < 256) : isB (encR f a n a2 b r) := by
  have hf := isB_f f h0 h1
  have ht := isB_two
  unfold encR
  by_cases ho : encOk f n a2 b r = true
  · rw [if_pos ho]
    unfold reqS
    by_cases h1 : (f == 1) = true
    · rw [if_pos h1]; exact (hf.app (ht _)).app (ht _)
    rw [if_neg h1]
    by_cases h2 : (f == 2) = true
    · rw [if_pos h2]; exact (hf.app (ht _)).app (ht _)
    rw [if_neg h2]
    by_cases h3 : (f == 3) = true
    · rw [if_pos h3]; exact (hf.app (ht _)).app (ht _)
    rw [if_neg h3]
    by_cases h4 : (f == 4) = true
    · rw [if_pos h4]; exact (hf.app (ht _)).app (ht _)
    rw [if_neg h4]
    by_cases h5 : (f == 5) = true
    · rw [if_pos h5]; exact (hf.app (ht _)).app (ht _)
    rw [if_neg h5]
    by_cases h6 : (f == 6) = true
    · rw [if_pos h6]; exact (hf.app (ht _)).app (isB_twos _)
    rw [if_neg h6]
    by_cases h22 : (f == 22) = true
    · rw [if_pos h22]; exact (hf.app (ht _)).app (isB_twos _)
    rw [if_neg h22]
    by_cases h15 : (f == 15) = true
    · rw [if_pos h15]; exact (((hf.app (ht _)).app (ht _)).app (isB_one _)).app (isB_pack _ _)
    rw [if_neg h15]
    by_cases h16 : (f == 16) = true
    · rw [if_pos h16]; exact (((hf.app (ht _)).app (ht _)).app (isB_one _)).app (isB_twos _)
    rw [if_neg h16]
    by_cases h23 : (f == 23) = true
    · rw [if_pos h23]; exact (((((hf.app (ht _)).app (ht _)).app (ht _)).app (ht _)).app (isB_one _)).app (isB_twos _)
    rw [if_neg h23]
    exact isB_nil
  · rw [if_neg ho]; exact isB_nil
theorem coil_range (x : Bool) : 0 ≤ coilN x ∧ coilN x < 65536 := by cases x <;> decide
theorem coil_back (x : Bool) : (coilN x == 65280) = x := by cases x <;> decide
theorem bitsK_len (n : Nat) (h : n ≤ 2000) : bitsK (IntKind.i64.wrap (n : Int)) = n := by
  rw [IntWalk.i64_in _ (by omega)]
  unfold bitsK
  rw [if_neg (show ¬ ((0 : Int) > n) by omega), if_neg (show ¬ ((2000 : Int) < n) by omega)]
  simp
theorem opened_enc (f a n a2 : Int) (b : List Bool) (r : List Int) (ha : 0 ≤ a ∧ a < 65536) (hn : 0 ≤ n ∧ n < 65536) (ha2 : 0 ≤ a2 ∧ a2 < 65536) (hr : ∀ x ∈ r, 0 ≤ x ∧ x < 65536) (hk : encOk f n a2 b r = true) :
    openedS (encR f a n a2 b r) = (⟨f, a, n, a2, b, r⟩, true) := by
  have na := num_two a ha.1 ha.2
  have nn := num_two n hn.1 hn.2
  have n2 := num_two a2 ha2.1 ha2.2
  have nr := nums_twos r hr r.length (Nat.le_refl _)
  have nb := bits_pack b b.length (Nat.le_refl _)
  rw [List.take_length] at nr nb
  unfold encR
  rw [if_pos hk]
  by_cases h1 : f = 1
  · subst h1
    simp [encOk, withinB] at hk
    obtain ⟨⟨⟨_, rfl⟩, rfl⟩, rfl⟩ := hk
    simp [reqS, openedS, openedT, cutF_eq, pre3, two8, numAt, na, nn]
  by_cases h2 : f = 2
  · subst h2
    simp [encOk, withinB] at hk
    obtain ⟨⟨⟨_, rfl⟩, rfl⟩, rfl⟩ := hk
    simp [reqS, openedS, openedT, cutF_eq, pre3, two8, numAt, na, nn]
  by_cases h3 : f = 3
  · subst h3
    simp [encOk, withinB] at hk
    obtain ⟨⟨⟨_, rfl⟩, rfl⟩, rfl⟩ := hk
    simp [reqS, openedS, openedT, cutF_eq, pre3, two8, numAt, na, nn]
  by_cases h4 : f = 4
  · subst h4
    simp [encOk, withinB] at hk
    obtain ⟨⟨⟨_, rfl⟩, rfl⟩, rfl⟩ := hk
    simp [reqS, openedS, openedT, cutF_eq, pre3, two8, numAt, na, nn]
  by_cases h5 : f = 5
  · subst h5
    simp [encOk, withinB] at hk
    obtain ⟨⟨⟨rfl, hb⟩, rfl⟩, rfl⟩ := hk
    match b, hb with
    | [x], _ =>
      have nc := num_two (coilN x) (coil_range x).1 (coil_range x).2
      simp [reqS, openedS, openedT, cutF_eq, pre3, two8, numAt, na, nc]
      exact eq_of_beq (by cases x <;> rfl)
  by_cases h6 : f = 6
  · subst h6
    simp [encOk, withinB] at hk
    obtain ⟨⟨⟨rfl, rfl⟩, hb⟩, rfl⟩ := hk
    simp [reqS, openedS, openedT, cutF_eq, pre3, two8, numAt, na, twos_length, nr, hb]
  by_cases h22 : f = 22
  · subst h22
    simp [encOk, withinB] at hk
    obtain ⟨⟨⟨rfl, rfl⟩, hb⟩, rfl⟩ := hk
    simp [reqS, openedS, openedT, cutF_eq, pre3, two8, numAt, na, twos_length, nr, hb]
  by_cases h15 : f = 15
  · subst h15
    simp [encOk, withinB] at hk
    obtain ⟨⟨⟨rfl, hb⟩, rfl⟩, rfl⟩ := hk
    have nl := num_two (IntKind.u16.wrap b.length) (wrap16_range _).1 (wrap16_range _).2
    have nl2 : IntKind.u16.wrap (b.length : Int) = b.length := u16_in _ (by omega) (by omega)
    rw [nl2] at nl
    have nk := bitsK_len b.length (by omega)
    simp [reqS, row15, openedS, openedT, cutF_eq, pre3, two8, numAt, na, nl2, nl, nk, nb]
    rw [if_neg (by omega), if_neg (by omega)]
  by_cases h16 : f = 16
  · subst h16
    simp [encOk, withinB] at hk
    obtain ⟨⟨⟨rfl, rfl⟩, hb⟩, rfl⟩ := hk
    simp [reqS, rowR, openedS, openedT, cutF_eq, pre3, two8, numAt, na, twos_length, nr]
    rw [if_neg (by omega), if_neg (by omega)]
  by_cases h23 : f = 23
  · subst h23
    simp [encOk, withinB] at hk
    obtain ⟨⟨_, rfl⟩, hb⟩ := hk
    simp [reqS, rowR, openedS, openedT, cutF_eq, pre3, two8, numAt, na, nn, n2, twos_length, nr]
    rw [if_neg (by omega), if_neg (by omega)]
  simp [encOk, *] at hk
theorem set_same (l : List Int) (k : Nat) : l.set k (l.getD k 0) = l := by
  by_cases hk : k < l.length
  · rw [List.getD_eq_getElem?_getD, List.getElem?_eq_getElem hk]
    exact List.set_getElem_self hk
  · exact List.set_eq_of_length_le (by omega)
theorem again_same (q : Rq) (l : List Int) (e : Int) (h : isB l) : againS q l l e = l := by
  unfold againS
  split
  · rw [last_same _ (h.getD _).1 (h.getD _).2, set_same]
  · rfl
theorem dec_enc (f a n a2 : Int) (b : List Bool) (r : List Int) (hf : 0 ≤ f ∧ f < 256) (ha : 0 ≤ a ∧ a < 65536) (hn : 0 ≤ n ∧ n < 65536) (ha2 : 0 ≤ a2 ∧ a2 < 65536) (hr : ∀ x ∈ r, 0 ≤ x ∧ x < 65536) (hk : encOk f n a2 b r = true) :
    decS (encR f a n a2 b r) = (⟨f, a, n, a2, b, r⟩, 0) := by
  unfold decS
  rw [opened_enc f a n a2 b r ha hn ha2 hr hk]
  simp only [if_true]
  rw [again_same _ _ _ (enc_byte f a n a2 b r hf.1 hf.2)]
  simp [encE, hk]
end Go.Proofs.Ytomodeliimnddaa
