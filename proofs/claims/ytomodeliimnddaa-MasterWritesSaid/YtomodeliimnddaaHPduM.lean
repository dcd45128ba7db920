/- Statements of layer 3: replies are written as the document says. Plain laws: numbers and bits as bytes, and back. Statements of layer 3: requests are written as the document says, and read back. Statements of layer 3: bits; unlike requests have unlike bytes. Contracts: slices.Clone. Contracts: bytes read as replies: pdu. Contracts: bytes read as replies: pdu, with its clones. Contracts: replies to requests for bits: their registers are none. -/
import Derived.Laws.Strings
import Derived.Test.YtomodeliimnddaaHPduA
set_option linter.unusedVariables false
set_option linter.unusedSimpArgs false
namespace Go.Proofs.Ytomodeliimnddaa
open Go.Ab
/- rung/runglaw3.PduReplies -/
def a7 : ACode := (.seq (.reg [⟨(some 1), .box (.t 0), none, false⟩, ⟨(some 2), .mov (.c (.bool false)), none, false⟩])
 (.seq (.seq (.reg [⟨(some 7), .call 46 [], none, false⟩, ⟨(some 8), .un .not (.t 7), none, false⟩])
 (.cond (.t 8) (.seq (.reg [⟨(some 2), .mov (.c (.bool false)), none, false⟩])
 .ret)
 .skip))
 (.seq (.seq (.reg [⟨(some 9), .load true 6 (.t 1), none, false⟩, ⟨(some 10), .call 55 [(.t 9)], none, false⟩, ⟨(some 11), .un .not (.t 10), none, false⟩])
 (.cond (.t 11) (.seq (.reg [⟨(some 2), .mov (.c (.bool true)), none, false⟩])
 .ret)
 .skip))
 (.seq (.reg [⟨(some 13), .load true 6 (.t 1), none, false⟩, ⟨(some 14), .call 56 [(.t 13)], none, false⟩, ⟨(some 12), .mov (.t 14), none, false⟩, ⟨(some 15), .ext (.t 12) 0, none, false⟩, ⟨(some 16), .ext (.t 12) 1, none, false⟩, ⟨(some 3), .mov (.t 15), none, false⟩, ⟨(some 4), .mov (.t 16), none, false⟩])
 (.seq (.reg [⟨(some 18), .load true 6 (.t 1), none, false⟩, ⟨(some 19), .call 57 [(.t 18)], none, false⟩, ⟨(some 17), .mov (.t 19), none, false⟩, ⟨(some 20), .ext (.t 17) 0, none, false⟩, ⟨(some 21), .ext (.t 17) 1, none, false⟩, ⟨(some 5), .mov (.t 20), none, false⟩, ⟨(some 6), .mov (.t 21), none, false⟩])
 (.seq (.reg [⟨(some 22), .mov (.t 3), none, false⟩, ⟨(some 23), .mov (.t 5), none, false⟩, ⟨(some 24), .call 50 [(.t 22), (.t 23)], none, false⟩, ⟨(some 25), .mov (.t 24), none, true⟩, ⟨(some 26), .mov (.t 4), (some (25, true)), false⟩, ⟨(some 27), .mov (.t 6), (some (25, true)), false⟩, ⟨(some 28), .bin .eql .other (.t 26) (.t 27), (some (25, true)), false⟩, ⟨(some 29), .pick (.t 25) (.t 28) (.c (.bool false)), none, false⟩, ⟨(some 30), .mov (.t 29), none, true⟩, ⟨(some 31), .mov (.t 3), (some (30, true)), false⟩, ⟨(some 32), .len false (.t 31), (some (30, true)), false⟩, ⟨(some 33), .bin .leq .other (.t 32) (.c (.int .i64 253)), (some (30, true)), false⟩, ⟨(some 34), .pick (.t 30) (.t 33) (.c (.bool false)), none, false⟩, ⟨(some 2), .mov (.t 34), none, false⟩])
 .ret))))))
def r7 : List ARes := [.t 2]
theorem c7 : compF Try.prog Try.f7 = some (a7, r7) := by kernel_rfl

theorem b7 : hasBody Try.prog 7 = true := by kernel_rfl
theorem g7 : Try.prog.funcs[7]? = some Try.f7 := by kernel_rfl

theorem light_ev (f a n a2 : Int) (b : List Bool) (r : List Int) : Ev Try.prog 47 [reqA f a n a2 (.roB b) (.roI .u16 r)] (.bool (decide ((b.length : Int) ≤ 2500) && decide ((r.length : Int) ≤ 200))) := by
  refine FrzK.ev rfl (trF g47 b47 c47 ?_)
  conv => whnf
  refine condS (fun h => ?_) (fun h => ?_)
  · conv => whnf
    rw [h, Bool.true_and]
    exact FrzK.le (Le.refl _)
  · conv => whnf
    rw [h]
    exact FrzK.le (Le.refl _)
theorem lightly_ev (f a n a2 : Int) (b : List Bool) (r : List Int) : Ev Try.prog 55 [repA f a n a2 (.roB b) (.roI .u16 r)] (.bool (decide ((b.length : Int) ≤ 2500) && decide ((r.length : Int) ≤ 200))) := by
  refine FrzK.ev rfl (trF g55 b55 c55 ?_)
  conv => whnf
  refine condS (fun h => ?_) (fun h => ?_)
  · conv => whnf
    rw [h, Bool.true_and]
    exact FrzK.le (Le.refl _)
  · conv => whnf
    rw [h]
    exact FrzK.le (Le.refl _)
theorem bytes_same (l : List Int) : Ev Try.prog 50 [.roI .u8 l, .roI .u8 l] (.bool true) := by
  have h := bytes_ev l l
  rwa [beq_self_eq_true] at h
theorem repB_len (f x a n : Int) (b : List Bool) (r : List Int) : (repB f x a n b r).length ≤ 253 := by
  unfold repB
  by_cases ho : repOk f x a n b r = true
  · rw [if_pos ho]
    by_cases hx : x = 0
    · subst hx
      by_cases h1 : f = 1
      · subst h1; simp [repOk, withinB] at ho; simp [repS, packN_length, twos_length, two8] <;> omega
      by_cases h2 : f = 2
      · subst h2; simp [repOk, withinB] at ho; simp [repS, packN_length, twos_length, two8] <;> omega
      by_cases h3 : f = 3
      · subst h3; simp [repOk, withinB] at ho; simp [repS, packN_length, twos_length, two8] <;> omega
      by_cases h4 : f = 4
      · subst h4; simp [repOk, withinB] at ho; simp [repS, packN_length, twos_length, two8] <;> omega
      by_cases h23 : f = 23
      · subst h23; simp [repOk, withinB] at ho; simp [repS, packN_length, twos_length, two8] <;> omega
      by_cases h5 : f = 5
      · subst h5; simp [repOk, withinB] at ho; simp [repS, packN_length, twos_length, two8] <;> omega
      by_cases h6 : f = 6
      · subst h6; simp [repOk, withinB] at ho; simp [repS, packN_length, twos_length, two8] <;> omega
      by_cases h15 : f = 15
      · subst h15; simp [repOk, withinB] at ho; simp [repS, packN_length, twos_length, two8] <;> omega
      by_cases h16 : f = 16
      · subst h16; simp [repOk, withinB] at ho; simp [repS, packN_length, twos_length, two8] <;> omega
      by_cases h22 : f = 22
      · subst h22; simp [repOk, withinB] at ho; simp [repS, packN_length, twos_length, two8] <;> omega
      simp [repOk, *] at ho
    · simp [repS, hx]
  · rw [if_neg ho]; simp
set_option maxRecDepth 20000 in
theorem law7 (f x a n : Int) (b : List Bool) (r : List Int) (hn0 : 0 ≤ n) (hn1 : n < 65536) : Ev Try.prog 7 [repA f x a n (.roB b) (.roI .u16 r)] (.bool true) := by
  refine FrzK.ev rfl (trF g7 b7 c7 ?_)
  conv => whnf
  refine Ev.call known3 ?_
  conv => whnf
  refine Ev.call (lightly_ev _ _ _ _ _ _) ?_
  conv => whnf
  refine condS (fun h => ?_) (fun h => ?_)
  · conv => whnf
    exact FrzK.le (Le.refl _)
  conv => whnf
  have hb : b.length ≤ 2500 ∧ r.length ≤ 200 := by
    simp only [Bool.not_eq_false', Bool.and_eq_true, decide_eq_true_eq] at h
    omega
  have hl := repB_len f x a n b r
  refine Ev.call (Reply_ev f x a n b r hn0 hn1 hb.1 (by omega)) ?_
  conv => whnf
  refine Ev.call (rReply_ev f x a n b r hn0 hn1 hb.1 (by omega)) ?_
  conv => whnf
  refine Ev.call (bytes_same _) ?_
  conv => whnf
  refine condF (fun h => ?_) (fun h => ?_)
  · simp at h
  conv => whnf
  have e : decide (((repB f x a n b r).length : Int) ≤ 253) = true := by simp; omega
  rw [e]
  exact FrzK.le (Le.refl _)
end Go.Proofs.Ytomodeliimnddaa
set_option linter.unusedVariables false
set_option linter.unusedSimpArgs false
namespace Go.Proofs.Ytomodeliimnddaa
open Go.Ab
theorem u8_lo (n : Int) : 0 ≤ IntKind.u8.wrap n ∧ IntKind.u8.wrap n < 256 := ⟨Int.emod_nonneg _ (by decide), Int.emod_lt_of_pos _ (by decide)⟩
theorem u8_in (n : Int) (h : 0 ≤ n) (h' : n < 256) : IntKind.u8.wrap n = n := Int.emod_eq_of_lt h h'
theorem u16_in (n : Int) (h : 0 ≤ n) (h' : n < 65536) : IntKind.u16.wrap n = n := Int.emod_eq_of_lt h h'
theorem num16_eq (a b : Int) (h0 : 0 ≤ a) (h1 : a < 256) (h2 : 0 ≤ b) (h3 : b < 256) : num16 a b = 256 * a + b := by
  obtain ⟨x, rfl⟩ := Int.eq_ofNat_of_zero_le h0
  obtain ⟨y, rfl⟩ := Int.eq_ofNat_of_zero_le h2
  unfold num16
  rw [u16_in (x : Int) (by omega) (by omega), u16_in (y : Int) (by omega) (by omega), u16_in ((x : Int) * 2 ^ 8) (by omega) (by omega)]
  have e : (BitVec.ofInt 16 ((x : Int) * 2 ^ 8) ||| BitVec.ofInt 16 (y : Int)).toNat = 256 * x + y := by
    rw [BitVec.toNat_or, BitVec.toNat_ofInt, BitVec.toNat_ofInt]
    have a1 : (((x : Int) * 2 ^ 8) % ((2 ^ 16 : Nat) : Int)).toNat = 2 ^ 8 * x := by
      rw [Int.emod_eq_of_lt (by omega) (by omega)]; omega
    have a2 : ((y : Int) % ((2 ^ 16 : Nat) : Int)).toNat = y := by
      rw [Int.emod_eq_of_lt (by omega) (by omega)]; omega
    rw [a1, a2, ← Nat.two_pow_add_eq_or_of_lt (by omega)]
  rw [e, u16_in _ (by omega) (by omega)]
  omega
theorem hi8_eq (x : Int) (h0 : 0 ≤ x) (h1 : x < 65536) : hi8 x = x / 256 := by
  unfold hi8
  rw [Int.fdiv_eq_ediv_of_nonneg _ (by decide), u8_in _ (by omega) (by omega)]
  rfl
theorem num_two (x : Int) (h0 : 0 ≤ x) (h1 : x < 65536) : num16 (hi8 x) (IntKind.u8.wrap x) = x := by
  rw [num16_eq (hi8 x) _ (show 0 ≤ hi8 x from (u8_lo _).1) (show hi8 x < 256 from (u8_lo _).2) (u8_lo _).1 (u8_lo _).2, hi8_eq x h0 h1]
  show 256 * (x / 256) + x % 256 = x
  omega
theorem twos_getD (r : List Int) : ∀ (i : Nat), i < r.length → (twos r).getD (2 * i) 0 = hi8 (r.getD i 0) ∧ (twos r).getD (2 * i + 1) 0 = IntKind.u8.wrap (r.getD i 0) := by
  induction r with
  | nil => intro i hi; simp at hi
  | cons x r ih =>
    intro i hi
    cases i with
    | zero => exact ⟨rfl, rfl⟩
    | succ i =>
      have := ih i (by simpa using hi)
      exact this
theorem nums_twos (r : List Int) (hr : ∀ n ∈ r, 0 ≤ n ∧ n < 65536) : ∀ i, i ≤ r.length → numsN (twos r) i = r.take i := by
  intro i
  induction i with
  | zero => intro _; simp [numsN]
  | succ i ih =>
    intro hi
    obtain ⟨h1, h2⟩ := twos_getD r i (by omega)
    rw [numsN, ih (by omega), h1, h2]
    have hm : r.getD i 0 ∈ r := by
      rw [List.getD_eq_getElem?_getD, List.getElem?_eq_getElem (by omega)]
      exact List.getElem_mem _
    rw [num_two _ (hr _ hm).1 (hr _ hm).2, List.take_add_one, List.getD_eq_getElem?_getD, List.getElem?_eq_getElem (by omega)]
    rfl
theorem last_fin : ∀ a : Fin 256, ∀ k : Fin 8, lastB (a.val : Int) (a.val : Int) k.val = a.val := by decide +kernel
theorem last_same (x : Int) (h0 : 0 ≤ x) (h1 : x < 256) (n : Nat) : lastB x x n = x := by
  obtain ⟨y, rfl⟩ := Int.eq_ofNat_of_zero_le h0
  have := last_fin ⟨y, by omega⟩ ⟨n % 8, by omega⟩
  unfold lastB at *
  simpa using this
theorem or_fin : ∀ i j : Fin 8, ∀ a : Fin 256, bitE (orBit (a.val : Int) i.val) j.val = (decide (j = i) || bitE (a.val : Int) j.val) := by decide +kernel
theorem or_bit (a : Int) (h0 : 0 ≤ a) (h1 : a < 256) (i j : Nat) : bitE (orBit a i) j = (decide (j % 8 = i % 8) || bitE a j) := by
  obtain ⟨y, rfl⟩ := Int.eq_ofNat_of_zero_le h0
  have := or_fin ⟨i % 8, by omega⟩ ⟨j % 8, by omega⟩ ⟨y, by omega⟩
  unfold bitE orBit at *
  simpa [Fin.ext_iff] using this
theorem packN_byte (l : List Bool) : ∀ i k, 0 ≤ (packN l i).getD k 0 ∧ (packN l i).getD k 0 < 256 := by
  intro i
  induction i with
  | zero =>
    intro k
    simp only [packN, List.getD_eq_getElem?_getD, List.getElem?_replicate]
    split <;> simp
  | succ i ih =>
    intro k
    simp only [packN]
    split
    · simp only [List.getD_eq_getElem?_getD, List.getElem?_set]
      split
      · split
        · exact u8_lo _
        · simp
      · have := ih k
        simpa [List.getD_eq_getElem?_getD] using this
    · exact ih k
theorem bitE_zero (j : Nat) : bitE 0 j = false := by
  unfold bitE
  rw [Int.zero_fdiv]
  decide
theorem pack_bit (l : List Bool) : ∀ i, i ≤ l.length → ∀ j, j < l.length → bitAt (packN l i) j = (decide (j < i) && l.getD j false) := by
  intro i
  induction i with
  | zero =>
    intro _ j hj
    simp only [bitAt, packN, List.getD_eq_getElem?_getD, List.getElem?_replicate]
    split <;> simp [bitE_zero]
  | succ i ih =>
    intro hi j hj
    have ih := ih (by omega) j hj
    simp only [bitAt, packN_length] at ih ⊢
    have hd : decide (j / 8 < (l.length + 7) / 8) = true := by simp; omega
    rw [hd, Bool.true_and] at ih ⊢
    simp only [packN]
    cases hb : l.getD i false with
    | true =>
      simp only [if_true]
      by_cases hk : j / 8 = i / 8
      · have e : ((packN l i).set (i / 8) (orBit ((packN l i).getD (i / 8) 0) i)).getD (j / 8) 0 = orBit ((packN l i).getD (i / 8) 0) i := by
          rw [hk, List.getD_eq_getElem?_getD, List.getElem?_set, if_pos rfl, if_pos (by rw [packN_length]; omega)]
          rfl
        rw [e, or_bit _ (packN_byte l i _).1 (packN_byte l i _).2, ← hk, ih]
        by_cases hji : j = i
        · subst hji; rw [hb]; simp
        · have : ¬ (j % 8 = i % 8) := by omega
          simp only [this, decide_false, Bool.false_or]
          have h2 : (j < i) ↔ (j < i + 1) := by omega
          simp [h2]
      · have e : ((packN l i).set (i / 8) (orBit ((packN l i).getD (i / 8) 0) i)).getD (j / 8) 0 = (packN l i).getD (j / 8) 0 := by
          rw [List.getD_eq_getElem?_getD, List.getElem?_set, if_neg (fun h => hk h.symm)]
          rfl
        rw [e, ih]
        have h2 : (j < i) ↔ (j < i + 1) := by
          have : j ≠ i := fun h => hk (by rw [h])
          omega
        simp [h2]
    | false =>
      simp only [Bool.false_eq_true, if_false]
      rw [ih]
      by_cases hji : j = i
      · subst hji; rw [hb]; simp
      · have h2 : (j < i) ↔ (j < i + 1) := by omega
        simp [h2]
theorem bits_pack (l : List Bool) : ∀ i, i ≤ l.length → bitsA (packN l l.length) i = l.take i := by
  intro i
  induction i with
  | zero => intro _; simp [bitsA]
  | succ i ih =>
    intro hi
    rw [bitsA, ih (by omega), pack_bit l l.length (Nat.le_refl _) i (by omega), List.take_add_one]
    have : i < l.length := by omega
    simp [this]

theorem numAt_two (x : Int) (h0 : 0 ≤ x) (h1 : x < 65536) (t : List Int) : numAt (two8 x ++ t) 0 = x := num_two x h0 h1

/-! ### a request's bytes are read as that request -/
def isB (l : List Int) : Prop := ∀ x ∈ l, 0 ≤ x ∧ x < 256
theorem isB.app {l m : List Int} (h : isB l) (k : isB m) : isB (l ++ m) := fun x hx => by
  rcases List.mem_append.1 hx with h1 | h1
  · exact h x h1
  · exact k x h1
theorem isB.getD {l : List Int} (h : isB l) (k : Nat) : 0 ≤ l.getD k 0 ∧ l.getD k 0 < 256 := by
  rw [List.getD_eq_getElem?_getD]
  by_cases hk : k < l.length
  · rw [List.getElem?_eq_getElem hk]; exact h _ (List.getElem_mem _)
  · rw [List.getElem?_eq_none (by omega)]; decide
theorem isB_two (x : Int) : isB (two8 x) := fun y hy => by
  simp only [two8, List.mem_cons, List.not_mem_nil, or_false] at hy
  rcases hy with rfl | rfl
  · exact u8_lo _
  · exact u8_lo _
theorem isB_twos : ∀ r : List Int, isB (twos r)
  | [] => fun x hx => by cases hx
  | y :: r => (isB_two y).app (isB_twos r)
theorem isB_one (x : Int) : isB [IntKind.u8.wrap x] := fun y hy => by
  simp only [List.mem_cons, List.not_mem_nil, or_false] at hy
  subst hy; exact u8_lo _
theorem isB_f (f : Int) (h0 : 0 ≤ f) (h1 : f < 256) : isB [f] := fun y hy => by
  simp only [List.mem_cons, List.not_mem_nil, or_false] at hy
  subst hy; exact ⟨h0, h1⟩
theorem isB_nil : isB [] := fun x hx => by cases hx
theorem isB_pack (l : List Bool) (i : Nat) : isB (packN l i) := fun x hx => by
  obtain ⟨k, hk⟩ := List.getElem?_of_mem hx
  have := packN_byte l i k
  rw [List.getD_eq_getElem?_getD, hk] at this
  exact this
theorem enc_byte (f a n a2 : Int) (b : List Bool) (r : List Int) (h0 : 0 ≤ f) (h1 : f < 256) : isB (encR f a n a2 b r) := by
  have hf := isB_f f h0 h1
  have ht := isB_two
  unfold encR
  by_cases ho : encOk f n a2 b r = true
  · rw [if_pos ho]
    unfold reqS
    by_cases h1 : (f == 1) = true
    · rw [if_pos h1]; exact (hf.app (ht _)).app (ht _)
    rw [if_neg h1]
    by_cases h2 : (f == 2) = true
    · rw [if_pos h2]; exact (hf.app (ht _)).app (ht _)
    rw [if_neg h2]
    by_cases h3 : (f == 3) = true
    · rw [if_pos h3]; exact (hf.app (ht _)).app (ht _)
    rw [if_neg h3]
    by_cases h4 : (f == 4) = true
    · rw [if_pos h4]; exact (hf.app (ht _)).app (ht _)
    rw [if_neg h4]
    by_cases h5 : (f == 5) = true
    · rw [if_pos h5]; exact (hf.app (ht _)).app (ht _)
    rw [if_neg h5]
    by_cases h6 : (f == 6) = true
    · rw [if_pos h6]; exact (hf.app (ht _)).app (isB_twos _)
    rw [if_neg h6]
    by_cases h22 : (f == 22) = true
    · rw [if_pos h22]; exact (hf.app (ht _)).app (isB_twos _)
    rw [if_neg h22]
    by_cases h15 : (f == 15) = true
    · rw [if_pos h15]; exact (((hf.app (ht _)).app (ht _)).app (isB_one _)).app (isB_pack _ _)
    rw [if_neg h15]
    by_cases h16 : (f == 16) = true
    · rw [if_pos h16]; exact (((hf.app (ht _)).app (ht _)).app (isB_one _)).app (isB_twos _)
    rw [if_neg h16]
    by_cases h23 : (f == 23) = true
    · rw [if_pos h23]; exact (((((hf.app (ht _)).app (ht _)).app (ht _)).app (ht _)).app (isB_one _)).app (isB_twos _)
    rw [if_neg h23]
    exact isB_nil
  · rw [if_neg ho]; exact isB_nil
theorem coil_range (x : Bool) : 0 ≤ coilN x ∧ coilN x < 65536 := by cases x <;> decide
theorem coil_back (x : Bool) : (coilN x == 65280) = x := by cases x <;> decide
theorem bitsK_len (n : Nat) (h : n ≤ 2000) : bitsK (IntKind.i64.wrap (n : Int)) = n := by
  rw [IntWalk.i64_in _ (by omega)]
  unfold bitsK
  rw [if_neg (show ¬ ((0 : Int) > n) by omega), if_neg (show ¬ ((2000 : Int) < n) by omega)]
  simp
theorem opened_enc (f a n a2 : Int) (b : List Bool) (r : List Int) (ha : 0 ≤ a ∧ a < 65536) (hn : 0 ≤ n ∧ n < 65536) (ha2 : 0 ≤ a2 ∧ a2 < 65536) (hr : ∀ x ∈ r, 0 ≤ x ∧ x < 65536) (hk : encOk f n a2 b r = true) :
    openedS (encR f a n a2 b r) = (⟨f, a, n, a2, b, r⟩, true) := by
  have na := num_two a ha.1 ha.2
  have nn := num_two n hn.1 hn.2
  have n2 := num_two a2 ha2.1 ha2.2
  have nr := nums_twos r hr r.length (Nat.le_refl _)
  have nb := bits_pack b b.length (Nat.le_refl _)
  rw [List.take_length] at nr nb
  unfold encR
  rw [if_pos hk]
  by_cases h1 : f = 1
  · subst h1
    simp [encOk, withinB] at hk
    obtain ⟨⟨⟨_, rfl⟩, rfl⟩, rfl⟩ := hk
    simp [reqS, openedS, openedT, cutF_eq, pre3, two8, numAt, na, nn]
  by_cases h2 : f = 2
  · subst h2
    simp [encOk, withinB] at hk
    obtain ⟨⟨⟨_, rfl⟩, rfl⟩, rfl⟩ := hk
    simp [reqS, openedS, openedT, cutF_eq, pre3, two8, numAt, na, nn]
  by_cases h3 : f = 3
  · subst h3
    simp [encOk, withinB] at hk
    obtain ⟨⟨⟨_, rfl⟩, rfl⟩, rfl⟩ := hk
    simp [reqS, openedS, openedT, cutF_eq, pre3, two8, numAt, na, nn]
  by_cases h4 : f = 4
  · subst h4
    simp [encOk, withinB] at hk
    obtain ⟨⟨⟨_, rfl⟩, rfl⟩, rfl⟩ := hk
    simp [reqS, openedS, openedT, cutF_eq, pre3, two8, numAt, na, nn]
  by_cases h5 : f = 5
  · subst h5
    simp [encOk, withinB] at hk
    obtain ⟨⟨⟨rfl, hb⟩, rfl⟩, rfl⟩ := hk
    match b, hb with
    | [x], _ =>
      have nc := num_two (coilN x) (coil_range x).1 (coil_range x).2
      simp [reqS, openedS, openedT, cutF_eq, pre3, two8, numAt, na, nc]
      exact eq_of_beq (by cases x <;> rfl)
  by_cases h6 : f = 6
  · subst h6
    simp [encOk, withinB] at hk
    obtain ⟨⟨⟨rfl, rfl⟩, hb⟩, rfl⟩ := hk
    simp [reqS, openedS, openedT, cutF_eq, pre3, two8, numAt, na, twos_length, nr, hb]
  by_cases h22 : f = 22
  · subst h22
    simp [encOk, withinB] at hk
    obtain ⟨⟨⟨rfl, rfl⟩, hb⟩, rfl⟩ := hk
    simp [reqS, openedS, openedT, cutF_eq, pre3, two8, numAt, na, twos_length, nr, hb]
  by_cases h15 : f = 15
  · subst h15
    simp [encOk, withinB] at hk
    obtain ⟨⟨⟨rfl, hb⟩, rfl⟩, rfl⟩ := hk
    have nl := num_two (IntKind.u16.wrap b.length) (wrap16_range _).1 (wrap16_range _).2
    have nl2 : IntKind.u16.wrap (b.length : Int) = b.length := u16_in _ (by omega) (by omega)
    rw [nl2] at nl
    have nk := bitsK_len b.length (by omega)
    simp [reqS, row15, openedS, openedT, cutF_eq, pre3, two8, numAt, na, nl2, nl, nk, nb]
    rw [if_neg (by omega), if_neg (by omega)]
  by_cases h16 : f = 16
  · subst h16
    simp [encOk, withinB] at hk
    obtain ⟨⟨⟨rfl, rfl⟩, hb⟩, rfl⟩ := hk
    simp [reqS, rowR, openedS, openedT, cutF_eq, pre3, two8, numAt, na, twos_length, nr]
    rw [if_neg (by omega), if_neg (by omega)]
  by_cases h23 : f = 23
  · subst h23
    simp [encOk, withinB] at hk
    obtain ⟨⟨_, rfl⟩, hb⟩ := hk
    simp [reqS, rowR, openedS, openedT, cutF_eq, pre3, two8, numAt, na, nn, n2, twos_length, nr]
    rw [if_neg (by omega), if_neg (by omega)]
  simp [encOk, *] at hk
theorem set_same (l : List Int) (k : Nat) : l.set k (l.getD k 0) = l := by
  by_cases hk : k < l.length
  · rw [List.getD_eq_getElem?_getD, List.getElem?_eq_getElem hk]
    exact List.set_getElem_self hk
  · exact List.set_eq_of_length_le (by omega)
theorem again_same (q : Rq) (l : List Int) (e : Int) (h : isB l) : againS q l l e = l := by
  unfold againS
  split
  · rw [last_same _ (h.getD _).1 (h.getD _).2, set_same]
  · rfl
theorem dec_enc (f a n a2 : Int) (b : List Bool) (r : List Int) (hf : 0 ≤ f ∧ f < 256) (ha : 0 ≤ a ∧ a < 65536) (hn : 0 ≤ n ∧ n < 65536) (ha2 : 0 ≤ a2 ∧ a2 < 65536) (hr : ∀ x ∈ r, 0 ≤ x ∧ x < 65536) (hk : encOk f n a2 b r = true) :
    decS (encR f a n a2 b r) = (⟨f, a, n, a2, b, r⟩, 0) := by
  unfold decS
  rw [opened_enc f a n a2 b r ha hn ha2 hr hk]
  simp only [if_true]
  rw [again_same _ _ _ (enc_byte f a n a2 b r hf.1 hf.2)]
  simp [encE, hk]
end Go.Proofs.Ytomodeliimnddaa
set_option linter.unusedVariables false
set_option linter.unusedSimpArgs false
namespace Go.Proofs.Ytomodeliimnddaa
open Go.Ab
/- rung/runglaw3.PduRequests -/
def a5 : ACode := (.seq (.reg [⟨(some 1), .box (.t 0), none, false⟩, ⟨(some 2), .mov (.c (.bool false)), none, false⟩])
 (.seq (.seq (.reg [⟨(some 9), .call 46 [], none, false⟩, ⟨(some 10), .un .not (.t 9), none, false⟩])
 (.cond (.t 10) (.seq (.reg [⟨(some 2), .mov (.c (.bool false)), none, false⟩])
 .ret)
 .skip))
 (.seq (.seq (.reg [⟨(some 11), .load true 6 (.t 1), none, false⟩, ⟨(some 12), .call 47 [(.t 11)], none, false⟩, ⟨(some 13), .un .not (.t 12), none, false⟩])
 (.cond (.t 13) (.seq (.reg [⟨(some 2), .mov (.c (.bool true)), none, false⟩])
 .ret)
 .skip))
 (.seq (.reg [⟨(some 15), .load true 6 (.t 1), none, false⟩, ⟨(some 16), .call 48 [(.t 15)], none, false⟩, ⟨(some 14), .mov (.t 16), none, false⟩, ⟨(some 17), .ext (.t 14) 0, none, false⟩, ⟨(some 18), .ext (.t 14) 1, none, false⟩, ⟨(some 3), .mov (.t 17), none, false⟩, ⟨(some 4), .mov (.t 18), none, false⟩])
 (.seq (.reg [⟨(some 20), .load true 6 (.t 1), none, false⟩, ⟨(some 21), .call 49 [(.t 20)], none, false⟩, ⟨(some 19), .mov (.t 21), none, false⟩, ⟨(some 22), .ext (.t 19) 0, none, false⟩, ⟨(some 23), .ext (.t 19) 1, none, false⟩, ⟨(some 5), .mov (.t 22), none, false⟩, ⟨(some 6), .mov (.t 23), none, false⟩])
 (.seq (.seq (.reg [⟨(some 24), .mov (.t 3), none, false⟩, ⟨(some 25), .mov (.t 5), none, false⟩, ⟨(some 26), .call 50 [(.t 24), (.t 25)], none, false⟩, ⟨(some 27), .un .not (.t 26), none, false⟩, ⟨(some 28), .mov (.t 27), none, true⟩, ⟨(some 29), .mov (.t 4), (some (28, false)), false⟩, ⟨(some 30), .mov (.t 6), (some (28, false)), false⟩, ⟨(some 31), .bin .neq .other (.t 29) (.t 30), (some (28, false)), false⟩, ⟨(some 32), .pick (.t 28) (.c (.bool true)) (.t 31), none, false⟩, ⟨(some 33), .mov (.t 32), none, true⟩, ⟨(some 34), .mov (.t 3), (some (33, false)), false⟩, ⟨(some 35), .len false (.t 34), (some (33, false)), false⟩, ⟨(some 36), .bin .gtr .other (.t 35) (.c (.int .i64 253)), (some (33, false)), false⟩, ⟨(some 37), .pick (.t 33) (.c (.bool true)) (.t 36), none, false⟩])
 (.cond (.t 37) (.seq (.reg [⟨(some 2), .mov (.c (.bool false)), none, false⟩])
 .ret)
 .skip))
 (.seq (.seq (.reg [⟨(some 38), .mov (.t 6), none, false⟩, ⟨(some 39), .bin .neq .other (.t 38) (.c (.int .i64 0)), none, false⟩])
 (.cond (.t 39) (.seq (.reg [⟨(some 2), .mov (.c (.bool true)), none, false⟩])
 .ret)
 .skip))
 (.seq (.reg [⟨(some 41), .mov (.t 3), none, false⟩, ⟨(some 42), .call 51 [(.t 41)], none, false⟩, ⟨(some 40), .mov (.t 42), none, false⟩, ⟨(some 43), .ext (.t 40) 0, none, false⟩, ⟨(some 44), .ext (.t 40) 1, none, false⟩, ⟨(some 7), .alloc [(1, (.int .u8 0)), (3, (.int .u16 0)), (2, .nils)], none, false⟩, ⟨none, .store 6 (.t 7) (.t 43), none, false⟩, ⟨(some 8), .mov (.t 44), none, false⟩])
 (.seq (.reg [⟨(some 45), .mov (.t 8), none, false⟩, ⟨(some 46), .bin .eql .other (.t 45) (.c (.int .i64 0)), none, false⟩, ⟨(some 47), .mov (.t 46), none, true⟩, ⟨(some 48), .load true 6 (.t 7), (some (47, true)), false⟩, ⟨(some 49), .load true 6 (.t 1), (some (47, true)), false⟩, ⟨(some 50), .call 52 [(.t 48), (.t 49)], (some (47, true)), false⟩, ⟨(some 51), .pick (.t 47) (.t 50) (.c (.bool false)), none, false⟩, ⟨(some 2), .mov (.t 51), none, false⟩])
 .ret)))))))))
def r5 : List ARes := [.t 2]
theorem c5 : compF Try.prog Try.f5 = some (a5, r5) := by kernel_rfl

theorem b5 : hasBody Try.prog 5 = true := by kernel_rfl
theorem g5 : Try.prog.funcs[5]? = some Try.f5 := by kernel_rfl

theorem hreq_ev (f a n a2 f' a' n' a2' : Int) (b b' : List Bool) (r r' : List Int) (hb : b.length ≤ 100000) (hr : r.length ≤ 100000) :
    Ev Try.prog 52 [reqA f a n a2 (.roB b) (.roI .u16 r), reqA f' a' n' a2' (.roB b') (.roI .u16 r')] (.bool (f == f' && a == a' && n == n' && a2 == a2' && b == b' && r == r')) := ⟨rfl, hreq_tr f a n a2 f' a' n' a2' b b' r r' hb hr⟩
theorem hreq_same (f a n a2 : Int) (b : List Bool) (r : List Int) (hb : b.length ≤ 100000) (hr : r.length ≤ 100000) :
    Ev Try.prog 52 [reqA f a n a2 (.roB b) (.roI .u16 r), reqA f a n a2 (.roB b) (.roI .u16 r)] (.bool true) := by
  have h := hreq_ev f a n a2 f a n a2 b b r r hb hr
  simp only [beq_self_eq_true, Bool.and_self] at h
  exact h
theorem encR_len253 (f a n a2 : Int) (b : List Bool) (r : List Int) : (encR f a n a2 b r).length ≤ 253 := by
  unfold encR
  by_cases ho : encOk f n a2 b r = true
  · rw [if_pos ho]
    by_cases h1 : f = 1
    · subst h1; simp [encOk, withinB] at ho; simp [reqS, row15, rowR, pre3, packN_length, twos_length, two8] <;> omega
    by_cases h2 : f = 2
    · subst h2; simp [encOk, withinB] at ho; simp [reqS, row15, rowR, pre3, packN_length, twos_length, two8] <;> omega
    by_cases h3 : f = 3
    · subst h3; simp [encOk, withinB] at ho; simp [reqS, row15, rowR, pre3, packN_length, twos_length, two8] <;> omega
    by_cases h4 : f = 4
    · subst h4; simp [encOk, withinB] at ho; simp [reqS, row15, rowR, pre3, packN_length, twos_length, two8] <;> omega
    by_cases h5 : f = 5
    · subst h5; simp [encOk, withinB] at ho; simp [reqS, row15, rowR, pre3, packN_length, twos_length, two8] <;> omega
    by_cases h6 : f = 6
    · subst h6; simp [encOk, withinB] at ho; simp [reqS, row15, rowR, pre3, packN_length, twos_length, two8] <;> omega
    by_cases h15 : f = 15
    · subst h15; simp [encOk, withinB] at ho; simp [reqS, row15, rowR, pre3, packN_length, twos_length, two8] <;> omega
    by_cases h16 : f = 16
    · subst h16; simp [encOk, withinB] at ho; simp [reqS, row15, rowR, pre3, packN_length, twos_length, two8] <;> omega
    by_cases h22 : f = 22
    · subst h22; simp [encOk, withinB] at ho; simp [reqS, row15, rowR, pre3, packN_length, twos_length, two8] <;> omega
    by_cases h23 : f = 23
    · subst h23; simp [encOk, withinB] at ho; simp [reqS, row15, rowR, pre3, packN_length, twos_length, two8] <;> omega
    simp [encOk, *] at ho
  · rw [if_neg ho]; simp
set_option maxRecDepth 20000 in
theorem law5 (f a n a2 : Int) (b : List Bool) (r : List Int) (hf : 0 ≤ f ∧ f < 256) (ha : 0 ≤ a ∧ a < 65536) (hn : 0 ≤ n ∧ n < 65536) (ha2 : 0 ≤ a2 ∧ a2 < 65536) (hrr : ∀ x ∈ r, 0 ≤ x ∧ x < 65536) : Ev Try.prog 5 [reqA f a n a2 (.roB b) (.roI .u16 r)] (.bool true) := by
  refine FrzK.ev rfl (trF g5 b5 c5 ?_)
  conv => whnf
  refine Ev.call known3 ?_
  conv => whnf
  refine Ev.call (light_ev _ _ _ _ _ _) ?_
  conv => whnf
  refine condS (fun h => ?_) (fun h => ?_)
  · conv => whnf
    exact FrzK.le (Le.refl _)
  conv => whnf
  have hb : b.length ≤ 2500 ∧ r.length ≤ 200 := by
    simp only [Bool.not_eq_false', Bool.and_eq_true, decide_eq_true_eq] at h
    omega
  have hl := encR_len253 f a n a2 b r
  refine Ev.call (Request_ev f a n a2 b r hn.1 hn.2 hb.1 (by omega)) ?_
  conv => whnf
  refine Ev.call (rRequest_ev f a n a2 b r hn.1 hn.2 hb.1 (by omega)) ?_
  conv => whnf
  refine Ev.call (bytes_same _) ?_
  conv => whnf
  refine condN (by simp) ?_
  conv => whnf
  refine condN (by simp; omega) ?_
  conv => whnf
  cases hk : encOk f n a2 b r with
  | false =>
    refine condY (by simp [encE, hk]) ?_
    conv => whnf
    exact FrzK.le (Le.refl _)
  | true =>
    refine condN (by simp [encE, hk]) ?_
    conv => whnf
    have hO := OpenRequest_ev (encR f a n a2 b r) (by omega)
    rw [dec_enc f a n a2 b r hf ha hn ha2 hrr hk] at hO
    refine Ev.call hO ?_
    conv => whnf
    refine Ev.call (hreq_same f a n a2 b r (by omega) (by omega)) ?_
    conv => whnf
    exact FrzK.le (Le.refl _)
end Go.Proofs.Ytomodeliimnddaa
set_option linter.unusedVariables false
set_option linter.unusedSimpArgs false
namespace Go.Proofs.Ytomodeliimnddaa
open Go.Ab
/- rung/rungref3.Known -/
def a66 : ACode := (.seq (.reg [⟨(some 2), .mov (.c (.bool false)), none, false⟩])
 (.seq (.reg [⟨(some 3), .mov (.t 0), none, false⟩, ⟨(some 4), .bin .geq .other (.t 3) (.c (.int .u8 1)), none, false⟩, ⟨(some 5), .mov (.t 4), none, true⟩, ⟨(some 6), .mov (.t 0), (some (5, true)), false⟩, ⟨(some 7), .bin .leq .other (.t 6) (.c (.int .u8 6)), (some (5, true)), false⟩, ⟨(some 8), .pick (.t 5) (.t 7) (.c (.bool false)), none, false⟩, ⟨(some 9), .mov (.t 8), none, true⟩, ⟨(some 10), .mov (.t 0), (some (9, false)), false⟩, ⟨(some 11), .bin .eql .other (.t 10) (.c (.int .u8 15)), (some (9, false)), false⟩, ⟨(some 12), .pick (.t 9) (.c (.bool true)) (.t 11), none, false⟩, ⟨(some 13), .mov (.t 12), none, true⟩, ⟨(some 14), .mov (.t 0), (some (13, false)), false⟩, ⟨(some 15), .bin .eql .other (.t 14) (.c (.int .u8 16)), (some (13, false)), false⟩, ⟨(some 16), .pick (.t 13) (.c (.bool true)) (.t 15), none, false⟩, ⟨(some 17), .mov (.t 16), none, true⟩, ⟨(some 18), .mov (.t 0), (some (17, false)), false⟩, ⟨(some 19), .bin .eql .other (.t 18) (.c (.int .u8 22)), (some (17, false)), false⟩, ⟨(some 20), .pick (.t 17) (.c (.bool true)) (.t 19), none, false⟩, ⟨(some 21), .mov (.t 20), none, true⟩, ⟨(some 22), .mov (.t 0), (some (21, false)), false⟩, ⟨(some 23), .bin .eql .other (.t 22) (.c (.int .u8 23)), (some (21, false)), false⟩, ⟨(some 24), .pick (.t 21) (.c (.bool true)) (.t 23), none, false⟩, ⟨(some 2), .mov (.t 24), none, false⟩])
 .ret))
def r66 : List ARes := [.t 2]
theorem c66 : compF Try.prog Try.f66 = some (a66, r66) := by kernel_rfl

theorem b66 : hasBody Try.prog 66 = true := by kernel_rfl
theorem g66 : Try.prog.funcs[66]? = some Try.f66 := by kernel_rfl
/- rung/runglaw3.PduBits -/
def a10 : ACode := (.seq (.reg [⟨(some 6), .mov (.c (.bool false)), none, false⟩])
 (.seq (.seq (.reg [⟨(some 9), .call 46 [], none, false⟩, ⟨(some 10), .un .not (.t 9), none, false⟩])
 (.cond (.t 10) (.seq (.reg [⟨(some 6), .mov (.c (.bool false)), none, false⟩])
 .ret)
 .skip))
 (.seq (.seq (.reg [⟨(some 11), .mov (.t 0), none, false⟩, ⟨(some 12), .len false (.t 11), none, false⟩, ⟨(some 13), .bin .gtr .other (.t 12) (.c (.int .i64 2000)), none, false⟩, ⟨(some 14), .mov (.t 13), none, true⟩, ⟨(some 15), .mov (.t 1), (some (14, false)), false⟩, ⟨(some 16), .len false (.t 15), (some (14, false)), false⟩, ⟨(some 17), .bin .gtr .other (.t 16) (.c (.int .i64 300)), (some (14, false)), false⟩, ⟨(some 18), .pick (.t 14) (.c (.bool true)) (.t 17), none, false⟩])
 (.cond (.t 18) (.seq (.reg [⟨(some 6), .mov (.c (.bool true)), none, false⟩])
 .ret)
 .skip))
 (.seq (.reg [⟨(some 19), .mov (.t 0), none, false⟩, ⟨(some 20), .call 61 [(.t 19)], none, false⟩, ⟨(some 7), .mov (.t 20), none, false⟩])
 (.seq (.seq (.reg [⟨(some 21), .mov (.t 7), none, false⟩, ⟨(some 22), .mov (.t 0), none, false⟩, ⟨(some 23), .call 62 [(.t 22)], none, false⟩, ⟨(some 24), .call 50 [(.t 21), (.t 23)], none, false⟩, ⟨(some 25), .un .not (.t 24), none, false⟩, ⟨(some 26), .mov (.t 25), none, true⟩, ⟨(some 27), .mov (.t 7), (some (26, false)), false⟩, ⟨(some 28), .mov (.t 0), (some (26, false)), false⟩, ⟨(some 29), .len false (.t 28), (some (26, false)), false⟩, ⟨(some 30), .call 64 [(.t 27), (.t 29)], (some (26, false)), false⟩, ⟨(some 31), .mov (.t 0), (some (26, false)), false⟩, ⟨(some 32), .call 63 [(.t 30), (.t 31)], (some (26, false)), false⟩, ⟨(some 33), .un .not (.t 32), (some (26, false)), false⟩, ⟨(some 34), .pick (.t 26) (.c (.bool true)) (.t 33), none, false⟩])
 (.cond (.t 34) (.seq (.reg [⟨(some 6), .mov (.c (.bool false)), none, false⟩])
 .ret)
 .skip))
 (.seq (.seq (.reg [⟨(some 8), .mov (.c (.int .i64 0)), none, false⟩])
 (.block 0 (.loop (.seq (.seq (.reg [⟨(some 35), .mov (.t 8), none, false⟩, ⟨(some 36), .bin .lss .other (.t 35) (.c (.int .i64 256)), none, false⟩])
 (.cond (.t 36) .skip
 (.exit 0)))
 (.seq (.block 1 (.seq (.reg [⟨(some 39), .mov (.t 8), none, false⟩, ⟨(some 40), .conv (.int .u8) (.t 39), none, false⟩, ⟨(some 41), .call 65 [(.t 40)], none, false⟩, ⟨(some 42), .mov (.t 8), none, false⟩, ⟨(some 43), .conv (.int .u8) (.t 42), none, false⟩, ⟨(some 44), .call 66 [(.t 43)], none, false⟩, ⟨(some 45), .bin .neq .bool (.t 41) (.t 44), none, false⟩])
 (.cond (.t 45) (.seq (.reg [⟨(some 6), .mov (.c (.bool false)), none, false⟩])
 .ret)
 .skip)))
 (.reg [⟨(some 37), .mov (.t 8), none, false⟩, ⟨(some 38), .bin .add .other (.t 37) (.c (.int .i64 1)), none, false⟩, ⟨(some 8), .mov (.t 38), none, false⟩]))))))
 (.seq (.reg [⟨(some 46), .mov (.t 1), none, false⟩, ⟨(some 47), .mov (.t 2), none, false⟩, ⟨(some 48), .call 64 [(.t 46), (.t 47)], none, false⟩, ⟨(some 49), .mov (.t 1), none, false⟩, ⟨(some 50), .mov (.t 2), none, false⟩, ⟨(some 51), .call 67 [(.t 49), (.t 50)], none, false⟩, ⟨(some 52), .call 63 [(.t 48), (.t 51)], none, false⟩, ⟨(some 6), .mov (.t 52), none, false⟩])
 .ret)))))))
def r10 : List ARes := [.t 6]
theorem c10 : compF Try.prog Try.f10 = some (a10, r10) := by kernel_rfl

theorem b10 : hasBody Try.prog 10 = true := by kernel_rfl
theorem g10 : Try.prog.funcs[10]? = some Try.f10 := by kernel_rfl
/- rung/runglaw3.PduOnce -/
def a11 : ACode := (.seq (.reg [⟨(some 2), .box (.t 0), none, false⟩, ⟨(some 3), .box (.t 1), none, false⟩, ⟨(some 4), .mov (.c (.bool false)), none, false⟩])
 (.seq (.seq (.reg [⟨(some 9), .call 46 [], none, false⟩, ⟨(some 10), .un .not (.t 9), none, false⟩])
 (.cond (.t 10) (.seq (.reg [⟨(some 4), .mov (.c (.bool false)), none, false⟩])
 .ret)
 .skip))
 (.seq (.seq (.reg [⟨(some 11), .load true 6 (.t 2), none, false⟩, ⟨(some 12), .call 47 [(.t 11)], none, false⟩, ⟨(some 13), .un .not (.t 12), none, false⟩, ⟨(some 14), .mov (.t 13), none, true⟩, ⟨(some 15), .load true 6 (.t 3), (some (14, false)), false⟩, ⟨(some 16), .call 47 [(.t 15)], (some (14, false)), false⟩, ⟨(some 17), .un .not (.t 16), (some (14, false)), false⟩, ⟨(some 18), .pick (.t 14) (.c (.bool true)) (.t 17), none, false⟩])
 (.cond (.t 18) (.seq (.reg [⟨(some 4), .mov (.c (.bool true)), none, false⟩])
 .ret)
 .skip))
 (.seq (.reg [⟨(some 20), .load true 6 (.t 2), none, false⟩, ⟨(some 21), .call 48 [(.t 20)], none, false⟩, ⟨(some 19), .mov (.t 21), none, false⟩, ⟨(some 22), .ext (.t 19) 0, none, false⟩, ⟨(some 23), .ext (.t 19) 1, none, false⟩, ⟨(some 5), .mov (.t 22), none, false⟩, ⟨(some 6), .mov (.t 23), none, false⟩])
 (.seq (.reg [⟨(some 25), .load true 6 (.t 3), none, false⟩, ⟨(some 26), .call 48 [(.t 25)], none, false⟩, ⟨(some 24), .mov (.t 26), none, false⟩, ⟨(some 27), .ext (.t 24) 0, none, false⟩, ⟨(some 28), .ext (.t 24) 1, none, false⟩, ⟨(some 7), .mov (.t 27), none, false⟩, ⟨(some 8), .mov (.t 28), none, false⟩])
 (.seq (.draw [⟨0, ⟨(some 29), .mov (.t 6), none, false⟩, false, [], []⟩, ⟨1, ⟨(some 30), .mov (.t 8), none, false⟩, false, [], []⟩, ⟨2, ⟨(some 31), .bin .add .other (.t 29) (.t 30), none, false⟩, false, [], []⟩, ⟨3, ⟨(some 32), .bin .neq .other (.t 31) (.c (.int .i64 0)), none, false⟩, false, [], []⟩, ⟨4, ⟨(some 33), .mov (.t 32), none, true⟩, false, [], []⟩, ⟨5, ⟨(some 34), .mov (.t 5), (some (33, false)), false⟩, false, [], []⟩, ⟨6, ⟨(some 35), .mov (.t 7), (some (33, false)), false⟩, false, [], []⟩, ⟨8, ⟨(some 37), .load true 6 (.t 2), (some (33, false)), false⟩, false, [], []⟩, ⟨9, ⟨(some 38), .load true 6 (.t 3), (some (33, false)), false⟩, false, [], []⟩, ⟨7, ⟨(some 36), .call 50 [(.t 34), (.t 35)], (some (33, false)), false⟩, true, [], [(.t 2), (.t 3)]⟩, ⟨10, ⟨(some 39), .call 52 [(.t 37), (.t 38)], (some (33, false)), false⟩, true, [], []⟩, ⟨11, ⟨(some 40), .bin .eql .bool (.t 36) (.t 39), (some (33, false)), false⟩, false, [], []⟩, ⟨12, ⟨(some 41), .pick (.t 33) (.c (.bool true)) (.t 40), none, false⟩, false, [], []⟩, ⟨13, ⟨(some 4), .mov (.t 41), none, false⟩, false, [], []⟩])
 .ret))))))
def r11 : List ARes := [.t 4]
theorem c11 : compF Try.prog Try.f11 = some (a11, r11) := by kernel_rfl

theorem b11 : hasBody Try.prog 11 = true := by kernel_rfl
theorem g11 : Try.prog.funcs[11]? = some Try.f11 := by kernel_rfl

theorem u8_inj (x y : Int) (h0 : 0 ≤ x ∧ x < 256) (h1 : 0 ≤ y ∧ y < 256) (h : UInt8.ofNat x.toNat = UInt8.ofNat y.toNat) : x = y := by
  have := congrArg UInt8.toNat h
  simp only [UInt8.toNat_ofNat'] at this
  omega
theorem map_inj : ∀ (l m : List Int), isB l → isB m → l.map (fun n => UInt8.ofNat n.toNat) = m.map (fun n => UInt8.ofNat n.toNat) → l = m
  | [], [], _, _, _ => rfl
  | [], y :: m, _, _, h => by simp at h
  | x :: l, [], _, _, h => by simp at h
  | x :: l, y :: m, hl, hm, h => by
    simp only [List.map_cons, List.cons.injEq] at h
    rw [u8_inj x y (hl x (by simp)) (hm y (by simp)) h.1, map_inj l m (fun z hz => hl z (by simp [hz])) (fun z hz => hm z (by simp [hz])) h.2]
theorem bytes_byte (l m : List Int) (hl : isB l) (hm : isB m) : Ev Try.prog 50 [.roI .u8 l, .roI .u8 m] (.bool (l == m)) := by
  have h := bytes_ev l m
  have e : ((bytesStr l).toList == (bytesStr m).toList) = (l == m) := by
    rw [ByteArray.toList_eq, ByteArray.toList_eq, Bool.eq_iff_iff]
    simp only [beq_iff_eq]
    exact ⟨fun h => map_inj l m hl hm h, fun h => by rw [h]⟩
  rwa [e] at h
theorem bits_len_ev (l : List Bool) (hl : l.length ≤ 2000) : Ev Try.prog 64 [.roI .u8 (packN l l.length), .int .i64 l.length] (.roB l) := by
  have h := bits_ev (packN l l.length) l.length (by rw [packN_length]; omega)
  have e := bitsK_len l.length hl
  rw [IntWalk.i64_in _ (by omega)] at e
  rw [e, bits_pack l l.length (Nat.le_refl _), List.take_length] at h
  exact h
theorem rbits10_ev (l : List Int) (n : Int) (hl : l.length ≤ 100000) : Ev Try.prog 67 [.roI .u8 l, .int .i64 n] (.roB (bitsA l (bitsK n))) := by
  refine Ev.rowB rfl ?_
  rw [bitsA_length]
  exact rbits_tr l n hl
theorem hbits_same (l : List Bool) (hl : l.length ≤ 100000) : Ev Try.prog 63 [.roB l, .roB l] (.bool true) := by
  have h : Ev Try.prog 63 [.roB l, .roB l] (.bool (l == l)) := ⟨rfl, hbits_tr l l hl⟩
  rwa [beq_self_eq_true] at h
theorem leBool {b c : Bool} (h : b = c) : Le (.bool b) (.bool c) := h ▸ Le.refl _
set_option maxHeartbeats 1000000 in
theorem rknown_ev (x : Int) : Ev Try.prog 66 [.int .u8 x] (.bool (knownB x)) := by
  refine FrzK.ev rfl (trF g66 b66 c66 ?_)
  conv => whnf
  repeat' (first
    | (refine condY (by assumption) ?_; conv => whnf)
    | (refine condN (by assumption) ?_; conv => whnf)
    | (refine condF (fun h => ?_) (fun h => ?_) <;> conv => whnf))
  all_goals (refine FrzK.le ?_)
  all_goals (refine leBool ?_)
  all_goals (rw [Bool.eq_iff_iff]; simp only [knownB, Bool.or_eq_true, beq_iff_eq, Bool.true_eq, Bool.false_eq_true, false_iff, true_iff, decide_eq_true_eq, decide_eq_false_iff_not, beq_eq_false_iff_ne, ne_eq] at *; omega)
set_option maxRecDepth 20000 in
theorem law10 (l : List Bool) (b : List Int) (n : Int) : Ev Try.prog 10 [.roB l, .roI .u8 b, .int .i64 n] (.bool true) := by
  refine FrzK.ev rfl (trF g10 b10 c10 ?_)
  conv => whnf
  refine Ev.call known3 ?_
  conv => whnf
  refine condF (fun h => ?_) (fun h => ?_)
  · conv => whnf
    refine condF (fun h' => ?_) (fun h' => ?_)
    · conv => whnf
      have hl : l.length ≤ 2000 := by simp at h; omega
      have hb : b.length ≤ 300 := by simp at h'; omega
      refine Ev.call (pack_ev l (by omega)) ?_
      conv => whnf
      refine Ev.call (rpack_ev l (by omega)) ?_
      conv => whnf
      refine Ev.call (bytes_same _) ?_
      conv => whnf
      refine Ev.call (bits_len_ev l hl) ?_
      conv => whnf
      refine Ev.call (hbits_same l (by omega)) ?_
      conv => whnf
      refine loopI (α := {i : Nat // i ≤ 256}) (fun i => [(1, .roI .u8 b), (2, .int .i64 n), (8, .int .i64 i.1)]) (fun i => ⟨0, []⟩) (fun i => 256 - i.1) ⟨0, Nat.zero_le _⟩
        ⟨[], rfl, rfl, rfl, ⟨⟨rfl, rfl⟩, ⟨rfl, rfl⟩, ⟨rfl, rfl⟩, trivial⟩, trivial⟩ fun ⟨i, hi⟩ => ?_
      conv => whnf
      by_cases hlt : i < 256
      · refine condY (by simp; omega) ?_
        conv => whnf
        refine Ev.call (known_ev _) ?_
        conv => whnf
        refine Ev.call (rknown_ev _) ?_
        conv => whnf
        refine condN (by simp) ?_
        conv => whnf
        refine ⟨⟨i + 1, hlt⟩, ⟨[], rfl, rfl, rfl, ⟨⟨rfl, rfl⟩, ⟨rfl, rfl⟩, ⟨?_, rfl⟩, trivial⟩, trivial⟩, by show 256 - (i + 1) < 256 - i; omega⟩
        show AV.int .i64 (IntKind.i64.wrap ((i : Int) + 1)) = AV.int .i64 ((i + 1 : Nat) : Int)
        rw [IntWalk.i64_in _ (by omega)]; rfl
      · refine condN (by simp; omega) ?_
        conv => whnf
        refine Ev.call (bits_ev b n (by omega)) ?_
        conv => whnf
        refine Ev.call (rbits10_ev b n (by omega)) ?_
        conv => whnf
        refine Ev.call (hbits_same _ (by rw [bitsA_length]; have := bitsK_le n; omega)) ?_
        conv => whnf
        exact FrzK.le (Le.refl _)
    · conv => whnf
      exact FrzK.le (Le.refl _)
  · conv => whnf
    exact FrzK.le (Le.refl _)
theorem enc_inj (f a n a2 f' a' n' a2' : Int) (b b' : List Bool) (r r' : List Int) (hf : 0 ≤ f ∧ f < 256) (ha : 0 ≤ a ∧ a < 65536) (hn : 0 ≤ n ∧ n < 65536) (ha2 : 0 ≤ a2 ∧ a2 < 65536) (hrr : ∀ x ∈ r, 0 ≤ x ∧ x < 65536)
    (hf' : 0 ≤ f' ∧ f' < 256) (ha' : 0 ≤ a' ∧ a' < 65536) (hn' : 0 ≤ n' ∧ n' < 65536) (ha2' : 0 ≤ a2' ∧ a2' < 65536) (hrr' : ∀ x ∈ r', 0 ≤ x ∧ x < 65536) (hk : encOk f n a2 b r = true) (hk' : encOk f' n' a2' b' r' = true) :
    (encR f a n a2 b r == encR f' a' n' a2' b' r') = (f == f' && a == a' && n == n' && a2 == a2' && b == b' && r == r') := by
  rw [Bool.eq_iff_iff]
  simp only [beq_iff_eq, Bool.and_eq_true]
  constructor
  · intro h
    have h1 := dec_enc f a n a2 b r hf ha hn ha2 hrr hk
    have h2 := dec_enc f' a' n' a2' b' r' hf' ha' hn' ha2' hrr' hk'
    rw [h, h2] at h1
    simp only [Prod.mk.injEq, Rq.mk.injEq] at h1
    obtain ⟨⟨h1, h2, h3, h4, h5, h6⟩, _⟩ := h1
    exact ⟨⟨⟨⟨⟨h1.symm, h2.symm⟩, h3.symm⟩, h4.symm⟩, h5.symm⟩, h6.symm⟩
  · rintro ⟨⟨⟨⟨⟨rfl, rfl⟩, rfl⟩, rfl⟩, rfl⟩, rfl⟩
    rfl
set_option maxRecDepth 20000 in
theorem law11 (f a n a2 f' a' n' a2' : Int) (b b' : List Bool) (r r' : List Int) (hf : 0 ≤ f ∧ f < 256) (ha : 0 ≤ a ∧ a < 65536) (hn : 0 ≤ n ∧ n < 65536) (ha2 : 0 ≤ a2 ∧ a2 < 65536) (hrr : ∀ x ∈ r, 0 ≤ x ∧ x < 65536)
    (hf' : 0 ≤ f' ∧ f' < 256) (ha' : 0 ≤ a' ∧ a' < 65536) (hn' : 0 ≤ n' ∧ n' < 65536) (ha2' : 0 ≤ a2' ∧ a2' < 65536) (hrr' : ∀ x ∈ r', 0 ≤ x ∧ x < 65536) :
    Ev Try.prog 11 [reqA f a n a2 (.roB b) (.roI .u16 r), reqA f' a' n' a2' (.roB b') (.roI .u16 r')] (.bool true) := by
  refine FrzK.ev rfl (trF g11 b11 c11 ?_)
  conv => whnf
  refine Ev.call known3 ?_
  conv => whnf
  refine Ev.call (light_ev _ _ _ _ _ _) ?_
  conv => whnf
  refine condS (fun h => ?_) (fun h => ?_)
  · conv => whnf
    exact FrzK.le (Le.refl _)
  conv => whnf
  refine Ev.call (light_ev _ _ _ _ _ _) ?_
  conv => whnf
  refine condS (fun h' => ?_) (fun h' => ?_)
  · conv => whnf
    exact FrzK.le (Le.refl _)
  conv => whnf
  have hb : b.length ≤ 2500 ∧ r.length ≤ 200 := by
    simp only [Bool.not_eq_false', Bool.and_eq_true, decide_eq_true_eq] at h
    omega
  have hb' : b'.length ≤ 2500 ∧ r'.length ≤ 200 := by
    simp only [Bool.not_eq_false', Bool.and_eq_true, decide_eq_true_eq] at h'
    omega
  refine Ev.call (Request_ev f a n a2 b r hn.1 hn.2 hb.1 (by omega)) ?_
  conv => whnf
  refine Ev.call (Request_ev f' a' n' a2' b' r' hn'.1 hn'.2 hb'.1 (by omega)) ?_
  conv => whnf
  cases hk : encOk f n a2 b r with
  | false =>
    refine condY ?_ ?_
    · cases hk' : encOk f' n' a2' b' r' <;> simp only [encE, hk, hk', if_true, if_false, Bool.false_eq_true] <;> decide
    conv => whnf
    exact FrzK.le (Le.refl _)
  | true =>
    cases hk' : encOk f' n' a2' b' r' with
    | false =>
      refine condY ?_ ?_
      · simp only [encE, hk, hk', if_true, if_false, Bool.false_eq_true]; decide
      conv => whnf
      exact FrzK.le (Le.refl _)
    | true =>
      refine condN ?_ ?_
      · simp only [encE, hk, hk', if_true]; decide
      conv => whnf
      refine Ev.call (bytes_byte _ _ (enc_byte _ _ _ _ _ _ hf.1 hf.2) (enc_byte _ _ _ _ _ _ hf'.1 hf'.2)) ?_
      conv => whnf
      repeat' (first
        | (refine ⟨rfl, ?_⟩; conv => whnf)
        | (refine Ev.call (hreq_ev _ _ _ _ _ _ _ _ _ _ _ _ (by omega) (by omega)) ?_; conv => whnf))
      refine FrzK.le (leBool ?_)
      rw [enc_inj f a n a2 f' a' n' a2' b b' r r' hf ha hn ha2 hrr hf' ha' hn' ha2' hrr' hk hk', beq_self_eq_true]
end Go.Proofs.Ytomodeliimnddaa
set_option linter.unusedVariables false
set_option linter.unusedSimpArgs false
namespace Go.Proofs.Ytomodeliimnddaa
open Go.Ab
theorem nilOr {P : Program} {f es : Nat} {v : AV} {g : Nat → AV} {s : St} {K : AV → St → Prop} (hv : v.rov = some (es, 0, g)) (h1 : Tr P f [.nils] s K) (h2 : ∀ a c, Tr P f [.raw (.slice (some a) 0 c)] s K) : Tr P f [v] s K := by
  unfold Tr at h1 h2 ⊢
  refine ⟨h1.1, fun ι w M Vs hR hV => ?_⟩
  obtain ⟨hs, hg⟩ := hV
  have h0 : VRel ι w M v (Vs.getD 0 default) := hg 0 (by simp)
  rcases h0.rov_inv hv with ⟨_, e⟩ | ⟨a, cap, g', e, _⟩
  · refine h1.2 ι w M Vs hR ⟨hs, fun j hj => ?_⟩
    obtain rfl : j = 0 := by simp at hj; exact hj
    rw [e]; exact .g _ _ .nils
  · refine (h2 a cap).2 ι w M Vs hR ⟨hs, fun j hj => ?_⟩
    obtain rfl : j = 0 := by simp at hj; exact hj
    rw [e]; exact .g _ _ (.raw _)
/- slices.Clone[[]uint16,uint16] -/
def a101 : ACode := (.seq (.reg [⟨(some 2), .mov (.c .nils), none, false⟩])
 (.seq (.seq (.reg [⟨(some 3), .mov (.t 0), none, false⟩, ⟨(some 4), .bin .eql .slice (.t 3) (.c .nils), none, false⟩])
 (.cond (.t 4) (.seq (.reg [⟨(some 2), .mov (.c .nils), none, false⟩])
 .ret)
 .skip))
 (.seq (.reg [⟨(some 5), .bslice 1 (.int .u16) [] [] 0, none, false⟩, ⟨(some 6), .mov (.t 0), none, false⟩, ⟨(some 7), .app 1 2 (.t 5) (.t 6), none, false⟩, ⟨(some 2), .mov (.t 7), none, false⟩])
 .ret)))
def r101 : List ARes := [.t 2]
theorem c101 : compF Try.prog Try.f101 = some (a101, r101) := by kernel_rfl

/- slices.Clone[[]bool,bool] -/
def a122 : ACode := (.seq (.reg [⟨(some 2), .mov (.c .nils), none, false⟩])
 (.seq (.seq (.reg [⟨(some 3), .mov (.t 0), none, false⟩, ⟨(some 4), .bin .eql .slice (.t 3) (.c .nils), none, false⟩])
 (.cond (.t 4) (.seq (.reg [⟨(some 2), .mov (.c .nils), none, false⟩])
 .ret)
 .skip))
 (.seq (.reg [⟨(some 5), .bslice 1 .bool [] [] 0, none, false⟩, ⟨(some 6), .mov (.t 0), none, false⟩, ⟨(some 7), .app 1 1 (.t 5) (.t 6), none, false⟩, ⟨(some 2), .mov (.t 7), none, false⟩])
 .ret)))
def r122 : List ARes := [.t 2]
theorem c122 : compF Try.prog Try.f122 = some (a122, r122) := by kernel_rfl


theorem b101 : hasBody Try.prog 101 = true := by kernel_rfl
theorem g101 : Try.prog.funcs[101]? = some Try.f101 := by kernel_rfl
theorem b122 : hasBody Try.prog 122 = true := by kernel_rfl
theorem g122 : Try.prog.funcs[122]? = some Try.f122 := by kernel_rfl
theorem cloneI_ev (l : List Int) (hl : l.length ≤ 100000) : Ev Try.prog 101 [.roI .u16 l] (.roI .u16 l) := by
  refine FrzK.ev rfl ?_
  cases l with
  | nil =>
    refine nilOr rfl ?_ fun a c => ?_
    · refine trF g101 b101 c101 ?_
      conv => whnf
      exact FrzK.le (Le.nilI _)
    · refine trF g101 b101 c101 ?_
      conv => whnf
      exact FrzK.step 1 rfl (FrzK.le (Le.refl _))
  | cons x l =>
    refine trF g101 b101 c101 ?_
    conv => whnf
    refine condT (by simp at hl ⊢; omega) ?_
    conv => whnf
    refine FrzK.step 1 rfl (FrzK.le ?_)
    show Le ((AV.sl 1 1 0 (0 + (x :: l).length)).frz 1 (.rowI .u16 (x :: l))) _
    rw [frz_row 1 .u16 (x :: l) _ (Nat.zero_add _)]
    exact Le.refl _
theorem cloneB_ev (l : List Bool) (hl : l.length ≤ 100000) : Ev Try.prog 122 [.roB l] (.roB l) := by
  refine FrzK.ev rfl ?_
  cases l with
  | nil =>
    refine nilOr rfl ?_ fun a c => ?_
    · refine trF g122 b122 c122 ?_
      conv => whnf
      exact FrzK.le Le.nilB
    · refine trF g122 b122 c122 ?_
      conv => whnf
      exact FrzK.step 1 rfl (FrzK.le (Le.refl _))
  | cons x l =>
    refine trF g122 b122 c122 ?_
    conv => whnf
    refine condT (by simp at hl ⊢; omega) ?_
    conv => whnf
    refine FrzK.step 1 rfl (FrzK.le ?_)
    show Le ((AV.sl 1 1 0 (0 + (x :: l).length)).frz 1 (.rowB (x :: l))) _
    rw [frz_rowB 1 (x :: l) _ (Nat.zero_add _)]
    exact Le.refl _
end Go.Proofs.Ytomodeliimnddaa
set_option linter.unusedVariables false
set_option linter.unusedSimpArgs false
namespace Go.Proofs.Ytomodeliimnddaa
open Go.Ab
structure Rp where
  f : Int
  x : Int
  a : Int
  n : Int
  b : List Bool
  r : List Int
def rpA (q : Rp) : AV := repA q.f q.x q.a q.n (.roB q.b) (.roI .u16 q.r)
def Rp.zero : Rp := ⟨0, 0, 0, 0, [], []⟩
def finS (l : List Int) (r : Rp) : Rp × Int := if repE r.f r.x r.a r.n r.b r.r == 0 && repB r.f r.x r.a r.n r.b r.r == l then (r, 0) else (Rp.zero, 30)
def nB (n : Int) : Int := IntKind.i64.wrap ((IntKind.i64.wrap (IntKind.i64.wrap n + 7)).tdiv 8)
def orepT (q : Rq) (l : List Int) : Rp × Int :=
  if q.f == 1 then (if l.getD 0 0 != q.f || IntKind.i64.wrap (l.getD 1 0) != nB q.n || (l.length : Int) != IntKind.i64.wrap (nB q.n + 2) then (Rp.zero, 30) else (⟨q.f, 0, 0, 0, bitsA (cutF l 2) (bitsK (IntKind.i64.wrap q.n)), []⟩, 0))
  else if q.f == 2 then (if l.getD 0 0 != q.f || IntKind.i64.wrap (l.getD 1 0) != nB q.n || (l.length : Int) != IntKind.i64.wrap (nB q.n + 2) then (Rp.zero, 30) else (⟨q.f, 0, 0, 0, bitsA (cutF l 2) (bitsK (IntKind.i64.wrap q.n)), []⟩, 0))
  else if q.f == 3 then (if ((numsN (cutF l 2) ((cutF l 2).length / 2)).length : Int) != IntKind.i64.wrap q.n then (Rp.zero, 30) else finS l ⟨q.f, 0, 0, 0, [], numsN (cutF l 2) ((cutF l 2).length / 2)⟩)
  else if q.f == 4 then (if ((numsN (cutF l 2) ((cutF l 2).length / 2)).length : Int) != IntKind.i64.wrap q.n then (Rp.zero, 30) else finS l ⟨q.f, 0, 0, 0, [], numsN (cutF l 2) ((cutF l 2).length / 2)⟩)
  else if q.f == 23 then (if ((numsN (cutF l 2) ((cutF l 2).length / 2)).length : Int) != IntKind.i64.wrap q.n then (Rp.zero, 30) else finS l ⟨q.f, 0, 0, 0, [], numsN (cutF l 2) ((cutF l 2).length / 2)⟩)
  else if q.f == 5 then finS l ⟨q.f, 0, q.a, 0, q.b, q.r⟩
  else if q.f == 6 then finS l ⟨q.f, 0, q.a, 0, q.b, q.r⟩
  else if q.f == 22 then finS l ⟨q.f, 0, q.a, 0, q.b, q.r⟩
  else if q.f == 15 then finS l ⟨q.f, 0, q.a, IntKind.u16.wrap q.b.length, [], []⟩
  else if q.f == 16 then finS l ⟨q.f, 0, q.a, IntKind.u16.wrap q.r.length, [], []⟩
  else finS l ⟨q.f, 0, 0, 0, [], []⟩
def orepS (q : Rq) (l : List Int) : Rp × Int :=
  if encE q.f q.n q.a2 q.b q.r != 0 then (Rp.zero, 30)
  else if decide ((l.length : Int) < 2) then (Rp.zero, 30)
  else if l.getD 0 0 == or128 q.f then (if (l.length : Int) != 2 then (Rp.zero, 30) else if l.getD 1 0 == 0 then (Rp.zero, 30) else (⟨q.f, l.getD 1 0, 0, 0, [], []⟩, 0))
  else orepT q l

theorem finS_yes (l : List Int) (r : Rp) (h1 : (repE r.f r.x r.a r.n r.b r.r != 0) = false) (h2 : (!(repB r.f r.x r.a r.n r.b r.r == l)) = false) : finS l r = (r, 0) := by
  unfold finS
  rw [if_pos (by simp at h1 h2 ⊢; exact ⟨h1, h2⟩)]
theorem finS_no1 (l : List Int) (r : Rp) (h1 : (repE r.f r.x r.a r.n r.b r.r != 0) = true) : finS l r = (Rp.zero, 30) := by
  unfold finS
  rw [if_neg (by simp at h1 ⊢; intro h; exact absurd h h1)]
theorem finS_no2 (l : List Int) (r : Rp) (h2 : (!(repB r.f r.x r.a r.n r.b r.r == l)) = true) : finS l r = (Rp.zero, 30) := by
  unfold finS
  rw [if_neg (by simp at h2 ⊢; intro _; exact h2)]
set_option maxRecDepth 20000 in
set_option maxHeartbeats 4000000 in
theorem OpenReply_raw (f a n a2 : Int) (b : List Bool) (r : List Int) (l : List Int) (hn0 : 0 ≤ n) (hn1 : n < 65536) (hb : b.length ≤ 2500) (hr : r.length ≤ 200) (hl : l.length ≤ 1000) (hc : ((f == 5) = false ∧ (f == 6) = false ∧ (f == 22) = false) ∨ l.length < 2 ∨ (l.getD 0 0 == or128 f) = true) :
    Tr Try.prog 58 [reqA f a n a2 (.roB b) (.roI .u16 r), .roI .u8 l] ⟨0, []⟩ (FrzK (.tup [rpA (orepS ⟨f, a, n, a2, b, r⟩ l).1, .int .i64 (orepS ⟨f, a, n, a2, b, r⟩ l).2])) := by
  refine trF g58 b58 c58 ?_
  conv => whnf
  refine Ev.call (Request_ev f a n a2 b r hn0 hn1 hb (by omega)) ?_
  conv => whnf
  repeat' (first
    | (refine condY (by assumption) ?_; conv => whnf)
    | (refine condN (by assumption) ?_; conv => whnf)
    | (refine condT (by first | assumption | (simp; omega) | (simp_all; done) | (simp_all; omega)) ?_; conv => whnf)
    | (refine condF (fun h => ?_) (fun h => ?_) <;> conv => whnf)
    | (refine ⟨rfl, ?_⟩; conv => whnf)
    | (refine Ev.call (numbers_ev _ (by first | omega | (simp [cutF, numsN_length, bitsA_length]; done) | (simp [cutF, numsN_length, bitsA_length]; omega) | (simp_all; omega))) ?_; conv => whnf)
    | (refine Ev.call (bits_ev _ _ (by first | omega | (simp [cutF, numsN_length, bitsA_length]; done) | (simp [cutF, numsN_length, bitsA_length]; omega) | (simp_all; omega))) ?_; conv => whnf)
    | (refine Tr.le (leRepN (by first | exact Le.refl _ | exact Le.nilB) (by first | exact Le.refl _ | exact Le.nilI _)) (Ev.call (Reply_ev _ _ _ _ _ _ (by first | decide | exact (wrap16_range _).1) (by first | decide | exact (wrap16_range _).2) (by first | omega | (simp [cutF, numsN_length, bitsA_length]; done) | (simp [cutF, numsN_length, bitsA_length]; omega) | (simp_all; omega)) (by first | omega | (simp [cutF, numsN_length, bitsA_length]; done) | (simp [cutF, numsN_length, bitsA_length]; omega) | (simp_all; omega))) ?_); conv => whnf)
    | (refine Ev.call (equal8_ev _ _ (Nat.le_trans (repB_len _ _ _ _ _ _) (by omega))) ?_; conv => whnf)
    )
  all_goals (try simp only [show Int.toNat 0 = 0 from rfl, show Int.toNat 1 = 1 from rfl, show Int.toNat 2 = 2 from rfl] at *)
  all_goals first
    | (exfalso
       have hx : (l.getD 0 0 == or128 f) = false := by assumption
       rcases hc with ⟨k5, k6, k22⟩ | hc | hc
       · first
           | exact Bool.noConfusion (k5.symm.trans (show (f == 5) = true by assumption))
           | exact Bool.noConfusion (k6.symm.trans (show (f == 6) = true by assumption))
           | exact Bool.noConfusion (k22.symm.trans (show (f == 22) = true by assumption))
       · simp only [decide_eq_false_iff_not] at *; omega
       · rw [hx] at hc; cases hc)
    | skip
  all_goals (try have hx : (l.getD 0 0 == or128 f) = false := by assumption)
  all_goals (try have hx : (l.getD 0 0 == or128 f) = true := by assumption)
  all_goals (generalize ho : orepS ⟨f, a, n, a2, b, r⟩ l = o; simp only [orepS, orepT, cutF, nB, *, if_true, if_false, Bool.false_eq_true, Bool.or_false, Bool.false_or, Bool.true_or, Bool.or_true, Bool.and_true, Bool.true_and, Bool.false_and, Bool.and_false] at ho)
  all_goals (try (first | rw [finS_yes _ _ (by assumption) (by assumption)] at ho | rw [finS_no1 _ _ (by assumption)] at ho | rw [finS_no2 _ _ (by assumption)] at ho))
  all_goals (try (first | erw [if_pos h] at ho | erw [if_neg (fun e => Bool.noConfusion (e.symm.trans h))] at ho))
  all_goals subst ho
  all_goals first
    | exact FrzK.le (leRep rfl rfl rfl rfl (by first | exact Le.refl _ | exact Le.nilB) (by first | exact Le.refl _ | exact Le.nilI _) rfl)
theorem OpenReply_ev (f a n a2 : Int) (b : List Bool) (r : List Int) (l : List Int) (hn0 : 0 ≤ n) (hn1 : n < 65536) (hb : b.length ≤ 2500) (hr : r.length ≤ 200) (hl : l.length ≤ 1000) (hc : ((f == 5) = false ∧ (f == 6) = false ∧ (f == 22) = false) ∨ l.length < 2 ∨ (l.getD 0 0 == or128 f) = true) :
    Ev Try.prog 58 [reqA f a n a2 (.roB b) (.roI .u16 r), .roI .u8 l] (.tup [rpA (orepS ⟨f, a, n, a2, b, r⟩ l).1, .int .i64 (orepS ⟨f, a, n, a2, b, r⟩ l).2]) := FrzK.ev rfl (OpenReply_raw f a n a2 b r l hn0 hn1 hb hr hl hc)
end Go.Proofs.Ytomodeliimnddaa
set_option linter.unusedVariables false
set_option linter.unusedSimpArgs false
namespace Go.Proofs.Ytomodeliimnddaa
open Go.Ab

set_option maxRecDepth 20000 in
set_option maxHeartbeats 4000000 in
theorem OpenReplyF_raw (f a n a2 : Int) (b : List Bool) (r : List Int) (l : List Int) (hn0 : 0 ≤ n) (hn1 : n < 65536) (hb : b.length ≤ 2500) (hr : r.length ≤ 200) (hl : l.length ≤ 1000) :
    Tr Try.prog 58 [reqA f a n a2 (.roB b) (.roI .u16 r), .roI .u8 l] ⟨0, []⟩ (FrzK (.tup [rpA (orepS ⟨f, a, n, a2, b, r⟩ l).1, .int .i64 (orepS ⟨f, a, n, a2, b, r⟩ l).2])) := by
  refine trF g58 b58 c58 ?_
  conv => whnf
  refine Ev.call (Request_ev f a n a2 b r hn0 hn1 hb (by omega)) ?_
  conv => whnf
  repeat' (first
    | (refine condY (by assumption) ?_; conv => whnf)
    | (refine condN (by assumption) ?_; conv => whnf)
    | (refine condT (by first | assumption | (simp; omega) | (simp_all; done) | (simp_all; omega)) ?_; conv => whnf)
    | (refine condF (fun h => ?_) (fun h => ?_) <;> conv => whnf)
    | (refine ⟨rfl, ?_⟩; conv => whnf)
    | (refine Ev.call (cloneB_ev _ (by omega)) ?_; conv => whnf)
    | (refine Ev.call (cloneI_ev _ (by omega)) ?_; conv => whnf)
    | (refine Ev.call (numbers_ev _ (by first | omega | (simp [cutF, numsN_length, bitsA_length]; done) | (simp [cutF, numsN_length, bitsA_length]; omega) | (simp_all; omega))) ?_; conv => whnf)
    | (refine Ev.call (bits_ev _ _ (by first | omega | (simp [cutF, numsN_length, bitsA_length]; done) | (simp [cutF, numsN_length, bitsA_length]; omega) | (simp_all; omega))) ?_; conv => whnf)
    | (refine Tr.le (leRepN (by first | exact Le.refl _ | exact Le.nilB) (by first | exact Le.refl _ | exact Le.nilI _)) (Ev.call (Reply_ev _ _ _ _ _ _ (by first | decide | exact (wrap16_range _).1) (by first | decide | exact (wrap16_range _).2) (by first | omega | (simp [cutF, numsN_length, bitsA_length]; done) | (simp [cutF, numsN_length, bitsA_length]; omega) | (simp_all; omega)) (by first | omega | (simp [cutF, numsN_length, bitsA_length]; done) | (simp [cutF, numsN_length, bitsA_length]; omega) | (simp_all; omega))) ?_); conv => whnf)
    | (refine Ev.call (equal8_ev _ _ (Nat.le_trans (repB_len _ _ _ _ _ _) (by omega))) ?_; conv => whnf)
    )
  all_goals (try simp only [show Int.toNat 0 = 0 from rfl, show Int.toNat 1 = 1 from rfl, show Int.toNat 2 = 2 from rfl] at *)
  all_goals (try have hx : (l.getD 0 0 == or128 f) = false := by assumption)
  all_goals (try have hx : (l.getD 0 0 == or128 f) = true := by assumption)
  all_goals (generalize ho : orepS ⟨f, a, n, a2, b, r⟩ l = o; simp only [orepS, orepT, cutF, nB, *, if_true, if_false, Bool.false_eq_true, Bool.or_false, Bool.false_or, Bool.true_or, Bool.or_true, Bool.and_true, Bool.true_and, Bool.false_and, Bool.and_false] at ho)
  all_goals (try (first | rw [finS_yes _ _ (by assumption) (by assumption)] at ho | rw [finS_no1 _ _ (by assumption)] at ho | rw [finS_no2 _ _ (by assumption)] at ho))
  all_goals (try (first | erw [if_pos h] at ho | erw [if_neg (fun e => Bool.noConfusion (e.symm.trans h))] at ho))
  all_goals subst ho
  all_goals first
    | exact FrzK.le (leRep rfl rfl rfl rfl (by first | exact Le.refl _ | exact Le.nilB) (by first | exact Le.refl _ | exact Le.nilI _) rfl)
theorem OpenReplyF_ev (f a n a2 : Int) (b : List Bool) (r : List Int) (l : List Int) (hn0 : 0 ≤ n) (hn1 : n < 65536) (hb : b.length ≤ 2500) (hr : r.length ≤ 200) (hl : l.length ≤ 1000) :
    Ev Try.prog 58 [reqA f a n a2 (.roB b) (.roI .u16 r), .roI .u8 l] (.tup [rpA (orepS ⟨f, a, n, a2, b, r⟩ l).1, .int .i64 (orepS ⟨f, a, n, a2, b, r⟩ l).2]) := FrzK.ev rfl (OpenReplyF_raw f a n a2 b r l hn0 hn1 hb hr hl)
end Go.Proofs.Ytomodeliimnddaa
set_option linter.unusedVariables false
set_option linter.unusedSimpArgs false
namespace Go.Proofs.Ytomodeliimnddaa
open Go.Ab
def rpB (q : Rp) : AV := repA q.f q.x q.a q.n (.roB q.b) .nils
theorem leRepB {f x a n : Int} {B : AV} {e e' : Int} {f' x' a' n' : Int} {b : List Bool} (hf : f = f') (hx : x = x') (ha : a = a') (hn : n = n') (hb : Le B (.roB b)) (he : e = e') :
    Le (.tup [repA f x a n B .nils, .int .i64 e]) (.tup [repA f' x' a' n' (.roB b) .nils, .int .i64 e']) := by
  subst hf; subst hx; subst ha; subst hn; subst he
  exact Le.tup ⟨Le.agg ⟨Le.refl _, Le.refl _, Le.refl _, Le.refl _, hb, Le.refl _, trivial⟩, Le.refl _, trivial⟩

set_option maxRecDepth 20000 in
set_option maxHeartbeats 4000000 in
theorem OpenReplyB1_raw (a n a2 : Int) (b : List Bool) (r : List Int) (l : List Int) (hn0 : 0 ≤ n) (hn1 : n < 65536) (hb : b.length ≤ 2500) (hr : r.length ≤ 200) (hl : l.length ≤ 1000) :
    Tr Try.prog 58 [reqA 1 a n a2 (.roB b) (.roI .u16 r), .roI .u8 l] ⟨0, []⟩ (FrzK (.tup [rpB (orepS ⟨1, a, n, a2, b, r⟩ l).1, .int .i64 (orepS ⟨1, a, n, a2, b, r⟩ l).2])) := by
  refine trF g58 b58 c58 ?_
  conv => whnf
  refine Ev.call (Request_ev 1 a n a2 b r hn0 hn1 hb (by omega)) ?_
  conv => whnf
  repeat' (first
    | (refine condY (by assumption) ?_; conv => whnf)
    | (refine condN (by assumption) ?_; conv => whnf)
    | (refine condT (by first | assumption | (simp; omega) | (simp_all; done) | (simp_all; omega)) ?_; conv => whnf)
    | (refine condF (fun h => ?_) (fun h => ?_) <;> conv => whnf)
    | (refine ⟨rfl, ?_⟩; conv => whnf)
    | (refine Ev.call (bits_ev _ _ (by first | omega | (simp [cutF, numsN_length, bitsA_length]; done) | (simp [cutF, numsN_length, bitsA_length]; omega) | (simp_all; omega))) ?_; conv => whnf)
    | fail)
  all_goals (try simp only [show Int.toNat 0 = 0 from rfl, show Int.toNat 1 = 1 from rfl, show Int.toNat 2 = 2 from rfl] at *)
  all_goals (try have hx : (l.getD 0 0 == or128 1) = false := by assumption)
  all_goals (try have hx : (l.getD 0 0 == or128 1) = true := by assumption)
  all_goals (generalize ho : orepS ⟨1, a, n, a2, b, r⟩ l = o; simp only [orepS, orepT, cutF, nB, *, show ((1 : Int) == 1) = true from rfl, show ((2 : Int) == 1) = false from rfl, show ((2 : Int) == 2) = true from rfl, if_true, if_false, Bool.false_eq_true, Bool.or_false, Bool.false_or, Bool.true_or, Bool.or_true, Bool.and_true, Bool.true_and, Bool.false_and, Bool.and_false] at ho)
  all_goals (try (first | erw [if_pos h] at ho | erw [if_neg (fun e => Bool.noConfusion (e.symm.trans h))] at ho))
  all_goals subst ho
  all_goals first
    | exact FrzK.le (leRepB rfl rfl rfl rfl (by first | exact Le.refl _ | exact Le.nilB) rfl)

set_option maxRecDepth 20000 in
set_option maxHeartbeats 4000000 in
theorem OpenReplyB2_raw (a n a2 : Int) (b : List Bool) (r : List Int) (l : List Int) (hn0 : 0 ≤ n) (hn1 : n < 65536) (hb : b.length ≤ 2500) (hr : r.length ≤ 200) (hl : l.length ≤ 1000) :
    Tr Try.prog 58 [reqA 2 a n a2 (.roB b) (.roI .u16 r), .roI .u8 l] ⟨0, []⟩ (FrzK (.tup [rpB (orepS ⟨2, a, n, a2, b, r⟩ l).1, .int .i64 (orepS ⟨2, a, n, a2, b, r⟩ l).2])) := by
  refine trF g58 b58 c58 ?_
  conv => whnf
  refine Ev.call (Request_ev 2 a n a2 b r hn0 hn1 hb (by omega)) ?_
  conv => whnf
  repeat' (first
    | (refine condY (by assumption) ?_; conv => whnf)
    | (refine condN (by assumption) ?_; conv => whnf)
    | (refine condT (by first | assumption | (simp; omega) | (simp_all; done) | (simp_all; omega)) ?_; conv => whnf)
    | (refine condF (fun h => ?_) (fun h => ?_) <;> conv => whnf)
    | (refine ⟨rfl, ?_⟩; conv => whnf)
    | (refine Ev.call (bits_ev _ _ (by first | omega | (simp [cutF, numsN_length, bitsA_length]; done) | (simp [cutF, numsN_length, bitsA_length]; omega) | (simp_all; omega))) ?_; conv => whnf)
    | fail)
  all_goals (try simp only [show Int.toNat 0 = 0 from rfl, show Int.toNat 1 = 1 from rfl, show Int.toNat 2 = 2 from rfl] at *)
  all_goals (try have hx : (l.getD 0 0 == or128 2) = false := by assumption)
  all_goals (try have hx : (l.getD 0 0 == or128 2) = true := by assumption)
  all_goals (generalize ho : orepS ⟨2, a, n, a2, b, r⟩ l = o; simp only [orepS, orepT, cutF, nB, *, show ((1 : Int) == 1) = true from rfl, show ((2 : Int) == 1) = false from rfl, show ((2 : Int) == 2) = true from rfl, if_true, if_false, Bool.false_eq_true, Bool.or_false, Bool.false_or, Bool.true_or, Bool.or_true, Bool.and_true, Bool.true_and, Bool.false_and, Bool.and_false] at ho)
  all_goals (try (first | erw [if_pos h] at ho | erw [if_neg (fun e => Bool.noConfusion (e.symm.trans h))] at ho))
  all_goals subst ho
  all_goals first
    | exact FrzK.le (leRepB rfl rfl rfl rfl (by first | exact Le.refl _ | exact Le.nilB) rfl)

theorem OpenReplyB_ev (f a n a2 : Int) (b : List Bool) (r : List Int) (l : List Int) (hf : f = 1 ∨ f = 2) (hn0 : 0 ≤ n) (hn1 : n < 65536) (hb : b.length ≤ 2500) (hr : r.length ≤ 200) (hl : l.length ≤ 1000) :
    Ev Try.prog 58 [reqA f a n a2 (.roB b) (.roI .u16 r), .roI .u8 l] (.tup [rpB (orepS ⟨f, a, n, a2, b, r⟩ l).1, .int .i64 (orepS ⟨f, a, n, a2, b, r⟩ l).2]) := by
  rcases hf with rfl | rfl
  · exact FrzK.ev rfl (OpenReplyB1_raw a n a2 b r l hn0 hn1 hb hr hl)
  · exact FrzK.ev rfl (OpenReplyB2_raw a n a2 b r l hn0 hn1 hb hr hl)
end Go.Proofs.Ytomodeliimnddaa
