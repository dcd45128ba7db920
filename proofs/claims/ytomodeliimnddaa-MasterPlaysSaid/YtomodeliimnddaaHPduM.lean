/- Statements of layer 3: replies are written as the document says. Plain laws: numbers and bits as bytes, and back. Statements of layer 3: requests are written as the document says, and read back. Statements of layer 3: bits; unlike requests have unlike bytes. Contracts: slices.Clone. Contracts: bytes read as replies: pdu. Contracts: bytes read as replies: pdu, with its clones. Contracts: replies to requests for bits: their registers are none. -/
import Derived.Laws.Strings
import Derived.Test.YtomodeliimnddaaHPduA
set_option linter.unusedVariables false
set_option linter.unusedSimpArgs false
namespace Go.Proofs.Ytomodeliimnddaa
open Go.Ab
def a7 : ACode := (.seq (.reg [(iO 1 (.box (.t 0))), (iO 2 (.mov (.c (.bool false))))])
 (.seq (.seq (.reg [(iO 7 (.call 46 [])), (iO 8 (.un .not (.t 7)))])
 (.cond (.t 8) (.seq (.reg [(iO 2 (.mov (.c (.bool false))))])
 .ret)
 .skip))
 (.seq (.seq (.reg [(iO 9 (.load true 6 (.t 1))), (iO 10 (.call 55 [(.t 9)])), (iO 11 (.un .not (.t 10)))])
 (.cond (.t 11) (.seq (.reg [(iO 2 (.mov (.c (.bool true))))])
 .ret)
 .skip))
 (.seq (.reg [(iO 13 (.load true 6 (.t 1))), (iO 14 (.call 56 [(.t 13)])), (iM 12 14), (iO 15 (.ext (.t 12) 0)), (iO 16 (.ext (.t 12) 1)), (iM 3 15), (iM 4 16)])
 (.seq (.reg [(iO 18 (.load true 6 (.t 1))), (iO 19 (.call 57 [(.t 18)])), (iM 17 19), (iO 20 (.ext (.t 17) 0)), (iO 21 (.ext (.t 17) 1)), (iM 5 20), (iM 6 21)])
 (.seq (.reg [(iM 22 3), (iM 23 5), (iO 24 (.call 50 [(.t 22), (.t 23)])), ⟨(some 25), .mov (.t 24), none, true⟩, (iG 26 (.mov (.t 4)) 25 true), (iG 27 (.mov (.t 6)) 25 true), (iG 28 (.bin .eql .other (.t 26) (.t 27)) 25 true), (iO 29 (.pick (.t 25) (.t 28) (.c (.bool false)))), ⟨(some 30), .mov (.t 29), none, true⟩, (iG 31 (.mov (.t 3)) 30 true), (iG 32 (.len false (.t 31)) 30 true), (iG 33 (.bin .leq .other (.t 32) (.c (.int .i64 253))) 30 true), (iO 34 (.pick (.t 30) (.t 33) (.c (.bool false)))), (iM 2 34)])
 .ret))))))
theorem repB_len (f x a n : Int) (b : List Bool) (r : List Int) : (repB f x a n b r).length ≤ 253 := by
  unfold repB
  by_cases ho : repOk f x a n b r = true
  · rw [if_pos ho]
    by_cases hx : x = 0
    · subst hx
      by_cases h1 : f = 1
      · subst h1; simp [repOk, withinB] at ho; simp [repS, packN_length, twos_length, two8] <;> omega
      by_cases h2 : f = 2
      · subst h2; simp [repOk, withinB] at ho; simp [repS, packN_length, twos_length, two8] <;> omega
      by_cases h3 : f = 3
      · subst h3; simp [repOk, withinB] at ho; simp [repS, packN_length, twos_length, two8] <;> omega
      by_cases h4 : f = 4
      · subst h4; simp [repOk, withinB] at ho; simp [repS, packN_length, twos_length, two8] <;> omega
      by_cases h23 : f = 23
      · subst h23; simp [repOk, withinB] at ho; simp [repS, packN_length, twos_length, two8] <;> omega
      by_cases h5 : f = 5
      · subst h5; simp [repOk, withinB] at ho; simp [repS, packN_length, twos_length, two8] <;> omega
      by_cases h6 : f = 6
      · subst h6; simp [repOk, withinB] at ho; simp [repS, packN_length, twos_length, two8] <;> omega
      by_cases h15 : f = 15
      · subst h15; simp [repOk, withinB] at ho; simp [repS, packN_length, twos_length, two8] <;> omega
      by_cases h16 : f = 16
      · subst h16; simp [repOk, withinB] at ho; simp [repS, packN_length, twos_length, two8] <;> omega
      by_cases h22 : f = 22
      · subst h22; simp [repOk, withinB] at ho; simp [repS, packN_length, twos_length, two8] <;> omega
      simp [repOk, *] at ho
    · simp [repS, hx]
  · rw [if_neg ho]; simp
end Go.Proofs.Ytomodeliimnddaa
set_option linter.unusedVariables false
set_option linter.unusedSimpArgs false
namespace Go.Proofs.Ytomodeliimnddaa
open Go.Ab
theorem u8_lo (n : Int) : 0 ≤ IntKind.u8.wrap n ∧ IntKind.u8.wrap n < 256 := ⟨Int.emod_nonneg _ (by decide), Int.emod_lt_of_pos _ (by decide)⟩
theorem u8_in (n : Int) (h : 0 ≤ n) (h' : n < 256) : IntKind.u8.wrap n = n := Int.emod_eq_of_lt h h'
theorem u16_in (n : Int) (h : 0 ≤ n) (h' : n < 65536) : IntKind.u16.wrap n = n := Int.emod_eq_of_lt h h'
theorem num16_eq (a b : Int) (h0 : 0 ≤ a) (h1 : a < 256) (h2 : 0 ≤ b) (h3 : b < 256) : num16 a b = 256 * a + b := by
  obtain ⟨x, rfl⟩ := Int.eq_ofNat_of_zero_le h0
  obtain ⟨y, rfl⟩ := Int.eq_ofNat_of_zero_le h2
  unfold num16
  rw [u16_in (x : Int) (by omega) (by omega), u16_in (y : Int) (by omega) (by omega), u16_in ((x : Int) * 2 ^ 8) (by omega) (by omega)]
  have e : (BitVec.ofInt 16 ((x : Int) * 2 ^ 8) ||| BitVec.ofInt 16 (y : Int)).toNat = 256 * x + y := by
    rw [BitVec.toNat_or, BitVec.toNat_ofInt, BitVec.toNat_ofInt]
    have a1 : (((x : Int) * 2 ^ 8) % ((2 ^ 16 : Nat) : Int)).toNat = 2 ^ 8 * x := by
      rw [Int.emod_eq_of_lt (by omega) (by omega)]; omega
    have a2 : ((y : Int) % ((2 ^ 16 : Nat) : Int)).toNat = y := by
      rw [Int.emod_eq_of_lt (by omega) (by omega)]; omega
    rw [a1, a2, ← Nat.two_pow_add_eq_or_of_lt (by omega)]
  rw [e, u16_in _ (by omega) (by omega)]
  omega
theorem hi8_eq (x : Int) (h0 : 0 ≤ x) (h1 : x < 65536) : hi8 x = x / 256 := by
  unfold hi8
  rw [Int.fdiv_eq_ediv_of_nonneg _ (by decide), u8_in _ (by omega) (by omega)]
  rfl
theorem num_two (x : Int) (h0 : 0 ≤ x) (h1 : x < 65536) : num16 (hi8 x) (IntKind.u8.wrap x) = x := by
  rw [num16_eq (hi8 x) _ (show 0 ≤ hi8 x from (u8_lo _).1) (show hi8 x < 256 from (u8_lo _).2) (u8_lo _).1 (u8_lo _).2, hi8_eq x h0 h1]
  show 256 * (x / 256) + x % 256 = x
  omega
theorem packN_byte (l : List Bool) : ∀ i k, 0 ≤ (packN l i).getD k 0 ∧ (packN l i).getD k 0 < 256 := by
  intro i
  induction i with
  | zero =>
    intro k
    simp only [packN, List.getD_eq_getElem?_getD, List.getElem?_replicate]
    split <;> simp
  | succ i ih =>
    intro k
    simp only [packN]
    split
    · simp only [List.getD_eq_getElem?_getD, List.getElem?_set]
      split
      · split
        · exact u8_lo _
        · simp
      · have := ih k
        simpa [List.getD_eq_getElem?_getD] using this
    · exact ih k
/-! ### a request's bytes are read as that request -/
def isB (l : List Int) : Prop := ∀ x ∈ l, 0 ≤ x ∧ x < 256
theorem isB.app {l m : List Int} (h : isB l) (k : isB m) : isB (l ++ m) := fun x hx => by
  rcases List.mem_append.1 hx with h1 | h1
  · exact h x h1
  · exact k x h1
theorem isB.getD {l : List Int} (h : isB l) (k : Nat) : 0 ≤ l.getD k 0 ∧ l.getD k 0 < 256 := by
  rw [List.getD_eq_getElem?_getD]
  by_cases hk : k < l.length
  · rw [List.getElem?_eq_getElem hk]; exact h _ (List.getElem_mem _)
  · rw [List.getElem?_eq_none (by omega)]; decide
theorem isB_two (x : Int) : isB (two8 x) := fun y hy => by
  simp only [two8, List.mem_cons, List.not_mem_nil, or_false] at hy
  rcases hy with rfl | rfl
  · exact u8_lo _
  · exact u8_lo _
theorem isB_twos : ∀ r : List Int, isB (twos r)
  | [] => fun x hx => by cases hx
  | y :: r => (isB_two y).app (isB_twos r)
theorem isB_one (x : Int) : isB [IntKind.u8.wrap x] := fun y hy => by
  simp only [List.mem_cons, List.not_mem_nil, or_false] at hy
  subst hy; exact u8_lo _
theorem isB_f (f : Int) (h0 : 0 ≤ f) (h1 : f < 256) : isB [f] := fun y hy => by
  simp only [List.mem_cons, List.not_mem_nil, or_false] at hy
  subst hy; exact ⟨h0, h1⟩
theorem isB_nil : isB [] := fun x hx => by cases hx
theorem isB_pack (l : List Bool) (i : Nat) : isB (packN l i) := fun x hx => by
  obtain ⟨k, hk⟩ := List.getElem?_of_mem hx
  have := packN_byte l i k
  rw [List.getD_eq_getElem?_getD, hk] at this
  exact this
theorem enc_byte (f a n a2 : Int) (b : List Bool) (r : List Int) (h0 : 0 ≤ f) (h1 : f < 256) : isB (encR f a n a2 b r) := by
  have hf := isB_f f h0 h1
  have ht := isB_two
  unfold encR
  by_cases ho : encOk f n a2 b r = true
  · rw [if_pos ho]
    unfold reqS
    by_cases h1 : (f == 1) = true
    · rw [if_pos h1]; exact (hf.app (ht _)).app (ht _)
    rw [if_neg h1]
    by_cases h2 : (f == 2) = true
    · rw [if_pos h2]; exact (hf.app (ht _)).app (ht _)
    rw [if_neg h2]
    by_cases h3 : (f == 3) = true
    · rw [if_pos h3]; exact (hf.app (ht _)).app (ht _)
    rw [if_neg h3]
    by_cases h4 : (f == 4) = true
    · rw [if_pos h4]; exact (hf.app (ht _)).app (ht _)
    rw [if_neg h4]
    by_cases h5 : (f == 5) = true
    · rw [if_pos h5]; exact (hf.app (ht _)).app (ht _)
    rw [if_neg h5]
    by_cases h6 : (f == 6) = true
    · rw [if_pos h6]; exact (hf.app (ht _)).app (isB_twos _)
    rw [if_neg h6]
    by_cases h22 : (f == 22) = true
    · rw [if_pos h22]; exact (hf.app (ht _)).app (isB_twos _)
    rw [if_neg h22]
    by_cases h15 : (f == 15) = true
    · rw [if_pos h15]; exact (((hf.app (ht _)).app (ht _)).app (isB_one _)).app (isB_pack _ _)
    rw [if_neg h15]
    by_cases h16 : (f == 16) = true
    · rw [if_pos h16]; exact (((hf.app (ht _)).app (ht _)).app (isB_one _)).app (isB_twos _)
    rw [if_neg h16]
    by_cases h23 : (f == 23) = true
    · rw [if_pos h23]; exact (((((hf.app (ht _)).app (ht _)).app (ht _)).app (ht _)).app (isB_one _)).app (isB_twos _)
    rw [if_neg h23]
    exact isB_nil
  · rw [if_neg ho]; exact isB_nil
theorem set_same (l : List Int) (k : Nat) : l.set k (l.getD k 0) = l := by
  by_cases hk : k < l.length
  · rw [List.getD_eq_getElem?_getD, List.getElem?_eq_getElem hk]
    exact List.set_getElem_self hk
  · exact List.set_eq_of_length_le (by omega)
end Go.Proofs.Ytomodeliimnddaa
set_option linter.unusedVariables false
set_option linter.unusedSimpArgs false
namespace Go.Proofs.Ytomodeliimnddaa
open Go.Ab
def a5 : ACode := (.seq (.reg [(iO 1 (.box (.t 0))), (iO 2 (.mov (.c (.bool false))))])
 (.seq (.seq (.reg [(iO 9 (.call 46 [])), (iO 10 (.un .not (.t 9)))])
 (.cond (.t 10) (.seq (.reg [(iO 2 (.mov (.c (.bool false))))])
 .ret)
 .skip))
 (.seq (.seq (.reg [(iO 11 (.load true 6 (.t 1))), (iO 12 (.call 47 [(.t 11)])), (iO 13 (.un .not (.t 12)))])
 (.cond (.t 13) (.seq (.reg [(iO 2 (.mov (.c (.bool true))))])
 .ret)
 .skip))
 (.seq (.reg [(iO 15 (.load true 6 (.t 1))), (iO 16 (.call 48 [(.t 15)])), (iM 14 16), (iO 17 (.ext (.t 14) 0)), (iO 18 (.ext (.t 14) 1)), (iM 3 17), (iM 4 18)])
 (.seq (.reg [(iO 20 (.load true 6 (.t 1))), (iO 21 (.call 49 [(.t 20)])), (iM 19 21), (iO 22 (.ext (.t 19) 0)), (iO 23 (.ext (.t 19) 1)), (iM 5 22), (iM 6 23)])
 (.seq (.seq (.reg [(iM 24 3), (iM 25 5), (iO 26 (.call 50 [(.t 24), (.t 25)])), (iO 27 (.un .not (.t 26))), ⟨(some 28), .mov (.t 27), none, true⟩, (iG 29 (.mov (.t 4)) 28 false), (iG 30 (.mov (.t 6)) 28 false), (iG 31 (.bin .neq .other (.t 29) (.t 30)) 28 false), (iO 32 (.pick (.t 28) (.c (.bool true)) (.t 31))), ⟨(some 33), .mov (.t 32), none, true⟩, (iG 34 (.mov (.t 3)) 33 false), (iG 35 (.len false (.t 34)) 33 false), (iG 36 (.bin .gtr .other (.t 35) (.c (.int .i64 253))) 33 false), (iO 37 (.pick (.t 33) (.c (.bool true)) (.t 36)))])
 (.cond (.t 37) (.seq (.reg [(iO 2 (.mov (.c (.bool false))))])
 .ret)
 .skip))
 (.seq (.seq (.reg [(iM 38 6), (iO 39 (.bin .neq .other (.t 38) (.c (.int .i64 0))))])
 (.cond (.t 39) (.seq (.reg [(iO 2 (.mov (.c (.bool true))))])
 .ret)
 .skip))
 (.seq (.reg [(iM 41 3), (iO 42 (.call 51 [(.t 41)])), (iM 40 42), (iO 43 (.ext (.t 40) 0)), (iO 44 (.ext (.t 40) 1)), (iO 7 (.alloc [(1, (.int .u8 0)), (3, (.int .u16 0)), (2, .nils)])), ⟨none, .store 6 (.t 7) (.t 43), none, false⟩, (iM 8 44)])
 (.seq (.reg [(iM 45 8), (iO 46 (.bin .eql .other (.t 45) (.c (.int .i64 0)))), ⟨(some 47), .mov (.t 46), none, true⟩, (iG 48 (.load true 6 (.t 7)) 47 true), (iG 49 (.load true 6 (.t 1)) 47 true), (iG 50 (.call 52 [(.t 48), (.t 49)]) 47 true), (iO 51 (.pick (.t 47) (.t 50) (.c (.bool false)))), (iM 2 51)])
 .ret)))))))))
def r5 : List ARes := [.t 2]
theorem c5 : compF Try.prog Try.f5 = some (a5, r5) := by kernel_rfl
theorem encR_len253 (f a n a2 : Int) (b : List Bool) (r : List Int) : (encR f a n a2 b r).length ≤ 253 := by
  unfold encR
  by_cases ho : encOk f n a2 b r = true
  · rw [if_pos ho]
    by_cases h1 : f = 1
    · subst h1; simp [encOk, withinB] at ho; simp [reqS, row15, rowR, pre3, packN_length, twos_length, two8] <;> omega
    by_cases h2 : f = 2
    · subst h2; simp [encOk, withinB] at ho; simp [reqS, row15, rowR, pre3, packN_length, twos_length, two8] <;> omega
    by_cases h3 : f = 3
    · subst h3; simp [encOk, withinB] at ho; simp [reqS, row15, rowR, pre3, packN_length, twos_length, two8] <;> omega
    by_cases h4 : f = 4
    · subst h4; simp [encOk, withinB] at ho; simp [reqS, row15, rowR, pre3, packN_length, twos_length, two8] <;> omega
    by_cases h5 : f = 5
    · subst h5; simp [encOk, withinB] at ho; simp [reqS, row15, rowR, pre3, packN_length, twos_length, two8] <;> omega
    by_cases h6 : f = 6
    · subst h6; simp [encOk, withinB] at ho; simp [reqS, row15, rowR, pre3, packN_length, twos_length, two8] <;> omega
    by_cases h15 : f = 15
    · subst h15; simp [encOk, withinB] at ho; simp [reqS, row15, rowR, pre3, packN_length, twos_length, two8] <;> omega
    by_cases h16 : f = 16
    · subst h16; simp [encOk, withinB] at ho; simp [reqS, row15, rowR, pre3, packN_length, twos_length, two8] <;> omega
    by_cases h22 : f = 22
    · subst h22; simp [encOk, withinB] at ho; simp [reqS, row15, rowR, pre3, packN_length, twos_length, two8] <;> omega
    by_cases h23 : f = 23
    · subst h23; simp [encOk, withinB] at ho; simp [reqS, row15, rowR, pre3, packN_length, twos_length, two8] <;> omega
    simp [encOk, *] at ho
  · rw [if_neg ho]; simp
end Go.Proofs.Ytomodeliimnddaa
set_option linter.unusedVariables false
set_option linter.unusedSimpArgs false
namespace Go.Proofs.Ytomodeliimnddaa
open Go.Ab
def a10 : ACode := (.seq (.reg [(iO 6 (.mov (.c (.bool false))))])
 (.seq (.seq (.reg [(iO 9 (.call 46 [])), (iO 10 (.un .not (.t 9)))])
 (.cond (.t 10) (.seq (.reg [(iO 6 (.mov (.c (.bool false))))])
 .ret)
 .skip))
 (.seq (.seq (.reg [(iM 11 0), (iO 12 (.len false (.t 11))), (iO 13 (.bin .gtr .other (.t 12) (.c (.int .i64 2000)))), ⟨(some 14), .mov (.t 13), none, true⟩, (iG 15 (.mov (.t 1)) 14 false), (iG 16 (.len false (.t 15)) 14 false), (iG 17 (.bin .gtr .other (.t 16) (.c (.int .i64 300))) 14 false), (iO 18 (.pick (.t 14) (.c (.bool true)) (.t 17)))])
 (.cond (.t 18) (.seq (.reg [(iO 6 (.mov (.c (.bool true))))])
 .ret)
 .skip))
 (.seq (.reg [(iM 19 0), (iO 20 (.call 61 [(.t 19)])), (iM 7 20)])
 (.seq (.seq (.reg [(iM 21 7), (iM 22 0), (iO 23 (.call 62 [(.t 22)])), (iO 24 (.call 50 [(.t 21), (.t 23)])), (iO 25 (.un .not (.t 24))), ⟨(some 26), .mov (.t 25), none, true⟩, (iG 27 (.mov (.t 7)) 26 false), (iG 28 (.mov (.t 0)) 26 false), (iG 29 (.len false (.t 28)) 26 false), (iG 30 (.call 64 [(.t 27), (.t 29)]) 26 false), (iG 31 (.mov (.t 0)) 26 false), (iG 32 (.call 63 [(.t 30), (.t 31)]) 26 false), (iG 33 (.un .not (.t 32)) 26 false), (iO 34 (.pick (.t 26) (.c (.bool true)) (.t 33)))])
 (.cond (.t 34) (.seq (.reg [(iO 6 (.mov (.c (.bool false))))])
 .ret)
 .skip))
 (.seq (.seq (.reg [(iO 8 (.mov (.c (.int .i64 0))))])
 (.block 0 (.loop (.seq (.seq (.reg [(iM 35 8), (iO 36 (.bin .lss .other (.t 35) (.c (.int .i64 256))))])
 (.cond (.t 36) .skip
 (.exit 0)))
 (.seq (.block 1 (.seq (.reg [(iM 39 8), (iO 40 (.conv (.int .u8) (.t 39))), (iO 41 (.call 65 [(.t 40)])), (iM 42 8), (iO 43 (.conv (.int .u8) (.t 42))), (iO 44 (.call 66 [(.t 43)])), (iO 45 (.bin .neq .bool (.t 41) (.t 44)))])
 (.cond (.t 45) (.seq (.reg [(iO 6 (.mov (.c (.bool false))))])
 .ret)
 .skip)))
 (.reg [(iM 37 8), (iO 38 (.bin .add .other (.t 37) (.c (.int .i64 1)))), (iM 8 38)]))))))
 (.seq (.reg [(iM 46 1), (iM 47 2), (iO 48 (.call 64 [(.t 46), (.t 47)])), (iM 49 1), (iM 50 2), (iO 51 (.call 67 [(.t 49), (.t 50)])), (iO 52 (.call 63 [(.t 48), (.t 51)])), (iM 6 52)])
 .ret)))))))
def a11 : ACode := (.seq (.reg [(iO 2 (.box (.t 0))), (iO 3 (.box (.t 1))), (iO 4 (.mov (.c (.bool false))))])
 (.seq (.seq (.reg [(iO 9 (.call 46 [])), (iO 10 (.un .not (.t 9)))])
 (.cond (.t 10) (.seq (.reg [(iO 4 (.mov (.c (.bool false))))])
 .ret)
 .skip))
 (.seq (.seq (.reg [(iO 11 (.load true 6 (.t 2))), (iO 12 (.call 47 [(.t 11)])), (iO 13 (.un .not (.t 12))), ⟨(some 14), .mov (.t 13), none, true⟩, (iG 15 (.load true 6 (.t 3)) 14 false), (iG 16 (.call 47 [(.t 15)]) 14 false), (iG 17 (.un .not (.t 16)) 14 false), (iO 18 (.pick (.t 14) (.c (.bool true)) (.t 17)))])
 (.cond (.t 18) (.seq (.reg [(iO 4 (.mov (.c (.bool true))))])
 .ret)
 .skip))
 (.seq (.reg [(iO 20 (.load true 6 (.t 2))), (iO 21 (.call 48 [(.t 20)])), (iM 19 21), (iO 22 (.ext (.t 19) 0)), (iO 23 (.ext (.t 19) 1)), (iM 5 22), (iM 6 23)])
 (.seq (.reg [(iO 25 (.load true 6 (.t 3))), (iO 26 (.call 48 [(.t 25)])), (iM 24 26), (iO 27 (.ext (.t 24) 0)), (iO 28 (.ext (.t 24) 1)), (iM 7 27), (iM 8 28)])
 (.seq (.draw [(zS 0 (iM 29 6)), (zS 1 (iM 30 8)), (zS 2 (iO 31 (.bin .add .other (.t 29) (.t 30)))), (zS 3 (iO 32 (.bin .neq .other (.t 31) (.c (.int .i64 0))))), ⟨4, ⟨(some 33), .mov (.t 32), none, true⟩, false, [], []⟩, (zS 5 (iG 34 (.mov (.t 5)) 33 false)), (zS 6 (iG 35 (.mov (.t 7)) 33 false)), (zS 8 (iG 37 (.load true 6 (.t 2)) 33 false)), (zS 9 (iG 38 (.load true 6 (.t 3)) 33 false)), ⟨7, (iG 36 (.call 50 [(.t 34), (.t 35)]) 33 false), true, [], [(.t 2), (.t 3)]⟩, ⟨10, (iG 39 (.call 52 [(.t 37), (.t 38)]) 33 false), true, [], []⟩, (zS 11 (iG 40 (.bin .eql .bool (.t 36) (.t 39)) 33 false)), (zS 12 (iO 41 (.pick (.t 33) (.c (.bool true)) (.t 40)))), (zS 13 (iM 4 41))])
 .ret))))))
theorem u8_inj (x y : Int) (h0 : 0 ≤ x ∧ x < 256) (h1 : 0 ≤ y ∧ y < 256) (h : UInt8.ofNat x.toNat = UInt8.ofNat y.toNat) : x = y := by
  have := congrArg UInt8.toNat h
  simp only [UInt8.toNat_ofNat'] at this
  omega
theorem map_inj : ∀ (l m : List Int), isB l → isB m → l.map (fun n => UInt8.ofNat n.toNat) = m.map (fun n => UInt8.ofNat n.toNat) → l = m
  | [], [], _, _, _ => rfl
  | [], y :: m, _, _, h => by simp at h
  | x :: l, [], _, _, h => by simp at h
  | x :: l, y :: m, hl, hm, h => by
    simp only [List.map_cons, List.cons.injEq] at h
    rw [u8_inj x y (hl x (by simp)) (hm y (by simp)) h.1, map_inj l m (fun z hz => hl z (by simp [hz])) (fun z hz => hm z (by simp [hz])) h.2]
theorem leBool {b c : Bool} (h : b = c) : Le (.bool b) (.bool c) := h ▸ Le.refl _
end Go.Proofs.Ytomodeliimnddaa
set_option linter.unusedVariables false
set_option linter.unusedSimpArgs false
namespace Go.Proofs.Ytomodeliimnddaa
open Go.Ab
theorem nilOr {P : Program} {f es : Nat} {v : AV} {g : Nat → AV} {s : St} {K : AV → St → Prop} (hv : v.rov = some (es, 0, g)) (h1 : Tr P f [.nils] s K) (h2 : ∀ a c, Tr P f [.raw (.slice (some a) 0 c)] s K) : Tr P f [v] s K := by
  unfold Tr at h1 h2 ⊢
  refine ⟨h1.1, fun ι w M Vs hR hV => ?_⟩
  obtain ⟨hs, hg⟩ := hV
  have h0 : VRel ι w M v (Vs.getD 0 default) := hg 0 (by simp)
  rcases h0.rov_inv hv with ⟨_, e⟩ | ⟨a, cap, g', e, _⟩
  · refine h1.2 ι w M Vs hR ⟨hs, fun j hj => ?_⟩
    obtain rfl : j = 0 := by simp at hj; exact hj
    rw [e]; exact .g _ _ .nils
  · refine (h2 a cap).2 ι w M Vs hR ⟨hs, fun j hj => ?_⟩
    obtain rfl : j = 0 := by simp at hj; exact hj
    rw [e]; exact .g _ _ (.raw _)
def a101 : ACode := (.seq (.reg [(iO 2 (.mov (.c .nils)))])
 (.seq (.seq (.reg [(iM 3 0), (iO 4 (.bin .eql .slice (.t 3) (.c .nils)))])
 (.cond (.t 4) (.seq (.reg [(iO 2 (.mov (.c .nils)))])
 .ret)
 .skip))
 (.seq (.reg [(iO 5 (.bslice 1 (.int .u16) [] [] 0)), (iM 6 0), (iO 7 (.app 1 2 (.t 5) (.t 6))), (iM 2 7)])
 .ret)))
def r101 : List ARes := [.t 2]
theorem c101 : compF Try.prog Try.f101 = some (a101, r101) := by kernel_rfl
def a122 : ACode := (.seq (.reg [(iO 2 (.mov (.c .nils)))])
 (.seq (.seq (.reg [(iM 3 0), (iO 4 (.bin .eql .slice (.t 3) (.c .nils)))])
 (.cond (.t 4) (.seq (.reg [(iO 2 (.mov (.c .nils)))])
 .ret)
 .skip))
 (.seq (.reg [(iO 5 (.bslice 1 .bool [] [] 0)), (iM 6 0), (iO 7 (.app 1 1 (.t 5) (.t 6))), (iM 2 7)])
 .ret)))
def r122 : List ARes := [.t 2]
theorem c122 : compF Try.prog Try.f122 = some (a122, r122) := by kernel_rfl
theorem b101 : hasBody Try.prog 101 = true := by kernel_rfl
theorem g101 : Try.prog.funcs[101]? = some Try.f101 := by kernel_rfl
theorem b122 : hasBody Try.prog 122 = true := by kernel_rfl
theorem g122 : Try.prog.funcs[122]? = some Try.f122 := by kernel_rfl
theorem cloneI_ev (l : List Int) (hl : l.length ≤ 100000) : Ev Try.prog 101 [.roI .u16 l] (.roI .u16 l) := by
  refine FrzK.ev rfl ?_
  cases l with
  | nil =>
    refine nilOr rfl ?_ fun a c => ?_
    · refine trF g101 b101 c101 ?_
      conv => whnf
      exact FrzK.le (Le.nilI _)
    · refine trF g101 b101 c101 ?_
      conv => whnf
      exact FrzK.step 1 rfl (FrzK.le (Le.refl _))
  | cons x l =>
    refine trF g101 b101 c101 ?_
    conv => whnf
    refine condT (by simp at hl ⊢; omega) ?_
    conv => whnf
    refine FrzK.step 1 rfl (FrzK.le ?_)
    show Le ((AV.sl 1 1 0 (0 + (x :: l).length)).frz 1 (.rowI .u16 (x :: l))) _
    rw [frz_row 1 .u16 (x :: l) _ (Nat.zero_add _)]
    exact Le.refl _
theorem cloneB_ev (l : List Bool) (hl : l.length ≤ 100000) : Ev Try.prog 122 [.roB l] (.roB l) := by
  refine FrzK.ev rfl ?_
  cases l with
  | nil =>
    refine nilOr rfl ?_ fun a c => ?_
    · refine trF g122 b122 c122 ?_
      conv => whnf
      exact FrzK.le Le.nilB
    · refine trF g122 b122 c122 ?_
      conv => whnf
      exact FrzK.step 1 rfl (FrzK.le (Le.refl _))
  | cons x l =>
    refine trF g122 b122 c122 ?_
    conv => whnf
    refine condT (by simp at hl ⊢; omega) ?_
    conv => whnf
    refine FrzK.step 1 rfl (FrzK.le ?_)
    show Le ((AV.sl 1 1 0 (0 + (x :: l).length)).frz 1 (.rowB (x :: l))) _
    rw [frz_rowB 1 (x :: l) _ (Nat.zero_add _)]
    exact Le.refl _
end Go.Proofs.Ytomodeliimnddaa
set_option linter.unusedVariables false
set_option linter.unusedSimpArgs false
namespace Go.Proofs.Ytomodeliimnddaa
open Go.Ab
structure Rp where
  f : Int
  x : Int
  a : Int
  n : Int
  b : List Bool
  r : List Int
def rpA (q : Rp) : AV := repA q.f q.x q.a q.n (.roB q.b) (.roI .u16 q.r)
def Rp.zero : Rp := ⟨0, 0, 0, 0, [], []⟩
def finS (l : List Int) (r : Rp) : Rp × Int := if repE r.f r.x r.a r.n r.b r.r == 0 && repB r.f r.x r.a r.n r.b r.r == l then (r, 0) else (Rp.zero, 30)
def nB (n : Int) : Int := IntKind.i64.wrap ((IntKind.i64.wrap (IntKind.i64.wrap n + 7)).tdiv 8)
def orepT (q : Rq) (l : List Int) : Rp × Int :=
  if q.f == 1 then (if l.getD 0 0 != q.f || IntKind.i64.wrap (l.getD 1 0) != nB q.n || (l.length : Int) != IntKind.i64.wrap (nB q.n + 2) then (Rp.zero, 30) else (⟨q.f, 0, 0, 0, bitsA (cutF l 2) (bitsK (IntKind.i64.wrap q.n)), []⟩, 0))
  else if q.f == 2 then (if l.getD 0 0 != q.f || IntKind.i64.wrap (l.getD 1 0) != nB q.n || (l.length : Int) != IntKind.i64.wrap (nB q.n + 2) then (Rp.zero, 30) else (⟨q.f, 0, 0, 0, bitsA (cutF l 2) (bitsK (IntKind.i64.wrap q.n)), []⟩, 0))
  else if q.f == 3 then (if ((numsN (cutF l 2) ((cutF l 2).length / 2)).length : Int) != IntKind.i64.wrap q.n then (Rp.zero, 30) else finS l ⟨q.f, 0, 0, 0, [], numsN (cutF l 2) ((cutF l 2).length / 2)⟩)
  else if q.f == 4 then (if ((numsN (cutF l 2) ((cutF l 2).length / 2)).length : Int) != IntKind.i64.wrap q.n then (Rp.zero, 30) else finS l ⟨q.f, 0, 0, 0, [], numsN (cutF l 2) ((cutF l 2).length / 2)⟩)
  else if q.f == 23 then (if ((numsN (cutF l 2) ((cutF l 2).length / 2)).length : Int) != IntKind.i64.wrap q.n then (Rp.zero, 30) else finS l ⟨q.f, 0, 0, 0, [], numsN (cutF l 2) ((cutF l 2).length / 2)⟩)
  else if q.f == 5 then finS l ⟨q.f, 0, q.a, 0, q.b, q.r⟩
  else if q.f == 6 then finS l ⟨q.f, 0, q.a, 0, q.b, q.r⟩
  else if q.f == 22 then finS l ⟨q.f, 0, q.a, 0, q.b, q.r⟩
  else if q.f == 15 then finS l ⟨q.f, 0, q.a, IntKind.u16.wrap q.b.length, [], []⟩
  else if q.f == 16 then finS l ⟨q.f, 0, q.a, IntKind.u16.wrap q.r.length, [], []⟩
  else finS l ⟨q.f, 0, 0, 0, [], []⟩
def orepS (q : Rq) (l : List Int) : Rp × Int :=
  if encE q.f q.n q.a2 q.b q.r != 0 then (Rp.zero, 30)
  else if decide ((l.length : Int) < 2) then (Rp.zero, 30)
  else if l.getD 0 0 == or128 q.f then (if (l.length : Int) != 2 then (Rp.zero, 30) else if l.getD 1 0 == 0 then (Rp.zero, 30) else (⟨q.f, l.getD 1 0, 0, 0, [], []⟩, 0))
  else orepT q l
theorem finS_yes (l : List Int) (r : Rp) (h1 : (repE r.f r.x r.a r.n r.b r.r != 0) = false) (h2 : (!(repB r.f r.x r.a r.n r.b r.r == l)) = false) : finS l r = (r, 0) := by
  unfold finS
  rw [if_pos (by simp at h1 h2 ⊢; exact ⟨h1, h2⟩)]
theorem finS_no1 (l : List Int) (r : Rp) (h1 : (repE r.f r.x r.a r.n r.b r.r != 0) = true) : finS l r = (Rp.zero, 30) := by
  unfold finS
  rw [if_neg (by simp at h1 ⊢; intro h; exact absurd h h1)]
theorem finS_no2 (l : List Int) (r : Rp) (h2 : (!(repB r.f r.x r.a r.n r.b r.r == l)) = true) : finS l r = (Rp.zero, 30) := by
  unfold finS
  rw [if_neg (by simp at h2 ⊢; intro _; exact h2)]
end Go.Proofs.Ytomodeliimnddaa
set_option linter.unusedVariables false
set_option linter.unusedSimpArgs false
namespace Go.Proofs.Ytomodeliimnddaa
open Go.Ab
set_option maxRecDepth 20000 in
set_option maxHeartbeats 4000000 in
theorem OpenReplyF_raw (f a n a2 : Int) (b : List Bool) (r : List Int) (l : List Int) (hn0 : 0 ≤ n) (hn1 : n < 65536) (hb : b.length ≤ 2500) (hr : r.length ≤ 200) (hl : l.length ≤ 30000) :
    Tr Try.prog 58 [reqA f a n a2 (.roB b) (.roI .u16 r), .roI .u8 l] ⟨0, []⟩ (FrzK (.tup [rpA (orepS ⟨f, a, n, a2, b, r⟩ l).1, .int .i64 (orepS ⟨f, a, n, a2, b, r⟩ l).2])) := by
  refine trF g58 b58 c58 ?_
  conv => whnf
  refine Ev.call (Request_ev f a n a2 b r hn0 hn1 hb (by omega)) ?_
  conv => whnf
  repeat' (first
    | (refine condY (by assumption) ?_; conv => whnf)
    | (refine condN (by assumption) ?_; conv => whnf)
    | (refine condT (by first | assumption | (simp; omega) | (simp_all; done) | (simp_all; omega)) ?_; conv => whnf)
    | (refine condF (fun h => ?_) (fun h => ?_) <;> conv => whnf)
    | (refine ⟨rfl, ?_⟩; conv => whnf)
    | (refine Ev.call (cloneB_ev _ (by omega)) ?_; conv => whnf)
    | (refine Ev.call (cloneI_ev _ (by omega)) ?_; conv => whnf)
    | (refine Ev.call (numbers_ev _ (by first | omega | (simp [cutF, numsN_length, bitsA_length]; done) | (simp [cutF, numsN_length, bitsA_length]; omega) | (simp_all; omega))) ?_; conv => whnf)
    | (refine Ev.call (bits_ev _ _ (by first | omega | (simp [cutF, numsN_length, bitsA_length]; done) | (simp [cutF, numsN_length, bitsA_length]; omega) | (simp_all; omega))) ?_; conv => whnf)
    | (refine Tr.le (leRepN (by first | exact Le.refl _ | exact Le.nilB) (by first | exact Le.refl _ | exact Le.nilI _)) (Ev.call (Reply_ev _ _ _ _ _ _ (by first | decide | exact (wrap16_range _).1) (by first | decide | exact (wrap16_range _).2) (by first | omega | (simp [cutF, numsN_length, bitsA_length]; done) | (simp [cutF, numsN_length, bitsA_length]; omega) | (simp_all; omega)) (by first | omega | (simp [cutF, numsN_length, bitsA_length]; done) | (simp [cutF, numsN_length, bitsA_length]; omega) | (simp_all; omega))) ?_); conv => whnf)
    | (refine Ev.call (equal8_ev _ _ (Nat.le_trans (repB_len _ _ _ _ _ _) (by omega))) ?_; conv => whnf)
    )
  all_goals (try simp only [show Int.toNat 0 = 0 from rfl, show Int.toNat 1 = 1 from rfl, show Int.toNat 2 = 2 from rfl] at *)
  all_goals (try have hx : (l.getD 0 0 == or128 f) = false := by assumption)
  all_goals (try have hx : (l.getD 0 0 == or128 f) = true := by assumption)
  all_goals (generalize ho : orepS ⟨f, a, n, a2, b, r⟩ l = o; simp only [orepS, orepT, cutF, nB, *, if_true, if_false, Bool.false_eq_true, Bool.or_false, Bool.false_or, Bool.true_or, Bool.or_true, Bool.and_true, Bool.true_and, Bool.false_and, Bool.and_false] at ho)
  all_goals (try (first | rw [finS_yes _ _ (by assumption) (by assumption)] at ho | rw [finS_no1 _ _ (by assumption)] at ho | rw [finS_no2 _ _ (by assumption)] at ho))
  all_goals (try (first | erw [if_pos h] at ho | erw [if_neg (fun e => Bool.noConfusion (e.symm.trans h))] at ho))
  all_goals subst ho
  all_goals first
    | exact FrzK.le (leRep rfl rfl rfl rfl (by first | exact Le.refl _ | exact Le.nilB) (by first | exact Le.refl _ | exact Le.nilI _) rfl)
theorem OpenReplyF_ev (f a n a2 : Int) (b : List Bool) (r : List Int) (l : List Int) (hn0 : 0 ≤ n) (hn1 : n < 65536) (hb : b.length ≤ 2500) (hr : r.length ≤ 200) (hl : l.length ≤ 30000) :
    Ev Try.prog 58 [reqA f a n a2 (.roB b) (.roI .u16 r), .roI .u8 l] (.tup [rpA (orepS ⟨f, a, n, a2, b, r⟩ l).1, .int .i64 (orepS ⟨f, a, n, a2, b, r⟩ l).2]) := FrzK.ev rfl (OpenReplyF_raw f a n a2 b r l hn0 hn1 hb hr hl)
end Go.Proofs.Ytomodeliimnddaa
set_option linter.unusedVariables false
set_option linter.unusedSimpArgs false
namespace Go.Proofs.Ytomodeliimnddaa
open Go.Ab
def rpB (q : Rp) : AV := repA q.f q.x q.a q.n (.roB q.b) .nils
theorem leRepB {f x a n : Int} {B : AV} {e e' : Int} {f' x' a' n' : Int} {b : List Bool} (hf : f = f') (hx : x = x') (ha : a = a') (hn : n = n') (hb : Le B (.roB b)) (he : e = e') :
    Le (.tup [repA f x a n B .nils, .int .i64 e]) (.tup [repA f' x' a' n' (.roB b) .nils, .int .i64 e']) := by
  subst hf; subst hx; subst ha; subst hn; subst he
  exact Le.tup ⟨Le.agg ⟨Le.refl _, Le.refl _, Le.refl _, Le.refl _, hb, Le.refl _, trivial⟩, Le.refl _, trivial⟩
set_option maxRecDepth 20000 in
set_option maxHeartbeats 4000000 in
theorem OpenReplyB1_raw (a n a2 : Int) (b : List Bool) (r : List Int) (l : List Int) (hn0 : 0 ≤ n) (hn1 : n < 65536) (hb : b.length ≤ 2500) (hr : r.length ≤ 200) (hl : l.length ≤ 30000) :
    Tr Try.prog 58 [reqA 1 a n a2 (.roB b) (.roI .u16 r), .roI .u8 l] ⟨0, []⟩ (FrzK (.tup [rpB (orepS ⟨1, a, n, a2, b, r⟩ l).1, .int .i64 (orepS ⟨1, a, n, a2, b, r⟩ l).2])) := by
  refine trF g58 b58 c58 ?_
  conv => whnf
  refine Ev.call (Request_ev 1 a n a2 b r hn0 hn1 hb (by omega)) ?_
  conv => whnf
  repeat' (first
    | (refine condY (by assumption) ?_; conv => whnf)
    | (refine condN (by assumption) ?_; conv => whnf)
    | (refine condT (by first | assumption | (simp; omega) | (simp_all; done) | (simp_all; omega)) ?_; conv => whnf)
    | (refine condF (fun h => ?_) (fun h => ?_) <;> conv => whnf)
    | (refine ⟨rfl, ?_⟩; conv => whnf)
    | (refine Ev.call (bits_ev _ _ (by first | omega | (simp [cutF, numsN_length, bitsA_length]; done) | (simp [cutF, numsN_length, bitsA_length]; omega) | (simp_all; omega))) ?_; conv => whnf)
    | fail)
  all_goals (try simp only [show Int.toNat 0 = 0 from rfl, show Int.toNat 1 = 1 from rfl, show Int.toNat 2 = 2 from rfl] at *)
  all_goals (try have hx : (l.getD 0 0 == or128 1) = false := by assumption)
  all_goals (try have hx : (l.getD 0 0 == or128 1) = true := by assumption)
  all_goals (generalize ho : orepS ⟨1, a, n, a2, b, r⟩ l = o; simp only [orepS, orepT, cutF, nB, *, show ((1 : Int) == 1) = true from rfl, show ((2 : Int) == 1) = false from rfl, show ((2 : Int) == 2) = true from rfl, if_true, if_false, Bool.false_eq_true, Bool.or_false, Bool.false_or, Bool.true_or, Bool.or_true, Bool.and_true, Bool.true_and, Bool.false_and, Bool.and_false] at ho)
  all_goals (try (first | erw [if_pos h] at ho | erw [if_neg (fun e => Bool.noConfusion (e.symm.trans h))] at ho))
  all_goals subst ho
  all_goals first
    | exact FrzK.le (leRepB rfl rfl rfl rfl (by first | exact Le.refl _ | exact Le.nilB) rfl)
set_option maxRecDepth 20000 in
set_option maxHeartbeats 4000000 in
theorem OpenReplyB2_raw (a n a2 : Int) (b : List Bool) (r : List Int) (l : List Int) (hn0 : 0 ≤ n) (hn1 : n < 65536) (hb : b.length ≤ 2500) (hr : r.length ≤ 200) (hl : l.length ≤ 30000) :
    Tr Try.prog 58 [reqA 2 a n a2 (.roB b) (.roI .u16 r), .roI .u8 l] ⟨0, []⟩ (FrzK (.tup [rpB (orepS ⟨2, a, n, a2, b, r⟩ l).1, .int .i64 (orepS ⟨2, a, n, a2, b, r⟩ l).2])) := by
  refine trF g58 b58 c58 ?_
  conv => whnf
  refine Ev.call (Request_ev 2 a n a2 b r hn0 hn1 hb (by omega)) ?_
  conv => whnf
  repeat' (first
    | (refine condY (by assumption) ?_; conv => whnf)
    | (refine condN (by assumption) ?_; conv => whnf)
    | (refine condT (by first | assumption | (simp; omega) | (simp_all; done) | (simp_all; omega)) ?_; conv => whnf)
    | (refine condF (fun h => ?_) (fun h => ?_) <;> conv => whnf)
    | (refine ⟨rfl, ?_⟩; conv => whnf)
    | (refine Ev.call (bits_ev _ _ (by first | omega | (simp [cutF, numsN_length, bitsA_length]; done) | (simp [cutF, numsN_length, bitsA_length]; omega) | (simp_all; omega))) ?_; conv => whnf)
    | fail)
  all_goals (try simp only [show Int.toNat 0 = 0 from rfl, show Int.toNat 1 = 1 from rfl, show Int.toNat 2 = 2 from rfl] at *)
  all_goals (try have hx : (l.getD 0 0 == or128 2) = false := by assumption)
  all_goals (try have hx : (l.getD 0 0 == or128 2) = true := by assumption)
  all_goals (generalize ho : orepS ⟨2, a, n, a2, b, r⟩ l = o; simp only [orepS, orepT, cutF, nB, *, show ((1 : Int) == 1) = true from rfl, show ((2 : Int) == 1) = false from rfl, show ((2 : Int) == 2) = true from rfl, if_true, if_false, Bool.false_eq_true, Bool.or_false, Bool.false_or, Bool.true_or, Bool.or_true, Bool.and_true, Bool.true_and, Bool.false_and, Bool.and_false] at ho)
  all_goals (try (first | erw [if_pos h] at ho | erw [if_neg (fun e => Bool.noConfusion (e.symm.trans h))] at ho))
  all_goals subst ho
  all_goals first
    | exact FrzK.le (leRepB rfl rfl rfl rfl (by first | exact Le.refl _ | exact Le.nilB) rfl)
theorem OpenReplyB_ev (f a n a2 : Int) (b : List Bool) (r : List Int) (l : List Int) (hf : f = 1 ∨ f = 2) (hn0 : 0 ≤ n) (hn1 : n < 65536) (hb : b.length ≤ 2500) (hr : r.length ≤ 200) (hl : l.length ≤ 30000) :
    Ev Try.prog 58 [reqA f a n a2 (.roB b) (.roI .u16 r), .roI .u8 l] (.tup [rpB (orepS ⟨f, a, n, a2, b, r⟩ l).1, .int .i64 (orepS ⟨f, a, n, a2, b, r⟩ l).2]) := by
  rcases hf with rfl | rfl
  · exact FrzK.ev rfl (OpenReplyB1_raw a n a2 b r l hn0 hn1 hb hr hl)
  · exact FrzK.ev rfl (OpenReplyB2_raw a n a2 b r l hn0 hn1 hb hr hl)
end Go.Proofs.Ytomodeliimnddaa
