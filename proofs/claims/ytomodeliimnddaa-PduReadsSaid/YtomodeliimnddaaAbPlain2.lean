/- Plain laws: the two readers of requests agree. -/
import Derived.Test.YtomodeliimnddaaAbPlain1
import Derived.Test.YtomodeliimnddaaAbROpen
set_option linter.unusedVariables false
set_option linter.unusedSimpArgs false
namespace Go.Proofs.Ytomodeliimnddaa
open Go.Ab
theorem pack_bit8 (l : List Bool) : ∀ i, i ≤ l.length → ∀ j, j / 8 < (l.length + 7) / 8 → bitAt (packN l i) j = (decide (j < i) && l.getD j false) := by
  intro i
  induction i with
  | zero =>
    intro _ j hj
    simp only [bitAt, packN, List.getD_eq_getElem?_getD, List.getElem?_replicate]
    split <;> simp [bitE_zero]
  | succ i ih =>
    intro hi j hj
    have ih := ih (by omega) j hj
    simp only [bitAt, packN_length] at ih ⊢
    have hd : decide (j / 8 < (l.length + 7) / 8) = true := by simp; omega
    rw [hd, Bool.true_and] at ih ⊢
    simp only [packN]
    cases hb : l.getD i false with
    | true =>
      simp only [if_true]
      by_cases hk : j / 8 = i / 8
      · have e : ((packN l i).set (i / 8) (orBit ((packN l i).getD (i / 8) 0) i)).getD (j / 8) 0 = orBit ((packN l i).getD (i / 8) 0) i := by
          rw [hk, List.getD_eq_getElem?_getD, List.getElem?_set, if_pos rfl, if_pos (by rw [packN_length]; omega)]
          rfl
        rw [e, or_bit _ (packN_byte l i _).1 (packN_byte l i _).2, ← hk, ih]
        by_cases hji : j = i
        · subst hji; rw [hb]; simp
        · have : ¬ (j % 8 = i % 8) := by omega
          simp only [this, decide_false, Bool.false_or]
          have h2 : (j < i) ↔ (j < i + 1) := by omega
          simp [h2]
      · have e : ((packN l i).set (i / 8) (orBit ((packN l i).getD (i / 8) 0) i)).getD (j / 8) 0 = (packN l i).getD (j / 8) 0 := by
          rw [List.getD_eq_getElem?_getD, List.getElem?_set, if_neg (fun h => hk h.symm)]
          rfl
        rw [e, ih]
        have h2 : (j < i) ↔ (j < i + 1) := by
          have : j ≠ i := fun h => hk (by rw [h])
          omega
        simp [h2]
    | false =>
      simp only [Bool.false_eq_true, if_false]
      rw [ih]
      by_cases hji : j = i
      · subst hji; rw [hb]; simp
      · have h2 : (j < i) ↔ (j < i + 1) := by omega
        simp [h2]
def sum8 (f : Nat → Bool) : Int := (if f 0 then 1 else 0) + (if f 1 then 2 else 0) + (if f 2 then 4 else 0) + (if f 3 then 8 else 0) + (if f 4 then 16 else 0) + (if f 5 then 32 else 0) + (if f 6 then 64 else 0) + (if f 7 then 128 else 0)
theorem sum_fin : ∀ x : Fin 256, (x.val : Int) = sum8 (bitE (x.val : Int)) := by decide +kernel
theorem byte_ext (x y : Int) (hx : 0 ≤ x ∧ x < 256) (hy : 0 ≤ y ∧ y < 256) (h : ∀ j, j < 8 → bitE x j = bitE y j) : x = y := by
  obtain ⟨a, rfl⟩ := Int.eq_ofNat_of_zero_le hx.1
  obtain ⟨b, rfl⟩ := Int.eq_ofNat_of_zero_le hy.1
  have h1 := sum_fin ⟨a, by omega⟩
  have h2 := sum_fin ⟨b, by omega⟩
  simp only at h1 h2
  rw [h1, h2]
  unfold sum8
  rw [h 0 (by omega), h 1 (by omega), h 2 (by omega), h 3 (by omega), h 4 (by omega), h 5 (by omega), h 6 (by omega), h 7 (by omega)]
theorem low_fin : ∀ k j : Fin 8, ∀ y : Fin 256, bitE ((y.val % 2 ^ k.val : Nat) : Int) j.val = (decide (j.val < k.val) && bitE (y.val : Int) j.val) := by decide +kernel
theorem lastlow_fin : ∀ k : Fin 8, ∀ y : Fin 256, lastB ((y.val % 2 ^ k.val : Nat) : Int) (y.val : Int) k.val = y.val := by decide +kernel
theorem bitE_mod (a : Int) (j : Nat) : bitE a j = bitE a (j % 8) := by unfold bitE; rw [Nat.mod_mod]
theorem bitsA_getD (t : List Int) : ∀ n j, j < n → (bitsA t n).getD j false = bitAt t j := by
  intro n
  induction n with
  | zero => intro j hj; omega
  | succ n ih =>
    intro j hj
    have hl : ∀ i, (bitsA t i).length = i := by
      intro i
      induction i with
      | zero => rfl
      | succ i ih => simp [bitsA, ih]
    rw [bitsA, List.getD_eq_getElem?_getD]
    by_cases hjn : j < n
    · rw [List.getElem?_append_left (by rw [hl]; exact hjn)]
      have := ih j hjn
      rw [List.getD_eq_getElem?_getD] at this
      exact this
    · have : j = n := by omega
      subst this
      rw [List.getElem?_append_right (by rw [hl]; omega), hl]
      simp
theorem bitsA_len (t : List Int) : ∀ n, (bitsA t n).length = n := by
  intro n
  induction n with
  | zero => rfl
  | succ n ih => simp [bitsA, ih]
/-- what the k-th byte of packed bits of bytes is -/
theorem repack (t : List Int) (n k : Nat) (ht : t.length = (n + 7) / 8) (hk : k < (n + 7) / 8) (hb : ∀ i, 0 ≤ t.getD i 0 ∧ t.getD i 0 < 256) :
    (8 * k + 8 ≤ n → (packN (bitsA t n) n).getD k 0 = t.getD k 0) ∧ (n < 8 * k + 8 → lastB ((packN (bitsA t n) n).getD k 0) (t.getD k 0) n = t.getD k 0) := by
  have hl := bitsA_len t n
  have hbit : ∀ j, j < 8 → bitE ((packN (bitsA t n) n).getD k 0) j = (decide (8 * k + j < n) && bitE (t.getD k 0) j) := by
    intro j hj
    have h := pack_bit8 (bitsA t n) n (by omega) (8 * k + j) (by rw [hl]; omega)
    have e1 : (8 * k + j) / 8 = k := by omega
    have e2 : (8 * k + j) % 8 = j := by omega
    simp only [bitAt, packN_length, hl, e1] at h
    rw [bitE_mod _ (8 * k + j), e2, show decide (k < (n + 7) / 8) = true by simp; omega, Bool.true_and] at h
    rw [h]
    by_cases hjn : 8 * k + j < n
    · rw [bitsA_getD t n _ hjn]
      simp only [bitAt, e1, ht, hk, decide_true, Bool.true_and, hjn]
      rw [bitE_mod _ (8 * k + j), e2]
    · simp [hjn]
  have hp := packN_byte (bitsA t n) n k
  constructor
  · intro h
    refine byte_ext _ _ hp (hb k) fun j hj => ?_
    rw [hbit j hj]
    have : 8 * k + j < n := by omega
    simp [this]
  · intro h
    obtain ⟨y, hy⟩ := Int.eq_ofNat_of_zero_le (hb k).1
    have hy2 := (hb k).2
    have hr : n = 8 * k + n % 8 ∧ 0 < n % 8 := by omega
    have e : (packN (bitsA t n) n).getD k 0 = ((y % 2 ^ (n % 8) : Nat) : Int) := by
      have hlt : y % 2 ^ (n % 8) ≤ y := Nat.mod_le _ _
      refine byte_ext _ _ hp ⟨by omega, by omega⟩ fun j hj => ?_
      have := low_fin ⟨n % 8, by omega⟩ ⟨j, hj⟩ ⟨y, by omega⟩
      simp only at this
      rw [this, hbit j hj, hy]
      have e3 : decide (8 * k + j < n) = decide (j < n % 8) := by
        rw [Bool.eq_iff_iff]; simp; omega
      rw [e3]
    have := lastlow_fin ⟨n % 8, by omega⟩ ⟨y, by omega⟩
    simp only at this
    rw [e, hy]
    unfold lastB at this ⊢
    rw [Nat.mod_mod] at this
    exact this

theorem numAt_drop (l : List Int) (k i : Nat) : numAt (l.drop k) i = numAt l (k + i) := by
  unfold numAt
  simp [List.getD_eq_getElem?_getD, List.getElem?_drop, Nat.add_assoc]
theorem agree_all (row l : List Int) : ((row.length : Int) == l.length && (List.range l.length).all (agreeB row l false)) = (row == l) := by
  rw [Bool.eq_iff_iff]
  simp only [Bool.and_eq_true, beq_iff_eq, List.all_eq_true, List.mem_range, agreeB, Bool.false_and, Bool.or_false]
  constructor
  · rintro ⟨h1, h2⟩
    have h1 : row.length = l.length := by omega
    refine List.ext_getElem h1 fun i h3 h4 => ?_
    have := h2 i h4
    simpa [List.getD_eq_getElem?_getD, h3, h4] using this
  · rintro rfl
    exact ⟨rfl, fun _ _ => rfl⟩
theorem again_not15 (q : Rq) (l row : List Int) (e : Int) (h : (q.f == 15) = false) : againS q l row e = row := by
  unfold againS
  rw [h]; simp
/-- the comparison at the end, where no bits are spare -/
theorem fin_same (q : Rq) (l : List Int) (h : (q.f == 15) = false) :
    (if encE q.f q.n q.a2 q.b q.r == 0 && againS q l (encR q.f q.a q.n q.a2 q.b q.r) (encE q.f q.n q.a2 q.b q.r) == l then (q, (0 : Int)) else (Rq.zero, 30)) = decT l (some (q, false)) := by
  simp only [decT, again_not15 _ _ _ _ h, Bool.and_assoc, agree_all]
theorem decS_def (l : List Int) (q : Rq) (h : openedS l = (q, true)) : decS l = if encE q.f q.n q.a2 q.b q.r == 0 && againS q l (encR q.f q.a q.n q.a2 q.b q.r) (encE q.f q.n q.a2 q.b q.r) == l then (q, (0 : Int)) else (Rq.zero, 30) := by
  unfold decS
  rw [h]
  rfl
theorem same_of (l : List Int) (q : Rq) (h1 : openedS l = (q, true)) (h2 : rOpenS l = some (q, false)) (h : (q.f == 15) = false) : decR l = decS l := by
  rw [decS_def l q h1, fin_same q l h]
  unfold decR
  rw [h2]
theorem decS_no (l : List Int) (h : (openedS l).2 = false) : decS l = (Rq.zero, 30) := by
  unfold decS
  rw [h]
  rfl
theorem opS (l : List Int) (h5 : 5 ≤ l.length) : openedS l = openedT (l.getD 0 0) (numAt l 1) (l.drop 3) := by
  unfold openedS
  rw [if_neg (by simp; omega), cutF_eq, cutF_eq, numAt_drop]
theorem opR (l : List Int) (h5 : 5 ≤ l.length) : rOpenS l = rOpenT (l.getD 0 0) (numAt l 1) (numAt l 3) l := by
  unfold rOpenS
  rw [if_neg (by simp; omega)]
theorem ne_len {row l : List Int} (h : row.length ≠ l.length) : (row == l) = false := by
  rw [beq_eq_false_iff_ne]
  intro e; exact h (by rw [e])
theorem again_len (q : Rq) (l row : List Int) (e : Int) : (againS q l row e).length = row.length := by
  unfold againS
  split <;> simp
theorem decR_none (l : List Int) (h : rOpenS l = none) : decR l = (Rq.zero, 30) := by
  unfold decR
  rw [h]
  rfl
theorem both_no (l : List Int) (q q' : Rq) (sp : Bool) (h1 : openedS l = (q, true)) (h2 : rOpenS l = some (q', sp)) (k1 : (encR q.f q.a q.n q.a2 q.b q.r).length ≠ l.length) (k2 : (encR q'.f q'.a q'.n q'.a2 q'.b q'.r).length ≠ l.length) : decR l = decS l := by
  rw [decS_def l q h1]
  unfold decR
  rw [h2]
  have e1 : (againS q l (encR q.f q.a q.n q.a2 q.b q.r) (encE q.f q.n q.a2 q.b q.r) == l) = false := ne_len (by rw [again_len]; exact k1)
  have e2 : (((encR q'.f q'.a q'.n q'.a2 q'.b q'.r).length : Int) == l.length) = false := by
    rw [beq_eq_false_iff_ne]; omega
  simp [decT, e1, e2]
theorem enc6_len (a n a2 : Int) (b : List Bool) (r : List Int) : (encR 6 a n a2 b r).length = 5 ∨ (encR 6 a n a2 b r).length = 0 := by
  unfold encR
  by_cases hk : encOk 6 n a2 b r = true
  · rw [if_pos hk]
    simp [encOk] at hk
    left
    have h1 : r.length = 1 := by omega
    simp [reqS, pre3, two8, twos_length, hk, h1]
  · rw [if_neg hk]; right; rfl
theorem agree_set (row l : List Int) (h : row.length = l.length) (hl : 0 < l.length) : (row.set (l.length - 1) (l.getD (l.length - 1) 0) == l) = (List.range l.length).all (agreeB row l true) := by
  rw [Bool.eq_iff_iff]
  simp only [beq_iff_eq, List.all_eq_true, List.mem_range, agreeB, Bool.true_and, Bool.or_eq_true]
  constructor
  · intro e j hj
    by_cases hjl : j = l.length - 1
    · right; omega
    · left
      have : (row.set (l.length - 1) (l.getD (l.length - 1) 0)).getD j 0 = l.getD j 0 := by rw [e]
      rw [List.getD_eq_getElem?_getD, List.getElem?_set, if_neg (fun h => hjl h.symm)] at this
      exact this
  · intro e
    refine List.ext_getElem (by simp [h]) fun j h3 h4 => ?_
    rw [List.getElem_set]
    split
    · rename_i hj
      subst hj
      simp [List.getD_eq_getElem?_getD, h4]
    · rename_i hj
      rcases e j h4 with e | e
      · have h5 : j < row.length := by omega
        simpa [List.getD_eq_getElem?_getD, h5, h4] using e
      · omega
theorem row15_len (a : Int) (b : List Bool) : (row15 15 a b).length = 6 + (b.length + 7) / 8 := by
  simp [row15, pre3, two8, packN_length]; omega
theorem row15_get (a : Int) (b : List Bool) (k : Nat) : (row15 15 a b).getD (6 + k) 0 = (packN b b.length).getD k 0 := by
  simp only [row15, pre3, two8, List.cons_append, List.nil_append, List.append_assoc]
  rw [show 6 + k = k + 6 by omega]
  rfl
theorem row15_5 (a : Int) (b : List Bool) : (row15 15 a b).getD 5 0 = IntKind.u8.wrap (((b.length + 7) / 8 : Nat) : Int) := rfl
theorem drop_get (l : List Int) (k i : Nat) : (l.drop k).getD i 0 = l.getD (k + i) 0 := by
  simp [List.getD_eq_getElem?_getD, List.getElem?_drop]
theorem bitsK_v (v : Int) (h0 : 0 ≤ v) (h1 : v < 65536) : bitsK (IntKind.i64.wrap v) = min v.toNat 2000 := by
  rw [IntWalk.i64_in _ (by omega)]
  unfold bitsK
  rw [if_neg (show ¬ (0 > v) by omega)]
  split
  · rw [Nat.min_eq_right (by omega)]; rfl
  · rw [Nat.min_eq_left (by omega)]
theorem o15n (a : Int) (t : List Int) (h : t.length < 3) : openedT 15 a t = (⟨15, a, 0, 0, [], []⟩, false) := by
  have e : decide ((t.length : Int) < 3) = true := by simp; omega
  unfold openedT; rw [e]; rfl
theorem o15y (a : Int) (t : List Int) (h : 3 ≤ t.length) : openedT 15 a t = (⟨15, a, 0, 0, bitsA (cutF t 3) (bitsK (IntKind.i64.wrap (numAt t 0))), []⟩, true) := by
  have e : decide ((t.length : Int) < 3) = false := by simp; omega
  unfold openedT; rw [e]; rfl
theorem o16n (a : Int) (t : List Int) (h : t.length < 3) : openedT 16 a t = (⟨16, a, 0, 0, [], []⟩, false) := by
  have e : decide ((t.length : Int) < 3) = true := by simp; omega
  unfold openedT; rw [e]; rfl
theorem o16y (a : Int) (t : List Int) (h : 3 ≤ t.length) : openedT 16 a t = (⟨16, a, 0, 0, [], numsN (cutF t 3) ((cutF t 3).length / 2)⟩, true) := by
  have e : decide ((t.length : Int) < 3) = false := by simp; omega
  unfold openedT; rw [e]; rfl
theorem o23n (a : Int) (t : List Int) (h : t.length < 7) : openedT 23 a t = (⟨23, a, 0, 0, [], []⟩, false) := by
  have e : decide ((t.length : Int) < 7) = true := by simp; omega
  unfold openedT; rw [e]; rfl
theorem o23y (a : Int) (t : List Int) (h : 7 ≤ t.length) : openedT 23 a t = (⟨23, a, numAt t 0, numAt (cutF t 2) 0, [], numsN (cutF t 7) ((cutF t 7).length / 2)⟩, true) := by
  have e : decide ((t.length : Int) < 7) = false := by simp; omega
  unfold openedT; rw [e]; rfl
theorem r16n (a v : Int) (l : List Int) (u : Unit) (h : l.length < 6) : rOpenT 16 a v l = none := by
  have e : decide ((l.length : Int) < 6) = true := by simp; omega
  unfold rOpenT; rw [e]; rfl
theorem r16y (a v : Int) (l : List Int) (u : Unit) (h : 6 ≤ l.length) : rOpenT 16 a v l = some (⟨16, a, 0, 0, [], numsN (cutF l 6) ((cutF l 6).length / 2)⟩, false) := by
  have e : decide ((l.length : Int) < 6) = false := by simp; omega
  unfold rOpenT; rw [e]; rfl
theorem r23n (a v : Int) (l : List Int) (u : Unit) (h : l.length < 10) : rOpenT 23 a v l = none := by
  have e : decide ((l.length : Int) < 10) = true := by simp; omega
  unfold rOpenT; rw [e]; rfl
theorem r23y (a v : Int) (l : List Int) (u : Unit) (h : 10 ≤ l.length) : rOpenT 23 a v l = some (⟨23, a, v, numAt l 5, [], numsN (cutF l 10) ((cutF l 10).length / 2)⟩, false) := by
  have e : decide ((l.length : Int) < 10) = false := by simp; omega
  unfold rOpenT; rw [e]; rfl
theorem dec15 (l : List Int) (hb : isB l) (hlen : l.length ≤ 1000) (h6 : 6 ≤ l.length) (hf : l.getD 0 0 = 15) : decR l = decS l := by
  have hS := opS l (by omega)
  have hR := opR l (by omega)
  rw [hf] at hS hR
  have hv0 := numAt0 l 3
  have hv1 := numAtL l 3
  have hK := bitsK_v (numAt l 3) hv0 hv1
  have h1 : openedS l = (⟨15, numAt l 1, 0, 0, bitsA (l.drop 6) (bitsK (IntKind.i64.wrap (numAt l 3))), []⟩, true) := by
    rw [hS]
    rw [o15y _ _ (by simp; omega), numAt_drop, cutF_eq, List.drop_drop]
  rw [hK] at h1
  have hr : rOpenS l = if decide ((l.length : Int) < 6) || decide (numAt l 3 < 1) || decide (numAt l 3 > 1968) || (l.length : Int) != IntKind.i64.wrap (6 + IntKind.i64.wrap (l.getD 5 0)) then none else some (⟨15, numAt l 1, 0, 0, bitsA (cutF l 6) (bitsK (IntKind.i64.wrap (numAt l 3))), []⟩, true) := by
    rw [hR]; simp [rOpenT]
  rw [hK, cutF_eq] at hr
  have h5b := hb.getD 5
  have hw : IntKind.i64.wrap (6 + IntKind.i64.wrap (l.getD 5 0)) = 6 + l.getD 5 0 := by
    rw [IntWalk.i64_in (l.getD 5 0) (by omega), IntWalk.i64_in _ (by omega)]
  rw [hw] at hr
  generalize hc5 : l.getD 5 0 = c5 at hr h5b
  generalize hnn : min (numAt l 3).toNat 2000 = n at h1 hr
  have hbl : (bitsA (l.drop 6) n).length = n := bitsA_len _ _
  by_cases hv : 1 ≤ numAt l 3 ∧ numAt l 3 ≤ 1968
  · have hn : 1 ≤ n ∧ n ≤ 1968 := by omega
    have hok : encOk 15 0 0 (bitsA (l.drop 6) n) [] = true := by simp [encOk, withinB, hbl]; omega
    have henc : encR 15 (numAt l 1) 0 0 (bitsA (l.drop 6) n) [] = row15 15 (numAt l 1) (bitsA (l.drop 6) n) := by
      unfold encR
      rw [if_pos hok]
      rfl
    have hE : encE 15 0 0 (bitsA (l.drop 6) n) [] = 0 := by unfold encE; rw [if_pos hok]
    have hrl := row15_len (numAt l 1) (bitsA (l.drop 6) n)
    rw [hbl] at hrl
    by_cases hc : (l.length : Int) = 6 + c5
    · have h2 : rOpenS l = some (⟨15, numAt l 1, 0, 0, bitsA (l.drop 6) n, []⟩, true) := by
        rw [hr, if_neg]
        simp; omega
      by_cases hl : (row15 15 (numAt l 1) (bitsA (l.drop 6) n)).length = l.length
      · rw [decS_def l _ h1]
        unfold decR
        rw [h2]
        simp only [decT, henc, hE]
        have hL : l.length - 1 = 6 + ((n + 7) / 8 - 1) := by omega
        have hrep := repack (l.drop 6) n ((n + 7) / 8 - 1) (by simp; omega) (by omega) (fun i => by rw [drop_get]; exact hb.getD _)
        have hset : againS ⟨15, numAt l 1, 0, 0, bitsA (l.drop 6) n, []⟩ l (row15 15 (numAt l 1) (bitsA (l.drop 6) n)) 0 = (row15 15 (numAt l 1) (bitsA (l.drop 6) n)).set (l.length - 1) (l.getD (l.length - 1) 0) := by
          have g1 : (row15 15 (numAt l 1) (bitsA (l.drop 6) n)).getD (l.length - 1) 0 = (packN (bitsA (l.drop 6) n) n).getD ((n + 7) / 8 - 1) 0 := by
            rw [hL, row15_get, hbl]
          have g2 : l.getD (l.length - 1) 0 = (l.drop 6).getD ((n + 7) / 8 - 1) 0 := by rw [hL, drop_get]
          unfold againS
          simp only [hl, hbl, beq_self_eq_true, Bool.true_and, Bool.and_true, decide_eq_true_eq]
          by_cases hm : 0 < n % 8
          · rw [if_pos (by omega), g1, g2, hrep.2 (by omega)]
          · rw [if_neg (by omega)]
            have g3 : l.getD (l.length - 1) 0 = (row15 15 (numAt l 1) (bitsA (l.drop 6) n)).getD (l.length - 1) 0 := by
              rw [g1, g2, hrep.1 (by omega)]
            rw [g3, set_same]
        rw [hset, agree_set _ _ hl (by omega), hl]
        simp
      · exact both_no l _ _ true h1 h2 (by simp only [henc]; exact hl) (by simp only [henc]; exact hl)
    · rw [decR_none l (by
        rw [hr, if_pos]
        simp; omega), decS_def l _ h1]
      simp only [henc, hE]
      rw [if_neg]
      intro h
      simp only [beq_self_eq_true, Bool.true_and, beq_iff_eq] at h
      have k1 : (againS ⟨15, numAt l 1, 0, 0, bitsA (l.drop 6) n, []⟩ l (row15 15 (numAt l 1) (bitsA (l.drop 6) n)) 0).length = l.length := by rw [h]
      rw [again_len, hrl] at k1
      have k2 : (againS ⟨15, numAt l 1, 0, 0, bitsA (l.drop 6) n, []⟩ l (row15 15 (numAt l 1) (bitsA (l.drop 6) n)) 0).getD 5 0 = c5 := by rw [h]; exact hc5
      have k3 : (againS ⟨15, numAt l 1, 0, 0, bitsA (l.drop 6) n, []⟩ l (row15 15 (numAt l 1) (bitsA (l.drop 6) n)) 0).getD 5 0 = (row15 15 (numAt l 1) (bitsA (l.drop 6) n)).getD 5 0 := by
        unfold againS
        split
        · rw [List.getD_eq_getElem?_getD, List.getElem?_set, if_neg (by omega), ← List.getD_eq_getElem?_getD]
        · rfl
      rw [k3, row15_5, hbl, u8_in _ (by omega) (by omega)] at k2
      omega
  · rw [decR_none l (by
      rw [hr, if_pos]
      simp; omega), decS_def l _ h1]
    have hok : encOk 15 0 0 (bitsA (l.drop 6) n) [] = false := by
      simp [encOk, withinB, hbl]; omega
    have hE : encE 15 0 0 (bitsA (l.drop 6) n) [] = 30 := by unfold encE; rw [if_neg (by rw [hok]; simp)]
    simp only [hE]
    rw [if_neg]
    simp
theorem dec_same (l : List Int) (hb : isB l) (hlen : l.length ≤ 1000) : decR l = decS l := by
  by_cases h5 : l.length < 5
  · rw [decS_no l (by unfold openedS; rw [if_pos (by simp; omega)]), decR_none l (by unfold rOpenS; rw [if_pos (by simp; omega)])]
  have hS := opS l (by omega)
  have hR := opR l (by omega)
  by_cases h15 : l.getD 0 0 = 15
  · by_cases h6 : l.length < 6
    · rw [h15] at hS hR
      rw [decS_no l (by rw [hS, o15n _ _ (by simp; omega)]), decR_none l (by rw [hR]; simp [rOpenT]; omega)]
    · exact dec15 l hb hlen (by omega) h15
  generalize hf : l.getD 0 0 = f at hS hR h15
  by_cases h1 : f = 1
  · subst h1
    exact same_of l ⟨1, numAt l 1, numAt l 3, 0, [], []⟩ (by rw [hS]; simp [openedT, numAt_drop]) (by rw [hR]; simp [rOpenT]) rfl
  by_cases h2 : f = 2
  · subst h2
    exact same_of l ⟨2, numAt l 1, numAt l 3, 0, [], []⟩ (by rw [hS]; simp [openedT, numAt_drop]) (by rw [hR]; simp [rOpenT]) rfl
  by_cases h3 : f = 3
  · subst h3
    exact same_of l ⟨3, numAt l 1, numAt l 3, 0, [], []⟩ (by rw [hS]; simp [openedT, numAt_drop]) (by rw [hR]; simp [rOpenT]) rfl
  by_cases h4 : f = 4
  · subst h4
    exact same_of l ⟨4, numAt l 1, numAt l 3, 0, [], []⟩ (by rw [hS]; simp [openedT, numAt_drop]) (by rw [hR]; simp [rOpenT]) rfl
  by_cases h5 : f = 5
  · subst h5
    exact same_of l ⟨5, numAt l 1, 0, 0, [numAt l 3 == 65280], []⟩ (by rw [hS]; simp [openedT, numAt_drop]) (by rw [hR]; simp [rOpenT]) rfl
  by_cases h6 : f = 6
  · subst h6
    by_cases hl : l.length = 5
    · refine same_of l ⟨6, numAt l 1, 0, 0, [], [numAt l 3]⟩ (by
        rw [hS]
        have e : (l.drop 3).length = 2 := by simp; omega
        have e2 : numsN (l.drop 3) 1 = [numAt l 3] := by
          have := numAt_drop l 3 0
          simp only [numsN, List.nil_append]
          exact congrArg (fun x => [x]) this
        simp [openedT, hl, e2]) (by rw [hR]; simp [rOpenT]) rfl
    · refine both_no l ⟨6, numAt l 1, 0, 0, [], numsN (l.drop 3) ((l.drop 3).length / 2)⟩ ⟨6, numAt l 1, 0, 0, [], [numAt l 3]⟩ false (by rw [hS]; simp [openedT]) (by rw [hR]; simp [rOpenT]) ?_ ?_
      · rcases enc6_len (numAt l 1) 0 0 [] (numsN (l.drop 3) ((l.drop 3).length / 2)) with e | e <;> (simp only [e]; omega)
      · rcases enc6_len (numAt l 1) 0 0 [] [numAt l 3] with e | e <;> (simp only [e]; omega)
  by_cases h22 : f = 22
  · subst h22
    exact same_of l ⟨22, numAt l 1, 0, 0, [], numsN (l.drop 3) ((l.drop 3).length / 2)⟩ (by rw [hS]; simp [openedT]) (by rw [hR]; simp [rOpenT, cutF_eq]) rfl
  by_cases h16 : f = 16
  · subst h16
    by_cases hl : l.length < 6
    · rw [decS_no l (by rw [hS, o16n _ _ (by simp; omega)]), decR_none l (by rw [hR, r16n _ _ _ () (by omega)])]
    · refine same_of l ⟨16, numAt l 1, 0, 0, [], numsN (l.drop 6) ((l.drop 6).length / 2)⟩ (by
        rw [hS, o16y _ _ (by simp; omega), cutF_eq, List.drop_drop]) (by rw [hR, r16y _ _ _ () (by omega), cutF_eq]) rfl
  by_cases h23 : f = 23
  · subst h23
    by_cases hl : l.length < 10
    · rw [decS_no l (by rw [hS, o23n _ _ (by simp; omega)]), decR_none l (by rw [hR, r23n _ _ _ () (by omega)])]
    · refine same_of l ⟨23, numAt l 1, numAt l 3, numAt l 5, [], numsN (l.drop 10) ((l.drop 10).length / 2)⟩ (by
        rw [hS, o23y _ _ (by simp; omega), cutF_eq, cutF_eq, List.drop_drop, List.drop_drop, numAt_drop, numAt_drop]) (by rw [hR, r23y _ _ _ () (by omega), cutF_eq]) rfl
  refine same_of l ⟨f, numAt l 1, 0, 0, [], []⟩ (by rw [hS]; simp [openedT, *]) (by rw [hR]; simp [rOpenT, *]) (by simpa using h15)
end Go.Proofs.Ytomodeliimnddaa
