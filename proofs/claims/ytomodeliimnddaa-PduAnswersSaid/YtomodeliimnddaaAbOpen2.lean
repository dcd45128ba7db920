/- Contracts: bytes read as requests. -/
import Derived.Test.YtomodeliimnddaaAbOpen
set_option linter.unusedVariables false
set_option linter.unusedSimpArgs false
namespace Go.Proofs.Ytomodeliimnddaa
open Go.Ab
theorem wrap16_range (n : Int) : 0 ≤ IntKind.u16.wrap n ∧ IntKind.u16.wrap n < 65536 := ⟨Int.emod_nonneg _ (by decide), Int.emod_lt_of_pos _ (by decide)⟩
theorem numAt_range (l : List Int) (i : Nat) : 0 ≤ numAt l i ∧ numAt l i < 65536 := wrap16_range _
theorem bitsK_le (n : Int) : bitsK n ≤ 2000 := by
  unfold bitsK
  split <;> omega
theorem numAt0 (l : List Int) (i : Nat) : 0 ≤ numAt l i := (numAt_range l i).1
theorem numAtL (l : List Int) (i : Nat) : numAt l i < 65536 := (numAt_range l i).2
def InR (q : Rq) : Prop := 0 ≤ q.n ∧ q.n < 65536 ∧ q.b.length ≤ 2500 ∧ q.r.length ≤ 500
theorem openedT_range (f a : Int) (t : List Int) (hl : t.length ≤ 1000) : InR (openedT f a t).1 := by
  have h2 := bitsK_le (IntKind.i64.wrap (numAt t 0))
  unfold openedT
  by_cases h1 : (f == 1) = true
  · rw [if_pos h1]; (simp only [InR, numAt0, numAtL, bitsA_length, numsN_length, cutF_eq, List.length_nil, List.length_cons, List.length_drop, true_and]; try omega)
  rw [if_neg h1]
  by_cases h2 : (f == 2) = true
  · rw [if_pos h2]; (simp only [InR, numAt0, numAtL, bitsA_length, numsN_length, cutF_eq, List.length_nil, List.length_cons, List.length_drop, true_and]; try omega)
  rw [if_neg h2]
  by_cases h3 : (f == 3) = true
  · rw [if_pos h3]; (simp only [InR, numAt0, numAtL, bitsA_length, numsN_length, cutF_eq, List.length_nil, List.length_cons, List.length_drop, true_and]; try omega)
  rw [if_neg h3]
  by_cases h4 : (f == 4) = true
  · rw [if_pos h4]; (simp only [InR, numAt0, numAtL, bitsA_length, numsN_length, cutF_eq, List.length_nil, List.length_cons, List.length_drop, true_and]; try omega)
  rw [if_neg h4]
  by_cases h5 : (f == 5) = true
  · rw [if_pos h5]; (simp only [InR, numAt0, numAtL, bitsA_length, numsN_length, cutF_eq, List.length_nil, List.length_cons, List.length_drop, true_and]; try omega)
  rw [if_neg h5]
  by_cases h6 : (f == 6) = true
  · rw [if_pos h6]; (simp only [InR, numAt0, numAtL, bitsA_length, numsN_length, cutF_eq, List.length_nil, List.length_cons, List.length_drop, true_and]; try omega)
  rw [if_neg h6]
  by_cases h22 : (f == 22) = true
  · rw [if_pos h22]; (simp only [InR, numAt0, numAtL, bitsA_length, numsN_length, cutF_eq, List.length_nil, List.length_cons, List.length_drop, true_and]; try omega)
  rw [if_neg h22]
  by_cases h15 : (f == 15) = true
  · rw [if_pos h15]; by_cases g : decide ((t.length : Int) < 3) = true
    · rw [if_pos g]; (simp only [InR, numAt0, numAtL, bitsA_length, numsN_length, cutF_eq, List.length_nil, List.length_cons, List.length_drop, true_and]; try omega)
    · rw [if_neg g]; (simp only [InR, numAt0, numAtL, bitsA_length, numsN_length, cutF_eq, List.length_nil, List.length_cons, List.length_drop, true_and]; try omega)
  rw [if_neg h15]
  by_cases h16 : (f == 16) = true
  · rw [if_pos h16]; by_cases g : decide ((t.length : Int) < 3) = true
    · rw [if_pos g]; (simp only [InR, numAt0, numAtL, bitsA_length, numsN_length, cutF_eq, List.length_nil, List.length_cons, List.length_drop, true_and]; try omega)
    · rw [if_neg g]; (simp only [InR, numAt0, numAtL, bitsA_length, numsN_length, cutF_eq, List.length_nil, List.length_cons, List.length_drop, true_and]; try omega)
  rw [if_neg h16]
  by_cases h23 : (f == 23) = true
  · rw [if_pos h23]; by_cases g : decide ((t.length : Int) < 7) = true
    · rw [if_pos g]; (simp only [InR, numAt0, numAtL, bitsA_length, numsN_length, cutF_eq, List.length_nil, List.length_cons, List.length_drop, true_and]; try omega)
    · rw [if_neg g]; (simp only [InR, numAt0, numAtL, bitsA_length, numsN_length, cutF_eq, List.length_nil, List.length_cons, List.length_drop, true_and]; try omega)
  rw [if_neg h23]
  (simp only [InR, numAt0, numAtL, bitsA_length, numsN_length, cutF_eq, List.length_nil, List.length_cons, List.length_drop, true_and]; try omega)
theorem opened_range (l : List Int) (hl : l.length ≤ 1000) : 0 ≤ (openedS l).1.n ∧ (openedS l).1.n < 65536 ∧ (openedS l).1.b.length ≤ 2500 ∧ (openedS l).1.r.length ≤ 500 := by
  unfold openedS
  split
  · exact ⟨by decide, by decide, by decide, by decide⟩
  · exact openedT_range _ _ _ (by rw [cutF_eq]; simp; omega)
theorem opened_len (l : List Int) (h : (openedS l).2 = true) : 5 ≤ l.length := by
  unfold openedS at h
  split at h
  · cases h
  · rename_i h1
    simp only [decide_eq_true_eq] at h1
    omega
theorem encR_len (f a n a2 : Int) (b : List Bool) (r : List Int) (hb : b.length ≤ 2500) (hr : r.length ≤ 500) : (encR f a n a2 b r).length ≤ 2000 := by
  unfold encR
  split
  · unfold reqS
    repeat' split
    all_goals (simp [twos_length, packN_length, row15, rowR, pre3, two8]; try omega)
  · simp
theorem equal8_ev (l m : List Int) (hl : l.length ≤ 100000) : Ev Try.prog 115 [.roI .u8 l, .roI .u8 m] (.bool (l == m)) := ⟨rfl, equal8_tr l m hl⟩
theorem equal8_call {h len : Nat} {l m : List Int} {s : St} {K : AV → St → Prop} (hg : s.get h = some (.rowI .u8 l)) (hl : len = l.length) (hb : l.length ≤ 100000)
    (k : K (.bool (l == m)) (s.drop h)) : Tr Try.prog 115 [.sl 1 h 0 len, .roI .u8 m] s K := by
  refine Tr.lend h hg ?_
  have : frzL h (.rowI .u8 l) [.sl 1 h 0 len, .roI .u8 m] = [.roI .u8 l, .roI .u8 m] := by
    simp only [frzL, frz_row h .u8 l len hl]; rfl
  rw [this]
  exact Ev.call (equal8_ev l m hb) k
/- rung/pdu.OpenRequest -/
def a51 : ACode := (.seq (.reg [⟨(some 2), .alloc [(1, (.int .u8 0)), (3, (.int .u16 0)), (2, .nils)], none, false⟩, ⟨(some 3), .mov (.c (.int .i64 0)), none, false⟩])
 (.seq (.reg [⟨(some 11), .mov (.t 0), none, false⟩, ⟨(some 12), .call 114 [(.t 11)], none, false⟩, ⟨(some 10), .mov (.t 12), none, false⟩, ⟨(some 13), .ext (.t 10) 0, none, false⟩, ⟨(some 14), .ext (.t 10) 1, none, false⟩, ⟨(some 4), .alloc [(1, (.int .u8 0)), (3, (.int .u16 0)), (2, .nils)], none, false⟩, ⟨none, .store 6 (.t 4) (.t 13), none, false⟩, ⟨(some 5), .mov (.t 14), none, false⟩])
 (.seq (.seq (.reg [⟨(some 15), .mov (.t 5), none, false⟩, ⟨(some 16), .un .not (.t 15), none, false⟩])
 (.cond (.t 16) (.seq (.reg [⟨(some 17), .build [(.int .u8 0), (.int .u16 0), (.int .u16 0), (.int .u16 0), .nils, .nils] [], none, false⟩, ⟨none, .store 6 (.t 2) (.t 17), none, false⟩, ⟨(some 3), .mov (.c (.int .i64 30)), none, false⟩])
 .ret)
 .skip))
 (.seq (.reg [⟨(some 19), .load true 6 (.t 4), none, false⟩, ⟨(some 20), .call 48 [(.t 19)], none, false⟩, ⟨(some 18), .mov (.t 20), none, false⟩, ⟨(some 21), .ext (.t 18) 0, none, false⟩, ⟨(some 22), .ext (.t 18) 1, none, false⟩, ⟨(some 6), .mov (.t 21), none, false⟩, ⟨(some 7), .mov (.t 22), none, false⟩])
 (.seq (.seq (.reg [⟨(some 23), .fld 0 1 false (.t 4), none, false⟩, ⟨(some 24), .load false 1 (.t 23), none, false⟩, ⟨(some 25), .bin .eql .other (.t 24) (.c (.int .u8 15)), none, false⟩, ⟨(some 26), .mov (.t 25), none, true⟩, ⟨(some 27), .mov (.t 6), (some (26, true)), false⟩, ⟨(some 28), .len false (.t 27), (some (26, true)), false⟩, ⟨(some 29), .mov (.t 0), (some (26, true)), false⟩, ⟨(some 30), .len false (.t 29), (some (26, true)), false⟩, ⟨(some 31), .bin .eql .other (.t 28) (.t 30), (some (26, true)), false⟩, ⟨(some 32), .pick (.t 26) (.t 31) (.c (.bool false)), none, false⟩])
 (.cond (.t 32) (.seq (.reg [⟨(some 33), .mov (.t 0), none, false⟩, ⟨(some 34), .len false (.t 33), none, false⟩, ⟨(some 35), .bin .sub .other (.t 34) (.c (.int .i64 1)), none, false⟩, ⟨(some 8), .mov (.t 35), none, false⟩])
 (.seq (.reg [⟨(some 36), .fld 4 1 false (.t 4), none, false⟩, ⟨(some 37), .load false 1 (.t 36), none, false⟩, ⟨(some 38), .len false (.t 37), none, false⟩, ⟨(some 39), .bin .rem .other (.t 38) (.c (.int .i64 8)), none, false⟩, ⟨(some 40), .conv (.int .u64) (.t 39), none, false⟩, ⟨(some 9), .mov (.t 40), none, false⟩])
 (.seq (.reg [⟨(some 41), .mov (.t 9), none, false⟩, ⟨(some 42), .bin .gtr .other (.t 41) (.c (.int .u64 0)), none, false⟩, ⟨(some 43), .mov (.t 42), none, true⟩, ⟨(some 44), .mov (.t 7), (some (43, true)), false⟩, ⟨(some 45), .bin .eql .other (.t 44) (.c (.int .i64 0)), (some (43, true)), false⟩, ⟨(some 46), .pick (.t 43) (.t 45) (.c (.bool false)), none, false⟩])
 (.cond (.t 46) (.draw [⟨0, ⟨(some 47), .mov (.t 6), none, false⟩, false, [], []⟩, ⟨1, ⟨(some 48), .mov (.t 8), none, false⟩, false, [], []⟩, ⟨2, ⟨(some 49), .idx 1 none false (.t 47) (.t 48), none, false⟩, false, [], []⟩, ⟨3, ⟨(some 50), .load false 1 (.t 49), none, false⟩, false, [], []⟩, ⟨4, ⟨(some 51), .mov (.t 0), none, false⟩, false, [], []⟩, ⟨5, ⟨(some 52), .mov (.t 8), none, false⟩, false, [], []⟩, ⟨6, ⟨(some 53), .idx 1 none false (.t 51) (.t 52), none, false⟩, false, [], []⟩, ⟨7, ⟨(some 54), .load false 1 (.t 53), none, false⟩, false, [], []⟩, ⟨8, ⟨(some 55), .mov (.t 9), none, false⟩, false, [], []⟩, ⟨9, ⟨(some 56), .bin .shr .other (.t 54) (.t 55), none, false⟩, false, [], []⟩, ⟨10, ⟨(some 57), .mov (.t 9), none, false⟩, false, [], []⟩, ⟨11, ⟨(some 58), .bin .shl .other (.t 56) (.t 57), none, false⟩, false, [], []⟩, ⟨12, ⟨(some 59), .bin .or .other (.t 50) (.t 58), none, false⟩, false, [], []⟩, ⟨13, ⟨(some 60), .idx 1 none false (.t 47) (.t 48), none, false⟩, false, [], []⟩, ⟨14, ⟨none, .store 1 (.t 60) (.t 59), none, false⟩, true, [], []⟩])
 .skip))))
 .skip))
 (.seq (.seq (.reg [⟨(some 61), .mov (.t 7), none, false⟩, ⟨(some 62), .bin .neq .other (.t 61) (.c (.int .i64 0)), none, false⟩, ⟨(some 63), .mov (.t 62), none, true⟩, ⟨(some 64), .mov (.t 6), (some (63, false)), false⟩, ⟨(some 65), .mov (.t 0), (some (63, false)), false⟩, ⟨(some 66), .call 115 [(.t 64), (.t 65)], (some (63, false)), false⟩, ⟨(some 67), .un .not (.t 66), (some (63, false)), false⟩, ⟨(some 68), .pick (.t 63) (.c (.bool true)) (.t 67), none, false⟩])
 (.cond (.t 68) (.seq (.reg [⟨(some 69), .build [(.int .u8 0), (.int .u16 0), (.int .u16 0), (.int .u16 0), .nils, .nils] [], none, false⟩, ⟨none, .store 6 (.t 2) (.t 69), none, false⟩, ⟨(some 3), .mov (.c (.int .i64 30)), none, false⟩])
 .ret)
 .skip))
 (.seq (.reg [⟨(some 70), .load true 6 (.t 4), none, false⟩, ⟨none, .store 6 (.t 2) (.t 70), none, false⟩, ⟨(some 3), .mov (.c (.int .i64 0)), none, false⟩])
 .ret)))))))
def r51 : List ARes := [.cell 2 true 6, .t 3]
theorem c51 : compF Try.prog Try.f51 = some (a51, r51) := by kernel_rfl

theorem b51 : hasBody Try.prog 51 = true := by kernel_rfl
theorem g51 : Try.prog.funcs[51]? = some Try.f51 := by kernel_rfl

def lastB (a b : Int) (n : Nat) : Int := IntKind.u8.wrap (BitVec.ofInt 8 a ||| BitVec.ofInt 8 (IntKind.u8.wrap (b.fdiv (2 ^ min (n % 8) 8) * 2 ^ min (n % 8) 8))).toNat
def againS (q : Rq) (l row : List Int) (e : Int) : List Int :=
  if q.f == 15 && (row.length : Int) == l.length && decide (((q.b.length % 8 : Nat) : Int) > 0) && e == 0 then row.set (l.length - 1) (lastB (row.getD (l.length - 1) 0) (l.getD (l.length - 1) 0) q.b.length) else row
def decS (l : List Int) : Rq × Int :=
  if (openedS l).2 then
    (if encE (openedS l).1.f (openedS l).1.n (openedS l).1.a2 (openedS l).1.b (openedS l).1.r == 0 && againS (openedS l).1 l (encR (openedS l).1.f (openedS l).1.a (openedS l).1.n (openedS l).1.a2 (openedS l).1.b (openedS l).1.r) (encE (openedS l).1.f (openedS l).1.n (openedS l).1.a2 (openedS l).1.b (openedS l).1.r) == l then ((openedS l).1, 0) else (Rq.zero, 30))
  else (Rq.zero, 30)
theorem leReqE {f a n a2 : Int} {B R : AV} {e e' : Int} {q : Rq} (hf : f = q.f) (ha : a = q.a) (hn : n = q.n) (ha2 : a2 = q.a2) (hb : Le B (.roB q.b)) (hr : Le R (.roI .u16 q.r)) (he : e = e') :
    Le (.tup [reqA f a n a2 B R, .int .i64 e]) (.tup [rqA q, .int .i64 e']) := by
  subst hf; subst ha; subst hn; subst ha2; subst he
  exact Le.tup ⟨Le.agg ⟨Le.refl _, Le.refl _, Le.refl _, Le.refl _, hb, hr, trivial⟩, Le.refl _, trivial⟩
set_option maxRecDepth 20000 in
set_option maxHeartbeats 4000000 in
theorem OpenRequest_raw (l : List Int) (hl : l.length ≤ 1000) : Tr Try.prog 51 [.roI .u8 l] ⟨0, []⟩ (FrzK (.tup [rqA (decS l).1, .int .i64 (decS l).2])) := by
  obtain ⟨hn0, hn1, hb, hr⟩ := opened_range l hl
  have hO := opened_ev l hl
  have h5 := opened_len l
  have hrow := encR_len (openedS l).1.f (openedS l).1.a (openedS l).1.n (openedS l).1.a2 (openedS l).1.b (openedS l).1.r hb hr
  unfold decS
  generalize openedS l = o at *
  obtain ⟨q, ok⟩ := o
  have hR := Request_tr q.f q.a q.n q.a2 q.b q.r hn0 hn1 hb hr
  simp only at *
  generalize encR q.f q.a q.n q.a2 q.b q.r = row at *
  generalize encE q.f q.n q.a2 q.b q.r = e at *
  cases ok
  · simp only [Bool.false_eq_true, if_false]
    refine trF g51 b51 c51 ?_
    conv => whnf
    refine Ev.call hO ?_
    conv => whnf
    exact FrzK.le (leReqE rfl rfl rfl rfl Le.nilB (Le.nilI _) rfl)
  · simp only [if_true]
    have h5 : 5 ≤ l.length := h5 rfl
    have hl1 : IntKind.i64.wrap ((l.length : Int) - 1) = ((l.length - 1 : Nat) : Int) := by rw [IntWalk.i64_in _ (by omega)]; omega
    have hm : IntKind.u64.wrap ((q.b.length : Int).tmod 8) = ((q.b.length % 8 : Nat) : Int) := by
      rw [r64']
      exact Int.emod_eq_of_lt (by omega) (by show ((q.b.length % 8 : Nat) : Int) < 18446744073709551616; omega)
    refine trF g51 b51 c51 ?_
    conv => whnf
    refine Ev.call hO ?_
    conv => whnf
    refine Ret1.call hR rfl rfl ?_
    conv => whnf
    repeat' (first
      | (refine condY (by assumption) ?_; conv => whnf)
      | (refine condN (by assumption) ?_; conv => whnf)
      | (refine condT (by simp only [hl1]; simp_all; omega) ?_; conv => whnf)
      | (refine condT (by simp only [hl1, Chunk.ld]; simp_all; omega) ?_; conv => whnf)
      | (refine condT (by show decide (0 + (IntKind.i64.wrap ((l.length : Int) - 1)).toNat * 1 + 1 ≤ row.length) = true; simp only [hl1]; simp_all; omega) ?_; conv => whnf)
      | (refine condF (fun h => ?_) (fun h => ?_) <;> conv => whnf)
      | (refine ⟨rfl, ?_⟩; conv => whnf)
      | (refine equal8_call rfl (by first | rfl | simp) (by first | omega | (simp; omega)) ?_; conv => whnf)
      )
    all_goals (simp only [hl1, hm, Int.toNat_natCast, Nat.zero_add, Nat.mul_one] at *)
    all_goals first
      | (have h8 : againS q l row e = row := by
           unfold againS
           rw [show decide (((q.b.length % 8 : Nat) : Int) > 0) = false from h]
           simp
         have hk : (e == 0 && againS q l row e == l) = true := by rw [h8]; simp_all
         simp only [hk, if_true]
         exact FrzK.le (leReqE rfl rfl rfl rfl (Le.refl _) (Le.refl _) rfl))
      | (have h8 : againS q l row e = row := by
           unfold againS
           rw [show decide (((q.b.length % 8 : Nat) : Int) > 0) = false from h]
           simp
         have hk : (e == 0 && againS q l row e == l) = false := by rw [h8]; simp_all
         simp only [hk, Bool.false_eq_true, if_false]
         exact FrzK.le (leReqE rfl rfl rfl rfl Le.nilB (Le.nilI _) rfl))
      | (have h8 : againS q l row e = row.set (l.length - 1) (lastB (row.getD (l.length - 1) 0) (l.getD (l.length - 1) 0) q.b.length) := by
           unfold againS
           rw [show (q.f == 15) = true by assumption, show ((row.length : Int) == l.length) = true by assumption, show decide (((q.b.length % 8 : Nat) : Int) > 0) = true by assumption, show (e == 0) = true by assumption]
           rfl
         have h' : (!(row.set (l.length - 1) (lastB (row.getD (l.length - 1) 0) (l.getD (l.length - 1) 0) q.b.length) == l)) = false := h
         have hk : (e == 0 && againS q l row e == l) = true := by
           rw [h8, show (e == 0) = true by assumption, Bool.true_and]
           simpa using h'
         simp only [hk, if_true]
         exact FrzK.le (leReqE rfl rfl rfl rfl (Le.refl _) (Le.refl _) rfl))
      | (have h8 : againS q l row e = row.set (l.length - 1) (lastB (row.getD (l.length - 1) 0) (l.getD (l.length - 1) 0) q.b.length) := by
           unfold againS
           rw [show (q.f == 15) = true by assumption, show ((row.length : Int) == l.length) = true by assumption, show decide (((q.b.length % 8 : Nat) : Int) > 0) = true by assumption, show (e == 0) = true by assumption]
           rfl
         have h' : (!(row.set (l.length - 1) (lastB (row.getD (l.length - 1) 0) (l.getD (l.length - 1) 0) q.b.length) == l)) = true := h
         have hk : (e == 0 && againS q l row e == l) = false := by
           rw [h8, show (e == 0) = true by assumption, Bool.true_and]
           simpa using h'
         simp only [hk, Bool.false_eq_true, if_false]
         exact FrzK.le (leReqE rfl rfl rfl rfl Le.nilB (Le.nilI _) rfl))
      | (have hk : (e == 0 && againS q l row e == l) = false := by first | (simp_all [againS]; done) | (simp_all [againS, lastB]; done)
         simp only [hk, Bool.false_eq_true, if_false]
         exact FrzK.le (leReqE rfl rfl rfl rfl Le.nilB (Le.nilI _) rfl))
      | (have hk : (e == 0 && againS q l row e == l) = true := by first | (simp_all [againS]; done) | (simp_all [againS, lastB]; done)
         simp only [hk, if_true]
         exact FrzK.le (leReqE rfl rfl rfl rfl (Le.refl _) (Le.refl _) rfl))
theorem OpenRequest_ev (l : List Int) (hl : l.length ≤ 1000) : Ev Try.prog 51 [.roI .u8 l] (.tup [rqA (decS l).1, .int .i64 (decS l).2]) := FrzK.ev rfl (OpenRequest_raw l hl)
end Go.Proofs.Ytomodeliimnddaa
