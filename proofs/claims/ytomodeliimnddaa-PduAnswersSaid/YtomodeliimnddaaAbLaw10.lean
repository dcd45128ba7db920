/- Statements of layer 3: bits; unlike requests have unlike bytes. -/
import Derived.Test.YtomodeliimnddaaAbLaw5
import Derived.Laws.Strings
set_option linter.unusedVariables false
set_option linter.unusedSimpArgs false
namespace Go.Proofs.Ytomodeliimnddaa
open Go.Ab
/- rung/rungref3.Known -/
def a66 : ACode := (.seq (.reg [⟨(some 2), .mov (.c (.bool false)), none, false⟩])
 (.seq (.reg [⟨(some 3), .mov (.t 0), none, false⟩, ⟨(some 4), .bin .geq .other (.t 3) (.c (.int .u8 1)), none, false⟩, ⟨(some 5), .mov (.t 4), none, true⟩, ⟨(some 6), .mov (.t 0), (some (5, true)), false⟩, ⟨(some 7), .bin .leq .other (.t 6) (.c (.int .u8 6)), (some (5, true)), false⟩, ⟨(some 8), .pick (.t 5) (.t 7) (.c (.bool false)), none, false⟩, ⟨(some 9), .mov (.t 8), none, true⟩, ⟨(some 10), .mov (.t 0), (some (9, false)), false⟩, ⟨(some 11), .bin .eql .other (.t 10) (.c (.int .u8 15)), (some (9, false)), false⟩, ⟨(some 12), .pick (.t 9) (.c (.bool true)) (.t 11), none, false⟩, ⟨(some 13), .mov (.t 12), none, true⟩, ⟨(some 14), .mov (.t 0), (some (13, false)), false⟩, ⟨(some 15), .bin .eql .other (.t 14) (.c (.int .u8 16)), (some (13, false)), false⟩, ⟨(some 16), .pick (.t 13) (.c (.bool true)) (.t 15), none, false⟩, ⟨(some 17), .mov (.t 16), none, true⟩, ⟨(some 18), .mov (.t 0), (some (17, false)), false⟩, ⟨(some 19), .bin .eql .other (.t 18) (.c (.int .u8 22)), (some (17, false)), false⟩, ⟨(some 20), .pick (.t 17) (.c (.bool true)) (.t 19), none, false⟩, ⟨(some 21), .mov (.t 20), none, true⟩, ⟨(some 22), .mov (.t 0), (some (21, false)), false⟩, ⟨(some 23), .bin .eql .other (.t 22) (.c (.int .u8 23)), (some (21, false)), false⟩, ⟨(some 24), .pick (.t 21) (.c (.bool true)) (.t 23), none, false⟩, ⟨(some 2), .mov (.t 24), none, false⟩])
 .ret))
def r66 : List ARes := [.t 2]
theorem c66 : compF Try.prog Try.f66 = some (a66, r66) := by kernel_rfl

theorem b66 : hasBody Try.prog 66 = true := by kernel_rfl
theorem g66 : Try.prog.funcs[66]? = some Try.f66 := by kernel_rfl
/- rung/runglaw3.PduBits -/
def a10 : ACode := (.seq (.reg [⟨(some 6), .mov (.c (.bool false)), none, false⟩])
 (.seq (.seq (.reg [⟨(some 9), .call 46 [], none, false⟩, ⟨(some 10), .un .not (.t 9), none, false⟩])
 (.cond (.t 10) (.seq (.reg [⟨(some 6), .mov (.c (.bool false)), none, false⟩])
 .ret)
 .skip))
 (.seq (.seq (.reg [⟨(some 11), .mov (.t 0), none, false⟩, ⟨(some 12), .len false (.t 11), none, false⟩, ⟨(some 13), .bin .gtr .other (.t 12) (.c (.int .i64 2000)), none, false⟩, ⟨(some 14), .mov (.t 13), none, true⟩, ⟨(some 15), .mov (.t 1), (some (14, false)), false⟩, ⟨(some 16), .len false (.t 15), (some (14, false)), false⟩, ⟨(some 17), .bin .gtr .other (.t 16) (.c (.int .i64 300)), (some (14, false)), false⟩, ⟨(some 18), .pick (.t 14) (.c (.bool true)) (.t 17), none, false⟩])
 (.cond (.t 18) (.seq (.reg [⟨(some 6), .mov (.c (.bool true)), none, false⟩])
 .ret)
 .skip))
 (.seq (.reg [⟨(some 19), .mov (.t 0), none, false⟩, ⟨(some 20), .call 61 [(.t 19)], none, false⟩, ⟨(some 7), .mov (.t 20), none, false⟩])
 (.seq (.seq (.reg [⟨(some 21), .mov (.t 7), none, false⟩, ⟨(some 22), .mov (.t 0), none, false⟩, ⟨(some 23), .call 62 [(.t 22)], none, false⟩, ⟨(some 24), .call 50 [(.t 21), (.t 23)], none, false⟩, ⟨(some 25), .un .not (.t 24), none, false⟩, ⟨(some 26), .mov (.t 25), none, true⟩, ⟨(some 27), .mov (.t 7), (some (26, false)), false⟩, ⟨(some 28), .mov (.t 0), (some (26, false)), false⟩, ⟨(some 29), .len false (.t 28), (some (26, false)), false⟩, ⟨(some 30), .call 64 [(.t 27), (.t 29)], (some (26, false)), false⟩, ⟨(some 31), .mov (.t 0), (some (26, false)), false⟩, ⟨(some 32), .call 63 [(.t 30), (.t 31)], (some (26, false)), false⟩, ⟨(some 33), .un .not (.t 32), (some (26, false)), false⟩, ⟨(some 34), .pick (.t 26) (.c (.bool true)) (.t 33), none, false⟩])
 (.cond (.t 34) (.seq (.reg [⟨(some 6), .mov (.c (.bool false)), none, false⟩])
 .ret)
 .skip))
 (.seq (.seq (.reg [⟨(some 8), .mov (.c (.int .i64 0)), none, false⟩])
 (.block 0 (.loop (.seq (.seq (.reg [⟨(some 35), .mov (.t 8), none, false⟩, ⟨(some 36), .bin .lss .other (.t 35) (.c (.int .i64 256)), none, false⟩])
 (.cond (.t 36) .skip
 (.exit 0)))
 (.seq (.block 1 (.seq (.reg [⟨(some 39), .mov (.t 8), none, false⟩, ⟨(some 40), .conv (.int .u8) (.t 39), none, false⟩, ⟨(some 41), .call 65 [(.t 40)], none, false⟩, ⟨(some 42), .mov (.t 8), none, false⟩, ⟨(some 43), .conv (.int .u8) (.t 42), none, false⟩, ⟨(some 44), .call 66 [(.t 43)], none, false⟩, ⟨(some 45), .bin .neq .bool (.t 41) (.t 44), none, false⟩])
 (.cond (.t 45) (.seq (.reg [⟨(some 6), .mov (.c (.bool false)), none, false⟩])
 .ret)
 .skip)))
 (.reg [⟨(some 37), .mov (.t 8), none, false⟩, ⟨(some 38), .bin .add .other (.t 37) (.c (.int .i64 1)), none, false⟩, ⟨(some 8), .mov (.t 38), none, false⟩]))))))
 (.seq (.reg [⟨(some 46), .mov (.t 1), none, false⟩, ⟨(some 47), .mov (.t 2), none, false⟩, ⟨(some 48), .call 64 [(.t 46), (.t 47)], none, false⟩, ⟨(some 49), .mov (.t 1), none, false⟩, ⟨(some 50), .mov (.t 2), none, false⟩, ⟨(some 51), .call 67 [(.t 49), (.t 50)], none, false⟩, ⟨(some 52), .call 63 [(.t 48), (.t 51)], none, false⟩, ⟨(some 6), .mov (.t 52), none, false⟩])
 .ret)))))))
def r10 : List ARes := [.t 6]
theorem c10 : compF Try.prog Try.f10 = some (a10, r10) := by kernel_rfl

theorem b10 : hasBody Try.prog 10 = true := by kernel_rfl
theorem g10 : Try.prog.funcs[10]? = some Try.f10 := by kernel_rfl
/- rung/runglaw3.PduOnce -/
def a11 : ACode := (.seq (.reg [⟨(some 2), .box (.t 0), none, false⟩, ⟨(some 3), .box (.t 1), none, false⟩, ⟨(some 4), .mov (.c (.bool false)), none, false⟩])
 (.seq (.seq (.reg [⟨(some 9), .call 46 [], none, false⟩, ⟨(some 10), .un .not (.t 9), none, false⟩])
 (.cond (.t 10) (.seq (.reg [⟨(some 4), .mov (.c (.bool false)), none, false⟩])
 .ret)
 .skip))
 (.seq (.seq (.reg [⟨(some 11), .load true 6 (.t 2), none, false⟩, ⟨(some 12), .call 47 [(.t 11)], none, false⟩, ⟨(some 13), .un .not (.t 12), none, false⟩, ⟨(some 14), .mov (.t 13), none, true⟩, ⟨(some 15), .load true 6 (.t 3), (some (14, false)), false⟩, ⟨(some 16), .call 47 [(.t 15)], (some (14, false)), false⟩, ⟨(some 17), .un .not (.t 16), (some (14, false)), false⟩, ⟨(some 18), .pick (.t 14) (.c (.bool true)) (.t 17), none, false⟩])
 (.cond (.t 18) (.seq (.reg [⟨(some 4), .mov (.c (.bool true)), none, false⟩])
 .ret)
 .skip))
 (.seq (.reg [⟨(some 20), .load true 6 (.t 2), none, false⟩, ⟨(some 21), .call 48 [(.t 20)], none, false⟩, ⟨(some 19), .mov (.t 21), none, false⟩, ⟨(some 22), .ext (.t 19) 0, none, false⟩, ⟨(some 23), .ext (.t 19) 1, none, false⟩, ⟨(some 5), .mov (.t 22), none, false⟩, ⟨(some 6), .mov (.t 23), none, false⟩])
 (.seq (.reg [⟨(some 25), .load true 6 (.t 3), none, false⟩, ⟨(some 26), .call 48 [(.t 25)], none, false⟩, ⟨(some 24), .mov (.t 26), none, false⟩, ⟨(some 27), .ext (.t 24) 0, none, false⟩, ⟨(some 28), .ext (.t 24) 1, none, false⟩, ⟨(some 7), .mov (.t 27), none, false⟩, ⟨(some 8), .mov (.t 28), none, false⟩])
 (.seq (.draw [⟨0, ⟨(some 29), .mov (.t 6), none, false⟩, false, [], []⟩, ⟨1, ⟨(some 30), .mov (.t 8), none, false⟩, false, [], []⟩, ⟨2, ⟨(some 31), .bin .add .other (.t 29) (.t 30), none, false⟩, false, [], []⟩, ⟨3, ⟨(some 32), .bin .neq .other (.t 31) (.c (.int .i64 0)), none, false⟩, false, [], []⟩, ⟨4, ⟨(some 33), .mov (.t 32), none, true⟩, false, [], []⟩, ⟨5, ⟨(some 34), .mov (.t 5), (some (33, false)), false⟩, false, [], []⟩, ⟨6, ⟨(some 35), .mov (.t 7), (some (33, false)), false⟩, false, [], []⟩, ⟨8, ⟨(some 37), .load true 6 (.t 2), (some (33, false)), false⟩, false, [], []⟩, ⟨9, ⟨(some 38), .load true 6 (.t 3), (some (33, false)), false⟩, false, [], []⟩, ⟨7, ⟨(some 36), .call 50 [(.t 34), (.t 35)], (some (33, false)), false⟩, true, [], [(.t 2), (.t 3)]⟩, ⟨10, ⟨(some 39), .call 52 [(.t 37), (.t 38)], (some (33, false)), false⟩, true, [], []⟩, ⟨11, ⟨(some 40), .bin .eql .bool (.t 36) (.t 39), (some (33, false)), false⟩, false, [], []⟩, ⟨12, ⟨(some 41), .pick (.t 33) (.c (.bool true)) (.t 40), none, false⟩, false, [], []⟩, ⟨13, ⟨(some 4), .mov (.t 41), none, false⟩, false, [], []⟩])
 .ret))))))
def r11 : List ARes := [.t 4]
theorem c11 : compF Try.prog Try.f11 = some (a11, r11) := by kernel_rfl

theorem b11 : hasBody Try.prog 11 = true := by kernel_rfl
theorem g11 : Try.prog.funcs[11]? = some Try.f11 := by kernel_rfl

theorem u8_inj (x y : Int) (h0 : 0 ≤ x ∧ x < 256) (h1 : 0 ≤ y ∧ y < 256) (h : UInt8.ofNat x.toNat = UInt8.ofNat y.toNat) : x = y := by
  have := congrArg UInt8.toNat h
  simp only [UInt8.toNat_ofNat'] at this
  omega
theorem map_inj : ∀ (l m : List Int), isB l → isB m → l.map (fun n => UInt8.ofNat n.toNat) = m.map (fun n => UInt8.ofNat n.toNat) → l = m
  | [], [], _, _, _ => rfl
  | [], y :: m, _, _, h => by simp at h
  | x :: l, [], _, _, h => by simp at h
  | x :: l, y :: m, hl, hm, h => by
    simp only [List.map_cons, List.cons.injEq] at h
    rw [u8_inj x y (hl x (by simp)) (hm y (by simp)) h.1, map_inj l m (fun z hz => hl z (by simp [hz])) (fun z hz => hm z (by simp [hz])) h.2]
theorem bytes_byte (l m : List Int) (hl : isB l) (hm : isB m) : Ev Try.prog 50 [.roI .u8 l, .roI .u8 m] (.bool (l == m)) := by
  have h := bytes_ev l m
  have e : ((bytesStr l).toList == (bytesStr m).toList) = (l == m) := by
    rw [ByteArray.toList_eq, ByteArray.toList_eq, Bool.eq_iff_iff]
    simp only [beq_iff_eq]
    exact ⟨fun h => map_inj l m hl hm h, fun h => by rw [h]⟩
  rwa [e] at h
theorem bits_len_ev (l : List Bool) (hl : l.length ≤ 2000) : Ev Try.prog 64 [.roI .u8 (packN l l.length), .int .i64 l.length] (.roB l) := by
  have h := bits_ev (packN l l.length) l.length (by rw [packN_length]; omega)
  have e := bitsK_len l.length hl
  rw [IntWalk.i64_in _ (by omega)] at e
  rw [e, bits_pack l l.length (Nat.le_refl _), List.take_length] at h
  exact h
theorem rbits_ev (l : List Int) (n : Int) (hl : l.length ≤ 100000) : Ev Try.prog 67 [.roI .u8 l, .int .i64 n] (.roB (bitsA l (bitsK n))) := by
  refine Ev.rowB rfl ?_
  rw [bitsA_length]
  exact rbits_tr l n hl
theorem hbits_same (l : List Bool) (hl : l.length ≤ 100000) : Ev Try.prog 63 [.roB l, .roB l] (.bool true) := by
  have h : Ev Try.prog 63 [.roB l, .roB l] (.bool (l == l)) := ⟨rfl, hbits_tr l l hl⟩
  rwa [beq_self_eq_true] at h
theorem leBool {b c : Bool} (h : b = c) : Le (.bool b) (.bool c) := h ▸ Le.refl _
set_option maxHeartbeats 1000000 in
theorem rknown_ev (x : Int) : Ev Try.prog 66 [.int .u8 x] (.bool (knownB x)) := by
  refine FrzK.ev rfl (trF g66 b66 c66 ?_)
  conv => whnf
  repeat' (first
    | (refine condY (by assumption) ?_; conv => whnf)
    | (refine condN (by assumption) ?_; conv => whnf)
    | (refine condF (fun h => ?_) (fun h => ?_) <;> conv => whnf))
  all_goals (refine FrzK.le ?_)
  all_goals (refine leBool ?_)
  all_goals (rw [Bool.eq_iff_iff]; simp only [knownB, Bool.or_eq_true, beq_iff_eq, Bool.true_eq, Bool.false_eq_true, false_iff, true_iff, decide_eq_true_eq, decide_eq_false_iff_not, beq_eq_false_iff_ne, ne_eq] at *; omega)
set_option maxRecDepth 20000 in
theorem law10 (l : List Bool) (b : List Int) (n : Int) : Ev Try.prog 10 [.roB l, .roI .u8 b, .int .i64 n] (.bool true) := by
  refine FrzK.ev rfl (trF g10 b10 c10 ?_)
  conv => whnf
  refine Ev.call known3 ?_
  conv => whnf
  refine condF (fun h => ?_) (fun h => ?_)
  · conv => whnf
    refine condF (fun h' => ?_) (fun h' => ?_)
    · conv => whnf
      have hl : l.length ≤ 2000 := by simp at h; omega
      have hb : b.length ≤ 300 := by simp at h'; omega
      refine Ev.call (pack_ev l (by omega)) ?_
      conv => whnf
      refine Ev.call (rpack_ev l (by omega)) ?_
      conv => whnf
      refine Ev.call (bytes_same _) ?_
      conv => whnf
      refine Ev.call (bits_len_ev l hl) ?_
      conv => whnf
      refine Ev.call (hbits_same l (by omega)) ?_
      conv => whnf
      refine loopI (α := {i : Nat // i ≤ 256}) (fun i => [(1, .roI .u8 b), (2, .int .i64 n), (8, .int .i64 i.1)]) (fun i => ⟨0, []⟩) (fun i => 256 - i.1) ⟨0, Nat.zero_le _⟩
        ⟨[], rfl, rfl, rfl, ⟨⟨rfl, rfl⟩, ⟨rfl, rfl⟩, ⟨rfl, rfl⟩, trivial⟩, trivial⟩ fun ⟨i, hi⟩ => ?_
      conv => whnf
      by_cases hlt : i < 256
      · refine condY (by simp; omega) ?_
        conv => whnf
        refine Ev.call (known_ev _) ?_
        conv => whnf
        refine Ev.call (rknown_ev _) ?_
        conv => whnf
        refine condN (by simp) ?_
        conv => whnf
        refine ⟨⟨i + 1, hlt⟩, ⟨[], rfl, rfl, rfl, ⟨⟨rfl, rfl⟩, ⟨rfl, rfl⟩, ⟨?_, rfl⟩, trivial⟩, trivial⟩, by show 256 - (i + 1) < 256 - i; omega⟩
        show AV.int .i64 (IntKind.i64.wrap ((i : Int) + 1)) = AV.int .i64 ((i + 1 : Nat) : Int)
        rw [IntWalk.i64_in _ (by omega)]; rfl
      · refine condN (by simp; omega) ?_
        conv => whnf
        refine Ev.call (bits_ev b n (by omega)) ?_
        conv => whnf
        refine Ev.call (rbits_ev b n (by omega)) ?_
        conv => whnf
        refine Ev.call (hbits_same _ (by rw [bitsA_length]; have := bitsK_le n; omega)) ?_
        conv => whnf
        exact FrzK.le (Le.refl _)
    · conv => whnf
      exact FrzK.le (Le.refl _)
  · conv => whnf
    exact FrzK.le (Le.refl _)
theorem enc_inj (f a n a2 f' a' n' a2' : Int) (b b' : List Bool) (r r' : List Int) (hf : 0 ≤ f ∧ f < 256) (ha : 0 ≤ a ∧ a < 65536) (hn : 0 ≤ n ∧ n < 65536) (ha2 : 0 ≤ a2 ∧ a2 < 65536) (hrr : ∀ x ∈ r, 0 ≤ x ∧ x < 65536)
    (hf' : 0 ≤ f' ∧ f' < 256) (ha' : 0 ≤ a' ∧ a' < 65536) (hn' : 0 ≤ n' ∧ n' < 65536) (ha2' : 0 ≤ a2' ∧ a2' < 65536) (hrr' : ∀ x ∈ r', 0 ≤ x ∧ x < 65536) (hk : encOk f n a2 b r = true) (hk' : encOk f' n' a2' b' r' = true) :
    (encR f a n a2 b r == encR f' a' n' a2' b' r') = (f == f' && a == a' && n == n' && a2 == a2' && b == b' && r == r') := by
  rw [Bool.eq_iff_iff]
  simp only [beq_iff_eq, Bool.and_eq_true]
  constructor
  · intro h
    have h1 := dec_enc f a n a2 b r hf ha hn ha2 hrr hk
    have h2 := dec_enc f' a' n' a2' b' r' hf' ha' hn' ha2' hrr' hk'
    rw [h, h2] at h1
    simp only [Prod.mk.injEq, Rq.mk.injEq] at h1
    obtain ⟨⟨h1, h2, h3, h4, h5, h6⟩, _⟩ := h1
    exact ⟨⟨⟨⟨⟨h1.symm, h2.symm⟩, h3.symm⟩, h4.symm⟩, h5.symm⟩, h6.symm⟩
  · rintro ⟨⟨⟨⟨⟨rfl, rfl⟩, rfl⟩, rfl⟩, rfl⟩, rfl⟩
    rfl
set_option maxRecDepth 20000 in
theorem law11 (f a n a2 f' a' n' a2' : Int) (b b' : List Bool) (r r' : List Int) (hf : 0 ≤ f ∧ f < 256) (ha : 0 ≤ a ∧ a < 65536) (hn : 0 ≤ n ∧ n < 65536) (ha2 : 0 ≤ a2 ∧ a2 < 65536) (hrr : ∀ x ∈ r, 0 ≤ x ∧ x < 65536)
    (hf' : 0 ≤ f' ∧ f' < 256) (ha' : 0 ≤ a' ∧ a' < 65536) (hn' : 0 ≤ n' ∧ n' < 65536) (ha2' : 0 ≤ a2' ∧ a2' < 65536) (hrr' : ∀ x ∈ r', 0 ≤ x ∧ x < 65536) :
    Ev Try.prog 11 [reqA f a n a2 (.roB b) (.roI .u16 r), reqA f' a' n' a2' (.roB b') (.roI .u16 r')] (.bool true) := by
  refine FrzK.ev rfl (trF g11 b11 c11 ?_)
  conv => whnf
  refine Ev.call known3 ?_
  conv => whnf
  refine Ev.call (light_ev _ _ _ _ _ _) ?_
  conv => whnf
  refine condS (fun h => ?_) (fun h => ?_)
  · conv => whnf
    exact FrzK.le (Le.refl _)
  conv => whnf
  refine Ev.call (light_ev _ _ _ _ _ _) ?_
  conv => whnf
  refine condS (fun h' => ?_) (fun h' => ?_)
  · conv => whnf
    exact FrzK.le (Le.refl _)
  conv => whnf
  have hb : b.length ≤ 2500 ∧ r.length ≤ 200 := by
    simp only [Bool.not_eq_false', Bool.and_eq_true, decide_eq_true_eq] at h
    omega
  have hb' : b'.length ≤ 2500 ∧ r'.length ≤ 200 := by
    simp only [Bool.not_eq_false', Bool.and_eq_true, decide_eq_true_eq] at h'
    omega
  refine Ev.call (Request_ev f a n a2 b r hn.1 hn.2 hb.1 (by omega)) ?_
  conv => whnf
  refine Ev.call (Request_ev f' a' n' a2' b' r' hn'.1 hn'.2 hb'.1 (by omega)) ?_
  conv => whnf
  cases hk : encOk f n a2 b r with
  | false =>
    refine condY ?_ ?_
    · cases hk' : encOk f' n' a2' b' r' <;> simp only [encE, hk, hk', if_true, if_false, Bool.false_eq_true] <;> decide
    conv => whnf
    exact FrzK.le (Le.refl _)
  | true =>
    cases hk' : encOk f' n' a2' b' r' with
    | false =>
      refine condY ?_ ?_
      · simp only [encE, hk, hk', if_true, if_false, Bool.false_eq_true]; decide
      conv => whnf
      exact FrzK.le (Le.refl _)
    | true =>
      refine condN ?_ ?_
      · simp only [encE, hk, hk', if_true]; decide
      conv => whnf
      refine Ev.call (bytes_byte _ _ (enc_byte _ _ _ _ _ _ hf.1 hf.2) (enc_byte _ _ _ _ _ _ hf'.1 hf'.2)) ?_
      conv => whnf
      repeat' (first
        | (refine ⟨rfl, ?_⟩; conv => whnf)
        | (refine Ev.call (hreq_ev _ _ _ _ _ _ _ _ _ _ _ _ (by omega) (by omega)) ?_; conv => whnf))
      refine FrzK.le (leBool ?_)
      rw [enc_inj f a n a2 f' a' n' a2' b b' r r' hf ha hn ha2 hrr hf' ha' hn' ha2' hrr' hk hk', beq_self_eq_true]
end Go.Proofs.Ytomodeliimnddaa
