/- Statements of layer 3: what is cut short, or has more behind, is refused. -/
import Derived.Test.YtomodeliimnddaaAbPlain3
set_option linter.unusedVariables false
set_option linter.unusedSimpArgs false
namespace Go.Proofs.Ytomodeliimnddaa
open Go.Ab
/- rung/runghelp.Place -/
def a68 : ACode := (.seq (.reg [⟨(some 4), .mov (.c (.int .i64 0)), none, false⟩])
 (.seq (.reg [⟨(some 5), .mov (.t 0), none, false⟩, ⟨(some 6), .mov (.t 1), none, false⟩, ⟨(some 7), .bin .rem .other (.t 5) (.t 6), none, false⟩, ⟨(some 0), .mov (.t 7), none, false⟩])
 (.seq (.seq (.reg [⟨(some 8), .mov (.t 0), none, false⟩, ⟨(some 9), .bin .lss .other (.t 8) (.c (.int .i64 0)), none, false⟩])
 (.cond (.t 9) (.reg [⟨(some 10), .mov (.t 0), none, false⟩, ⟨(some 11), .mov (.t 1), none, false⟩, ⟨(some 12), .bin .add .other (.t 10) (.t 11), none, false⟩, ⟨(some 0), .mov (.t 12), none, false⟩])
 .skip))
 (.seq (.reg [⟨(some 13), .mov (.t 0), none, false⟩, ⟨(some 4), .mov (.t 13), none, false⟩])
 .ret))))
def r68 : List ARes := [.t 4]
theorem c68 : compF Try.prog Try.f68 = some (a68, r68) := by kernel_rfl

theorem b68 : hasBody Try.prog 68 = true := by kernel_rfl
theorem g68 : Try.prog.funcs[68]? = some Try.f68 := by kernel_rfl
/- rung/runglaw3.PduShort -/
def a12 : ACode := (.seq (.reg [⟨(some 3), .box (.t 0), none, false⟩, ⟨(some 6), .mov (.c (.bool false)), none, false⟩])
 (.seq (.seq (.reg [⟨(some 20), .call 46 [], none, false⟩, ⟨(some 21), .un .not (.t 20), none, false⟩])
 (.cond (.t 21) (.seq (.reg [⟨(some 6), .mov (.c (.bool false)), none, false⟩])
 .ret)
 .skip))
 (.seq (.seq (.reg [⟨(some 22), .load true 6 (.t 3), none, false⟩, ⟨(some 23), .call 47 [(.t 22)], none, false⟩, ⟨(some 24), .un .not (.t 23), none, false⟩, ⟨(some 25), .mov (.t 24), none, true⟩, ⟨(some 26), .mov (.t 2), (some (25, false)), false⟩, ⟨(some 27), .len false (.t 26), (some (25, false)), false⟩, ⟨(some 28), .bin .gtr .other (.t 27) (.c (.int .i64 50)), (some (25, false)), false⟩, ⟨(some 29), .pick (.t 25) (.c (.bool true)) (.t 28), none, false⟩])
 (.cond (.t 29) (.seq (.reg [⟨(some 6), .mov (.c (.bool true)), none, false⟩])
 .ret)
 .skip))
 (.seq (.reg [⟨(some 31), .load true 6 (.t 3), none, false⟩, ⟨(some 32), .call 48 [(.t 31)], none, false⟩, ⟨(some 30), .mov (.t 32), none, false⟩, ⟨(some 33), .ext (.t 30) 0, none, false⟩, ⟨(some 34), .ext (.t 30) 1, none, false⟩, ⟨(some 7), .mov (.t 33), none, false⟩, ⟨(some 8), .mov (.t 34), none, false⟩])
 (.seq (.seq (.reg [⟨(some 35), .mov (.t 8), none, false⟩, ⟨(some 36), .bin .neq .other (.t 35) (.c (.int .i64 0)), none, false⟩, ⟨(some 37), .mov (.t 36), none, true⟩, ⟨(some 38), .mov (.t 7), (some (37, false)), false⟩, ⟨(some 39), .len false (.t 38), (some (37, false)), false⟩, ⟨(some 40), .bin .eql .other (.t 39) (.c (.int .i64 0)), (some (37, false)), false⟩, ⟨(some 41), .pick (.t 37) (.c (.bool true)) (.t 40), none, false⟩])
 (.cond (.t 41) (.seq (.reg [⟨(some 6), .mov (.c (.bool true)), none, false⟩])
 .ret)
 .skip))
 (.seq (.reg [⟨(some 43), .mov (.t 7), none, false⟩, ⟨(some 44), .mov (.t 1), none, false⟩, ⟨(some 45), .mov (.t 7), none, false⟩, ⟨(some 46), .len false (.t 45), none, false⟩, ⟨(some 47), .call 68 [(.t 44), (.t 46)], none, false⟩, ⟨(some 48), .slice (.sl 1) (.t 43) none (some (.t 47)), none, false⟩, ⟨(some 49), .call 51 [(.t 48)], none, false⟩, ⟨(some 42), .mov (.t 49), none, false⟩, ⟨(some 50), .ext (.t 42) 0, none, false⟩, ⟨(some 51), .ext (.t 42) 1, none, false⟩, ⟨(some 9), .alloc [(1, (.int .u8 0)), (3, (.int .u16 0)), (2, .nils)], none, false⟩, ⟨none, .store 6 (.t 9) (.t 50), none, false⟩, ⟨(some 10), .mov (.t 51), none, false⟩])
 (.seq (.reg [⟨(some 53), .mov (.t 7), none, false⟩, ⟨(some 54), .call 53 [(.t 53)], none, false⟩, ⟨(some 55), .mov (.t 2), none, false⟩, ⟨(some 56), .app 1 1 (.t 54) (.t 55), none, false⟩, ⟨(some 57), .call 51 [(.t 56)], none, false⟩, ⟨(some 52), .mov (.t 57), none, false⟩, ⟨(some 58), .ext (.t 52) 0, none, false⟩, ⟨(some 59), .ext (.t 52) 1, none, false⟩, ⟨(some 11), .alloc [(1, (.int .u8 0)), (3, (.int .u16 0)), (2, .nils)], none, false⟩, ⟨none, .store 6 (.t 11) (.t 58), none, false⟩, ⟨(some 12), .mov (.t 59), none, false⟩])
 (.seq (.seq (.reg [⟨(some 60), .mov (.t 10), none, false⟩, ⟨(some 61), .bin .neq .other (.t 60) (.c (.int .i64 30)), none, false⟩, ⟨(some 62), .mov (.t 61), none, true⟩, ⟨(some 63), .mov (.t 12), (some (62, false)), false⟩, ⟨(some 64), .bin .eql .other (.t 63) (.c (.int .i64 30)), (some (62, false)), false⟩, ⟨(some 65), .mov (.t 2), (some (62, false)), false⟩, ⟨(some 66), .len false (.t 65), (some (62, false)), false⟩, ⟨(some 67), .bin .gtr .other (.t 66) (.c (.int .i64 0)), (some (62, false)), false⟩, ⟨(some 68), .bin .neq .bool (.t 64) (.t 67), (some (62, false)), false⟩, ⟨(some 69), .pick (.t 62) (.c (.bool true)) (.t 68), none, false⟩])
 (.cond (.t 69) (.seq (.reg [⟨(some 6), .mov (.c (.bool false)), none, false⟩])
 .ret)
 .skip))
 (.seq (.reg [⟨(some 70), .fld 0 1 false (.t 3), none, false⟩, ⟨(some 71), .load false 1 (.t 70), none, false⟩, ⟨(some 72), .build [(.int .u8 0), (.int .u8 0), (.int .u16 0), (.int .u16 0), .nils, .nils] [(0, 1, (.t 71)), (1, 1, (.c (.int .u8 4)))], none, false⟩, ⟨(some 13), .alloc [(2, (.int .u8 0)), (2, (.int .u16 0)), (2, .nils)], none, false⟩, ⟨none, .store 6 (.t 13) (.t 72), none, false⟩])
 (.seq (.seq (.reg [⟨(some 73), .fld 0 1 false (.t 3), none, false⟩, ⟨(some 74), .load false 1 (.t 73), none, false⟩, ⟨(some 75), .bin .leq .other (.t 74) (.c (.int .u8 2)), none, false⟩])
 (.cond (.t 75) (.draw [⟨0, ⟨(some 76), .fld 0 1 false (.t 3), none, false⟩, false, [], []⟩, ⟨1, ⟨(some 77), .load false 1 (.t 76), none, false⟩, false, [], []⟩, ⟨2, ⟨(some 78), .fld 2 1 false (.t 3), none, false⟩, false, [], []⟩, ⟨3, ⟨(some 79), .load false 1 (.t 78), none, false⟩, false, [], []⟩, ⟨4, ⟨(some 80), .mkslice 1 1 .bool [(.bool false)] (.t 79), none, false⟩, false, [], []⟩, ⟨5, ⟨(some 81), .build [(.int .u8 0), (.int .u8 0), (.int .u16 0), (.int .u16 0), .nils, .nils] [(0, 1, (.t 77)), (4, 1, (.t 80))], none, false⟩, false, [], []⟩, ⟨6, ⟨none, .store 6 (.t 13) (.t 81), none, false⟩, true, [4], []⟩])
 (.seq (.reg [⟨(some 82), .fld 0 1 false (.t 3), none, false⟩, ⟨(some 83), .load false 1 (.t 82), none, false⟩, ⟨(some 84), .bin .leq .other (.t 83) (.c (.int .u8 4)), none, false⟩, ⟨(some 85), .mov (.t 84), none, true⟩, ⟨(some 86), .fld 0 1 false (.t 3), (some (85, false)), false⟩, ⟨(some 87), .load false 1 (.t 86), (some (85, false)), false⟩, ⟨(some 88), .bin .eql .other (.t 87) (.c (.int .u8 23)), (some (85, false)), false⟩, ⟨(some 89), .pick (.t 85) (.c (.bool true)) (.t 88), none, false⟩])
 (.cond (.t 89) (.draw [⟨0, ⟨(some 90), .fld 0 1 false (.t 3), none, false⟩, false, [], []⟩, ⟨1, ⟨(some 91), .load false 1 (.t 90), none, false⟩, false, [], []⟩, ⟨2, ⟨(some 92), .fld 2 1 false (.t 3), none, false⟩, false, [], []⟩, ⟨3, ⟨(some 93), .load false 1 (.t 92), none, false⟩, false, [], []⟩, ⟨4, ⟨(some 94), .mkslice 1 2 (.int .u16) [(.int .u16 0)] (.t 93), none, false⟩, false, [], []⟩, ⟨5, ⟨(some 95), .build [(.int .u8 0), (.int .u8 0), (.int .u16 0), (.int .u16 0), .nils, .nils] [(0, 1, (.t 91)), (5, 1, (.t 94))], none, false⟩, false, [], []⟩, ⟨6, ⟨none, .store 6 (.t 13) (.t 95), none, false⟩, true, [4], []⟩])
 .skip))))
 (.seq (.reg [⟨(some 97), .load true 6 (.t 13), none, false⟩, ⟨(some 98), .call 57 [(.t 97)], none, false⟩, ⟨(some 96), .mov (.t 98), none, false⟩, ⟨(some 99), .ext (.t 96) 0, none, false⟩, ⟨(some 100), .ext (.t 96) 1, none, false⟩, ⟨(some 14), .mov (.t 99), none, false⟩, ⟨(some 15), .mov (.t 100), none, false⟩])
 (.seq (.draw [⟨0, ⟨(some 102), .load true 6 (.t 3), none, false⟩, false, [], []⟩, ⟨1, ⟨(some 103), .mov (.t 14), none, false⟩, false, [], []⟩, ⟨2, ⟨(some 104), .mov (.t 1), none, false⟩, false, [], []⟩, ⟨3, ⟨(some 105), .mov (.t 14), none, false⟩, false, [], []⟩, ⟨4, ⟨(some 106), .len false (.t 105), none, false⟩, false, [], []⟩, ⟨11, ⟨(some 16), .alloc [(2, (.int .u8 0)), (2, (.int .u16 0)), (2, .nils)], none, false⟩, false, [], []⟩, ⟨5, ⟨(some 107), .call 68 [(.t 104), (.t 106)], none, false⟩, true, [], [(.t 3)]⟩, ⟨6, ⟨(some 108), .slice (.sl 1) (.t 103) none (some (.t 107)), none, false⟩, false, [], []⟩, ⟨7, ⟨(some 109), .call 58 [(.t 102), (.t 108)], none, false⟩, true, [], []⟩, ⟨8, ⟨(some 101), .mov (.t 109), none, false⟩, false, [], []⟩, ⟨9, ⟨(some 110), .ext (.t 101) 0, none, false⟩, false, [], []⟩, ⟨10, ⟨(some 111), .ext (.t 101) 1, none, false⟩, false, [], []⟩, ⟨12, ⟨none, .store 6 (.t 16) (.t 110), none, false⟩, true, [11], []⟩, ⟨13, ⟨(some 17), .mov (.t 111), none, false⟩, false, [], []⟩])
 (.seq (.draw [⟨0, ⟨(some 113), .load true 6 (.t 3), none, false⟩, false, [], []⟩, ⟨1, ⟨(some 114), .mov (.t 14), none, false⟩, false, [], []⟩, ⟨3, ⟨(some 116), .mov (.t 2), none, false⟩, false, [], []⟩, ⟨9, ⟨(some 18), .alloc [(2, (.int .u8 0)), (2, (.int .u16 0)), (2, .nils)], none, false⟩, false, [], []⟩, ⟨2, ⟨(some 115), .call 53 [(.t 114)], none, false⟩, true, [], [(.t 3)]⟩, ⟨4, ⟨(some 117), .app 1 1 (.t 115) (.t 116), none, false⟩, true, [], [(.t 3)]⟩, ⟨5, ⟨(some 118), .call 58 [(.t 113), (.t 117)], none, false⟩, true, [], []⟩, ⟨6, ⟨(some 112), .mov (.t 118), none, false⟩, false, [], []⟩, ⟨7, ⟨(some 119), .ext (.t 112) 0, none, false⟩, false, [], []⟩, ⟨8, ⟨(some 120), .ext (.t 112) 1, none, false⟩, false, [], []⟩, ⟨10, ⟨none, .store 6 (.t 18) (.t 119), none, false⟩, true, [9], []⟩, ⟨11, ⟨(some 19), .mov (.t 120), none, false⟩, false, [], []⟩])
 (.seq (.reg [⟨(some 121), .mov (.t 17), none, false⟩, ⟨(some 122), .bin .eql .other (.t 121) (.c (.int .i64 30)), none, false⟩, ⟨(some 123), .mov (.t 122), none, true⟩, ⟨(some 124), .mov (.t 19), (some (123, true)), false⟩, ⟨(some 125), .bin .eql .other (.t 124) (.c (.int .i64 30)), (some (123, true)), false⟩, ⟨(some 126), .mov (.t 2), (some (123, true)), false⟩, ⟨(some 127), .len false (.t 126), (some (123, true)), false⟩, ⟨(some 128), .bin .gtr .other (.t 127) (.c (.int .i64 0)), (some (123, true)), false⟩, ⟨(some 129), .bin .eql .bool (.t 125) (.t 128), (some (123, true)), false⟩, ⟨(some 130), .pick (.t 123) (.t 129) (.c (.bool false)), none, false⟩, ⟨(some 6), .mov (.t 130), none, false⟩])
 .ret))))))))))))))
def r12 : List ARes := [.t 6]
theorem c12 : compF Try.prog Try.f12 = some (a12, r12) := by kernel_rfl

theorem b12 : hasBody Try.prog 12 = true := by kernel_rfl
theorem g12 : Try.prog.funcs[12]? = some Try.f12 := by kernel_rfl

theorem nB_eq (n : Int) (h0 : 0 ≤ n) (h1 : n < 65536) : nB n = (n + 7) / 8 := by
  unfold nB
  rw [IntWalk.i64_in n (by omega), IntWalk.i64_in (n + 7) (by omega), Int.tdiv_eq_ediv_of_nonneg (by omega), IntWalk.i64_in _ (by omega)]
theorem or128_ne (f : Int) (h : f = 1 ∨ f = 2 ∨ f = 3 ∨ f = 4 ∨ f = 23) : (f == or128 f) = false := by
  rcases h with rfl | rfl | rfl | rfl | rfl <;> decide
theorem orep_len (q : Rq) (l : List Int) (h : l.length < 2) : (orepS q l).2 = 30 := by
  unfold orepS
  split
  · rfl
  · rw [if_pos (by simp; omega)]
theorem orep12 (f a n a2 : Int) (b : List Bool) (r l : List Int) (hf : f = 1 ∨ f = 2) (hE : encE f n a2 b r = 0) (hn : 1 ≤ n ∧ n ≤ 2000) (h0 : 2 ≤ l.length → l.getD 0 0 = f ∧ l.getD 1 0 = (n + 7) / 8) :
    (orepS ⟨f, a, n, a2, b, r⟩ l).2 = if (l.length : Int) = 2 + (n + 7) / 8 then 0 else 30 := by
  by_cases hl : l.length < 2
  · rw [orep_len _ _ hl, if_neg (by omega)]
  obtain ⟨g0, g1⟩ := h0 (by omega)
  have e1 := nB_eq n (by omega) (by omega)
  unfold orepS
  simp only [hE, g0]
  rw [if_neg (by decide), if_neg (by simp; omega), or128_ne f (by omega), if_neg (by simp)]
  have hT : orepT ⟨f, a, n, a2, b, r⟩ l = if l.getD 0 0 != f || IntKind.i64.wrap (l.getD 1 0) != nB n || (l.length : Int) != IntKind.i64.wrap (nB n + 2) then (Rp.zero, 30) else (⟨f, 0, 0, 0, bitsA (cutF l 2) (bitsK (IntKind.i64.wrap n)), []⟩, 0) := by
    unfold orepT
    rcases hf with rfl | rfl <;> simp
  rw [hT, g0, g1, e1, IntWalk.i64_in ((n + 7) / 8) (by omega), IntWalk.i64_in ((n + 7) / 8 + 2) (by omega)]
  by_cases hc : (l.length : Int) = 2 + (n + 7) / 8
  · rw [if_pos hc, if_neg (by simp; omega)]
  · rw [if_neg hc, if_pos (by simp; omega)]
theorem orep3_no (f a n a2 : Int) (b : List Bool) (r l : List Int) (hf : f = 3 ∨ f = 4 ∨ f = 23) (hE : encE f n a2 b r = 0) (hn : 1 ≤ n ∧ n ≤ 125) (h0 : 2 ≤ l.length → l.getD 0 0 = f) (hl : (l.length : Int) ≠ 2 + 2 * n) (hl2 : l.length ≤ 1000) :
    (orepS ⟨f, a, n, a2, b, r⟩ l).2 = 30 := by
  by_cases hl : l.length < 2
  · exact orep_len _ _ hl
  have g0 := h0 (by omega)
  unfold orepS
  simp only [hE, g0]
  rw [if_neg (by decide), if_neg (by simp; omega), or128_ne f (by omega), if_neg (by simp)]
  have hT : orepT ⟨f, a, n, a2, b, r⟩ l = if ((numsN (cutF l 2) ((cutF l 2).length / 2)).length : Int) != IntKind.i64.wrap n then (Rp.zero, 30) else finS l ⟨f, 0, 0, 0, [], numsN (cutF l 2) ((cutF l 2).length / 2)⟩ := by
    unfold orepT
    rcases hf with rfl | rfl | rfl <;> simp
  rw [hT, numsN_length, cutF_eq, IntWalk.i64_in n (by omega)]
  have hd : (l.drop 2).length = l.length - 2 := by simp
  rw [hd]
  by_cases hc : (((l.length - 2) / 2 : Nat) : Int) = n
  · rw [if_neg (by simp; omega)]
    have hrl : (repB f 0 0 0 [] (numsN (l.drop 2) ((l.length - 2) / 2))).length ≠ l.length := by
      unfold repB
      split
      · have : (repS f 0 0 0 [] (numsN (l.drop 2) ((l.length - 2) / 2))).row = [f] ++ [IntKind.u8.wrap (IntKind.i64.wrap (2 * (numsN (l.drop 2) ((l.length - 2) / 2)).length))] ++ twos (numsN (l.drop 2) ((l.length - 2) / 2)) := by
          rcases hf with rfl | rfl | rfl <;> rfl
        rw [this]
        simp [twos_length, numsN_length]
        omega
      · simp; omega
    rw [finS_no2 _ _ (by
      simp only [Bool.not_eq_true', beq_eq_false_iff_ne, ne_eq]
      intro e; exact hrl (by rw [e]))]
  · rw [if_pos (by simp; omega)]
theorem orep3_yes (f a n a2 : Int) (b : List Bool) (r : List Int) (hf : f = 3 ∨ f = 4 ∨ f = 23) (hE : encE f n a2 b r = 0) (hn : 1 ≤ n ∧ n ≤ 125) :
    (orepS ⟨f, a, n, a2, b, r⟩ (repB f 0 0 0 [] (List.replicate n.toNat 0))).2 = 0 ∧ ((repB f 0 0 0 [] (List.replicate n.toNat 0)).length : Int) = 2 + 2 * n ∧ (repB f 0 0 0 [] (List.replicate n.toNat 0)).getD 0 0 = f := by
  have hlr : (List.replicate n.toNat (0 : Int)).length = n.toNat := by simp
  have hok : repOk f 0 0 0 [] (List.replicate n.toNat 0) = true := by
    rcases hf with rfl | rfl | rfl <;> (simp [repOk, withinB]; omega)
  have hrow : repB f 0 0 0 [] (List.replicate n.toNat 0) = [f] ++ [IntKind.u8.wrap (IntKind.i64.wrap (2 * (List.replicate n.toNat (0 : Int)).length))] ++ twos (List.replicate n.toNat 0) := by
    unfold repB
    rw [if_pos hok]
    rcases hf with rfl | rfl | rfl <;> rfl
  have hlen : (repB f 0 0 0 [] (List.replicate n.toNat 0)).length = 2 + 2 * n.toNat := by
    rw [hrow]; simp [twos_length]; omega
  have hd : (repB f 0 0 0 [] (List.replicate n.toNat 0)).drop 2 = twos (List.replicate n.toNat 0) := by rw [hrow]; rfl
  have hnums : numsN (twos (List.replicate n.toNat 0)) n.toNat = List.replicate n.toNat 0 := by
    have := nums_twos (List.replicate n.toNat 0) (fun x hx => by rw [List.eq_of_mem_replicate hx]; decide) n.toNat (by simp)
    rw [this, List.take_of_length_le (by simp)]
  refine ⟨?_, by rw [hlen]; omega, by rw [hrow]; rfl⟩
  generalize hcc : repB f 0 0 0 [] (List.replicate n.toNat 0) = l at *
  have g0 : l.getD 0 0 = f := by rw [hrow]; rfl
  unfold orepS
  simp only [hE, g0]
  rw [if_neg (by decide), if_neg (by simp; omega), or128_ne f (by omega), if_neg (by simp)]
  have hT : orepT ⟨f, a, n, a2, b, r⟩ l = if ((numsN (cutF l 2) ((cutF l 2).length / 2)).length : Int) != IntKind.i64.wrap n then (Rp.zero, 30) else finS l ⟨f, 0, 0, 0, [], numsN (cutF l 2) ((cutF l 2).length / 2)⟩ := by
    unfold orepT
    rcases hf with rfl | rfl | rfl <;> simp
  have h2 : (twos (List.replicate n.toNat (0 : Int))).length / 2 = n.toNat := by simp [twos_length]
  rw [hT, cutF_eq, hd, h2, hnums, IntWalk.i64_in n (by omega), if_neg (by simp; omega), finS_yes]
  · simp [repE, hok]
  · simp only [hcc]; simp
theorem orepX (f a n a2 : Int) (b : List Bool) (r l : List Int) (hE : encE f n a2 b r = 0) (h0 : 2 ≤ l.length → l.getD 0 0 = or128 f) :
    (l.length ≠ 2 → (orepS ⟨f, a, n, a2, b, r⟩ l).2 = 30) ∧ (l = [or128 f, 4] → (orepS ⟨f, a, n, a2, b, r⟩ l).2 = 0) := by
  constructor
  · intro hl
    by_cases h2 : l.length < 2
    · exact orep_len _ _ h2
    unfold orepS
    simp only [hE, h0 (by omega)]
    rw [if_neg (by decide), if_neg (by simp; omega), beq_self_eq_true, if_pos rfl, if_pos (by simp; omega)]
  · rintro rfl
    unfold orepS
    simp only [hE]
    rw [if_neg (by decide)]
    simp
def placeS (k n : Int) : Int := if k.tmod n < 0 then k.tmod n + n else k.tmod n
theorem place_range (k n : Int) (h : 0 < n) : 0 ≤ placeS k n ∧ placeS k n < n := by
  unfold placeS
  have h1 := Int.tmod_lt_of_pos k h
  have h2 : -n < k.tmod n := by
    have := Int.tmod_lt_of_pos (-k) h
    rw [Int.neg_tmod] at this
    omega
  split <;> omega
theorem place_ev (k n : Int) (h : 0 < n) (h1 : n ≤ 100000) : Ev Try.prog 68 [.int .i64 k, .int .i64 n] (.int .i64 (placeS k n)) := by
  have hr := place_range k n h
  refine FrzK.ev rfl (trF g68 b68 c68 ?_)
  conv => whnf
  refine condT (by simp; omega) ?_
  conv => whnf
  unfold placeS at *
  refine condS (fun g => ?_) (fun g => ?_)
  · conv => whnf
    have g' : k.tmod n < 0 := by simpa using g
    rw [if_pos g'] at hr ⊢
    rw [IntWalk.i64_in _ (by omega)]
    exact FrzK.le (Le.refl _)
  · conv => whnf
    have g' : ¬ k.tmod n < 0 := by simpa using g
    rw [if_neg g']
    exact FrzK.le (Le.refl _)
theorem copy_call {l : List Int} {s : St} {K : AV → St → Prop} (hl : l.length ≤ 100000) (k : openS s fun n m => K (.sl 1 n 0 l.length) ⟨n + 1, (n, some (.rowI .u8 l)) :: m⟩) : Tr Try.prog 53 [.roI .u8 l] s K := by
  refine Tr.call [] (copy_tr l hl) rfl rfl trivial rfl fun v0 s0 ⟨hv, hs⟩ => ?_
  subst hv; subst hs
  rw [openS_eq] at k
  exact k
theorem OpenRequest_sl {h len : Nat} {L : List Int} {s : St} {K : AV → St → Prop} (hg : s.get h = some (.rowI .u8 L)) (hl : len = L.length) (hb : L.length ≤ 1000)
    (k : openS s fun n t => K (.tup [rqA (decS L).1, .int .i64 (decS L).2]) ⟨n, (h, none) :: t⟩) : Tr Try.prog 51 [.sl 1 h 0 len] s K := by
  refine Tr.lend h hg ?_
  have : frzL h (.rowI .u8 L) [.sl 1 h 0 len] = [.roI .u8 L] := by simp only [frzL, frz_row h .u8 L len hl]
  rw [this]
  exact Ev.call (OpenRequest_ev L hb) k
theorem frz_req (h : Nat) (c : Chunk) (f a n a2 : Int) (b : List Bool) (r : List Int) : (reqA f a n a2 (.roB b) (.roI .u16 r)).frz h c = reqA f a n a2 (.roB b) (.roI .u16 r) := rfl
theorem OpenReply_sl {h len : Nat} {L : List Int} {s : St} {K : AV → St → Prop} {f a n a2 : Int} {b : List Bool} {r : List Int} (hg : s.get h = some (.rowI .u8 L)) (hl : len = L.length) (hn0 : 0 ≤ n) (hn1 : n < 65536) (hb : b.length ≤ 2500) (hr : r.length ≤ 200) (hL : L.length ≤ 1000) (hc : ((f == 5) = false ∧ (f == 6) = false ∧ (f == 22) = false) ∨ L.length < 2 ∨ (L.getD 0 0 == or128 f) = true)
    (k : openS s fun nx t => K (.tup [rpA (orepS ⟨f, a, n, a2, b, r⟩ L).1, .int .i64 (orepS ⟨f, a, n, a2, b, r⟩ L).2]) ⟨nx, (h, none) :: t⟩) : Tr Try.prog 58 [reqA f a n a2 (.roB b) (.roI .u16 r), .sl 1 h 0 len] s K := by
  refine Tr.lend h hg ?_
  have : frzL h (.rowI .u8 L) [reqA f a n a2 (.roB b) (.roI .u16 r), .sl 1 h 0 len] = [reqA f a n a2 (.roB b) (.roI .u16 r), .roI .u8 L] := by simp only [frzL, frz_row h .u8 L len hl, frz_req]
  rw [this]
  exact Ev.call (OpenReply_ev f a n a2 b r L hn0 hn1 hb hr hL hc) k
theorem rReply_slB {h len : Nat} {L : List Bool} {s : St} {K : AV → St → Prop} {f : Int} (hg : s.get h = some (.rowB L)) (hl : len = L.length) (hL : L.length ≤ 2500)
    (k : openS s fun n t => K (.tup [.roI .u8 (repB f 0 0 0 L []), .int .i64 (repE f 0 0 0 L [])]) ⟨n, (h, none) :: t⟩) : Tr Try.prog 57 [repA f 0 0 0 (.sl 1 h 0 len) .nils] s K := by
  refine Tr.lend h hg ?_
  have : frzL h (.rowB L) [repA f 0 0 0 (.sl 1 h 0 len) .nils] = [repA f 0 0 0 (.roB L) .nils] := by
    simp only [frzL, repA, AV.frz, frzS_allB L len hl, beq_self, cond_true]
  rw [this]
  exact Tr.le (leRepN (Le.refl _) (Le.nilI _)) (Ev.call (rReply_ev f 0 0 0 L [] (by decide) (by decide) hL (by decide)) k)
theorem rReply_slI {h len : Nat} {L : List Int} {s : St} {K : AV → St → Prop} {f : Int} (hg : s.get h = some (.rowI .u16 L)) (hl : len = L.length) (hL : L.length ≤ 500)
    (k : openS s fun n t => K (.tup [.roI .u8 (repB f 0 0 0 [] L), .int .i64 (repE f 0 0 0 [] L)]) ⟨n, (h, none) :: t⟩) : Tr Try.prog 57 [repA f 0 0 0 .nils (.sl 1 h 0 len)] s K := by
  refine Tr.lend h hg ?_
  have : frzL h (.rowI .u16 L) [repA f 0 0 0 .nils (.sl 1 h 0 len)] = [repA f 0 0 0 .nils (.roI .u16 L)] := by
    simp only [frzL, repA, AV.frz, frzS_all .u16 L len hl, beq_self, cond_true]
  rw [this]
  exact Tr.le (leRepN Le.nilB (Le.refl _)) (Ev.call (rReply_ev f 0 0 0 [] L (by decide) (by decide) (by decide) hL) k)
theorem cRow12 (f a n a2 : Int) (b : List Bool) (r : List Int) (hf : f = 1 ∨ f = 2) (hn : 1 ≤ n ∧ n ≤ 2000) :
    ((repB f 0 0 0 (List.replicate n.toNat false) []).length : Int) = 2 + (n + 7) / 8 ∧ (repB f 0 0 0 (List.replicate n.toNat false) []).getD 0 0 = f ∧ (repB f 0 0 0 (List.replicate n.toNat false) []).getD 1 0 = (n + 7) / 8 := by
  have hlr : (List.replicate n.toNat false).length = n.toNat := by simp
  have hok : repOk f 0 0 0 (List.replicate n.toNat false) [] = true := by
    rcases hf with rfl | rfl <;> (simp [repOk, withinB]; omega)
  have hrow : repB f 0 0 0 (List.replicate n.toNat false) [] = [f] ++ [IntKind.u8.wrap (((List.replicate n.toNat false).length + 7) / 8 : Nat)] ++ packN (List.replicate n.toNat false) (List.replicate n.toNat false).length := by
    unfold repB
    rw [if_pos hok]
    rcases hf with rfl | rfl <;> rfl
  rw [hrow, hlr]
  refine ⟨?_, rfl, ?_⟩
  · simp [packN_length]; omega
  · show IntKind.u8.wrap (((n.toNat + 7) / 8 : Nat) : Int) = _
    rw [u8_in _ (by omega) (by omega)]
    omega
theorem encOk12 (f n a2 : Int) (b : List Bool) (r : List Int) (hk : encOk f n a2 b r = true) : (f = 1 ∨ f = 2 → 1 ≤ n ∧ n ≤ 2000) ∧ (f = 3 ∨ f = 4 ∨ f = 23 → 1 ≤ n ∧ n ≤ 125) ∧ (f = 1 ∨ f = 2 ∨ f = 3 ∨ f = 4 ∨ f = 5 ∨ f = 6 ∨ f = 15 ∨ f = 16 ∨ f = 22 ∨ f = 23) := by
  refine ⟨fun h => ?_, fun h => ?_, ?_⟩
  · rcases h with rfl | rfl <;> (simp [encOk, withinB] at hk; omega)
  · rcases h with rfl | rfl | rfl <;> (simp [encOk, withinB] at hk; omega)
  · by_cases h1 : f = 1 ∨ f = 2 ∨ f = 3 ∨ f = 4 ∨ f = 5 ∨ f = 6 ∨ f = 15 ∨ f = 16 ∨ f = 22 ∨ f = 23
    · exact h1
    · have h1 : ¬ f = 1 ∧ ¬ f = 2 ∧ ¬ f = 3 ∧ ¬ f = 4 ∧ ¬ f = 5 ∧ ¬ f = 6 ∧ ¬ f = 15 ∧ ¬ f = 16 ∧ ¬ f = 22 ∧ ¬ f = 23 := by omega
      obtain ⟨a1, a2, a3, a4, a5, a6, a7, a8, a9, a10⟩ := h1
      simp [encOk, *] at hk
theorem cX (f : Int) (hf : f < 128) : repB f 4 0 0 [] [] = [or128 f, 4] := by
  unfold repB
  rw [if_pos (by simp [repOk]; exact hf)]
  rfl
end Go.Proofs.Ytomodeliimnddaa
