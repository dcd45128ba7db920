/- The document's master: it is made. Many polls; rows of frames; rows of polls. Contracts: the document's master; its polls are one row. Contracts: the document's master lays what it read into an image. Contracts: bytes read as requests: the document's. Plain laws: requests and replies cut short, or with more behind. Contracts: bytes read as replies: the document's. The plain law: both readings of a reply are the same. Contracts: the document's master takes a frame. What is known of polls, and is kept by all that a master does. Contracts: the document's master lets a scan begin. The document's master, where it lies under other names. -/
import Derived.Test.YtomodeliimnddaaHMstB
import Derived.Test.YtomodeliimnddaaHPduA
import Derived.Test.YtomodeliimnddaaHPduM
set_option linter.unusedVariables false
set_option linter.unusedSimpArgs false
namespace Go.Proofs.Ytomodeliimnddaa
open Go.Ab
def a129 : ACode := (.seq (.reg [(iO 2 (.mov (.c (.int .i64 0))))])
 (.seq (.seq (.reg [(iM 3 0)])
 (.block 0 (.seq (.seq (.reg [(iO 5 (.bin .eql .other (.t 3) (.c (.int .u8 1)))), (iM 4 5)])
 (.cond (.t 4) .skip
 (.reg [(iO 6 (.bin .eql .other (.t 3) (.c (.int .u8 2)))), (iM 4 6)])))
 (.cond (.t 4) (.seq (.reg [(iO 2 (.mov (.c (.int .i64 1))))])
 .ret)
 (.seq (.seq (.reg [(iO 8 (.bin .eql .other (.t 3) (.c (.int .u8 3)))), (iM 7 8)])
 (.cond (.t 7) .skip
 (.reg [(iO 9 (.bin .eql .other (.t 3) (.c (.int .u8 4)))), (iM 7 9)])))
 (.cond (.t 7) (.seq (.reg [(iO 2 (.mov (.c (.int .i64 4))))])
 .ret)
 (.seq (.reg [(iO 11 (.bin .eql .other (.t 3) (.c (.int .u8 15)))), (iM 10 11)])
 (.cond (.t 10) (.seq (.reg [(iO 2 (.mov (.c (.int .i64 2))))])
 .ret)
 (.seq (.reg [(iO 13 (.bin .eql .other (.t 3) (.c (.int .u8 16)))), (iM 12 13)])
 (.cond (.t 12) (.seq (.reg [(iO 2 (.mov (.c (.int .i64 5))))])
 .ret)
 .skip))))))))))
 (.seq (.reg [(iO 2 (.mov (.c (.int .i64 0))))])
 .ret)))
def r129 : List ARes := [.t 2]
theorem c129 : compF Try.prog Try.f129 = some (a129, r129) := by kernel_rfl
theorem b129 : hasBody Try.prog 129 = true := by kernel_rfl
theorem g129 : Try.prog.funcs[129]? = some Try.f129 := by kernel_rfl
def a130 : ACode := (.seq (.reg [(iO 2 (.mov (.c (.bool false))))])
 (.seq (.reg [(iM 3 0), (iO 4 (.bin .geq .other (.t 3) (.c (.int .i64 1)))), ⟨(some 5), .mov (.t 4), none, true⟩, (iG 6 (.mov (.t 0)) 5 true), (iG 7 (.bin .leq .other (.t 6) (.c (.int .i64 1000000))) 5 true), (iO 8 (.pick (.t 5) (.t 7) (.c (.bool false)))), (iM 2 8)])
 .ret))
def r130 : List ARes := [.t 2]
theorem c130 : compF Try.prog Try.f130 = some (a130, r130) := by kernel_rfl
theorem b130 : hasBody Try.prog 130 = true := by kernel_rfl
theorem g130 : Try.prog.funcs[130]? = some Try.f130 := by kernel_rfl
def a74 : ACode := (.seq (.reg [(iO 2 (.mov (.c .nilp))), (iO 3 (.mov (.c (.int .i64 0))))])
 (.seq (.seq (.reg [(iM 7 0), (iO 8 (.len false (.t 7))), (iO 9 (.bin .gtr .other (.t 8) (.c (.int .i64 32))))])
 (.cond (.t 9) (.seq (.reg [(iO 2 (.mov (.c .nilp))), (iO 3 (.mov (.c (.int .i64 260))))])
 .ret)
 .skip))
 (.seq (.reg [(iO 10 (.build [.nils, (.int .u16 0), .nils] [(1, 1, (.c (.int .u16 1)))])), (iO 11 (.box (.t 10))), (iM 4 11)])
 (.seq (.seq (.reg [(iO 5 (.mov (.c (.int .i64 0))))])
 (.block 0 (.loop (.seq (.seq (.reg [(iM 12 5), (iM 13 0), (iO 14 (.len false (.t 13))), (iO 15 (.bin .lss .other (.t 12) (.t 14)))])
 (.cond (.t 15) .skip
 (.exit 0)))
 (.seq (.block 1 (.seq (.reg [(iM 18 0), (iM 19 5), (iO 20 (.idx 8 none true (.t 18) (.t 19))), (iO 21 (.load true 8 (.t 20))), (iO 6 (.alloc [(2, (.int .u8 0)), (1, (.int .u16 0)), (5, (.int .i64 0))])), ⟨none, .store 8 (.t 6) (.t 21), none, false⟩])
 (.seq (.seq (.draw [(zS 0 (iF 22 0 6)), (zS 1 (iL 23 22)), (zS 2 (iO 24 (.bin .lss .other (.t 23) (.c (.int .u8 1))))), ⟨3, ⟨(some 25), .mov (.t 24), none, true⟩, false, [], []⟩, (zS 4 (iG 26 (.fld 0 1 false (.t 6)) 25 false)), (zS 5 (iG 27 (.load false 1 (.t 26)) 25 false)), (zS 6 (iG 28 (.bin .gtr .other (.t 27) (.c (.int .u8 247))) 25 false)), (zS 7 (iO 29 (.pick (.t 25) (.c (.bool true)) (.t 28)))), ⟨8, ⟨(some 30), .mov (.t 29), none, true⟩, false, [], []⟩, (zS 9 (iG 31 (.fld 1 1 false (.t 6)) 30 false)), (zS 10 (iG 32 (.load false 1 (.t 31)) 30 false)), ⟨11, (iG 33 (.call 129 [(.t 32)]) 30 false), true, [], []⟩, (zS 12 (iG 34 (.bin .eql .other (.t 33) (.c (.int .i64 0))) 30 false)), (zS 13 (iO 35 (.pick (.t 30) (.c (.bool true)) (.t 34)))), ⟨14, ⟨(some 36), .mov (.t 35), none, true⟩, false, [], []⟩, (zS 15 (iG 37 (.fld 3 1 false (.t 6)) 36 false)), (zS 16 (iG 38 (.load false 1 (.t 37)) 36 false)), (zS 17 (iG 39 (.bin .lss .other (.t 38) (.c (.int .i64 1))) 36 false)), (zS 18 (iO 40 (.pick (.t 36) (.c (.bool true)) (.t 39)))), ⟨19, ⟨(some 41), .mov (.t 40), none, true⟩, false, [], []⟩, (zS 20 (iG 42 (.fld 3 1 false (.t 6)) 41 false)), (zS 21 (iG 43 (.load false 1 (.t 42)) 41 false)), (zS 22 (iG 44 (.bin .gtr .other (.t 43) (.c (.int .i64 64))) 41 false)), (zS 23 (iO 45 (.pick (.t 41) (.c (.bool true)) (.t 44)))), ⟨24, ⟨(some 46), .mov (.t 45), none, true⟩, false, [], []⟩, (zS 25 (iG 47 (.fld 2 1 false (.t 6)) 46 false)), (zS 26 (iG 48 (.load false 1 (.t 47)) 46 false)), (zS 27 (iG 49 (.conv (.int .i64) (.t 48)) 46 false)), (zS 28 (iG 50 (.fld 3 1 false (.t 6)) 46 false)), (zS 29 (iG 51 (.load false 1 (.t 50)) 46 false)), (zS 30 (iG 52 (.bin .add .other (.t 49) (.t 51)) 46 false)), (zS 31 (iG 53 (.bin .gtr .other (.t 52) (.c (.int .i64 65536))) 46 false)), (zS 32 (iO 54 (.pick (.t 46) (.c (.bool true)) (.t 53)))), ⟨33, ⟨(some 55), .mov (.t 54), none, true⟩, false, [], []⟩, (zS 34 (iG 56 (.fld 4 1 false (.t 6)) 55 false)), (zS 35 (iG 57 (.load false 1 (.t 56)) 55 false)), (zS 36 (iG 58 (.bin .lss .other (.t 57) (.c (.int .i64 0))) 55 false)), (zS 37 (iO 59 (.pick (.t 55) (.c (.bool true)) (.t 58)))), ⟨38, ⟨(some 60), .mov (.t 59), none, true⟩, false, [], []⟩, (zS 39 (iG 61 (.fld 4 1 false (.t 6)) 60 false)), (zS 40 (iG 62 (.load false 1 (.t 61)) 60 false)), (zS 41 (iG 63 (.fld 1 1 false (.t 6)) 60 false)), (zS 42 (iG 64 (.load false 1 (.t 63)) 60 false)), (zS 45 (iG 67 (.fld 3 1 false (.t 6)) 60 false)), (zS 46 (iG 68 (.load false 1 (.t 67)) 60 false)), ⟨43, (iG 65 (.call 129 [(.t 64)]) 60 false), true, [], [(.t 61), (.t 67)]⟩, ⟨44, (iG 66 (.call 103 [(.t 65)]) 60 false), true, [], [(.t 61), (.t 67)]⟩, (zS 47 (iG 69 (.bin .sub .other (.t 66) (.t 68)) 60 false)), (zS 48 (iG 70 (.bin .gtr .other (.t 62) (.t 69)) 60 false)), (zS 49 (iO 71 (.pick (.t 60) (.c (.bool true)) (.t 70)))), ⟨50, ⟨(some 72), .mov (.t 71), none, true⟩, false, [], []⟩, (zS 51 (iG 73 (.fld 5 1 false (.t 6)) 72 false)), (zS 52 (iG 74 (.load false 1 (.t 73)) 72 false)), ⟨53, (iG 75 (.call 130 [(.t 74)]) 72 false), true, [], []⟩, (zS 54 (iG 76 (.un .not (.t 75)) 72 false)), (zS 55 (iO 77 (.pick (.t 72) (.c (.bool true)) (.t 76)))), ⟨56, ⟨(some 78), .mov (.t 77), none, true⟩, false, [], []⟩, (zS 57 (iG 79 (.fld 6 1 false (.t 6)) 78 false)), (zS 58 (iG 80 (.load false 1 (.t 79)) 78 false)), ⟨59, (iG 81 (.call 130 [(.t 80)]) 78 false), true, [], []⟩, (zS 60 (iG 82 (.un .not (.t 81)) 78 false)), (zS 61 (iO 83 (.pick (.t 78) (.c (.bool true)) (.t 82)))), ⟨62, ⟨(some 84), .mov (.t 83), none, true⟩, false, [], []⟩, (zS 63 (iG 85 (.fld 7 1 false (.t 6)) 84 false)), (zS 64 (iG 86 (.load false 1 (.t 85)) 84 false)), ⟨65, (iG 87 (.call 130 [(.t 86)]) 84 false), true, [], []⟩, (zS 66 (iG 88 (.un .not (.t 87)) 84 false)), (zS 67 (iO 89 (.pick (.t 84) (.c (.bool true)) (.t 88))))])
 (.cond (.t 89) (.seq (.reg [(iO 2 (.mov (.c .nilp))), (iO 3 (.mov (.c (.int .i64 260))))])
 .ret)
 .skip))
 (.draw [(zS 0 (iM 90 4)), (zS 1 (iM 91 4)), (zS 2 (iN 92 91)), (zS 3 (iF 93 0 92)), (zS 4 (iL 94 93)), (zS 5 (iO 95 (.load true 8 (.t 6)))), (zS 6 (iO 96 (.build [(.int .u8 0), (.int .u8 0), (.int .u16 0), (.int .i64 0), (.int .i64 0), (.int .i64 0), (.int .i64 0), (.int .i64 0), (.bool false), (.int .i64 0), (.int .i64 0), (.bool false), (.int .u16 0), (.int .u8 0), (.int .u16 0), (.int .u16 0), (.int .u16 0), .nils, .nils, (.int .i64 0), (.int .i64 0), (.bool false), (.bool false), .nils, .nils] [(0, 8, (.t 95))]))), (zS 7 (iO 97 (.bslice 25 .gen [(.int .u8 0), (.int .u8 0), (.int .u16 0), (.int .i64 0), (.int .i64 0), (.int .i64 0), (.int .i64 0), (.int .i64 0), (.bool false), (.int .i64 0), (.int .i64 0), (.bool false), (.int .u16 0), (.int .u8 0), (.int .u16 0), (.int .u16 0), (.int .u16 0), .nils, .nils, (.int .i64 0), (.int .i64 0), (.bool false), (.bool false), .nils, .nils] [(0, 25, (.t 96))] 1))), ⟨8, (iO 98 (.app 25 208 (.t 94) (.t 97))), true, [7], []⟩, (zS 9 (iN 99 90)), (zS 10 (iF 100 0 99)), ⟨11, ⟨none, .store 1 (.t 100) (.t 98), none, false⟩, true, [7], []⟩]))))
 (.reg [(iM 16 5), (iO 17 (.bin .add .other (.t 16) (.c (.int .i64 1)))), (iM 5 17)]))))))
 (.seq (.reg [(iM 101 4), (iM 2 101), (iO 3 (.mov (.c (.int .i64 0))))])
 .ret)))))
def r74 : List ARes := [.t 2, .t 3]
theorem c74 : compF Try.prog Try.f74 = some (a74, r74) := by kernel_rfl
theorem b74 : hasBody Try.prog 74 = true := by kernel_rfl
theorem g74 : Try.prog.funcs[74]? = some Try.f74 := by kernel_rfl
theorem darea_ev (f : Int) : Ev Try.prog 129 [.int .u8 f] (.int .i64 (areaS f)) := by
  refine FrzK.ev rfl (trF g129 b129 c129 ?_)
  conv => whnf
  by_cases h1 : f = 1
  · subst h1; conv => whnf
    exact FrzK.le (Le.refl _)
  by_cases h2 : f = 2
  · subst h2; conv => whnf
    exact FrzK.le (Le.refl _)
  by_cases h3 : f = 3
  · subst h3; conv => whnf
    exact FrzK.le (Le.refl _)
  by_cases h4 : f = 4
  · subst h4; conv => whnf
    exact FrzK.le (Le.refl _)
  by_cases h15 : f = 15
  · subst h15; conv => whnf
    exact FrzK.le (Le.refl _)
  by_cases h16 : f = 16
  · subst h16; conv => whnf
    exact FrzK.le (Le.refl _)
  have hA : areaS f = 0 := by unfold areaS; rw [if_neg (by omega), if_neg (by omega), if_neg h15, if_neg h16]
  rw [hA]
  repeat' (first
    | (refine condN (by simp; assumption) ?_; conv => whnf)
    | fail)
  exact FrzK.le (Le.refl _)
theorem dmill_ev (n : Int) : Ev Try.prog 130 [.int .i64 n] (.bool (millB n)) := by
  refine FrzK.ev rfl (trF g130 b130 c130 ?_)
  conv => whnf
  refine condF (fun h => ?_) (fun h => ?_)
  · conv => whnf
    refine FrzK.le (leBool ?_)
    unfold millB
    rw [show decide (1 ≤ n) = false from h]; rfl
  · conv => whnf
    refine FrzK.le (leBool ?_)
    unfold millB
    rw [show decide (1 ≤ n) = true from h]; rfl
def dpN (x : Po) : List AV := [.int .u8 x.u, .int .u8 x.f, .int .u16 x.a, .int .i64 x.n, .int .i64 x.p, .int .i64 x.e, .int .i64 x.t, .int .i64 x.r, .bool false, .int .i64 0, .int .i64 0, .bool false, .int .u16 0, .int .u8 0, .int .u16 0, .int .u16 0, .int .u16 0, .nils, .nils, .int .i64 0, .int .i64 0, .bool false, .bool false, .nils, .nils]
theorem dpN_len (x : Po) : (dpN x).length = 25 := rfl
def dRow (S : List Po) (i : Nat) : List AV := flatsL dpN (S.take i)
def dnSt (S : List Po) (i : Nat) : St := ⟨2, [(0, some (.obj [.sl 25 1 0 i, .int .u16 1, .nils])), (1, some (.obj (dRow S i)))]⟩
theorem flatsL_hok {α : Type} {F : α → List AV} {N : Nat} {ρ : Nat → Option Nat} (h : ∀ x, hokL N ρ (F x) = true) : ∀ S : List α, hokL N ρ (flatsL F S) = true
  | [] => rfl
  | x :: r => hokL_app _ _ (h x) (flatsL_hok h r)
theorem flatsL_ren {α : Type} {F : α → List AV} {ρ : Nat → Option Nat} (h : ∀ x, renL ρ (F x) = F x) : ∀ S : List α, renL ρ (flatsL F S) = flatsL F S
  | [] => rfl
  | x :: r => by rw [flatsL, renL_app, h x, flatsL_ren h r]
theorem flatsL_all {α : Type} {F : α → List AV} {p : AV → Bool} (h : ∀ x, (F x).all p = true) : ∀ S : List α, (flatsL F S).all p = true
  | [] => rfl
  | x :: r => by rw [flatsL, List.all_append, h x, flatsL_all h r]; rfl
theorem dRow_len (S : List Po) (i : Nat) (hi : i ≤ S.length) : (dRow S i).length = i * 25 := by
  unfold dRow; rw [flatsL_len dpN_len, List.length_take]; congr 1; omega
theorem dRow_one (S : List Po) (i : Nat) : (dRow S i).all AV.one = true := flatsL_all (fun _ => rfl) _
theorem dRow_zero (S : List Po) : dRow S 0 = [] := by unfold dRow; rw [List.take_zero]; rfl
theorem dRow_succ (S : List Po) (i : Nat) (hi : i < S.length) : dRow S (i + 1) = dRow S i ++ dpN S[i] := by
  unfold dRow
  rw [List.take_add_one, List.getElem?_eq_getElem hi, flatsL_app]
  show _ ++ (dpN S[i] ++ []) = _
  rw [List.append_nil]
theorem dRow_hok (S : List Po) (i N : Nat) (ρ : Nat → Option Nat) : hokL N ρ (dRow S i) = true := flatsL_hok (fun _ => rfl) _
theorem dRow_ren (S : List Po) (i : Nat) (ρ : Nat → Option Nat) : renL ρ (dRow S i) = dRow S i := flatsL_ren (fun _ => rfl) _
attribute [irreducible] dRow
set_option maxRecDepth 20000 in
set_option maxHeartbeats 400000 in
theorem dnew_raw (S : List Po) (hS : ∀ x ∈ S, 0 ≤ x.a ∧ x.a < 65536) (h32 : S.length ≤ 32) : Tr Try.prog 74 [.ro 8 (S.map poA)] ⟨0, []⟩ fun v s => (allR S = true ∧ v = .tup [.ptr 0 0, .int .i64 0] ∧ s = dnSt S S.length) ∨ (allR S = false ∧ v = .tup [.nilp, .int .i64 260]) := by
  refine trF g74 b74 c74 ?_
  conv => whnf
  refine condN (by simp; omega) ?_
  conv => whnf
  refine loopI (α := {i : Nat // i ≤ S.length ∧ ∀ j (h : j < S.length), j < i → rightB S[j] = true}) (fun i => [(0, .ro 8 (S.map poA)), (4, .ptr 0 0), (5, .int .i64 i.1)]) (fun i => dnSt S i.1) (fun i => S.length - i.1) ⟨0, Nat.zero_le _, fun j h k => by omega⟩
    ⟨[(1, none)], rfl, rfl, rfl, ⟨⟨rfl, rfl⟩, ⟨rfl, rfl⟩, ⟨rfl, rfl⟩, trivial⟩, ⟨⟨rfl, rfl, rfl⟩, ⟨dRow_hok _ _ _ _, rfl, by show (dRow S 0).length = 0; rw [dRow_zero]; rfl⟩, trivial⟩⟩ fun ⟨i, hi, hb⟩ => ?_
  conv => whnf
  by_cases hlt : i < S.length
  · refine condY (by simp; omega) ?_
    conv => whnf
    have hx : (S.map poA).getD (Int.toNat (i : Int)) .undef = poA S[i] := map_at hlt
    refine condT (by simp; omega) ?_
    rw [hx]
    have ha := hS S[i] (List.getElem_mem hlt)
    have hno : rightB S[i] = false → allR S = false := fun h => by
      rw [Bool.eq_false_iff]
      intro e
      have := (allR_iff S).mp e i hlt
      rw [h] at this; cases this
    have hbx : rightB S[i] = true → ∀ j (h : j < S.length), j < i + 1 → rightB S[j] = true := fun h j hj hji => by
      by_cases e : j = i
      · subst e; exact h
      · exact hb j hj (by omega)
    have htk : S.take (i + 1) = S.take i ++ [S[i]] := by rw [List.take_add_one, List.getElem?_eq_getElem hlt]; rfl
    have hRl : (dRow S i).length = i * 25 := dRow_len S i hi
    generalize hp : S[i] = y at *
    obtain ⟨u, f, a, n, p, e, t, r⟩ := y
    have ha : 0 ≤ a ∧ a < 65536 := ha
    have hz := szA_range (areaS f)
    conv => whnf
    refine condF (fun h => ?_) (fun h => ?_)
    rotate_left
    · conv => whnf
      refine .inr ⟨hno ?_, rfl⟩
      rw [Bool.eq_false_iff]
      intro hr
      simp only [rightB, millB, Bool.and_eq_true, decide_eq_true_eq, bne_iff_ne, ne_eq] at hr
      simp at h
      omega
    have h1 : 1 ≤ u := by simpa using h
    clear h
    conv => whnf
    refine condF (fun h => ?_) (fun h => ?_)
    rotate_left
    · conv => whnf
      refine .inr ⟨hno ?_, rfl⟩
      rw [Bool.eq_false_iff]
      intro hr
      simp only [rightB, millB, Bool.and_eq_true, decide_eq_true_eq, bne_iff_ne, ne_eq] at hr
      simp at h
      omega
    have h2 : u ≤ 247 := by simpa using h
    clear h
    conv => whnf
    refine Ev.call (darea_ev f) ?_
    conv => whnf
    repeat' (first | (refine ⟨rfl, ?_⟩; conv => whnf) | fail)
    refine condF (fun h => ?_) (fun h => ?_)
    rotate_left
    · conv => whnf
      refine .inr ⟨hno ?_, rfl⟩
      rw [Bool.eq_false_iff]
      intro hr
      simp only [rightB, millB, Bool.and_eq_true, decide_eq_true_eq, bne_iff_ne, ne_eq] at hr
      simp at h
      omega
    have h3 : areaS f ≠ 0 := by simpa using h
    clear h
    conv => whnf
    refine condF (fun h => ?_) (fun h => ?_)
    rotate_left
    · conv => whnf
      refine .inr ⟨hno ?_, rfl⟩
      rw [Bool.eq_false_iff]
      intro hr
      simp only [rightB, millB, Bool.and_eq_true, decide_eq_true_eq, bne_iff_ne, ne_eq] at hr
      simp at h
      omega
    have h4 : 1 ≤ n := by simpa using h
    clear h
    conv => whnf
    refine condF (fun h => ?_) (fun h => ?_)
    rotate_left
    · conv => whnf
      refine .inr ⟨hno ?_, rfl⟩
      rw [Bool.eq_false_iff]
      intro hr
      simp only [rightB, millB, Bool.and_eq_true, decide_eq_true_eq, bne_iff_ne, ne_eq] at hr
      simp at h
      omega
    have h5 : n ≤ 64 := by simpa using h
    clear h
    conv => whnf
    rw [w64i (n := a) (by omega) (by omega), w64i (n := a + n) (by omega) (by omega)]
    refine condF (fun h => ?_) (fun h => ?_)
    rotate_left
    · conv => whnf
      refine .inr ⟨hno ?_, rfl⟩
      rw [Bool.eq_false_iff]
      intro hr
      simp only [rightB, millB, Bool.and_eq_true, decide_eq_true_eq, bne_iff_ne, ne_eq] at hr
      simp at h
      omega
    have h6 : a + n ≤ 65536 := by simpa using h
    clear h
    conv => whnf
    refine condF (fun h => ?_) (fun h => ?_)
    rotate_left
    · conv => whnf
      refine .inr ⟨hno ?_, rfl⟩
      rw [Bool.eq_false_iff]
      intro hr
      simp only [rightB, millB, Bool.and_eq_true, decide_eq_true_eq, bne_iff_ne, ne_eq] at hr
      simp at h
      omega
    have h7 : 0 ≤ p := by simpa using h
    clear h
    conv => whnf
    refine Ev.call (darea_ev f) ?_
    conv => whnf
    repeat' (first | (refine ⟨rfl, ?_⟩; conv => whnf) | fail)
    refine Ev.call (rsize_ev (areaS f)) ?_
    conv => whnf
    repeat' (first | (refine ⟨rfl, ?_⟩; conv => whnf) | fail)
    rw [w64i (n := szA (areaS f) - n) (by omega) (by omega)]
    refine condF (fun h => ?_) (fun h => ?_)
    rotate_left
    · conv => whnf
      refine .inr ⟨hno ?_, rfl⟩
      rw [Bool.eq_false_iff]
      intro hr
      simp only [rightB, millB, Bool.and_eq_true, decide_eq_true_eq, bne_iff_ne, ne_eq] at hr
      simp at h
      omega
    have h8 : p ≤ szA (areaS f) - n := by simpa using h
    clear h
    conv => whnf
    refine Ev.call (dmill_ev e) ?_
    conv => whnf
    repeat' (first | (refine ⟨rfl, ?_⟩; conv => whnf) | fail)
    refine condF (fun h => ?_) (fun h => ?_)
    rotate_left
    · conv => whnf
      refine .inr ⟨hno ?_, rfl⟩
      rw [Bool.eq_false_iff]
      intro hr
      simp only [rightB, Bool.and_eq_true] at hr
      have h : millB e = false := by simpa using h
      simp [h] at hr
    have g0 : millB e = true := by simpa using h
    clear h
    conv => whnf
    refine Ev.call (dmill_ev t) ?_
    conv => whnf
    repeat' (first | (refine ⟨rfl, ?_⟩; conv => whnf) | fail)
    refine condF (fun h => ?_) (fun h => ?_)
    rotate_left
    · conv => whnf
      refine .inr ⟨hno ?_, rfl⟩
      rw [Bool.eq_false_iff]
      intro hr
      simp only [rightB, Bool.and_eq_true] at hr
      have h : millB t = false := by simpa using h
      simp [h] at hr
    have g1 : millB t = true := by simpa using h
    clear h
    conv => whnf
    refine Ev.call (dmill_ev r) ?_
    conv => whnf
    repeat' (first | (refine ⟨rfl, ?_⟩; conv => whnf) | fail)
    refine condF (fun h => ?_) (fun h => ?_)
    rotate_left
    · conv => whnf
      refine .inr ⟨hno ?_, rfl⟩
      rw [Bool.eq_false_iff]
      intro hr
      simp only [rightB, Bool.and_eq_true] at hr
      have h : millB r = false := by simpa using h
      simp [h] at hr
    have g2 : millB r = true := by simpa using h
    clear h
    conv => whnf
    have hgood : rightB ⟨u, f, a, n, p, e, t, r⟩ = true := by
      show (decide (1 ≤ u) && decide (u ≤ 247) && areaS f != 0 && decide (1 ≤ n) && decide (n ≤ 64) && decide (a + n ≤ 65536) && decide (0 ≤ p) && decide (p ≤ szA (areaS f) - n) && millB e && millB t && millB r) = true
      have k3 : (areaS f != 0) = true := by simpa using h3
      rw [decide_eq_true h1, decide_eq_true h2, k3, decide_eq_true h4, decide_eq_true h5, decide_eq_true h6, decide_eq_true h7, decide_eq_true h8, g0, g1, g2]; rfl
    have hdt : List.take (i * 25) (List.drop 0 (dRow S i)) = dRow S i := by rw [List.drop_zero, List.take_of_length_le (by omega)]
    refine condT ?_ ?_
    · show (Nat.beq 25 25 && decide (0 + i * 25 ≤ (dRow S i).length) && (List.take (i * 25) (List.drop 0 (dRow S i))).all AV.one && (Nat.beq 25 25 && decide (0 + 1 * 25 ≤ 25) && true) && decide ((i + 1) * 208 ≤ 140737488355328) && decide (i + 1 ≤ 140737488355328)) = true
      rw [hdt, dRow_one, hRl]
      simp
      omega
    conv => whnf
    refine ⟨⟨i + 1, hlt, hbx hgood⟩, ⟨[(1, some 4)], rfl, rfl, rfl, ⟨⟨rfl, rfl⟩, ⟨rfl, rfl⟩, ⟨?_, rfl⟩, trivial⟩, ⟨⟨rfl, rfl, rfl⟩, ⟨dRow_hok _ _ _ _, rfl, ?_⟩, trivial⟩⟩, by show S.length - (i + 1) < S.length - i; omega⟩
    · show AV.int .i64 (IntKind.i64.wrap ((i : Int) + 1)) = AV.int .i64 ((i + 1 : Nat) : Int)
      rw [s64 (by omega)]
    · show _ = some (Chunk.obj (renL _ (dRow S (i + 1))))
      rw [dRow_ren, dRow_succ S i hlt, hp]
      show some (Chunk.obj (List.take (i * 25) (List.drop 0 (dRow S i)) ++ dpN ⟨u, f, a, n, p, e, t, r⟩)) = _
      rw [hdt]
  · obtain rfl : i = S.length := by omega
    refine condN (by simp) ?_
    conv => whnf
    exact .inl ⟨(allR_iff S).mpr fun j hj => hb j hj hj, rfl, rfl⟩
end Go.Proofs.Ytomodeliimnddaa
set_option linter.unusedVariables false
set_option linter.unusedSimpArgs false
namespace Go.Proofs.Ytomodeliimnddaa
open Go.Ab
instance : Inhabited Fr := ⟨⟨0, 0, []⟩⟩
def frC (fs : List Fr) : Chunk := .obj (frsA fs)
theorem frC_eq (fs : List Fr) : Chunk.obj (frsA fs) = frC fs := rfl
theorem frC_hok (fs : List Fr) (N : Nat) (ρ : Nat → Option Nat) : (frC fs).hok N ρ := frsA_hok fs
theorem frC_ren (fs : List Fr) (ρ : Nat → Option Nat) : (frC fs).ren ρ = frC fs := by
  show Chunk.obj (renL ρ (frsA fs)) = _
  rw [frsA_ren]; rfl
theorem frC_size (fs : List Fr) : (frC fs).size = 3 * fs.length := frsA_len fs
theorem frsA_flats : ∀ fs : List Fr, frsA fs = flatsL frA fs
  | [] => rfl
  | x :: r => by rw [flatsL, ← frsA_flats r]; rfl
attribute [irreducible] frC
section
variable {X X' : List Pl} {last : Int} {oc : AV} {c N n : Nat} {B : Mem} {K : AV → St → Prop}
theorem pkBeginN {d : Nat} {I : Img} {last' : Int} {fs : List Fr} (hn : X.length = n) (H : MsAt B c n last .nils) (hX : n ≤ 36) (hp : ∀ x ∈ X, 1 ≤ x.p.n ∧ x.p.n ≤ 64) (hN : below B N = true) (hcN : Nat.ble (c + 39) N = true) (hd : d < c ∨ c + 39 ≤ d) (hd2 : Mem.get B d = some (imC I))
    (e : bgN (X.map Pl.older) I last n = (X', last', fs))
    (kk : K (.tup []) ⟨N + 1, ((N, some (frC fs)) :: (c, some (msP c n last' (.sl 3 N 0 fs.length))) :: B) ++ famP c 0 X'⟩) : Tr Try.prog 75 [.ptr c 0, .ptr d 0] ⟨N, B ++ famP c 0 X⟩ K := by
  subst hn
  rw [← frC_eq] at kk
  exact pkBeginA H hX hp hN hcN hd hd2 e kk
theorem pkOutN (hn : X.length = n) (H : MsAt B c n last oc) (hX : n ≤ 36) (kk : K oc ⟨N, ((c, some (msP c n last .nils)) :: B) ++ famP c 0 X⟩) : Tr Try.prog 76 [.ptr c 0] ⟨N, B ++ famP c 0 X⟩ K := by
  subst hn; exact pkOutA H hX kk
theorem pkTickN (hn : X.length = n) (H : MsAt B c n last oc) (hX : n ≤ 36) (kk : K (.tup []) ⟨N, B ++ famP c 0 (X.map Pl.tick)⟩) : Tr Try.prog 83 [.ptr c 0] ⟨N, B ++ famP c 0 X⟩ K := by
  subst hn; exact pkTick H hX kk
theorem pkTakeRN {id u : Int} {l : List Int} {b : Bool} (hn : X.length = n) (H : MsAt B c n last oc) (hX : n ≤ 36) (hq : OkX X) (hl : l.length ≤ 30000) (eT : takeP id u l X = (b, X'))
    (kk : K (.bool b) ⟨N, B ++ famP c 0 X'⟩) : Tr Try.prog 77 [.ptr c 0, .agg [.int .u16 id, .int .u8 u, .roI .u8 l]] ⟨N, B ++ famP c 0 X⟩ K := by
  subst hn; exact pkTakeR H hX hq hl eT kk
theorem pkLatchN {d : Nat} {J : Img} (hn : X.length = n) (H : MsAt B c n last oc) (hX : n ≤ 36) (hl : ∀ x ∈ X, x.l.length ≤ 1000 ∧ ∀ v ∈ x.l, 0 ≤ v) (hd : d < c ∨ c + 39 ≤ d) (hd2 : Mem.get B d = some (imC J))
    (kk : K (.tup []) ⟨N, ((d, some (imC (latchN J X n))) :: B) ++ famP c 0 X⟩) : Tr Try.prog 78 [.ptr c 0, .ptr d 0] ⟨N, B ++ famP c 0 X⟩ K := by
  subst hn; exact pkLatchA H hX hl hd hd2 kk
end
end Go.Proofs.Ytomodeliimnddaa
set_option linter.unusedVariables false
set_option linter.unusedSimpArgs false
namespace Go.Proofs.Ytomodeliimnddaa
open Go.Ab
def a91 : ACode := (.seq (.reg [(iO 4 (.mov (.c (.int .u16 0)))), (iO 5 (.mov (.c (.bool false))))])
 (.seq (.seq (.reg [(iM 6 1), (iO 7 (.bin .lss .other (.t 6) (.c (.int .i64 0)))), ⟨(some 8), .mov (.t 7), none, true⟩, (iG 9 (.mov (.t 1)) 8 false), (iG 10 (.mov (.t 0)) 8 false), (iG 11 (.nilck (.t 10)) 8 false), (iG 12 (.fld 0 1 false (.t 11)) 8 false), (iG 13 (.load false 1 (.t 12)) 8 false), (iG 14 (.len false (.t 13)) 8 false), (iG 15 (.bin .geq .other (.t 9) (.t 14)) 8 false), (iO 16 (.pick (.t 8) (.c (.bool true)) (.t 15))), ⟨(some 17), .mov (.t 16), none, true⟩, (iG 18 (.mov (.t 0)) 17 false), (iG 19 (.nilck (.t 18)) 17 false), (iG 20 (.fld 0 1 false (.t 19)) 17 false), (iG 21 (.load false 1 (.t 20)) 17 false), (iG 22 (.mov (.t 1)) 17 false), (iG 23 (.idx 25 none true (.t 21) (.t 22)) 17 false), (iG 24 (.fld 11 1 false (.t 23)) 17 false), (iG 25 (.load false 1 (.t 24)) 17 false), (iG 26 (.un .not (.t 25)) 17 false), (iO 27 (.pick (.t 17) (.c (.bool true)) (.t 26)))])
 (.cond (.t 27) (.seq (.reg [(iO 4 (.mov (.c (.int .u16 0)))), (iO 5 (.mov (.c (.bool false))))])
 .ret)
 .skip))
 (.seq (.reg [(iM 28 0), (iN 29 28), (iF 30 0 29), (iL 31 30), (iM 32 1), (iO 33 (.idx 25 none true (.t 31) (.t 32))), (iF 34 12 33), (iL 35 34), (iM 4 35), (iO 5 (.mov (.c (.bool true))))])
 .ret)))
def r91 : List ARes := [.t 4, .t 5]
theorem c91 : compF Try.prog Try.f91 = some (a91, r91) := by kernel_rfl
theorem b91 : hasBody Try.prog 91 = true := by kernel_rfl
theorem g91 : Try.prog.funcs[91]? = some Try.f91 := by kernel_rfl
def a137 : ACode := (.seq (.reg [(iM 2 0), (iN 3 2), (iF 4 19 3), (iL 5 4), (iO 6 (.bin .add .other (.t 5) (.c (.int .i64 1)))), (iN 7 2), (iF 8 19 7), ⟨none, .store 1 (.t 8) (.t 6), none, false⟩])
 (.draw [(zS 0 (iM 9 0)), (zS 1 (iM 10 0)), (zS 2 (iN 11 10)), (zS 3 (iF 12 21 11)), (zS 4 (iL 13 12)), ⟨5, ⟨(some 14), .mov (.t 13), none, true⟩, false, [], []⟩, (zS 6 (iG 15 (.mov (.t 0)) 14 false)), (zS 7 (iG 16 (.nilck (.t 15)) 14 false)), (zS 8 (iG 17 (.fld 19 1 false (.t 16)) 14 false)), (zS 9 (iG 18 (.load false 1 (.t 17)) 14 false)), (zS 10 (iG 19 (.mov (.t 0)) 14 false)), (zS 11 (iG 20 (.nilck (.t 19)) 14 false)), (zS 12 (iG 21 (.fld 0 8 true (.t 20)) 14 false)), (zS 13 (iG 22 (.fld 7 1 false (.t 21)) 14 false)), (zS 14 (iG 23 (.load false 1 (.t 22)) 14 false)), (zS 15 (iG 24 (.bin .geq .other (.t 18) (.t 23)) 14 false)), (zS 16 (iO 25 (.pick (.t 14) (.c (.bool true)) (.t 24)))), (zS 17 (iN 26 9)), (zS 18 (iF 27 21 26)), ⟨19, ⟨none, .store 1 (.t 27) (.t 25), none, false⟩, true, [], []⟩]))
def r137 : List ARes := []
theorem c137 : compF Try.prog Try.f137 = some (a137, r137) := by kernel_rfl
theorem b137 : hasBody Try.prog 137 = true := by kernel_rfl
theorem g137 : Try.prog.funcs[137]? = some Try.f137 := by kernel_rfl
def a87 : ACode := (.seq (.reg [(iO 2 (.mov (.c (.int .i64 0))))])
 (.block 0 (.loop (.seq (.seq (.reg [(iM 4 2), (iM 5 0), (iN 6 5), (iF 7 0 6), (iL 8 7), (iO 9 (.len false (.t 8))), (iO 10 (.bin .lss .other (.t 4) (.t 9)))])
 (.cond (.t 10) .skip
 (.exit 0)))
 (.seq (.block 1 (.seq (.reg [(iM 13 0), (iN 14 13), (iF 15 0 14), (iL 16 15), (iM 17 2), (iO 18 (.idx 25 none true (.t 16) (.t 17))), (iM 3 18)])
 (.seq (.seq (.reg [(iM 19 3), (iN 20 19), (iF 21 11 20), (iL 22 21), (iO 23 (.un .not (.t 22)))])
 (.cond (.t 23) (.exit 1)
 .skip))
 (.seq (.reg [(iM 24 3), (iN 25 24), (iF 26 10 25), (iL 27 26), (iO 28 (.bin .sub .other (.t 27) (.c (.int .i64 1)))), (iN 29 24), (iF 30 10 29), ⟨none, .store 1 (.t 30) (.t 28), none, false⟩])
 (.seq (.reg [(iM 31 3), (iN 32 31), (iF 33 10 32), (iL 34 33), (iO 35 (.bin .eql .other (.t 34) (.c (.int .i64 0))))])
 (.cond (.t 35) (.seq (.reg [(iM 36 3), (iN 37 36), (iF 38 11 37), ⟨none, .store 1 (.t 38) (.c (.bool false)), none, false⟩])
 (.reg [(iM 39 3), (iO 40 (.call 137 [(.t 39)]))]))
 .skip))))))
 (.reg [(iM 11 2), (iO 12 (.bin .add .other (.t 11) (.c (.int .i64 1)))), (iM 2 12)]))))))
def r87 : List ARes := []
theorem c87 : compF Try.prog Try.f87 = some (a87, r87) := by kernel_rfl
theorem b87 : hasBody Try.prog 87 = true := by kernel_rfl
theorem g87 : Try.prog.funcs[87]? = some Try.f87 := by kernel_rfl
def dB (x : Pl) : List Bool := if x.p.f ≤ 2 then x.l.map (· != 0) else []
def dN (x : Pl) : List Int := if x.p.f ≤ 2 then [] else x.l
def dc (x : Pl) : List AV := [.int .u8 x.p.u, .int .u8 x.p.f, .int .u16 x.p.a, .int .i64 x.p.n, .int .i64 x.p.p, .int .i64 x.p.e, .int .i64 x.p.t, .int .i64 x.p.r, .bool (decide (0 ≤ x.si)), .int .i64 (if 0 ≤ x.si then x.si else 0), .int .i64 x.le, .bool x.w, .int .u16 x.id, .int .u8 x.qf, .int .u16 x.qa, .int .u16 x.qn, .int .u16 0, .roB x.qb, .roI .u16 x.qr, .int .i64 x.ms, .int .i64 x.ag, .bool x.st, .bool (!x.l.isEmpty), .roB (dB x), .roI .u16 (dN x)]
theorem dc_len (x : Pl) : (dc x).length = 25 := rfl
def dA (X : List Pl) : Chunk := .obj (flatsL dc X)
def dR (X : List Pl) (i : Nat) (c : List AV) : Chunk := .obj (flatsL dc (X.take i) ++ (c ++ flatsL dc (X.drop (i + 1))))
theorem dA_open {X : List Pl} {i : Nat} (hi : i < X.length) : dA X = dR X i (dc X[i]) := by
  unfold dA dR
  congr 1
  conv => lhs; rw [← List.take_append_drop i X, flatsL_app, List.drop_eq_getElem_cons hi, flatsL]
theorem dR_shut {X : List Pl} {i : Nat} {x : Pl} {c : List AV} (hi : i < X.length) (hc : c = dc x) : dR X i c = dA (X.set i x) := by
  have h2 : i < (X.set i x).length := by rw [List.length_set]; exact hi
  rw [dA_open h2, List.getElem_set_self]
  unfold dR
  rw [hc, List.take_set_of_le (Nat.le_refl _), List.drop_set_of_lt (Nat.lt_succ_self _)]
section
variable {X : List Pl} {i j : Nat} {c : List AV}
theorem tkl (hi : i < X.length) : (flatsL dc (X.take i)).length = i * 25 := by
  rw [flatsL_len dc_len, List.length_take, Nat.min_eq_left (by omega)]
theorem dRl (hi : i < X.length) (hc : c.length = 25) : (flatsL dc (X.take i) ++ (c ++ flatsL dc (X.drop (i + 1)))).length = X.length * 25 := by
  rw [List.length_append, List.length_append, tkl hi, hc, flatsL_len dc_len, List.length_drop]
  omega
theorem dR_at (hi : i < X.length) (hc : c.length = 25) (hj : j < 25) : (flatsL dc (X.take i) ++ (c ++ flatsL dc (X.drop (i + 1)))).getD (i * 25 + j) .undef = c.getD j .undef := by
  rw [List.getD_eq_getElem?_getD, List.getElem?_append_right (by rw [tkl hi]; omega), tkl hi, show i * 25 + j - i * 25 = j by omega, List.getElem?_append_left (by omega), ← List.getD_eq_getElem?_getD]
theorem dR_cut (hi : i < X.length) (hc : c.length = 25) {n : Nat} (hj : j + n ≤ 25) : ((flatsL dc (X.take i) ++ (c ++ flatsL dc (X.drop (i + 1)))).drop (i * 25 + j)).take n = (c.drop j).take n := by
  rw [← List.drop_drop, ← tkl hi, List.drop_left, List.drop_append, List.take_append, List.length_drop, hc, show n - (25 - j) = 0 by omega, List.take_zero, List.append_nil]
theorem dR_ldo {off : Nat} (hi : i < X.length) (hc : c.length = 25) (hj : j < 25) (ho : off = i * 25 + j) : (dR X i c).ld false off 1 = (true, c.getD j .undef) := by
  unfold dR
  show (Nat.ble (off + 1) (flatsL dc (X.take i) ++ (c ++ flatsL dc (X.drop (i + 1)))).length, (flatsL dc (X.take i) ++ (c ++ flatsL dc (X.drop (i + 1)))).getD off .undef) = _
  rw [ho, dR_at hi hc hj, dRl hi hc, Nat.ble_eq_true_of_le (by omega)]
theorem dR_ldn {off n : Nat} (hi : i < X.length) (hc : c.length = 25) (hj : j + n ≤ 25) (ho : off = i * 25 + j) : (dR X i c).ld true off n = (true, .agg ((c.drop j).take n)) := by
  unfold dR
  show (Nat.ble (off + n) (flatsL dc (X.take i) ++ (c ++ flatsL dc (X.drop (i + 1)))).length, AV.agg (((flatsL dc (X.take i) ++ (c ++ flatsL dc (X.drop (i + 1)))).drop off).take n)) = _
  rw [ho, dR_cut hi hc hj, dRl hi hc, Nat.ble_eq_true_of_le (by omega)]
theorem dR_puto {off : Nat} {v : AV} (hi : i < X.length) (hc : c.length = 25) (hj : j < 25) (ho : off = i * 25 + j) : (dR X i c).put off [v] = some (dR X i (c.set j v)) := by
  unfold dR
  show some (Chunk.obj (Go.Ab.putL _ off [v])) = _
  have hl := dRl hi hc
  have h1 : (Nat.beq off 0 && Nat.beq [v].length (flatsL dc (X.take i) ++ (c ++ flatsL dc (X.drop (i + 1)))).length) = false := by
    rw [hl, show Nat.beq [v].length (X.length * 25) = false from beq_ne (by show 1 ≠ _; omega)]
    exact Bool.and_false _
  unfold Go.Ab.putL
  rw [h1]
  show some (Chunk.obj ((flatsL dc (X.take i) ++ (c ++ flatsL dc (X.drop (i + 1)))).set off v)) = _
  rw [ho, List.set_append_right _ _ (by rw [tkl hi]; omega), tkl hi, show i * 25 + j - i * 25 = j by omega, List.set_append_left _ _ (by omega)]
theorem putR_app : ∀ (vs : List AV) (A B : List AV) (j : Nat), putR (A ++ B) (A.length + j) vs = A ++ putR B j vs
  | [], _, _, _ => rfl
  | v :: r, A, B, j => by
    show putR ((A ++ B).set (A.length + j) v) (A.length + j + 1) r = A ++ putR (B.set j v) (j + 1) r
    rw [List.set_append_right _ _ (by omega), show A.length + j - A.length = j by omega]
    exact putR_app r A (B.set j v) (j + 1)
theorem putR_left : ∀ (vs : List AV) (A B : List AV) (j : Nat), j + vs.length ≤ A.length → putR (A ++ B) j vs = putR A j vs ++ B
  | [], _, _, _, _ => rfl
  | v :: r, A, B, j, h => by
    have h : j + (r.length + 1) ≤ A.length := h
    show putR ((A ++ B).set j v) (j + 1) r = putR (A.set j v) (j + 1) r ++ B
    rw [List.set_append_left _ _ (by omega)]
    exact putR_left r (A.set j v) B (j + 1) (by rw [List.length_set]; omega)
theorem dR_putn {off : Nat} {vs : List AV} (hi : i < X.length) (hc : c.length = 25) (h1 : vs.length < 25) (hj : j + vs.length ≤ 25) (ho : off = i * 25 + j) : (dR X i c).put off vs = some (dR X i (putR c j vs)) := by
  unfold dR
  show some (Chunk.obj (Go.Ab.putL _ off vs)) = _
  have hl := dRl hi hc
  have h2 : (Nat.beq off 0 && Nat.beq vs.length (flatsL dc (X.take i) ++ (c ++ flatsL dc (X.drop (i + 1)))).length) = false := by
    rw [hl, show Nat.beq vs.length (X.length * 25) = false from beq_ne (by omega)]
    exact Bool.and_false _
  unfold Go.Ab.putL
  rw [h2, ho]
  show some (Chunk.obj (putR _ _ vs)) = _
  have e := putR_app vs (flatsL dc (X.take i)) (c ++ flatsL dc (X.drop (i + 1))) j
  rw [tkl hi] at e
  rw [e, putR_left vs c _ j (by omega)]
theorem dR_size (hi : i < X.length) (hc : c.length = 25) : (dR X i c).size = X.length * 25 := dRl hi hc
theorem dA_ld {off : Nat} (hi : i < X.length) (hj : j < 25) (ho : off = i * 25 + j) : (dA X).ld false off 1 = (true, (dc X[i]).getD j .undef) := by
  rw [dA_open hi]; exact dR_ldo hi rfl hj ho
theorem dA_hok (N : Nat) (ρ : Nat → Option Nat) : (dA X).hok N ρ := flatsL_hok (fun _ => rfl) X
theorem dA_ren (ρ : Nat → Option Nat) : (dA X).ren ρ = dA X := by
  show Chunk.obj (renL ρ (flatsL dc X)) = _
  rw [flatsL_ren (fun _ => rfl)]; rfl
variable {D : List AV → Chunk}
theorem dD_ld (hD : D = dR X i) (hi : i < X.length) (hc : c.length = 25) (hj : j < 25) : (D c).ld false (0 + Int.toNat (i : Int) * 25 + j) 1 = (true, c.getD j .undef) := by
  subst hD; exact dR_ldo hi hc hj (by simp)
theorem dD_ldP (hD : D = dR X i) (hi : i < X.length) (hc : c.length = 25) (hj : j < 25) : (D c).ld false (0 + Int.toNat (i : Int) * 25 + 0 + j) 1 = (true, c.getD j .undef) := by
  subst hD; exact dR_ldo hi hc hj (by simp)
theorem dD_ldQ (hD : D = dR X i) (hi : i < X.length) (hc : c.length = 25) (hj : 13 + j < 25) : (D c).ld false (0 + Int.toNat (i : Int) * 25 + 13 + j) 1 = (true, c.getD (13 + j) .undef) := by
  subst hD; exact dR_ldo hi hc hj (by simp; omega)
theorem dD_ld6 (hD : D = dR X i) (hi : i < X.length) (hc : c.length = 25) : (D c).ld true (0 + Int.toNat (i : Int) * 25 + 13) 6 = (true, .agg ((c.drop 13).take 6)) := by
  subst hD; exact dR_ldn hi hc (by decide) (by simp)
theorem dD_shut (hD : D = dR X i) {x : Pl} (hi : i < X.length) (hc : c = dc x) : D c = dA (X.set i x) := by
  subst hD; exact dR_shut hi hc
end
def stB : AV → Bool
  | .sl _ _ _ _ => true
  | v => cell1 v
theorem dD_stG {X : List Pl} {i j h off : Nat} {c : List AV} {D : List AV → Chunk} (hD : D = dR X i) {get : Nat → Option Chunk} {v : AV} (ho : off = i * 25 + j) (hg : get h = some (D c)) (hi : i < X.length) (hc : c.length = 25) (hj : j < 25) (h1 : stB v = true) : storeA get 1 (.ptr h off) v = .ok true .undef (.set h (D (c.set j v))) := by
  subst hD
  have hp := dR_puto (v := v) hi hc hj ho
  have hs := dR_size hi hc
  have hd : decide (off + 1 ≤ X.length * 25) = true := decide_eq_true (by omega)
  cases v <;> first | (simp [stB, cell1] at h1; done) | (simp only [storeA, hg, AV.flat, hp, hs, hd, AV.one, List.all_cons, List.all_nil, List.length_singleton]; rfl)
theorem dD_st {X : List Pl} {i j h : Nat} {c : List AV} {D : List AV → Chunk} (hD : D = dR X i) {get : Nat → Option Chunk} {v : AV} (hg : get h = some (D c)) (hi : i < X.length) (hc : c.length = 25) (hj : j < 25) (h1 : stB v = true) : storeA get 1 (.ptr h (0 + Int.toNat (i : Int) * 25 + j)) v = .ok true .undef (.set h (D (c.set j v))) :=
  dD_stG hD (by simp) hg hi hc hj h1
theorem dD_stQ {X : List Pl} {i j h : Nat} {c : List AV} {D : List AV → Chunk} (hD : D = dR X i) {get : Nat → Option Chunk} {v : AV} (hg : get h = some (D c)) (hi : i < X.length) (hc : c.length = 25) (hj : 13 + j < 25) (h1 : stB v = true) : storeA get 1 (.ptr h (0 + Int.toNat (i : Int) * 25 + 13 + j)) v = .ok true .undef (.set h (D (c.set (13 + j) v))) :=
  dD_stG hD (by simp; omega) hg hi hc hj h1
theorem dD_obj {X : List Pl} {i : Nat} {D : List AV → Chunk} (hD : D = dR X i) (c : List AV) : ∃ l, D c = .obj l := by
  subst hD; exact ⟨_, rfl⟩
theorem mF {D : List AV → Chunk} {c : List AV} {K1 : List AV → Prop} {a2 : IntKind → List Int → Prop} {a3 : List Bool → Prop} {a4 : Nat → (Nat → AV) → Prop} {a5 : Nat → (Nat → IntKind) → (Nat → Int) → Prop} (hO : ∃ l, D c = .obj l) (h : forceM c fun c => ∀ l, Chunk.obj l = D c → K1 l) : forceC.match_1 (fun _ => Prop) (D c) (fun l => forceM l K1) a2 a3 a4 a5 := by
  rw [forceM_eq] at h
  obtain ⟨l, hl⟩ := hO
  rw [hl]
  show forceM l K1
  rw [forceM_eq]
  exact h l hl.symm
attribute [irreducible] dA dR
def dM (n : Nat) (next : Int) (o : AV) : Chunk := .obj [.sl 25 1 0 n, .int .u16 next, o]
def dS (X : List Pl) (next : Int) (o : AV) : St := ⟨2, [(0, some (dM X.length next o)), (1, some (dA X))]⟩
set_option maxRecDepth 20000 in
theorem dWaits_tr (X : List Pl) (next : Int) (k : Nat) (hk : k < X.length) (hX : X.length ≤ 36) : Tr Try.prog 91 [.ptr 0 0, .int .i64 k] (dS X next .nils) fun v s => v = .tup [.int .u16 (if X[k].w then X[k].id else 0), .bool X[k].w] ∧ s = dS X next .nils := by
  refine Tr.norm (K := fun v s => v = .tup [.int .u16 (if X[k].w then X[k].id else 0), .bool X[k].w] ∧ s.get 0 = some (dM X.length next .nils) ∧ s.get 1 = some (dA X)) (trF g91 b91 c91 ?_) fun v s ⟨hv, h0, h1⟩ => ⟨_, dS X next .nils, ?_, rfl, rfl⟩
  · conv => whnf
    refine condN (by simp; omega) ?_
    conv => whnf
    refine condT (by simp; omega) ?_
    conv => whnf
    rw [dA_ld (j := 11) hk (by decide) (by simp)]
    conv => whnf
    refine condF (fun hw => ?_) (fun hw => ?_)
    · conv => whnf
      refine condT (by simp; omega) ?_
      conv => whnf
      rw [dA_ld (j := 12) hk (by decide) (by simp)]
      conv => whnf
      have hw : X[k].w = true := by simpa using hw
      refine ⟨?_, rfl, rfl⟩
      rw [hw]; rfl
    · conv => whnf
      have hw : X[k].w = false := by simpa using hw
      refine ⟨?_, rfl, rfl⟩
      rw [hw]; rfl
  · subst hv
    exact ⟨[], rfl, rfl, rfl, ⟨⟨rfl, rfl⟩, trivial⟩, ⟨⟨rfl, rfl, h0⟩, ⟨dA_hok _ _, rfl, by rw [dA_ren]; exact h1⟩, trivial⟩⟩
theorem rowCall1 {f h : Nat} {X X' : List Pl} {args0 args : List AV} {v0 : AV} {s : St} {K : AV → St → Prop} (hT : Tr Try.prog f args0 ⟨1, [(0, some (dA X))]⟩ fun v s => v = v0 ∧ s = ⟨1, [(0, some (dA X'))]⟩) (ha : args = renL (rnm [(0, some h)]) args0) (hok : hokL 1 (rnm [(0, some h)]) args0 = true) (hv : v0.hok 0 nor = true) (hg : s.get h = some (dA X))
    (kk : openS s fun n m => K v0 ⟨n, (h, some (dA X')) :: (h, none) :: m⟩) : Tr Try.prog f args s K := by
  refine Tr.call [(0, some h)] hT ha hok ⟨⟨dA_hok _ _, rfl, by rw [dA_ren]; exact hg⟩, trivial⟩ rfl fun v1 s0 ⟨h1, h2⟩ => ?_
  subst h1; subst h2
  rw [openS_eq] at kk
  rw [ren_pure v1 hv]
  have e : backSt (rnm [(0, some h)]) ⟨1, [(0, some (dA X))]⟩ s ⟨1, [(0, some (dA X'))]⟩ = ⟨s.next, (h, some (dA X')) :: (h, none) :: s.m⟩ := by
    show (⟨s.next + 0, (h, some ((dA X').ren _)) :: (h, none) :: s.m⟩ : St) = _
    rw [dA_ren]; rfl
  rw [e]; exact kk
set_option maxRecDepth 20000 in
theorem dmiss_tr (X : List Pl) (i : Nat) (x : Pl) (hi : i < X.length) (hx : X[i] = x) (hw : x.w = false) : Tr Try.prog 137 [.ptr 0 (0 + Int.toNat (i : Int) * 25)] ⟨1, [(0, some (dA X))]⟩ fun v s => v = .tup [] ∧ s = ⟨1, [(0, some (dA (X.set i x.miss)))]⟩ := by
  refine Tr.norm (K := fun v s => v = .tup [] ∧ s.get 0 = some (dA (X.set i x.miss))) (trF g137 b137 c137 ?_) fun v s ⟨hv, h0⟩ => ⟨_, ⟨1, [(0, some (dA (X.set i x.miss)))]⟩, ?_, rfl, rfl⟩
  · have hm : ∀ b, b = (x.st || decide (IntKind.i64.wrap (x.ms + 1) ≥ x.p.r)) → (((dc x).set 19 (.int .i64 (IntKind.i64.wrap (x.ms + 1)))).set 21 (.bool b)) = dc x.miss := fun b hb => by
      subst hb
      unfold Pl.miss dc
      rw [hw]; rfl
    rw [dA_open hi, hx]
    obtain ⟨D, hD⟩ : ∃ D, D = dR X i := ⟨_, rfl⟩
    rw [← hD]
    conv => whnf
    repeat (first
      | (rw [dD_ld hD hi rfl (by decide)]; (conv => whnf))
      | (rw [dD_ldP hD hi rfl (by decide)]; (conv => whnf))
      | (rw [dD_ldQ hD hi rfl (by decide)]; (conv => whnf))
      | (rw [dD_st hD]; (case hg => rfl); (case hi => exact hi); (case hc => rfl); (case hj => decide); (case h1 => rfl); (conv => whnf); refine mF (dD_obj hD _) ?_; (conv => whnf); intro l0 hl0; rw [hl0]; clear hl0; (conv => whnf)))
    refine condF (fun h => ?_) (fun h => ?_)
    · conv => whnf
      repeat (first
        | (rw [dD_ld hD hi rfl (by decide)]; (conv => whnf))
        | (rw [dD_ldP hD hi rfl (by decide)]; (conv => whnf))
        | (rw [dD_ldQ hD hi rfl (by decide)]; (conv => whnf))
        | (rw [dD_st hD]; (case hg => rfl); (case hi => exact hi); (case hc => rfl); (case hj => decide); (case h1 => rfl); (conv => whnf); refine mF (dD_obj hD _) ?_; (conv => whnf); intro l0 hl0; rw [hl0]; clear hl0; (conv => whnf)))
      refine ⟨rfl, congrArg some (dD_shut hD hi (hm _ ?_))⟩
      rw [h]; rfl
    · conv => whnf
      repeat (first
        | (rw [dD_ld hD hi rfl (by decide)]; (conv => whnf))
        | (rw [dD_ldP hD hi rfl (by decide)]; (conv => whnf))
        | (rw [dD_ldQ hD hi rfl (by decide)]; (conv => whnf))
        | (rw [dD_st hD]; (case hg => rfl); (case hi => exact hi); (case hc => rfl); (case hj => decide); (case h1 => rfl); (conv => whnf); refine mF (dD_obj hD _) ?_; (conv => whnf); intro l0 hl0; rw [hl0]; clear hl0; (conv => whnf)))
      refine ⟨rfl, congrArg some (dD_shut hD hi (hm _ ?_))⟩
      rw [h]; rfl
  · subst hv
    exact ⟨[], rfl, rfl, rfl, ⟨⟨rfl, rfl⟩, trivial⟩, ⟨⟨dA_hok _ _, rfl, by rw [dA_ren]; exact h0⟩, trivial⟩⟩
theorem upTo_set {g : Pl → Pl} {X : List Pl} {i : Nat} (hi : i < X.length) : upTo g X (i + 1) = (upTo g X i).set i (g X[i]) := by
  apply List.ext_getElem
  · rw [List.length_set, upTo_len, upTo_len]
  · intro j h1 h2
    rw [upTo_get, List.getElem_set, upTo_get]
    by_cases e : i = j
    · subst e; rw [if_pos (by omega), if_pos rfl]
    · rw [if_neg e]
      by_cases e2 : j < i
      · rw [if_pos e2, if_pos (by omega)]
      · rw [if_neg e2, if_neg (by omega)]
set_option maxRecDepth 20000 in
theorem dTick_tr (X : List Pl) (next : Int) (hX : X.length ≤ 36) : Tr Try.prog 87 [.ptr 0 0] (dS X next .nils) fun v s => v = .tup [] ∧ s = dS (X.map Pl.tick) next .nils := by
  refine Tr.norm (K := fun v s => v = .tup [] ∧ s.get 0 = some (dM X.length next .nils) ∧ s.get 1 = some (dA (X.map Pl.tick))) (trF g87 b87 c87 ?_) fun v s ⟨hv, h0, h1⟩ => ⟨_, dS (X.map Pl.tick) next .nils, ?_, rfl, rfl⟩
  · conv => whnf
    refine loopI (α := {i : Nat // i ≤ X.length}) (fun i => [(0, .ptr 0 0), (2, .int .i64 i.1)]) (fun i => ⟨2, [(0, some (dM X.length next .nils)), (1, some (dA (upTo Pl.tick X i.1)))]⟩) (fun i => X.length - i.1) ⟨0, Nat.zero_le _⟩
      ⟨[], rfl, rfl, rfl, ⟨⟨rfl, rfl⟩, ⟨rfl, rfl⟩, trivial⟩, ⟨⟨rfl, rfl, rfl⟩, ⟨dA_hok _ _, rfl, by rw [dA_ren, upTo_zero]; rfl⟩, trivial⟩⟩ fun ⟨i, hi⟩ => ?_
    conv => whnf
    by_cases hlt : i < X.length
    · have hY := upTo_len Pl.tick X i
      have hY2 : i < (upTo Pl.tick X i).length := by omega
      have hYi : (upTo Pl.tick X i)[i] = X[i] := by rw [upTo_get, if_neg (Nat.lt_irrefl _)]
      have hset := upTo_set (g := Pl.tick) hlt
      generalize upTo Pl.tick X i = Y at *
      generalize X[i] = x at *
      refine condY (by simp; omega) ?_
      rw [dA_open hY2, hYi]
      obtain ⟨D, hD⟩ : ∃ D, D = dR Y i := ⟨_, rfl⟩
      rw [← hD]
      conv => whnf
      refine condT (by simp; omega) ?_
      conv => whnf
      repeat (first
        | (rw [dD_ld hD hY2 rfl (by decide)]; (conv => whnf))
        | (rw [dD_ldP hD hY2 rfl (by decide)]; (conv => whnf))
        | (rw [dD_ldQ hD hY2 rfl (by decide)]; (conv => whnf))
        | (rw [dD_st hD]; (case hg => rfl); (case hi => exact hY2); (case hc => rfl); (case hj => decide); (case h1 => rfl); (conv => whnf); refine mF (dD_obj hD _) ?_; (conv => whnf); intro l0 hl0; rw [hl0]; clear hl0; (conv => whnf)))
      refine condF (fun hw => ?_) (fun hw => ?_)
      · have hw : x.w = true := by simpa using hw
        conv => whnf
        repeat (first
          | (rw [dD_ld hD hY2 rfl (by decide)]; (conv => whnf))
          | (rw [dD_ldP hD hY2 rfl (by decide)]; (conv => whnf))
          | (rw [dD_ldQ hD hY2 rfl (by decide)]; (conv => whnf))
          | (rw [dD_st hD]; (case hg => rfl); (case hi => exact hY2); (case hc => rfl); (case hj => decide); (case h1 => rfl); (conv => whnf); refine mF (dD_obj hD _) ?_; (conv => whnf); intro l0 hl0; rw [hl0]; clear hl0; (conv => whnf)))
        refine condF (fun hz => ?_) (fun hz => ?_)
        · have ht : x.tick = { x with le := IntKind.i64.wrap (x.le - 1) } := by
            unfold Pl.tick
            rw [if_pos hw, if_neg (by simpa using hz)]
          conv => whnf
          refine ⟨⟨i + 1, hlt⟩, ⟨[], rfl, rfl, rfl, ⟨⟨rfl, rfl⟩, ⟨?_, rfl⟩, trivial⟩, ⟨⟨rfl, rfl, rfl⟩, ⟨dA_hok _ _, rfl, ?_⟩, trivial⟩⟩, by show X.length - (i + 1) < X.length - i; omega⟩
          · show AV.int .i64 (IntKind.i64.wrap ((i : Int) + 1)) = AV.int .i64 ((i + 1 : Nat) : Int)
            rw [s64 (by omega)]
          · rw [dA_ren, hset]
            exact congrArg some (dD_shut hD hY2 (by rw [ht]; rfl))
        · have ht : x.tick = ({ x with le := IntKind.i64.wrap (x.le - 1), w := false } : Pl).miss := by
            unfold Pl.tick
            rw [if_pos hw, if_pos (by simpa using hz)]
            rfl
          conv => whnf
          repeat (first
            | (rw [dD_ld hD hY2 rfl (by decide)]; (conv => whnf))
            | (rw [dD_ldP hD hY2 rfl (by decide)]; (conv => whnf))
            | (rw [dD_ldQ hD hY2 rfl (by decide)]; (conv => whnf))
            | (rw [dD_st hD]; (case hg => rfl); (case hi => exact hY2); (case hc => rfl); (case hj => decide); (case h1 => rfl); (conv => whnf); refine mF (dD_obj hD _) ?_; (conv => whnf); intro l0 hl0; rw [hl0]; clear hl0; (conv => whnf)))
          refine rowCall1 (h := 1) (dmiss_tr (Y.set i { x with le := IntKind.i64.wrap (x.le - 1), w := false }) i { x with le := IntKind.i64.wrap (x.le - 1), w := false } (by rw [List.length_set]; exact hY2) (List.getElem_set_self _) rfl) rfl rfl rfl (congrArg some (dD_shut hD hY2 rfl)) ?_
          rw [List.set_set]
          conv => whnf
          refine ⟨⟨i + 1, hlt⟩, ⟨[], rfl, rfl, rfl, ⟨⟨rfl, rfl⟩, ⟨?_, rfl⟩, trivial⟩, ⟨⟨rfl, rfl, rfl⟩, ⟨dA_hok _ _, rfl, ?_⟩, trivial⟩⟩, by show X.length - (i + 1) < X.length - i; omega⟩
          · show AV.int .i64 (IntKind.i64.wrap ((i : Int) + 1)) = AV.int .i64 ((i + 1 : Nat) : Int)
            rw [s64 (by omega)]
          · rw [dA_ren, hset]
            rw [ht]; rfl
      · have hw : x.w = false := by simpa using hw
        have ht : x.tick = x := by unfold Pl.tick; rw [if_neg (by rw [hw]; decide)]
        conv => whnf
        refine ⟨⟨i + 1, hlt⟩, ⟨[], rfl, rfl, rfl, ⟨⟨rfl, rfl⟩, ⟨?_, rfl⟩, trivial⟩, ⟨⟨rfl, rfl, rfl⟩, ⟨dA_hok _ _, rfl, ?_⟩, trivial⟩⟩, by show X.length - (i + 1) < X.length - i; omega⟩
        · show AV.int .i64 (IntKind.i64.wrap ((i : Int) + 1)) = AV.int .i64 ((i + 1 : Nat) : Int)
          rw [s64 (by omega)]
        · rw [dA_ren, hset]
          exact congrArg some (dD_shut hD hY2 (by rw [ht]))
    · obtain rfl : i = X.length := by omega
      refine condN (by simp) ?_
      conv => whnf
      refine ⟨rfl, rfl, ?_⟩
      show some (dA (upTo Pl.tick X X.length)) = _
      rw [upTo_all]
  · subst hv
    refine ⟨[], rfl, rfl, rfl, ⟨⟨rfl, rfl⟩, trivial⟩, ⟨⟨rfl, rfl, ?_⟩, ⟨dA_hok _ _, rfl, by rw [dA_ren]; exact h1⟩, trivial⟩⟩
    rw [List.length_map]; exact h0
end Go.Proofs.Ytomodeliimnddaa
set_option linter.unusedVariables false
set_option linter.unusedSimpArgs false
namespace Go.Proofs.Ytomodeliimnddaa
open Go.Ab
def a90 : ACode := (.seq (.reg [(iO 4 (.mov (.c (.int .i64 0))))])
 (.block 0 (.loop (.seq (.seq (.reg [(iM 8 4), (iM 9 0), (iN 10 9), (iF 11 0 10), (iL 12 11), (iO 13 (.len false (.t 12))), (iO 14 (.bin .lss .other (.t 8) (.t 13)))])
 (.cond (.t 14) .skip
 (.exit 0)))
 (.seq (.block 1 (.seq (.reg [(iM 17 0), (iN 18 17), (iF 19 0 18), (iL 20 19), (iM 21 4), (iO 22 (.idx 25 none true (.t 20) (.t 21))), (iO 23 (.load true 25 (.t 22))), (iO 5 (.alloc [(2, (.int .u8 0)), (1, (.int .u16 0)), (5, (.int .i64 0)), (1, (.bool false)), (2, (.int .i64 0)), (1, (.bool false)), (1, (.int .u16 0)), (1, (.int .u8 0)), (3, (.int .u16 0)), (2, .nils), (2, (.int .i64 0)), (2, (.bool false)), (2, .nils)])), ⟨none, .store 25 (.t 5) (.t 23), none, false⟩])
 (.seq (.seq (.reg [(iF 24 22 5), (iL 25 24), (iO 26 (.un .not (.t 25)))])
 (.cond (.t 26) (.exit 1)
 .skip))
 (.seq (.reg [(iO 6 (.mov (.c (.int .i64 0))))])
 (.block 2 (.loop (.seq (.seq (.reg [(iM 27 6), (iO 28 (.fld 0 8 true (.t 5))), (iF 29 3 28), (iL 30 29), (iO 31 (.bin .lss .other (.t 27) (.t 30)))])
 (.cond (.t 31) .skip
 (.exit 2)))
 (.seq (.block 3 (.seq (.reg [(iO 7 (.mov (.c (.int .u16 0))))])
 (.seq (.seq (.reg [(iO 34 (.fld 0 8 true (.t 5))), (iF 35 1 34), (iL 36 35), (iO 37 (.bin .leq .other (.t 36) (.c (.int .u8 2))))])
 (.cond (.t 37) (.seq (.reg [(iF 38 23 5), (iL 39 38), (iM 40 6), (iO 41 (.idx 1 none false (.t 39) (.t 40))), (iL 42 41)])
 (.cond (.t 42) (.reg [(iO 7 (.mov (.c (.int .u16 1))))])
 .skip))
 (.reg [(iF 43 24 5), (iL 44 43), (iM 45 6), (iO 46 (.idx 1 none false (.t 44) (.t 45))), (iL 47 46), (iM 7 47)])))
 (.draw [(zS 0 (iM 48 1)), (zS 1 (iO 49 (.fld 0 8 true (.t 5)))), (zS 2 (iF 50 1 49)), (zS 3 (iL 51 50)), (zS 5 (iO 53 (.fld 0 8 true (.t 5)))), (zS 6 (iF 54 4 53)), (zS 7 (iL 55 54)), (zS 8 (iM 56 6)), (zS 9 (iO 57 (.bin .add .other (.t 55) (.t 56)))), (zS 10 (iM 58 7)), ⟨4, (iO 52 (.call 129 [(.t 51)])), true, [], [(.t 54)]⟩, ⟨11, (iO 59 (.call 30 [(.t 48), (.t 52), (.t 57), (.t 58)])), true, [], []⟩]))))
 (.reg [(iM 32 6), (iO 33 (.bin .add .other (.t 32) (.c (.int .i64 1)))), (iM 6 33)])))))))))
 (.reg [(iM 15 4), (iO 16 (.bin .add .other (.t 15) (.c (.int .i64 1)))), (iM 4 16)]))))))
def r90 : List ARes := []
theorem c90 : compF Try.prog Try.f90 = some (a90, r90) := by kernel_rfl
theorem b90 : hasBody Try.prog 90 = true := by kernel_rfl
theorem g90 : Try.prog.funcs[90]? = some Try.f90 := by kernel_rfl
structure LOk (x : Pl) : Prop where
  ar : x.ar = areaS x.p.f
  n1 : 1 ≤ x.p.n
  n64 : x.p.n ≤ 64
  len : x.l = [] ∨ x.l.length = x.p.n.toNat
  bit : x.p.f ≤ 2 → ∀ v ∈ x.l, v = 0 ∨ v = 1
theorem dA_ldo {A : Chunk} {X : List Pl} {i j : Nat} (hA : A = dA X) (hi : i < X.length) (hj : j < 25) : A.ld false (0 + Int.toNat (i : Int) * 25 + j) 1 = (true, (dc X[i]).getD j .undef) := by
  subst hA; exact dA_ld hi hj (by simp)
theorem dA_ld25 {A : Chunk} {X : List Pl} {i : Nat} (hA : A = dA X) (hi : i < X.length) : A.ld true (0 + Int.toNat (i : Int) * 25) 25 = (true, .agg (dc X[i])) := by
  subst hA
  rw [dA_open hi, dR_ldn hi rfl (j := 0) (by decide) (by simp)]
  rfl
theorem bitD {x : Pl} {k : Nat} (h : x.p.f ≤ 2) (hb : ∀ v ∈ x.l, v = 0 ∨ v = 1) (hk : k < x.l.length) : (if (dB x).getD k false = true then (1 : Int) else 0) = x.l.getD k 0 := by
  unfold dB
  rw [if_pos h, List.getD_eq_getElem?_getD, List.getD_eq_getElem?_getD, List.getElem?_map, List.getElem?_eq_getElem hk]
  show (if (x.l[k] != 0) = true then (1 : Int) else 0) = x.l[k]
  rcases hb _ (List.getElem_mem hk) with e | e <;> rw [e] <;> rfl
theorem dB_len {x : Pl} (h : x.p.f ≤ 2) : (dB x).length = x.l.length := by unfold dB; rw [if_pos h, List.length_map]
theorem dN_eq {x : Pl} (h : ¬ x.p.f ≤ 2) : dN x = x.l := by unfold dN; rw [if_neg h]
set_option maxRecDepth 20000 in
theorem dLatch_tr (X : List Pl) (next : Int) (J : Img) (hX : X.length ≤ 36) (hl : ∀ x ∈ X, LOk x) : Tr Try.prog 90 [.ptr 0 0, .ptr 2 0] ⟨3, [(0, some (dM X.length next .nils)), (1, some (dA X)), (2, some (rmC J))]⟩ fun v s => v = .tup [] ∧ s = ⟨3, [(0, some (dM X.length next .nils)), (1, some (dA X)), (2, some (rmC (latchN J X X.length)))]⟩ := by
  obtain ⟨A, hA⟩ : ∃ A, A = dA X := ⟨_, rfl⟩
  have hAh : ∀ N ρ, A.hok N ρ := fun N ρ => hA ▸ dA_hok N ρ
  have hAr : ∀ ρ, A.ren ρ = A := fun ρ => hA ▸ dA_ren ρ
  rw [← hA]
  refine Tr.norm (K := fun v s => v = .tup [] ∧ s.get 0 = some (dM X.length next .nils) ∧ s.get 1 = some A ∧ s.get 2 = some (rmC (latchN J X X.length))) (trF g90 b90 c90 ?_) fun v s ⟨hv, h0, h1, h2⟩ => ⟨_, ⟨3, [(0, some (dM X.length next .nils)), (1, some A), (2, some (rmC (latchN J X X.length)))]⟩, ?_, rfl, rfl⟩
  · conv => whnf
    refine loopI (α := {i : Nat // i ≤ X.length}) (fun i => [(0, .ptr 0 0), (1, .ptr 2 0), (4, .int .i64 i.1)]) (fun i => ⟨3, [(0, some (dM X.length next .nils)), (1, some A), (2, some (rmC (latchN J X i.1)))]⟩) (fun i => X.length - i.1) ⟨0, Nat.zero_le _⟩
      ⟨[], rfl, rfl, rfl, ⟨⟨rfl, rfl⟩, ⟨rfl, rfl⟩, ⟨rfl, rfl⟩, trivial⟩, ⟨⟨rfl, rfl, rfl⟩, ⟨hAh _ _, rfl, by rw [hAr]; rfl⟩, ⟨trivial, rfl, rfl⟩, trivial⟩⟩ fun ⟨i, hi⟩ => ?_
    conv => whnf
    by_cases hlt : i < X.length
    · have hx := hl _ (List.getElem_mem hlt)
      have hnx : latchN J X (i + 1) = putL (latchN J X i) X[i] X[i].l.length := by
        show (match X[i]? with
          | some x => putL (latchN J X i) x x.l.length
          | none => latchN J X i) = _
        rw [List.getElem?_eq_getElem hlt]
      have hld := dA_ld25 hA hlt
      generalize X[i] = x at *
      generalize latchN J X i = J0 at *
      refine condY (by simp; omega) ?_
      conv => whnf
      refine condT (by simp; omega) ?_
      conv => whnf
      rw [hld]
      conv => whnf
      refine condF (fun he => ?_) (fun he => ?_)
      · have hlen : x.l.length = x.p.n.toNat := by
          rcases hx.len with e | e
          · rw [e] at he; exact absurd he (by decide)
          · exact e
        have n1 := hx.n1
        have n64 := hx.n64
        conv => whnf
        refine loopI (α := {k : Nat // k ≤ x.l.length}) (fun k => [(0, .ptr 0 0), (1, .ptr 2 0), (4, .int .i64 i), (5, .ptr 3 0), (6, .int .i64 k.1)]) (fun k => ⟨4, [(0, some (dM X.length next .nils)), (1, some A), (2, some (rmC (putL J0 x k.1))), (3, some (.obj (dc x)))]⟩) (fun k => x.l.length - k.1) ⟨0, Nat.zero_le _⟩
          ⟨[], rfl, rfl, rfl, ⟨⟨rfl, rfl⟩, ⟨rfl, rfl⟩, ⟨rfl, rfl⟩, ⟨rfl, rfl⟩, ⟨rfl, rfl⟩, trivial⟩, ⟨⟨rfl, rfl, rfl⟩, ⟨hAh _ _, rfl, by rw [hAr]; rfl⟩, ⟨trivial, rfl, rfl⟩, ⟨rfl, rfl, rfl⟩, trivial⟩⟩ fun ⟨k, hk⟩ => ?_
        conv => whnf
        by_cases hkt : k < x.l.length
        · refine condY (by simp; omega) ?_
          conv => whnf
          by_cases hf : x.p.f ≤ 2
          · refine condY (by simpa using hf) ?_
            conv => whnf
            have hdl := dB_len hf
            refine condT (by simp; omega) ?_
            conv => whnf
            have hbd := bitD hf (hx.bit hf) hkt
            refine condF (fun hv => ?_) (fun hv => ?_)
            · rw [if_neg (by rw [show (dB x).getD k false = false from hv]; decide)] at hbd
              conv => whnf
              refine Ev.call (darea_ev _) ?_
              conv => whnf
              first | (refine ⟨rfl, ?_⟩; (conv => whnf)) | skip
              refine blkCall (h := 2) (rPut_tr (putL J0 x k) (areaS x.p.f) (IntKind.i64.wrap (x.p.p + (k : Int))) 0) rfl rfl rfl ?_
              conv => whnf
              refine ⟨⟨k + 1, hkt⟩, ⟨[], rfl, rfl, rfl, ⟨⟨rfl, rfl⟩, ⟨rfl, rfl⟩, ⟨rfl, rfl⟩, ⟨rfl, rfl⟩, ⟨?_, rfl⟩, trivial⟩, ⟨⟨rfl, rfl, rfl⟩, ⟨hAh _ _, rfl, by rw [hAr]; rfl⟩, ⟨trivial, rfl, ?_⟩, ⟨rfl, rfl, rfl⟩, trivial⟩⟩, by show x.l.length - (k + 1) < x.l.length - k; omega⟩
              · show AV.int .i64 (IntKind.i64.wrap ((k : Int) + 1)) = AV.int .i64 ((k + 1 : Nat) : Int)
                rw [s64 (by omega)]
              · show some (rmC ((putL J0 x k).put (areaS x.p.f) (IntKind.i64.wrap (x.p.p + (k : Int))) 0)) = some (rmC (putL J0 x (k + 1)))
                rw [← hx.ar, hbd]
                rfl
            · rw [if_pos (show (dB x).getD k false = true from hv)] at hbd
              conv => whnf
              refine Ev.call (darea_ev _) ?_
              conv => whnf
              first | (refine ⟨rfl, ?_⟩; (conv => whnf)) | skip
              refine blkCall (h := 2) (rPut_tr (putL J0 x k) (areaS x.p.f) (IntKind.i64.wrap (x.p.p + (k : Int))) 1) rfl rfl rfl ?_
              conv => whnf
              refine ⟨⟨k + 1, hkt⟩, ⟨[], rfl, rfl, rfl, ⟨⟨rfl, rfl⟩, ⟨rfl, rfl⟩, ⟨rfl, rfl⟩, ⟨rfl, rfl⟩, ⟨?_, rfl⟩, trivial⟩, ⟨⟨rfl, rfl, rfl⟩, ⟨hAh _ _, rfl, by rw [hAr]; rfl⟩, ⟨trivial, rfl, ?_⟩, ⟨rfl, rfl, rfl⟩, trivial⟩⟩, by show x.l.length - (k + 1) < x.l.length - k; omega⟩
              · show AV.int .i64 (IntKind.i64.wrap ((k : Int) + 1)) = AV.int .i64 ((k + 1 : Nat) : Int)
                rw [s64 (by omega)]
              · show some (rmC ((putL J0 x k).put (areaS x.p.f) (IntKind.i64.wrap (x.p.p + (k : Int))) 1)) = some (rmC (putL J0 x (k + 1)))
                rw [← hx.ar, hbd]
                rfl
          · refine condN (by simpa using hf) ?_
            conv => whnf
            rw [dN_eq hf]
            refine condT (by simp; omega) ?_
            conv => whnf
            refine Ev.call (darea_ev _) ?_
            conv => whnf
            first | (refine ⟨rfl, ?_⟩; (conv => whnf)) | skip
            refine blkCall (h := 2) (rPut_tr (putL J0 x k) (areaS x.p.f) (IntKind.i64.wrap (x.p.p + (k : Int))) (x.l.getD k 0)) rfl rfl rfl ?_
            conv => whnf
            refine ⟨⟨k + 1, hkt⟩, ⟨[], rfl, rfl, rfl, ⟨⟨rfl, rfl⟩, ⟨rfl, rfl⟩, ⟨rfl, rfl⟩, ⟨rfl, rfl⟩, ⟨?_, rfl⟩, trivial⟩, ⟨⟨rfl, rfl, rfl⟩, ⟨hAh _ _, rfl, by rw [hAr]; rfl⟩, ⟨trivial, rfl, ?_⟩, ⟨rfl, rfl, rfl⟩, trivial⟩⟩, by show x.l.length - (k + 1) < x.l.length - k; omega⟩
            · show AV.int .i64 (IntKind.i64.wrap ((k : Int) + 1)) = AV.int .i64 ((k + 1 : Nat) : Int)
              rw [s64 (by omega)]
            · show some (rmC ((putL J0 x k).put (areaS x.p.f) (IntKind.i64.wrap (x.p.p + (k : Int))) (x.l.getD k 0))) = some (rmC (putL J0 x (k + 1)))
              rw [← hx.ar]
              rfl
        · obtain rfl : k = x.l.length := by omega
          refine condN (by simp; omega) ?_
          conv => whnf
          refine ⟨⟨i + 1, hlt⟩, ⟨[], rfl, rfl, rfl, ⟨⟨rfl, rfl⟩, ⟨rfl, rfl⟩, ⟨?_, rfl⟩, trivial⟩, ⟨⟨rfl, rfl, rfl⟩, ⟨hAh _ _, rfl, by rw [hAr]; rfl⟩, ⟨trivial, rfl, ?_⟩, trivial⟩⟩, by show X.length - (i + 1) < X.length - i; omega⟩
          · show AV.int .i64 (IntKind.i64.wrap ((i : Int) + 1)) = AV.int .i64 ((i + 1 : Nat) : Int)
            rw [s64 (by omega)]
          · rw [hnx]; rfl
      · have he : x.l = [] := by simpa using he
        conv => whnf
        refine ⟨⟨i + 1, hlt⟩, ⟨[], rfl, rfl, rfl, ⟨⟨rfl, rfl⟩, ⟨rfl, rfl⟩, ⟨?_, rfl⟩, trivial⟩, ⟨⟨rfl, rfl, rfl⟩, ⟨hAh _ _, rfl, by rw [hAr]; rfl⟩, ⟨trivial, rfl, ?_⟩, trivial⟩⟩, by show X.length - (i + 1) < X.length - i; omega⟩
        · show AV.int .i64 (IntKind.i64.wrap ((i : Int) + 1)) = AV.int .i64 ((i + 1 : Nat) : Int)
          rw [s64 (by omega)]
        · rw [hnx, he]; rfl
    · obtain rfl : i = X.length := by omega
      refine condN (by simp) ?_
      conv => whnf
      exact ⟨rfl, rfl, rfl, rfl⟩
  · subst hv
    exact ⟨[], rfl, rfl, rfl, ⟨⟨rfl, rfl⟩, trivial⟩, ⟨⟨rfl, rfl, h0⟩, ⟨hAh _ _, rfl, by rw [hAr]; exact h1⟩, ⟨trivial, rfl, h2⟩, trivial⟩⟩
end Go.Proofs.Ytomodeliimnddaa
set_option linter.unusedVariables false
set_option linter.unusedSimpArgs false
namespace Go.Proofs.Ytomodeliimnddaa
open Go.Ab
def a116 : ACode := (.seq (.reg [(iO 4 (.mov (.c (.int .u16 0))))])
 (.seq (.draw [(zS 0 (iM 5 0)), (zS 1 (iM 6 1)), (zS 2 (iO 7 (.idx 1 none false (.t 5) (.t 6)))), (zS 3 (iL 8 7)), (zS 4 (iO 9 (.conv (.int .u16) (.t 8)))), (zS 5 (iO 10 (.bin .shl .other (.t 9) (.c (.int .u64 8))))), (zS 6 (iM 11 0)), (zS 7 (iM 12 1)), (zS 8 (iO 13 (.bin .add .other (.t 12) (.c (.int .i64 1))))), (zS 9 (iO 14 (.idx 1 none false (.t 11) (.t 13)))), (zS 10 (iL 15 14)), (zS 11 (iO 16 (.conv (.int .u16) (.t 15)))), (zS 12 (iO 17 (.bin .or .other (.t 10) (.t 16)))), (zS 13 (iM 4 17))])
 .ret))
def r116 : List ARes := [.t 4]
theorem c116 : compF Try.prog Try.f116 = some (a116, r116) := by kernel_rfl
theorem b116 : hasBody Try.prog 116 = true := by kernel_rfl
theorem g116 : Try.prog.funcs[116]? = some Try.f116 := by kernel_rfl
def a117 : ACode := (.seq (.reg [(iO 2 (.mov (.c .nils)))])
 (.seq (.reg [(iO 3 (.mov (.c .nils)))])
 (.seq (.seq (.reg [(iO 4 (.mov (.c (.int .i64 0))))])
 (.block 0 (.loop (.seq (.seq (.reg [(iM 5 4), (iO 6 (.bin .add .other (.t 5) (.c (.int .i64 1)))), (iM 7 0), (iO 8 (.len false (.t 7))), (iO 9 (.bin .lss .other (.t 6) (.t 8)))])
 (.cond (.t 9) .skip
 (.exit 0)))
 (.seq (.block 1 (.reg [(iM 12 3), (iM 13 0), (iM 14 4), (iO 15 (.call 116 [(.t 13), (.t 14)])), (iO 16 (.bslice 1 (.int .u16) [(.int .u16 0)] [(0, 1, (.t 15))] 1)), (iO 17 (.app 1 2 (.t 12) (.t 16))), (iM 3 17)]))
 (.reg [(iM 10 4), (iO 11 (.bin .add .other (.t 10) (.c (.int .i64 2)))), (iM 4 11)]))))))
 (.seq (.reg [(iM 18 3), (iM 2 18)])
 .ret))))
def r117 : List ARes := [.t 2]
theorem c117 : compF Try.prog Try.f117 = some (a117, r117) := by kernel_rfl
theorem b117 : hasBody Try.prog 117 = true := by kernel_rfl
theorem g117 : Try.prog.funcs[117]? = some Try.f117 := by kernel_rfl
def a54 : ACode := (.seq (.reg [(iO 2 (.alloc [(1, (.int .u8 0)), (3, (.int .u16 0)), (2, .nils)])), (iO 3 (.mov (.c (.int .i64 0))))])
 (.seq (.seq (.reg [(iM 10 0), (iO 11 (.len false (.t 10))), (iO 12 (.bin .lss .other (.t 11) (.c (.int .i64 5))))])
 (.cond (.t 12) (.seq (.reg [(iO 13 (.build [(.int .u8 0), (.int .u16 0), (.int .u16 0), (.int .u16 0), .nils, .nils] [])), ⟨none, .store 6 (.t 2) (.t 13), none, false⟩, (iO 3 (.mov (.c (.int .i64 30))))])
 .ret)
 .skip))
 (.seq (.draw [(zS 0 (iM 14 0)), (zS 1 (iO 15 (.idx 1 none false (.t 14) (.c (.int .i64 0))))), (zS 2 (iL 16 15)), (zS 3 (iM 17 0)), (zS 6 (iO 4 (.alloc [(1, (.int .u8 0)), (3, (.int .u16 0)), (2, .nils)]))), ⟨4, (iO 18 (.call 116 [(.t 17), (.c (.int .i64 1))])), true, [], [(.t 15)]⟩, (zS 5 (iO 19 (.build [(.int .u8 0), (.int .u16 0), (.int .u16 0), (.int .u16 0), .nils, .nils] [(0, 1, (.t 16)), (1, 1, (.t 18))]))), ⟨7, ⟨none, .store 6 (.t 4) (.t 19), none, false⟩, true, [6], []⟩])
 (.seq (.reg [(iM 20 0), (iO 21 (.call 116 [(.t 20), (.c (.int .i64 3))])), (iM 5 21)])
 (.seq (.reg [(iO 6 (.mov (.c (.bool false))))])
 (.seq (.seq (.reg [(iF 22 0 4), (iL 23 22)])
 (.block 0 (.seq (.seq (.reg [(iO 25 (.bin .eql .other (.t 23) (.c (.int .u8 1)))), (iM 24 25)])
 (.cond (.t 24) .skip
 (.seq (.reg [(iO 26 (.bin .eql .other (.t 23) (.c (.int .u8 2)))), (iM 24 26)])
 (.cond (.t 24) .skip
 (.seq (.reg [(iO 27 (.bin .eql .other (.t 23) (.c (.int .u8 3)))), (iM 24 27)])
 (.cond (.t 24) .skip
 (.reg [(iO 28 (.bin .eql .other (.t 23) (.c (.int .u8 4)))), (iM 24 28)])))))))
 (.cond (.t 24) (.reg [(iM 29 5), (iF 30 2 4), ⟨none, .store 1 (.t 30) (.t 29), none, false⟩])
 (.seq (.reg [(iO 32 (.bin .eql .other (.t 23) (.c (.int .u8 5)))), (iM 31 32)])
 (.cond (.t 31) (.reg [(iM 33 5), (iO 34 (.bin .eql .other (.t 33) (.c (.int .u16 65280)))), (iO 35 (.bslice 1 .bool [(.bool false)] [(0, 1, (.t 34))] 1)), (iF 36 4 4), ⟨none, .store 1 (.t 36) (.t 35), none, false⟩])
 (.seq (.reg [(iO 38 (.bin .eql .other (.t 23) (.c (.int .u8 6)))), (iM 37 38)])
 (.cond (.t 37) (.reg [(iM 39 5), (iO 40 (.bslice 1 (.int .u16) [(.int .u16 0)] [(0, 1, (.t 39))] 1)), (iF 41 5 4), ⟨none, .store 1 (.t 41) (.t 40), none, false⟩])
 (.seq (.reg [(iO 43 (.bin .eql .other (.t 23) (.c (.int .u8 15)))), (iM 42 43)])
 (.cond (.t 42) (.seq (.seq (.reg [(iM 44 0), (iO 45 (.len false (.t 44))), (iO 46 (.bin .lss .other (.t 45) (.c (.int .i64 6)))), ⟨(some 47), .mov (.t 46), none, true⟩, (iG 48 (.mov (.t 5)) 47 false), (iG 49 (.bin .lss .other (.t 48) (.c (.int .u16 1))) 47 false), (iO 50 (.pick (.t 47) (.c (.bool true)) (.t 49))), ⟨(some 51), .mov (.t 50), none, true⟩, (iG 52 (.mov (.t 5)) 51 false), (iG 53 (.bin .gtr .other (.t 52) (.c (.int .u16 1968))) 51 false), (iO 54 (.pick (.t 51) (.c (.bool true)) (.t 53))), ⟨(some 55), .mov (.t 54), none, true⟩, (iG 56 (.mov (.t 0)) 55 false), (iG 57 (.len false (.t 56)) 55 false), (iG 58 (.mov (.t 0)) 55 false), (iG 59 (.idx 1 none false (.t 58) (.c (.int .i64 5))) 55 false), (iG 60 (.load false 1 (.t 59)) 55 false), (iG 61 (.conv (.int .i64) (.t 60)) 55 false), (iG 62 (.bin .add .other (.c (.int .i64 6)) (.t 61)) 55 false), (iG 63 (.bin .neq .other (.t 57) (.t 62)) 55 false), (iO 64 (.pick (.t 55) (.c (.bool true)) (.t 63)))])
 (.cond (.t 64) (.seq (.reg [(iO 65 (.build [(.int .u8 0), (.int .u16 0), (.int .u16 0), (.int .u16 0), .nils, .nils] [])), ⟨none, .store 6 (.t 2) (.t 65), none, false⟩, (iO 3 (.mov (.c (.int .i64 30))))])
 .ret)
 .skip))
 (.reg [(iM 66 0), (iO 67 (.slice (.sl 1) (.t 66) (some (.c (.int .i64 6))) none)), (iM 68 5), (iO 69 (.conv (.int .i64) (.t 68))), (iO 70 (.call 67 [(.t 67), (.t 69)])), (iF 71 4 4), ⟨none, .store 1 (.t 71) (.t 70), none, false⟩, (iO 6 (.mov (.c (.bool true))))]))
 (.seq (.reg [(iO 73 (.bin .eql .other (.t 23) (.c (.int .u8 16)))), (iM 72 73)])
 (.cond (.t 72) (.seq (.seq (.reg [(iM 74 0), (iO 75 (.len false (.t 74))), (iO 76 (.bin .lss .other (.t 75) (.c (.int .i64 6))))])
 (.cond (.t 76) (.seq (.reg [(iO 77 (.build [(.int .u8 0), (.int .u16 0), (.int .u16 0), (.int .u16 0), .nils, .nils] [])), ⟨none, .store 6 (.t 2) (.t 77), none, false⟩, (iO 3 (.mov (.c (.int .i64 30))))])
 .ret)
 .skip))
 (.reg [(iM 78 0), (iO 79 (.slice (.sl 1) (.t 78) (some (.c (.int .i64 6))) none)), (iO 80 (.call 117 [(.t 79)])), (iF 81 5 4), ⟨none, .store 1 (.t 81) (.t 80), none, false⟩]))
 (.seq (.reg [(iO 83 (.bin .eql .other (.t 23) (.c (.int .u8 22)))), (iM 82 83)])
 (.cond (.t 82) (.reg [(iM 84 0), (iO 85 (.slice (.sl 1) (.t 84) (some (.c (.int .i64 3))) none)), (iO 86 (.call 117 [(.t 85)])), (iF 87 5 4), ⟨none, .store 1 (.t 87) (.t 86), none, false⟩])
 (.seq (.reg [(iO 89 (.bin .eql .other (.t 23) (.c (.int .u8 23)))), (iM 88 89)])
 (.cond (.t 88) (.seq (.seq (.reg [(iM 90 0), (iO 91 (.len false (.t 90))), (iO 92 (.bin .lss .other (.t 91) (.c (.int .i64 10))))])
 (.cond (.t 92) (.seq (.reg [(iO 93 (.build [(.int .u8 0), (.int .u16 0), (.int .u16 0), (.int .u16 0), .nils, .nils] [])), ⟨none, .store 6 (.t 2) (.t 93), none, false⟩, (iO 3 (.mov (.c (.int .i64 30))))])
 .ret)
 .skip))
 (.draw [(zS 0 (iM 94 5)), (zS 1 (iM 95 0)), (zS 3 (iM 97 0)), (zS 4 (iO 98 (.slice (.sl 1) (.t 97) (some (.c (.int .i64 10))) none))), (zS 6 (iF 100 2 4)), ⟨2, (iO 96 (.call 116 [(.t 95), (.c (.int .i64 5))])), true, [], []⟩, ⟨5, (iO 99 (.call 117 [(.t 98)])), true, [], []⟩, ⟨7, ⟨none, .store 1 (.t 100) (.t 94), none, false⟩, true, [], []⟩, (zS 8 (iF 101 3 4)), ⟨9, ⟨none, .store 1 (.t 101) (.t 96), none, false⟩, true, [], []⟩, (zS 10 (iF 102 5 4)), ⟨11, ⟨none, .store 1 (.t 102) (.t 99), none, false⟩, true, [], []⟩]))
 .skip))))))))))))))))
 (.seq (.reg [(iO 104 (.load true 6 (.t 4))), (iO 105 (.call 49 [(.t 104)])), (iM 103 105), (iO 106 (.ext (.t 103) 0)), (iO 107 (.ext (.t 103) 1)), (iM 7 106), (iM 8 107)])
 (.seq (.seq (.reg [(iM 108 8), (iO 109 (.bin .neq .other (.t 108) (.c (.int .i64 0)))), ⟨(some 110), .mov (.t 109), none, true⟩, (iG 111 (.mov (.t 7)) 110 false), (iG 112 (.len false (.t 111)) 110 false), (iG 113 (.mov (.t 0)) 110 false), (iG 114 (.len false (.t 113)) 110 false), (iG 115 (.bin .neq .other (.t 112) (.t 114)) 110 false), (iO 116 (.pick (.t 110) (.c (.bool true)) (.t 115)))])
 (.cond (.t 116) (.seq (.reg [(iO 117 (.build [(.int .u8 0), (.int .u16 0), (.int .u16 0), (.int .u16 0), .nils, .nils] [])), ⟨none, .store 6 (.t 2) (.t 117), none, false⟩, (iO 3 (.mov (.c (.int .i64 30))))])
 .ret)
 .skip))
 (.seq (.seq (.reg [(iO 9 (.mov (.c (.int .i64 0))))])
 (.block 1 (.loop (.seq (.seq (.reg [(iM 118 9), (iM 119 0), (iO 120 (.len false (.t 119))), (iO 121 (.bin .lss .other (.t 118) (.t 120)))])
 (.cond (.t 121) .skip
 (.exit 1)))
 (.seq (.block 2 (.seq (.draw [(zS 0 (iM 124 7)), (zS 1 (iM 125 9)), (zS 2 (iO 126 (.idx 1 none false (.t 124) (.t 125)))), (zS 3 (iL 127 126)), (zS 4 (iM 128 0)), (zS 5 (iM 129 9)), (zS 6 (iO 130 (.idx 1 none false (.t 128) (.t 129)))), (zS 7 (iL 131 130)), (zS 8 (iO 132 (.bin .neq .other (.t 127) (.t 131)))), ⟨9, ⟨(some 133), .mov (.t 132), none, true⟩, false, [], []⟩, (zS 10 (iG 134 (.mov (.t 6)) 133 true)), ⟨11, ⟨(some 135), .mov (.t 134), (some (133, true)), true⟩, false, [], []⟩, (zS 12 (iG 136 (.mov (.t 9)) 135 true)), (zS 13 (iG 137 (.mov (.t 0)) 135 true)), (zS 14 (iG 138 (.len false (.t 137)) 135 true)), (zS 15 (iG 139 (.bin .sub .other (.t 138) (.c (.int .i64 1))) 135 true)), (zS 16 (iG 140 (.bin .eql .other (.t 136) (.t 139)) 135 true)), (zS 17 (iG 141 (.pick (.t 135) (.t 140) (.c (.bool false))) 133 true)), (zS 18 (iG 142 (.un .not (.t 141)) 133 true)), (zS 19 (iO 143 (.pick (.t 133) (.t 142) (.c (.bool false)))))])
 (.cond (.t 143) (.seq (.reg [(iO 144 (.build [(.int .u8 0), (.int .u16 0), (.int .u16 0), (.int .u16 0), .nils, .nils] [])), ⟨none, .store 6 (.t 2) (.t 144), none, false⟩, (iO 3 (.mov (.c (.int .i64 30))))])
 .ret)
 .skip)))
 (.reg [(iM 122 9), (iO 123 (.bin .add .other (.t 122) (.c (.int .i64 1)))), (iM 9 123)]))))))
 (.seq (.reg [(iO 145 (.load true 6 (.t 4))), ⟨none, .store 6 (.t 2) (.t 145), none, false⟩, (iO 3 (.mov (.c (.int .i64 0))))])
 .ret))))))))))
def r54 : List ARes := [.cell 2 true 6, .t 3]
theorem c54 : compF Try.prog Try.f54 = some (a54, r54) := by kernel_rfl
theorem b54 : hasBody Try.prog 54 = true := by kernel_rfl
theorem g54 : Try.prog.funcs[54]? = some Try.f54 := by kernel_rfl
theorem at_ev (l : List Int) (i : Nat) (h : i + 1 < l.length) (hl : l.length ≤ 100000) : Ev Try.prog 116 [.roI .u8 l, .int .i64 i] (.int .u16 (numAt l i)) := by
  refine FrzK.ev rfl (trF g116 b116 c116 ?_)
  have h1 : IntKind.i64.wrap ((i : Int) + 1) = ((i + 1 : Nat) : Int) := by rw [IntWalk.i64_in _ (by omega)]; rfl
  conv => whnf
  refine condT (by simp; omega) ?_
  conv => whnf
  refine condT (by simp only [h1]; simp; omega) ?_
  conv => whnf
  simp only [h1]
  exact FrzK.le (Le.refl _)
theorem at_ev' (l : List Int) (i : Int) (k : Nat) (hk : i = k) (h : k + 1 < l.length) (hl : l.length ≤ 100000) : Ev Try.prog 116 [.roI .u8 l, .int .i64 i] (.int .u16 (numAt l k)) := by subst hk; exact at_ev l k h hl
theorem rregs_tr (l : List Int) (hl : l.length ≤ 100000) : Tr Try.prog 117 [.roI .u8 l] ⟨0, []⟩ fun v s => v = .sl 1 0 0 (numsN l (l.length / 2)).length ∧ s = ⟨1, [(0, some (.rowI .u16 (numsN l (l.length / 2))))]⟩ := by
  refine Tr.norm (K := fun v s => (∃ h, v = .sl 1 h 0 (numsN l (l.length / 2)).length ∧ s.get h = some (.rowI .u16 (numsN l (l.length / 2)))) ∨ (numsN l (l.length / 2) = [] ∧ v = .nils)) ?_ fun v s h => ?_
  · refine trF g117 b117 c117 ?_
    conv => whnf
    refine loopI (α := {i : Nat // i ≤ l.length / 2}) (fun i => [(0, .roI .u8 l), (3, .sl 1 0 0 i.1), (4, .int .i64 (2 * i.1 : Nat))]) (fun i => ⟨1, [(0, some (.rowI .u16 (numsN l i.1)))]⟩) (fun i => l.length / 2 - i.1) ⟨0, Nat.zero_le _⟩
      ⟨[(0, none)], rfl, rfl, rfl, ⟨⟨rfl, rfl⟩, ⟨rfl, rfl⟩, ⟨rfl, rfl⟩, trivial⟩, ⟨trivial, rfl, rfl⟩, trivial⟩ fun ⟨i, hi⟩ => ?_
    conv => whnf
    have h1 : IntKind.i64.wrap (((2 * i : Nat) : Int) + 1) = ((2 * i + 1 : Nat) : Int) := by rw [IntWalk.i64_in _ (by omega)]; rfl
    have h2 : IntKind.i64.wrap (((2 * i : Nat) : Int) + 2) = ((2 * (i + 1) : Nat) : Int) := by rw [IntWalk.i64_in _ (by omega)]; rfl
    by_cases hlt : i < l.length / 2
    · refine condY (by simp only [h1]; simp; omega) ?_
      conv => whnf
      refine Ev.call (at_ev l (2 * i) (by omega) hl) ?_
      conv => whnf
      refine condT (by simp [numsN_length]; omega) ?_
      conv => whnf
      refine ⟨⟨i + 1, hlt⟩, ⟨[(0, some 2)], rfl, rfl, rfl, ⟨⟨rfl, rfl⟩, ⟨rfl, rfl⟩, ⟨?_, rfl⟩, trivial⟩, ⟨⟨trivial, rfl, ?_⟩, trivial⟩⟩, by show l.length / 2 - (i + 1) < l.length / 2 - i; omega⟩
      · show AV.int .i64 (IntKind.i64.wrap (((2 * i : Nat) : Int) + 2)) = AV.int .i64 ((2 * (i + 1) : Nat) : Int)
        rw [h2]
      · show some (Chunk.rowI .u16 (List.take i (List.drop 0 (numsN l i)) ++ List.take 1 (List.drop 0 [numAt l (2 * i)]))) = some (Chunk.rowI .u16 (numsN l (i + 1)))
        rw [List.drop_zero, List.take_of_length_le (by rw [numsN_length]; omega)]
        rfl
    · refine condN (by simp only [h1]; simp; omega) ?_
      conv => whnf
      have : i = l.length / 2 := by omega
      subst this
      exact .inl ⟨0, by rw [numsN_length], rfl⟩
  · refine ⟨_, _, ?_, rfl, rfl⟩
    rcases h with ⟨h, rfl, hg⟩ | ⟨hn, rfl⟩
    · exact ⟨[(0, some h)], rfl, rfl, rfl, ⟨⟨rfl, rfl⟩, trivial⟩, ⟨⟨trivial, rfl, hg⟩, trivial⟩⟩
    · rw [hn]
      exact ⟨[(0, none)], rfl, rfl, rfl, ⟨⟨rfl, rfl⟩, trivial⟩, ⟨⟨trivial, rfl, rfl⟩, trivial⟩⟩
theorem rregs_ev (l : List Int) (hl : l.length ≤ 100000) : Ev Try.prog 117 [.roI .u8 l] (.roI .u16 (numsN l (l.length / 2))) := Ev.row rfl (rregs_tr l hl)
theorem rbits_ev (l : List Int) (n : Int) (hl : l.length ≤ 100000) : Ev Try.prog 67 [.roI .u8 l, .int .i64 n] (.roB (bitsA l (bitsK n))) := by
  refine Ev.rowB rfl ?_
  rw [bitsA_length]
  exact rbits_tr l n hl
def rOpenT (f a v : Int) (l : List Int) : Option (Rq × Bool) :=
  if f == 1 then some (⟨f, a, v, 0, [], []⟩, false)
  else if f == 2 then some (⟨f, a, v, 0, [], []⟩, false)
  else if f == 3 then some (⟨f, a, v, 0, [], []⟩, false)
  else if f == 4 then some (⟨f, a, v, 0, [], []⟩, false)
  else if f == 5 then some (⟨f, a, 0, 0, [v == 65280], []⟩, false)
  else if f == 6 then some (⟨f, a, 0, 0, [], [v]⟩, false)
  else if f == 15 then (if decide ((l.length : Int) < 6) || decide (v < 1) || decide (v > 1968) || (l.length : Int) != IntKind.i64.wrap (6 + IntKind.i64.wrap (l.getD 5 0)) then none else some (⟨f, a, 0, 0, bitsA (cutF l 6) (bitsK (IntKind.i64.wrap v)), []⟩, true))
  else if f == 16 then (if decide ((l.length : Int) < 6) then none else some (⟨f, a, 0, 0, [], numsN (cutF l 6) ((cutF l 6).length / 2)⟩, false))
  else if f == 22 then some (⟨f, a, 0, 0, [], numsN (cutF l 3) ((cutF l 3).length / 2)⟩, false)
  else if f == 23 then (if decide ((l.length : Int) < 10) then none else some (⟨f, a, v, numAt l 5, [], numsN (cutF l 10) ((cutF l 10).length / 2)⟩, false))
  else some (⟨f, a, 0, 0, [], []⟩, false)
def rOpenS (l : List Int) : Option (Rq × Bool) := if decide ((l.length : Int) < 5) then none else rOpenT (l.getD 0 0) (numAt l 1) (numAt l 3) l
def agreeB (row l : List Int) (sp : Bool) (j : Nat) : Bool := row.getD j 0 == l.getD j 0 || (sp && (j : Int) == ((l.length - 1 : Nat) : Int))
def decT (l : List Int) (o : Option (Rq × Bool)) : Rq × Int :=
  match o with
  | none => (Rq.zero, 30)
  | some (q, sp) => if encE q.f q.n q.a2 q.b q.r == 0 && ((encR q.f q.a q.n q.a2 q.b q.r).length : Int) == l.length && (List.range l.length).all (agreeB (encR q.f q.a q.n q.a2 q.b q.r) l sp) then (q, 0) else (Rq.zero, 30)
def decR (l : List Int) : Rq × Int := decT l (rOpenS l)
def OkR (o : Option (Rq × Bool)) : Prop := ∀ q sp, o = some (q, sp) → InR q
theorem rOpenT_range (f a v : Int) (l : List Int) (hv : 0 ≤ v ∧ v < 65536) (hl : l.length ≤ 1000) : OkR (rOpenT f a v l) := by
  intro q sp
  have h2 := bitsK_le (IntKind.i64.wrap v)
  unfold rOpenT
  by_cases h1 : (f == 1) = true
  · rw [if_pos h1]; (intro h; first | (simp only [Option.some.injEq, Prod.mk.injEq] at h; obtain ⟨rfl, _⟩ := h; simp only [InR, hv.1, hv.2, numAt0, numAtL, bitsA_length, numsN_length, cutF_eq, List.length_nil, List.length_cons, List.length_drop, true_and]; omega) | (simp only [Option.some.injEq, Prod.mk.injEq] at h; obtain ⟨rfl, _⟩ := h; simp only [InR, hv.1, hv.2, numAt0, numAtL, bitsA_length, numsN_length, cutF_eq, List.length_nil, List.length_cons, List.length_drop, true_and]; done) | cases h)
  rw [if_neg h1]
  by_cases h2 : (f == 2) = true
  · rw [if_pos h2]; (intro h; first | (simp only [Option.some.injEq, Prod.mk.injEq] at h; obtain ⟨rfl, _⟩ := h; simp only [InR, hv.1, hv.2, numAt0, numAtL, bitsA_length, numsN_length, cutF_eq, List.length_nil, List.length_cons, List.length_drop, true_and]; omega) | (simp only [Option.some.injEq, Prod.mk.injEq] at h; obtain ⟨rfl, _⟩ := h; simp only [InR, hv.1, hv.2, numAt0, numAtL, bitsA_length, numsN_length, cutF_eq, List.length_nil, List.length_cons, List.length_drop, true_and]; done) | cases h)
  rw [if_neg h2]
  by_cases h3 : (f == 3) = true
  · rw [if_pos h3]; (intro h; first | (simp only [Option.some.injEq, Prod.mk.injEq] at h; obtain ⟨rfl, _⟩ := h; simp only [InR, hv.1, hv.2, numAt0, numAtL, bitsA_length, numsN_length, cutF_eq, List.length_nil, List.length_cons, List.length_drop, true_and]; omega) | (simp only [Option.some.injEq, Prod.mk.injEq] at h; obtain ⟨rfl, _⟩ := h; simp only [InR, hv.1, hv.2, numAt0, numAtL, bitsA_length, numsN_length, cutF_eq, List.length_nil, List.length_cons, List.length_drop, true_and]; done) | cases h)
  rw [if_neg h3]
  by_cases h4 : (f == 4) = true
  · rw [if_pos h4]; (intro h; first | (simp only [Option.some.injEq, Prod.mk.injEq] at h; obtain ⟨rfl, _⟩ := h; simp only [InR, hv.1, hv.2, numAt0, numAtL, bitsA_length, numsN_length, cutF_eq, List.length_nil, List.length_cons, List.length_drop, true_and]; omega) | (simp only [Option.some.injEq, Prod.mk.injEq] at h; obtain ⟨rfl, _⟩ := h; simp only [InR, hv.1, hv.2, numAt0, numAtL, bitsA_length, numsN_length, cutF_eq, List.length_nil, List.length_cons, List.length_drop, true_and]; done) | cases h)
  rw [if_neg h4]
  by_cases h5 : (f == 5) = true
  · rw [if_pos h5]; (intro h; first | (simp only [Option.some.injEq, Prod.mk.injEq] at h; obtain ⟨rfl, _⟩ := h; simp only [InR, hv.1, hv.2, numAt0, numAtL, bitsA_length, numsN_length, cutF_eq, List.length_nil, List.length_cons, List.length_drop, true_and]; omega) | (simp only [Option.some.injEq, Prod.mk.injEq] at h; obtain ⟨rfl, _⟩ := h; simp only [InR, hv.1, hv.2, numAt0, numAtL, bitsA_length, numsN_length, cutF_eq, List.length_nil, List.length_cons, List.length_drop, true_and]; done) | cases h)
  rw [if_neg h5]
  by_cases h6 : (f == 6) = true
  · rw [if_pos h6]; (intro h; first | (simp only [Option.some.injEq, Prod.mk.injEq] at h; obtain ⟨rfl, _⟩ := h; simp only [InR, hv.1, hv.2, numAt0, numAtL, bitsA_length, numsN_length, cutF_eq, List.length_nil, List.length_cons, List.length_drop, true_and]; omega) | (simp only [Option.some.injEq, Prod.mk.injEq] at h; obtain ⟨rfl, _⟩ := h; simp only [InR, hv.1, hv.2, numAt0, numAtL, bitsA_length, numsN_length, cutF_eq, List.length_nil, List.length_cons, List.length_drop, true_and]; done) | cases h)
  rw [if_neg h6]
  by_cases h15 : (f == 15) = true
  · rw [if_pos h15]; by_cases g : (decide ((l.length : Int) < 6) || decide (v < 1) || decide (v > 1968) || (l.length : Int) != IntKind.i64.wrap (6 + IntKind.i64.wrap (l.getD 5 0))) = true
    · rw [if_pos g]; (intro h; first | (simp only [Option.some.injEq, Prod.mk.injEq] at h; obtain ⟨rfl, _⟩ := h; simp only [InR, hv.1, hv.2, numAt0, numAtL, bitsA_length, numsN_length, cutF_eq, List.length_nil, List.length_cons, List.length_drop, true_and]; omega) | (simp only [Option.some.injEq, Prod.mk.injEq] at h; obtain ⟨rfl, _⟩ := h; simp only [InR, hv.1, hv.2, numAt0, numAtL, bitsA_length, numsN_length, cutF_eq, List.length_nil, List.length_cons, List.length_drop, true_and]; done) | cases h)
    · rw [if_neg g]; (intro h; first | (simp only [Option.some.injEq, Prod.mk.injEq] at h; obtain ⟨rfl, _⟩ := h; simp only [InR, hv.1, hv.2, numAt0, numAtL, bitsA_length, numsN_length, cutF_eq, List.length_nil, List.length_cons, List.length_drop, true_and]; omega) | (simp only [Option.some.injEq, Prod.mk.injEq] at h; obtain ⟨rfl, _⟩ := h; simp only [InR, hv.1, hv.2, numAt0, numAtL, bitsA_length, numsN_length, cutF_eq, List.length_nil, List.length_cons, List.length_drop, true_and]; done) | cases h)
  rw [if_neg h15]
  by_cases h16 : (f == 16) = true
  · rw [if_pos h16]; by_cases g : decide ((l.length : Int) < 6) = true
    · rw [if_pos g]; (intro h; first | (simp only [Option.some.injEq, Prod.mk.injEq] at h; obtain ⟨rfl, _⟩ := h; simp only [InR, hv.1, hv.2, numAt0, numAtL, bitsA_length, numsN_length, cutF_eq, List.length_nil, List.length_cons, List.length_drop, true_and]; omega) | (simp only [Option.some.injEq, Prod.mk.injEq] at h; obtain ⟨rfl, _⟩ := h; simp only [InR, hv.1, hv.2, numAt0, numAtL, bitsA_length, numsN_length, cutF_eq, List.length_nil, List.length_cons, List.length_drop, true_and]; done) | cases h)
    · rw [if_neg g]; (intro h; first | (simp only [Option.some.injEq, Prod.mk.injEq] at h; obtain ⟨rfl, _⟩ := h; simp only [InR, hv.1, hv.2, numAt0, numAtL, bitsA_length, numsN_length, cutF_eq, List.length_nil, List.length_cons, List.length_drop, true_and]; omega) | (simp only [Option.some.injEq, Prod.mk.injEq] at h; obtain ⟨rfl, _⟩ := h; simp only [InR, hv.1, hv.2, numAt0, numAtL, bitsA_length, numsN_length, cutF_eq, List.length_nil, List.length_cons, List.length_drop, true_and]; done) | cases h)
  rw [if_neg h16]
  by_cases h22 : (f == 22) = true
  · rw [if_pos h22]; (intro h; first | (simp only [Option.some.injEq, Prod.mk.injEq] at h; obtain ⟨rfl, _⟩ := h; simp only [InR, hv.1, hv.2, numAt0, numAtL, bitsA_length, numsN_length, cutF_eq, List.length_nil, List.length_cons, List.length_drop, true_and]; omega) | (simp only [Option.some.injEq, Prod.mk.injEq] at h; obtain ⟨rfl, _⟩ := h; simp only [InR, hv.1, hv.2, numAt0, numAtL, bitsA_length, numsN_length, cutF_eq, List.length_nil, List.length_cons, List.length_drop, true_and]; done) | cases h)
  rw [if_neg h22]
  by_cases h23 : (f == 23) = true
  · rw [if_pos h23]; by_cases g : decide ((l.length : Int) < 10) = true
    · rw [if_pos g]; (intro h; first | (simp only [Option.some.injEq, Prod.mk.injEq] at h; obtain ⟨rfl, _⟩ := h; simp only [InR, hv.1, hv.2, numAt0, numAtL, bitsA_length, numsN_length, cutF_eq, List.length_nil, List.length_cons, List.length_drop, true_and]; omega) | (simp only [Option.some.injEq, Prod.mk.injEq] at h; obtain ⟨rfl, _⟩ := h; simp only [InR, hv.1, hv.2, numAt0, numAtL, bitsA_length, numsN_length, cutF_eq, List.length_nil, List.length_cons, List.length_drop, true_and]; done) | cases h)
    · rw [if_neg g]; (intro h; first | (simp only [Option.some.injEq, Prod.mk.injEq] at h; obtain ⟨rfl, _⟩ := h; simp only [InR, hv.1, hv.2, numAt0, numAtL, bitsA_length, numsN_length, cutF_eq, List.length_nil, List.length_cons, List.length_drop, true_and]; omega) | (simp only [Option.some.injEq, Prod.mk.injEq] at h; obtain ⟨rfl, _⟩ := h; simp only [InR, hv.1, hv.2, numAt0, numAtL, bitsA_length, numsN_length, cutF_eq, List.length_nil, List.length_cons, List.length_drop, true_and]; done) | cases h)
  rw [if_neg h23]
  (intro h; first | (simp only [Option.some.injEq, Prod.mk.injEq] at h; obtain ⟨rfl, _⟩ := h; simp only [InR, hv.1, hv.2, numAt0, numAtL, bitsA_length, numsN_length, cutF_eq, List.length_nil, List.length_cons, List.length_drop, true_and]; omega) | (simp only [Option.some.injEq, Prod.mk.injEq] at h; obtain ⟨rfl, _⟩ := h; simp only [InR, hv.1, hv.2, numAt0, numAtL, bitsA_length, numsN_length, cutF_eq, List.length_nil, List.length_cons, List.length_drop, true_and]; done) | cases h)
theorem rOpen_range (l : List Int) (hl : l.length ≤ 1000) : OkR (rOpenS l) := by
  unfold rOpenS
  split
  · intro q sp h; cases h
  · exact rOpenT_range _ _ _ _ ⟨numAt0 _ _, numAtL _ _⟩ hl
def finR (q : Rq) (row l : List Int) (sp : Bool) (e : Int) : Rq × Int := if e == 0 && (row.length : Int) == l.length && (List.range l.length).all (agreeB row l sp) then (q, 0) else (Rq.zero, 30)
theorem decT_some (l : List Int) (q : Rq) (sp : Bool) : decT l (some (q, sp)) = finR q (encR q.f q.a q.n q.a2 q.b q.r) l sp (encE q.f q.n q.a2 q.b q.r) := rfl
theorem finR_no (q : Rq) (row l : List Int) (sp : Bool) (e : Int) (h : e ≠ 0 ∨ row.length ≠ l.length ∨ ∃ i, i < l.length ∧ agreeB row l sp i = false) : finR q row l sp e = (Rq.zero, 30) := by
  unfold finR
  rw [if_neg]
  intro hc
  simp only [Bool.and_eq_true, beq_iff_eq, List.all_eq_true, List.mem_range] at hc
  obtain ⟨⟨h1, h2⟩, h3⟩ := hc
  rcases h with h | h | ⟨i, hi, h⟩
  · exact h h1
  · omega
  · rw [h3 i hi] at h; cases h
theorem finR_yes (q : Rq) (row l : List Int) (sp : Bool) (e : Int) (h1 : e = 0) (h2 : row.length = l.length) (h3 : ∀ i, i < l.length → agreeB row l sp i = true) : finR q row l sp e = (q, 0) := by
  unfold finR
  rw [if_pos]
  simp only [Bool.and_eq_true, beq_iff_eq, List.all_eq_true, List.mem_range]
  exact ⟨⟨h1, by omega⟩, h3⟩
def nb (x : Bool) (q : Rq) : AV := bif x then .nils else .roB q.b
def nr (x : Bool) (q : Rq) : AV := bif x then .nils else .roI .u16 q.r
set_option maxRecDepth 20000 in
set_option maxHeartbeats 4000000 in
theorem rOpen_raw (l : List Int) (hl : l.length ≤ 1000) : Tr Try.prog 54 [.roI .u8 l] ⟨0, []⟩ (FrzK (.tup [rqA (decR l).1, .int .i64 (decR l).2])) := by
  have hok := rOpen_range l hl
  unfold decR
  generalize ho : rOpenS l = o at *
  refine trZ [104] [35, 40] g54 b54 c54 ?_
  conv => whnf
  refine condF (fun h => ?_) (fun h => ?_)
  · conv => whnf
    repeat' (first
      | (refine condT (by first | assumption | (simp [cutF]; done) | (simp [cutF]; omega) | (simp_all; done) | (simp_all; omega)) ?_; conv => whnf)
      | (refine ⟨rfl, ?_⟩; conv => whnf)
      | (refine Ev.call (at_ev' l 1 1 rfl (by first | (simp [cutF]; done) | (simp [cutF]; omega) | omega | (simp_all; omega)) (by omega)) ?_; conv => whnf)
      | (refine Ev.call (at_ev' l 3 3 rfl (by first | (simp [cutF]; done) | (simp [cutF]; omega) | omega | (simp_all; omega)) (by omega)) ?_; conv => whnf)
      )
    refine joinI (α := {x : Bool × Bool // o.isSome = true ∧ (x.1 = true → (o.getD (Rq.zero, false)).1.b = []) ∧ (x.2 = true → (o.getD (Rq.zero, false)).1.r = [])})
      (fun x => [(0, .roI .u8 l), (2, .ptr 0 0), (4, .ptr 1 0), (6, .bool (o.getD (Rq.zero, false)).2)])
      (fun x => ⟨2, [(1, some (.obj [.int .u8 (o.getD (Rq.zero, false)).1.f, .int .u16 (o.getD (Rq.zero, false)).1.a, .int .u16 (o.getD (Rq.zero, false)).1.n, .int .u16 (o.getD (Rq.zero, false)).1.a2, nb x.1.1 (o.getD (Rq.zero, false)).1, nr x.1.2 (o.getD (Rq.zero, false)).1])), (0, some (.obj [.int .u8 0, .int .u16 0, .int .u16 0, .int .u16 0, .nils, .nils]))]⟩) ?_ ?_
    · conv => whnf
      repeat' (first
        | (refine condY (by assumption) ?_; conv => whnf)
        | (refine condN (by assumption) ?_; conv => whnf)
        | (refine condT (by first | assumption | (simp [cutF]; done) | (simp [cutF]; omega) | (simp_all; done) | (simp_all; omega)) ?_; conv => whnf)
        | (refine condF (fun h => ?_) (fun h => ?_) <;> conv => whnf)
        | (refine ⟨rfl, ?_⟩; conv => whnf)
        | (refine Ev.call (at_ev' l 5 5 rfl (by first | (simp [cutF]; done) | (simp [cutF]; omega) | omega | (simp_all; omega)) (by omega)) ?_; conv => whnf)
        | (refine Ev.call (rregs_ev _ (by first | (simp [cutF]; done) | (simp [cutF]; omega) | omega | (simp_all; omega))) ?_; conv => whnf)
        | (refine Ev.call (rbits_ev _ _ (by first | (simp [cutF]; done) | (simp [cutF]; omega) | omega | (simp_all; omega))) ?_; conv => whnf)
        )
      all_goals (try simp only [show Int.toNat 0 = 0 from rfl, show Int.toNat 1 = 1 from rfl, show Int.toNat 3 = 3 from rfl, show Int.toNat 5 = 5 from rfl, show Int.toNat 6 = 6 from rfl, show Int.toNat 10 = 10 from rfl] at *)
      all_goals (simp only [rOpenS, rOpenT, cutF, *, if_true, if_false, Bool.false_eq_true, Bool.or_false, Bool.false_or, Bool.true_or, Bool.or_true] at ho)
      all_goals (try (first | erw [if_pos h] at ho | erw [if_neg (fun e => Bool.noConfusion (e.symm.trans h))] at ho))
      all_goals subst ho
      all_goals first
        | exact ⟨⟨(true, true), rfl, fun _ => rfl, fun _ => rfl⟩, [], rfl, rfl, rfl, ⟨⟨rfl, rfl⟩, ⟨rfl, rfl⟩, ⟨rfl, rfl⟩, ⟨rfl, rfl⟩, trivial⟩, ⟨⟨rfl, rfl, rfl⟩, ⟨rfl, rfl, rfl⟩, trivial⟩⟩
        | exact ⟨⟨(true, false), rfl, fun _ => rfl, fun h => nomatch h⟩, [], rfl, rfl, rfl, ⟨⟨rfl, rfl⟩, ⟨rfl, rfl⟩, ⟨rfl, rfl⟩, ⟨rfl, rfl⟩, trivial⟩, ⟨⟨rfl, rfl, rfl⟩, ⟨rfl, rfl, rfl⟩, trivial⟩⟩
        | exact ⟨⟨(false, true), rfl, fun h => nomatch h, fun _ => rfl⟩, [], rfl, rfl, rfl, ⟨⟨rfl, rfl⟩, ⟨rfl, rfl⟩, ⟨rfl, rfl⟩, ⟨rfl, rfl⟩, trivial⟩, ⟨⟨rfl, rfl, rfl⟩, ⟨rfl, rfl, rfl⟩, trivial⟩⟩
        | exact FrzK.le (leReqE rfl rfl rfl rfl Le.nilB (Le.nilI _) rfl)
        | (refine ⟨⟨(false, true), rfl, fun h => Bool.noConfusion h, fun _ => rfl⟩, [], rfl, rfl, rfl, ⟨⟨rfl, rfl⟩, ⟨rfl, rfl⟩, ⟨rfl, rfl⟩, ⟨rfl, rfl⟩, trivial⟩, ?_⟩; refine ⟨⟨rfl, rfl, ?_⟩, ⟨rfl, rfl, rfl⟩, trivial⟩; rfl)
    · rintro ⟨⟨bn, rn⟩, hs, hb0, hr0⟩
      cases o with
      | none => cases hs
      | some qs =>
      obtain ⟨q, sp⟩ := qs
      obtain ⟨hn0, hn1, hqb, hqr⟩ := hok q sp rfl
      have kb : bn = true → q.b = [] := hb0
      have kr : rn = true → q.r = [] := hr0
      have hR := rRequest_ev q.f q.a q.n q.a2 q.b q.r hn0 hn1 hqb hqr
      rw [decT_some]
      generalize encR q.f q.a q.n q.a2 q.b q.r = row at *
      generalize encE q.f q.n q.a2 q.b q.r = e at *
      cases bn <;> cases rn
      · conv => whnf
        refine Tr.le (args' := [reqA q.f q.a q.n q.a2 (.roB q.b) (.roI .u16 q.r)]) ⟨Le.agg ⟨Le.refl _, Le.refl _, Le.refl _, Le.refl _, Le.refl _, Le.refl _, trivial⟩, trivial⟩ (Ev.call hR ?_)
        conv => whnf
        refine condS (fun h => ?_) (fun h => ?_)
        · conv => whnf
          rw [finR_no q row l sp e (.inl (by simpa using h))]
          exact FrzK.le (leReqE rfl rfl rfl rfl Le.nilB (Le.nilI _) rfl)
        conv => whnf
        refine condS (fun h' => ?_) (fun h' => ?_)
        · conv => whnf
          rw [finR_no q row l sp e (.inr (.inl (by simp at h'; omega)))]
          exact FrzK.le (leReqE rfl rfl rfl rfl Le.nilB (Le.nilI _) rfl)
        conv => whnf
        have he : e = 0 := by simpa using h
        have hlen : row.length = l.length := by simp at h'; omega
        refine loopI (α := {i : Nat // i ≤ l.length ∧ ∀ j, j < i → agreeB row l sp j = true}) (fun i => [(0, .roI .u8 l), (2, .ptr 0 0), (4, .ptr 1 0), (6, .bool sp), (7, .roI .u8 row), (9, .int .i64 i.1)])
          (fun i => ⟨2, [(1, some (.obj [.int .u8 q.f, .int .u16 q.a, .int .u16 q.n, .int .u16 q.a2, .roB q.b, .roI .u16 q.r])), (0, some (.obj [.int .u8 0, .int .u16 0, .int .u16 0, .int .u16 0, .nils, .nils]))]⟩) (fun i => l.length - i.1) ⟨0, Nat.zero_le _, fun j hj => absurd hj (Nat.not_lt_zero j)⟩
          ⟨[], rfl, rfl, rfl, ⟨⟨rfl, rfl⟩, ⟨rfl, rfl⟩, ⟨rfl, rfl⟩, ⟨rfl, rfl⟩, ⟨rfl, rfl⟩, ⟨rfl, rfl⟩, trivial⟩, ⟨⟨rfl, rfl, rfl⟩, ⟨rfl, rfl, rfl⟩, trivial⟩⟩ fun ⟨i, hi, hag⟩ => ?_
        conv => whnf
        have hl1 : IntKind.i64.wrap ((l.length : Int) - 1) = (l.length : Int) - 1 := IntWalk.i64_in _ (by omega)
        by_cases hlt : i < l.length
        · refine condY (by simpa using hlt) ?_
          conv => whnf
          refine condT (by simp; omega) ?_
          conv => whnf
          refine condT (by simpa using hlt) ?_
          conv => whnf
          have step : agreeB row l sp i = true → ∃ x' : {i : Nat // i ≤ l.length ∧ ∀ j, j < i → agreeB row l sp j = true}, x'.1 = i + 1 := fun ha => ⟨⟨i + 1, hlt, fun j hj => by
            by_cases hji : j = i
            · rw [hji]; exact ha
            · exact hag j (by omega)⟩, rfl⟩
          have next : ∀ (x' : {i : Nat // i ≤ l.length ∧ ∀ j, j < i → agreeB row l sp j = true}), x'.1 = i + 1 → AV.int .i64 (IntKind.i64.wrap ((i : Int) + 1)) = AV.int .i64 (x'.1 : Int) := fun x' hx => by
            rw [hx, IntWalk.i64_in _ (by omega)]; rfl
          refine condF (fun g => ?_) (fun g => ?_)
          · conv => whnf
            obtain ⟨x', hx⟩ := step (by unfold agreeB; rw [show (row.getD i 0 == l.getD i 0) = true by simpa using g]; rfl)
            refine ⟨x', ⟨[], rfl, rfl, rfl, ⟨⟨rfl, rfl⟩, ⟨rfl, rfl⟩, ⟨rfl, rfl⟩, ⟨rfl, rfl⟩, ⟨rfl, rfl⟩, ⟨next x' hx, rfl⟩, trivial⟩, ⟨⟨rfl, rfl, rfl⟩, ⟨rfl, rfl, rfl⟩, trivial⟩⟩, by show l.length - x'.1 < l.length - i; omega⟩
          · conv => whnf
            cases sp
            · conv => whnf
              rw [finR_no q row l false e (.inr (.inr ⟨i, hlt, by unfold agreeB; rw [show (row.getD i 0 == l.getD i 0) = false by simpa using g]; rfl⟩))]
              exact FrzK.le (leReqE rfl rfl rfl rfl Le.nilB (Le.nilI _) rfl)
            · conv => whnf
              by_cases hL : i = l.length - 1
              · refine condN ?_ ?_
                · rw [hl1]; simp; omega
                conv => whnf
                obtain ⟨x', hx⟩ := step (by unfold agreeB; simp [hL])
                refine ⟨x', ⟨[], rfl, rfl, rfl, ⟨⟨rfl, rfl⟩, ⟨rfl, rfl⟩, ⟨rfl, rfl⟩, ⟨rfl, rfl⟩, ⟨rfl, rfl⟩, ⟨next x' hx, rfl⟩, trivial⟩, ⟨⟨rfl, rfl, rfl⟩, ⟨rfl, rfl, rfl⟩, trivial⟩⟩, by show l.length - x'.1 < l.length - i; omega⟩
              · refine condY ?_ ?_
                · rw [hl1]; simp; omega
                conv => whnf
                rw [finR_no q row l true e (.inr (.inr ⟨i, hlt, by unfold agreeB; rw [show (row.getD i 0 == l.getD i 0) = false by simpa using g]; simp; omega⟩))]
                exact FrzK.le (leReqE rfl rfl rfl rfl Le.nilB (Le.nilI _) rfl)
        · refine condN (by simpa using hlt) ?_
          conv => whnf
          rw [finR_yes q row l sp e he hlen (fun j hj => hag j (by omega))]
          exact FrzK.le (leReqE rfl rfl rfl rfl (Le.refl _) (Le.refl _) rfl)
      · conv => whnf
        refine Tr.le (args' := [reqA q.f q.a q.n q.a2 (.roB q.b) (.roI .u16 q.r)]) ⟨Le.agg ⟨Le.refl _, Le.refl _, Le.refl _, Le.refl _, Le.refl _, (by rw [kr rfl]; exact Le.nilI _), trivial⟩, trivial⟩ (Ev.call hR ?_)
        conv => whnf
        refine condS (fun h => ?_) (fun h => ?_)
        · conv => whnf
          rw [finR_no q row l sp e (.inl (by simpa using h))]
          exact FrzK.le (leReqE rfl rfl rfl rfl Le.nilB (Le.nilI _) rfl)
        conv => whnf
        refine condS (fun h' => ?_) (fun h' => ?_)
        · conv => whnf
          rw [finR_no q row l sp e (.inr (.inl (by simp at h'; omega)))]
          exact FrzK.le (leReqE rfl rfl rfl rfl Le.nilB (Le.nilI _) rfl)
        conv => whnf
        have he : e = 0 := by simpa using h
        have hlen : row.length = l.length := by simp at h'; omega
        refine loopI (α := {i : Nat // i ≤ l.length ∧ ∀ j, j < i → agreeB row l sp j = true}) (fun i => [(0, .roI .u8 l), (2, .ptr 0 0), (4, .ptr 1 0), (6, .bool sp), (7, .roI .u8 row), (9, .int .i64 i.1)])
          (fun i => ⟨2, [(1, some (.obj [.int .u8 q.f, .int .u16 q.a, .int .u16 q.n, .int .u16 q.a2, .roB q.b, .nils])), (0, some (.obj [.int .u8 0, .int .u16 0, .int .u16 0, .int .u16 0, .nils, .nils]))]⟩) (fun i => l.length - i.1) ⟨0, Nat.zero_le _, fun j hj => absurd hj (Nat.not_lt_zero j)⟩
          ⟨[], rfl, rfl, rfl, ⟨⟨rfl, rfl⟩, ⟨rfl, rfl⟩, ⟨rfl, rfl⟩, ⟨rfl, rfl⟩, ⟨rfl, rfl⟩, ⟨rfl, rfl⟩, trivial⟩, ⟨⟨rfl, rfl, rfl⟩, ⟨rfl, rfl, rfl⟩, trivial⟩⟩ fun ⟨i, hi, hag⟩ => ?_
        conv => whnf
        have hl1 : IntKind.i64.wrap ((l.length : Int) - 1) = (l.length : Int) - 1 := IntWalk.i64_in _ (by omega)
        by_cases hlt : i < l.length
        · refine condY (by simpa using hlt) ?_
          conv => whnf
          refine condT (by simp; omega) ?_
          conv => whnf
          refine condT (by simpa using hlt) ?_
          conv => whnf
          have step : agreeB row l sp i = true → ∃ x' : {i : Nat // i ≤ l.length ∧ ∀ j, j < i → agreeB row l sp j = true}, x'.1 = i + 1 := fun ha => ⟨⟨i + 1, hlt, fun j hj => by
            by_cases hji : j = i
            · rw [hji]; exact ha
            · exact hag j (by omega)⟩, rfl⟩
          have next : ∀ (x' : {i : Nat // i ≤ l.length ∧ ∀ j, j < i → agreeB row l sp j = true}), x'.1 = i + 1 → AV.int .i64 (IntKind.i64.wrap ((i : Int) + 1)) = AV.int .i64 (x'.1 : Int) := fun x' hx => by
            rw [hx, IntWalk.i64_in _ (by omega)]; rfl
          refine condF (fun g => ?_) (fun g => ?_)
          · conv => whnf
            obtain ⟨x', hx⟩ := step (by unfold agreeB; rw [show (row.getD i 0 == l.getD i 0) = true by simpa using g]; rfl)
            refine ⟨x', ⟨[], rfl, rfl, rfl, ⟨⟨rfl, rfl⟩, ⟨rfl, rfl⟩, ⟨rfl, rfl⟩, ⟨rfl, rfl⟩, ⟨rfl, rfl⟩, ⟨next x' hx, rfl⟩, trivial⟩, ⟨⟨rfl, rfl, rfl⟩, ⟨rfl, rfl, rfl⟩, trivial⟩⟩, by show l.length - x'.1 < l.length - i; omega⟩
          · conv => whnf
            cases sp
            · conv => whnf
              rw [finR_no q row l false e (.inr (.inr ⟨i, hlt, by unfold agreeB; rw [show (row.getD i 0 == l.getD i 0) = false by simpa using g]; rfl⟩))]
              exact FrzK.le (leReqE rfl rfl rfl rfl Le.nilB (Le.nilI _) rfl)
            · conv => whnf
              by_cases hL : i = l.length - 1
              · refine condN ?_ ?_
                · rw [hl1]; simp; omega
                conv => whnf
                obtain ⟨x', hx⟩ := step (by unfold agreeB; simp [hL])
                refine ⟨x', ⟨[], rfl, rfl, rfl, ⟨⟨rfl, rfl⟩, ⟨rfl, rfl⟩, ⟨rfl, rfl⟩, ⟨rfl, rfl⟩, ⟨rfl, rfl⟩, ⟨next x' hx, rfl⟩, trivial⟩, ⟨⟨rfl, rfl, rfl⟩, ⟨rfl, rfl, rfl⟩, trivial⟩⟩, by show l.length - x'.1 < l.length - i; omega⟩
              · refine condY ?_ ?_
                · rw [hl1]; simp; omega
                conv => whnf
                rw [finR_no q row l true e (.inr (.inr ⟨i, hlt, by unfold agreeB; rw [show (row.getD i 0 == l.getD i 0) = false by simpa using g]; simp; omega⟩))]
                exact FrzK.le (leReqE rfl rfl rfl rfl Le.nilB (Le.nilI _) rfl)
        · refine condN (by simpa using hlt) ?_
          conv => whnf
          rw [finR_yes q row l sp e he hlen (fun j hj => hag j (by omega))]
          exact FrzK.le (leReqE rfl rfl rfl rfl (Le.refl _) (by rw [kr rfl]; exact Le.nilI _) rfl)
      · conv => whnf
        refine Tr.le (args' := [reqA q.f q.a q.n q.a2 (.roB q.b) (.roI .u16 q.r)]) ⟨Le.agg ⟨Le.refl _, Le.refl _, Le.refl _, Le.refl _, (by rw [kb rfl]; exact Le.nilB), Le.refl _, trivial⟩, trivial⟩ (Ev.call hR ?_)
        conv => whnf
        refine condS (fun h => ?_) (fun h => ?_)
        · conv => whnf
          rw [finR_no q row l sp e (.inl (by simpa using h))]
          exact FrzK.le (leReqE rfl rfl rfl rfl Le.nilB (Le.nilI _) rfl)
        conv => whnf
        refine condS (fun h' => ?_) (fun h' => ?_)
        · conv => whnf
          rw [finR_no q row l sp e (.inr (.inl (by simp at h'; omega)))]
          exact FrzK.le (leReqE rfl rfl rfl rfl Le.nilB (Le.nilI _) rfl)
        conv => whnf
        have he : e = 0 := by simpa using h
        have hlen : row.length = l.length := by simp at h'; omega
        refine loopI (α := {i : Nat // i ≤ l.length ∧ ∀ j, j < i → agreeB row l sp j = true}) (fun i => [(0, .roI .u8 l), (2, .ptr 0 0), (4, .ptr 1 0), (6, .bool sp), (7, .roI .u8 row), (9, .int .i64 i.1)])
          (fun i => ⟨2, [(1, some (.obj [.int .u8 q.f, .int .u16 q.a, .int .u16 q.n, .int .u16 q.a2, .nils, .roI .u16 q.r])), (0, some (.obj [.int .u8 0, .int .u16 0, .int .u16 0, .int .u16 0, .nils, .nils]))]⟩) (fun i => l.length - i.1) ⟨0, Nat.zero_le _, fun j hj => absurd hj (Nat.not_lt_zero j)⟩
          ⟨[], rfl, rfl, rfl, ⟨⟨rfl, rfl⟩, ⟨rfl, rfl⟩, ⟨rfl, rfl⟩, ⟨rfl, rfl⟩, ⟨rfl, rfl⟩, ⟨rfl, rfl⟩, trivial⟩, ⟨⟨rfl, rfl, rfl⟩, ⟨rfl, rfl, rfl⟩, trivial⟩⟩ fun ⟨i, hi, hag⟩ => ?_
        conv => whnf
        have hl1 : IntKind.i64.wrap ((l.length : Int) - 1) = (l.length : Int) - 1 := IntWalk.i64_in _ (by omega)
        by_cases hlt : i < l.length
        · refine condY (by simpa using hlt) ?_
          conv => whnf
          refine condT (by simp; omega) ?_
          conv => whnf
          refine condT (by simpa using hlt) ?_
          conv => whnf
          have step : agreeB row l sp i = true → ∃ x' : {i : Nat // i ≤ l.length ∧ ∀ j, j < i → agreeB row l sp j = true}, x'.1 = i + 1 := fun ha => ⟨⟨i + 1, hlt, fun j hj => by
            by_cases hji : j = i
            · rw [hji]; exact ha
            · exact hag j (by omega)⟩, rfl⟩
          have next : ∀ (x' : {i : Nat // i ≤ l.length ∧ ∀ j, j < i → agreeB row l sp j = true}), x'.1 = i + 1 → AV.int .i64 (IntKind.i64.wrap ((i : Int) + 1)) = AV.int .i64 (x'.1 : Int) := fun x' hx => by
            rw [hx, IntWalk.i64_in _ (by omega)]; rfl
          refine condF (fun g => ?_) (fun g => ?_)
          · conv => whnf
            obtain ⟨x', hx⟩ := step (by unfold agreeB; rw [show (row.getD i 0 == l.getD i 0) = true by simpa using g]; rfl)
            refine ⟨x', ⟨[], rfl, rfl, rfl, ⟨⟨rfl, rfl⟩, ⟨rfl, rfl⟩, ⟨rfl, rfl⟩, ⟨rfl, rfl⟩, ⟨rfl, rfl⟩, ⟨next x' hx, rfl⟩, trivial⟩, ⟨⟨rfl, rfl, rfl⟩, ⟨rfl, rfl, rfl⟩, trivial⟩⟩, by show l.length - x'.1 < l.length - i; omega⟩
          · conv => whnf
            cases sp
            · conv => whnf
              rw [finR_no q row l false e (.inr (.inr ⟨i, hlt, by unfold agreeB; rw [show (row.getD i 0 == l.getD i 0) = false by simpa using g]; rfl⟩))]
              exact FrzK.le (leReqE rfl rfl rfl rfl Le.nilB (Le.nilI _) rfl)
            · conv => whnf
              by_cases hL : i = l.length - 1
              · refine condN ?_ ?_
                · rw [hl1]; simp; omega
                conv => whnf
                obtain ⟨x', hx⟩ := step (by unfold agreeB; simp [hL])
                refine ⟨x', ⟨[], rfl, rfl, rfl, ⟨⟨rfl, rfl⟩, ⟨rfl, rfl⟩, ⟨rfl, rfl⟩, ⟨rfl, rfl⟩, ⟨rfl, rfl⟩, ⟨next x' hx, rfl⟩, trivial⟩, ⟨⟨rfl, rfl, rfl⟩, ⟨rfl, rfl, rfl⟩, trivial⟩⟩, by show l.length - x'.1 < l.length - i; omega⟩
              · refine condY ?_ ?_
                · rw [hl1]; simp; omega
                conv => whnf
                rw [finR_no q row l true e (.inr (.inr ⟨i, hlt, by unfold agreeB; rw [show (row.getD i 0 == l.getD i 0) = false by simpa using g]; simp; omega⟩))]
                exact FrzK.le (leReqE rfl rfl rfl rfl Le.nilB (Le.nilI _) rfl)
        · refine condN (by simpa using hlt) ?_
          conv => whnf
          rw [finR_yes q row l sp e he hlen (fun j hj => hag j (by omega))]
          exact FrzK.le (leReqE rfl rfl rfl rfl (by rw [kb rfl]; exact Le.nilB) (Le.refl _) rfl)
      · conv => whnf
        refine Tr.le (args' := [reqA q.f q.a q.n q.a2 (.roB q.b) (.roI .u16 q.r)]) ⟨Le.agg ⟨Le.refl _, Le.refl _, Le.refl _, Le.refl _, (by rw [kb rfl]; exact Le.nilB), (by rw [kr rfl]; exact Le.nilI _), trivial⟩, trivial⟩ (Ev.call hR ?_)
        conv => whnf
        refine condS (fun h => ?_) (fun h => ?_)
        · conv => whnf
          rw [finR_no q row l sp e (.inl (by simpa using h))]
          exact FrzK.le (leReqE rfl rfl rfl rfl Le.nilB (Le.nilI _) rfl)
        conv => whnf
        refine condS (fun h' => ?_) (fun h' => ?_)
        · conv => whnf
          rw [finR_no q row l sp e (.inr (.inl (by simp at h'; omega)))]
          exact FrzK.le (leReqE rfl rfl rfl rfl Le.nilB (Le.nilI _) rfl)
        conv => whnf
        have he : e = 0 := by simpa using h
        have hlen : row.length = l.length := by simp at h'; omega
        refine loopI (α := {i : Nat // i ≤ l.length ∧ ∀ j, j < i → agreeB row l sp j = true}) (fun i => [(0, .roI .u8 l), (2, .ptr 0 0), (4, .ptr 1 0), (6, .bool sp), (7, .roI .u8 row), (9, .int .i64 i.1)])
          (fun i => ⟨2, [(1, some (.obj [.int .u8 q.f, .int .u16 q.a, .int .u16 q.n, .int .u16 q.a2, .nils, .nils])), (0, some (.obj [.int .u8 0, .int .u16 0, .int .u16 0, .int .u16 0, .nils, .nils]))]⟩) (fun i => l.length - i.1) ⟨0, Nat.zero_le _, fun j hj => absurd hj (Nat.not_lt_zero j)⟩
          ⟨[], rfl, rfl, rfl, ⟨⟨rfl, rfl⟩, ⟨rfl, rfl⟩, ⟨rfl, rfl⟩, ⟨rfl, rfl⟩, ⟨rfl, rfl⟩, ⟨rfl, rfl⟩, trivial⟩, ⟨⟨rfl, rfl, rfl⟩, ⟨rfl, rfl, rfl⟩, trivial⟩⟩ fun ⟨i, hi, hag⟩ => ?_
        conv => whnf
        have hl1 : IntKind.i64.wrap ((l.length : Int) - 1) = (l.length : Int) - 1 := IntWalk.i64_in _ (by omega)
        by_cases hlt : i < l.length
        · refine condY (by simpa using hlt) ?_
          conv => whnf
          refine condT (by simp; omega) ?_
          conv => whnf
          refine condT (by simpa using hlt) ?_
          conv => whnf
          have step : agreeB row l sp i = true → ∃ x' : {i : Nat // i ≤ l.length ∧ ∀ j, j < i → agreeB row l sp j = true}, x'.1 = i + 1 := fun ha => ⟨⟨i + 1, hlt, fun j hj => by
            by_cases hji : j = i
            · rw [hji]; exact ha
            · exact hag j (by omega)⟩, rfl⟩
          have next : ∀ (x' : {i : Nat // i ≤ l.length ∧ ∀ j, j < i → agreeB row l sp j = true}), x'.1 = i + 1 → AV.int .i64 (IntKind.i64.wrap ((i : Int) + 1)) = AV.int .i64 (x'.1 : Int) := fun x' hx => by
            rw [hx, IntWalk.i64_in _ (by omega)]; rfl
          refine condF (fun g => ?_) (fun g => ?_)
          · conv => whnf
            obtain ⟨x', hx⟩ := step (by unfold agreeB; rw [show (row.getD i 0 == l.getD i 0) = true by simpa using g]; rfl)
            refine ⟨x', ⟨[], rfl, rfl, rfl, ⟨⟨rfl, rfl⟩, ⟨rfl, rfl⟩, ⟨rfl, rfl⟩, ⟨rfl, rfl⟩, ⟨rfl, rfl⟩, ⟨next x' hx, rfl⟩, trivial⟩, ⟨⟨rfl, rfl, rfl⟩, ⟨rfl, rfl, rfl⟩, trivial⟩⟩, by show l.length - x'.1 < l.length - i; omega⟩
          · conv => whnf
            cases sp
            · conv => whnf
              rw [finR_no q row l false e (.inr (.inr ⟨i, hlt, by unfold agreeB; rw [show (row.getD i 0 == l.getD i 0) = false by simpa using g]; rfl⟩))]
              exact FrzK.le (leReqE rfl rfl rfl rfl Le.nilB (Le.nilI _) rfl)
            · conv => whnf
              by_cases hL : i = l.length - 1
              · refine condN ?_ ?_
                · rw [hl1]; simp; omega
                conv => whnf
                obtain ⟨x', hx⟩ := step (by unfold agreeB; simp [hL])
                refine ⟨x', ⟨[], rfl, rfl, rfl, ⟨⟨rfl, rfl⟩, ⟨rfl, rfl⟩, ⟨rfl, rfl⟩, ⟨rfl, rfl⟩, ⟨rfl, rfl⟩, ⟨next x' hx, rfl⟩, trivial⟩, ⟨⟨rfl, rfl, rfl⟩, ⟨rfl, rfl, rfl⟩, trivial⟩⟩, by show l.length - x'.1 < l.length - i; omega⟩
              · refine condY ?_ ?_
                · rw [hl1]; simp; omega
                conv => whnf
                rw [finR_no q row l true e (.inr (.inr ⟨i, hlt, by unfold agreeB; rw [show (row.getD i 0 == l.getD i 0) = false by simpa using g]; simp; omega⟩))]
                exact FrzK.le (leReqE rfl rfl rfl rfl Le.nilB (Le.nilI _) rfl)
        · refine condN (by simpa using hlt) ?_
          conv => whnf
          rw [finR_yes q row l sp e he hlen (fun j hj => hag j (by omega))]
          exact FrzK.le (leReqE rfl rfl rfl rfl (by rw [kb rfl]; exact Le.nilB) (by rw [kr rfl]; exact Le.nilI _) rfl)
  · conv => whnf
    have : o = none := by rw [← ho]; unfold rOpenS; rw [if_pos h]
    subst this
    exact FrzK.le (leReqE rfl rfl rfl rfl Le.nilB (Le.nilI _) rfl)
theorem rOpen_ev (l : List Int) (hl : l.length ≤ 1000) : Ev Try.prog 54 [.roI .u8 l] (.tup [rqA (decR l).1, .int .i64 (decR l).2]) := FrzK.ev rfl (rOpen_raw l hl)
end Go.Proofs.Ytomodeliimnddaa
set_option linter.unusedVariables false
set_option linter.unusedSimpArgs false
namespace Go.Proofs.Ytomodeliimnddaa
open Go.Ab
theorem row15_3len (a : Int) (b : List Bool) : (row15 15 a b).length = 6 + (b.length + 7) / 8 := by
  simp [row15, pre3, two8, packN_length]; omega
def expl (l : List Int) : Int :=
  if l.getD 0 0 = 15 ∨ l.getD 0 0 = 16 then 6 + l.getD 5 0 else if l.getD 0 0 = 23 then 10 + l.getD 9 0 else if l.getD 0 0 = 22 then 7 else 5
theorem getD_take (l : List Int) (k i : Nat) (h : i < k) : (l.take k).getD i 0 = l.getD i 0 := by
  simp [List.getD_eq_getElem?_getD, List.getElem?_take, h]
theorem expl_enc (f a n a2 : Int) (b : List Bool) (r : List Int) (hk : encOk f n a2 b r = true) :
    ((encR f a n a2 b r).length : Int) = expl (encR f a n a2 b r) ∧ (encR f a n a2 b r).getD 0 0 = f ∧ 5 ≤ (encR f a n a2 b r).length ∧ (f = 15 → 7 ≤ (encR f a n a2 b r).length) ∧ (f = 16 → 8 ≤ (encR f a n a2 b r).length) ∧ (f = 23 → 12 ≤ (encR f a n a2 b r).length) := by
  unfold encR
  rw [if_pos hk]
  by_cases h1 : f = 1
  · subst h1; simp [encOk, withinB] at hk; simp [expl, reqS, pre3, two8, twos_length] <;> omega
  by_cases h2 : f = 2
  · subst h2; simp [encOk, withinB] at hk; simp [expl, reqS, pre3, two8, twos_length] <;> omega
  by_cases h3 : f = 3
  · subst h3; simp [encOk, withinB] at hk; simp [expl, reqS, pre3, two8, twos_length] <;> omega
  by_cases h4 : f = 4
  · subst h4; simp [encOk, withinB] at hk; simp [expl, reqS, pre3, two8, twos_length] <;> omega
  by_cases h5 : f = 5
  · subst h5; simp [encOk, withinB] at hk; simp [expl, reqS, pre3, two8, twos_length] <;> omega
  by_cases h6 : f = 6
  · subst h6; simp [encOk, withinB] at hk; simp [expl, reqS, pre3, two8, twos_length] <;> omega
  by_cases h22 : f = 22
  · subst h22; simp [encOk, withinB] at hk; simp [expl, reqS, pre3, two8, twos_length] <;> omega
  by_cases h15 : f = 15
  · subst h15
    simp [encOk, withinB] at hk
    have hw : IntKind.u8.wrap (((b.length + 7) / 8 : Nat) : Int) = (((b.length + 7) / 8 : Nat) : Int) := u8_in _ (by omega) (by omega)
    have e : (reqS 15 a n a2 b r).row = row15 15 a b := rfl
    rw [e]
    have h0 : (row15 15 a b).getD 0 0 = 15 := rfl
    have hl := row15_3len a b
    refine ⟨?_, h0, by omega, fun _ => by omega, fun h => by omega, fun h => by omega⟩
    unfold expl
    rw [if_pos (.inl h0), show (row15 15 a b).getD 5 0 = IntKind.u8.wrap (((b.length + 7) / 8 : Nat) : Int) from rfl, hw, hl]
    omega
  by_cases h16 : f = 16
  · subst h16
    simp [encOk, withinB] at hk
    have hw : IntKind.u8.wrap (IntKind.i64.wrap (2 * r.length)) = 2 * r.length := by rw [IntWalk.i64_in _ (by omega), u8_in _ (by omega) (by omega)]
    have e : (reqS 16 a n a2 b r).row = rowR (pre3 16 a) r := rfl
    rw [e]
    have h0 : (rowR (pre3 16 a) r).getD 0 0 = 16 := rfl
    have hl : (rowR (pre3 16 a) r).length = 6 + 2 * r.length := by simp [rowR, pre3, two8, twos_length]; omega
    refine ⟨?_, h0, by omega, fun h => by omega, fun _ => by omega, fun h => by omega⟩
    unfold expl
    rw [if_pos (.inr h0), show (rowR (pre3 16 a) r).getD 5 0 = IntKind.u8.wrap (IntKind.i64.wrap (2 * r.length)) from rfl, hw, hl]
    omega
  by_cases h23 : f = 23
  · subst h23
    simp [encOk, withinB] at hk
    have hw : IntKind.u8.wrap (IntKind.i64.wrap (2 * r.length)) = 2 * r.length := by rw [IntWalk.i64_in _ (by omega), u8_in _ (by omega) (by omega)]
    have e : (reqS 23 a n a2 b r).row = rowR (pre3 23 a ++ two8 n ++ two8 a2) r := rfl
    rw [e]
    have h0 : (rowR (pre3 23 a ++ two8 n ++ two8 a2) r).getD 0 0 = 23 := rfl
    have hl : (rowR (pre3 23 a ++ two8 n ++ two8 a2) r).length = 10 + 2 * r.length := by simp [rowR, pre3, two8, twos_length]; omega
    refine ⟨?_, h0, by omega, fun h => by omega, fun h => by omega, fun _ => by omega⟩
    unfold expl
    rw [if_neg (by rw [h0]; omega), if_pos h0, show (rowR (pre3 23 a ++ two8 n ++ two8 a2) r).getD 9 0 = IntKind.u8.wrap (IntKind.i64.wrap (2 * r.length)) from rfl, hw, hl]
    omega
  simp [encOk, *] at hk
end Go.Proofs.Ytomodeliimnddaa
set_option linter.unusedVariables false
set_option linter.unusedSimpArgs false
namespace Go.Proofs.Ytomodeliimnddaa
open Go.Ab
def a123 : ACode := (.seq (.reg [(iO 4 (.mov (.c (.bool false))))])
 (.seq (.reg [(iM 5 0), (iO 6 (.conv .toStr (.t 5))), (iM 7 1), (iO 8 (.conv .toStr (.t 7))), (iO 9 (.bin .eql .other (.t 6) (.t 8))), (iM 4 9)])
 .ret))
def r123 : List ARes := [.t 4]
theorem c123 : compF Try.prog Try.f123 = some (a123, r123) := by kernel_rfl
def a59 : ACode := (.seq (.reg [(iO 2 (.box (.t 0))), (iO 4 (.alloc [(2, (.int .u8 0)), (2, (.int .u16 0)), (2, .nils)])), (iO 5 (.mov (.c (.int .i64 0))))])
 (.seq (.reg [(iO 10 (.load true 6 (.t 2))), (iO 11 (.call 49 [(.t 10)])), (iM 9 11), (iO 12 (.ext (.t 9) 0)), (iO 13 (.ext (.t 9) 1)), (iM 6 12), (iM 7 13)])
 (.seq (.seq (.reg [(iM 14 7), (iO 15 (.bin .neq .other (.t 14) (.c (.int .i64 0)))), ⟨(some 16), .mov (.t 15), none, true⟩, (iG 17 (.mov (.t 1)) 16 false), (iG 18 (.len false (.t 17)) 16 false), (iG 19 (.bin .lss .other (.t 18) (.c (.int .i64 2))) 16 false), (iO 20 (.pick (.t 16) (.c (.bool true)) (.t 19)))])
 (.cond (.t 20) (.seq (.reg [(iO 21 (.build [(.int .u8 0), (.int .u8 0), (.int .u16 0), (.int .u16 0), .nils, .nils] [])), ⟨none, .store 6 (.t 4) (.t 21), none, false⟩, (iO 5 (.mov (.c (.int .i64 30))))])
 .ret)
 .skip))
 (.seq (.seq (.draw [(zS 0 (iM 22 1)), (zS 1 (iO 23 (.idx 1 none false (.t 22) (.c (.int .i64 0))))), (zS 2 (iL 24 23)), (zS 3 (iF 25 0 2)), (zS 4 (iL 26 25)), (zS 5 (iO 27 (.bin .or .other (.t 26) (.c (.int .u8 128))))), (zS 6 (iO 28 (.bin .eql .other (.t 24) (.t 27))))])
 (.cond (.t 28) (.seq (.seq (.reg [(iM 29 1), (iO 30 (.len false (.t 29))), (iO 31 (.bin .neq .other (.t 30) (.c (.int .i64 2)))), ⟨(some 32), .mov (.t 31), none, true⟩, (iG 33 (.mov (.t 1)) 32 false), (iG 34 (.idx 1 none false (.t 33) (.c (.int .i64 1))) 32 false), (iG 35 (.load false 1 (.t 34)) 32 false), (iG 36 (.bin .eql .other (.t 35) (.c (.int .u8 0))) 32 false), (iO 37 (.pick (.t 32) (.c (.bool true)) (.t 36)))])
 (.cond (.t 37) (.seq (.reg [(iO 38 (.build [(.int .u8 0), (.int .u8 0), (.int .u16 0), (.int .u16 0), .nils, .nils] [])), ⟨none, .store 6 (.t 4) (.t 38), none, false⟩, (iO 5 (.mov (.c (.int .i64 30))))])
 .ret)
 .skip))
 (.seq (.draw [(zS 0 (iF 39 0 2)), (zS 1 (iL 40 39)), (zS 2 (iM 41 1)), (zS 3 (iO 42 (.idx 1 none false (.t 41) (.c (.int .i64 1))))), (zS 4 (iL 43 42)), (zS 5 (iO 44 (.build [(.int .u8 0), (.int .u8 0), (.int .u16 0), (.int .u16 0), .nils, .nils] [(0, 1, (.t 40)), (1, 1, (.t 43))]))), ⟨6, ⟨none, .store 6 (.t 4) (.t 44), none, false⟩, true, [], []⟩, (zS 7 (iO 5 (.mov (.c (.int .i64 0)))))])
 .ret))
 .skip))
 (.seq (.seq (.draw [(zS 0 (iM 45 1)), (zS 1 (iO 46 (.idx 1 none false (.t 45) (.c (.int .i64 0))))), (zS 2 (iL 47 46)), (zS 3 (iF 48 0 2)), (zS 4 (iL 49 48)), (zS 5 (iO 50 (.bin .neq .other (.t 47) (.t 49))))])
 (.cond (.t 50) (.seq (.reg [(iO 51 (.build [(.int .u8 0), (.int .u8 0), (.int .u16 0), (.int .u16 0), .nils, .nils] [])), ⟨none, .store 6 (.t 4) (.t 51), none, false⟩, (iO 5 (.mov (.c (.int .i64 30))))])
 .ret)
 .skip))
 (.seq (.reg [(iF 52 0 2), (iL 53 52), (iO 54 (.build [(.int .u8 0), (.int .u8 0), (.int .u16 0), (.int .u16 0), .nils, .nils] [(0, 1, (.t 53))])), (iO 8 (.alloc [(2, (.int .u8 0)), (2, (.int .u16 0)), (2, .nils)])), ⟨none, .store 6 (.t 8) (.t 54), none, false⟩])
 (.seq (.seq (.reg [(iF 55 0 2), (iL 56 55)])
 (.block 0 (.seq (.seq (.reg [(iO 70 (.bin .eql .other (.t 56) (.c (.int .u8 1)))), (iM 69 70)])
 (.cond (.t 69) .skip
 (.reg [(iO 71 (.bin .eql .other (.t 56) (.c (.int .u8 2)))), (iM 69 71)])))
 (.cond (.t 69) (.seq (.seq (.draw [(zS 0 (iM 72 1)), (zS 1 (iO 73 (.idx 1 none false (.t 72) (.c (.int .i64 1))))), (zS 2 (iL 74 73)), (zS 3 (iO 75 (.conv (.int .i64) (.t 74)))), (zS 4 (iF 76 2 2)), (zS 5 (iL 77 76)), (zS 6 (iO 78 (.conv (.int .i64) (.t 77)))), (zS 7 (iO 79 (.bin .add .other (.t 78) (.c (.int .i64 7))))), (zS 8 (iO 80 (.bin .quo .other (.t 79) (.c (.int .i64 8))))), (zS 9 (iO 81 (.bin .neq .other (.t 75) (.t 80)))), ⟨10, ⟨(some 82), .mov (.t 81), none, true⟩, false, [], []⟩, (zS 11 (iG 83 (.mov (.t 1)) 82 false)), (zS 12 (iG 84 (.len false (.t 83)) 82 false)), (zS 13 (iG 85 (.mov (.t 1)) 82 false)), (zS 14 (iG 86 (.idx 1 none false (.t 85) (.c (.int .i64 1))) 82 false)), (zS 15 (iG 87 (.load false 1 (.t 86)) 82 false)), (zS 16 (iG 88 (.conv (.int .i64) (.t 87)) 82 false)), (zS 17 (iG 89 (.bin .add .other (.c (.int .i64 2)) (.t 88)) 82 false)), (zS 18 (iG 90 (.bin .neq .other (.t 84) (.t 89)) 82 false)), (zS 19 (iO 91 (.pick (.t 82) (.c (.bool true)) (.t 90))))])
 (.cond (.t 91) (.seq (.reg [(iO 92 (.build [(.int .u8 0), (.int .u8 0), (.int .u16 0), (.int .u16 0), .nils, .nils] [])), ⟨none, .store 6 (.t 4) (.t 92), none, false⟩, (iO 5 (.mov (.c (.int .i64 30))))])
 .ret)
 .skip))
 (.draw [(zS 0 (iM 93 1)), (zS 1 (iO 94 (.slice (.sl 1) (.t 93) (some (.c (.int .i64 2))) none))), (zS 2 (iF 95 2 2)), (zS 3 (iL 96 95)), (zS 4 (iO 97 (.conv (.int .i64) (.t 96)))), ⟨5, (iO 98 (.call 67 [(.t 94), (.t 97)])), true, [], []⟩, (zS 6 (iF 99 4 8)), ⟨7, ⟨none, .store 1 (.t 99) (.t 98), none, false⟩, true, [], []⟩]))
 (.seq (.seq (.reg [(iO 101 (.bin .eql .other (.t 56) (.c (.int .u8 3)))), (iM 100 101)])
 (.cond (.t 100) .skip
 (.seq (.reg [(iO 102 (.bin .eql .other (.t 56) (.c (.int .u8 4)))), (iM 100 102)])
 (.cond (.t 100) .skip
 (.reg [(iO 103 (.bin .eql .other (.t 56) (.c (.int .u8 23)))), (iM 100 103)])))))
 (.cond (.t 100) (.seq (.seq (.draw [(zS 0 (iM 104 1)), (zS 1 (iO 105 (.idx 1 none false (.t 104) (.c (.int .i64 1))))), (zS 2 (iL 106 105)), (zS 3 (iO 107 (.conv (.int .i64) (.t 106)))), (zS 4 (iF 108 2 2)), (zS 5 (iL 109 108)), (zS 6 (iO 110 (.conv (.int .i64) (.t 109)))), (zS 7 (iO 111 (.bin .mul .other (.c (.int .i64 2)) (.t 110)))), (zS 8 (iO 112 (.bin .neq .other (.t 107) (.t 111)))), ⟨9, ⟨(some 113), .mov (.t 112), none, true⟩, false, [], []⟩, (zS 10 (iG 114 (.mov (.t 1)) 113 false)), (zS 11 (iG 115 (.len false (.t 114)) 113 false)), (zS 12 (iG 116 (.mov (.t 1)) 113 false)), (zS 13 (iG 117 (.idx 1 none false (.t 116) (.c (.int .i64 1))) 113 false)), (zS 14 (iG 118 (.load false 1 (.t 117)) 113 false)), (zS 15 (iG 119 (.conv (.int .i64) (.t 118)) 113 false)), (zS 16 (iG 120 (.bin .add .other (.c (.int .i64 2)) (.t 119)) 113 false)), (zS 17 (iG 121 (.bin .neq .other (.t 115) (.t 120)) 113 false)), (zS 18 (iO 122 (.pick (.t 113) (.c (.bool true)) (.t 121))))])
 (.cond (.t 122) (.seq (.reg [(iO 123 (.build [(.int .u8 0), (.int .u8 0), (.int .u16 0), (.int .u16 0), .nils, .nils] [])), ⟨none, .store 6 (.t 4) (.t 123), none, false⟩, (iO 5 (.mov (.c (.int .i64 30))))])
 .ret)
 .skip))
 (.reg [(iM 124 1), (iO 125 (.slice (.sl 1) (.t 124) (some (.c (.int .i64 2))) none)), (iO 126 (.call 117 [(.t 125)])), (iF 127 5 8), ⟨none, .store 1 (.t 127) (.t 126), none, false⟩]))
 (.seq (.seq (.reg [(iO 129 (.bin .eql .other (.t 56) (.c (.int .u8 5)))), (iM 128 129)])
 (.cond (.t 128) .skip
 (.seq (.reg [(iO 130 (.bin .eql .other (.t 56) (.c (.int .u8 6)))), (iM 128 130)])
 (.cond (.t 128) .skip
 (.reg [(iO 131 (.bin .eql .other (.t 56) (.c (.int .u8 22)))), (iM 128 131)])))))
 (.cond (.t 128) (.seq (.seq (.reg [(iM 132 1), (iM 133 6), (iO 134 (.call 123 [(.t 132), (.t 133)])), (iO 135 (.un .not (.t 134)))])
 (.cond (.t 135) (.seq (.reg [(iO 136 (.build [(.int .u8 0), (.int .u8 0), (.int .u16 0), (.int .u16 0), .nils, .nils] [])), ⟨none, .store 6 (.t 4) (.t 136), none, false⟩, (iO 5 (.mov (.c (.int .i64 30))))])
 .ret)
 .skip))
 (.draw [(zS 0 (iF 137 1 2)), (zS 1 (iL 138 137)), (zS 2 (iF 139 4 2)), (zS 3 (iL 140 139)), (zS 4 (iF 141 5 2)), (zS 5 (iL 142 141)), (zS 6 (iF 143 2 8)), ⟨7, ⟨none, .store 1 (.t 143) (.t 138), none, false⟩, true, [], [(.t 139), (.t 141)]⟩, (zS 8 (iF 144 4 8)), ⟨9, ⟨none, .store 1 (.t 144) (.t 140), none, false⟩, true, [], [(.t 141)]⟩, (zS 10 (iF 145 5 8)), ⟨11, ⟨none, .store 1 (.t 145) (.t 142), none, false⟩, true, [], []⟩]))
 (.seq (.seq (.reg [(iM 57 1), (iM 58 6), (iO 59 (.slice (.sl 1) (.t 58) none (some (.c (.int .i64 5))))), (iO 60 (.call 123 [(.t 57), (.t 59)])), (iO 61 (.un .not (.t 60)))])
 (.cond (.t 61) (.seq (.reg [(iO 62 (.build [(.int .u8 0), (.int .u8 0), (.int .u16 0), (.int .u16 0), .nils, .nils] [])), ⟨none, .store 6 (.t 4) (.t 62), none, false⟩, (iO 5 (.mov (.c (.int .i64 30))))])
 .ret)
 .skip))
 (.draw [(zS 0 (iF 63 1 2)), (zS 1 (iL 64 63)), (zS 2 (iM 65 1)), (zS 4 (iF 67 2 8)), ⟨3, (iO 66 (.call 116 [(.t 65), (.c (.int .i64 3))])), true, [], [(.t 63)]⟩, ⟨5, ⟨none, .store 1 (.t 67) (.t 64), none, false⟩, true, [], []⟩, (zS 6 (iF 68 3 8)), ⟨7, ⟨none, .store 1 (.t 68) (.t 66), none, false⟩, true, [], []⟩]))))))))))
 (.seq (.reg [(iO 146 (.load true 6 (.t 8))), ⟨none, .store 6 (.t 4) (.t 146), none, false⟩, (iO 5 (.mov (.c (.int .i64 0))))])
 .ret))))))))
def r59 : List ARes := [.cell 4 true 6, .t 5]
theorem c59 : compF Try.prog Try.f59 = some (a59, r59) := by kernel_rfl
theorem b123 : hasBody Try.prog 123 = true := by kernel_rfl
theorem g123 : Try.prog.funcs[123]? = some Try.f123 := by kernel_rfl
theorem b59 : hasBody Try.prog 59 = true := by kernel_rfl
theorem g59 : Try.prog.funcs[59]? = some Try.f59 := by kernel_rfl
theorem rsame_ev (l m : List Int) (hl : isB l) (hm : isB m) : Ev Try.prog 123 [.roI .u8 l, .roI .u8 m] (.bool (l == m)) := by
  refine FrzK.ev rfl (trF g123 b123 c123 ?_)
  conv => whnf
  refine FrzK.le (leBool ?_)
  have e : ((bytesStr l).toList == (bytesStr m).toList) = (l == m) := by
    rw [ByteArray.toList_eq, ByteArray.toList_eq, Bool.eq_iff_iff]
    simp only [beq_iff_eq]
    exact ⟨fun h => map_inj l m hl hm h, fun h => by rw [h]⟩
  exact e
def rorepT (q : Rq) (l asked : List Int) : Rp × Int :=
  if q.f == 1 then (if IntKind.i64.wrap (l.getD 1 0) != nB q.n || (l.length : Int) != IntKind.i64.wrap (2 + IntKind.i64.wrap (l.getD 1 0)) then (Rp.zero, 30) else (⟨q.f, 0, 0, 0, bitsA (cutF l 2) (bitsK (IntKind.i64.wrap q.n)), []⟩, 0))
  else if q.f == 2 then (if IntKind.i64.wrap (l.getD 1 0) != nB q.n || (l.length : Int) != IntKind.i64.wrap (2 + IntKind.i64.wrap (l.getD 1 0)) then (Rp.zero, 30) else (⟨q.f, 0, 0, 0, bitsA (cutF l 2) (bitsK (IntKind.i64.wrap q.n)), []⟩, 0))
  else if q.f == 3 then (if IntKind.i64.wrap (l.getD 1 0) != IntKind.i64.wrap (2 * IntKind.i64.wrap q.n) || (l.length : Int) != IntKind.i64.wrap (2 + IntKind.i64.wrap (l.getD 1 0)) then (Rp.zero, 30) else (⟨q.f, 0, 0, 0, [], numsN (cutF l 2) ((cutF l 2).length / 2)⟩, 0))
  else if q.f == 4 then (if IntKind.i64.wrap (l.getD 1 0) != IntKind.i64.wrap (2 * IntKind.i64.wrap q.n) || (l.length : Int) != IntKind.i64.wrap (2 + IntKind.i64.wrap (l.getD 1 0)) then (Rp.zero, 30) else (⟨q.f, 0, 0, 0, [], numsN (cutF l 2) ((cutF l 2).length / 2)⟩, 0))
  else if q.f == 23 then (if IntKind.i64.wrap (l.getD 1 0) != IntKind.i64.wrap (2 * IntKind.i64.wrap q.n) || (l.length : Int) != IntKind.i64.wrap (2 + IntKind.i64.wrap (l.getD 1 0)) then (Rp.zero, 30) else (⟨q.f, 0, 0, 0, [], numsN (cutF l 2) ((cutF l 2).length / 2)⟩, 0))
  else if q.f == 5 then (if !(l == asked) then (Rp.zero, 30) else (⟨q.f, 0, q.a, 0, q.b, q.r⟩, 0))
  else if q.f == 6 then (if !(l == asked) then (Rp.zero, 30) else (⟨q.f, 0, q.a, 0, q.b, q.r⟩, 0))
  else if q.f == 22 then (if !(l == asked) then (Rp.zero, 30) else (⟨q.f, 0, q.a, 0, q.b, q.r⟩, 0))
  else (if !(l == asked.take 5) then (Rp.zero, 30) else (⟨q.f, 0, q.a, numAt l 3, [], []⟩, 0))
def rorepA (q : Rq) (l asked : List Int) (e : Int) : Rp × Int :=
  if e != 0 then (Rp.zero, 30)
  else if decide ((l.length : Int) < 2) then (Rp.zero, 30)
  else if l.getD 0 0 == or128 q.f then (if (l.length : Int) != 2 then (Rp.zero, 30) else if l.getD 1 0 == 0 then (Rp.zero, 30) else (⟨q.f, l.getD 1 0, 0, 0, [], []⟩, 0))
  else if l.getD 0 0 != q.f then (Rp.zero, 30)
  else rorepT q l asked
def rorepS (q : Rq) (l : List Int) : Rp × Int := rorepA q l (encR q.f q.a q.n q.a2 q.b q.r) (encE q.f q.n q.a2 q.b q.r)
theorem enc5 (f a n a2 : Int) (b : List Bool) (r : List Int) (h : encE f n a2 b r = 0) : 5 ≤ (encR f a n a2 b r).length := by
  have hk : encOk f n a2 b r = true := by
    by_cases hk : encOk f n a2 b r = true
    · exact hk
    · unfold encE at h; rw [if_neg hk] at h; omega
  exact (expl_enc f a n a2 b r hk).2.2.1
set_option maxRecDepth 20000 in
set_option maxHeartbeats 4000000 in
theorem rOpenReply_raw (f a n a2 : Int) (b : List Bool) (r : List Int) (l : List Int) (hf : 0 ≤ f ∧ f < 256) (hn0 : 0 ≤ n) (hn1 : n < 65536) (hb : b.length ≤ 2500) (hr : r.length ≤ 200) (hl : l.length ≤ 30000) (hB : isB l) :
    Tr Try.prog 59 [reqA f a n a2 (.roB b) (.roI .u16 r), .roI .u8 l] ⟨0, []⟩ (FrzK (.tup [rpA (rorepS ⟨f, a, n, a2, b, r⟩ l).1, .int .i64 (rorepS ⟨f, a, n, a2, b, r⟩ l).2])) := by
  have hAB := enc_byte f a n a2 b r hf.1 hf.2
  have hA5 := enc5 f a n a2 b r
  refine trF g59 b59 c59 ?_
  conv => whnf
  refine Ev.call (rRequest_ev f a n a2 b r hn0 hn1 hb (by omega)) ?_
  conv => whnf
  unfold rorepS
  show _
  generalize encR f a n a2 b r = asked at *
  generalize encE f n a2 b r = e at *
  have hT5 : isB (asked.take 5) := fun x hx => hAB x (List.mem_of_mem_take hx)
  repeat' (first
    | (refine condY (by assumption) ?_; conv => whnf)
    | (refine condN (by assumption) ?_; conv => whnf)
    | (refine condT (by first | assumption | (simp; omega) | (have := hA5 (by simp_all); simp; omega) | (simp_all; done) | (simp_all; omega)) ?_; conv => whnf)
    | (refine condF (fun h => ?_) (fun h => ?_) <;> conv => whnf)
    | (refine ⟨rfl, ?_⟩; conv => whnf)
    | (refine Ev.call (rregs_ev _ (by first | omega | (simp [cutF, numsN_length, bitsA_length]; done) | (simp [cutF, numsN_length, bitsA_length]; omega) | (simp_all; omega))) ?_; conv => whnf)
    | (refine Ev.call (rbits_ev _ _ (by first | omega | (simp [cutF, numsN_length, bitsA_length]; done) | (simp [cutF, numsN_length, bitsA_length]; omega) | (simp_all; omega))) ?_; conv => whnf)
    | (refine Ev.call (rsame_ev _ _ hB hAB) ?_; conv => whnf)
    | (refine Ev.call (rsame_ev _ _ hB hT5) ?_; conv => whnf)
    | (refine Ev.call (at_ev' l 3 3 rfl (by
        have h5 := hA5 (by simp_all)
        have h6 : l = asked.take 5 := by simp_all
        rw [h6]; simp; omega) (by omega)) ?_; conv => whnf)
    )
  all_goals (try simp only [show Int.toNat 0 = 0 from rfl, show Int.toNat 1 = 1 from rfl, show Int.toNat 2 = 2 from rfl] at *)
  all_goals (try have hx : (l.getD 0 0 == or128 f) = false := by assumption)
  all_goals (try have hx : (l.getD 0 0 == or128 f) = true := by assumption)
  all_goals (try have hy : (!(l == asked.take 5)) = false := by assumption)
  all_goals (try have hy : (!(l == asked.take 5)) = true := by assumption)
  all_goals (generalize ho : rorepA ⟨f, a, n, a2, b, r⟩ l asked e = o; simp only [rorepA, rorepT, cutF, nB, *, if_true, if_false, Bool.false_eq_true, Bool.or_false, Bool.false_or, Bool.true_or, Bool.or_true, Bool.and_true, Bool.true_and, Bool.false_and, Bool.and_false] at ho)
  all_goals (try (first | erw [if_pos h] at ho | erw [if_neg (fun e => Bool.noConfusion (e.symm.trans h))] at ho))
  all_goals subst ho
  all_goals first
    | exact FrzK.le (leRep rfl rfl rfl rfl (by first | exact Le.refl _ | exact Le.nilB) (by first | exact Le.refl _ | exact Le.nilI _) rfl)
theorem rOpenReply_ev (f a n a2 : Int) (b : List Bool) (r : List Int) (l : List Int) (hf : 0 ≤ f ∧ f < 256) (hn0 : 0 ≤ n) (hn1 : n < 65536) (hb : b.length ≤ 2500) (hr : r.length ≤ 200) (hl : l.length ≤ 30000) (hB : isB l) :
    Ev Try.prog 59 [reqA f a n a2 (.roB b) (.roI .u16 r), .roI .u8 l] (.tup [rpA (rorepS ⟨f, a, n, a2, b, r⟩ l).1, .int .i64 (rorepS ⟨f, a, n, a2, b, r⟩ l).2]) := FrzK.ev rfl (rOpenReply_raw f a n a2 b r l hf hn0 hn1 hb hr hl hB)
end Go.Proofs.Ytomodeliimnddaa
set_option linter.unusedVariables false
set_option linter.unusedSimpArgs false
namespace Go.Proofs.Ytomodeliimnddaa
open Go.Ab
theorem twos_app : ∀ (a b : List Int), twos (a ++ b) = twos a ++ twos b
  | [], b => rfl
  | x :: a, b => by simp only [List.cons_append, twos, twos_app a b, List.append_assoc]
theorem two8_num (a b : Int) (h0 : 0 ≤ a) (h1 : a < 256) (h2 : 0 ≤ b) (h3 : b < 256) : two8 (num16 a b) = [a, b] := by
  rw [num16_eq a b h0 h1 h2 h3]
  unfold two8
  rw [hi8_eq _ (by omega) (by omega)]
  have e : IntKind.u8.wrap (256 * a + b) = b := by
    show (256 * a + b) % 256 = b
    omega
  rw [e]
  congr 1
  omega
theorem twos_nums (l : List Int) (hB : isB l) : ∀ k, 2 * k ≤ l.length → twos (numsN l k) = l.take (2 * k)
  | 0, _ => rfl
  | k + 1, h => by
    have ih := twos_nums l hB k (by omega)
    have e1 := hB.getD (2 * k)
    have e2 := hB.getD (2 * k + 1)
    have e3 : numsN l (k + 1) = numsN l k ++ [num16 (l.getD (2 * k) 0) (l.getD (2 * k + 1) 0)] := rfl
    rw [e3, twos_app, ih]
    have e4 : twos [num16 (l.getD (2 * k) 0) (l.getD (2 * k + 1) 0)] = [l.getD (2 * k) 0, l.getD (2 * k + 1) 0] := by
      simp only [twos, List.append_nil]
      exact two8_num _ _ e1.1 e1.2 e2.1 e2.2
    rw [e4]
    have g1 : 2 * k < l.length := by omega
    have g2 : 2 * k + 1 < l.length := by omega
    have d1 : l.getD (2 * k) 0 = l[2 * k] := by simp [List.getD_eq_getElem?_getD, g1]
    have d2 : l.getD (2 * k + 1) 0 = l[2 * k + 1] := by simp [List.getD_eq_getElem?_getD, g2]
    rw [d1, d2, show 2 * (k + 1) = 2 * k + 1 + 1 by omega, ← List.take_append_getElem g2, ← List.take_append_getElem g1, List.append_assoc]
    rfl
theorem plain3 (f n : Int) (hf : f = 3 ∨ f = 4 ∨ f = 23) (hn : 1 ≤ n ∧ n ≤ 125) (l : List Int) (hB : isB l) (h2 : 2 ≤ l.length) (hl : l.length ≤ 30000) :
    (if ((numsN (cutF l 2) ((cutF l 2).length / 2)).length : Int) != IntKind.i64.wrap n then (Rp.zero, (30 : Int)) else finS l ⟨f, 0, 0, 0, [], numsN (cutF l 2) ((cutF l 2).length / 2)⟩) =
    if l.getD 0 0 != f then (Rp.zero, 30) else if IntKind.i64.wrap (l.getD 1 0) != IntKind.i64.wrap (2 * IntKind.i64.wrap n) || (l.length : Int) != IntKind.i64.wrap (2 + IntKind.i64.wrap (l.getD 1 0)) then (Rp.zero, 30) else (⟨f, 0, 0, 0, [], numsN (cutF l 2) ((cutF l 2).length / 2)⟩, 0) := by
  obtain ⟨x, y, t, rfl⟩ : ∃ x y t, l = x :: y :: t := by
    match l, h2 with
    | x :: y :: t, _ => exact ⟨x, y, t, rfl⟩
  have hc : cutF (x :: y :: t) 2 = t := by rw [cutF_eq]; rfl
  rw [hc]
  have hy := hB y (by simp)
  have hBt : isB t := fun z hz => hB z (by simp [hz])
  have g0 : (x :: y :: t).getD 0 0 = x := rfl
  have g1 : (x :: y :: t).getD 1 0 = y := rfl
  rw [g0, g1, IntWalk.i64_in n (by omega), IntWalk.i64_in y (by omega), IntWalk.i64_in (2 * n) (by omega), IntWalk.i64_in (2 + y) (by omega), numsN_length]
  have htw := twos_nums t hBt (t.length / 2) (by omega)
  have hlt : (x :: y :: t).length = t.length + 2 := rfl
  have hnl := numsN_length t (t.length / 2)
  by_cases hlen : ((t.length / 2 : Nat) : Int) = n
  · rw [if_neg (by simp [hlen])]
    have hk : repOk f 0 0 0 [] (numsN t (t.length / 2)) = true := by
      rcases hf with rfl | rfl | rfl <;> simp [repOk, withinB, hnl] <;> omega
    have hrow : repB f 0 0 0 [] (numsN t (t.length / 2)) = f :: (2 * n) :: t.take (2 * (t.length / 2)) := by
      unfold repB
      rw [if_pos hk]
      have e : IntKind.u8.wrap (IntKind.i64.wrap (2 * ((t.length / 2 : Nat) : Int))) = 2 * n := by
        rw [hlen, IntWalk.i64_in _ (by omega), u8_in _ (by omega) (by omega)]
      rcases hf with rfl | rfl | rfl <;> simp only [repS, hnl, htw, e] <;> rfl
    unfold finS
    simp only [hrow]
    have hE : repE f 0 0 0 [] (numsN t (t.length / 2)) = 0 := by unfold repE; rw [if_pos hk]
    simp only [hE, beq_self_eq_true, Bool.true_and]
    by_cases hxf : x = f
    · subst hxf
      by_cases hy2 : y = 2 * n
      · subst hy2
        by_cases ht : t.length = 2 * (t.length / 2)
        · rw [if_pos (by rw [← ht, List.take_length]; simp), if_neg (by simp), if_neg (by simp; omega)]
        · rw [if_neg (fun h => by
            have := congrArg List.length (eq_of_beq h)
            simp at this; omega), if_neg (by simp), if_pos (by simp; omega)]
      · rw [if_neg (fun h => by
          have := eq_of_beq h
          simp only [List.cons.injEq] at this
          exact hy2 this.2.1.symm), if_neg (by simp), if_pos (by simp; omega)]
    · rw [if_neg (fun h => by
        have := eq_of_beq h
        simp only [List.cons.injEq] at this
        exact hxf this.1.symm), if_pos (by simpa using hxf)]
  · rw [if_pos (by simpa using hlen)]
    by_cases hxf : x = f
    · rw [if_neg (by simpa using hxf), if_pos (by simp; omega)]
    · rw [if_pos (by simpa using hxf)]
theorem row5 (f a n a2 : Int) (b : List Bool) (r : List Int) (hf : f = 5 ∨ f = 6 ∨ f = 22) (hk : encOk f n a2 b r = true) : repE f 0 a 0 b r = 0 ∧ repB f 0 a 0 b r = encR f a n a2 b r ∧ (encR f a n a2 b r).getD 0 0 = f := by
  have h : repOk f 0 a 0 b r = true := by
    rcases hf with rfl | rfl | rfl <;> simp [encOk, repOk] at hk ⊢ <;> simp [hk]
  unfold repE repB encR
  rw [if_pos h, if_pos h, if_pos hk]
  rcases hf with rfl | rfl | rfl <;> exact ⟨rfl, rfl, rfl⟩
theorem row15b (f a n a2 : Int) (b : List Bool) (r : List Int) (k : Int) (hf : (f = 15 ∧ k = IntKind.u16.wrap b.length) ∨ (f = 16 ∧ k = IntKind.u16.wrap r.length)) (hk : encOk f n a2 b r = true) :
    repE f 0 a k [] [] = 0 ∧ repB f 0 a k [] [] = (encR f a n a2 b r).take 5 ∧ (encR f a n a2 b r).getD 0 0 = f ∧ numAt ((encR f a n a2 b r).take 5) 3 = k := by
  rcases hf with ⟨rfl, rfl⟩ | ⟨rfl, rfl⟩
  · simp [encOk, withinB] at hk
    have hb : IntKind.u16.wrap (b.length : Int) = b.length := u16_in _ (by omega) (by omega)
    have h : repOk 15 0 a (IntKind.u16.wrap b.length) [] [] = true := by rw [hb]; simp [repOk, withinB]; omega
    have h2 : encOk 15 n a2 b r = true := by simp [encOk, withinB]; omega
    unfold repE repB encR
    rw [if_pos h, if_pos h, if_pos h2]
    refine ⟨rfl, rfl, rfl, ?_⟩
    exact num_two _ (by rw [hb]; omega) (by rw [hb]; omega)
  · simp [encOk, withinB] at hk
    have hb : IntKind.u16.wrap (r.length : Int) = r.length := u16_in _ (by omega) (by omega)
    have h : repOk 16 0 a (IntKind.u16.wrap r.length) [] [] = true := by rw [hb]; simp [repOk, withinB]; omega
    have h2 : encOk 16 n a2 b r = true := by simp [encOk, withinB]; omega
    unfold repE repB encR
    rw [if_pos h, if_pos h, if_pos h2]
    refine ⟨rfl, rfl, rfl, ?_⟩
    exact num_two _ (by rw [hb]; omega) (by rw [hb]; omega)
theorem fin5 (l asked : List Int) (p p' : Rp) (f : Int) (hE : repE p.f p.x p.a p.n p.b p.r = 0) (hR : repB p.f p.x p.a p.n p.b p.r = asked) (h0 : asked.getD 0 0 = f) (hp : l = asked → p = p') :
    finS l p = if l.getD 0 0 != f then (Rp.zero, 30) else if !(l == asked) then (Rp.zero, 30) else (p', 0) := by
  unfold finS
  rw [hE, hR]
  by_cases h : l = asked
  · subst h
    rw [if_pos (by simp), if_neg (by rw [h0]; simp), if_neg (by simp), hp rfl]
  · rw [if_neg (by simp; exact fun e => h e.symm)]
    split
    · rfl
    · rw [if_pos (by simpa using h)]
theorem orep_same (f a n a2 : Int) (b : List Bool) (r : List Int) (l : List Int) (hn : 0 ≤ n ∧ n < 65536) (hB : isB l) (hl : l.length ≤ 30000) : orepS ⟨f, a, n, a2, b, r⟩ l = rorepS ⟨f, a, n, a2, b, r⟩ l := by
  unfold orepS rorepS rorepA
  refine ite_congr rfl (fun _ => rfl) fun hA => ?_
  refine ite_congr rfl (fun _ => rfl) fun h2 => ?_
  refine ite_congr rfl (fun _ => rfl) fun hx => ?_
  have h2 : 2 ≤ l.length := by simp at h2; omega
  by_cases hk : encOk f n a2 b r = true
  · have h12 : ∀ k : Int, f = k → (k = 1 ∨ k = 2) → (if l.getD 0 0 != f || IntKind.i64.wrap (l.getD 1 0) != nB n || (l.length : Int) != IntKind.i64.wrap (nB n + 2) then (Rp.zero, (30 : Int)) else (⟨f, 0, 0, 0, bitsA (cutF l 2) (bitsK (IntKind.i64.wrap n)), []⟩, 0)) =
        if l.getD 0 0 != f then (Rp.zero, 30) else (if IntKind.i64.wrap (l.getD 1 0) != nB n || (l.length : Int) != IntKind.i64.wrap (2 + IntKind.i64.wrap (l.getD 1 0)) then (Rp.zero, 30) else (⟨f, 0, 0, 0, bitsA (cutF l 2) (bitsK (IntKind.i64.wrap n)), []⟩, 0)) := by
      intro k _ _
      generalize l.getD 0 0 = x0
      generalize l.getD 1 0 = x1
      by_cases c1 : x0 = f
      · by_cases c2 : IntKind.i64.wrap x1 = nB n
        · simp [c1, c2, Int.add_comm]
        · simp [c1, c2]
      · simp [c1]
    by_cases h1 : f = 1
    · subst h1; exact h12 1 rfl (.inl rfl)
    by_cases h1 : f = 2
    · subst h1; exact h12 2 rfl (.inr rfl)
    by_cases h1 : f = 3
    · subst h1; simp [encOk, withinB] at hk; exact plain3 3 n (.inl rfl) (by omega) l hB h2 hl
    by_cases h1 : f = 4
    · subst h1; simp [encOk, withinB] at hk; exact plain3 4 n (.inr (.inl rfl)) (by omega) l hB h2 hl
    by_cases h1 : f = 23
    · subst h1; simp [encOk, withinB] at hk; exact plain3 23 n (.inr (.inr rfl)) (by omega) l hB h2 hl
    by_cases h1 : f = 5
    · subst h1
      obtain ⟨q1, q2, q3⟩ := row5 5 a n a2 b r (.inl rfl) hk
      exact fin5 l _ ⟨5, 0, a, 0, b, r⟩ _ 5 q1 q2 q3 fun _ => rfl
    by_cases h1 : f = 6
    · subst h1
      obtain ⟨q1, q2, q3⟩ := row5 6 a n a2 b r (.inr (.inl rfl)) hk
      exact fin5 l _ ⟨6, 0, a, 0, b, r⟩ _ 6 q1 q2 q3 fun _ => rfl
    by_cases h1 : f = 22
    · subst h1
      obtain ⟨q1, q2, q3⟩ := row5 22 a n a2 b r (.inr (.inr rfl)) hk
      exact fin5 l _ ⟨22, 0, a, 0, b, r⟩ _ 22 q1 q2 q3 fun _ => rfl
    by_cases h1 : f = 15
    · subst h1
      obtain ⟨q1, q2, q3, q4⟩ := row15b 15 a n a2 b r _ (.inl ⟨rfl, rfl⟩) hk
      exact fin5 l _ ⟨15, 0, a, IntKind.u16.wrap b.length, [], []⟩ _ 15 q1 q2 (by rw [getD_take _ _ _ (by omega)]; exact q3) fun e => by rw [e, q4]
    by_cases h1 : f = 16
    · subst h1
      obtain ⟨q1, q2, q3, q4⟩ := row15b 16 a n a2 b r _ (.inr ⟨rfl, rfl⟩) hk
      exact fin5 l _ ⟨16, 0, a, IntKind.u16.wrap r.length, [], []⟩ _ 16 q1 q2 (by rw [getD_take _ _ _ (by omega)]; exact q3) fun e => by rw [e, q4]
    simp [encOk, *] at hk
  · exfalso
    apply hA
    show (encE f n a2 b r != 0) = true
    unfold encE
    rw [if_neg hk]
    rfl
end Go.Proofs.Ytomodeliimnddaa
set_option linter.unusedVariables false
set_option linter.unusedSimpArgs false
namespace Go.Proofs.Ytomodeliimnddaa
open Go.Ab
def a89 : ACode := (.seq (.reg [(iO 3 (.box (.t 1))), (iO 4 (.mov (.c (.bool false))))])
 (.seq (.seq (.reg [(iO 5 (.mov (.c (.int .i64 0))))])
 (.block 0 (.loop (.seq (.seq (.reg [(iM 9 5), (iM 10 0), (iN 11 10), (iF 12 0 11), (iL 13 12), (iO 14 (.len false (.t 13))), (iO 15 (.bin .lss .other (.t 9) (.t 14)))])
 (.cond (.t 15) .skip
 (.exit 0)))
 (.seq (.block 1 (.seq (.reg [(iM 18 0), (iN 19 18), (iF 20 0 19), (iL 21 20), (iM 22 5), (iO 23 (.idx 25 none true (.t 21) (.t 22))), (iM 6 23)])
 (.seq (.seq (.draw [(zS 0 (iM 24 6)), (zS 1 (iN 25 24)), (zS 2 (iF 26 11 25)), (zS 3 (iL 27 26)), (zS 4 (iO 28 (.un .not (.t 27)))), ⟨5, ⟨(some 29), .mov (.t 28), none, true⟩, false, [], []⟩, (zS 6 (iG 30 (.mov (.t 6)) 29 false)), (zS 7 (iG 31 (.nilck (.t 30)) 29 false)), (zS 8 (iG 32 (.fld 12 1 false (.t 31)) 29 false)), (zS 9 (iG 33 (.load false 1 (.t 32)) 29 false)), (zS 10 (iG 34 (.fld 0 1 false (.t 3)) 29 false)), (zS 11 (iG 35 (.load false 1 (.t 34)) 29 false)), (zS 12 (iG 36 (.bin .neq .other (.t 33) (.t 35)) 29 false)), (zS 13 (iO 37 (.pick (.t 29) (.c (.bool true)) (.t 36)))), ⟨14, ⟨(some 38), .mov (.t 37), none, true⟩, false, [], []⟩, (zS 15 (iG 39 (.mov (.t 6)) 38 false)), (zS 16 (iG 40 (.nilck (.t 39)) 38 false)), (zS 17 (iG 41 (.fld 0 8 true (.t 40)) 38 false)), (zS 18 (iG 42 (.fld 0 1 false (.t 41)) 38 false)), (zS 19 (iG 43 (.load false 1 (.t 42)) 38 false)), (zS 20 (iG 44 (.fld 1 1 false (.t 3)) 38 false)), (zS 21 (iG 45 (.load false 1 (.t 44)) 38 false)), (zS 22 (iG 46 (.bin .neq .other (.t 43) (.t 45)) 38 false)), (zS 23 (iO 47 (.pick (.t 38) (.c (.bool true)) (.t 46))))])
 (.cond (.t 47) (.exit 1)
 .skip))
 (.seq (.draw [(zS 0 (iM 49 6)), (zS 1 (iN 50 49)), (zS 2 (iO 51 (.fld 13 6 true (.t 50)))), (zS 3 (iO 52 (.load true 6 (.t 51)))), (zS 4 (iF 53 2 3)), (zS 5 (iL 54 53)), (zS 10 (iO 7 (.alloc [(2, (.int .u8 0)), (2, (.int .u16 0)), (2, .nils)]))), ⟨6, (iO 55 (.call 59 [(.t 52), (.t 54)])), true, [], []⟩, (zS 7 (iM 48 55)), (zS 8 (iO 56 (.ext (.t 48) 0))), (zS 9 (iO 57 (.ext (.t 48) 1))), ⟨11, ⟨none, .store 6 (.t 7) (.t 56), none, false⟩, true, [10], []⟩, (zS 12 (iM 8 57))])
 (.seq (.seq (.reg [(iM 58 8), (iO 59 (.bin .neq .other (.t 58) (.c (.int .i64 0))))])
 (.cond (.t 59) (.exit 1)
 .skip))
 (.seq (.reg [(iM 60 6), (iN 61 60), (iF 62 11 61), ⟨none, .store 1 (.t 62) (.c (.bool false)), none, false⟩])
 (.seq (.seq (.reg [(iF 63 1 7), (iL 64 63), (iO 65 (.bin .neq .other (.t 64) (.c (.int .u8 0))))])
 (.cond (.t 65) (.seq (.reg [(iM 66 6), (iO 67 (.call 137 [(.t 66)]))])
 (.seq (.reg [(iO 4 (.mov (.c (.bool true))))])
 .ret))
 .skip))
 (.seq (.reg [(iM 68 6), (iM 69 6), (iM 70 6), (iN 71 68), (iF 72 19 71), ⟨none, .store 1 (.t 72) (.c (.int .i64 0)), none, false⟩, (iN 73 69), (iF 74 21 73), ⟨none, .store 1 (.t 74) (.c (.bool false)), none, false⟩, (iN 75 70), (iF 76 20 75), ⟨none, .store 1 (.t 76) (.c (.int .i64 0)), none, false⟩])
 (.seq (.seq (.reg [(iM 77 6), (iN 78 77), (iO 79 (.fld 0 8 true (.t 78))), (iF 80 1 79), (iL 81 80), (iO 82 (.bin .leq .other (.t 81) (.c (.int .u8 4))))])
 (.cond (.t 82) (.draw [(zS 0 (iM 83 6)), (zS 1 (iM 84 6)), (zS 2 (iM 85 6)), (zS 3 (iF 86 4 7)), (zS 4 (iL 87 86)), (zS 5 (iF 88 5 7)), (zS 6 (iL 89 88)), (zS 7 (iN 90 83)), (zS 8 (iF 91 22 90)), ⟨9, ⟨none, .store 1 (.t 91) (.c (.bool true)), none, false⟩, true, [], [(.t 86), (.t 88)]⟩, (zS 10 (iN 92 84)), (zS 11 (iF 93 23 92)), ⟨12, ⟨none, .store 1 (.t 93) (.t 87), none, false⟩, true, [], [(.t 88)]⟩, (zS 13 (iN 94 85)), (zS 14 (iF 95 24 94)), ⟨15, ⟨none, .store 1 (.t 95) (.t 89), none, false⟩, true, [], []⟩])
 .skip))
 (.seq (.reg [(iO 4 (.mov (.c (.bool true))))])
 .ret))))))))))
 (.reg [(iM 16 5), (iO 17 (.bin .add .other (.t 16) (.c (.int .i64 1)))), (iM 5 17)]))))))
 (.seq (.reg [(iO 4 (.mov (.c (.bool false))))])
 .ret)))
def r89 : List ARes := [.t 4]
theorem c89 : compF Try.prog Try.f89 = some (a89, r89) := by kernel_rfl
theorem b89 : hasBody Try.prog 89 = true := by kernel_rfl
theorem g89 : Try.prog.funcs[89]? = some Try.f89 := by kernel_rfl
structure WOk (x : Pl) : Prop where
  q0 : 0 ≤ x.qn
  q1 : x.qn < 65536
  f0 : 0 ≤ x.qf
  f1 : x.qf < 256
  b : x.qb.length ≤ 2500
  r : x.qr.length ≤ 200
  w : x.w = true → x.qf = x.p.f
  wn : x.w = true → x.p.f ≤ 4 → x.qn = x.p.n
  p1 : 1 ≤ x.p.f
  n1 : 1 ≤ x.p.n
  n64 : x.p.n ≤ 64
theorem orep_b {q : Rq} {l : List Int} (hf : q.f = 1 ∨ q.f = 2) (hn : 1 ≤ q.n ∧ q.n ≤ 64) (he : (orepS q l).2 = 0) (hx : (orepS q l).1.x = 0) : (orepS q l).1.r = [] ∧ (orepS q l).1.b.length = q.n.toNat := by
  have hw : IntKind.i64.wrap q.n = q.n := w64i (by omega) (by omega)
  have hk : bitsK q.n = q.n.toNat := by
    unfold bitsK; rw [if_neg (by omega), if_neg (by omega)]
  have key : ∀ (c : Prop) [Decidable c] (b : Rp × Int), (if c then (Rp.zero, (30 : Int)) else b).2 = 0 → ¬ c := fun c _ b h hc => by
    rw [if_pos hc] at h; exact absurd h (by decide)
  unfold orepS at he hx ⊢
  have k1 := key _ _ he
  rw [if_neg k1] at he hx ⊢
  have k2 := key _ _ he
  rw [if_neg k2] at he hx ⊢
  by_cases h128 : (l.getD 0 0 == or128 q.f) = true
  · rw [if_pos h128] at he hx ⊢
    have k3 := key _ _ he
    rw [if_neg k3] at he hx ⊢
    by_cases h1 : (l.getD 1 0 == 0) = true
    · rw [if_pos h1] at he; exact absurd he (by decide)
    · rw [if_neg h1] at hx
      exact absurd (by simpa using hx) (by simpa using h1)
  · rw [if_neg h128] at he hx ⊢
    have hT : ∃ c : Bool, orepT q l = if c then (Rp.zero, 30) else (⟨q.f, 0, 0, 0, bitsA (cutF l 2) (bitsK (IntKind.i64.wrap q.n)), []⟩, 0) := by
      refine ⟨l.getD 0 0 != q.f || IntKind.i64.wrap (l.getD 1 0) != nB q.n || (l.length : Int) != IntKind.i64.wrap (nB q.n + 2), ?_⟩
      unfold orepT
      rcases hf with h | h <;> rw [h] <;> rfl
    obtain ⟨c, hT⟩ := hT
    rw [hT] at he hx ⊢
    have k4 := key _ _ he
    rw [if_neg k4] at he hx ⊢
    refine ⟨rfl, ?_⟩
    show (bitsA _ _).length = _
    rw [bitsA_length, hw, hk]
theorem orep_r {q : Rq} {l : List Int} (hf : q.f = 3 ∨ q.f = 4) (hn : 1 ≤ q.n ∧ q.n ≤ 64) (he : (orepS q l).2 = 0) (hx : (orepS q l).1.x = 0) : (orepS q l).1.b = [] ∧ (orepS q l).1.r.length = q.n.toNat := by
  have hw : IntKind.i64.wrap q.n = q.n := w64i (by omega) (by omega)
  have key : ∀ (c : Prop) [Decidable c] (b : Rp × Int), (if c then (Rp.zero, (30 : Int)) else b).2 = 0 → ¬ c := fun c _ b h hc => by
    rw [if_pos hc] at h; exact absurd h (by decide)
  unfold orepS at he hx ⊢
  have k1 := key _ _ he
  rw [if_neg k1] at he hx ⊢
  have k2 := key _ _ he
  rw [if_neg k2] at he hx ⊢
  by_cases h128 : (l.getD 0 0 == or128 q.f) = true
  · rw [if_pos h128] at he hx ⊢
    have k3 := key _ _ he
    rw [if_neg k3] at he hx ⊢
    by_cases h1 : (l.getD 1 0 == 0) = true
    · rw [if_pos h1] at he; exact absurd he (by decide)
    · rw [if_neg h1] at hx
      exact absurd (by simpa using hx) (by simpa using h1)
  · rw [if_neg h128] at he hx ⊢
    have hT : orepT q l = if ((numsN (cutF l 2) ((cutF l 2).length / 2)).length : Int) != IntKind.i64.wrap q.n then (Rp.zero, 30) else finS l ⟨q.f, 0, 0, 0, [], numsN (cutF l 2) ((cutF l 2).length / 2)⟩ := by
      unfold orepT
      rcases hf with h | h <;> rw [h] <;> rfl
    rw [hT] at he hx ⊢
    have k4 := key _ _ he
    rw [if_neg k4] at he hx ⊢
    rcases finS_or l ⟨q.f, 0, 0, 0, [], numsN (cutF l 2) ((cutF l 2).length / 2)⟩ with e | e
    · rw [e]
      refine ⟨rfl, ?_⟩
      show (numsN (cutF l 2) ((cutF l 2).length / 2)).length = _
      have k4 : ((numsN (cutF l 2) ((cutF l 2).length / 2)).length : Int) = IntKind.i64.wrap q.n := by simpa using k4
      rw [hw] at k4; omega
    · rw [e] at he; exact absurd he (by decide)
theorem b1L_ne (b : List Bool) : (b1L b).map (· != 0) = b := by
  unfold b1L
  rw [List.map_map]
  conv => rhs; rw [← List.map_id b]
  refine List.map_congr_left fun t _ => ?_
  cases t <;> rfl
theorem hit_w {id u : Int} {l : List Int} {x : Pl} (h : x.w = false) : hitB id u l x = false := by unfold hitB; rw [h]; rfl
theorem hit_id {id u : Int} {l : List Int} {x : Pl} (h : x.id ≠ id) : hitB id u l x = false := by
  unfold hitB; rw [show (x.id == id) = false by simpa using h, Bool.and_false]; rfl
theorem hit_u {id u : Int} {l : List Int} {x : Pl} (h : x.p.u ≠ u) : hitB id u l x = false := by
  unfold hitB; rw [show (x.p.u == u) = false by simpa using h, Bool.and_false]; rfl
theorem hit_e {id u : Int} {l : List Int} {x : Pl} (h : (orepS x.rq l).2 ≠ 0) : hitB id u l x = false := by
  unfold hitB; rw [show ((orepS x.rq l).2 == 0) = false by simpa using h, Bool.and_false]
theorem hit_y {id u : Int} {l : List Int} {x : Pl} (h1 : x.w = true) (h2 : x.id = id) (h3 : x.p.u = u) (h4 : (orepS x.rq l).2 = 0) : hitB id u l x = true := by
  unfold hitB; rw [h1, h2, h3, h4]; simp
set_option maxRecDepth 20000 in
set_option maxHeartbeats 1000000 in
theorem dTake_tr (X : List Pl) (next id u : Int) (l : List Int) (hX : X.length ≤ 36) (hq : ∀ x ∈ X, WOk x) (hl : l.length ≤ 30000) (hB : isB l) : Tr Try.prog 89 [.ptr 0 0, .agg [.int .u16 id, .int .u8 u, .roI .u8 l]] (dS X next .nils) fun v s => v = .bool (takeP id u l X).1 ∧ s = dS (takeP id u l X).2 next .nils := by
  obtain ⟨A, hA⟩ : ∃ A, A = dA X := ⟨_, rfl⟩
  have hAh : ∀ N ρ, A.hok N ρ := fun N ρ => hA ▸ dA_hok N ρ
  have hAr : ∀ ρ, A.ren ρ = A := fun ρ => hA ▸ dA_ren ρ
  show Tr Try.prog 89 _ ⟨2, [(0, some (dM X.length next .nils)), (1, some (dA X))]⟩ _
  rw [← hA]
  refine Tr.norm (K := fun v s => v = .bool (takeP id u l X).1 ∧ s.get 0 = some (dM X.length next .nils) ∧ s.get 1 = some (dA (takeP id u l X).2)) (trF g89 b89 c89 ?_) fun v s ⟨hv, h0, h1⟩ => ⟨_, dS (takeP id u l X).2 next .nils, ?_, rfl, rfl⟩
  · conv => whnf
    refine loopI (α := {i : Nat // i ≤ X.length ∧ ∀ j (h : j < X.length), j < i → hitB id u l X[j] = false}) (fun i => [(0, .ptr 0 0), (3, .ptr 2 0), (4, .bool false), (5, .int .i64 i.1)]) (fun i => ⟨3, [(0, some (dM X.length next .nils)), (1, some A), (2, some (.obj [.int .u16 id, .int .u8 u, .roI .u8 l]))]⟩) (fun i => X.length - i.1) ⟨0, Nat.zero_le _, fun _ _ h => absurd h (Nat.not_lt_zero _)⟩
      ⟨[], rfl, rfl, rfl, ⟨⟨rfl, rfl⟩, ⟨rfl, rfl⟩, ⟨rfl, rfl⟩, ⟨rfl, rfl⟩, trivial⟩, ⟨⟨rfl, rfl, rfl⟩, ⟨hAh _ _, rfl, by rw [hAr]; rfl⟩, ⟨rfl, rfl, rfl⟩, trivial⟩⟩ fun ⟨i, hi, hno⟩ => ?_
    have hi : i ≤ X.length := hi
    conv => whnf
    by_cases hlt : i < X.length
    · have hx := hq _ (List.getElem_mem hlt)
      have hset : X.set i X[i] = X := List.set_getElem_self hlt
      have hgo : hitB id u l X[i] = false → ∀ j (h : j < X.length), j < i + 1 → hitB id u l X[j] = false := fun h0 j h hj => by
        rcases Nat.lt_or_ge j i with h1 | h1
        · exact hno j h h1
        · obtain rfl : j = i := by omega
          exact h0
      have hyes : hitB id u l X[i] = true → takeP id u l X = (true, X.set i (gotP l X[i])) := fun h => takeP_hit id u l X i hlt h hno
      have hrep := rOpenReply_ev X[i].qf X[i].qa X[i].qn 0 X[i].qb X[i].qr l ⟨hx.f0, hx.f1⟩ hx.q0 hx.q1 hx.b hx.r hl hB
      rw [← orep_same _ _ _ _ _ _ l ⟨hx.q0, hx.q1⟩ hB hl] at hrep
      have hrep : Ev Try.prog 59 [reqA X[i].qf X[i].qa X[i].qn 0 (.roB X[i].qb) (.roI .u16 X[i].qr), .roI .u8 l] (.tup [rpA (orepS X[i].rq l).1, .int .i64 (orepS X[i].rq l).2]) := hrep
      refine condY (by simp; omega) ?_
      obtain ⟨D, hD⟩ : ∃ D, D = dR X i := ⟨_, rfl⟩
      have hback : A = D (dc X[i]) := by rw [hA, dD_shut hD hlt rfl, hset]
      have hld : ∀ j, j < 25 → A.ld false (0 + Int.toNat (i : Int) * 25 + j) 1 = (true, (dc X[i]).getD j .undef) := fun j hj => dA_ldo hA hlt hj
      have hldP : ∀ j, j < 25 → A.ld false (0 + Int.toNat (i : Int) * 25 + 0 + j) 1 = (true, (dc X[i]).getD j .undef) := fun j hj => dA_ldo hA hlt hj
      have hld6 : A.ld true (0 + Int.toNat (i : Int) * 25 + 13) 6 = (true, .agg (((dc X[i]).drop 13).take 6)) := by
        rw [hback]; exact dD_ld6 hD hlt rfl
      generalize X[i] = x at *
      conv => whnf
      refine condT (by simp; omega) ?_
      conv => whnf
      repeat (first
        | (rw [hld _ (by decide)]; (conv => whnf))
        | (rw [hldP _ (by decide)]; (conv => whnf)))
      refine condF (fun hw => ?_) (fun hw => ?_)
      rotate_left
      · have hw : x.w = false := by simpa using hw
        conv => whnf
        refine ⟨⟨i + 1, hlt, hgo (hit_w hw)⟩, ⟨[], rfl, rfl, rfl, ⟨⟨rfl, rfl⟩, ⟨rfl, rfl⟩, ⟨rfl, rfl⟩, ⟨?_, rfl⟩, trivial⟩, ⟨⟨rfl, rfl, rfl⟩, ⟨hAh _ _, rfl, by rw [hAr]; rfl⟩, ⟨rfl, rfl, rfl⟩, trivial⟩⟩, by show X.length - (i + 1) < X.length - i; omega⟩
        · show AV.int .i64 (IntKind.i64.wrap ((i : Int) + 1)) = AV.int .i64 ((i + 1 : Nat) : Int)
          rw [s64 (by omega)]
      have hw : x.w = true := by simpa using hw
      conv => whnf
      repeat (first
        | (rw [hld _ (by decide)]; (conv => whnf))
        | (rw [hldP _ (by decide)]; (conv => whnf)))
      refine condF (fun h1 => ?_) (fun h1 => ?_)
      rotate_left
      · have h1 : x.id ≠ id := by simpa using h1
        conv => whnf
        refine ⟨⟨i + 1, hlt, hgo (hit_id h1)⟩, ⟨[], rfl, rfl, rfl, ⟨⟨rfl, rfl⟩, ⟨rfl, rfl⟩, ⟨rfl, rfl⟩, ⟨?_, rfl⟩, trivial⟩, ⟨⟨rfl, rfl, rfl⟩, ⟨hAh _ _, rfl, by rw [hAr]; rfl⟩, ⟨rfl, rfl, rfl⟩, trivial⟩⟩, by show X.length - (i + 1) < X.length - i; omega⟩
        · show AV.int .i64 (IntKind.i64.wrap ((i : Int) + 1)) = AV.int .i64 ((i + 1 : Nat) : Int)
          rw [s64 (by omega)]
      have h1 : x.id = id := by simpa using h1
      conv => whnf
      repeat (first
        | (rw [hld _ (by decide)]; (conv => whnf))
        | (rw [hldP _ (by decide)]; (conv => whnf)))
      refine condF (fun h2 => ?_) (fun h2 => ?_)
      rotate_left
      · have h2 : x.p.u ≠ u := by simpa using h2
        conv => whnf
        refine ⟨⟨i + 1, hlt, hgo (hit_u h2)⟩, ⟨[], rfl, rfl, rfl, ⟨⟨rfl, rfl⟩, ⟨rfl, rfl⟩, ⟨rfl, rfl⟩, ⟨?_, rfl⟩, trivial⟩, ⟨⟨rfl, rfl, rfl⟩, ⟨hAh _ _, rfl, by rw [hAr]; rfl⟩, ⟨rfl, rfl, rfl⟩, trivial⟩⟩, by show X.length - (i + 1) < X.length - i; omega⟩
        · show AV.int .i64 (IntKind.i64.wrap ((i : Int) + 1)) = AV.int .i64 ((i + 1 : Nat) : Int)
          rw [s64 (by omega)]
      have h2 : x.p.u = u := by simpa using h2
      conv => whnf
      rw [hld6]
      conv => whnf
      obtain ⟨ro, hro⟩ : ∃ ro, ro = orepS x.rq l := ⟨_, rfl⟩
      rw [← hro] at hrep
      refine Ev.call hrep ?_
      conv => whnf
      refine condF (fun he => ?_) (fun he => ?_)
      rotate_left
      · have he : ro.2 ≠ 0 := by simpa using he
        conv => whnf
        refine ⟨⟨i + 1, hlt, hgo (hit_e (by rw [← hro]; exact he))⟩, ⟨[], rfl, rfl, rfl, ⟨⟨rfl, rfl⟩, ⟨rfl, rfl⟩, ⟨rfl, rfl⟩, ⟨?_, rfl⟩, trivial⟩, ⟨⟨rfl, rfl, rfl⟩, ⟨hAh _ _, rfl, by rw [hAr]; rfl⟩, ⟨rfl, rfl, rfl⟩, trivial⟩⟩, by show X.length - (i + 1) < X.length - i; omega⟩
        · show AV.int .i64 (IntKind.i64.wrap ((i : Int) + 1)) = AV.int .i64 ((i + 1 : Nat) : Int)
          rw [s64 (by omega)]
      have he : ro.2 = 0 := by simpa using he
      rw [hyes (hit_y hw h1 h2 (by rw [← hro]; exact he)), hback]
      conv => whnf
      repeat (first
        | (rw [dD_ld hD hlt rfl (by decide)]; (conv => whnf))
        | (rw [dD_ldP hD hlt rfl (by decide)]; (conv => whnf))
        | (rw [dD_ldQ hD hlt rfl (by decide)]; (conv => whnf))
        | (rw [dD_st hD]; (case hg => rfl); (case hi => exact hlt); (case hc => rfl); (case hj => decide); (case h1 => rfl); (conv => whnf); refine mF (dD_obj hD _) ?_; (conv => whnf); intro l0 hl0; rw [hl0]; clear hl0; (conv => whnf)))
      refine condF (fun hz => ?_) (fun hz => ?_)
      rotate_left
      · have hz : ro.1.x ≠ 0 := by simpa using hz
        have hg : gotP l x = x.miss := by unfold gotP; rw [if_neg (by rw [← hro]; exact hz)]
        conv => whnf
        refine rowCall1 (h := 1) (dmiss_tr (X.set i { x with w := false }) i { x with w := false } (by rw [List.length_set]; exact hlt) (List.getElem_set_self _) rfl) rfl rfl rfl (congrArg some (dD_shut hD hlt rfl)) ?_
        rw [List.set_set]
        conv => whnf
        refine ⟨rfl, rfl, ?_⟩
        show some (dA (X.set i _)) = some (dA (X.set i (gotP l x)))
        rw [hg]; rfl
      have hz : ro.1.x = 0 := by simpa using hz
      conv => whnf
      repeat (first
        | (rw [dD_ld hD hlt rfl (by decide)]; (conv => whnf))
        | (rw [dD_ldP hD hlt rfl (by decide)]; (conv => whnf))
        | (rw [dD_ldQ hD hlt rfl (by decide)]; (conv => whnf))
        | (rw [dD_st hD]; (case hg => rfl); (case hi => exact hlt); (case hc => rfl); (case hj => decide); (case h1 => rfl); (conv => whnf); refine mF (dD_obj hD _) ?_; (conv => whnf); intro l0 hl0; rw [hl0]; clear hl0; (conv => whnf)))
      refine condF (fun hf => ?_) (fun hf => ?_)
      · have hf : ¬ x.p.f ≤ 4 := by simpa using hf
        have hg : gotP l x = { x with w := false, ms := 0, st := false, ag := 0 } := by
          unfold gotP Pl.kept
          rw [if_pos (by rw [← hro]; exact hz), if_pos (show x.p.f > 4 by omega)]
        conv => whnf
        refine ⟨rfl, rfl, ?_⟩
        show some (D _) = some (dA (X.set i (gotP l x)))
        rw [hg]
        exact congrArg some (dD_shut hD hlt rfl)
      · have hf : x.p.f ≤ 4 := by simpa using hf
        have hqf := hx.w hw
        have hqn := hx.wn hw hf
        have n1 := hx.n1
        have n64 := hx.n64
        have p1 := hx.p1
        have hg : dc (gotP l x) = dc { x with w := false, ms := 0, st := false, ag := 0, l := if x.qf = 1 ∨ x.qf = 2 then b1L ro.1.b else ro.1.r } := by
          unfold gotP Pl.kept
          rw [if_pos (by rw [← hro]; exact hz), if_neg (show ¬ x.p.f > 4 by omega), ← hro]
        have hh : (!(if x.qf = 1 ∨ x.qf = 2 then b1L ro.1.b else ro.1.r).isEmpty) = true ∧ dB { x with w := false, ms := 0, st := false, ag := 0, l := if x.qf = 1 ∨ x.qf = 2 then b1L ro.1.b else ro.1.r } = ro.1.b ∧ dN { x with w := false, ms := 0, st := false, ag := 0, l := if x.qf = 1 ∨ x.qf = 2 then b1L ro.1.b else ro.1.r } = ro.1.r := by
          by_cases h12 : x.qf = 1 ∨ x.qf = 2
          · obtain ⟨k1, k2⟩ := orep_b (q := x.rq) (l := l) h12 ⟨by show 1 ≤ x.qn; omega, by show x.qn ≤ 64; omega⟩ (by rw [← hro]; exact he) (by rw [← hro]; exact hz)
            rw [← hro] at k1 k2
            have k2 : ro.1.b.length = x.qn.toNat := k2
            rw [if_pos h12]
            refine ⟨?_, ?_, ?_⟩
            · cases hb : ro.1.b with
              | nil => rw [hb] at k2; simp at k2; omega
              | cons t r => rfl
            · unfold dB; rw [if_pos (by show x.p.f ≤ 2; omega)]; exact b1L_ne _
            · unfold dN; rw [if_pos (by show x.p.f ≤ 2; omega), k1]
          · obtain ⟨k1, k2⟩ := orep_r (q := x.rq) (l := l) (by show x.qf = 3 ∨ x.qf = 4; omega) ⟨by show 1 ≤ x.qn; omega, by show x.qn ≤ 64; omega⟩ (by rw [← hro]; exact he) (by rw [← hro]; exact hz)
            rw [← hro] at k1 k2
            have k2 : ro.1.r.length = x.qn.toNat := k2
            rw [if_neg h12]
            refine ⟨?_, ?_, ?_⟩
            · cases hb : ro.1.r with
              | nil => rw [hb] at k2; simp at k2; omega
              | cons t r => rfl
            · unfold dB; rw [if_neg (by show ¬ x.p.f ≤ 2; omega), k1]
            · unfold dN; rw [if_neg (by show ¬ x.p.f ≤ 2; omega)]
        conv => whnf
        repeat (first
          | (show getP _ _ _ = getP _ _ _ ∧ _; refine ⟨rfl, ?_⟩; (conv => whnf))
          | (rw [dD_ld hD hlt rfl (by decide)]; (conv => whnf))
          | (rw [dD_ldP hD hlt rfl (by decide)]; (conv => whnf))
          | (rw [dD_ldQ hD hlt rfl (by decide)]; (conv => whnf))
          | (rw [dD_st hD]; (case hg => rfl); (case hi => exact hlt); (case hc => rfl); (case hj => decide); (case h1 => rfl); (conv => whnf); refine mF (dD_obj hD _) ?_; (conv => whnf); intro l0 hl0; rw [hl0]; clear hl0; (conv => whnf)))
        refine ⟨rfl, rfl, congrArg some (dD_shut hD hlt ?_)⟩
        rw [hg]
        unfold dc
        rw [hh.1, hh.2.1, hh.2.2]
    · obtain rfl : i = X.length := by omega
      rw [takeP_no id u l X fun j h => hno j h h]
      refine condN (by simp) ?_
      conv => whnf
      exact ⟨rfl, rfl, congrArg some hA⟩
  · subst hv
    refine ⟨[], rfl, rfl, rfl, ⟨⟨rfl, rfl⟩, trivial⟩, ⟨⟨rfl, rfl, ?_⟩, ⟨dA_hok _ _, rfl, by rw [dA_ren]; exact h1⟩, trivial⟩⟩
    rw [takeP_len]; exact h0
end Go.Proofs.Ytomodeliimnddaa
set_option linter.unusedVariables false
set_option linter.unusedSimpArgs false
namespace Go.Proofs.Ytomodeliimnddaa
open Go.Ab
structure SOk (k : Int) (x : Pl) : Prop where
  ar : x.ar = areaS x.p.f
  n1 : 1 ≤ x.p.n
  n64 : x.p.n ≤ 64
  f : x.p.f = 1 ∨ x.p.f = 2 ∨ x.p.f = 3 ∨ x.p.f = 4 ∨ x.p.f = 15 ∨ x.p.f = 16
  s0 : -1 ≤ x.si
  s1 : x.si ≤ k
  w : x.w = true → 0 ≤ x.si
  len : x.l = [] ∨ x.l.length = x.p.n.toNat
  bit : x.p.f ≤ 2 → ∀ v ∈ x.l, v = 0 ∨ v = 1
  pos : ∀ v ∈ x.l, 0 ≤ v
  q0 : 0 ≤ x.qn
  q1 : x.qn < 65536
  b : x.qb.length ≤ 64
  r : x.qr.length ≤ 64
  f0 : 0 ≤ x.qf
  f1 : x.qf < 256
  wf : x.w = true → x.qf = x.p.f
  wn : x.w = true → x.p.f ≤ 4 → x.qn = x.p.n
section
variable {k : Int} {x : Pl}
theorem SOk.lok (h : SOk k x) : LOk x := ⟨h.ar, h.n1, h.n64, h.len, h.bit⟩
theorem SOk.wok (h : SOk k x) : WOk x := ⟨h.q0, h.q1, h.f0, h.f1, Nat.le_trans h.b (by decide), Nat.le_trans h.r (by decide), h.wf, h.wn, by have := h.f; omega, h.n1, h.n64⟩
theorem SOk.okx (h : SOk k x) : 0 ≤ x.qn ∧ x.qn < 65536 ∧ x.qb.length ≤ 2500 ∧ x.qr.length ≤ 200 ∧ (x.w = true → x.qf = x.p.f) := ⟨h.q0, h.q1, Nat.le_trans h.b (by decide), Nat.le_trans h.r (by decide), h.wf⟩
theorem SOk.lat (h : SOk k x) : x.l.length ≤ 1000 ∧ ∀ v ∈ x.l, 0 ≤ v := ⟨by
  rcases h.len with e | e
  · rw [e]; decide
  · rw [e]; have := h.n64; omega, h.pos⟩
theorem SOk.up (h : SOk k x) {k' : Int} (hk : k ≤ k') : SOk k' x := { h with s1 := Int.le_trans h.s1 hk }
theorem area_f {f : Int} (h : areaS f ≠ 0) : f = 1 ∨ f = 2 ∨ f = 3 ∨ f = 4 ∨ f = 15 ∨ f = 16 := by
  unfold areaS at h
  split at h
  · omega
  split at h
  · omega
  split at h
  · omega
  split at h
  · omega
  · exact absurd rfl h
theorem sok_new {p : Po} (h : rightB p = true) : SOk 0 (newP p) := by
  unfold rightB at h
  simp only [Bool.and_eq_true, decide_eq_true_eq, bne_iff_ne] at h
  obtain ⟨⟨⟨⟨⟨⟨⟨⟨⟨⟨_, _⟩, h1⟩, h2⟩, h3⟩, _⟩, _⟩, _⟩, _⟩, _⟩, _⟩ := h
  exact ⟨rfl, h2, h3, area_f h1, Int.le_refl _, by show (-1 : Int) ≤ 0; decide, fun h => (by cases h), .inl rfl, fun _ v hv => (by cases hv), fun v hv => (by cases hv), Int.le_refl _, by show (0 : Int) < 65536; decide, Nat.zero_le _, Nat.zero_le _, Int.le_refl _, by show (0 : Int) < 256; decide, fun h => (by cases h), fun h => (by cases h)⟩
theorem SOk.older (h : SOk k x) (hk : k ≤ 100000) : SOk (k + 1) x.older := by
  have hs : x.older.si = if x.si ≥ 0 then x.si + 1 else x.si := by
    show (if x.si ≥ 0 then IntKind.i64.wrap (x.si + 1) else x.si) = _
    by_cases e : x.si ≥ 0
    · rw [if_pos e, if_pos e, w64i (by have := h.s1; omega) (by have := h.s1; omega)]
    · rw [if_neg e, if_neg e]
  have h0 := h.s0
  have h1 := h.s1
  refine { h with s0 := ?_, s1 := ?_, w := fun hw => ?_ }
  · rw [hs]; split <;> omega
  · rw [hs]; split <;> omega
  · have := h.w hw
    rw [hs]; split <;> omega
theorem ask_len (J : Img) : (askQ J x).b.length ≤ x.p.n.toNat ∧ (askQ J x).r.length ≤ x.p.n.toNat := by
  unfold askQ
  split
  · exact ⟨Nat.zero_le _, Nat.zero_le _⟩
  split
  · exact ⟨by simp, Nat.zero_le _⟩
  · exact ⟨Nat.zero_le _, by simp⟩
theorem ask_f (J : Img) : (askQ J x).f = x.p.f := by
  unfold askQ
  split
  · rfl
  split <;> rfl
theorem askq_n (J : Img) : 0 ≤ (askQ J x).n ∧ (askQ J x).n < 65536 ∧ (x.p.f ≤ 4 → (askQ J x).n = IntKind.u16.wrap x.p.n) := by
  unfold askQ
  split
  · exact ⟨(wrap16_range _).1, (wrap16_range _).2, fun _ => rfl⟩
  split
  · exact ⟨Int.le_refl _, by show (0 : Int) < 65536; decide, fun _ => by omega⟩
  · exact ⟨Int.le_refl _, by show (0 : Int) < 65536; decide, fun _ => by omega⟩
theorem SOk.asks (h : SOk k x) (hk : 0 ≤ k) (J : Img) (n : Int) : SOk k (x.asks J n) := by
  have hl := ask_len (x := x) J
  have hn := askq_n (x := x) J
  have h64 := h.n64
  have h1 := h.n1
  refine { h with s0 := ?_, s1 := ?_, w := fun _ => ?_, q0 := hn.1, q1 := hn.2.1, b := ?_, r := ?_, f0 := ?_, f1 := ?_, wf := fun _ => ask_f J, wn := fun _ h4 => ?_ }
  · show (-1 : Int) ≤ 0; decide
  · exact hk
  · exact Int.le_refl _
  · show (askQ J x).b.length ≤ 64; omega
  · show (askQ J x).r.length ≤ 64; omega
  · show 0 ≤ (askQ J x).f; rw [ask_f]; have := h.f; omega
  · show (askQ J x).f < 256; rw [ask_f]; have := h.f; omega
  · show (askQ J x).n = x.p.n
    rw [hn.2.2 h4]
    show x.p.n % 65536 = _
    omega
theorem SOk.off (h : SOk k x) {y : Pl} (e1 : y.ar = x.ar) (e2 : y.p = x.p) (e3 : y.si = x.si) (e4 : y.l = x.l) (e5 : y.qn = x.qn) (e6 : y.qb = x.qb) (e7 : y.qr = x.qr) (e8 : y.qf = x.qf) (e9 : y.w = true → x.w = true) : SOk k y := by
  constructor <;> (try rw [e2]) <;> (try rw [e1]) <;> (try rw [e3]) <;> (try rw [e4]) <;> (try rw [e5]) <;> (try rw [e6]) <;> (try rw [e7]) <;> (try rw [e8])
  · exact h.ar
  · exact h.n1
  · exact h.n64
  · exact h.f
  · exact h.s0
  · exact h.s1
  · exact fun k => h.w (e9 k)
  · exact h.len
  · exact h.bit
  · exact h.pos
  · exact h.q0
  · exact h.q1
  · exact h.b
  · exact h.r
  · exact h.f0
  · exact h.f1
  · exact fun k => h.wf (e9 k)
  · exact fun k => h.wn (e9 k)
theorem SOk.miss (h : SOk k x) : SOk k x.miss := h.off rfl rfl rfl rfl rfl rfl rfl rfl fun e => by cases e
theorem SOk.tick (h : SOk k x) : SOk k x.tick := by
  unfold Pl.tick
  split
  · split
    · exact h.off rfl rfl rfl rfl rfl rfl rfl rfl fun e => by cases e
    · exact h.off rfl rfl rfl rfl rfl rfl rfl rfl id
  · exact h
end
theorem numsN_pos (l : List Int) : ∀ (i : Nat), ∀ x ∈ numsN l i, 0 ≤ x
  | 0, x, h => by simp [numsN] at h
  | i + 1, x, h => by
    rw [numsN, List.mem_append] at h
    rcases h with h | h
    · exact numsN_pos l i x h
    · rw [List.mem_singleton] at h
      subst h
      exact (wrap16_range _).1
theorem orep_pos {q : Rq} {l : List Int} (hf : q.f = 3 ∨ q.f = 4) : ∀ v ∈ (orepS q l).1.r, 0 ≤ v := by
  have hz : ∀ v ∈ (Rp.zero, (30 : Int)).1.r, 0 ≤ v := fun v hv => by cases hv
  have hT : orepT q l = if ((numsN (cutF l 2) ((cutF l 2).length / 2)).length : Int) != IntKind.i64.wrap q.n then (Rp.zero, 30) else finS l ⟨q.f, 0, 0, 0, [], numsN (cutF l 2) ((cutF l 2).length / 2)⟩ := by
    unfold orepT
    rcases hf with h | h <;> rw [h] <;> rfl
  unfold orepS
  split
  · exact hz
  split
  · exact hz
  split
  · split
    · exact hz
    split
    · exact hz
    · exact fun v hv => by cases hv
  · rw [hT]
    split
    · exact hz
    rcases finS_or l ⟨q.f, 0, 0, 0, [], numsN (cutF l 2) ((cutF l 2).length / 2)⟩ with e | e <;> rw [e]
    · exact numsN_pos _ _
    · exact hz
section
variable {k : Int} {x : Pl}
theorem SOk.got (h : SOk k x) {id u : Int} {l : List Int} (hit : hitB id u l x = true) : SOk k (gotP l x) := by
  unfold hitB at hit
  simp only [Bool.and_eq_true, beq_iff_eq] at hit
  obtain ⟨⟨⟨hw, _⟩, _⟩, he⟩ := hit
  have hqf := h.wf hw
  unfold gotP
  by_cases hx : (orepS x.rq l).1.x = 0
  · rw [if_pos hx]
    unfold Pl.kept
    by_cases h4 : x.p.f > 4
    · rw [if_pos h4]
      exact h.off rfl rfl rfl rfl rfl rfl rfl rfl fun e => by cases e
    · rw [if_neg h4]
      have hqn := h.wn hw (by omega)
      have h1 := h.n1
      have h64 := h.n64
      have hf := h.f
      have hn : 1 ≤ x.rq.n ∧ x.rq.n ≤ 64 := by
        show 1 ≤ x.qn ∧ x.qn ≤ 64
        omega
      by_cases h2 : x.qf = 1 ∨ x.qf = 2
      · have hb := (orep_b (q := x.rq) (l := l) h2 hn he hx).2
        rw [if_pos h2]
        refine { h with w := fun e => (by cases e), len := .inr ?_, bit := fun _ v hv => ?_, pos := fun v hv => ?_, wf := fun e => (by cases e), wn := fun e => (by cases e) }
        · show (b1L _).length = x.p.n.toNat
          rw [b1L_len, hb, ← hqn]; rfl
        · have hv : v ∈ b1L (orepS x.rq l).1.b := hv
          unfold b1L at hv
          obtain ⟨t, _, rfl⟩ := List.mem_map.mp hv
          cases t
          · exact .inl rfl
          · exact .inr rfl
        · have hv : v ∈ b1L (orepS x.rq l).1.b := hv
          unfold b1L at hv
          obtain ⟨t, _, rfl⟩ := List.mem_map.mp hv
          cases t <;> decide
      · have h3 : x.qf = 3 ∨ x.qf = 4 := by omega
        have hr := (orep_r (q := x.rq) (l := l) h3 hn he hx).2
        rw [if_neg h2]
        refine { h with w := fun e => (by cases e), len := .inr ?_, bit := fun h5 v hv => ?_, pos := orep_pos (q := x.rq) h3, wf := fun e => (by cases e), wn := fun e => (by cases e) }
        · show (orepS x.rq l).1.r.length = x.p.n.toNat
          rw [hr, ← hqn]; rfl
        · have h5 : x.p.f ≤ 2 := h5
          omega
  · rw [if_neg hx]; exact h.miss
theorem sok_take {id u : Int} {l : List Int} : ∀ {X : List Pl}, (∀ x ∈ X, SOk k x) → (takeP id u l X).2.length = X.length ∧ ∀ x ∈ (takeP id u l X).2, SOk k x
  | [], h => ⟨rfl, h⟩
  | x :: r, h => by
    obtain ⟨i1, i2⟩ := sok_take (id := id) (u := u) (l := l) (X := r) fun y hy => h y (List.mem_cons_of_mem _ hy)
    have hx := h x (List.mem_cons_self ..)
    rw [takeP]
    by_cases hit : hitB id u l x = true
    · rw [if_pos hit]
      refine ⟨rfl, fun y hy => ?_⟩
      rcases List.mem_cons.mp hy with e | hy
      · rw [e]; exact hx.got hit
      · exact h y (List.mem_cons_of_mem _ hy)
    · rw [if_neg hit]
      refine ⟨by show (takeP id u l r).2.length + 1 = r.length + 1; rw [i1], fun y hy => ?_⟩
      rcases List.mem_cons.mp hy with e | hy
      · rw [e]; exact hx
      · exact i2 y hy
theorem sok_bg {Y : List Pl} {J : Img} {last : Int} (hk : 0 ≤ k) (h : ∀ x ∈ Y, SOk k x) : ∀ i, ∀ x ∈ bgX Y J last i, SOk k x
  | 0 => h
  | i + 1 => by
    have ih := sok_bg (J := J) (last := last) hk h i
    cases e : Y[i]? with
    | none => unfold bgX at *; rw [bgN]; simp only [e]; exact ih
    | some y =>
      have hy := h y (List.mem_of_getElem? e)
      cases hd : y.due with
      | false => unfold bgX at *; rw [bg_no e hd]; exact ih
      | true =>
        rw [(bg_some e hd).1]
        intro x hx
        rcases List.mem_or_eq_of_mem_set hx with hx | hx
        · exact ih x hx
        · rw [hx]; exact hy.asks hk _ _
end
def FOk (f : Fr) : Prop := isB f.l ∧ f.l.length ≤ 1000
theorem fok_bg {k : Int} {Y : List Pl} {J : Img} {last : Int} (h : ∀ x ∈ Y, SOk k x) : ∀ i, ∀ x ∈ bgF Y J last i, FOk x
  | 0 => fun x hx => by cases hx
  | i + 1 => by
    have ih := fok_bg (J := J) (last := last) h i
    cases e : Y[i]? with
    | none => unfold bgF at *; rw [bgN]; simp only [e]; exact ih
    | some y =>
      have hy := h y (List.mem_of_getElem? e)
      cases hd : y.due with
      | false => unfold bgF at *; rw [bg_no e hd]; exact ih
      | true =>
        rw [(bg_some e hd).2.2]
        intro x hx
        rcases List.mem_append.mp hx with hx | hx
        · exact ih x hx
        · rw [List.mem_singleton] at hx
          subst hx
          refine ⟨enc_byte _ _ _ _ _ _ ?_ ?_, Nat.le_trans (encR_len253 _ _ _ _ _ _) (by decide)⟩
          · rw [ask_f]; have := hy.f; omega
          · rw [ask_f]; have := hy.f; omega
theorem rep_byte (f x a n : Int) (b : List Bool) (r : List Int) (h0 : 0 ≤ f) (h1 : f < 256) (x0 : 0 ≤ x) (x1 : x < 256) : isB (repB f x a n b r) := by
  have hf := isB_f f h0 h1
  have ht := isB_two
  unfold repB
  split
  · have key : ∀ (c : Bool) (u v : RepS), isB u.row → isB v.row → isB (if c = true then u else v).row := fun c u v h1 h2 => by
      cases c
      · exact h2
      · exact h1
    have k1 : ∀ k : Int, isB ([f] ++ [IntKind.u8.wrap k] ++ packN b b.length) := fun k => (hf.app (isB_one k)).app (isB_pack _ _)
    have k2 : ∀ k : Int, isB ([f] ++ [IntKind.u8.wrap k] ++ twos r) := fun k => (hf.app (isB_one k)).app (isB_twos _)
    have k3 : ∀ y z : Int, isB ([f] ++ two8 y ++ two8 z) := fun y z => (hf.app (ht _)).app (ht _)
    have k4 : ∀ y : Int, isB ([f] ++ two8 y ++ twos r) := fun y => (hf.app (ht _)).app (isB_twos _)
    unfold repS
    exact key _ _ _ ((isB_one _).app (isB_f x x0 x1)) <| key _ _ _ (k1 _) <| key _ _ _ (k1 _) <| key _ _ _ (k2 _) <| key _ _ _ (k2 _) <| key _ _ _ (k2 _) <| key _ _ _ (k3 _ _) <| key _ _ _ (k4 _) <| key _ _ _ (k3 _ _) <| key _ _ _ (k3 _ _) <| key _ _ _ (k4 _) isB_nil
  · exact isB_nil
end Go.Proofs.Ytomodeliimnddaa
set_option linter.unusedVariables false
set_option linter.unusedSimpArgs false
namespace Go.Proofs.Ytomodeliimnddaa
open Go.Ab
def a85 : ACode := (.seq (.reg [(iO 4 (.mov (.c (.int .i64 0))))])
 (.block 0 (.loop (.seq (.seq (.reg [(iM 11 4), (iM 12 0), (iN 13 12), (iF 14 0 13), (iL 15 14), (iO 16 (.len false (.t 15))), (iO 17 (.bin .lss .other (.t 11) (.t 16)))])
 (.cond (.t 17) .skip
 (.exit 0)))
 (.seq (.block 1 (.seq (.reg [(iM 20 0), (iN 21 20), (iF 22 0 21), (iL 23 22), (iM 24 4), (iO 25 (.idx 25 none true (.t 23) (.t 24))), (iM 5 25)])
 (.seq (.reg [(iM 26 5), (iN 27 26), (iF 28 20 27), (iL 29 28), (iO 30 (.bin .add .other (.t 29) (.c (.int .i64 1)))), (iN 31 26), (iF 32 20 31), ⟨none, .store 1 (.t 32) (.t 30), none, false⟩])
 (.seq (.reg [(iM 33 5), (iN 34 33), (iF 35 9 34), (iL 36 35), (iO 37 (.bin .add .other (.t 36) (.c (.int .i64 1)))), (iN 38 33), (iF 39 9 38), ⟨none, .store 1 (.t 39) (.t 37), none, false⟩])
 (.seq (.seq (.draw [(zS 0 (iM 40 5)), (zS 1 (iN 41 40)), (zS 2 (iF 42 11 41)), (zS 3 (iL 43 42)), ⟨4, ⟨(some 44), .mov (.t 43), none, true⟩, false, [], []⟩, (zS 5 (iG 45 (.mov (.t 5)) 44 false)), (zS 6 (iG 46 (.nilck (.t 45)) 44 false)), (zS 7 (iG 47 (.fld 8 1 false (.t 46)) 44 false)), (zS 8 (iG 48 (.load false 1 (.t 47)) 44 false)), ⟨9, ⟨(some 49), .mov (.t 48), (some (44, false)), true⟩, false, [], []⟩, (zS 10 (iG 50 (.mov (.t 5)) 49 true)), (zS 11 (iG 51 (.nilck (.t 50)) 49 true)), (zS 12 (iG 52 (.fld 9 1 false (.t 51)) 49 true)), (zS 13 (iG 53 (.load false 1 (.t 52)) 49 true)), (zS 14 (iG 54 (.mov (.t 5)) 49 true)), (zS 15 (iG 55 (.nilck (.t 54)) 49 true)), (zS 16 (iG 56 (.fld 0 8 true (.t 55)) 49 true)), (zS 17 (iG 57 (.fld 5 1 false (.t 56)) 49 true)), (zS 18 (iG 58 (.load false 1 (.t 57)) 49 true)), (zS 19 (iG 59 (.bin .lss .other (.t 53) (.t 58)) 49 true)), (zS 20 (iG 60 (.pick (.t 49) (.t 59) (.c (.bool false))) 44 false)), (zS 21 (iO 61 (.pick (.t 44) (.c (.bool true)) (.t 60))))])
 (.cond (.t 61) (.exit 1)
 .skip))
 (.seq (.draw [(zS 0 (iM 62 5)), (zS 1 (iM 63 5)), (zS 2 (iN 64 63)), (zS 3 (iO 65 (.fld 0 8 true (.t 64)))), (zS 4 (iF 66 1 65)), (zS 5 (iL 67 66)), (zS 6 (iM 68 5)), (zS 7 (iN 69 68)), (zS 8 (iO 70 (.fld 0 8 true (.t 69)))), (zS 9 (iF 71 2 70)), (zS 10 (iL 72 71)), (zS 11 (iM 73 5)), (zS 12 (iN 74 73)), (zS 13 (iO 75 (.fld 0 8 true (.t 74)))), (zS 14 (iF 76 3 75)), (zS 15 (iL 77 76)), (zS 16 (iO 78 (.conv (.int .u16) (.t 77)))), (zS 17 (iO 79 (.build [(.int .u8 0), (.int .u16 0), (.int .u16 0), (.int .u16 0), .nils, .nils] [(0, 1, (.t 67)), (1, 1, (.t 72)), (2, 1, (.t 78))]))), (zS 18 (iN 80 62)), (zS 19 (iO 81 (.fld 13 6 true (.t 80)))), ⟨20, ⟨none, .store 6 (.t 81) (.t 79), none, false⟩, true, [], []⟩])
 (.seq (.seq (.reg [(iM 82 5), (iN 83 82), (iO 84 (.fld 0 8 true (.t 83))), (iF 85 1 84), (iL 86 85), (iO 87 (.bin .gtr .other (.t 86) (.c (.int .u8 4))))])
 (.cond (.t 87) (.seq (.reg [(iM 88 5), (iN 89 88), (iO 90 (.fld 13 6 true (.t 89))), (iF 91 2 90), ⟨none, .store 1 (.t 91) (.c (.int .u16 0)), none, false⟩])
 (.seq (.reg [(iO 6 (.mov (.c (.int .i64 0))))])
 (.block 2 (.loop (.seq (.seq (.reg [(iM 92 6), (iM 93 5), (iN 94 93), (iO 95 (.fld 0 8 true (.t 94))), (iF 96 3 95), (iL 97 96), (iO 98 (.bin .lss .other (.t 92) (.t 97)))])
 (.cond (.t 98) .skip
 (.exit 2)))
 (.seq (.block 3 (.seq (.draw [(zS 0 (iM 102 1)), (zS 1 (iM 103 5)), (zS 2 (iN 104 103)), (zS 3 (iO 105 (.fld 0 8 true (.t 104)))), (zS 4 (iF 106 1 105)), (zS 5 (iL 107 106)), (zS 7 (iM 109 5)), (zS 8 (iN 110 109)), (zS 9 (iO 111 (.fld 0 8 true (.t 110)))), (zS 10 (iF 112 4 111)), (zS 11 (iL 113 112)), (zS 12 (iM 114 6)), (zS 13 (iO 115 (.bin .add .other (.t 113) (.t 114)))), ⟨6, (iO 108 (.call 129 [(.t 107)])), true, [], [(.t 112)]⟩, ⟨14, (iO 116 (.call 45 [(.t 102), (.t 108), (.t 115)])), true, [], []⟩, (zS 15 (iM 101 116)), (zS 16 (iO 117 (.ext (.t 101) 0))), (zS 17 (iO 118 (.ext (.t 101) 1))), (zS 18 (iM 7 117)), (zS 19 (iM 8 118))])
 (.seq (.reg [(iM 119 5), (iN 120 119), (iO 121 (.fld 0 8 true (.t 120))), (iF 122 1 121), (iL 123 122), (iO 124 (.bin .eql .other (.t 123) (.c (.int .u8 15))))])
 (.cond (.t 124) (.reg [(iM 125 5), (iM 126 5), (iN 127 126), (iO 128 (.fld 13 6 true (.t 127))), (iF 129 4 128), (iL 130 129), (iM 131 7), (iO 132 (.bin .neq .other (.t 131) (.c (.int .u16 0)))), (iO 133 (.bslice 1 .bool [(.bool false)] [(0, 1, (.t 132))] 1)), (iO 134 (.app 1 1 (.t 130) (.t 133))), (iN 135 125), (iO 136 (.fld 13 6 true (.t 135))), (iF 137 4 136), ⟨none, .store 1 (.t 137) (.t 134), none, false⟩])
 (.reg [(iM 138 5), (iM 139 5), (iN 140 139), (iO 141 (.fld 13 6 true (.t 140))), (iF 142 5 141), (iL 143 142), (iM 144 7), (iO 145 (.bslice 1 (.int .u16) [(.int .u16 0)] [(0, 1, (.t 144))] 1)), (iO 146 (.app 1 2 (.t 143) (.t 145))), (iN 147 138), (iO 148 (.fld 13 6 true (.t 147))), (iF 149 5 148), ⟨none, .store 1 (.t 149) (.t 146), none, false⟩])))))
 (.reg [(iM 99 6), (iO 100 (.bin .add .other (.t 99) (.c (.int .i64 1)))), (iM 6 100)])))))))
 .skip))
 (.seq (.reg [(iM 151 5), (iN 152 151), (iO 153 (.fld 13 6 true (.t 152))), (iO 154 (.load true 6 (.t 153))), (iO 155 (.call 49 [(.t 154)])), (iM 150 155), (iO 156 (.ext (.t 150) 0)), (iO 157 (.ext (.t 150) 1)), (iM 9 156), (iM 10 157)])
 (.seq (.draw [(zS 0 (iM 158 5)), (zS 1 (iM 159 5)), (zS 2 (iM 160 5)), (zS 3 (iM 161 5)), (zS 4 (iM 162 5)), (zS 5 (iM 163 5)), (zS 6 (iN 164 163)), (zS 7 (iO 165 (.fld 0 8 true (.t 164)))), (zS 8 (iF 166 6 165)), (zS 9 (iL 167 166)), (zS 10 (iM 168 0)), (zS 11 (iN 169 168)), (zS 12 (iF 170 1 169)), (zS 13 (iL 171 170)), (zS 14 (iN 172 158)), (zS 15 (iF 173 8 172)), ⟨16, ⟨none, .store 1 (.t 173) (.c (.bool true)), none, false⟩, true, [], []⟩, (zS 17 (iN 174 159)), (zS 18 (iF 175 9 174)), ⟨19, ⟨none, .store 1 (.t 175) (.c (.int .i64 0)), none, false⟩, true, [], []⟩, (zS 20 (iN 176 160)), (zS 21 (iF 177 11 176)), ⟨22, ⟨none, .store 1 (.t 177) (.c (.bool true)), none, false⟩, true, [], []⟩, (zS 23 (iN 178 161)), (zS 24 (iF 179 10 178)), ⟨25, ⟨none, .store 1 (.t 179) (.t 167), none, false⟩, true, [], []⟩, (zS 26 (iN 180 162)), (zS 27 (iF 181 12 180)), ⟨28, ⟨none, .store 1 (.t 181) (.t 171), none, false⟩, true, [], []⟩])
 (.seq (.draw [(zS 0 (iM 182 0)), (zS 1 (iM 183 0)), (zS 2 (iN 184 183)), (zS 3 (iF 185 2 184)), (zS 4 (iL 186 185)), (zS 5 (iM 187 0)), (zS 6 (iN 188 187)), (zS 7 (iF 189 1 188)), (zS 8 (iL 190 189)), (zS 9 (iM 191 5)), (zS 10 (iN 192 191)), (zS 11 (iO 193 (.fld 0 8 true (.t 192)))), (zS 12 (iF 194 0 193)), (zS 13 (iL 195 194)), (zS 14 (iM 196 9)), (zS 15 (iO 197 (.build [(.int .u16 0), (.int .u8 0), .nils] [(0, 1, (.t 190)), (1, 1, (.t 195)), (2, 1, (.t 196))]))), (zS 16 (iO 198 (.bslice 3 .gen [(.int .u16 0), (.int .u8 0), .nils] [(0, 3, (.t 197))] 1))), ⟨17, (iO 199 (.app 3 32 (.t 186) (.t 198))), true, [16], []⟩, (zS 18 (iN 200 182)), (zS 19 (iF 201 2 200)), ⟨20, ⟨none, .store 1 (.t 201) (.t 199), none, false⟩, true, [16], []⟩])
 (.reg [(iM 202 0), (iN 203 202), (iF 204 1 203), (iL 205 204), (iO 206 (.bin .add .other (.t 205) (.c (.int .u16 1)))), (iN 207 202), (iF 208 1 207), ⟨none, .store 1 (.t 208) (.t 206), none, false⟩])))))))))))
 (.reg [(iM 18 4), (iO 19 (.bin .add .other (.t 18) (.c (.int .i64 1)))), (iM 4 19)]))))))
def r85 : List ARes := []
theorem c85 : compF Try.prog Try.f85 = some (a85, r85) := by kernel_rfl
theorem b85 : hasBody Try.prog 85 = true := by kernel_rfl
theorem g85 : Try.prog.funcs[85]? = some Try.f85 := by kernel_rfl
structure BOk (x : Pl) : Prop where
  ar : x.ar = areaS x.p.f
  n1 : 1 ≤ x.p.n
  n64 : x.p.n ≤ 64
  s0 : -1 ≤ x.si
  s1 : x.si ≤ 100000
  w : x.w = true → 0 ≤ x.si
  f : x.p.f ≤ 4 ∨ x.p.f = 15 ∨ x.p.f = 16
def mixB (X : List Pl) (J : Img) (last : Int) (i : Nat) : List Pl := (bgX (X.map Pl.older) J last i).take i ++ X.drop i
section
variable {X : List Pl} {J : Img} {last : Int} {i : Nat}
theorem mix_len (hi : i ≤ X.length) : (mixB X J last i).length = X.length := by
  unfold mixB
  rw [List.length_append, List.length_take, bgX_len, List.length_map, List.length_drop]; omega
theorem mix_all : mixB X J last X.length = bgX (X.map Pl.older) J last X.length := by
  unfold mixB
  rw [List.drop_length, List.append_nil, List.take_of_length_le (by rw [bgX_len, List.length_map]; omega)]
theorem mix_get (hi : i < X.length) (h : i < (mixB X J last i).length) : (mixB X J last i)[i] = X[i] := by
  have hl : ((bgX (X.map Pl.older) J last i).take i).length = i := by rw [List.length_take, bgX_len, List.length_map]; omega
  have e : (mixB X J last i)[i]? = some X[i] := by
    unfold mixB
    rw [List.getElem?_append_right (by omega), hl, Nat.sub_self, List.drop_eq_getElem_cons hi]; rfl
  rw [List.getElem?_eq_getElem h] at e
  exact Option.some.inj e
theorem old_get (hi : i < X.length) : (X.map Pl.older)[i]? = some X[i].older := by rw [List.getElem?_map, List.getElem?_eq_getElem hi]; rfl
theorem mix_set {Z : List Pl} {v : Pl} (hZ : Z.length = X.length) (hi : i < X.length) (hv : Z[i]? = some v) (hl : ((bgX (X.map Pl.older) J last i)).take i = Z.take i) : Z.take (i + 1) ++ X.drop (i + 1) = (mixB X J last i).set i v := by
  unfold mixB
  rw [hl, List.take_add_one, hv]
  have h1 : (Z.take i).length = i := by rw [List.length_take]; omega
  rw [List.set_append_right _ _ (by omega), h1, Nat.sub_self, List.drop_eq_getElem_cons hi, List.append_assoc]
  rfl
theorem mix_due (hi : i < X.length) (hd : X[i].older.due = true) : mixB X J last (i + 1) = (mixB X J last i).set i (X[i].older.asks J (IntKind.u32.wrap (bgL (X.map Pl.older) J last i + 1))) := by
  have e := (bg_some (I := J) (last := last) (old_get hi) hd).1
  refine Eq.trans (show mixB X J last (i + 1) = (bgX (X.map Pl.older) J last (i + 1)).take (i + 1) ++ X.drop (i + 1) from rfl) ?_
  rw [e]
  refine mix_set (by rw [List.length_set, bgX_len, List.length_map]) hi ?_ ?_
  · rw [List.getElem?_set_self (by rw [bgX_len, List.length_map]; exact hi)]
  · rw [List.take_set_of_le (Nat.le_refl _)]
theorem mix_not (hi : i < X.length) (hd : X[i].older.due = false) : mixB X J last (i + 1) = (mixB X J last i).set i X[i].older := by
  refine Eq.trans (show mixB X J last (i + 1) = (bgX (X.map Pl.older) J last (i + 1)).take (i + 1) ++ X.drop (i + 1) from rfl) ?_
  have e : bgX (X.map Pl.older) J last (i + 1) = bgX (X.map Pl.older) J last i := by unfold bgX; rw [bg_no (old_get hi) hd]
  rw [e]
  refine mix_set (by rw [bgX_len, List.length_map]) hi ?_ rfl
  rw [bgX_ge _ _ _ _ _ (Nat.le_refl _), old_get hi]
end
theorem dD_hok {X : List Pl} {i : Nat} {D : List AV → Chunk} (hD : D = dR X i) {c : List AV} {N : Nat} {ρ : Nat → Option Nat} (h : hokL N ρ c = true) : (D c).hok N ρ := by
  subst hD
  unfold dR
  exact hokL_app _ _ (flatsL_hok (fun _ => rfl) _) (hokL_app _ _ h (flatsL_hok (fun _ => rfl) _))
theorem dD_ren {X : List Pl} {i : Nat} {D : List AV → Chunk} (hD : D = dR X i) {c : List AV} {ρ : Nat → Option Nat} : (D c).ren ρ = D (renL ρ c) := by
  subst hD
  unfold dR
  show Chunk.obj (renL ρ _) = _
  rw [renL_app, renL_app, flatsL_ren (fun _ => rfl), flatsL_ren (fun _ => rfl)]
theorem dD_st6 {X : List Pl} {i h : Nat} {c vs : List AV} {D : List AV → Chunk} (hD : D = dR X i) {get : Nat → Option Chunk} (hg : get h = some (D c)) (hi : i < X.length) (hc : c.length = 25) (hv : vs.length = 6) (h1 : vs.all AV.one = true) : storeA get 6 (.ptr h (0 + Int.toNat (i : Int) * 25 + 13)) (.agg vs) = .ok true .undef (.set h (D (putR c 13 vs))) := by
  subst hD
  rw [st_agg hg (dR_putn (j := 13) hi hc (by omega) (by omega) (by simp)), h1, hv, dR_size hi hc, show decide (0 + Int.toNat (i : Int) * 25 + 13 + 6 ≤ X.length * 25) = true from decide_eq_true (by simp; omega)]
  rfl
theorem older_ge {x : Pl} (h : 0 ≤ x.si) : x.older = { x with ag := IntKind.i64.wrap (x.ag + 1), si := IntKind.i64.wrap (x.si + 1) } := by
  unfold Pl.older; rw [if_pos h]
theorem older_lt {x : Pl} (h : ¬ 0 ≤ x.si) : x.older = { x with ag := IntKind.i64.wrap (x.ag + 1) } := by
  unfold Pl.older; rw [if_neg h]
theorem w1632 (a : Int) : IntKind.u16.wrap (IntKind.u32.wrap a) = IntKind.u16.wrap a := by
  show (a % 4294967296) % 65536 = a % 65536
  omega
theorem w1632' (a : Int) : IntKind.u16.wrap (IntKind.u32.wrap a + 1) = IntKind.u16.wrap (IntKind.u16.wrap a + 1) := by
  show (a % 4294967296 + 1) % 65536 = (a % 65536 + 1) % 65536
  omega
theorem see_dI {g : Nat → Option Chunk} {h n : Nat} {k : IntKind} {row : List Int} (hg : g h = some (.rowI k row)) (hn : n = row.length) : See g (.sl 1 h 0 n) (.roI k row) := by
  subst hn
  have := See.rowI (o := 0) (n := row.length) hg (by omega)
  rwa [List.drop_zero, List.take_length] at this
theorem see_dB {g : Nat → Option Chunk} {h n : Nat} {row : List Bool} (hg : g h = some (.rowB row)) (hn : n = row.length) : See g (.sl 1 h 0 n) (.roB row) := by
  subst hn
  have := See.rowB (o := 0) (n := row.length) hg (by omega)
  rwa [List.drop_zero, List.take_length] at this
theorem LeL.refl : ∀ l : List AV, LeL l l
  | [] => trivial
  | v :: r => ⟨Le.refl v, LeL.refl r⟩
theorem LeL.app : ∀ {a b c d : List AV}, LeL a b → LeL c d → LeL (a ++ c) (b ++ d)
  | [], [], _, _, _, h => h
  | [], _ :: _, _, _, h, _ => h.elim
  | _ :: _, [], _, _, h, _ => h.elim
  | _ :: _, _ :: _, _, _, h, k => ⟨h.1, LeL.app h.2 k⟩
theorem dD_le {X : List Pl} {i : Nat} {D : List AV → Chunk} (hD : D = dR X i) {c c' : List AV} (h : LeL c c') : LeC (D c) (D c') := by
  subst hD
  unfold dR
  exact LeC.obj (LeL.app (LeL.refl _) (LeL.app h (LeL.refl _)))
theorem lookD {X : List Pl} {i : Nat} {D : List AV → Chunk} (hD : D = dR X i) {f : Nat} {args args' : List AV} {row : List Int} {rest : List AV} {cc cc' : List AV} {s : St} {K : AV → St → Prop} (h : Tr Try.prog f args' ⟨0, []⟩ (Ret1 row rest)) (hv : rest.all flat1 = true) (hs : SeeL s.get args args') (hg : s.get 1 = some (D cc)) (hc : LeL cc cc')
    (k : openS s fun n m => K (.tup (.roI .u8 row :: rest)) ⟨n, (1, some (D cc')) :: m⟩) : Tr Try.prog f args s K := by
  rw [openS_eq] at k
  refine Tr.leSt (K := fun v s' => v = .tup (.roI .u8 row :: rest) ∧ s' = s) (Ret1.lookF h hv hs ⟨rfl, rfl⟩) fun v s' ⟨hv, hs'⟩ => ⟨⟨s.next, (1, some (D cc')) :: s.m⟩, ?_, hv ▸ k⟩
  subst hs'
  refine ⟨rfl, fun h c' hc' => ?_⟩
  have hc' : Mem.get ((1, some (D cc')) :: s'.m) h = some c' := hc'
  by_cases e : h = 1
  · subst e
    rw [get_eq] at hc'
    cases hc'
    exact ⟨_, hg, dD_le hD hc⟩
  · rw [get_ne (fun h => e h.symm)] at hc'
    exact ⟨c', hc', LeC.refl _⟩
theorem dD_get {X : List Pl} {i : Nat} {D : List AV → Chunk} (hD : D = dR X i) {c : List AV} : ∃ a b, ∀ c, D c = .obj (flatsL dc a ++ (c ++ flatsL dc b)) := by
  subst hD; exact ⟨X.take i, X.drop (i + 1), fun c => by unfold dR; rfl⟩
theorem frzL_app (h : Nat) (c : Chunk) : ∀ a b : List AV, frzL h c (a ++ b) = frzL h c a ++ frzL h c b
  | [], b => rfl
  | x :: a, b => by show x.frz h c :: frzL h c (a ++ b) = _; rw [frzL_app h c a b]; rfl
theorem lookZ {X : List Pl} {i : Nat} {D : List AV → Chunk} (hD : D = dR X i) {f : Nat} {args args' : List AV} {row : List Int} {rest : List AV} {cc cc' : List AV} {s : St} {K : AV → St → Prop} {n m : Nat} {nx : Int} {J : Img} {F : List Fr} {r4 : Chunk} (h : Tr Try.prog f args' ⟨0, []⟩ (Ret1 row rest)) (hv : rest.all flat1 = true) (hs : SeeL s.get args args')
    (g0 : s.get 0 = some (dM n nx (.sl 3 3 0 m))) (g1 : s.get 1 = some (D cc)) (g2 : s.get 2 = some (rmC J)) (g3 : s.get 3 = some (.obj (frsA F))) (g4 : s.get 4 = some r4) (hc : LeL (frzL 4 r4 cc) cc') (hz : frzL 4 r4 rest = rest)
    (k : openS s fun N _ => K (.tup (.roI .u8 row :: rest)) ⟨N, [(0, some (dM n nx (.sl 3 3 0 m))), (1, some (D cc')), (2, some (rmC J)), (3, some (.obj (frsA F)))]⟩) : Tr Try.prog f args s K := by
  rw [openS_eq] at k
  refine Tr.frzSt (K := fun v s' => v = .tup (.roI .u8 row :: rest) ∧ s' = s) (Ret1.lookF h hv hs ⟨rfl, rfl⟩) fun v s' ⟨hv, hs'⟩ => ⟨4, r4, ⟨s.next, [(0, some (dM n nx (.sl 3 3 0 m))), (1, some (D cc')), (2, some (rmC J)), (3, some (.obj (frsA F)))]⟩, ?_, ?_⟩
  · subst hs'
    refine ⟨g4, rfl, fun q c' hk => ?_⟩
    have hk : Mem.get [(0, some (dM n nx (.sl 3 3 0 m))), (1, some (D cc')), (2, some (rmC J)), (3, some (.obj (frsA F)))] q = some c' := hk
    by_cases e0 : q = 0
    · subst e0
      rw [get_eq] at hk
      cases hk
      refine ⟨by decide, _, g0, rfl, fun j hj => ?_⟩
      have hj : j < 3 := hj
      rcases (show j = 0 ∨ j = 1 ∨ j = 2 by omega) with rfl | rfl | rfl <;> exact Le.refl _
    rw [get_ne (fun h => e0 h.symm)] at hk
    by_cases e1 : q = 1
    · subst e1
      rw [get_eq] at hk
      cases hk
      obtain ⟨a, b, hab⟩ := dD_get hD (c := cc)
      have hl : LeL (frzL 4 r4 (flatsL dc a ++ (cc ++ flatsL dc b))) (flatsL dc a ++ (cc' ++ flatsL dc b)) := by
        rw [frzL_app, frzL_app, frzL_pure _ (flatsL_hok (fun _ => rfl) a), frzL_pure _ (flatsL_hok (fun _ => rfl) b)]
        exact LeL.app (LeL.refl _) (LeL.app hc (LeL.refl _))
      have hla := hl.at
      refine ⟨by decide, _, g1, ?_, fun j hj => ?_⟩
      · rw [hab, hab]
        have := hla.1
        rw [frzL_length] at this
        exact this
      · rw [hab] at hj ⊢
        rw [hab]
        have := hla.2 j
        rw [frzL_getD _ _ _ _ hj] at this
        exact this
    rw [get_ne (fun h => e1 h.symm)] at hk
    by_cases e2 : q = 2
    · subst e2
      rw [get_eq] at hk
      cases hk
      exact ⟨by decide, _, g2, rfl, fun j hj => Le.refl _⟩
    rw [get_ne (fun h => e2 h.symm)] at hk
    by_cases e3 : q = 3
    · subst e3
      rw [get_eq] at hk
      cases hk
      refine ⟨by decide, _, g3, rfl, fun j hj => ?_⟩
      have hj : j < (frsA F).length := hj
      show Le (((frsA F).getD j .undef).frz 4 r4) ((frsA F).getD j .undef)
      rw [← frzL_getD _ _ _ _ hj, frzL_pure _ (frsA_hok F)]
      exact Le.refl _
    rw [get_ne (fun h => e3 h.symm)] at hk
    cases hk
  · subst hv
    have e : (AV.tup (.roI .u8 row :: rest)).frz 4 r4 = .tup (.roI .u8 row :: rest) := by
      show AV.tup (.roI .u8 row :: frzL 4 r4 rest) = _
      rw [hz]
    rw [e]; exact k
def dOut (X : List Pl) (J : Img) (last : Int) (i : Nat) : St := ⟨4, [(0, some (dM X.length (IntKind.u16.wrap (bgL (X.map Pl.older) J last i + 1)) (.sl 3 3 0 (bgF (X.map Pl.older) J last i).length))), (1, some (dA (mixB X J last i))), (2, some (rmC J)), (3, some (.obj (frsA (bgF (X.map Pl.older) J last i))))]⟩
set_option maxRecDepth 20000 in
set_option maxHeartbeats 60000000 in
theorem dBegin_tr (X : List Pl) (last : Int) (J : Img) (hX : X.length ≤ 36) (hb : ∀ x ∈ X, BOk x) : Tr Try.prog 85 [.ptr 0 0, .ptr 2 0] ⟨3, [(0, some (dM X.length (IntKind.u16.wrap (last + 1)) .nils)), (1, some (dA X)), (2, some (rmC J))]⟩ fun v s => v = .tup [] ∧ s = dOut X J last X.length := by
  refine Tr.norm (K := fun v s => v = .tup [] ∧ s.get 0 = some (dM X.length (IntKind.u16.wrap (bgL (X.map Pl.older) J last X.length + 1)) (.sl 3 3 0 (bgF (X.map Pl.older) J last X.length).length)) ∧ s.get 1 = some (dA (mixB X J last X.length)) ∧ s.get 2 = some (rmC J) ∧ s.get 3 = some (.obj (frsA (bgF (X.map Pl.older) J last X.length)))) (trF g85 b85 c85 ?_) fun v s ⟨hv, h0, h1, h2, h3⟩ => ⟨_, dOut X J last X.length, ?_, rfl, rfl⟩
  · conv => whnf
    refine loopI (α := {i : Nat // i ≤ X.length}) (fun i => [(0, .ptr 0 0), (1, .ptr 2 0), (4, .int .i64 i.1)]) (fun i => dOut X J last i.1) (fun i => X.length - i.1) ⟨0, Nat.zero_le _⟩
      ⟨[(3, none)], rfl, rfl, rfl, ⟨⟨rfl, rfl⟩, ⟨rfl, rfl⟩, ⟨rfl, rfl⟩, trivial⟩, ⟨⟨rfl, rfl, rfl⟩, ⟨dA_hok _ _, rfl, by rw [dA_ren]; rfl⟩, ⟨trivial, rfl, rfl⟩, ⟨rfl, rfl, rfl⟩, trivial⟩⟩ fun ⟨i, hi⟩ => ?_
    have hi : i ≤ X.length := hi
    unfold dOut
    conv => whnf
    by_cases hlt : i < X.length
    · have hx := hb _ (List.getElem_mem hlt)
      have hml := mix_len (J := J) (last := last) hi
      have hlt2 : i < (mixB X J last i).length := by omega
      have hmg := mix_get (J := J) (last := last) hlt hlt2
      have hmd := mix_due (J := J) (last := last) hlt
      have hmn := mix_not (J := J) (last := last) hlt
      have hbs : X[i].older.due = true → _ := fun h => (bg_some (I := J) (last := last) (old_get hlt) h).2
      have hbn : X[i].older.due = false → _ := fun h => bg_no (I := J) (last := last) (old_get hlt) h
      refine condY (by simp; omega) ?_
      conv => whnf
      refine condT (by simp; omega) ?_
      obtain ⟨Y, hY⟩ : ∃ Y, Y = mixB X J last i := ⟨_, rfl⟩
      rw [← hY] at hml hlt2 hmd hmn ⊢
      have hYi : Y[i] = X[i] := by subst hY; exact hmg
      rw [dA_open hlt2, hYi]
      obtain ⟨D, hD⟩ : ∃ D, D = dR Y i := ⟨_, rfl⟩
      rw [← hD]
      generalize X[i] = x at *
      conv => whnf
      repeat (first
        | (rw [dD_ld hD hlt2 rfl (by decide)]; (conv => whnf))
        | (rw [dD_ldP hD hlt2 rfl (by decide)]; (conv => whnf))
        | (rw [dD_ldQ hD hlt2 rfl (by decide)]; (conv => whnf))
        | (rw [dD_st hD]; (case hg => rfl); (case hi => exact hlt2); (case hc => rfl); (case hj => decide); (case h1 => rfl); (conv => whnf); refine mF (dD_obj hD _) ?_; (conv => whnf); intro l0 hl0; rw [hl0]; clear hl0; (conv => whnf))
        | (rw [dD_stQ hD]; (case hg => rfl); (case hi => exact hlt2); (case hc => rfl); (case hj => decide); (case h1 => rfl); (conv => whnf); refine mF (dD_obj hD _) ?_; (conv => whnf); intro l0 hl0; rw [hl0]; clear hl0; (conv => whnf))
        | (rw [dD_ld6 hD hlt2 rfl]; (conv => whnf))
        | (rw [dD_st6 hD]; (case hg => rfl); (case hi => exact hlt2); (case hc => rfl); (case hv => rfl); (case h1 => rfl); (conv => whnf); refine mF (dD_obj hD _) ?_; (conv => whnf); intro l0 hl0; rw [hl0]; clear hl0; (conv => whnf)))
      refine condF (fun hw => ?_) (fun hw => ?_)
      rotate_left
      · have hw : x.w = true := hw
        have hd : x.older.due = false := by
          unfold Pl.due
          rw [show x.older.w = true from hw]; rfl
        have hs := hx.w hw
        have s1 := hx.s1
        have hs1 : IntKind.i64.wrap (x.si + 1) = x.si + 1 := w64i (by omega) (by omega)
        have hs2 : 0 ≤ x.si + 1 := by omega
        conv => whnf
        refine ⟨⟨i + 1, hlt⟩, ⟨[], rfl, rfl, rfl, ⟨⟨rfl, rfl⟩, ⟨rfl, rfl⟩, ⟨?_, rfl⟩, trivial⟩, ⟨⟨rfl, rfl, ?_⟩, ⟨dA_hok _ _, rfl, ?_⟩, ⟨trivial, rfl, rfl⟩, ⟨frsA_hok _, rfl, ?_⟩, trivial⟩⟩, by show X.length - (i + 1) < X.length - i; omega⟩
        · show AV.int .i64 (IntKind.i64.wrap ((i : Int) + 1)) = AV.int .i64 ((i + 1 : Nat) : Int)
          rw [s64 (by omega)]
        · show some (dM _ _ _) = some (dM X.length (IntKind.u16.wrap (bgL (X.map Pl.older) J last (i + 1) + 1)) (.sl 3 3 0 (bgF (X.map Pl.older) J last (i + 1)).length))
          unfold bgL bgF
          rw [hbn hd]
        · rw [dA_ren, hmn hd]
          exact congrArg some (dD_shut hD hlt2 (by unfold dc; rw [older_ge hs]; simp only [hs, hs1, hs2, if_true, decide_true]; rfl))
        · show some (Chunk.obj (frsA _)) = some (Chunk.obj (renL _ (frsA (bgF (X.map Pl.older) J last (i + 1)))))
          rw [frsA_ren]
          unfold bgF
          rw [hbn hd]
      have hw : x.w = false := hw
      conv => whnf
      repeat (first
        | (rw [dD_ld hD hlt2 rfl (by decide)]; (conv => whnf))
        | (rw [dD_ldP hD hlt2 rfl (by decide)]; (conv => whnf))
        | (rw [dD_ldQ hD hlt2 rfl (by decide)]; (conv => whnf))
        | (rw [dD_st hD]; (case hg => rfl); (case hi => exact hlt2); (case hc => rfl); (case hj => decide); (case h1 => rfl); (conv => whnf); refine mF (dD_obj hD _) ?_; (conv => whnf); intro l0 hl0; rw [hl0]; clear hl0; (conv => whnf))
        | (rw [dD_stQ hD]; (case hg => rfl); (case hi => exact hlt2); (case hc => rfl); (case hj => decide); (case h1 => rfl); (conv => whnf); refine mF (dD_obj hD _) ?_; (conv => whnf); intro l0 hl0; rw [hl0]; clear hl0; (conv => whnf))
        | (rw [dD_ld6 hD hlt2 rfl]; (conv => whnf))
        | (rw [dD_st6 hD]; (case hg => rfl); (case hi => exact hlt2); (case hc => rfl); (case hv => rfl); (case h1 => rfl); (conv => whnf); refine mF (dD_obj hD _) ?_; (conv => whnf); intro l0 hl0; rw [hl0]; clear hl0; (conv => whnf)))
      refine condF (fun hs => ?_) (fun hs => ?_)
      rotate_left
      have hs : 0 ≤ x.si := by simpa using hs
      conv => whnf
      repeat (first
        | (rw [dD_ld hD hlt2 rfl (by decide)]; (conv => whnf))
        | (rw [dD_ldP hD hlt2 rfl (by decide)]; (conv => whnf))
        | (rw [dD_ldQ hD hlt2 rfl (by decide)]; (conv => whnf))
        | (rw [dD_st hD]; (case hg => rfl); (case hi => exact hlt2); (case hc => rfl); (case hj => decide); (case h1 => rfl); (conv => whnf); refine mF (dD_obj hD _) ?_; (conv => whnf); intro l0 hl0; rw [hl0]; clear hl0; (conv => whnf))
        | (rw [dD_stQ hD]; (case hg => rfl); (case hi => exact hlt2); (case hc => rfl); (case hj => decide); (case h1 => rfl); (conv => whnf); refine mF (dD_obj hD _) ?_; (conv => whnf); intro l0 hl0; rw [hl0]; clear hl0; (conv => whnf))
        | (rw [dD_ld6 hD hlt2 rfl]; (conv => whnf))
        | (rw [dD_st6 hD]; (case hg => rfl); (case hi => exact hlt2); (case hc => rfl); (case hv => rfl); (case h1 => rfl); (conv => whnf); refine mF (dD_obj hD _) ?_; (conv => whnf); intro l0 hl0; rw [hl0]; clear hl0; (conv => whnf)))
      have s1 := hx.s1
      have hs1 : IntKind.i64.wrap (x.si + 1) = x.si + 1 := w64i (by omega) (by omega)
      have hs2 : 0 ≤ x.si + 1 := by omega
      refine condF (fun ht => ?_) (fun ht => ?_)
      rotate_left
      · have hd : x.older.due = false := by
          have ht : IntKind.i64.wrap ((if 0 ≤ x.si then x.si else 0) + 1) < x.p.e := by simpa using ht
          rw [if_pos hs] at ht
          rw [older_ge hs]
          unfold Pl.due
          rw [show decide (IntKind.i64.wrap (x.si + 1) ≥ 0) = true from decide_eq_true (by omega), decide_eq_true ht, Bool.true_and, Bool.or_true]; rfl
        conv => whnf
        refine ⟨⟨i + 1, hlt⟩, ⟨[], rfl, rfl, rfl, ⟨⟨rfl, rfl⟩, ⟨rfl, rfl⟩, ⟨?_, rfl⟩, trivial⟩, ⟨⟨rfl, rfl, ?_⟩, ⟨dA_hok _ _, rfl, ?_⟩, ⟨trivial, rfl, rfl⟩, ⟨frsA_hok _, rfl, ?_⟩, trivial⟩⟩, by show X.length - (i + 1) < X.length - i; omega⟩
        · show AV.int .i64 (IntKind.i64.wrap ((i : Int) + 1)) = AV.int .i64 ((i + 1 : Nat) : Int)
          rw [s64 (by omega)]
        · show some (dM _ _ _) = some (dM X.length (IntKind.u16.wrap (bgL (X.map Pl.older) J last (i + 1) + 1)) (.sl 3 3 0 (bgF (X.map Pl.older) J last (i + 1)).length))
          unfold bgL bgF
          rw [hbn hd]
        · rw [dA_ren, hmn hd]
          exact congrArg some (dD_shut hD hlt2 (by unfold dc; rw [older_ge hs]; simp only [hs, hs1, hs2, if_true, decide_true]; rfl))
        · show some (Chunk.obj (frsA _)) = some (Chunk.obj (renL _ (frsA (bgF (X.map Pl.older) J last (i + 1)))))
          rw [frsA_ren]
          unfold bgF
          rw [hbn hd]
      have hs : ¬ 0 ≤ x.si := by simpa using hs
      have hd : x.older.due = true := by
        rw [older_lt hs]
        unfold Pl.due
        rw [show decide (x.si ≥ 0) = false from decide_eq_false hs, Bool.false_and, show x.w = false from hw]; rfl
      rotate_left
      have hd : x.older.due = true := by
        have ht : ¬ IntKind.i64.wrap ((if 0 ≤ x.si then x.si else 0) + 1) < x.p.e := by simpa using ht
        rw [if_pos hs] at ht
        rw [older_ge hs]
        unfold Pl.due
        rw [show decide (IntKind.i64.wrap (x.si + 1) < x.p.e) = false from decide_eq_false ht, Bool.and_false, show x.w = false from hw]; rfl
      all_goals
        have hmd := hmd hd
        obtain ⟨hb1, hb2⟩ := hbs hd
        clear hs
        have hFl := bgF_le (X.map Pl.older) J last i
        generalize bgF (X.map Pl.older) J last i = F at *
        generalize bgL (X.map Pl.older) J last i = L at *
        have hdt : List.take (F.length * 3) (List.drop 0 (frsA F)) = frsA F := by rw [List.drop_zero, List.take_of_length_le (by rw [frsA_len]; omega)]
        have hw1 : IntKind.u16.wrap (IntKind.u32.wrap (L + 1)) = IntKind.u16.wrap (L + 1) := w1632 _
        have hw2 : IntKind.u16.wrap (IntKind.u32.wrap (L + 1) + 1) = IntKind.u16.wrap (IntKind.u16.wrap (L + 1) + 1) := w1632' _
        conv => whnf
        repeat (first
          | (rw [dD_ld hD hlt2 rfl (by decide)]; (conv => whnf))
          | (rw [dD_ldP hD hlt2 rfl (by decide)]; (conv => whnf))
          | (rw [dD_ldQ hD hlt2 rfl (by decide)]; (conv => whnf))
          | (rw [dD_st hD]; (case hg => rfl); (case hi => exact hlt2); (case hc => rfl); (case hj => decide); (case h1 => rfl); (conv => whnf); refine mF (dD_obj hD _) ?_; (conv => whnf); intro l0 hl0; rw [hl0]; clear hl0; (conv => whnf))
          | (rw [dD_stQ hD]; (case hg => rfl); (case hi => exact hlt2); (case hc => rfl); (case hj => decide); (case h1 => rfl); (conv => whnf); refine mF (dD_obj hD _) ?_; (conv => whnf); intro l0 hl0; rw [hl0]; clear hl0; (conv => whnf))
          | (rw [dD_ld6 hD hlt2 rfl]; (conv => whnf))
          | (rw [dD_st6 hD]; (case hg => rfl); (case hi => exact hlt2); (case hc => rfl); (case hv => rfl); (case h1 => rfl); (conv => whnf); refine mF (dD_obj hD _) ?_; (conv => whnf); intro l0 hl0; rw [hl0]; clear hl0; (conv => whnf)))
        by_cases hf : x.p.f ≤ 4
        · refine condN (by simp; omega) ?_
          conv => whnf
          rw [dD_ld6 hD hlt2 rfl]
          conv => whnf
          refine lookD hD (i := i) (cc' := [.int .u8 x.p.u, .int .u8 x.p.f, .int .u16 x.p.a, .int .i64 x.p.n, .int .i64 x.p.p, .int .i64 x.p.e, .int .i64 x.p.t, .int .i64 x.p.r, .bool (decide (0 ≤ x.si)), .int .i64 (IntKind.i64.wrap ((if 0 ≤ x.si then x.si else 0) + 1)), .int .i64 x.le, .bool x.w, .int .u16 x.id, .int .u8 x.p.f, .int .u16 x.p.a, .int .u16 (IntKind.u16.wrap x.p.n), .int .u16 0, .roB [], .roI .u16 [], .int .i64 x.ms, .int .i64 (IntKind.i64.wrap (x.ag + 1)), .bool x.st, .bool (!x.l.isEmpty), .roB (dB x), .roI .u16 (dN x)]) (Ret1.of rfl ((rRequest_raw x.p.f x.p.a (IntKind.u16.wrap x.p.n) 0 [] [] (wrap16_range _).1 (wrap16_range _).2 (by decide) (by decide)).mono fun v s h => by unfold RawK at h; exact h)) rfl ⟨See.aggL ⟨.same _ rfl, .same _ rfl, .same _ rfl, .same _ rfl, .le _ _ _ (.same _ rfl) Le.nilB, .le _ _ _ (.same _ rfl) (Le.nilI _), trivial⟩, trivial⟩ rfl ⟨Le.refl _, Le.refl _, Le.refl _, Le.refl _, Le.refl _, Le.refl _, Le.refl _, Le.refl _, Le.refl _, Le.refl _, Le.refl _, Le.refl _, Le.refl _, Le.refl _, Le.refl _, Le.refl _, Le.refl _, Le.nilB, Le.nilI _, Le.refl _, Le.refl _, Le.refl _, Le.refl _, Le.refl _, Le.refl _, trivial⟩ ?_
          conv => whnf
          repeat (first
            | (rw [dD_ld hD hlt2 rfl (by decide)]; (conv => whnf))
            | (rw [dD_ldP hD hlt2 rfl (by decide)]; (conv => whnf))
            | (rw [dD_ldQ hD hlt2 rfl (by decide)]; (conv => whnf))
            | (rw [dD_st hD]; (case hg => rfl); (case hi => exact hlt2); (case hc => rfl); (case hj => decide); (case h1 => rfl); (conv => whnf); refine mF (dD_obj hD _) ?_; (conv => whnf); intro l0 hl0; rw [hl0]; clear hl0; (conv => whnf))
            | (rw [dD_stQ hD]; (case hg => rfl); (case hi => exact hlt2); (case hc => rfl); (case hj => decide); (case h1 => rfl); (conv => whnf); refine mF (dD_obj hD _) ?_; (conv => whnf); intro l0 hl0; rw [hl0]; clear hl0; (conv => whnf))
            | (rw [dD_ld6 hD hlt2 rfl]; (conv => whnf))
            | (rw [dD_st6 hD]; (case hg => rfl); (case hi => exact hlt2); (case hc => rfl); (case hv => rfl); (case h1 => rfl); (conv => whnf); refine mF (dD_obj hD _) ?_; (conv => whnf); intro l0 hl0; rw [hl0]; clear hl0; (conv => whnf)))
          refine condT ?_ ?_
          · show (Nat.beq 3 3 && decide (0 + F.length * 3 ≤ (frsA F).length) && (List.take (F.length * 3) (List.drop 0 (frsA F))).all AV.one && (Nat.beq 3 3 && decide (0 + 1 * 3 ≤ 3) && true) && decide ((F.length + 1) * 32 ≤ 140737488355328) && decide (F.length + 1 ≤ 140737488355328)) = true
            rw [hdt, frsA_one, frsA_len]
            simp
            omega
          conv => whnf
          refine ⟨⟨i + 1, hlt⟩, ⟨[(3, some 5)], rfl, rfl, rfl, ⟨⟨rfl, rfl⟩, ⟨rfl, rfl⟩, ⟨?_, rfl⟩, trivial⟩, ⟨⟨rfl, rfl, ?_⟩, ⟨dA_hok _ _, rfl, ?_⟩, ⟨trivial, rfl, rfl⟩, ⟨frsA_hok _, rfl, ?_⟩, trivial⟩⟩, by show X.length - (i + 1) < X.length - i; omega⟩
          · show AV.int .i64 (IntKind.i64.wrap ((i : Int) + 1)) = AV.int .i64 ((i + 1 : Nat) : Int)
            rw [s64 (by omega)]
          · show some (Chunk.obj [.sl 25 1 0 X.length, .int .u16 (IntKind.u16.wrap (IntKind.u16.wrap (L + 1) + 1)), .sl 3 5 0 (F.length + 1)]) = some (Chunk.obj [.sl 25 1 0 X.length, .int .u16 (IntKind.u16.wrap (bgL (X.map Pl.older) J last (i + 1) + 1)), .sl 3 5 0 (bgF (X.map Pl.older) J last (i + 1)).length])
            rw [hb1, hb2, hw2, List.length_append]; rfl
          · rw [dA_ren, hmd]
            exact congrArg some (dD_shut hD hlt2 (by unfold dc; rw [asks_rd (show x.older.p.f < 5 by show x.p.f < 5; omega), hw1]; rfl))
          · show some (Chunk.obj (List.take (F.length * 3) (List.drop 0 (frsA F)) ++ _)) = some (Chunk.obj (renL _ (frsA (bgF (X.map Pl.older) J last (i + 1)))))
            rw [frsA_ren, hb2, frsA_app, hdt, sends_rd (show x.older.p.f < 5 by show x.p.f < 5; omega), hw1]
            rfl
        · have h56 : x.p.f = 15 ∨ x.p.f = 16 := by
            rcases hx.f with h | h
            · exact absurd h hf
            · exact h
          have n1 := hx.n1
          have n64 := hx.n64
          refine condY (by simp; omega) ?_
          conv => whnf
          repeat (first
            | (rw [dD_ld hD hlt2 rfl (by decide)]; (conv => whnf))
            | (rw [dD_ldP hD hlt2 rfl (by decide)]; (conv => whnf))
            | (rw [dD_ldQ hD hlt2 rfl (by decide)]; (conv => whnf))
            | (rw [dD_st hD]; (case hg => rfl); (case hi => exact hlt2); (case hc => rfl); (case hj => decide); (case h1 => rfl); (conv => whnf); refine mF (dD_obj hD _) ?_; (conv => whnf); intro l0 hl0; rw [hl0]; clear hl0; (conv => whnf))
            | (rw [dD_stQ hD]; (case hg => rfl); (case hi => exact hlt2); (case hc => rfl); (case hj => decide); (case h1 => rfl); (conv => whnf); refine mF (dD_obj hD _) ?_; (conv => whnf); intro l0 hl0; rw [hl0]; clear hl0; (conv => whnf))
            | (rw [dD_ld6 hD hlt2 rfl]; (conv => whnf))
            | (rw [dD_st6 hD]; (case hg => rfl); (case hi => exact hlt2); (case hc => rfl); (case hv => rfl); (case h1 => rfl); (conv => whnf); refine mF (dD_obj hD _) ?_; (conv => whnf); intro l0 hl0; rw [hl0]; clear hl0; (conv => whnf)))
          rcases h56 with h5 | h5
          · skip
            refine loopI (α := {k : Nat // (k : Int) ≤ x.p.n}) (fun k => [(0, .ptr 0 0), (1, .ptr 2 0), (4, .int .i64 i), (5, .ptr 1 (0 + Int.toNat (i : Int) * 25)), (6, .int .i64 k.1)]) (fun k => ⟨5, [(0, some (dM X.length (IntKind.u16.wrap (L + 1)) (.sl 3 3 0 F.length))), (1, some (D [.int .u8 x.p.u, .int .u8 x.p.f, .int .u16 x.p.a, .int .i64 x.p.n, .int .i64 x.p.p, .int .i64 x.p.e, .int .i64 x.p.t, .int .i64 x.p.r, .bool (decide (0 ≤ x.si)), .int .i64 (IntKind.i64.wrap ((if 0 ≤ x.si then x.si else 0) + 1)), .int .i64 x.le, .bool x.w, .int .u16 x.id, .int .u8 x.p.f, .int .u16 x.p.a, .int .u16 0, .int .u16 0, .sl 1 4 0 k.1, .nils, .int .i64 x.ms, .int .i64 (IntKind.i64.wrap (x.ag + 1)), .bool x.st, .bool (!x.l.isEmpty), .roB (dB x), .roI .u16 (dN x)])), (2, some (rmC J)), (3, some (.obj (frsA F))), (4, some (.rowB ((List.range k.1).map fun k => getV J.o (areaS x.p.f) (IntKind.i64.wrap (x.p.p + (k : Nat))) != 0)))]⟩) (fun k => x.p.n.toNat - k.1) ⟨0, by show (0 : Int) ≤ x.p.n; omega⟩
              ⟨[(4, none)], rfl, rfl, rfl, ⟨⟨rfl, rfl⟩, ⟨rfl, rfl⟩, ⟨rfl, rfl⟩, ⟨rfl, rfl⟩, ⟨rfl, rfl⟩, trivial⟩, ⟨⟨rfl, rfl, rfl⟩, ⟨dD_hok hD rfl, rfl, by rw [dD_ren hD]; rfl⟩, ⟨trivial, rfl, rfl⟩, ⟨frsA_hok _, rfl, by show some _ = some (Chunk.obj (renL _ (frsA F))); rw [frsA_ren]⟩, ⟨trivial, rfl, rfl⟩, trivial⟩⟩ fun ⟨k, hk⟩ => ?_
            have hk : (k : Int) ≤ x.p.n := hk
            conv => whnf
            repeat (first
              | (rw [dD_ld hD hlt2 rfl (by decide)]; (conv => whnf))
              | (rw [dD_ldP hD hlt2 rfl (by decide)]; (conv => whnf))
              | (rw [dD_ldQ hD hlt2 rfl (by decide)]; (conv => whnf))
              | (rw [dD_st hD]; (case hg => rfl); (case hi => exact hlt2); (case hc => rfl); (case hj => decide); (case h1 => rfl); (conv => whnf); refine mF (dD_obj hD _) ?_; (conv => whnf); intro l0 hl0; rw [hl0]; clear hl0; (conv => whnf))
              | (rw [dD_stQ hD]; (case hg => rfl); (case hi => exact hlt2); (case hc => rfl); (case hj => decide); (case h1 => rfl); (conv => whnf); refine mF (dD_obj hD _) ?_; (conv => whnf); intro l0 hl0; rw [hl0]; clear hl0; (conv => whnf))
              | (rw [dD_ld6 hD hlt2 rfl]; (conv => whnf))
              | (rw [dD_st6 hD]; (case hg => rfl); (case hi => exact hlt2); (case hc => rfl); (case hv => rfl); (case h1 => rfl); (conv => whnf); refine mF (dD_obj hD _) ?_; (conv => whnf); intro l0 hl0; rw [hl0]; clear hl0; (conv => whnf)))
            by_cases hkt : (k : Int) < x.p.n
            · refine condY (by simpa using hkt) ?_
              conv => whnf
              repeat (first
                | (rw [dD_ld hD hlt2 rfl (by decide)]; (conv => whnf))
                | (rw [dD_ldP hD hlt2 rfl (by decide)]; (conv => whnf))
                | (rw [dD_ldQ hD hlt2 rfl (by decide)]; (conv => whnf))
                | (rw [dD_st hD]; (case hg => rfl); (case hi => exact hlt2); (case hc => rfl); (case hj => decide); (case h1 => rfl); (conv => whnf); refine mF (dD_obj hD _) ?_; (conv => whnf); intro l0 hl0; rw [hl0]; clear hl0; (conv => whnf))
                | (rw [dD_stQ hD]; (case hg => rfl); (case hi => exact hlt2); (case hc => rfl); (case hj => decide); (case h1 => rfl); (conv => whnf); refine mF (dD_obj hD _) ?_; (conv => whnf); intro l0 hl0; rw [hl0]; clear hl0; (conv => whnf))
                | (rw [dD_ld6 hD hlt2 rfl]; (conv => whnf))
                | (rw [dD_st6 hD]; (case hg => rfl); (case hi => exact hlt2); (case hc => rfl); (case hv => rfl); (case h1 => rfl); (conv => whnf); refine mF (dD_obj hD _) ?_; (conv => whnf); intro l0 hl0; rw [hl0]; clear hl0; (conv => whnf)))
              refine Ev.call (darea_ev _) ?_
              conv => whnf
              first | (refine ⟨rfl, ?_⟩; (conv => whnf)) | skip
              repeat (first
                | (rw [dD_ld hD hlt2 rfl (by decide)]; (conv => whnf))
                | (rw [dD_ldP hD hlt2 rfl (by decide)]; (conv => whnf))
                | (rw [dD_ldQ hD hlt2 rfl (by decide)]; (conv => whnf))
                | (rw [dD_st hD]; (case hg => rfl); (case hi => exact hlt2); (case hc => rfl); (case hj => decide); (case h1 => rfl); (conv => whnf); refine mF (dD_obj hD _) ?_; (conv => whnf); intro l0 hl0; rw [hl0]; clear hl0; (conv => whnf))
                | (rw [dD_stQ hD]; (case hg => rfl); (case hi => exact hlt2); (case hc => rfl); (case hj => decide); (case h1 => rfl); (conv => whnf); refine mF (dD_obj hD _) ?_; (conv => whnf); intro l0 hl0; rw [hl0]; clear hl0; (conv => whnf))
                | (rw [dD_ld6 hD hlt2 rfl]; (conv => whnf))
                | (rw [dD_st6 hD]; (case hg => rfl); (case hi => exact hlt2); (case hc => rfl); (case hv => rfl); (case h1 => rfl); (conv => whnf); refine mF (dD_obj hD _) ?_; (conv => whnf); intro l0 hl0; rw [hl0]; clear hl0; (conv => whnf)))
              refine blkCall (h := 2) (rGet_tr J (areaS x.p.f) (IntKind.i64.wrap (x.p.p + (k : Int)))) rfl rfl rfl ?_
              conv => whnf
              repeat (first
                | (rw [dD_ld hD hlt2 rfl (by decide)]; (conv => whnf))
                | (rw [dD_ldP hD hlt2 rfl (by decide)]; (conv => whnf))
                | (rw [dD_ldQ hD hlt2 rfl (by decide)]; (conv => whnf))
                | (rw [dD_st hD]; (case hg => rfl); (case hi => exact hlt2); (case hc => rfl); (case hj => decide); (case h1 => rfl); (conv => whnf); refine mF (dD_obj hD _) ?_; (conv => whnf); intro l0 hl0; rw [hl0]; clear hl0; (conv => whnf))
                | (rw [dD_stQ hD]; (case hg => rfl); (case hi => exact hlt2); (case hc => rfl); (case hj => decide); (case h1 => rfl); (conv => whnf); refine mF (dD_obj hD _) ?_; (conv => whnf); intro l0 hl0; rw [hl0]; clear hl0; (conv => whnf))
                | (rw [dD_ld6 hD hlt2 rfl]; (conv => whnf))
                | (rw [dD_st6 hD]; (case hg => rfl); (case hi => exact hlt2); (case hc => rfl); (case hv => rfl); (case h1 => rfl); (conv => whnf); refine mF (dD_obj hD _) ?_; (conv => whnf); intro l0 hl0; rw [hl0]; clear hl0; (conv => whnf)))
              refine condY (by rw [h5]; rfl) ?_
              conv => whnf
              repeat (first
                | (rw [dD_ld hD hlt2 rfl (by decide)]; (conv => whnf))
                | (rw [dD_ldP hD hlt2 rfl (by decide)]; (conv => whnf))
                | (rw [dD_ldQ hD hlt2 rfl (by decide)]; (conv => whnf))
                | (rw [dD_st hD]; (case hg => rfl); (case hi => exact hlt2); (case hc => rfl); (case hj => decide); (case h1 => rfl); (conv => whnf); refine mF (dD_obj hD _) ?_; (conv => whnf); intro l0 hl0; rw [hl0]; clear hl0; (conv => whnf))
                | (rw [dD_stQ hD]; (case hg => rfl); (case hi => exact hlt2); (case hc => rfl); (case hj => decide); (case h1 => rfl); (conv => whnf); refine mF (dD_obj hD _) ?_; (conv => whnf); intro l0 hl0; rw [hl0]; clear hl0; (conv => whnf))
                | (rw [dD_ld6 hD hlt2 rfl]; (conv => whnf))
                | (rw [dD_st6 hD]; (case hg => rfl); (case hi => exact hlt2); (case hc => rfl); (case hv => rfl); (case h1 => rfl); (conv => whnf); refine mF (dD_obj hD _) ?_; (conv => whnf); intro l0 hl0; rw [hl0]; clear hl0; (conv => whnf)))
              refine condT (by simp; omega) ?_
              conv => whnf
              repeat (first
                | (rw [dD_ld hD hlt2 rfl (by decide)]; (conv => whnf))
                | (rw [dD_ldP hD hlt2 rfl (by decide)]; (conv => whnf))
                | (rw [dD_ldQ hD hlt2 rfl (by decide)]; (conv => whnf))
                | (rw [dD_st hD]; (case hg => rfl); (case hi => exact hlt2); (case hc => rfl); (case hj => decide); (case h1 => rfl); (conv => whnf); refine mF (dD_obj hD _) ?_; (conv => whnf); intro l0 hl0; rw [hl0]; clear hl0; (conv => whnf))
                | (rw [dD_stQ hD]; (case hg => rfl); (case hi => exact hlt2); (case hc => rfl); (case hj => decide); (case h1 => rfl); (conv => whnf); refine mF (dD_obj hD _) ?_; (conv => whnf); intro l0 hl0; rw [hl0]; clear hl0; (conv => whnf))
                | (rw [dD_ld6 hD hlt2 rfl]; (conv => whnf))
                | (rw [dD_st6 hD]; (case hg => rfl); (case hi => exact hlt2); (case hc => rfl); (case hv => rfl); (case h1 => rfl); (conv => whnf); refine mF (dD_obj hD _) ?_; (conv => whnf); intro l0 hl0; rw [hl0]; clear hl0; (conv => whnf)))
              refine ⟨⟨k + 1, by show ((k + 1 : Nat) : Int) ≤ x.p.n; omega⟩, ⟨[(4, some 6)], rfl, rfl, rfl, ⟨⟨rfl, rfl⟩, ⟨rfl, rfl⟩, ⟨rfl, rfl⟩, ⟨rfl, rfl⟩, ⟨?_, rfl⟩, trivial⟩, ⟨⟨rfl, rfl, rfl⟩, ⟨dD_hok hD rfl, rfl, by rw [dD_ren hD]; rfl⟩, ⟨trivial, rfl, rfl⟩, ⟨frsA_hok _, rfl, by show some _ = some (Chunk.obj (renL _ (frsA F))); rw [frsA_ren]⟩, ⟨trivial, rfl, ?_⟩, trivial⟩⟩, by show x.p.n.toNat - (k + 1) < x.p.n.toNat - k; omega⟩
              · show AV.int .i64 (IntKind.i64.wrap ((k : Int) + 1)) = AV.int .i64 ((k + 1 : Nat) : Int)
                rw [s64 (by omega)]
              · show some (Chunk.rowB (((((List.range k).map fun k => getV J.o (areaS x.p.f) (IntKind.i64.wrap (x.p.p + (k : Nat))) != 0)).drop 0).take k ++ ([getV J.o (areaS x.p.f) (IntKind.i64.wrap (x.p.p + (k : Nat))) != 0].drop 0).take 1)) = some (Chunk.rowB ((List.range (k + 1)).map fun k => getV J.o (areaS x.p.f) (IntKind.i64.wrap (x.p.p + (k : Nat))) != 0))
                rw [List.range_succ, List.map_append, List.drop_zero]
                conv => lhs; rw [List.take_of_length_le (by simp)]
                rfl
            · obtain rfl : k = x.p.n.toNat := by omega
              have hL1 : ((List.range x.p.n.toNat).map fun k => getV J.o (areaS x.p.f) (IntKind.i64.wrap (x.p.p + (k : Nat))) != 0).length = x.p.n.toNat := by simp
              have hq : askQ J x.older = ⟨x.p.f, x.p.a, 0, 0, ((List.range x.p.n.toNat).map fun k => getV J.o (areaS x.p.f) (IntKind.i64.wrap (x.p.p + (k : Nat))) != 0), []⟩ := by
                unfold askQ
                rw [if_neg (show ¬ x.older.p.f < 5 by show ¬ x.p.f < 5; omega), if_pos (show x.older.p.f = 15 by show x.p.f = 15; exact h5), ← hx.ar]
                rfl
              refine condN (by simpa using hkt) ?_
              conv => whnf
              repeat (first
                | (rw [dD_ld hD hlt2 rfl (by decide)]; (conv => whnf))
                | (rw [dD_ldP hD hlt2 rfl (by decide)]; (conv => whnf))
                | (rw [dD_ldQ hD hlt2 rfl (by decide)]; (conv => whnf))
                | (rw [dD_st hD]; (case hg => rfl); (case hi => exact hlt2); (case hc => rfl); (case hj => decide); (case h1 => rfl); (conv => whnf); refine mF (dD_obj hD _) ?_; (conv => whnf); intro l0 hl0; rw [hl0]; clear hl0; (conv => whnf))
                | (rw [dD_stQ hD]; (case hg => rfl); (case hi => exact hlt2); (case hc => rfl); (case hj => decide); (case h1 => rfl); (conv => whnf); refine mF (dD_obj hD _) ?_; (conv => whnf); intro l0 hl0; rw [hl0]; clear hl0; (conv => whnf))
                | (rw [dD_ld6 hD hlt2 rfl]; (conv => whnf))
                | (rw [dD_st6 hD]; (case hg => rfl); (case hi => exact hlt2); (case hc => rfl); (case hv => rfl); (case h1 => rfl); (conv => whnf); refine mF (dD_obj hD _) ?_; (conv => whnf); intro l0 hl0; rw [hl0]; clear hl0; (conv => whnf)))
              refine lookZ hD (i := i) (F := F) (J := J) (cc' := [.int .u8 x.p.u, .int .u8 x.p.f, .int .u16 x.p.a, .int .i64 x.p.n, .int .i64 x.p.p, .int .i64 x.p.e, .int .i64 x.p.t, .int .i64 x.p.r, .bool (decide (0 ≤ x.si)), .int .i64 (IntKind.i64.wrap ((if 0 ≤ x.si then x.si else 0) + 1)), .int .i64 x.le, .bool x.w, .int .u16 x.id, .int .u8 x.p.f, .int .u16 x.p.a, .int .u16 0, .int .u16 0, .roB ((List.range x.p.n.toNat).map fun k => getV J.o (areaS x.p.f) (IntKind.i64.wrap (x.p.p + (k : Nat))) != 0), .roI .u16 [], .int .i64 x.ms, .int .i64 (IntKind.i64.wrap (x.ag + 1)), .bool x.st, .bool (!x.l.isEmpty), .roB (dB x), .roI .u16 (dN x)]) (Ret1.of rfl ((rRequest_raw x.p.f x.p.a 0 0 ((List.range x.p.n.toNat).map fun k => getV J.o (areaS x.p.f) (IntKind.i64.wrap (x.p.p + (k : Nat))) != 0) [] (by decide) (by decide) (by simp <;> omega) (by simp <;> omega)).mono fun v s h => by unfold RawK at h; exact h)) rfl ⟨See.aggL ⟨.same _ rfl, .same _ rfl, .same _ rfl, .same _ rfl, see_dB rfl hL1.symm, .le _ _ _ (.same _ rfl) (Le.nilI _), trivial⟩, trivial⟩ rfl rfl rfl rfl rfl ⟨Le.refl _, Le.refl _, Le.refl _, Le.refl _, Le.refl _, Le.refl _, Le.refl _, Le.refl _, Le.refl _, Le.refl _, Le.refl _, Le.refl _, Le.refl _, Le.refl _, Le.refl _, Le.refl _, Le.refl _, by rw [frz_rowB 4 _ _ hL1.symm]; exact Le.refl _, Le.nilI _, Le.refl _, Le.refl _, Le.refl _, Le.refl _, Le.refl _, Le.refl _, trivial⟩ rfl ?_
              conv => whnf
              repeat (first
                | (rw [dD_ld hD hlt2 rfl (by decide)]; (conv => whnf))
                | (rw [dD_ldP hD hlt2 rfl (by decide)]; (conv => whnf))
                | (rw [dD_ldQ hD hlt2 rfl (by decide)]; (conv => whnf))
                | (rw [dD_st hD]; (case hg => rfl); (case hi => exact hlt2); (case hc => rfl); (case hj => decide); (case h1 => rfl); (conv => whnf); refine mF (dD_obj hD _) ?_; (conv => whnf); intro l0 hl0; rw [hl0]; clear hl0; (conv => whnf))
                | (rw [dD_stQ hD]; (case hg => rfl); (case hi => exact hlt2); (case hc => rfl); (case hj => decide); (case h1 => rfl); (conv => whnf); refine mF (dD_obj hD _) ?_; (conv => whnf); intro l0 hl0; rw [hl0]; clear hl0; (conv => whnf))
                | (rw [dD_ld6 hD hlt2 rfl]; (conv => whnf))
                | (rw [dD_st6 hD]; (case hg => rfl); (case hi => exact hlt2); (case hc => rfl); (case hv => rfl); (case h1 => rfl); (conv => whnf); refine mF (dD_obj hD _) ?_; (conv => whnf); intro l0 hl0; rw [hl0]; clear hl0; (conv => whnf)))
              refine condT ?_ ?_
              · show (Nat.beq 3 3 && decide (0 + F.length * 3 ≤ (frsA F).length) && (List.take (F.length * 3) (List.drop 0 (frsA F))).all AV.one && (Nat.beq 3 3 && decide (0 + 1 * 3 ≤ 3) && true) && decide ((F.length + 1) * 32 ≤ 140737488355328) && decide (F.length + 1 ≤ 140737488355328)) = true
                rw [hdt, frsA_one, frsA_len]
                simp
                omega
              conv => whnf
              refine ⟨⟨i + 1, hlt⟩, ⟨[(3, some 6)], rfl, rfl, rfl, ⟨⟨rfl, rfl⟩, ⟨rfl, rfl⟩, ⟨?_, rfl⟩, trivial⟩, ⟨⟨rfl, rfl, ?_⟩, ⟨dA_hok _ _, rfl, ?_⟩, ⟨trivial, rfl, rfl⟩, ⟨frsA_hok _, rfl, ?_⟩, trivial⟩⟩, by show X.length - (i + 1) < X.length - i; omega⟩
              · show AV.int .i64 (IntKind.i64.wrap ((i : Int) + 1)) = AV.int .i64 ((i + 1 : Nat) : Int)
                rw [s64 (by omega)]
              · show some (Chunk.obj [.sl 25 1 0 X.length, .int .u16 (IntKind.u16.wrap (IntKind.u16.wrap (L + 1) + 1)), .sl 3 6 0 (F.length + 1)]) = some (Chunk.obj [.sl 25 1 0 X.length, .int .u16 (IntKind.u16.wrap (bgL (X.map Pl.older) J last (i + 1) + 1)), .sl 3 6 0 (bgF (X.map Pl.older) J last (i + 1)).length])
                rw [hb1, hb2, hw2, List.length_append]; rfl
              · rw [dA_ren, hmd]
                exact congrArg some (dD_shut hD hlt2 (by unfold dc Pl.asks; rw [hq, hw1]; rfl))
              · show some (Chunk.obj (List.take (F.length * 3) (List.drop 0 (frsA F)) ++ _)) = some (Chunk.obj (renL _ (frsA (bgF (X.map Pl.older) J last (i + 1)))))
                rw [frsA_ren, hb2, frsA_app, hdt, show x.older.sends J (IntKind.u32.wrap (L + 1)) = ⟨IntKind.u16.wrap (IntKind.u32.wrap (L + 1)), x.p.u, encR x.p.f x.p.a 0 0 ((List.range x.p.n.toNat).map fun k => getV J.o (areaS x.p.f) (IntKind.i64.wrap (x.p.p + (k : Nat))) != 0) []⟩ by unfold Pl.sends; rw [hq]; rfl, hw1]
                rfl
          · skip
            refine loopI (α := {k : Nat // (k : Int) ≤ x.p.n}) (fun k => [(0, .ptr 0 0), (1, .ptr 2 0), (4, .int .i64 i), (5, .ptr 1 (0 + Int.toNat (i : Int) * 25)), (6, .int .i64 k.1)]) (fun k => ⟨5, [(0, some (dM X.length (IntKind.u16.wrap (L + 1)) (.sl 3 3 0 F.length))), (1, some (D [.int .u8 x.p.u, .int .u8 x.p.f, .int .u16 x.p.a, .int .i64 x.p.n, .int .i64 x.p.p, .int .i64 x.p.e, .int .i64 x.p.t, .int .i64 x.p.r, .bool (decide (0 ≤ x.si)), .int .i64 (IntKind.i64.wrap ((if 0 ≤ x.si then x.si else 0) + 1)), .int .i64 x.le, .bool x.w, .int .u16 x.id, .int .u8 x.p.f, .int .u16 x.p.a, .int .u16 0, .int .u16 0, .nils, .sl 1 4 0 k.1, .int .i64 x.ms, .int .i64 (IntKind.i64.wrap (x.ag + 1)), .bool x.st, .bool (!x.l.isEmpty), .roB (dB x), .roI .u16 (dN x)])), (2, some (rmC J)), (3, some (.obj (frsA F))), (4, some (.rowI .u16 ((List.range k.1).map fun k => getV J.o (areaS x.p.f) (IntKind.i64.wrap (x.p.p + (k : Nat))))))]⟩) (fun k => x.p.n.toNat - k.1) ⟨0, by show (0 : Int) ≤ x.p.n; omega⟩
              ⟨[(4, none)], rfl, rfl, rfl, ⟨⟨rfl, rfl⟩, ⟨rfl, rfl⟩, ⟨rfl, rfl⟩, ⟨rfl, rfl⟩, ⟨rfl, rfl⟩, trivial⟩, ⟨⟨rfl, rfl, rfl⟩, ⟨dD_hok hD rfl, rfl, by rw [dD_ren hD]; rfl⟩, ⟨trivial, rfl, rfl⟩, ⟨frsA_hok _, rfl, by show some _ = some (Chunk.obj (renL _ (frsA F))); rw [frsA_ren]⟩, ⟨trivial, rfl, rfl⟩, trivial⟩⟩ fun ⟨k, hk⟩ => ?_
            have hk : (k : Int) ≤ x.p.n := hk
            conv => whnf
            repeat (first
              | (rw [dD_ld hD hlt2 rfl (by decide)]; (conv => whnf))
              | (rw [dD_ldP hD hlt2 rfl (by decide)]; (conv => whnf))
              | (rw [dD_ldQ hD hlt2 rfl (by decide)]; (conv => whnf))
              | (rw [dD_st hD]; (case hg => rfl); (case hi => exact hlt2); (case hc => rfl); (case hj => decide); (case h1 => rfl); (conv => whnf); refine mF (dD_obj hD _) ?_; (conv => whnf); intro l0 hl0; rw [hl0]; clear hl0; (conv => whnf))
              | (rw [dD_stQ hD]; (case hg => rfl); (case hi => exact hlt2); (case hc => rfl); (case hj => decide); (case h1 => rfl); (conv => whnf); refine mF (dD_obj hD _) ?_; (conv => whnf); intro l0 hl0; rw [hl0]; clear hl0; (conv => whnf))
              | (rw [dD_ld6 hD hlt2 rfl]; (conv => whnf))
              | (rw [dD_st6 hD]; (case hg => rfl); (case hi => exact hlt2); (case hc => rfl); (case hv => rfl); (case h1 => rfl); (conv => whnf); refine mF (dD_obj hD _) ?_; (conv => whnf); intro l0 hl0; rw [hl0]; clear hl0; (conv => whnf)))
            by_cases hkt : (k : Int) < x.p.n
            · refine condY (by simpa using hkt) ?_
              conv => whnf
              repeat (first
                | (rw [dD_ld hD hlt2 rfl (by decide)]; (conv => whnf))
                | (rw [dD_ldP hD hlt2 rfl (by decide)]; (conv => whnf))
                | (rw [dD_ldQ hD hlt2 rfl (by decide)]; (conv => whnf))
                | (rw [dD_st hD]; (case hg => rfl); (case hi => exact hlt2); (case hc => rfl); (case hj => decide); (case h1 => rfl); (conv => whnf); refine mF (dD_obj hD _) ?_; (conv => whnf); intro l0 hl0; rw [hl0]; clear hl0; (conv => whnf))
                | (rw [dD_stQ hD]; (case hg => rfl); (case hi => exact hlt2); (case hc => rfl); (case hj => decide); (case h1 => rfl); (conv => whnf); refine mF (dD_obj hD _) ?_; (conv => whnf); intro l0 hl0; rw [hl0]; clear hl0; (conv => whnf))
                | (rw [dD_ld6 hD hlt2 rfl]; (conv => whnf))
                | (rw [dD_st6 hD]; (case hg => rfl); (case hi => exact hlt2); (case hc => rfl); (case hv => rfl); (case h1 => rfl); (conv => whnf); refine mF (dD_obj hD _) ?_; (conv => whnf); intro l0 hl0; rw [hl0]; clear hl0; (conv => whnf)))
              refine Ev.call (darea_ev _) ?_
              conv => whnf
              first | (refine ⟨rfl, ?_⟩; (conv => whnf)) | skip
              repeat (first
                | (rw [dD_ld hD hlt2 rfl (by decide)]; (conv => whnf))
                | (rw [dD_ldP hD hlt2 rfl (by decide)]; (conv => whnf))
                | (rw [dD_ldQ hD hlt2 rfl (by decide)]; (conv => whnf))
                | (rw [dD_st hD]; (case hg => rfl); (case hi => exact hlt2); (case hc => rfl); (case hj => decide); (case h1 => rfl); (conv => whnf); refine mF (dD_obj hD _) ?_; (conv => whnf); intro l0 hl0; rw [hl0]; clear hl0; (conv => whnf))
                | (rw [dD_stQ hD]; (case hg => rfl); (case hi => exact hlt2); (case hc => rfl); (case hj => decide); (case h1 => rfl); (conv => whnf); refine mF (dD_obj hD _) ?_; (conv => whnf); intro l0 hl0; rw [hl0]; clear hl0; (conv => whnf))
                | (rw [dD_ld6 hD hlt2 rfl]; (conv => whnf))
                | (rw [dD_st6 hD]; (case hg => rfl); (case hi => exact hlt2); (case hc => rfl); (case hv => rfl); (case h1 => rfl); (conv => whnf); refine mF (dD_obj hD _) ?_; (conv => whnf); intro l0 hl0; rw [hl0]; clear hl0; (conv => whnf)))
              refine blkCall (h := 2) (rGet_tr J (areaS x.p.f) (IntKind.i64.wrap (x.p.p + (k : Int)))) rfl rfl rfl ?_
              conv => whnf
              repeat (first
                | (rw [dD_ld hD hlt2 rfl (by decide)]; (conv => whnf))
                | (rw [dD_ldP hD hlt2 rfl (by decide)]; (conv => whnf))
                | (rw [dD_ldQ hD hlt2 rfl (by decide)]; (conv => whnf))
                | (rw [dD_st hD]; (case hg => rfl); (case hi => exact hlt2); (case hc => rfl); (case hj => decide); (case h1 => rfl); (conv => whnf); refine mF (dD_obj hD _) ?_; (conv => whnf); intro l0 hl0; rw [hl0]; clear hl0; (conv => whnf))
                | (rw [dD_stQ hD]; (case hg => rfl); (case hi => exact hlt2); (case hc => rfl); (case hj => decide); (case h1 => rfl); (conv => whnf); refine mF (dD_obj hD _) ?_; (conv => whnf); intro l0 hl0; rw [hl0]; clear hl0; (conv => whnf))
                | (rw [dD_ld6 hD hlt2 rfl]; (conv => whnf))
                | (rw [dD_st6 hD]; (case hg => rfl); (case hi => exact hlt2); (case hc => rfl); (case hv => rfl); (case h1 => rfl); (conv => whnf); refine mF (dD_obj hD _) ?_; (conv => whnf); intro l0 hl0; rw [hl0]; clear hl0; (conv => whnf)))
              refine condN (by rw [h5]; rfl) ?_
              conv => whnf
              repeat (first
                | (rw [dD_ld hD hlt2 rfl (by decide)]; (conv => whnf))
                | (rw [dD_ldP hD hlt2 rfl (by decide)]; (conv => whnf))
                | (rw [dD_ldQ hD hlt2 rfl (by decide)]; (conv => whnf))
                | (rw [dD_st hD]; (case hg => rfl); (case hi => exact hlt2); (case hc => rfl); (case hj => decide); (case h1 => rfl); (conv => whnf); refine mF (dD_obj hD _) ?_; (conv => whnf); intro l0 hl0; rw [hl0]; clear hl0; (conv => whnf))
                | (rw [dD_stQ hD]; (case hg => rfl); (case hi => exact hlt2); (case hc => rfl); (case hj => decide); (case h1 => rfl); (conv => whnf); refine mF (dD_obj hD _) ?_; (conv => whnf); intro l0 hl0; rw [hl0]; clear hl0; (conv => whnf))
                | (rw [dD_ld6 hD hlt2 rfl]; (conv => whnf))
                | (rw [dD_st6 hD]; (case hg => rfl); (case hi => exact hlt2); (case hc => rfl); (case hv => rfl); (case h1 => rfl); (conv => whnf); refine mF (dD_obj hD _) ?_; (conv => whnf); intro l0 hl0; rw [hl0]; clear hl0; (conv => whnf)))
              refine condT (by simp; omega) ?_
              conv => whnf
              repeat (first
                | (rw [dD_ld hD hlt2 rfl (by decide)]; (conv => whnf))
                | (rw [dD_ldP hD hlt2 rfl (by decide)]; (conv => whnf))
                | (rw [dD_ldQ hD hlt2 rfl (by decide)]; (conv => whnf))
                | (rw [dD_st hD]; (case hg => rfl); (case hi => exact hlt2); (case hc => rfl); (case hj => decide); (case h1 => rfl); (conv => whnf); refine mF (dD_obj hD _) ?_; (conv => whnf); intro l0 hl0; rw [hl0]; clear hl0; (conv => whnf))
                | (rw [dD_stQ hD]; (case hg => rfl); (case hi => exact hlt2); (case hc => rfl); (case hj => decide); (case h1 => rfl); (conv => whnf); refine mF (dD_obj hD _) ?_; (conv => whnf); intro l0 hl0; rw [hl0]; clear hl0; (conv => whnf))
                | (rw [dD_ld6 hD hlt2 rfl]; (conv => whnf))
                | (rw [dD_st6 hD]; (case hg => rfl); (case hi => exact hlt2); (case hc => rfl); (case hv => rfl); (case h1 => rfl); (conv => whnf); refine mF (dD_obj hD _) ?_; (conv => whnf); intro l0 hl0; rw [hl0]; clear hl0; (conv => whnf)))
              refine ⟨⟨k + 1, by show ((k + 1 : Nat) : Int) ≤ x.p.n; omega⟩, ⟨[(4, some 6)], rfl, rfl, rfl, ⟨⟨rfl, rfl⟩, ⟨rfl, rfl⟩, ⟨rfl, rfl⟩, ⟨rfl, rfl⟩, ⟨?_, rfl⟩, trivial⟩, ⟨⟨rfl, rfl, rfl⟩, ⟨dD_hok hD rfl, rfl, by rw [dD_ren hD]; rfl⟩, ⟨trivial, rfl, rfl⟩, ⟨frsA_hok _, rfl, by show some _ = some (Chunk.obj (renL _ (frsA F))); rw [frsA_ren]⟩, ⟨trivial, rfl, ?_⟩, trivial⟩⟩, by show x.p.n.toNat - (k + 1) < x.p.n.toNat - k; omega⟩
              · show AV.int .i64 (IntKind.i64.wrap ((k : Int) + 1)) = AV.int .i64 ((k + 1 : Nat) : Int)
                rw [s64 (by omega)]
              · show some (Chunk.rowI .u16 (((((List.range k).map fun k => getV J.o (areaS x.p.f) (IntKind.i64.wrap (x.p.p + (k : Nat))))).drop 0).take k ++ ([getV J.o (areaS x.p.f) (IntKind.i64.wrap (x.p.p + (k : Nat)))].drop 0).take 1)) = some (Chunk.rowI .u16 ((List.range (k + 1)).map fun k => getV J.o (areaS x.p.f) (IntKind.i64.wrap (x.p.p + (k : Nat)))))
                rw [List.range_succ, List.map_append, List.drop_zero]
                conv => lhs; rw [List.take_of_length_le (by simp)]
                rfl
            · obtain rfl : k = x.p.n.toNat := by omega
              have hL1 : ((List.range x.p.n.toNat).map fun k => getV J.o (areaS x.p.f) (IntKind.i64.wrap (x.p.p + (k : Nat)))).length = x.p.n.toNat := by simp
              have hq : askQ J x.older = ⟨x.p.f, x.p.a, 0, 0, [], ((List.range x.p.n.toNat).map fun k => getV J.o (areaS x.p.f) (IntKind.i64.wrap (x.p.p + (k : Nat))))⟩ := by
                unfold askQ
                rw [if_neg (show ¬ x.older.p.f < 5 by show ¬ x.p.f < 5; omega), if_neg (show ¬ x.older.p.f = 15 by show ¬ x.p.f = 15; omega), ← hx.ar]
                rfl
              refine condN (by simpa using hkt) ?_
              conv => whnf
              repeat (first
                | (rw [dD_ld hD hlt2 rfl (by decide)]; (conv => whnf))
                | (rw [dD_ldP hD hlt2 rfl (by decide)]; (conv => whnf))
                | (rw [dD_ldQ hD hlt2 rfl (by decide)]; (conv => whnf))
                | (rw [dD_st hD]; (case hg => rfl); (case hi => exact hlt2); (case hc => rfl); (case hj => decide); (case h1 => rfl); (conv => whnf); refine mF (dD_obj hD _) ?_; (conv => whnf); intro l0 hl0; rw [hl0]; clear hl0; (conv => whnf))
                | (rw [dD_stQ hD]; (case hg => rfl); (case hi => exact hlt2); (case hc => rfl); (case hj => decide); (case h1 => rfl); (conv => whnf); refine mF (dD_obj hD _) ?_; (conv => whnf); intro l0 hl0; rw [hl0]; clear hl0; (conv => whnf))
                | (rw [dD_ld6 hD hlt2 rfl]; (conv => whnf))
                | (rw [dD_st6 hD]; (case hg => rfl); (case hi => exact hlt2); (case hc => rfl); (case hv => rfl); (case h1 => rfl); (conv => whnf); refine mF (dD_obj hD _) ?_; (conv => whnf); intro l0 hl0; rw [hl0]; clear hl0; (conv => whnf)))
              refine lookZ hD (i := i) (F := F) (J := J) (cc' := [.int .u8 x.p.u, .int .u8 x.p.f, .int .u16 x.p.a, .int .i64 x.p.n, .int .i64 x.p.p, .int .i64 x.p.e, .int .i64 x.p.t, .int .i64 x.p.r, .bool (decide (0 ≤ x.si)), .int .i64 (IntKind.i64.wrap ((if 0 ≤ x.si then x.si else 0) + 1)), .int .i64 x.le, .bool x.w, .int .u16 x.id, .int .u8 x.p.f, .int .u16 x.p.a, .int .u16 0, .int .u16 0, .roB [], .roI .u16 ((List.range x.p.n.toNat).map fun k => getV J.o (areaS x.p.f) (IntKind.i64.wrap (x.p.p + (k : Nat)))), .int .i64 x.ms, .int .i64 (IntKind.i64.wrap (x.ag + 1)), .bool x.st, .bool (!x.l.isEmpty), .roB (dB x), .roI .u16 (dN x)]) (Ret1.of rfl ((rRequest_raw x.p.f x.p.a 0 0 [] ((List.range x.p.n.toNat).map fun k => getV J.o (areaS x.p.f) (IntKind.i64.wrap (x.p.p + (k : Nat)))) (by decide) (by decide) (by simp <;> omega) (by simp <;> omega)).mono fun v s h => by unfold RawK at h; exact h)) rfl ⟨See.aggL ⟨.same _ rfl, .same _ rfl, .same _ rfl, .same _ rfl, .le _ _ _ (.same _ rfl) Le.nilB, see_dI rfl hL1.symm, trivial⟩, trivial⟩ rfl rfl rfl rfl rfl ⟨Le.refl _, Le.refl _, Le.refl _, Le.refl _, Le.refl _, Le.refl _, Le.refl _, Le.refl _, Le.refl _, Le.refl _, Le.refl _, Le.refl _, Le.refl _, Le.refl _, Le.refl _, Le.refl _, Le.refl _, Le.nilB, by rw [frz_row 4 .u16 _ _ hL1.symm]; exact Le.refl _, Le.refl _, Le.refl _, Le.refl _, Le.refl _, Le.refl _, Le.refl _, trivial⟩ rfl ?_
              conv => whnf
              repeat (first
                | (rw [dD_ld hD hlt2 rfl (by decide)]; (conv => whnf))
                | (rw [dD_ldP hD hlt2 rfl (by decide)]; (conv => whnf))
                | (rw [dD_ldQ hD hlt2 rfl (by decide)]; (conv => whnf))
                | (rw [dD_st hD]; (case hg => rfl); (case hi => exact hlt2); (case hc => rfl); (case hj => decide); (case h1 => rfl); (conv => whnf); refine mF (dD_obj hD _) ?_; (conv => whnf); intro l0 hl0; rw [hl0]; clear hl0; (conv => whnf))
                | (rw [dD_stQ hD]; (case hg => rfl); (case hi => exact hlt2); (case hc => rfl); (case hj => decide); (case h1 => rfl); (conv => whnf); refine mF (dD_obj hD _) ?_; (conv => whnf); intro l0 hl0; rw [hl0]; clear hl0; (conv => whnf))
                | (rw [dD_ld6 hD hlt2 rfl]; (conv => whnf))
                | (rw [dD_st6 hD]; (case hg => rfl); (case hi => exact hlt2); (case hc => rfl); (case hv => rfl); (case h1 => rfl); (conv => whnf); refine mF (dD_obj hD _) ?_; (conv => whnf); intro l0 hl0; rw [hl0]; clear hl0; (conv => whnf)))
              refine condT ?_ ?_
              · show (Nat.beq 3 3 && decide (0 + F.length * 3 ≤ (frsA F).length) && (List.take (F.length * 3) (List.drop 0 (frsA F))).all AV.one && (Nat.beq 3 3 && decide (0 + 1 * 3 ≤ 3) && true) && decide ((F.length + 1) * 32 ≤ 140737488355328) && decide (F.length + 1 ≤ 140737488355328)) = true
                rw [hdt, frsA_one, frsA_len]
                simp
                omega
              conv => whnf
              refine ⟨⟨i + 1, hlt⟩, ⟨[(3, some 6)], rfl, rfl, rfl, ⟨⟨rfl, rfl⟩, ⟨rfl, rfl⟩, ⟨?_, rfl⟩, trivial⟩, ⟨⟨rfl, rfl, ?_⟩, ⟨dA_hok _ _, rfl, ?_⟩, ⟨trivial, rfl, rfl⟩, ⟨frsA_hok _, rfl, ?_⟩, trivial⟩⟩, by show X.length - (i + 1) < X.length - i; omega⟩
              · show AV.int .i64 (IntKind.i64.wrap ((i : Int) + 1)) = AV.int .i64 ((i + 1 : Nat) : Int)
                rw [s64 (by omega)]
              · show some (Chunk.obj [.sl 25 1 0 X.length, .int .u16 (IntKind.u16.wrap (IntKind.u16.wrap (L + 1) + 1)), .sl 3 6 0 (F.length + 1)]) = some (Chunk.obj [.sl 25 1 0 X.length, .int .u16 (IntKind.u16.wrap (bgL (X.map Pl.older) J last (i + 1) + 1)), .sl 3 6 0 (bgF (X.map Pl.older) J last (i + 1)).length])
                rw [hb1, hb2, hw2, List.length_append]; rfl
              · rw [dA_ren, hmd]
                exact congrArg some (dD_shut hD hlt2 (by unfold dc Pl.asks; rw [hq, hw1]; rfl))
              · show some (Chunk.obj (List.take (F.length * 3) (List.drop 0 (frsA F)) ++ _)) = some (Chunk.obj (renL _ (frsA (bgF (X.map Pl.older) J last (i + 1)))))
                rw [frsA_ren, hb2, frsA_app, hdt, show x.older.sends J (IntKind.u32.wrap (L + 1)) = ⟨IntKind.u16.wrap (IntKind.u32.wrap (L + 1)), x.p.u, encR x.p.f x.p.a 0 0 [] ((List.range x.p.n.toNat).map fun k => getV J.o (areaS x.p.f) (IntKind.i64.wrap (x.p.p + (k : Nat))))⟩ by unfold Pl.sends; rw [hq]; rfl, hw1]
                rfl
    · obtain rfl : i = X.length := by omega
      refine condN (by simp) ?_
      conv => whnf
      exact ⟨rfl, rfl, rfl, rfl, rfl⟩
  · subst hv
    exact ⟨[], rfl, rfl, rfl, ⟨⟨rfl, rfl⟩, trivial⟩, ⟨⟨rfl, rfl, h0⟩, ⟨dA_hok _ _, rfl, by rw [dA_ren]; exact h1⟩, ⟨trivial, rfl, h2⟩, ⟨frsA_hok _, rfl, by show s.get 3 = some (Chunk.obj (renL _ (frsA _))); rw [frsA_ren]; exact h3⟩, trivial⟩⟩
end Go.Proofs.Ytomodeliimnddaa
set_option linter.unusedVariables false
set_option linter.unusedSimpArgs false
namespace Go.Proofs.Ytomodeliimnddaa
open Go.Ab
theorem SOk.bok {k : Int} {x : Pl} (h : SOk k x) (hk : k ≤ 100000) : BOk x := ⟨h.ar, h.n1, h.n64, h.s0, Int.le_trans h.s1 hk, h.w, by have := h.f; omega⟩
def dMP (d n : Nat) (next : Int) (o : AV) : Chunk := .obj [.sl 25 (d + 1) 0 n, .int .u16 next, o]
section
variable {X : List Pl} {next : Int} {d e : Nat} {s : St} {J : Img} {K : AV → St → Prop}
theorem dkTick (hX : X.length ≤ 36) (g0 : s.get d = some (dMP d X.length next .nils)) (g1 : s.get (d + 1) = some (dA X))
    (kk : openS s fun n m => K (.tup []) ⟨n, (d, some (dMP d X.length next .nils)) :: (d + 1, some (dA (X.map Pl.tick))) :: (d, none) :: (d + 1, none) :: m⟩) : Tr Try.prog 87 [.ptr d 0] s K := by
  refine Tr.call [(0, some d), (1, some (d + 1))] (dTick_tr X next hX) rfl rfl ⟨⟨rfl, rfl, g0⟩, ⟨dA_hok _ _, rfl, by rw [dA_ren]; exact g1⟩, trivial⟩ (ndup2 d) fun v s1 ⟨h1, h2⟩ => ?_
  subst h1; subst h2
  rw [openS_eq] at kk
  have e : backSt (rnm [(0, some d), (1, some (d + 1))]) (dS X next .nils) s (dS (X.map Pl.tick) next .nils) = ⟨s.next, (d, some (dMP d X.length next .nils)) :: (d + 1, some (dA (X.map Pl.tick))) :: (d, none) :: (d + 1, none) :: s.m⟩ := by
    show (⟨s.next + 0, (d, some (dMP d (X.map Pl.tick).length next .nils)) :: (d + 1, some ((dA (X.map Pl.tick)).ren _)) :: (d, none) :: (d + 1, none) :: s.m⟩ : St) = _
    rw [dA_ren, List.length_map]; rfl
  show K (.tup []) (backSt (rnm [(0, some d), (1, some (d + 1))]) (dS X next .nils) s (dS (X.map Pl.tick) next .nils))
  rw [e]; exact kk
theorem dkWaits {k : Int} (hX : X.length ≤ 36) (h0 : 0 ≤ k) (h1 : k < X.length) (g0 : s.get d = some (dMP d X.length next .nils)) (g1 : s.get (d + 1) = some (dA X))
    (kk : openS s fun n m => K (.tup [.int .u16 (if (X[k.toNat]'(by omega)).w then (X[k.toNat]'(by omega)).id else 0), .bool (X[k.toNat]'(by omega)).w]) ⟨n, (d, some (dMP d X.length next .nils)) :: (d + 1, some (dA X)) :: (d, none) :: (d + 1, none) :: m⟩) : Tr Try.prog 91 [.ptr d 0, .int .i64 k] s K := by
  obtain ⟨j, rfl⟩ := Int.eq_ofNat_of_zero_le h0
  have hj : j < X.length := by omega
  refine Tr.call [(0, some d), (1, some (d + 1))] (dWaits_tr X next j hj hX) rfl rfl ⟨⟨rfl, rfl, g0⟩, ⟨dA_hok _ _, rfl, by rw [dA_ren]; exact g1⟩, trivial⟩ (ndup2 d) fun v s1 ⟨h1, h2⟩ => ?_
  subst h1; subst h2
  rw [openS_eq] at kk
  have e : backSt (rnm [(0, some d), (1, some (d + 1))]) (dS X next .nils) s (dS X next .nils) = ⟨s.next, (d, some (dMP d X.length next .nils)) :: (d + 1, some (dA X)) :: (d, none) :: (d + 1, none) :: s.m⟩ := by
    show (⟨s.next + 0, (d, some (dMP d X.length next .nils)) :: (d + 1, some ((dA X).ren _)) :: (d, none) :: (d + 1, none) :: s.m⟩ : St) = _
    rw [dA_ren]; rfl
  show K _ (backSt (rnm [(0, some d), (1, some (d + 1))]) (dS X next .nils) s (dS X next .nils))
  rw [e]; exact kk
theorem dkTake {id u : Int} {l : List Int} {b : Bool} {X' : List Pl} (hX : X.length ≤ 36) (hq : ∀ x ∈ X, WOk x) (hl : l.length ≤ 30000) (hB : isB l) (eT : takeP id u l X = (b, X')) (hL : X'.length = X.length) (g0 : s.get d = some (dMP d X.length next .nils)) (g1 : s.get (d + 1) = some (dA X))
    (kk : openS s fun n m => K (.bool b) ⟨n, (d, some (dMP d X.length next .nils)) :: (d + 1, some (dA X')) :: (d, none) :: (d + 1, none) :: m⟩) : Tr Try.prog 89 [.ptr d 0, .agg [.int .u16 id, .int .u8 u, .roI .u8 l]] s K := by
  refine Tr.call [(0, some d), (1, some (d + 1))] (dTake_tr X next id u l hX hq hl hB) rfl rfl ⟨⟨rfl, rfl, g0⟩, ⟨dA_hok _ _, rfl, by rw [dA_ren]; exact g1⟩, trivial⟩ (ndup2 d) fun v s1 ⟨h1, h2⟩ => ?_
  rw [eT] at h1 h2
  subst h1; subst h2
  rw [openS_eq] at kk
  have e : backSt (rnm [(0, some d), (1, some (d + 1))]) (dS X next .nils) s (dS X' next .nils) = ⟨s.next, (d, some (dMP d X.length next .nils)) :: (d + 1, some (dA X')) :: (d, none) :: (d + 1, none) :: s.m⟩ := by
    show (⟨s.next + 0, (d, some (dMP d X'.length next .nils)) :: (d + 1, some ((dA X').ren _)) :: (d, none) :: (d + 1, none) :: s.m⟩ : St) = _
    rw [dA_ren, hL]; rfl
  show K _ (backSt (rnm [(0, some d), (1, some (d + 1))]) (dS X next .nils) s (dS X' next .nils))
  rw [e]; exact kk
theorem ndd3 (h0 : e ≠ d) (h1 : e ≠ d + 1) : nodupN [d, d + 1, e] = true := by
  show (!(Nat.beq (d + 1) d || (Nat.beq e d || false)) && (!(Nat.beq e (d + 1) || false) && (!false && true))) = true
  rw [beq_ne (by omega : d + 1 ≠ d), beq_ne h0, beq_ne h1]; rfl
theorem dkLatch (hX : X.length ≤ 36) (hl : ∀ x ∈ X, LOk x) (h0 : e ≠ d) (h1 : e ≠ d + 1) (g0 : s.get d = some (dMP d X.length next .nils)) (g1 : s.get (d + 1) = some (dA X)) (g2 : s.get e = some (rmC J))
    (kk : openS s fun n m => K (.tup []) ⟨n, (d, some (dMP d X.length next .nils)) :: (d + 1, some (dA X)) :: (e, some (rmC (latchN J X X.length))) :: (d, none) :: (d + 1, none) :: (e, none) :: m⟩) : Tr Try.prog 90 [.ptr d 0, .ptr e 0] s K := by
  refine Tr.call [(0, some d), (1, some (d + 1)), (2, some e)] (dLatch_tr X next J hX hl) rfl rfl ⟨⟨rfl, rfl, g0⟩, ⟨dA_hok _ _, rfl, by rw [dA_ren]; exact g1⟩, ⟨trivial, rfl, g2⟩, trivial⟩ (ndd3 h0 h1) fun v s1 ⟨h1, h2⟩ => ?_
  subst h1; subst h2
  rw [openS_eq] at kk
  have e1 : backSt (rnm [(0, some d), (1, some (d + 1)), (2, some e)]) ⟨3, [(0, some (dM X.length next .nils)), (1, some (dA X)), (2, some (rmC J))]⟩ s ⟨3, [(0, some (dM X.length next .nils)), (1, some (dA X)), (2, some (rmC (latchN J X X.length)))]⟩ = ⟨s.next, (d, some (dMP d X.length next .nils)) :: (d + 1, some (dA X)) :: (e, some (rmC (latchN J X X.length))) :: (d, none) :: (d + 1, none) :: (e, none) :: s.m⟩ := by
    show (⟨s.next + 0, (d, some (dMP d X.length next .nils)) :: (d + 1, some ((dA X).ren _)) :: (e, some (rmC (latchN J X X.length))) :: (d, none) :: (d + 1, none) :: (e, none) :: s.m⟩ : St) = _
    rw [dA_ren]; rfl
  show K _ (backSt (rnm [(0, some d), (1, some (d + 1)), (2, some e)]) ⟨3, [(0, some (dM X.length next .nils)), (1, some (dA X)), (2, some (rmC J))]⟩ s ⟨3, [(0, some (dM X.length next .nils)), (1, some (dA X)), (2, some (rmC (latchN J X X.length)))]⟩)
  rw [e1]; exact kk
theorem dkBegin {last last' : Int} {X' : List Pl} {fs : List Fr} (hX : X.length ≤ 36) (hb : ∀ x ∈ X, BOk x) (eB : bgN (X.map Pl.older) J last X.length = (X', last', fs)) (h0 : e ≠ d) (h1 : e ≠ d + 1) (g0 : s.get d = some (dMP d X.length (IntKind.u16.wrap (last + 1)) .nils)) (g1 : s.get (d + 1) = some (dA X)) (g2 : s.get e = some (rmC J))
    (kk : openS s fun n m => K (.tup []) ⟨n + 1, (d, some (dMP d X.length (IntKind.u16.wrap (last' + 1)) (.sl 3 n 0 fs.length))) :: (d + 1, some (dA X')) :: (e, some (rmC J)) :: (n, some (frC fs)) :: (d, none) :: (d + 1, none) :: (e, none) :: m⟩) : Tr Try.prog 85 [.ptr d 0, .ptr e 0] s K := by
  refine Tr.call [(0, some d), (1, some (d + 1)), (2, some e)] (dBegin_tr X last J hX hb) rfl rfl ⟨⟨rfl, rfl, g0⟩, ⟨dA_hok _ _, rfl, by rw [dA_ren]; exact g1⟩, ⟨trivial, rfl, g2⟩, trivial⟩ (ndd3 h0 h1) fun v s1 ⟨h1, h2⟩ => ?_
  have eX : bgX (X.map Pl.older) J last X.length = X' := congrArg (·.1) eB
  have eL : bgL (X.map Pl.older) J last X.length = last' := congrArg (·.2.1) eB
  have eF : bgF (X.map Pl.older) J last X.length = fs := congrArg (·.2.2) eB
  have eD : dOut X J last X.length = ⟨4, [(0, some (dM X.length (IntKind.u16.wrap (last' + 1)) (.sl 3 3 0 fs.length))), (1, some (dA X')), (2, some (rmC J)), (3, some (frC fs))]⟩ := by
    unfold dOut
    rw [mix_all, eX, eL, eF, frC_eq]
  rw [eD] at h2
  subst h1; subst h2
  rw [openS_eq] at kk
  have e1 : backSt (rnm [(0, some d), (1, some (d + 1)), (2, some e)]) ⟨3, [(0, some (dM X.length (IntKind.u16.wrap (last + 1)) .nils)), (1, some (dA X)), (2, some (rmC J))]⟩ s ⟨4, [(0, some (dM X.length (IntKind.u16.wrap (last' + 1)) (.sl 3 3 0 fs.length))), (1, some (dA X')), (2, some (rmC J)), (3, some (frC fs))]⟩ = ⟨s.next + 1, (d, some (dMP d X.length (IntKind.u16.wrap (last' + 1)) (.sl 3 s.next 0 fs.length))) :: (d + 1, some (dA X')) :: (e, some (rmC J)) :: (s.next, some (frC fs)) :: (d, none) :: (d + 1, none) :: (e, none) :: s.m⟩ := by
    show (⟨s.next + 1, (d, some (dMP d X.length (IntKind.u16.wrap (last' + 1)) (.sl 3 (s.next + 0) 0 fs.length))) :: (d + 1, some ((dA X').ren _)) :: (e, some (rmC J)) :: (s.next + 0, some ((frC fs).ren _)) :: (d, none) :: (d + 1, none) :: (e, none) :: s.m⟩ : St) = _
    rw [dA_ren, frC_ren]; rfl
  show K _ (backSt (rnm [(0, some d), (1, some (d + 1)), (2, some e)]) ⟨3, [(0, some (dM X.length (IntKind.u16.wrap (last + 1)) .nils)), (1, some (dA X)), (2, some (rmC J))]⟩ s ⟨4, [(0, some (dM X.length (IntKind.u16.wrap (last' + 1)) (.sl 3 3 0 fs.length))), (1, some (dA X')), (2, some (rmC J)), (3, some (frC fs))]⟩)
  rw [e1]; exact kk
end
theorem below_famP {c N : Nat} (hN : c + 39 ≤ N) : ∀ (X : List Pl) (j : Nat), j + X.length ≤ 36 → below (famP c j X) N = true
  | [], _, _ => rfl
  | x :: r, j, h => by
    simp only [List.length_cons] at h
    show (Nat.blt (c + (j + 3)) N && below (famP c (j + 1) r) N) = true
    rw [below_famP hN r (j + 1) (by omega), Bool.and_true]
    exact Nat.ble_eq_true_of_le (by omega)
theorem below_app {N : Nat} {l r : Mem} (h1 : below l N = true) (h2 : below r N = true) : below (l ++ r) N = true := by
  unfold below at *
  rw [List.all_append, h1, h2]; rfl
theorem dnSt_own (S : List Po) (i : Nat) : ownS (dnSt S i).m := by
  refine ⟨rfl, ?_, trivial⟩
  show ownL (dRow S i) = true
  unfold dRow
  generalize S.take i = T
  induction T with
  | nil => rfl
  | cons x r ih =>
    show ownL (dpN x ++ flatsL dpN r) = true
    have : ∀ l m : List AV, ownL l = true → ownL m = true → ownL (l ++ m) = true := fun l m => by
      induction l with
      | nil => intro _ h; exact h
      | cons v t ih =>
        intro h1 h2
        simp only [ownL, Bool.and_eq_true] at h1
        show (AV.own v && ownL (t ++ m)) = true
        rw [h1.1, ih h1.2 h2]; rfl
    exact this _ _ rfl ih
theorem dpN_le (p : Po) : LeL (dpN p) (dc (newP p)) := by
  have h : dc (newP p) = [.int .u8 p.u, .int .u8 p.f, .int .u16 p.a, .int .i64 p.n, .int .i64 p.p, .int .i64 p.e, .int .i64 p.t, .int .i64 p.r, .bool false, .int .i64 0, .int .i64 0, .bool false, .int .u16 0, .int .u8 0, .int .u16 0, .int .u16 0, .int .u16 0, .roB [], .roI .u16 [], .int .i64 0, .int .i64 0, .bool false, .bool false, .roB [], .roI .u16 []] := by
    have hb : dB (newP p) = [] := by unfold dB; split <;> rfl
    have hn : dN (newP p) = [] := by unfold dN; split <;> rfl
    unfold dc
    rw [hb, hn]; rfl
  rw [h]
  exact ⟨Le.refl _, Le.refl _, Le.refl _, Le.refl _, Le.refl _, Le.refl _, Le.refl _, Le.refl _, Le.refl _, Le.refl _, Le.refl _, Le.refl _, Le.refl _, Le.refl _, Le.refl _, Le.refl _, Le.refl _, Le.nilB, Le.nilI _, Le.refl _, Le.refl _, Le.refl _, Le.refl _, Le.nilB, Le.nilI _, trivial⟩
theorem dRow_le : ∀ S : List Po, LeL (flatsL dpN S) (flatsL dc (S.map newP))
  | [] => trivial
  | p :: r => LeL.app (dpN_le p) (dRow_le r)
theorem dRow_leC (S : List Po) : LeC (.obj (dRow S S.length)) (dA (S.map newP)) := by
  unfold dRow dA
  rw [List.take_length]
  exact LeC.obj (dRow_le S)
theorem dnewY {S : List Po} (hS : ∀ x ∈ S, 0 ≤ x.a ∧ x.a < 65536) (h32 : S.length ≤ 32) (ha : allR S = true) : Tr Try.prog 74 [.ro 8 (S.map poA)] ⟨0, []⟩ fun v s => v = .tup [.ptr 0 0, .int .i64 0] ∧ s = dnSt S S.length :=
  (dnew_raw S hS h32).mono fun v s h => by
    rcases h with ⟨_, h1, h2⟩ | ⟨h, _⟩
    · exact ⟨h1, h2⟩
    · rw [ha] at h; cases h
theorem dnewN {S : List Po} (hS : ∀ x ∈ S, 0 ≤ x.a ∧ x.a < 65536) (h32 : S.length ≤ 32) (ha : allR S = false) : Ev Try.prog 74 [.ro 8 (S.map poA)] (.tup [.nilp, .int .i64 260]) :=
  Ev.of rfl ((dnew_raw S hS h32).mono fun v s h => by
    rcases h with ⟨h, _⟩ | ⟨_, h⟩
    · rw [ha] at h; cases h
    · exact ⟨v, s, .refl _ _, h ▸ Le.refl _⟩)
theorem dkNew {S : List Po} {args : List AV} {N : Nat} {M : Mem} {K : AV → St → Prop} (hs : SeeL (St.get ⟨N, M⟩) args [.ro 8 (S.map poA)]) (hS : ∀ x ∈ S, 0 ≤ x.a ∧ x.a < 65536) (h32 : S.length ≤ 32) (ha : allR S = true) (hB : below M N = true)
    (kk : K (.tup [.ptr N 0, .int .i64 0]) ⟨N + 2, (N, some (dMP N S.length 1 .nils)) :: (N + 1, some (dA (S.map newP))) :: M⟩) : Tr Try.prog 74 args ⟨N, M⟩ K := by
  refine Tr.leSt (K := fun v s => v = .tup [.ptr N 0, .int .i64 0] ∧ s = ⟨N + 2, (N, some (dMP N S.length 1 .nils)) :: (N + 1, some (.obj (dRow S S.length))) :: M⟩) (Tr.look (dnewY hS h32 ha) hs fun v s ⟨hv, hs⟩ => ?_) fun v s ⟨hv, hs⟩ => ⟨_, ?_, hv ▸ kk⟩
  · subst hv; subst hs
    refine ⟨rfl, dnSt_own _ _, rfl, ?_⟩
    show (⟨N + 2, (N + 0, some (dMP N S.length 1 .nils)) :: (N + 1, some (Chunk.obj (renL _ (dRow S S.length)))) :: M⟩ : St) = _
    rw [dRow_ren]; rfl
  · subst hs
    refine ⟨rfl, fun h y hg => ?_⟩
    have hg : Mem.get ((N, some (dMP N S.length 1 .nils)) :: (N + 1, some (dA (S.map newP))) :: M) h = some y := hg
    show ∃ c, Mem.get ((N, some (dMP N S.length 1 .nils)) :: (N + 1, some (.obj (dRow S S.length))) :: M) h = some c ∧ LeC c y
    by_cases e0 : N = h
    · subst e0
      rw [get_eq] at hg ⊢
      exact ⟨_, rfl, Option.some.inj hg ▸ LeC.refl _⟩
    rw [get_ne e0] at hg ⊢
    by_cases e1 : N + 1 = h
    · subst e1
      rw [get_eq] at hg ⊢
      exact ⟨_, rfl, Option.some.inj hg ▸ dRow_leC S⟩
    rw [get_ne e1] at hg ⊢
    exact ⟨y, hg, LeC.refl _⟩
section
variable {X X' : List Pl} {next last last' : Int} {d e n c N : Nat} {s : St} {J : Img} {B : Mem} {oc : AV} {K : AV → St → Prop}
theorem dkTickN (hn : X.length = n) (hX : n ≤ 36) (g0 : s.get d = some (dMP d n next .nils)) (g1 : s.get (d + 1) = some (dA X))
    (kk : openS s fun nx m => K (.tup []) ⟨nx, (d, some (dMP d n next .nils)) :: (d + 1, some (dA (X.map Pl.tick))) :: (d, none) :: (d + 1, none) :: m⟩) : Tr Try.prog 87 [.ptr d 0] s K := by
  subst hn; exact dkTick hX g0 g1 kk
theorem dkTakeN {id u : Int} {l : List Int} {b : Bool} (hn : X.length = n) (hX : n ≤ 36) (hq : ∀ x ∈ X, WOk x) (hl : l.length ≤ 30000) (hB : isB l) (eT : takeP id u l X = (b, X')) (hL : X'.length = n) (g0 : s.get d = some (dMP d n next .nils)) (g1 : s.get (d + 1) = some (dA X))
    (kk : openS s fun nx m => K (.bool b) ⟨nx, (d, some (dMP d n next .nils)) :: (d + 1, some (dA X')) :: (d, none) :: (d + 1, none) :: m⟩) : Tr Try.prog 89 [.ptr d 0, .agg [.int .u16 id, .int .u8 u, .roI .u8 l]] s K := by
  subst hn; exact dkTake hX hq hl hB eT hL g0 g1 kk
theorem dkLatchN (hn : X.length = n) (hX : n ≤ 36) (hl : ∀ x ∈ X, LOk x) (h0 : e ≠ d) (h1 : e ≠ d + 1) (g0 : s.get d = some (dMP d n next .nils)) (g1 : s.get (d + 1) = some (dA X)) (g2 : s.get e = some (rmC J))
    (kk : openS s fun nx m => K (.tup []) ⟨nx, (d, some (dMP d n next .nils)) :: (d + 1, some (dA X)) :: (e, some (rmC (latchN J X n))) :: (d, none) :: (d + 1, none) :: (e, none) :: m⟩) : Tr Try.prog 90 [.ptr d 0, .ptr e 0] s K := by
  subst hn; exact dkLatch hX hl h0 h1 g0 g1 g2 kk
theorem dkBeginN {fs : List Fr} (hn : X.length = n) (hX : n ≤ 36) (hb : ∀ x ∈ X, BOk x) (eB : bgN (X.map Pl.older) J last n = (X', last', fs)) (h0 : e ≠ d) (h1 : e ≠ d + 1) (g0 : s.get d = some (dMP d n (IntKind.u16.wrap (last + 1)) .nils)) (g1 : s.get (d + 1) = some (dA X)) (g2 : s.get e = some (rmC J))
    (kk : openS s fun nx m => K (.tup []) ⟨nx + 1, (d, some (dMP d n (IntKind.u16.wrap (last' + 1)) (.sl 3 nx 0 fs.length))) :: (d + 1, some (dA X')) :: (e, some (rmC J)) :: (nx, some (frC fs)) :: (d, none) :: (d + 1, none) :: (e, none) :: m⟩) : Tr Try.prog 85 [.ptr d 0, .ptr e 0] s K := by
  subst hn; exact dkBegin hX hb eB h0 h1 g0 g1 g2 kk
theorem dkWaitsN {k : Nat} {x : Pl} (hn : X.length = n) (hX : n ≤ 36) (hx : X[k]? = some x) (g0 : s.get d = some (dMP d n next .nils)) (g1 : s.get (d + 1) = some (dA X))
    (kk : openS s fun nx m => K (.tup [.int .u16 (if x.w then x.id else 0), .bool x.w]) ⟨nx, (d, some (dMP d n next .nils)) :: (d + 1, some (dA X)) :: (d, none) :: (d + 1, none) :: m⟩) : Tr Try.prog 91 [.ptr d 0, .int .i64 k] s K := by
  subst hn
  obtain ⟨hk, rfl⟩ := List.getElem?_eq_some_iff.mp hx
  exact dkWaits (k := k) hX (by omega) (by omega) g0 g1 kk
theorem pkWaitsN {k : Nat} {x : Pl} (hn : X.length = n) (H : MsAt B c n last oc) (hX : n ≤ 36) (hx : X[k]? = some x) (kk : K (.tup [.int .u16 (if x.w then x.id else 0), .bool x.w]) ⟨N, B ++ famP c 0 X⟩) : Tr Try.prog 82 [.ptr c 0, .int .i64 k] ⟨N, B ++ famP c 0 X⟩ K := by
  subst hn
  obtain ⟨hk, rfl⟩ := List.getElem?_eq_some_iff.mp hx
  exact pkWaits (k := k) H hX (by omega) (by omega) kk
theorem pkStaleK {k : Nat} {x : Pl} (hn : X.length = n) (H : MsAt B c n last oc) (hX : n ≤ 36) (hx : X[k]? = some x) (kk : K (.bool x.st) ⟨N, B ++ famP c 0 X⟩) : Tr Try.prog 80 [.ptr c 0, .int .i64 k] ⟨N, B ++ famP c 0 X⟩ K := by
  subst hn
  obtain ⟨hk, rfl⟩ := List.getElem?_eq_some_iff.mp hx
  exact pkStale (k := k) H hX (by omega) (by omega) kk
theorem pkAgeK {k : Nat} {x : Pl} (hn : X.length = n) (H : MsAt B c n last oc) (hX : n ≤ 36) (hx : X[k]? = some x) (kk : K (.int .i64 x.ag) ⟨N, B ++ famP c 0 X⟩) : Tr Try.prog 79 [.ptr c 0, .int .i64 k] ⟨N, B ++ famP c 0 X⟩ K := by
  subst hn
  obtain ⟨hk, rfl⟩ := List.getElem?_eq_some_iff.mp hx
  exact pkAge (k := k) H hX (by omega) (by omega) kk
theorem pkStaleM {k : Int} (hn : X.length = n) (H : MsAt B c n last oc) (hX : n ≤ 36) (hk : ¬ (0 ≤ k ∧ k < n)) (kk : K (.bool false) ⟨N, B ++ famP c 0 X⟩) : Tr Try.prog 80 [.ptr c 0, .int .i64 k] ⟨N, B ++ famP c 0 X⟩ K := by
  subst hn; exact pkStaleN H hX hk kk
theorem pkAgeM {k : Int} (hn : X.length = n) (H : MsAt B c n last oc) (hX : n ≤ 36) (hk : ¬ (0 ≤ k ∧ k < n)) (kk : K (.int .i64 0) ⟨N, B ++ famP c 0 X⟩) : Tr Try.prog 79 [.ptr c 0, .int .i64 k] ⟨N, B ++ famP c 0 X⟩ K := by
  subst hn; exact pkAgeN H hX hk kk
theorem dA_at {k j off : Nat} {x : Pl} (hx : X[k]? = some x) (hj : j < 25) (ho : off = k * 25 + j) : (dA X).ld false off 1 = (true, (dc x).getD j .undef) := by
  obtain ⟨hk, rfl⟩ := List.getElem?_eq_some_iff.mp hx
  exact dA_ld hk hj ho
theorem frC_all {fs : List Fr} {k off : Nat} {x : Fr} (hx : fs[k]? = some x) (ho : off = k * 3) : (frC fs).ld true off 3 = (true, .agg (frA x)) := by
  obtain ⟨hk, rfl⟩ := List.getElem?_eq_some_iff.mp hx
  unfold frC
  rw [frsA_flats, ho]
  show (Nat.ble (k * 3 + 3) (flatsL frA fs).length, AV.agg (((flatsL frA fs).drop (k * 3)).take 3)) = _
  have hl : (flatsL frA fs).length = fs.length * 3 := flatsL_len (F := frA) (es := 3) (fun _ => rfl) fs
  have ht : (flatsL frA (fs.take k)).length = k * 3 := by rw [flatsL_len (F := frA) (es := 3) (fun _ => rfl), List.length_take, Nat.min_eq_left (by omega)]
  rw [hl, Nat.ble_eq_true_of_le (by omega)]
  congr 2
  conv => lhs; rw [← List.take_append_drop k fs, flatsL_app, ← ht, List.drop_left, List.drop_eq_getElem_cons hk]
  rfl
theorem app_fr {F G : List Fr} : Chunk.obj (List.take (F.length * 3) (List.drop 0 (frsA F)) ++ List.take (G.length * 3) (List.drop 0 (frsA G))) = frC (F ++ G) := by
  unfold frC
  rw [frsA_app, List.drop_zero, List.drop_zero, List.take_of_length_le (by rw [frsA_len]; omega), List.take_of_length_le (by rw [frsA_len]; omega)]
theorem app_frOk {F G : List Fr} (h1 : F.length ≤ 10000) (h2 : G.length ≤ 1000) : (Nat.beq 3 3 && decide (0 + F.length * 3 ≤ (frsA F).length) && (List.take (F.length * 3) (List.drop 0 (frsA F))).all AV.one && (Nat.beq 3 3 && decide (0 + G.length * 3 ≤ (frsA G).length) && (List.take (G.length * 3) (List.drop 0 (frsA G))).all AV.one) && decide ((F.length + G.length) * 32 ≤ 140737488355328) && decide (F.length + G.length ≤ 140737488355328)) = true := by
  have ho : ∀ S : List Fr, (frsA S).all AV.one = true := fun S => by
    induction S with
    | nil => rfl
    | cons x r ih => show ((frA x) ++ frsA r).all AV.one = true; rw [List.all_append, ih]; rfl
  rw [List.drop_zero, List.drop_zero, List.take_of_length_le (by rw [frsA_len]; omega), List.take_of_length_le (by rw [frsA_len]; omega), ho, ho, frsA_len, frsA_len]
  simp
  omega
end
theorem fA21 {v w : AV} (h : v = w) {a1 : Unit → Prop} {a2 : Bool → Prop} {a3 : IntKind → Int → Prop} {a4 : ByteArray → Prop} {a5 : Unit → Prop} {a6 : Unit → Prop} {a7 : Unit → Prop} {a8 : Unit → Prop} {a9 : Unit → Prop} {a10 : Nat → Nat → Prop} {a11 : AV → Prop} {a12 : Nat → Nat → Nat → Nat → Prop} {a13 : IntKind → List Int → Prop} {a14 : List Bool → Prop} {a15 : Nat → List AV → Prop} {a16 : List AV → Prop} {a17 : Nat → (Nat → IntKind) → (Nat → Int) → Prop} {a18 : List AV → Prop} {a19 : Nat → AV → Prop} {a20 : Nat → List AV → Prop} {a21 : Value → Prop} (k : forceA.match_1 (fun _ => Prop) w a1 a2 a3 a4 a5 a6 a7 a8 a9 a10 a11 a12 a13 a14 a15 a16 a17 a18 a19 a20 a21) : forceA.match_1 (fun _ => Prop) v a1 a2 a3 a4 a5 a6 a7 a8 a9 a10 a11 a12 a13 a14 a15 a16 a17 a18 a19 a20 a21 := h ▸ k
end Go.Proofs.Ytomodeliimnddaa
