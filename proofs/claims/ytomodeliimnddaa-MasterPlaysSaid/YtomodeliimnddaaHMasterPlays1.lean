/- A step of a script; how heavy scripts are; what is answered to a frame. Frames that are alike. The document makes no master of too many polls. Statement of layer 26: a master plays just as the document's. From a statement's arguments to the engine's values; a statement's row from a contract. From a statement's arguments to the engine's values: rows of structs, rows of rows, structs. Arguments of a statement: rows of structs, and how long the rows in them may be. Arguments of the statement MasterPlays: polls, steps of a script. -/
import Derived.Test.YtomodeliimnddaaRows
import Derived.WalkKit
import Derived.ProofKit
import Derived.OpenShut
import Derived.ShutString
import Derived.ChangeOld
import Derived.Below
import Derived.Deep.Grids
import Derived.Deep.Slices
import Derived.SizedLaws
import Derived.Test.YtomodeliimnddaaHMasterPlays0
import Derived.Test.YtomodeliimnddaaHMstB
import Derived.Test.YtomodeliimnddaaHEngD
set_option linter.unusedVariables false
set_option linter.unusedSimpArgs false
namespace Go.Proofs.Ytomodeliimnddaa
open Go.Ab
def a84 : ACode := (.seq (.reg [(iO 2 (.mov (.c (.bool false))))])
 (.seq (.reg [(iO 3 (.mov (.c (.int .i64 0))))])
 (.seq (.seq (.reg [(iO 4 (.mov (.c (.int .i64 0))))])
 (.block 0 (.loop (.seq (.seq (.reg [(iM 5 4), (iM 6 0), (iO 7 (.len false (.t 6))), (iO 8 (.bin .lss .other (.t 5) (.t 7))), ⟨(some 9), .mov (.t 8), none, true⟩, (iG 10 (.mov (.t 3)) 9 true), (iG 11 (.bin .leq .other (.t 10) (.c (.int .i64 20000))) 9 true), (iO 12 (.pick (.t 9) (.t 11) (.c (.bool false))))])
 (.cond (.t 12) .skip
 (.exit 0)))
 (.seq (.block 1 (.draw [(zS 0 (iM 15 3)), (zS 1 (iO 16 (.bin .add .other (.t 15) (.c (.int .i64 1))))), (zS 2 (iM 17 0)), (zS 3 (iM 18 4)), (zS 4 (iO 19 (.idx 7 none true (.t 17) (.t 18)))), (zS 5 (iF 20 3 19)), (zS 6 (iL 21 20)), (zS 7 (iO 22 (.len false (.t 21)))), (zS 8 (iO 23 (.bin .add .other (.t 16) (.t 22)))), (zS 9 (iM 24 0)), (zS 10 (iM 25 4)), (zS 11 (iO 26 (.idx 7 none true (.t 24) (.t 25)))), (zS 12 (iF 27 4 26)), (zS 13 (iL 28 27)), (zS 14 (iO 29 (.len false (.t 28)))), (zS 15 (iO 30 (.bin .add .other (.t 23) (.t 29)))), (zS 16 (iM 31 0)), (zS 17 (iM 32 4)), (zS 18 (iO 33 (.idx 7 none true (.t 31) (.t 32)))), (zS 19 (iF 34 5 33)), (zS 20 (iL 35 34)), (zS 21 (iO 36 (.len false (.t 35)))), (zS 22 (iO 37 (.bin .add .other (.t 30) (.t 36)))), (zS 23 (iM 3 37))]))
 (.reg [(iM 13 4), (iO 14 (.bin .add .other (.t 13) (.c (.int .i64 1)))), (iM 4 14)]))))))
 (.seq (.reg [(iM 38 0), (iO 39 (.len false (.t 38))), (iO 40 (.bin .leq .other (.t 39) (.c (.int .i64 200)))), ⟨(some 41), .mov (.t 40), none, true⟩, (iG 42 (.mov (.t 3)) 41 true), (iG 43 (.bin .leq .other (.t 42) (.c (.int .i64 20000))) 41 true), (iO 44 (.pick (.t 41) (.t 43) (.c (.bool false)))), (iM 2 44)])
 .ret))))
def r84 : List ARes := [.t 2]
theorem c84 : compF Try.prog Try.f84 = some (a84, r84) := by kernel_rfl
theorem b84 : hasBody Try.prog 84 = true := by kernel_rfl
theorem g84 : Try.prog.funcs[84]? = some Try.f84 := by kernel_rfl
def a88 : ACode := (.seq (.reg [(iO 2 (.box (.t 0))), (iO 3 (.box (.t 1))), (iO 4 (.alloc [(1, (.int .u16 0)), (1, (.int .u8 0)), (1, .nils)]))])
 (.seq (.reg [(iF 12 2 2), (iL 13 12), (iO 14 (.call 54 [(.t 13)])), (iM 11 14), (iO 15 (.ext (.t 11) 0)), (iO 16 (.ext (.t 11) 1)), (iO 5 (.alloc [(1, (.int .u8 0)), (3, (.int .u16 0)), (2, .nils)])), ⟨none, .store 6 (.t 5) (.t 15), none, false⟩, (iM 6 16)])
 (.seq (.seq (.reg [(iM 17 6), (iO 18 (.bin .neq .other (.t 17) (.c (.int .i64 0))))])
 (.cond (.t 18) (.seq (.reg [(iO 19 (.load true 3 (.t 2))), ⟨none, .store 3 (.t 4) (.t 19), none, false⟩])
 .ret)
 .skip))
 (.seq (.reg [(iF 20 0 5), (iL 21 20), (iO 22 (.build [(.int .u8 0), (.int .u8 0), (.int .u16 0), (.int .u16 0), .nils, .nils] [(0, 1, (.t 21))])), (iO 7 (.alloc [(2, (.int .u8 0)), (2, (.int .u16 0)), (2, .nils)])), ⟨none, .store 6 (.t 7) (.t 22), none, false⟩])
 (.seq (.block 0 (.seq (.reg [(iF 36 2 3), (iL 37 36), (iO 38 (.bin .eql .other (.t 37) (.c (.int .i64 4)))), (iM 35 38)])
 (.cond (.t 35) (.reg [(iF 39 1 7), ⟨none, .store 1 (.t 39) (.c (.int .u8 2)), none, false⟩])
 (.seq (.reg [(iF 41 0 5), (iL 42 41), (iO 43 (.bin .leq .other (.t 42) (.c (.int .u8 2)))), (iM 40 43)])
 (.cond (.t 40) (.draw [(zS 0 (iF 44 4 3)), (zS 1 (iL 45 44)), (zS 3 (iF 47 2 5)), (zS 4 (iL 48 47)), (zS 6 (iF 50 2 5)), (zS 7 (iL 51 50)), ⟨2, (iO 46 (.app 1 1 (.c .nils) (.t 45))), true, [], [(.t 47), (.t 50)]⟩, ⟨5, (iO 49 (.appz 1 1 .bool [(.bool false)] (.t 46) (.t 48))), true, [], [(.t 50)]⟩, (zS 8 (iO 52 (.slice (.sl 1) (.t 49) none (some (.t 51))))), (zS 9 (iF 53 4 7)), ⟨10, ⟨none, .store 1 (.t 53) (.t 52), none, false⟩, true, [], []⟩])
 (.seq (.reg [(iF 55 0 5), (iL 56 55), (iO 57 (.bin .leq .other (.t 56) (.c (.int .u8 4)))), (iM 54 57)])
 (.cond (.t 54) (.draw [(zS 0 (iF 58 3 3)), (zS 1 (iL 59 58)), (zS 3 (iF 61 2 5)), (zS 4 (iL 62 61)), (zS 6 (iF 64 2 5)), (zS 7 (iL 65 64)), ⟨2, (iO 60 (.app 1 2 (.c .nils) (.t 59))), true, [], [(.t 61), (.t 64)]⟩, ⟨5, (iO 63 (.appz 1 2 (.int .u16) [(.int .u16 0)] (.t 60) (.t 62))), true, [], [(.t 64)]⟩, (zS 8 (iO 66 (.slice (.sl 1) (.t 63) none (some (.t 65))))), (zS 9 (iF 67 5 7)), ⟨10, ⟨none, .store 1 (.t 67) (.t 66), none, false⟩, true, [], []⟩])
 (.draw [(zS 0 (iF 23 1 5)), (zS 1 (iL 24 23)), (zS 2 (iF 25 4 5)), (zS 3 (iL 26 25)), (zS 4 (iO 27 (.len false (.t 26)))), (zS 5 (iF 28 5 5)), (zS 6 (iL 29 28)), (zS 7 (iO 30 (.len false (.t 29)))), (zS 8 (iO 31 (.bin .add .other (.t 27) (.t 30)))), (zS 9 (iO 32 (.conv (.int .u16) (.t 31)))), (zS 10 (iF 33 2 7)), ⟨11, ⟨none, .store 1 (.t 33) (.t 24), none, false⟩, true, [], [(.t 25), (.t 28)]⟩, (zS 12 (iF 34 3 7)), ⟨13, ⟨none, .store 1 (.t 34) (.t 32), none, false⟩, true, [], []⟩]))))))))
 (.seq (.reg [(iO 69 (.load true 6 (.t 7))), (iO 70 (.call 57 [(.t 69)])), (iM 68 70), (iO 71 (.ext (.t 68) 0)), (iO 72 (.ext (.t 68) 1)), (iM 8 71), (iM 9 72)])
 (.seq (.reg [(iF 73 0 2), (iL 74 73), (iF 75 1 2), (iL 76 75), (iM 77 8), (iO 78 (.build [(.int .u16 0), (.int .u8 0), .nils] [(0, 1, (.t 74)), (1, 1, (.t 76)), (2, 1, (.t 77))])), (iO 10 (.alloc [(1, (.int .u16 0)), (1, (.int .u8 0)), (1, .nils)])), ⟨none, .store 3 (.t 10) (.t 78), none, false⟩])
 (.seq (.seq (.reg [(iF 79 2 3), (iL 80 79)])
 (.block 1 (.seq (.reg [(iO 82 (.bin .eql .other (.t 80) (.c (.int .i64 1)))), (iM 81 82)])
 (.cond (.t 81) (.reg [(iF 83 0 10), (iL 84 83), (iO 85 (.bin .add .other (.t 84) (.c (.int .u16 1)))), (iF 86 0 10), ⟨none, .store 1 (.t 86) (.t 85), none, false⟩])
 (.seq (.reg [(iO 88 (.bin .eql .other (.t 80) (.c (.int .i64 2)))), (iM 87 88)])
 (.cond (.t 87) (.reg [(iF 89 1 10), (iL 90 89), (iO 91 (.bin .add .other (.t 90) (.c (.int .u8 1)))), (iF 92 1 10), ⟨none, .store 1 (.t 92) (.t 91), none, false⟩])
 (.seq (.reg [(iO 94 (.bin .eql .other (.t 80) (.c (.int .i64 3)))), (iM 93 94)])
 (.cond (.t 93) (.reg [(iM 95 8), (iO 96 (.bslice 1 (.int .u8) [(.int .u8 0)] [(0, 1, (.c (.int .u8 0)))] 1)), (iO 97 (.app 1 1 (.t 95) (.t 96))), (iF 98 2 10), ⟨none, .store 1 (.t 98) (.t 97), none, false⟩])
 .skip))))))))
 (.seq (.reg [(iO 99 (.load true 3 (.t 10))), ⟨none, .store 3 (.t 4) (.t 99), none, false⟩])
 .ret)))))))))
def r88 : List ARes := [.cell 4 true 3]
theorem c88 : compF Try.prog Try.f88 = some (a88, r88) := by kernel_rfl
theorem b88 : hasBody Try.prog 88 = true := by kernel_rfl
theorem g88 : Try.prog.funcs[88]? = some Try.f88 := by kernel_rfl
structure Stp where
  wh : Int
  nn : Int
  hw : Int
  r : List Int
  b : List Bool
  y : List Int
  v : Int
def stL (x : Stp) : List AV := [.int .i64 x.wh, .int .i64 x.nn, .int .i64 x.hw, .roI .u16 x.r, .roB x.b, .roI .u8 x.y, .int .u16 x.v]
def stA (x : Stp) : AV := .agg (stL x)
def heavy (x : Stp) : Int := 1 + x.r.length + x.b.length + x.y.length
def lightN : List Stp → Int → Int
  | [], n => n
  | x :: r, n => if n ≤ 20000 then lightN r (n + heavy x) else n
def lightB (S : List Stp) : Bool := decide (S.length ≤ 200) && decide (lightN S 0 ≤ 20000)
theorem heavy_pos (x : Stp) : 1 ≤ heavy x := by unfold heavy; omega
theorem lightN_le : ∀ (S : List Stp) (n : Int), 0 ≤ n → lightN S n ≤ 20000 → n ≤ 20000 ∧ ∀ x ∈ S, x.r.length ≤ 20000 ∧ x.b.length ≤ 20000 ∧ x.y.length ≤ 20000
  | [], n, _, h => ⟨h, fun x hx => by cases hx⟩
  | x :: r, n, h0, h => by
    rw [lightN] at h
    split at h
    · rename_i hn
      have hp := heavy_pos x
      obtain ⟨h1, h2⟩ := lightN_le r (n + heavy x) (by omega) h
      refine ⟨hn, fun z hz => ?_⟩
      rcases List.mem_cons.mp hz with e | hz
      · subst e
        unfold heavy at h1
        omega
      · exact h2 z hz
    · rename_i hn; exact absurd h hn
theorem lightB_yes {S : List Stp} (h : lightB S = true) : S.length ≤ 200 ∧ ∀ x ∈ S, x.r.length ≤ 20000 ∧ x.b.length ≤ 20000 ∧ x.y.length ≤ 20000 := by
  unfold lightB at h
  simp only [Bool.and_eq_true, decide_eq_true_eq] at h
  exact ⟨h.1, (lightN_le S 0 (Int.le_refl _) h.2).2⟩
theorem lightN_over {S : List Stp} {n : Int} (h : ¬ n ≤ 20000) : lightN S n = n := by
  cases S with
  | nil => rfl
  | cons x r => rw [lightN, if_neg h]
theorem w64b {n : Int} (h0 : -9000000000000000000 ≤ n) (h1 : n ≤ 9000000000000000000) : IntKind.i64.wrap n = n := IntWalk.i64_in n (by omega)
structure LgI (S : List Stp) (i : Nat) (n : Int) : Prop where
  hi : i ≤ S.length
  h0 : 0 ≤ n
  hn : n ≤ 1000000000000000
  he : lightN (S.drop i) n = lightN S 0
  hs : i ≤ 20001
  hin : n ≤ 20000 → (i : Int) ≤ n
set_option maxRecDepth 20000 in
theorem light26_ev (S : List Stp) (hL : ∀ x ∈ S, x.r.length ≤ 140737488355328 ∧ x.b.length ≤ 140737488355328 ∧ x.y.length ≤ 140737488355328) : Ev Try.prog 84 [.ro 7 (S.map stA)] (.bool (lightB S)) := by
  have hlen : (S.map stA).length = S.length := List.length_map _
  refine FrzK.ev rfl (trF g84 b84 c84 ?_)
  conv => whnf
  refine loopI (α := {a : Nat × Int // LgI S a.1 a.2}) (fun a => [(0, .ro 7 (S.map stA)), (3, .int .i64 a.1.2), (4, .int .i64 a.1.1)]) (fun a => ⟨0, []⟩) (fun a => S.length - a.1.1) ⟨(0, 0), Nat.zero_le _, Int.le_refl _, by show (0 : Int) ≤ _; omega, rfl, by show 0 ≤ 20001; omega, fun _ => Int.le_refl _⟩ ⟨[], rfl, rfl, rfl, ⟨⟨rfl, rfl⟩, ⟨rfl, rfl⟩, ⟨rfl, rfl⟩, trivial⟩, trivial⟩ fun ⟨⟨i, n⟩, hi, h0, hn, he, hs, hin⟩ => ?_
  have hi : i ≤ S.length := hi
  have h0 : 0 ≤ n := h0
  have hn : n ≤ 1000000000000000 := hn
  have he : lightN (S.drop i) n = lightN S 0 := he
  have hin : n ≤ 20000 → (i : Int) ≤ n := hin
  conv => whnf
  refine condF (fun hlt => ?_) (fun hlt => ?_)
  · have hlt : ¬ i < S.length := by simpa using hlt
    obtain rfl : i = S.length := by omega
    have hN : lightN S 0 = n := by rw [← he, List.drop_length]; rfl
    conv => whnf
    refine condF (fun h2 => ?_) (fun h2 => ?_)
    · conv => whnf
      refine FrzK.le (leBool ?_)
      unfold lightB
      rw [show decide (S.length ≤ 200) = false by simp at h2 ⊢; omega]; rfl
    · conv => whnf
      refine FrzK.le (leBool ?_)
      unfold lightB
      rw [show decide (S.length ≤ 200) = true by simp at h2 ⊢; omega, hN]; rfl
  · have hlt : i < S.length := by simpa using hlt
    obtain ⟨x, hx, hxe⟩ := map_getD (f := stA) hlt
    have hxi : S[i] = x ∨ True := .inr trivial
    conv => whnf
    refine condF (fun hc => ?_) (fun hc => ?_)
    · have hc : ¬ n ≤ 20000 := by simpa using hc
      have hN : lightN S 0 = n := by rw [← he, lightN_over hc]
      conv => whnf
      refine condF (fun h2 => ?_) (fun h2 => ?_)
      · conv => whnf
        refine FrzK.le (leBool ?_)
        unfold lightB
        rw [show decide (S.length ≤ 200) = false by simp at h2 ⊢; omega]; rfl
      · conv => whnf
        refine FrzK.le (leBool ?_)
        unfold lightB
        rw [show decide (S.length ≤ 200) = true by simp at h2 ⊢; omega, hN]; rfl
    · have hc : n ≤ 20000 := by simpa using hc
      have hxg : S[i] = ⟨S[i].wh, S[i].nn, S[i].hw, S[i].r, S[i].b, S[i].y, S[i].v⟩ := rfl
      have hxe : (S.map stA).getD (Int.toNat (i : Int)) .undef = stA S[i] := by simp [List.getD_eq_getElem?_getD, hlt]
      have hb := hL S[i] (List.getElem_mem hlt)
      have hd : lightN (S.drop i) n = lightN (S.drop (i + 1)) (n + heavy S[i]) := by
        rw [List.drop_eq_getElem_cons hlt, lightN, if_pos hc]
      rw [hd] at he
      generalize S[i] = z at *
      conv => whnf
      refine condT (by simp; omega) ?_
      rw [hxe]
      conv => whnf
      refine condT (by simp; omega) ?_
      rw [hxe]
      conv => whnf
      refine condT (by simp; omega) ?_
      rw [hxe]
      conv => whnf
      have e3 : IntKind.i64.wrap (IntKind.i64.wrap (IntKind.i64.wrap (IntKind.i64.wrap (n + 1) + z.r.length) + z.b.length) + z.y.length) = n + heavy z := by
        unfold heavy
        rw [w64b (n := n + 1) (by omega) (by omega), w64b (n := n + 1 + (z.r.length : Int)) (by omega) (by omega), w64b (n := n + 1 + (z.r.length : Int) + z.b.length) (by omega) (by omega), w64b (by omega) (by omega)]
        omega
      have hp := heavy_pos z
      have hh : heavy z ≤ 500000000000000 := by unfold heavy; omega
      have := hin hc
      refine ⟨⟨(i + 1, n + heavy z), hlt, by show 0 ≤ n + heavy z; omega, by show n + heavy z ≤ 1000000000000000; omega, he, by show i + 1 ≤ 20001; omega, fun h => by show ((i + 1 : Nat) : Int) ≤ n + heavy z; omega⟩, ⟨[], rfl, rfl, rfl, ⟨⟨rfl, rfl⟩, ⟨?_, rfl⟩, ⟨?_, rfl⟩, trivial⟩, trivial⟩, by show S.length - (i + 1) < S.length - i; omega⟩
      · show AV.int .i64 _ = AV.int .i64 (n + heavy z)
        rw [← e3]
      · show AV.int .i64 (IntKind.i64.wrap ((i : Int) + 1)) = AV.int .i64 ((i + 1 : Nat) : Int)
        rw [w64b (by omega) (by omega)]; rfl
def ansB (q : Rq) (x : Stp) : List Int :=
  if x.hw = 4 then repB q.f 2 0 0 [] []
  else if q.f ≤ 2 then repB q.f 0 0 0 ((x.b ++ List.replicate q.n.toNat false).take q.n.toNat) []
  else if q.f ≤ 4 then repB q.f 0 0 0 [] ((x.r ++ List.replicate q.n.toNat 0).take q.n.toNat)
  else repB q.f 0 q.a (IntKind.u16.wrap (IntKind.i64.wrap (q.b.length + q.r.length))) [] []
def ansF (f : Fr) (x : Stp) (b : List Int) : Fr :=
  if x.hw = 1 then ⟨IntKind.u16.wrap (f.id + 1), f.u, b⟩
  else if x.hw = 2 then ⟨f.id, IntKind.u8.wrap (f.u + 1), b⟩
  else if x.hw = 3 then ⟨f.id, f.u, b ++ [0]⟩
  else ⟨f.id, f.u, b⟩
def ansS (f : Fr) (x : Stp) : Fr := if (decR f.l).2 = 0 then ansF f x (ansB (decR f.l).1 x) else f
theorem ok_n {f n a2 : Int} {b : List Bool} {r : List Int} (h : encOk f n a2 b r = true) : (0 ≤ f ∧ f < 256) ∧ 0 ≤ n ∧ n ≤ 2000 := by
  unfold encOk at h
  have hw : ∀ m, withinB n m = true → 1 ≤ n ∧ n ≤ m := fun m h => by
    unfold withinB at h
    simpa using h
  repeat' (split at h)
  all_goals (first | (exact absurd h (by decide)) | skip)
  all_goals (rename_i hf; have hf := eq_of_beq hf; subst hf; simp only [Bool.and_eq_true, beq_iff_eq] at h)
  all_goals (refine ⟨by decide, ?_⟩)
  all_goals first
    | (obtain ⟨⟨⟨h, _⟩, _⟩, _⟩ := h; have := hw _ h; omega)
    | (obtain ⟨⟨⟨h, _⟩, _⟩, _⟩ := h; omega)
    | (obtain ⟨⟨h, _⟩, _⟩ := h; have := hw _ h; omega)
    | (obtain ⟨⟨h, _⟩, _⟩ := h; omega)
    | (obtain ⟨h, _⟩ := h; have := hw _ h; omega)
    | (obtain ⟨h, _⟩ := h; omega)
theorem dec_ok (l : List Int) : (0 ≤ (decR l).1.f ∧ (decR l).1.f < 256) ∧ 0 ≤ (decR l).1.n ∧ (decR l).1.n ≤ 2000 := by
  have hz : (0 ≤ Rq.zero.f ∧ Rq.zero.f < 256) ∧ 0 ≤ Rq.zero.n ∧ Rq.zero.n ≤ 2000 := by decide
  unfold decR decT
  split
  · exact hz
  · rename_i q sp _
    split
    · rename_i h
      simp only [Bool.and_eq_true, beq_iff_eq] at h
      refine ok_n (a2 := q.a2) (b := q.b) (r := q.r) ?_
      have h1 := h.1.1
      unfold encE at h1
      split at h1
      · rename_i h; exact h
      · exact absurd h1 (by decide)
    · exact hz
theorem ans_isB (q : Rq) (x : Stp) (h : 0 ≤ q.f ∧ q.f < 256) : isB (ansB q x) ∧ (ansB q x).length ≤ 253 := by
  unfold ansB
  split
  · exact ⟨rep_byte _ _ _ _ _ _ h.1 h.2 (by decide) (by decide), repB_len _ _ _ _ _ _⟩
  split
  · exact ⟨rep_byte _ _ _ _ _ _ h.1 h.2 (by decide) (by decide), repB_len _ _ _ _ _ _⟩
  split
  · exact ⟨rep_byte _ _ _ _ _ _ h.1 h.2 (by decide) (by decide), repB_len _ _ _ _ _ _⟩
  · exact ⟨rep_byte _ _ _ _ _ _ h.1 h.2 (by decide) (by decide), repB_len _ _ _ _ _ _⟩
theorem ans_fok (f : Fr) (x : Stp) (h : FOk f) : FOk (ansS f x) := by
  unfold ansS
  split
  · obtain ⟨h1, h2⟩ := ans_isB (decR f.l).1 x (dec_ok f.l).1
    unfold ansF
    split
    · exact ⟨h1, Nat.le_trans h2 (by decide)⟩
    split
    · exact ⟨h1, Nat.le_trans h2 (by decide)⟩
    split
    · refine ⟨h1.app fun y hy => ?_, ?_⟩
      · rw [List.mem_singleton] at hy; subst hy; decide
      · show (_ ++ [(0 : Int)]).length ≤ 1000
        rw [List.length_append]
        show _ + 1 ≤ 1000
        omega
    · exact ⟨h1, Nat.le_trans h2 (by decide)⟩
  · exact h
theorem leRepM {f a n a2 : Int} {B R : AV} {b : List Bool} {r : List Int} (hb : Le B (.roB b)) (hr : Le R (.roI .u16 r)) : LeL [repA f a n a2 B R] [repA f a n a2 (.roB b) (.roI .u16 r)] :=
  ⟨Le.agg ⟨Le.refl _, Le.refl _, Le.refl _, Le.refl _, hb, hr, trivial⟩, trivial⟩
theorem rReply_ret (f x a n : Int) (b : List Bool) (r : List Int) (hn0 : 0 ≤ n) (hn1 : n < 65536) (hb : b.length ≤ 2500) (hr : r.length ≤ 16000) : Tr Try.prog 57 [repA f x a n (.roB b) (.roI .u16 r)] ⟨0, []⟩ (Ret1 (repB f x a n b r) [.int .i64 (repE f x a n b r)]) :=
  Ret1.of rfl ((rReply_raw f x a n b r hn0 hn1 hb hr).mono fun v s h => by unfold RawK at h; exact h)
theorem rReply_call {f x a n : Int} {B R : AV} {b : List Bool} {r : List Int} {s : St} {K : AV → St → Prop} (hB : Le B (.roB b)) (hR : Le R (.roI .u16 r)) (hn0 : 0 ≤ n) (hn1 : n < 65536) (hb : b.length ≤ 2500) (hr : r.length ≤ 16000)
    (k : openS s fun nx m => K (.tup [.sl 1 nx 0 (repB f x a n b r).length, .int .i64 (repE f x a n b r)]) ⟨nx + 1, (nx, some (.rowI .u8 (repB f x a n b r))) :: m⟩) : Tr Try.prog 57 [repA f x a n B R] s K :=
  Tr.le (leRepM hB hR) (Ret1.call (rReply_ret f x a n b r hn0 hn1 hb hr) rfl rfl k)
theorem rReply_frB {f : Int} {h m len : Nat} {L : List Bool} {s : St} {K : AV → St → Prop} (hg : s.get h = some (.rowB L)) (hl : len ≤ L.length) (hL : len ≤ 2500)
    (k : openS s fun nx t => K (.tup [.sl 1 nx 0 (repB f 0 0 0 (L.take len) []).length, .int .i64 (repE f 0 0 0 (L.take len) [])]) ⟨nx + 1, (nx, some (.rowI .u8 (repB f 0 0 0 (L.take len) []))) :: (h, none) :: t⟩) : Tr Try.prog 57 [repA f 0 0 0 (.sl 1 h 0 len) .nils] s K := by
  refine Tr.lend h hg ?_
  have hble : Nat.ble (0 + len) L.length = true := Nat.ble_eq_true_of_le (by omega)
  have : frzL h (.rowB L) [repA f 0 0 0 (.sl 1 h 0 len) .nils] = [repA f 0 0 0 (.roB (L.take len)) .nils] := by
    simp only [frzL, repA, AV.frz, beq_self, cond_true, frzS, hble, Bool.and_self, List.drop_zero, Bool.true_and]
  rw [this]
  refine rReply_call (Le.refl _) (Le.nilI _) (by decide) (by decide) (by rw [List.length_take]; omega) (by decide) ?_
  rw [openS_eq] at k ⊢
  exact k
theorem rReply_frI {f : Int} {h m len : Nat} {L : List Int} {s : St} {K : AV → St → Prop} (hg : s.get h = some (.rowI .u16 L)) (hl : len ≤ L.length) (hL : len ≤ 2500)
    (k : openS s fun nx t => K (.tup [.sl 1 nx 0 (repB f 0 0 0 [] (L.take len)).length, .int .i64 (repE f 0 0 0 [] (L.take len))]) ⟨nx + 1, (nx, some (.rowI .u8 (repB f 0 0 0 [] (L.take len)))) :: (h, none) :: t⟩) : Tr Try.prog 57 [repA f 0 0 0 .nils (.sl 1 h 0 len)] s K := by
  refine Tr.lend h hg ?_
  have hble : Nat.ble (0 + len) L.length = true := Nat.ble_eq_true_of_le (by omega)
  have : frzL h (.rowI .u16 L) [repA f 0 0 0 .nils (.sl 1 h 0 len)] = [repA f 0 0 0 .nils (.roI .u16 (L.take len))] := by
    simp only [frzL, repA, AV.frz, beq_self, cond_true, frzS, hble, Bool.and_self, List.drop_zero, Bool.true_and]
  rw [this]
  refine rReply_call Le.nilB (Le.refl _) (by decide) (by decide) (by decide) (by rw [List.length_take]; omega) ?_
  rw [openS_eq] at k ⊢
  exact k
theorem fr_fin {id u : Int} {H len : Nat} {row : List Int} {s : St} {v : AV} (hg : s.get H = some (.rowI .u8 row)) (hl : len = row.length) (hv : v = .agg (frA ⟨id, u, row⟩)) : FrzK v (.agg [.int .u16 id, .int .u8 u, .sl 1 H 0 len]) s := by
  refine FrzK.step H hg (FrzK.le ?_)
  rw [hv]
  show Le (AV.agg [.int .u16 id, .int .u8 u, (AV.sl 1 H 0 len).frz H (.rowI .u8 row)]) _
  rw [frz_row H .u8 row len hl]
  exact Le.refl _
theorem ansF_1 {f : Fr} {x : Stp} {b : List Int} (h : x.hw = 1) : ansF f x b = ⟨IntKind.u16.wrap (f.id + 1), f.u, b⟩ := by unfold ansF; rw [if_pos h]
theorem ansF_2 {f : Fr} {x : Stp} {b : List Int} (h : x.hw = 2) : ansF f x b = ⟨f.id, IntKind.u8.wrap (f.u + 1), b⟩ := by unfold ansF; rw [if_neg (by omega), if_pos h]
theorem ansF_3 {f : Fr} {x : Stp} {b : List Int} (h : x.hw = 3) : ansF f x b = ⟨f.id, f.u, b ++ [0]⟩ := by unfold ansF; rw [if_neg (by omega), if_neg (by omega), if_pos h]
theorem ansF_0 {f : Fr} {x : Stp} {b : List Int} (h1 : ¬ x.hw = 1) (h2 : ¬ x.hw = 2) (h3 : ¬ x.hw = 3) : ansF f x b = ⟨f.id, f.u, b⟩ := by unfold ansF; rw [if_neg h1, if_neg h2, if_neg h3]
set_option maxRecDepth 20000 in
theorem answer_ev (f : Fr) (x : Stp) (hf : f.l.length ≤ 1000) (hb : x.b.length ≤ 20000) (hr : x.r.length ≤ 20000) : Ev Try.prog 88 [.agg (frA f), stA x] (.agg (frA (ansS f x))) := by
  refine FrzK.ev rfl (trF g88 b88 c88 ?_)
  conv => whnf
  refine Ev.call (rOpen_ev f.l hf) ?_
  have hok := dec_ok f.l
  have hans : ansS f x = if (decR f.l).2 = 0 then ansF f x (ansB (decR f.l).1 x) else f := rfl
  generalize (decR f.l).1 = q at *
  generalize (decR f.l).2 = e at *
  rw [hans]
  obtain ⟨⟨f0, f1⟩, n0, n1⟩ := hok
  conv => whnf
  refine condF (fun he => ?_) (fun he => ?_)
  rotate_left
  · have he : ¬ e = 0 := by simpa using he
    conv => whnf
    rw [if_neg he]
    exact FrzK.le (Le.refl _)
  have he : e = 0 := by simpa using he
  conv => whnf
  refine condF (fun h4 => ?_) (fun h4 => ?_)
  rotate_left
  · have h4 : x.hw = 4 := by simpa using h4
    have eB : ansB q x = repB q.f 2 0 0 [] [] := by unfold ansB; rw [if_pos h4]
    conv => whnf
    refine rReply_call Le.nilB (Le.nilI _) (by decide) (by decide) (by decide) (by decide) ?_
    have hlen := repB_len q.f 2 0 0 [] []
    generalize repB q.f 2 0 0 [] [] = B at *
    conv => whnf
    refine condF (fun h1 => ?_) (fun h1 => ?_)
    · have h1 : ¬ x.hw = 1 := by simpa using h1
      conv => whnf
      refine condF (fun h2 => ?_) (fun h2 => ?_)
      · have h2 : ¬ x.hw = 2 := by simpa using h2
        conv => whnf
        refine condF (fun h3 => ?_) (fun h3 => ?_)
        · have h3 : ¬ x.hw = 3 := by simpa using h3
          conv => whnf
          exact fr_fin rfl rfl (by rw [if_pos he, ansF_0 h1 h2 h3, eB])
        · have h3 : x.hw = 3 := by simpa using h3
          conv => whnf
          refine condT (by simp; have := repB_len; omega) ?_
          conv => whnf
          exact fr_fin rfl (by simp) (by rw [if_pos he, ansF_3 h3, eB]; simp)
      · have h2 : x.hw = 2 := by simpa using h2
        conv => whnf
        exact fr_fin rfl rfl (by rw [if_pos he, ansF_2 h2, eB])
    · have h1 : x.hw = 1 := by simpa using h1
      conv => whnf
      exact fr_fin rfl rfl (by rw [if_pos he, ansF_1 h1, eB])
  have h4 : ¬ x.hw = 4 := by simpa using h4
  conv => whnf
  refine condF (fun hf2 => ?_) (fun hf2 => ?_)
  rotate_left
  · have hf2 : q.f ≤ 2 := by simpa using hf2
    have eB : ansB q x = repB q.f 0 0 0 ((x.b ++ List.replicate q.n.toNat false).take q.n.toNat) [] := by unfold ansB; rw [if_neg h4, if_pos hf2]
    conv => whnf
    repeat' (first
      | (refine condT (by simp; omega) ?_; conv => whnf)
      | (refine ⟨rfl, ?_⟩; conv => whnf)
      | fail)
    refine rReply_frB (m := 0) (len := q.n.toNat) rfl (by simp) (by omega) ?_
    rw [show List.take x.b.length (List.drop 0 x.b) ++ List.replicate q.n.toNat false = x.b ++ List.replicate q.n.toNat false by simp]
    have hlen := repB_len q.f 0 0 0 ((x.b ++ List.replicate q.n.toNat false).take q.n.toNat) []
    generalize repB q.f 0 0 0 ((x.b ++ List.replicate q.n.toNat false).take q.n.toNat) [] = B at *
    conv => whnf
    refine condF (fun h1 => ?_) (fun h1 => ?_)
    · have h1 : ¬ x.hw = 1 := by simpa using h1
      conv => whnf
      refine condF (fun h2 => ?_) (fun h2 => ?_)
      · have h2 : ¬ x.hw = 2 := by simpa using h2
        conv => whnf
        refine condF (fun h3 => ?_) (fun h3 => ?_)
        · have h3 : ¬ x.hw = 3 := by simpa using h3
          conv => whnf
          exact fr_fin rfl rfl (by rw [if_pos he, ansF_0 h1 h2 h3, eB])
        · have h3 : x.hw = 3 := by simpa using h3
          conv => whnf
          refine condT (by simp; have := repB_len; omega) ?_
          conv => whnf
          exact fr_fin rfl (by simp) (by rw [if_pos he, ansF_3 h3, eB]; simp)
      · have h2 : x.hw = 2 := by simpa using h2
        conv => whnf
        exact fr_fin rfl rfl (by rw [if_pos he, ansF_2 h2, eB])
    · have h1 : x.hw = 1 := by simpa using h1
      conv => whnf
      exact fr_fin rfl rfl (by rw [if_pos he, ansF_1 h1, eB])
  have hf2 : ¬ q.f ≤ 2 := by simpa using hf2
  conv => whnf
  refine condF (fun hf4 => ?_) (fun hf4 => ?_)
  rotate_left
  · have hf4 : q.f ≤ 4 := by simpa using hf4
    have eB : ansB q x = repB q.f 0 0 0 [] ((x.r ++ List.replicate q.n.toNat 0).take q.n.toNat) := by unfold ansB; rw [if_neg h4, if_neg hf2, if_pos hf4]
    conv => whnf
    repeat' (first
      | (refine condT (by simp; omega) ?_; conv => whnf)
      | (refine ⟨rfl, ?_⟩; conv => whnf)
      | fail)
    refine rReply_frI (m := 0) (len := q.n.toNat) rfl (by simp) (by omega) ?_
    rw [show List.take x.r.length (List.drop 0 x.r) ++ List.replicate q.n.toNat 0 = x.r ++ List.replicate q.n.toNat 0 by simp]
    have hlen := repB_len q.f 0 0 0 [] ((x.r ++ List.replicate q.n.toNat 0).take q.n.toNat)
    generalize repB q.f 0 0 0 [] ((x.r ++ List.replicate q.n.toNat 0).take q.n.toNat) = B at *
    conv => whnf
    refine condF (fun h1 => ?_) (fun h1 => ?_)
    · have h1 : ¬ x.hw = 1 := by simpa using h1
      conv => whnf
      refine condF (fun h2 => ?_) (fun h2 => ?_)
      · have h2 : ¬ x.hw = 2 := by simpa using h2
        conv => whnf
        refine condF (fun h3 => ?_) (fun h3 => ?_)
        · have h3 : ¬ x.hw = 3 := by simpa using h3
          conv => whnf
          exact fr_fin rfl rfl (by rw [if_pos he, ansF_0 h1 h2 h3, eB])
        · have h3 : x.hw = 3 := by simpa using h3
          conv => whnf
          refine condT (by simp; have := repB_len; omega) ?_
          conv => whnf
          exact fr_fin rfl (by simp) (by rw [if_pos he, ansF_3 h3, eB]; simp)
      · have h2 : x.hw = 2 := by simpa using h2
        conv => whnf
        exact fr_fin rfl rfl (by rw [if_pos he, ansF_2 h2, eB])
    · have h1 : x.hw = 1 := by simpa using h1
      conv => whnf
      exact fr_fin rfl rfl (by rw [if_pos he, ansF_1 h1, eB])
  have hf4 : ¬ q.f ≤ 4 := by simpa using hf4
  have eB : ansB q x = repB q.f 0 q.a (IntKind.u16.wrap (IntKind.i64.wrap (q.b.length + q.r.length))) [] [] := by unfold ansB; rw [if_neg h4, if_neg hf2, if_neg hf4]
  conv => whnf
  repeat' (first
    | (refine ⟨rfl, ?_⟩; conv => whnf)
    | fail)
  refine rReply_call Le.nilB (Le.nilI _) (wrap16_range _).1 (wrap16_range _).2 (by decide) (by decide) ?_
  have hlen := repB_len q.f 0 q.a (IntKind.u16.wrap (IntKind.i64.wrap (q.b.length + q.r.length))) [] []
  generalize repB q.f 0 q.a (IntKind.u16.wrap (IntKind.i64.wrap (q.b.length + q.r.length))) [] [] = B at *
  conv => whnf
  refine condF (fun h1 => ?_) (fun h1 => ?_)
  · have h1 : ¬ x.hw = 1 := by simpa using h1
    conv => whnf
    refine condF (fun h2 => ?_) (fun h2 => ?_)
    · have h2 : ¬ x.hw = 2 := by simpa using h2
      conv => whnf
      refine condF (fun h3 => ?_) (fun h3 => ?_)
      · have h3 : ¬ x.hw = 3 := by simpa using h3
        conv => whnf
        exact fr_fin rfl rfl (by rw [if_pos he, ansF_0 h1 h2 h3, eB])
      · have h3 : x.hw = 3 := by simpa using h3
        conv => whnf
        refine condT (by simp; have := repB_len; omega) ?_
        conv => whnf
        exact fr_fin rfl (by simp) (by rw [if_pos he, ansF_3 h3, eB]; simp)
    · have h2 : x.hw = 2 := by simpa using h2
      conv => whnf
      exact fr_fin rfl rfl (by rw [if_pos he, ansF_2 h2, eB])
  · have h1 : x.hw = 1 := by simpa using h1
    conv => whnf
    exact fr_fin rfl rfl (by rw [if_pos he, ansF_1 h1, eB])
end Go.Proofs.Ytomodeliimnddaa
set_option linter.unusedVariables false
set_option linter.unusedSimpArgs false
namespace Go.Proofs.Ytomodeliimnddaa
open Go.Ab
def a136 : ACode := (.seq (.reg [(iO 2 (.box (.t 0))), (iO 3 (.box (.t 1))), (iO 4 (.mov (.c (.bool false))))])
 (.seq (.reg [(iF 5 0 2), (iL 6 5), (iF 7 0 3), (iL 8 7), (iO 9 (.bin .eql .other (.t 6) (.t 8))), ⟨(some 10), .mov (.t 9), none, true⟩, (iG 11 (.fld 1 1 false (.t 2)) 10 true), (iG 12 (.load false 1 (.t 11)) 10 true), (iG 13 (.fld 1 1 false (.t 3)) 10 true), (iG 14 (.load false 1 (.t 13)) 10 true), (iG 15 (.bin .eql .other (.t 12) (.t 14)) 10 true), (iO 16 (.pick (.t 10) (.t 15) (.c (.bool false)))), ⟨(some 17), .mov (.t 16), none, true⟩, (iG 18 (.fld 2 1 false (.t 2)) 17 true), (iG 19 (.load false 1 (.t 18)) 17 true), (iG 20 (.fld 2 1 false (.t 3)) 17 true), (iG 21 (.load false 1 (.t 20)) 17 true), (iG 22 (.call 50 [(.t 19), (.t 21)]) 17 true), (iO 23 (.pick (.t 17) (.t 22) (.c (.bool false)))), (iM 4 23)])
 .ret))
def r136 : List ARes := [.t 4]
theorem c136 : compF Try.prog Try.f136 = some (a136, r136) := by kernel_rfl
theorem b136 : hasBody Try.prog 136 = true := by kernel_rfl
theorem g136 : Try.prog.funcs[136]? = some Try.f136 := by kernel_rfl
def a86 : ACode := (.seq (.reg [(iO 4 (.mov (.c (.bool false))))])
 (.seq (.seq (.reg [(iM 6 0), (iO 7 (.len false (.t 6))), (iM 8 1), (iO 9 (.len false (.t 8))), (iO 10 (.bin .neq .other (.t 7) (.t 9)))])
 (.cond (.t 10) (.seq (.reg [(iO 4 (.mov (.c (.bool false))))])
 .ret)
 .skip))
 (.seq (.seq (.reg [(iO 5 (.mov (.c (.int .i64 0))))])
 (.block 0 (.loop (.seq (.seq (.reg [(iM 11 5), (iM 12 0), (iO 13 (.len false (.t 12))), (iO 14 (.bin .lss .other (.t 11) (.t 13)))])
 (.cond (.t 14) .skip
 (.exit 0)))
 (.seq (.block 1 (.seq (.draw [(zS 0 (iM 17 0)), (zS 1 (iM 18 5)), (zS 2 (iO 19 (.idx 3 none true (.t 17) (.t 18)))), (zS 3 (iO 20 (.load true 3 (.t 19)))), (zS 4 (iM 21 1)), (zS 5 (iM 22 5)), (zS 6 (iO 23 (.idx 3 none true (.t 21) (.t 22)))), (zS 7 (iO 24 (.load true 3 (.t 23)))), ⟨8, (iO 25 (.call 136 [(.t 20), (.t 24)])), true, [], []⟩, (zS 9 (iO 26 (.un .not (.t 25))))])
 (.cond (.t 26) (.seq (.reg [(iO 4 (.mov (.c (.bool false))))])
 .ret)
 .skip)))
 (.reg [(iM 15 5), (iO 16 (.bin .add .other (.t 15) (.c (.int .i64 1)))), (iM 5 16)]))))))
 (.seq (.reg [(iO 4 (.mov (.c (.bool true))))])
 .ret))))
def r86 : List ARes := [.t 4]
theorem c86 : compF Try.prog Try.f86 = some (a86, r86) := by kernel_rfl
theorem b86 : hasBody Try.prog 86 = true := by kernel_rfl
theorem g86 : Try.prog.funcs[86]? = some Try.f86 := by kernel_rfl
theorem frame_ev (x : Fr) : Ev Try.prog 136 [.agg (frA x), .agg (frA x)] (.bool true) := by
  refine FrzK.ev rfl (trF g136 b136 c136 ?_)
  conv => whnf
  refine condY (by simp) ?_
  conv => whnf
  refine condY (by simp) ?_
  conv => whnf
  refine Ev.call (bytesT _) ?_
  conv => whnf
  exact FrzK.le (Le.refl _)
def frR (fs : List Fr) : AV := .ro 3 (fs.map fun x => .agg (frA x))
theorem frames_ev (fs : List Fr) (hl : fs.length ≤ 1000) : Ev Try.prog 86 [frR fs, frR fs] (.bool true) := by
  refine FrzK.ev rfl (trF g86 b86 c86 ?_)
  have hlen : (fs.map fun x => AV.agg (frA x)).length = fs.length := List.length_map _
  conv => whnf
  refine condN (by simp) ?_
  conv => whnf
  refine loopI (α := {i : Nat // i ≤ fs.length}) (fun i => [(0, frR fs), (1, frR fs), (5, .int .i64 i.1)]) (fun i => ⟨0, []⟩) (fun i => fs.length - i.1) ⟨0, Nat.zero_le _⟩ ⟨[], rfl, rfl, rfl, ⟨⟨rfl, rfl⟩, ⟨rfl, rfl⟩, ⟨rfl, rfl⟩, trivial⟩, trivial⟩ fun ⟨i, hi⟩ => ?_
  have hi : i ≤ fs.length := hi
  conv => whnf
  by_cases hlt : i < fs.length
  · obtain ⟨x, _, hx⟩ := map_getD (f := fun x => AV.agg (frA x)) hlt
    refine condY (by simp; omega) ?_
    conv => whnf
    refine condT (by simp; omega) ?_
    conv => whnf
    rw [show (List.map (fun x => AV.agg (frA x)) fs).getD (Int.toNat (i : Int)) .undef = .agg (frA x) from hx]
    conv => whnf
    refine condT (by simp; omega) ?_
    conv => whnf
    rw [show (List.map (fun x => AV.agg (frA x)) fs).getD (Int.toNat (i : Int)) .undef = .agg (frA x) from hx]
    conv => whnf
    refine Ev.call (frame_ev x) ?_
    conv => whnf
    refine ⟨⟨i + 1, hlt⟩, ⟨[], rfl, rfl, rfl, ⟨⟨rfl, rfl⟩, ⟨rfl, rfl⟩, ⟨?_, rfl⟩, trivial⟩, trivial⟩, by show fs.length - (i + 1) < fs.length - i; omega⟩
    show AV.int .i64 (IntKind.i64.wrap ((i : Int) + 1)) = AV.int .i64 ((i + 1 : Nat) : Int)
    rw [s64 (by omega)]
  · refine condN (by simp; omega) ?_
    conv => whnf
    exact FrzK.le (Le.refl _)
theorem see_frames {g : Nat → Option Chunk} {h n : Nat} {fs : List Fr} (hg : g h = some (frC fs)) (hn : n = fs.length) : See g (.sl 3 h 0 n) (frR fs) := by
  subst hn
  rw [← frC_eq, frsA_flats] at hg
  exact see_flats (F := frA) (es := 3) (S := fs) (T := []) (by decide) (fun _ => rfl) (fun _ => rfl) (by rw [List.append_nil]; exact hg)
end Go.Proofs.Ytomodeliimnddaa
set_option linter.unusedVariables false
set_option linter.unusedSimpArgs false
namespace Go.Proofs.Ytomodeliimnddaa
open Go.Ab
theorem dnewBig (S : List Po) (h : 32 < S.length) : Ev Try.prog 74 [.ro 8 (S.map poA)] (.tup [.nilp, .int .i64 260]) := by
  refine FrzK.ev rfl (trF g74 b74 c74 ?_)
  have hl : (S.map poA).length = S.length := List.length_map _
  conv => whnf
  refine condY (by simp; omega) ?_
  conv => whnf
  exact FrzK.le (Le.refl _)
end Go.Proofs.Ytomodeliimnddaa
set_option linter.unusedVariables false
set_option linter.unusedSimpArgs false
namespace Go.Proofs.Ytomodeliimnddaa
open Go.Ab
def a19 : ACode := (.seq (.reg [(iO 4 (.mov (.c (.bool false))))])
 (.seq (.seq (.reg [(iO 23 (.call 72 [])), (iO 24 (.un .not (.t 23)))])
 (.cond (.t 24) (.seq (.reg [(iO 4 (.mov (.c (.bool false))))])
 .ret)
 .skip))
 (.seq (.seq (.reg [(iM 25 1), (iO 26 (.call 84 [(.t 25)])), (iO 27 (.un .not (.t 26))), ⟨(some 28), .mov (.t 27), none, true⟩, (iG 29 (.mov (.t 0)) 28 false), (iG 30 (.len false (.t 29)) 28 false), (iG 31 (.bin .gtr .other (.t 30) (.c (.int .i64 40))) 28 false), (iO 32 (.pick (.t 28) (.c (.bool true)) (.t 31)))])
 (.cond (.t 32) (.seq (.reg [(iO 4 (.mov (.c (.bool true))))])
 .ret)
 .skip))
 (.seq (.reg [(iM 34 0), (iO 35 (.call 73 [(.t 34)])), (iM 33 35), (iO 36 (.ext (.t 33) 0)), (iO 37 (.ext (.t 33) 1)), (iM 5 36), (iM 6 37)])
 (.seq (.reg [(iM 39 0), (iO 40 (.call 74 [(.t 39)])), (iM 38 40), (iO 41 (.ext (.t 38) 0)), (iO 42 (.ext (.t 38) 1)), (iM 7 41), (iM 8 42)])
 (.seq (.seq (.reg [(iM 43 6), (iM 44 8), (iO 45 (.bin .neq .other (.t 43) (.t 44)))])
 (.cond (.t 45) (.seq (.reg [(iO 4 (.mov (.c (.bool false))))])
 .ret)
 .skip))
 (.seq (.seq (.reg [(iM 46 8), (iO 47 (.bin .neq .other (.t 46) (.c (.int .i64 0))))])
 (.cond (.t 47) (.seq (.reg [(iO 4 (.mov (.c (.bool true))))])
 .ret)
 .skip))
 (.seq (.reg [(iO 48 (.call 27 [])), (iO 49 (.call 28 [])), (iM 9 48), (iM 10 49)])
 (.seq (.reg [(iO 11 (.mov (.c .nils)))])
 (.seq (.seq (.reg [(iO 12 (.mov (.c (.int .i64 0))))])
 (.block 0 (.loop (.seq (.seq (.reg [(iM 50 12), (iM 51 1), (iO 52 (.len false (.t 51))), (iO 53 (.bin .lss .other (.t 50) (.t 52)))])
 (.cond (.t 53) .skip
 (.exit 0)))
 (.seq (.block 1 (.seq (.reg [(iM 56 1), (iM 57 12), (iO 58 (.idx 7 none true (.t 56) (.t 57))), (iO 59 (.load true 7 (.t 58))), (iO 13 (.alloc [(3, (.int .i64 0)), (3, .nils), (1, (.int .u16 0))])), ⟨none, .store 7 (.t 13) (.t 59), none, false⟩])
 (.seq (.seq (.reg [(iF 60 0 13), (iL 61 60)])
 (.block 2 (.seq (.seq (.reg [(iO 63 (.bin .eql .other (.t 61) (.c (.int .i64 0)))), (iM 62 63)])
 (.cond (.t 62) .skip
 (.reg [(iO 64 (.bin .eql .other (.t 61) (.c (.int .i64 1)))), (iM 62 64)])))
 (.cond (.t 62) (.seq (.reg [(iM 65 5), (iM 66 9), (iO 67 (.call 75 [(.t 65), (.t 66)]))])
 (.seq (.reg [(iM 68 7), (iM 69 10), (iO 70 (.call 85 [(.t 68), (.t 69)]))])
 (.seq (.reg [(iM 71 5), (iO 72 (.call 76 [(.t 71)])), (iM 14 72)])
 (.seq (.seq (.reg [(iM 73 14), (iM 74 7), (iN 75 74), (iF 76 2 75), (iL 77 76), (iO 78 (.call 86 [(.t 73), (.t 77)])), (iO 79 (.un .not (.t 78)))])
 (.cond (.t 79) (.seq (.reg [(iO 4 (.mov (.c (.bool false))))])
 .ret)
 .skip))
 (.seq (.reg [(iM 80 11), (iM 81 14), (iO 82 (.app 3 32 (.t 80) (.t 81))), (iM 11 82)])
 (.reg [(iM 83 7), (iN 84 83), (iF 85 2 84), ⟨none, .store 1 (.t 85) (.c .nils), none, false⟩]))))))
 (.seq (.reg [(iO 87 (.bin .eql .other (.t 61) (.c (.int .i64 2)))), (iM 86 87)])
 (.cond (.t 86) (.seq (.reg [(iM 88 5), (iO 89 (.call 83 [(.t 88)]))])
 (.reg [(iM 90 7), (iO 91 (.call 87 [(.t 90)]))]))
 (.seq (.seq (.reg [(iO 93 (.bin .eql .other (.t 61) (.c (.int .i64 3)))), (iM 92 93)])
 (.cond (.t 92) .skip
 (.seq (.reg [(iO 94 (.bin .eql .other (.t 61) (.c (.int .i64 4)))), (iM 92 94)])
 (.cond (.t 92) .skip
 (.seq (.reg [(iO 95 (.bin .eql .other (.t 61) (.c (.int .i64 5)))), (iM 92 95)])
 (.cond (.t 92) .skip
 (.reg [(iO 96 (.bin .eql .other (.t 61) (.c (.int .i64 7)))), (iM 92 96)])))))))
 (.cond (.t 92) (.seq (.reg [(iF 97 1 13), (iL 98 97), (iO 99 (.conv (.int .u16) (.t 98))), (iF 100 2 13), (iL 101 100), (iO 102 (.conv (.int .u8) (.t 101))), (iF 103 5 13), (iL 104 103), (iO 105 (.build [(.int .u16 0), (.int .u8 0), .nils] [(0, 1, (.t 99)), (1, 1, (.t 102)), (2, 1, (.t 104))])), (iO 15 (.alloc [(1, (.int .u16 0)), (1, (.int .u8 0)), (1, .nils)])), ⟨none, .store 3 (.t 15) (.t 105), none, false⟩])
 (.seq (.seq (.reg [(iM 106 11), (iO 107 (.len false (.t 106))), (iO 108 (.bin .gtr .other (.t 107) (.c (.int .i64 0))))])
 (.cond (.t 108) (.seq (.draw [(zS 0 (iM 109 11)), (zS 1 (iM 110 11)), (zS 2 (iO 111 (.len false (.t 110)))), (zS 3 (iO 112 (.bin .sub .other (.t 111) (.c (.int .i64 1))))), (zS 4 (iF 113 1 13)), (zS 5 (iL 114 113)), (zS 6 (iM 115 11)), (zS 7 (iO 116 (.len false (.t 115)))), (zS 8 (iO 117 (.mn (.t 116) (.c (.int .i64 12))))), (zS 13 (iO 122 (.load true 7 (.t 13)))), ⟨9, (iO 118 (.call 68 [(.t 114), (.t 117)])), true, [], [(.t 13)]⟩, (zS 10 (iO 119 (.bin .sub .other (.t 112) (.t 118)))), (zS 11 (iO 120 (.idx 3 none true (.t 109) (.t 119)))), (zS 12 (iO 121 (.load true 3 (.t 120)))), ⟨14, (iO 123 (.call 88 [(.t 121), (.t 122)])), true, [], []⟩, ⟨15, ⟨none, .store 3 (.t 15) (.t 123), none, false⟩, true, [], []⟩])
 (.seq (.reg [(iF 124 0 13), (iL 125 124), (iO 126 (.bin .eql .other (.t 125) (.c (.int .i64 7))))])
 (.cond (.t 126) (.reg [(iF 127 5 13), (iL 128 127), (iF 129 2 15), ⟨none, .store 1 (.t 129) (.t 128), none, false⟩])
 .skip)))
 .skip))
 (.seq (.draw [(zS 0 (iM 130 5)), (zS 1 (iO 131 (.load true 3 (.t 15)))), (zS 3 (iM 133 7)), (zS 4 (iO 134 (.load true 3 (.t 15)))), ⟨2, (iO 132 (.call 77 [(.t 130), (.t 131)])), true, [], [(.t 15)]⟩, ⟨5, (iO 135 (.call 89 [(.t 133), (.t 134)])), true, [], []⟩, (zS 6 (iO 136 (.bin .neq .bool (.t 132) (.t 135))))])
 (.cond (.t 136) (.seq (.reg [(iO 4 (.mov (.c (.bool false))))])
 .ret)
 .skip))))
 (.seq (.reg [(iO 138 (.bin .eql .other (.t 61) (.c (.int .i64 6)))), (iM 137 138)])
 (.cond (.t 137) (.seq (.reg [(iM 139 5), (iM 140 9), (iO 141 (.call 78 [(.t 139), (.t 140)]))])
 (.reg [(iM 142 7), (iM 143 10), (iO 144 (.call 90 [(.t 142), (.t 143)]))]))
 (.seq (.reg [(iO 146 (.bin .eql .other (.t 61) (.c (.int .i64 8)))), (iM 145 146)])
 (.cond (.t 145) (.seq (.reg [(iO 147 (.bslice 1 (.int .i64) [(.int .i64 0), (.int .i64 0)] [(0, 1, (.c (.int .i64 2))), (1, 1, (.c (.int .i64 5)))] 2)), (iF 148 2 13), (iL 149 148), (iO 150 (.call 68 [(.t 149), (.c (.int .i64 2))])), (iO 151 (.idx 1 none false (.t 147) (.t 150))), (iL 152 151), (iM 16 152)])
 (.seq (.draw [(zS 0 (iM 153 9)), (zS 1 (iM 154 16)), (zS 2 (iF 155 1 13)), (zS 3 (iL 156 155)), (zS 5 (iF 158 6 13)), (zS 6 (iL 159 158)), ⟨4, (iO 157 (.call 68 [(.t 156), (.c (.int .i64 64))])), true, [], [(.t 158)]⟩, ⟨7, (iO 160 (.call 29 [(.t 153), (.t 154), (.t 157), (.t 159)])), true, [], []⟩])
 (.draw [(zS 0 (iM 161 10)), (zS 1 (iM 162 16)), (zS 2 (iF 163 1 13)), (zS 3 (iL 164 163)), (zS 5 (iF 166 6 13)), (zS 6 (iL 167 166)), ⟨4, (iO 165 (.call 68 [(.t 164), (.c (.int .i64 64))])), true, [], [(.t 166)]⟩, ⟨7, (iO 168 (.call 30 [(.t 161), (.t 162), (.t 165), (.t 167)])), true, [], []⟩])))
 .skip))))))))))))
 (.seq (.seq (.reg [(iO 17 (.mov (.c (.int .i64 0))))])
 (.block 3 (.loop (.seq (.seq (.reg [(iM 169 17), (iM 170 0), (iO 171 (.len false (.t 170))), (iO 172 (.bin .lss .other (.t 169) (.t 171)))])
 (.cond (.t 172) .skip
 (.exit 3)))
 (.seq (.block 4 (.seq (.reg [(iM 176 5), (iM 177 17), (iO 178 (.call 82 [(.t 176), (.t 177)])), (iM 175 178), (iO 179 (.ext (.t 175) 0)), (iO 180 (.ext (.t 175) 1)), (iM 18 179), (iM 19 180)])
 (.seq (.reg [(iM 182 7), (iM 183 17), (iO 184 (.call 91 [(.t 182), (.t 183)])), (iM 181 184), (iO 185 (.ext (.t 181) 0)), (iO 186 (.ext (.t 181) 1)), (iM 20 185), (iM 21 186)])
 (.seq (.draw [(zS 0 (iM 187 5)), (zS 1 (iM 188 17)), (zS 3 (iM 190 7)), (zS 4 (iN 191 190)), (zS 5 (iF 192 0 191)), (zS 6 (iL 193 192)), (zS 7 (iM 194 17)), (zS 8 (iO 195 (.idx 25 none true (.t 193) (.t 194)))), (zS 9 (iF 196 21 195)), (zS 10 (iL 197 196)), ⟨2, (iO 189 (.call 80 [(.t 187), (.t 188)])), true, [], [(.t 192), (.t 196)]⟩, (zS 11 (iO 198 (.bin .neq .bool (.t 189) (.t 197)))), ⟨12, ⟨(some 199), .mov (.t 198), none, true⟩, false, [], []⟩, (zS 13 (iG 200 (.mov (.t 5)) 199 false)), (zS 14 (iG 201 (.mov (.t 17)) 199 false)), (zS 16 (iG 203 (.mov (.t 7)) 199 false)), (zS 17 (iG 204 (.nilck (.t 203)) 199 false)), (zS 18 (iG 205 (.fld 0 1 false (.t 204)) 199 false)), (zS 19 (iG 206 (.load false 1 (.t 205)) 199 false)), (zS 20 (iG 207 (.mov (.t 17)) 199 false)), (zS 21 (iG 208 (.idx 25 none true (.t 206) (.t 207)) 199 false)), (zS 22 (iG 209 (.fld 20 1 false (.t 208)) 199 false)), (zS 23 (iG 210 (.load false 1 (.t 209)) 199 false)), ⟨15, (iG 202 (.call 79 [(.t 200), (.t 201)]) 199 false), true, [], [(.t 205), (.t 209)]⟩, (zS 24 (iG 211 (.bin .neq .other (.t 202) (.t 210)) 199 false)), (zS 25 (iO 212 (.pick (.t 199) (.c (.bool true)) (.t 211)))), ⟨26, ⟨(some 213), .mov (.t 212), none, true⟩, false, [], []⟩, (zS 27 (iG 214 (.mov (.t 18)) 213 false)), (zS 28 (iG 215 (.mov (.t 20)) 213 false)), (zS 29 (iG 216 (.bin .neq .other (.t 214) (.t 215)) 213 false)), (zS 30 (iO 217 (.pick (.t 213) (.c (.bool true)) (.t 216)))), ⟨31, ⟨(some 218), .mov (.t 217), none, true⟩, false, [], []⟩, (zS 32 (iG 219 (.mov (.t 19)) 218 false)), (zS 33 (iG 220 (.mov (.t 21)) 218 false)), (zS 34 (iG 221 (.bin .neq .bool (.t 219) (.t 220)) 218 false)), (zS 35 (iO 222 (.pick (.t 218) (.c (.bool true)) (.t 221))))])
 (.cond (.t 222) (.seq (.reg [(iO 4 (.mov (.c (.bool false))))])
 .ret)
 .skip)))))
 (.reg [(iM 173 17), (iO 174 (.bin .add .other (.t 173) (.c (.int .i64 1)))), (iM 17 174)]))))))
 (.seq (.reg [(iO 22 (.mov (.c (.int .i64 1))))])
 (.block 5 (.loop (.seq (.seq (.reg [(iM 223 22), (iO 224 (.bin .leq .other (.t 223) (.c (.int .i64 6))))])
 (.cond (.t 224) .skip
 (.exit 5)))
 (.seq (.block 6 (.seq (.reg [(iM 227 12), (iO 228 (.bin .rem .other (.t 227) (.c (.int .i64 8)))), (iO 229 (.bin .eql .other (.t 228) (.c (.int .i64 7)))), ⟨(some 230), .mov (.t 229), none, true⟩, (iG 231 (.mov (.t 9)) 230 true), (iG 232 (.mov (.t 22)) 230 true), (iG 233 (.call 36 [(.t 231), (.t 232)]) 230 true), (iG 234 (.mov (.t 10)) 230 true), (iG 235 (.mov (.t 22)) 230 true), (iG 236 (.call 37 [(.t 234), (.t 235)]) 230 true), (iG 237 (.call 35 [(.t 233), (.t 236)]) 230 true), (iG 238 (.un .not (.t 237)) 230 true), (iO 239 (.pick (.t 230) (.t 238) (.c (.bool false))))])
 (.cond (.t 239) (.seq (.reg [(iO 4 (.mov (.c (.bool false))))])
 .ret)
 .skip)))
 (.reg [(iM 225 22), (iO 226 (.bin .add .other (.t 225) (.c (.int .i64 1)))), (iM 22 226)]))))))))))
 (.reg [(iM 54 12), (iO 55 (.bin .add .other (.t 54) (.c (.int .i64 1)))), (iM 12 55)]))))))
 (.seq (.reg [(iM 240 9), (iO 241 (.call 36 [(.t 240), (.c (.int .i64 1))])), (iM 242 10), (iO 243 (.call 37 [(.t 242), (.c (.int .i64 1))])), (iO 244 (.call 35 [(.t 241), (.t 243)])), ⟨(some 245), .mov (.t 244), none, true⟩, (iG 246 (.mov (.t 9)) 245 true), (iG 247 (.call 36 [(.t 246), (.c (.int .i64 4))]) 245 true), (iG 248 (.mov (.t 10)) 245 true), (iG 249 (.call 37 [(.t 248), (.c (.int .i64 4))]) 245 true), (iG 250 (.call 35 [(.t 247), (.t 249)]) 245 true), (iO 251 (.pick (.t 245) (.t 250) (.c (.bool false)))), ⟨(some 252), .mov (.t 251), none, true⟩, (iG 253 (.mov (.t 5)) 252 true), (iG 254 (.call 80 [(.t 253), (.c (.int .i64 (-1)))]) 252 true), (iG 255 (.un .not (.t 254)) 252 true), (iO 256 (.pick (.t 252) (.t 255) (.c (.bool false)))), ⟨(some 257), .mov (.t 256), none, true⟩, (iG 258 (.mov (.t 5)) 257 true), (iG 259 (.mov (.t 0)) 257 true), (iG 260 (.len false (.t 259)) 257 true), (iG 261 (.call 79 [(.t 258), (.t 260)]) 257 true), (iG 262 (.bin .eql .other (.t 261) (.c (.int .i64 0))) 257 true), (iO 263 (.pick (.t 257) (.t 262) (.c (.bool false)))), (iM 4 263)])
 .ret)))))))))))
def r19 : List ARes := [.t 4]
theorem c19 : compF Try.prog Try.f19 = some (a19, r19) := by kernel_rfl
theorem b19 : hasBody Try.prog 19 = true := by kernel_rfl
theorem g19 : Try.prog.funcs[19]? = some Try.f19 := by kernel_rfl
theorem famStep {X : List Pl} {N : Nat} {m : Mem} {a : Nat × Option Chunk} (h0 : (Nat.blt a.1 3 || Nat.ble 39 a.1) = true) (hX : ∀ j (h : j < X.length), St.get ⟨N, m⟩ (0 + (j + 3)) = some (plC X[j])) (hl : X.length ≤ 36) : ∀ j (h : j < X.length), St.get ⟨N, a :: m⟩ (0 + (j + 3)) = some (plC X[j]) := fun j h => by
  show Mem.get (a :: m) (0 + (j + 3)) = _
  rw [Bool.or_eq_true] at h0
  have hne : a.1 ≠ 0 + (j + 3) := by
    rcases h0 with h0 | h0
    · have := Nat.le_of_ble_eq_true h0; omega
    · have := Nat.le_of_ble_eq_true h0; omega
  obtain ⟨a, y⟩ := a
  rw [get_ne hne]
  exact hX j h
theorem famBase {X : List Pl} {N : Nat} : ∀ j (h : j < X.length), St.get ⟨N, famP 0 0 X⟩ (0 + (j + 3)) = some (plC X[j]) := fun j h => by
  have := famP_get 0 X 0 j h
  rw [Nat.zero_add j] at this
  exact this
structure MpS where
  i : Nat
  X : List Pl
  last : Int
  J : Img
  F : List Fr
structure MpI (n m : Nat) (a : MpS) : Prop where
  hi : a.i ≤ m
  hX : a.X.length = n
  sok : ∀ x ∈ a.X, SOk a.i x
  fok : ∀ f ∈ a.F, FOk f
  hF : a.F.length ≤ 40 * a.i
set_option maxRecDepth 20000 in
set_option maxHeartbeats 16000000 in
theorem law19 (P0 : List Po) (S0 : List Stp) (hP : ∀ x ∈ P0, 0 ≤ x.a ∧ x.a < 65536) (hL : ∀ x ∈ S0, x.r.length ≤ 140737488355328 ∧ x.b.length ≤ 140737488355328 ∧ x.y.length ≤ 140737488355328) (hB : ∀ x ∈ S0, isB x.y ∧ 0 ≤ x.v) : Ev Try.prog 19 [.ro 8 (P0.map poA), .ro 7 (S0.map stA)] (.bool true) := by
  refine FrzK.ev rfl (trZ [17, 130] [] g19 b19 c19 ?_)
  conv => whnf
  refine Ev.call known26_ev ?_
  conv => whnf
  refine Ev.call (light26_ev S0 hL) ?_
  conv => whnf
  have hlen0 : (P0.map poA).length = P0.length := List.length_map _
  have hlen1 : (S0.map stA).length = S0.length := List.length_map _
  refine condF (fun hlb => ?_) (fun hlb => ?_)
  rotate_left
  · conv => whnf
    exact FrzK.le (Le.refl _)
  have hlb : lightB S0 = true := by simpa using hlb
  obtain ⟨hS200, hrows⟩ := lightB_yes hlb
  conv => whnf
  refine condF (fun h40 => ?_) (fun h40 => ?_)
  rotate_left
  · conv => whnf
    exact FrzK.le (Le.refl _)
  have h40 : P0.length ≤ 40 := by simp at h40; omega
  conv => whnf
  by_cases hv : P0.length ≤ 32 ∧ allR P0 = true
  rotate_left
  · refine Ev.call (newNo_tr P0 hP (by omega) hv) ?_
    conv => whnf
    have hd : Ev Try.prog 74 [.ro 8 (P0.map poA)] (.tup [.nilp, .int .i64 260]) := by
      by_cases h32 : 32 < P0.length
      · exact dnewBig P0 h32
      · refine dnewN hP (by omega) ?_
        cases e : allR P0 with
        | false => rfl
        | true => exact absurd ⟨by omega, e⟩ hv
    refine Ev.call hd ?_
    conv => whnf
    exact FrzK.le (Le.refl _)
  obtain ⟨h32, hall⟩ := hv
  refine pkNew (S := P0) (N := 0) (B := []) ⟨.same _ rfl, trivial⟩ hP h32 hall rfl ?_
  conv => whnf
  refine dkNew (S := P0) ⟨.same _ rfl, trivial⟩ hP h32 hall ?_ ?_
  · exact below_app (l := [(0, _), (1, _)]) rfl (below_famP (by decide) _ _ (by rw [List.length_map]; omega))
  conv => whnf
  refine newCall New_tr ?_
  conv => whnf
  refine newCall rNew_tr ?_
  conv => whnf
  refine loopI (α := {a : MpS // MpI P0.length S0.length a}) (fun ⟨⟨i, X, last, J, F⟩, _⟩ => [(0, .ro 8 (P0.map poA)), (1, .ro 7 (S0.map stA)), (5, .ptr 0 0), (7, .ptr 40 0), (9, .ptr 42 0), (10, .ptr 43 0), (11, .sl 3 44 0 F.length), (12, .int .i64 i)]) (fun ⟨⟨i, X, last, J, F⟩, _⟩ => ⟨45, [(0, some (msP 0 P0.length last .nils)), (1, some (mrP 0 P0.length)), (40, some (dMP 40 P0.length (IntKind.u16.wrap (last + 1)) .nils)), (41, some (dA X)), (42, some (imC J)), (43, some (rmC J)), (44, some (frC F))] ++ famP 0 0 X⟩) (fun ⟨⟨i, _, _, _, _⟩, _⟩ => S0.length - i) ⟨⟨0, P0.map newP, 0, .zero, []⟩, Nat.zero_le _, List.length_map _, fun x hx => ?_, fun f hf => (by cases hf), Nat.zero_le _⟩ ?_ fun ⟨⟨i, X, last, J, F⟩, hi, hX, sok, fok, hF⟩ => ?_
  · obtain ⟨p, hp, rfl⟩ := List.mem_map.mp hx
    exact sok_new (List.all_eq_true.mp hall p hp)
  · have hXl : (P0.map newP).length = P0.length := List.length_map _
    exact subPk (c := 0) (X := P0.map newP) [(44, none)] rfl rfl rfl (by omega) (fun h h1 h2 => rn1 (by omega)) rfl rfl ⟨⟨rfl, rfl⟩, ⟨rfl, rfl⟩, ⟨rfl, rfl⟩, ⟨rfl, rfl⟩, ⟨rfl, rfl⟩, ⟨rfl, rfl⟩, ⟨rfl, rfl⟩, ⟨rfl, rfl⟩, trivial⟩ ⟨⟨rfl, rfl, rfl⟩, ⟨mrP_hokI (fun h h1 h2 => rn1 (by omega)) rfl, rfl, by rw [mrP_renI (ρ := rnm [(44, none)]) (fun h h1 h2 => rn1 (by omega))]; rfl⟩, ⟨rfl, rfl, rfl⟩, ⟨dA_hok _ _, rfl, by rw [dA_ren]; rfl⟩, ⟨trivial, rfl, rfl⟩, ⟨trivial, rfl, rfl⟩, ⟨frC_hok _ _ _, rfl, by show (frC []).size = 0; rw [frC_size]; rfl⟩, trivial⟩ (by (repeat (refine famStep rfl ?_ (by omega))); exact famBase)
  have hi : i ≤ S0.length := hi
  have hX : X.length = P0.length := hX
  have sok : ∀ x ∈ X, SOk i x := sok
  have fok : ∀ f ∈ F, FOk f := fok
  have hF : F.length ≤ 40 * i := hF
  conv => whnf
  by_cases hlt : i < S0.length
  rotate_left
  · obtain rfl : i = S0.length := by omega
    refine condN (by simp) ?_
    conv => whnf
    with_reducible (first | refine unc1 ?_ | refine unc2 ?_ | refine unc3 ?_ | refine unc4 ?_ | refine unc5 ?_ | refine unc6 ?_ | refine unc7 ?_ | refine unc8 ?_ | refine unc9 ?_ | refine unc10 ?_ | refine unc11 ?_ | refine unc12 ?_ | refine unc13 ?_ | refine unc14 ?_ | refine unc15 ?_ | refine unc16 ?_ | skip)
    refine allCall (All_tr J 1) rfl rfl rfl ?_
    conv => whnf
    refine allCall (rAll_tr J 1) rfl rfl rfl ?_
    conv => whnf
    refine Ev.look (hregs_same (allL J.o 1) (allL_len _ _)) rfl ⟨see_dI rfl rfl, see_dI rfl rfl, trivial⟩ ?_
    conv => whnf
    refine allCall (All_tr J 4) rfl rfl rfl ?_
    conv => whnf
    refine allCall (rAll_tr J 4) rfl rfl rfl ?_
    conv => whnf
    refine Ev.look (hregs_same (allL J.o 4) (allL_len _ _)) rfl ⟨see_dI rfl rfl, see_dI rfl rfl, trivial⟩ ?_
    conv => whnf
    with_reducible (first | refine unc1 ?_ | refine unc2 ?_ | refine unc3 ?_ | refine unc4 ?_ | refine unc5 ?_ | refine unc6 ?_ | refine unc7 ?_ | refine unc8 ?_ | refine unc9 ?_ | refine unc10 ?_ | refine unc11 ?_ | refine unc12 ?_ | refine unc13 ?_ | refine unc14 ?_ | refine unc15 ?_ | refine unc16 ?_ | skip)
    refine pkStaleM (last := last) (oc := .nils) hX ⟨rfl, rfl, rfl, outN⟩ (by omega) (by omega) ?_
    conv => whnf
    with_reducible (first | refine unc1 ?_ | refine unc2 ?_ | refine unc3 ?_ | refine unc4 ?_ | refine unc5 ?_ | refine unc6 ?_ | refine unc7 ?_ | refine unc8 ?_ | refine unc9 ?_ | refine unc10 ?_ | refine unc11 ?_ | refine unc12 ?_ | refine unc13 ?_ | refine unc14 ?_ | refine unc15 ?_ | refine unc16 ?_ | skip)
    refine pkAgeM (last := last) (oc := .nils) hX ⟨rfl, rfl, rfl, outN⟩ (by omega) (by rw [hlen0]; omega) ?_
    conv => whnf
    exact FrzK.le (Le.refl _)
  refine condY (by simp; omega) ?_
  conv => whnf
  refine condT (by simp; omega) ?_
  have hxg : (S0.map stA).getD (Int.toNat (i : Int)) .undef = stA S0[i] := by simp [List.getD_eq_getElem?_getD, hlt]
  rw [hxg]
  have hsx := hrows S0[i] (List.getElem_mem hlt)
  have hsb := hB S0[i] (List.getElem_mem hlt)
  generalize S0[i] = x at *
  obtain ⟨wh, nn, hw, xr, xb, xy, xv⟩ := x
  obtain ⟨hxr, hxb, hxy⟩ := hsx
  obtain ⟨hxyB, hxv⟩ := hsb
  have hxr : xr.length ≤ 20000 := hxr
  have hxb : xb.length ≤ 20000 := hxb
  have hxy : xy.length ≤ 20000 := hxy
  have hxyB : isB xy := hxyB
  have hxv : 0 ≤ xv := hxv
  rw [show stA ⟨wh, nn, hw, xr, xb, xy, xv⟩ = .agg [.int .i64 wh, .int .i64 nn, .int .i64 hw, .roI .u16 xr, .roB xb, .roI .u8 xy, .int .u16 xv] from rfl]
  conv => whnf
  refine joinI (α := {a : MpS // a.i = i ∧ MpI P0.length S0.length ⟨i + 1, a.X, a.last, a.J, a.F⟩}) (fun ⟨⟨_, X, last, J, F⟩, _⟩ => [(0, .ro 8 (P0.map poA)), (1, .ro 7 (S0.map stA)), (5, .ptr 0 0), (7, .ptr 40 0), (9, .ptr 42 0), (10, .ptr 43 0), (11, .sl 3 44 0 F.length), (12, .int .i64 i)]) (fun ⟨⟨_, X, last, J, F⟩, _⟩ => ⟨45, [(0, some (msP 0 P0.length last .nils)), (1, some (mrP 0 P0.length)), (40, some (dMP 40 P0.length (IntKind.u16.wrap (last + 1)) .nils)), (41, some (dA X)), (42, some (imC J)), (43, some (rmC J)), (44, some (frC F))] ++ famP 0 0 X⟩) ?_ ?_
  · by_cases h0 : wh = 0
    · subst h0
      conv => whnf
      with_reducible (first | refine unc1 ?_ | refine unc2 ?_ | refine unc3 ?_ | refine unc4 ?_ | refine unc5 ?_ | refine unc6 ?_ | refine unc7 ?_ | refine unc8 ?_ | refine unc9 ?_ | refine unc10 ?_ | refine unc11 ?_ | refine unc12 ?_ | refine unc13 ?_ | refine unc14 ?_ | refine unc15 ?_ | refine unc16 ?_ | skip)
      obtain ⟨X', last', fs, eB⟩ : ∃ X' last' fs, bgN (X.map Pl.older) J last P0.length = (X', last', fs) := ⟨_, _, _, rfl⟩
      have eX : bgX (X.map Pl.older) J last P0.length = X' := congrArg (·.1) eB
      have eF : bgF (X.map Pl.older) J last P0.length = fs := congrArg (·.2.2) eB
      have sold : ∀ x ∈ X.map Pl.older, SOk ((i + 1 : Nat) : Int) x := fun x hx => by
        obtain ⟨y, hy, rfl⟩ := List.mem_map.mp hx
        exact (sok y hy).older (by omega)
      have sok' : ∀ x ∈ X', SOk ((i + 1 : Nat) : Int) x := eX ▸ sok_bg (by omega) sold _
      have fok' : ∀ f ∈ fs, FOk f := eF ▸ fok_bg sold _
      have hfl : fs.length ≤ P0.length := eF ▸ bgF_le _ _ _ _
      have hX' : X'.length = P0.length := by rw [← eX, bgX_len, List.length_map, hX]
      have hFF : (F ++ fs).length ≤ 40 * (i + 1) := by rw [List.length_append]; omega
      refine pkBeginN (n := P0.length) (last := last) (I := J) hX ⟨rfl, rfl, rfl, outN⟩ (by omega) (fun x hx => ⟨(sok x hx).n1, (sok x hx).n64⟩) rfl rfl (.inr (by decide)) rfl eB ?_
      conv => whnf
      refine dkBeginN (n := P0.length) (last := last) hX (by omega) (fun x hx => (sok x hx).bok (by omega)) eB (by decide) (by decide) rfl rfl rfl ?_
      conv => whnf
      with_reducible (first | refine unc1 ?_ | refine unc2 ?_ | refine unc3 ?_ | refine unc4 ?_ | refine unc5 ?_ | refine unc6 ?_ | refine unc7 ?_ | refine unc8 ?_ | refine unc9 ?_ | refine unc10 ?_ | refine unc11 ?_ | refine unc12 ?_ | refine unc13 ?_ | refine unc14 ?_ | refine unc15 ?_ | refine unc16 ?_ | skip)
      refine pkOutN (n := P0.length) (last := last') (oc := .sl 3 46 0 fs.length) hX' ⟨rfl, rfl, rfl, outS _ _ _⟩ (by omega) ?_
      conv => whnf
      refine Ev.look (frames_ev fs (by omega)) rfl ⟨see_frames rfl rfl, see_frames rfl rfl, trivial⟩ ?_
      conv => whnf
      rw [← frC_eq F, ← frC_eq fs]
      conv => whnf
      refine condT (app_frOk (by omega) (by omega)) ?_
      rw [app_fr]
      conv => whnf
      exact ⟨⟨⟨i, X', last', J, F ++ fs⟩, rfl, by show i + 1 ≤ _; omega, hX', sok', fun f hf => (List.mem_append.mp hf).elim (fok f) (fok' f), hFF⟩, subPk (c := 0) (X := X') [(44, some 48)] rfl rfl rfl (by omega) (fun h h1 h2 => rn1 (by omega)) rfl rfl ⟨⟨rfl, rfl⟩, ⟨rfl, rfl⟩, ⟨rfl, rfl⟩, ⟨rfl, rfl⟩, ⟨rfl, rfl⟩, ⟨rfl, rfl⟩, ⟨by rw [List.length_append]; rfl, rfl⟩, ⟨rfl, rfl⟩, trivial⟩ ⟨⟨rfl, rfl, rfl⟩, ⟨mrP_hokI (fun h h1 h2 => rn1 (by omega)) rfl, rfl, by rw [mrP_renI (ρ := rnm [(44, some 48)]) (fun h h1 h2 => rn1 (by omega))]; rfl⟩, ⟨rfl, rfl, rfl⟩, ⟨dA_hok _ _, rfl, by rw [dA_ren]; rfl⟩, ⟨trivial, rfl, rfl⟩, ⟨trivial, rfl, rfl⟩, ⟨frC_hok _ _ _, rfl, by rw [frC_ren]; rfl⟩, trivial⟩ (by (repeat (refine famStep rfl ?_ (by omega))); exact famBase)⟩
    by_cases h1 : wh = 1
    · subst h1
      conv => whnf
      with_reducible (first | refine unc1 ?_ | refine unc2 ?_ | refine unc3 ?_ | refine unc4 ?_ | refine unc5 ?_ | refine unc6 ?_ | refine unc7 ?_ | refine unc8 ?_ | refine unc9 ?_ | refine unc10 ?_ | refine unc11 ?_ | refine unc12 ?_ | refine unc13 ?_ | refine unc14 ?_ | refine unc15 ?_ | refine unc16 ?_ | skip)
      obtain ⟨X', last', fs, eB⟩ : ∃ X' last' fs, bgN (X.map Pl.older) J last P0.length = (X', last', fs) := ⟨_, _, _, rfl⟩
      have eX : bgX (X.map Pl.older) J last P0.length = X' := congrArg (·.1) eB
      have eF : bgF (X.map Pl.older) J last P0.length = fs := congrArg (·.2.2) eB
      have sold : ∀ x ∈ X.map Pl.older, SOk ((i + 1 : Nat) : Int) x := fun x hx => by
        obtain ⟨y, hy, rfl⟩ := List.mem_map.mp hx
        exact (sok y hy).older (by omega)
      have sok' : ∀ x ∈ X', SOk ((i + 1 : Nat) : Int) x := eX ▸ sok_bg (by omega) sold _
      have fok' : ∀ f ∈ fs, FOk f := eF ▸ fok_bg sold _
      have hfl : fs.length ≤ P0.length := eF ▸ bgF_le _ _ _ _
      have hX' : X'.length = P0.length := by rw [← eX, bgX_len, List.length_map, hX]
      have hFF : (F ++ fs).length ≤ 40 * (i + 1) := by rw [List.length_append]; omega
      refine pkBeginN (n := P0.length) (last := last) (I := J) hX ⟨rfl, rfl, rfl, outN⟩ (by omega) (fun x hx => ⟨(sok x hx).n1, (sok x hx).n64⟩) rfl rfl (.inr (by decide)) rfl eB ?_
      conv => whnf
      refine dkBeginN (n := P0.length) (last := last) hX (by omega) (fun x hx => (sok x hx).bok (by omega)) eB (by decide) (by decide) rfl rfl rfl ?_
      conv => whnf
      with_reducible (first | refine unc1 ?_ | refine unc2 ?_ | refine unc3 ?_ | refine unc4 ?_ | refine unc5 ?_ | refine unc6 ?_ | refine unc7 ?_ | refine unc8 ?_ | refine unc9 ?_ | refine unc10 ?_ | refine unc11 ?_ | refine unc12 ?_ | refine unc13 ?_ | refine unc14 ?_ | refine unc15 ?_ | refine unc16 ?_ | skip)
      refine pkOutN (n := P0.length) (last := last') (oc := .sl 3 46 0 fs.length) hX' ⟨rfl, rfl, rfl, outS _ _ _⟩ (by omega) ?_
      conv => whnf
      refine Ev.look (frames_ev fs (by omega)) rfl ⟨see_frames rfl rfl, see_frames rfl rfl, trivial⟩ ?_
      conv => whnf
      rw [← frC_eq F, ← frC_eq fs]
      conv => whnf
      refine condT (app_frOk (by omega) (by omega)) ?_
      rw [app_fr]
      conv => whnf
      exact ⟨⟨⟨i, X', last', J, F ++ fs⟩, rfl, by show i + 1 ≤ _; omega, hX', sok', fun f hf => (List.mem_append.mp hf).elim (fok f) (fok' f), hFF⟩, subPk (c := 0) (X := X') [(44, some 48)] rfl rfl rfl (by omega) (fun h h1 h2 => rn1 (by omega)) rfl rfl ⟨⟨rfl, rfl⟩, ⟨rfl, rfl⟩, ⟨rfl, rfl⟩, ⟨rfl, rfl⟩, ⟨rfl, rfl⟩, ⟨rfl, rfl⟩, ⟨by rw [List.length_append]; rfl, rfl⟩, ⟨rfl, rfl⟩, trivial⟩ ⟨⟨rfl, rfl, rfl⟩, ⟨mrP_hokI (fun h h1 h2 => rn1 (by omega)) rfl, rfl, by rw [mrP_renI (ρ := rnm [(44, some 48)]) (fun h h1 h2 => rn1 (by omega))]; rfl⟩, ⟨rfl, rfl, rfl⟩, ⟨dA_hok _ _, rfl, by rw [dA_ren]; rfl⟩, ⟨trivial, rfl, rfl⟩, ⟨trivial, rfl, rfl⟩, ⟨frC_hok _ _ _, rfl, by rw [frC_ren]; rfl⟩, trivial⟩ (by (repeat (refine famStep rfl ?_ (by omega))); exact famBase)⟩
    by_cases h2 : wh = 2
    · subst h2
      conv => whnf
      with_reducible (first | refine unc1 ?_ | refine unc2 ?_ | refine unc3 ?_ | refine unc4 ?_ | refine unc5 ?_ | refine unc6 ?_ | refine unc7 ?_ | refine unc8 ?_ | refine unc9 ?_ | refine unc10 ?_ | refine unc11 ?_ | refine unc12 ?_ | refine unc13 ?_ | refine unc14 ?_ | refine unc15 ?_ | refine unc16 ?_ | skip)
      refine pkTickN (n := P0.length) (last := last) (oc := .nils) hX ⟨rfl, rfl, rfl, outN⟩ (by omega) ?_
      conv => whnf
      refine dkTickN (n := P0.length) hX (by omega) rfl rfl ?_
      conv => whnf
      have hX' : (X.map Pl.tick).length = P0.length := by rw [List.length_map, hX]
      have sok' : ∀ x ∈ X.map Pl.tick, SOk ((i + 1 : Nat) : Int) x := fun x hx => by
        obtain ⟨y, hy, rfl⟩ := List.mem_map.mp hx
        exact ((sok y hy).up (by show (i : Int) ≤ ((i + 1 : Nat) : Int); omega)).tick
      exact ⟨⟨⟨i, X.map Pl.tick, last, J, F⟩, rfl, by show i + 1 ≤ _; omega, hX', sok', fok, by show (F).length ≤ 40 * (i + 1); omega⟩, subPk (c := 0) (X := X.map Pl.tick) [] rfl rfl rfl (by omega) (fun _ _ _ => rfl) rfl rfl ⟨⟨rfl, rfl⟩, ⟨rfl, rfl⟩, ⟨rfl, rfl⟩, ⟨rfl, rfl⟩, ⟨rfl, rfl⟩, ⟨rfl, rfl⟩, ⟨rfl, rfl⟩, ⟨rfl, rfl⟩, trivial⟩ ⟨⟨rfl, rfl, rfl⟩, ⟨mrP_hok rfl, rfl, rfl⟩, ⟨rfl, rfl, rfl⟩, ⟨dA_hok _ _, rfl, by rw [dA_ren]; rfl⟩, ⟨trivial, rfl, rfl⟩, ⟨trivial, rfl, rfl⟩, ⟨frC_hok _ _ _, rfl, by rw [frC_ren]; rfl⟩, trivial⟩ (by (repeat (refine famStep rfl ?_ (by omega))); exact famBase)⟩
    by_cases h3 : wh = 3
    · subst h3
      conv => whnf
      have hI : 0 < F.length → ∃ k f, k < F.length ∧ F[k]? = some f ∧ IntKind.i64.wrap (IntKind.i64.wrap ((F.length : Int) - 1) - placeS nn (if (12 : Int) < F.length then 12 else F.length)) = (k : Int) := fun h0 => by
        have hpr := place_range nn (if (12 : Int) < F.length then 12 else F.length) (by split <;> omega)
        have hmin : (if (12 : Int) < F.length then (12 : Int) else F.length) ≤ F.length := by split <;> omega
        generalize placeS nn (if (12 : Int) < F.length then 12 else F.length) = pl at *
        generalize (if (12 : Int) < F.length then (12 : Int) else F.length) = mm at *
        have hk : (F.length : Int) - 1 - pl = (((F.length : Int) - 1 - pl).toNat : Nat) := by omega
        refine ⟨((F.length : Int) - 1 - pl).toNat, F[((F.length : Int) - 1 - pl).toNat]'(by omega), by omega, List.getElem?_eq_getElem _, ?_⟩
        rw [w64i (n := (F.length : Int) - 1) (by omega) (by omega), w64i (by omega) (by omega)]
        exact hk
      refine joinI (α := {a : Fr // isB a.l ∧ a.l.length ≤ 30000}) (fun ⟨a, _⟩ => [(0, .ro 8 (P0.map poA)), (1, .ro 7 (S0.map stA)), (5, .ptr 0 0), (7, .ptr 40 0), (9, .ptr 42 0), (10, .ptr 43 0), (11, .sl 3 44 0 F.length), (12, .int .i64 i), (15, .ptr 45 0)]) (fun ⟨a, _⟩ => ⟨46, [(0, some (msP 0 P0.length last .nils)), (1, some (mrP 0 P0.length)), (40, some (dMP 40 P0.length (IntKind.u16.wrap (last + 1)) .nils)), (41, some (dA X)), (42, some (imC J)), (43, some (rmC J)), (44, some (frC F)), (45, some (.obj (frA a)))] ++ famP 0 0 X⟩) ?_ ?_
      · conv => whnf
        refine condF (fun hs0 => ?_) (fun hs0 => ?_)
        · conv => whnf
          exact ⟨⟨⟨IntKind.u16.wrap nn, IntKind.u8.wrap hw, xy⟩, hxyB, by show xy.length ≤ 30000; omega⟩, subPk (c := 0) (X := X) [(45, some 46)] rfl rfl rfl (by omega) (fun h h1 h2 => rn1 (by omega)) rfl rfl ⟨⟨rfl, rfl⟩, ⟨rfl, rfl⟩, ⟨rfl, rfl⟩, ⟨rfl, rfl⟩, ⟨rfl, rfl⟩, ⟨rfl, rfl⟩, ⟨rfl, rfl⟩, ⟨rfl, rfl⟩, ⟨rfl, rfl⟩, trivial⟩ ⟨⟨rfl, rfl, rfl⟩, ⟨mrP_hokI (fun h h1 h2 => rn1 (by omega)) rfl, rfl, by rw [mrP_renI (ρ := rnm [(45, some 46)]) (fun h h1 h2 => rn1 (by omega))]; rfl⟩, ⟨rfl, rfl, rfl⟩, ⟨dA_hok _ _, rfl, by rw [dA_ren]; rfl⟩, ⟨trivial, rfl, rfl⟩, ⟨trivial, rfl, rfl⟩, ⟨frC_hok _ _ _, rfl, by rw [frC_ren]; rfl⟩, ⟨rfl, rfl, rfl⟩, trivial⟩ (by (repeat (refine famStep rfl ?_ (by omega))); exact famBase)⟩
        · have hs0 : 0 < F.length := by simpa using hs0
          obtain ⟨kk, f, hkk, hf, hidx⟩ := hI hs0
          have hfo := fok f (List.mem_of_getElem? hf)
          conv => whnf
          refine Ev.call (place_ev nn (if (12 : Int) < F.length then 12 else F.length) (by split <;> omega) (by split <;> omega)) ?_
          conv => whnf
          refine ⟨rfl, ?_⟩
          conv => whnf
          rw [hidx]
          refine condT (by simp; omega) ?_
          conv => whnf
          have hs : (frC F).ld true (0 + Int.toNat (kk : Int) * 3) 3 = (true, .agg (frA f)) := frC_all hf (by simp)
          refine condT (congrArg (·.1) hs) ?_
          conv => whnf
          refine fA21 (congrArg (·.2) hs) ?_
          conv => whnf
          refine Ev.call (answer_ev f ⟨3, nn, hw, xr, xb, xy, xv⟩ hfo.2 hxb hxr) ?_
          have hgo := ans_fok f ⟨3, nn, hw, xr, xb, xy, xv⟩ hfo
          generalize ansS f ⟨3, nn, hw, xr, xb, xy, xv⟩ = g at *
          conv => whnf
          exact ⟨⟨g, hgo.1, Nat.le_trans hgo.2 (by decide)⟩, subPk (c := 0) (X := X) [(45, some 46)] rfl rfl rfl (by omega) (fun h h1 h2 => rn1 (by omega)) rfl rfl ⟨⟨rfl, rfl⟩, ⟨rfl, rfl⟩, ⟨rfl, rfl⟩, ⟨rfl, rfl⟩, ⟨rfl, rfl⟩, ⟨rfl, rfl⟩, ⟨rfl, rfl⟩, ⟨rfl, rfl⟩, ⟨rfl, rfl⟩, trivial⟩ ⟨⟨rfl, rfl, rfl⟩, ⟨mrP_hokI (fun h h1 h2 => rn1 (by omega)) rfl, rfl, by rw [mrP_renI (ρ := rnm [(45, some 46)]) (fun h h1 h2 => rn1 (by omega))]; rfl⟩, ⟨rfl, rfl, rfl⟩, ⟨dA_hok _ _, rfl, by rw [dA_ren]; rfl⟩, ⟨trivial, rfl, rfl⟩, ⟨trivial, rfl, rfl⟩, ⟨frC_hok _ _ _, rfl, by rw [frC_ren]; rfl⟩, ⟨rfl, rfl, rfl⟩, trivial⟩ (by (repeat (refine famStep rfl ?_ (by omega))); exact famBase)⟩
      · rintro ⟨g, hgB, hgl⟩
        conv => whnf
        obtain ⟨b, X', eT⟩ : ∃ b X', takeP g.id g.u g.l X = (b, X') := ⟨_, _, rfl⟩
        have hX' : X'.length = P0.length := by have := takeP_len g.id g.u g.l X; rw [eT] at this; exact this.trans hX
        have sok' : ∀ x ∈ X', SOk ((i + 1 : Nat) : Int) x := fun x hx => by
          have h2 := (sok_take (id := g.id) (u := g.u) (l := g.l) (X := X) sok).2
          rw [eT] at h2
          exact (h2 x hx).up (by show (i : Int) ≤ ((i + 1 : Nat) : Int); omega)
        with_reducible (first | refine unc1 ?_ | refine unc2 ?_ | refine unc3 ?_ | refine unc4 ?_ | refine unc5 ?_ | refine unc6 ?_ | refine unc7 ?_ | refine unc8 ?_ | refine unc9 ?_ | refine unc10 ?_ | refine unc11 ?_ | refine unc12 ?_ | refine unc13 ?_ | refine unc14 ?_ | refine unc15 ?_ | refine unc16 ?_ | skip)
        refine pkTakeRN (n := P0.length) (last := last) (oc := .nils) hX ⟨rfl, rfl, rfl, outN⟩ (by omega) (fun x hx => (sok x hx).okx) hgl eT ?_
        conv => whnf
        refine ⟨rfl, ?_⟩
        conv => whnf
        refine dkTakeN (n := P0.length) hX (by omega) (fun x hx => (sok x hx).wok) hgl hgB eT hX' rfl rfl ?_
        conv => whnf
        refine condN (by simp) ?_
        conv => whnf
        exact ⟨⟨⟨i, X', last, J, F⟩, rfl, by show i + 1 ≤ _; omega, hX', sok', fok, by show (F).length ≤ 40 * (i + 1); omega⟩, subPk (c := 0) (X := X') [] rfl rfl rfl (by omega) (fun _ _ _ => rfl) rfl rfl ⟨⟨rfl, rfl⟩, ⟨rfl, rfl⟩, ⟨rfl, rfl⟩, ⟨rfl, rfl⟩, ⟨rfl, rfl⟩, ⟨rfl, rfl⟩, ⟨rfl, rfl⟩, ⟨rfl, rfl⟩, trivial⟩ ⟨⟨rfl, rfl, rfl⟩, ⟨mrP_hok rfl, rfl, rfl⟩, ⟨rfl, rfl, rfl⟩, ⟨dA_hok _ _, rfl, by rw [dA_ren]; rfl⟩, ⟨trivial, rfl, rfl⟩, ⟨trivial, rfl, rfl⟩, ⟨frC_hok _ _ _, rfl, by rw [frC_ren]; rfl⟩, trivial⟩ (by (repeat (refine famStep rfl ?_ (by omega))); exact famBase)⟩
    by_cases h4 : wh = 4
    · subst h4
      conv => whnf
      have hI : 0 < F.length → ∃ k f, k < F.length ∧ F[k]? = some f ∧ IntKind.i64.wrap (IntKind.i64.wrap ((F.length : Int) - 1) - placeS nn (if (12 : Int) < F.length then 12 else F.length)) = (k : Int) := fun h0 => by
        have hpr := place_range nn (if (12 : Int) < F.length then 12 else F.length) (by split <;> omega)
        have hmin : (if (12 : Int) < F.length then (12 : Int) else F.length) ≤ F.length := by split <;> omega
        generalize placeS nn (if (12 : Int) < F.length then 12 else F.length) = pl at *
        generalize (if (12 : Int) < F.length then (12 : Int) else F.length) = mm at *
        have hk : (F.length : Int) - 1 - pl = (((F.length : Int) - 1 - pl).toNat : Nat) := by omega
        refine ⟨((F.length : Int) - 1 - pl).toNat, F[((F.length : Int) - 1 - pl).toNat]'(by omega), by omega, List.getElem?_eq_getElem _, ?_⟩
        rw [w64i (n := (F.length : Int) - 1) (by omega) (by omega), w64i (by omega) (by omega)]
        exact hk
      refine joinI (α := {a : Fr // isB a.l ∧ a.l.length ≤ 30000}) (fun ⟨a, _⟩ => [(0, .ro 8 (P0.map poA)), (1, .ro 7 (S0.map stA)), (5, .ptr 0 0), (7, .ptr 40 0), (9, .ptr 42 0), (10, .ptr 43 0), (11, .sl 3 44 0 F.length), (12, .int .i64 i), (15, .ptr 45 0)]) (fun ⟨a, _⟩ => ⟨46, [(0, some (msP 0 P0.length last .nils)), (1, some (mrP 0 P0.length)), (40, some (dMP 40 P0.length (IntKind.u16.wrap (last + 1)) .nils)), (41, some (dA X)), (42, some (imC J)), (43, some (rmC J)), (44, some (frC F)), (45, some (.obj (frA a)))] ++ famP 0 0 X⟩) ?_ ?_
      · conv => whnf
        refine condF (fun hs0 => ?_) (fun hs0 => ?_)
        · conv => whnf
          exact ⟨⟨⟨IntKind.u16.wrap nn, IntKind.u8.wrap hw, xy⟩, hxyB, by show xy.length ≤ 30000; omega⟩, subPk (c := 0) (X := X) [(45, some 46)] rfl rfl rfl (by omega) (fun h h1 h2 => rn1 (by omega)) rfl rfl ⟨⟨rfl, rfl⟩, ⟨rfl, rfl⟩, ⟨rfl, rfl⟩, ⟨rfl, rfl⟩, ⟨rfl, rfl⟩, ⟨rfl, rfl⟩, ⟨rfl, rfl⟩, ⟨rfl, rfl⟩, ⟨rfl, rfl⟩, trivial⟩ ⟨⟨rfl, rfl, rfl⟩, ⟨mrP_hokI (fun h h1 h2 => rn1 (by omega)) rfl, rfl, by rw [mrP_renI (ρ := rnm [(45, some 46)]) (fun h h1 h2 => rn1 (by omega))]; rfl⟩, ⟨rfl, rfl, rfl⟩, ⟨dA_hok _ _, rfl, by rw [dA_ren]; rfl⟩, ⟨trivial, rfl, rfl⟩, ⟨trivial, rfl, rfl⟩, ⟨frC_hok _ _ _, rfl, by rw [frC_ren]; rfl⟩, ⟨rfl, rfl, rfl⟩, trivial⟩ (by (repeat (refine famStep rfl ?_ (by omega))); exact famBase)⟩
        · have hs0 : 0 < F.length := by simpa using hs0
          obtain ⟨kk, f, hkk, hf, hidx⟩ := hI hs0
          have hfo := fok f (List.mem_of_getElem? hf)
          conv => whnf
          refine Ev.call (place_ev nn (if (12 : Int) < F.length then 12 else F.length) (by split <;> omega) (by split <;> omega)) ?_
          conv => whnf
          refine ⟨rfl, ?_⟩
          conv => whnf
          rw [hidx]
          refine condT (by simp; omega) ?_
          conv => whnf
          have hs : (frC F).ld true (0 + Int.toNat (kk : Int) * 3) 3 = (true, .agg (frA f)) := frC_all hf (by simp)
          refine condT (congrArg (·.1) hs) ?_
          conv => whnf
          refine fA21 (congrArg (·.2) hs) ?_
          conv => whnf
          refine Ev.call (answer_ev f ⟨4, nn, hw, xr, xb, xy, xv⟩ hfo.2 hxb hxr) ?_
          have hgo := ans_fok f ⟨4, nn, hw, xr, xb, xy, xv⟩ hfo
          generalize ansS f ⟨4, nn, hw, xr, xb, xy, xv⟩ = g at *
          conv => whnf
          exact ⟨⟨g, hgo.1, Nat.le_trans hgo.2 (by decide)⟩, subPk (c := 0) (X := X) [(45, some 46)] rfl rfl rfl (by omega) (fun h h1 h2 => rn1 (by omega)) rfl rfl ⟨⟨rfl, rfl⟩, ⟨rfl, rfl⟩, ⟨rfl, rfl⟩, ⟨rfl, rfl⟩, ⟨rfl, rfl⟩, ⟨rfl, rfl⟩, ⟨rfl, rfl⟩, ⟨rfl, rfl⟩, ⟨rfl, rfl⟩, trivial⟩ ⟨⟨rfl, rfl, rfl⟩, ⟨mrP_hokI (fun h h1 h2 => rn1 (by omega)) rfl, rfl, by rw [mrP_renI (ρ := rnm [(45, some 46)]) (fun h h1 h2 => rn1 (by omega))]; rfl⟩, ⟨rfl, rfl, rfl⟩, ⟨dA_hok _ _, rfl, by rw [dA_ren]; rfl⟩, ⟨trivial, rfl, rfl⟩, ⟨trivial, rfl, rfl⟩, ⟨frC_hok _ _ _, rfl, by rw [frC_ren]; rfl⟩, ⟨rfl, rfl, rfl⟩, trivial⟩ (by (repeat (refine famStep rfl ?_ (by omega))); exact famBase)⟩
      · rintro ⟨g, hgB, hgl⟩
        conv => whnf
        obtain ⟨b, X', eT⟩ : ∃ b X', takeP g.id g.u g.l X = (b, X') := ⟨_, _, rfl⟩
        have hX' : X'.length = P0.length := by have := takeP_len g.id g.u g.l X; rw [eT] at this; exact this.trans hX
        have sok' : ∀ x ∈ X', SOk ((i + 1 : Nat) : Int) x := fun x hx => by
          have h2 := (sok_take (id := g.id) (u := g.u) (l := g.l) (X := X) sok).2
          rw [eT] at h2
          exact (h2 x hx).up (by show (i : Int) ≤ ((i + 1 : Nat) : Int); omega)
        with_reducible (first | refine unc1 ?_ | refine unc2 ?_ | refine unc3 ?_ | refine unc4 ?_ | refine unc5 ?_ | refine unc6 ?_ | refine unc7 ?_ | refine unc8 ?_ | refine unc9 ?_ | refine unc10 ?_ | refine unc11 ?_ | refine unc12 ?_ | refine unc13 ?_ | refine unc14 ?_ | refine unc15 ?_ | refine unc16 ?_ | skip)
        refine pkTakeRN (n := P0.length) (last := last) (oc := .nils) hX ⟨rfl, rfl, rfl, outN⟩ (by omega) (fun x hx => (sok x hx).okx) hgl eT ?_
        conv => whnf
        refine ⟨rfl, ?_⟩
        conv => whnf
        refine dkTakeN (n := P0.length) hX (by omega) (fun x hx => (sok x hx).wok) hgl hgB eT hX' rfl rfl ?_
        conv => whnf
        refine condN (by simp) ?_
        conv => whnf
        exact ⟨⟨⟨i, X', last, J, F⟩, rfl, by show i + 1 ≤ _; omega, hX', sok', fok, by show (F).length ≤ 40 * (i + 1); omega⟩, subPk (c := 0) (X := X') [] rfl rfl rfl (by omega) (fun _ _ _ => rfl) rfl rfl ⟨⟨rfl, rfl⟩, ⟨rfl, rfl⟩, ⟨rfl, rfl⟩, ⟨rfl, rfl⟩, ⟨rfl, rfl⟩, ⟨rfl, rfl⟩, ⟨rfl, rfl⟩, ⟨rfl, rfl⟩, trivial⟩ ⟨⟨rfl, rfl, rfl⟩, ⟨mrP_hok rfl, rfl, rfl⟩, ⟨rfl, rfl, rfl⟩, ⟨dA_hok _ _, rfl, by rw [dA_ren]; rfl⟩, ⟨trivial, rfl, rfl⟩, ⟨trivial, rfl, rfl⟩, ⟨frC_hok _ _ _, rfl, by rw [frC_ren]; rfl⟩, trivial⟩ (by (repeat (refine famStep rfl ?_ (by omega))); exact famBase)⟩
    by_cases h5 : wh = 5
    · subst h5
      conv => whnf
      have hI : 0 < F.length → ∃ k f, k < F.length ∧ F[k]? = some f ∧ IntKind.i64.wrap (IntKind.i64.wrap ((F.length : Int) - 1) - placeS nn (if (12 : Int) < F.length then 12 else F.length)) = (k : Int) := fun h0 => by
        have hpr := place_range nn (if (12 : Int) < F.length then 12 else F.length) (by split <;> omega)
        have hmin : (if (12 : Int) < F.length then (12 : Int) else F.length) ≤ F.length := by split <;> omega
        generalize placeS nn (if (12 : Int) < F.length then 12 else F.length) = pl at *
        generalize (if (12 : Int) < F.length then (12 : Int) else F.length) = mm at *
        have hk : (F.length : Int) - 1 - pl = (((F.length : Int) - 1 - pl).toNat : Nat) := by omega
        refine ⟨((F.length : Int) - 1 - pl).toNat, F[((F.length : Int) - 1 - pl).toNat]'(by omega), by omega, List.getElem?_eq_getElem _, ?_⟩
        rw [w64i (n := (F.length : Int) - 1) (by omega) (by omega), w64i (by omega) (by omega)]
        exact hk
      refine joinI (α := {a : Fr // isB a.l ∧ a.l.length ≤ 30000}) (fun ⟨a, _⟩ => [(0, .ro 8 (P0.map poA)), (1, .ro 7 (S0.map stA)), (5, .ptr 0 0), (7, .ptr 40 0), (9, .ptr 42 0), (10, .ptr 43 0), (11, .sl 3 44 0 F.length), (12, .int .i64 i), (15, .ptr 45 0)]) (fun ⟨a, _⟩ => ⟨46, [(0, some (msP 0 P0.length last .nils)), (1, some (mrP 0 P0.length)), (40, some (dMP 40 P0.length (IntKind.u16.wrap (last + 1)) .nils)), (41, some (dA X)), (42, some (imC J)), (43, some (rmC J)), (44, some (frC F)), (45, some (.obj (frA a)))] ++ famP 0 0 X⟩) ?_ ?_
      · conv => whnf
        refine condF (fun hs0 => ?_) (fun hs0 => ?_)
        · conv => whnf
          exact ⟨⟨⟨IntKind.u16.wrap nn, IntKind.u8.wrap hw, xy⟩, hxyB, by show xy.length ≤ 30000; omega⟩, subPk (c := 0) (X := X) [(45, some 46)] rfl rfl rfl (by omega) (fun h h1 h2 => rn1 (by omega)) rfl rfl ⟨⟨rfl, rfl⟩, ⟨rfl, rfl⟩, ⟨rfl, rfl⟩, ⟨rfl, rfl⟩, ⟨rfl, rfl⟩, ⟨rfl, rfl⟩, ⟨rfl, rfl⟩, ⟨rfl, rfl⟩, ⟨rfl, rfl⟩, trivial⟩ ⟨⟨rfl, rfl, rfl⟩, ⟨mrP_hokI (fun h h1 h2 => rn1 (by omega)) rfl, rfl, by rw [mrP_renI (ρ := rnm [(45, some 46)]) (fun h h1 h2 => rn1 (by omega))]; rfl⟩, ⟨rfl, rfl, rfl⟩, ⟨dA_hok _ _, rfl, by rw [dA_ren]; rfl⟩, ⟨trivial, rfl, rfl⟩, ⟨trivial, rfl, rfl⟩, ⟨frC_hok _ _ _, rfl, by rw [frC_ren]; rfl⟩, ⟨rfl, rfl, rfl⟩, trivial⟩ (by (repeat (refine famStep rfl ?_ (by omega))); exact famBase)⟩
        · have hs0 : 0 < F.length := by simpa using hs0
          obtain ⟨kk, f, hkk, hf, hidx⟩ := hI hs0
          have hfo := fok f (List.mem_of_getElem? hf)
          conv => whnf
          refine Ev.call (place_ev nn (if (12 : Int) < F.length then 12 else F.length) (by split <;> omega) (by split <;> omega)) ?_
          conv => whnf
          refine ⟨rfl, ?_⟩
          conv => whnf
          rw [hidx]
          refine condT (by simp; omega) ?_
          conv => whnf
          have hs : (frC F).ld true (0 + Int.toNat (kk : Int) * 3) 3 = (true, .agg (frA f)) := frC_all hf (by simp)
          refine condT (congrArg (·.1) hs) ?_
          conv => whnf
          refine fA21 (congrArg (·.2) hs) ?_
          conv => whnf
          refine Ev.call (answer_ev f ⟨5, nn, hw, xr, xb, xy, xv⟩ hfo.2 hxb hxr) ?_
          have hgo := ans_fok f ⟨5, nn, hw, xr, xb, xy, xv⟩ hfo
          generalize ansS f ⟨5, nn, hw, xr, xb, xy, xv⟩ = g at *
          conv => whnf
          exact ⟨⟨g, hgo.1, Nat.le_trans hgo.2 (by decide)⟩, subPk (c := 0) (X := X) [(45, some 46)] rfl rfl rfl (by omega) (fun h h1 h2 => rn1 (by omega)) rfl rfl ⟨⟨rfl, rfl⟩, ⟨rfl, rfl⟩, ⟨rfl, rfl⟩, ⟨rfl, rfl⟩, ⟨rfl, rfl⟩, ⟨rfl, rfl⟩, ⟨rfl, rfl⟩, ⟨rfl, rfl⟩, ⟨rfl, rfl⟩, trivial⟩ ⟨⟨rfl, rfl, rfl⟩, ⟨mrP_hokI (fun h h1 h2 => rn1 (by omega)) rfl, rfl, by rw [mrP_renI (ρ := rnm [(45, some 46)]) (fun h h1 h2 => rn1 (by omega))]; rfl⟩, ⟨rfl, rfl, rfl⟩, ⟨dA_hok _ _, rfl, by rw [dA_ren]; rfl⟩, ⟨trivial, rfl, rfl⟩, ⟨trivial, rfl, rfl⟩, ⟨frC_hok _ _ _, rfl, by rw [frC_ren]; rfl⟩, ⟨rfl, rfl, rfl⟩, trivial⟩ (by (repeat (refine famStep rfl ?_ (by omega))); exact famBase)⟩
      · rintro ⟨g, hgB, hgl⟩
        conv => whnf
        obtain ⟨b, X', eT⟩ : ∃ b X', takeP g.id g.u g.l X = (b, X') := ⟨_, _, rfl⟩
        have hX' : X'.length = P0.length := by have := takeP_len g.id g.u g.l X; rw [eT] at this; exact this.trans hX
        have sok' : ∀ x ∈ X', SOk ((i + 1 : Nat) : Int) x := fun x hx => by
          have h2 := (sok_take (id := g.id) (u := g.u) (l := g.l) (X := X) sok).2
          rw [eT] at h2
          exact (h2 x hx).up (by show (i : Int) ≤ ((i + 1 : Nat) : Int); omega)
        with_reducible (first | refine unc1 ?_ | refine unc2 ?_ | refine unc3 ?_ | refine unc4 ?_ | refine unc5 ?_ | refine unc6 ?_ | refine unc7 ?_ | refine unc8 ?_ | refine unc9 ?_ | refine unc10 ?_ | refine unc11 ?_ | refine unc12 ?_ | refine unc13 ?_ | refine unc14 ?_ | refine unc15 ?_ | refine unc16 ?_ | skip)
        refine pkTakeRN (n := P0.length) (last := last) (oc := .nils) hX ⟨rfl, rfl, rfl, outN⟩ (by omega) (fun x hx => (sok x hx).okx) hgl eT ?_
        conv => whnf
        refine ⟨rfl, ?_⟩
        conv => whnf
        refine dkTakeN (n := P0.length) hX (by omega) (fun x hx => (sok x hx).wok) hgl hgB eT hX' rfl rfl ?_
        conv => whnf
        refine condN (by simp) ?_
        conv => whnf
        exact ⟨⟨⟨i, X', last, J, F⟩, rfl, by show i + 1 ≤ _; omega, hX', sok', fok, by show (F).length ≤ 40 * (i + 1); omega⟩, subPk (c := 0) (X := X') [] rfl rfl rfl (by omega) (fun _ _ _ => rfl) rfl rfl ⟨⟨rfl, rfl⟩, ⟨rfl, rfl⟩, ⟨rfl, rfl⟩, ⟨rfl, rfl⟩, ⟨rfl, rfl⟩, ⟨rfl, rfl⟩, ⟨rfl, rfl⟩, ⟨rfl, rfl⟩, trivial⟩ ⟨⟨rfl, rfl, rfl⟩, ⟨mrP_hok rfl, rfl, rfl⟩, ⟨rfl, rfl, rfl⟩, ⟨dA_hok _ _, rfl, by rw [dA_ren]; rfl⟩, ⟨trivial, rfl, rfl⟩, ⟨trivial, rfl, rfl⟩, ⟨frC_hok _ _ _, rfl, by rw [frC_ren]; rfl⟩, trivial⟩ (by (repeat (refine famStep rfl ?_ (by omega))); exact famBase)⟩
    by_cases h7 : wh = 7
    · subst h7
      conv => whnf
      have hI : 0 < F.length → ∃ k f, k < F.length ∧ F[k]? = some f ∧ IntKind.i64.wrap (IntKind.i64.wrap ((F.length : Int) - 1) - placeS nn (if (12 : Int) < F.length then 12 else F.length)) = (k : Int) := fun h0 => by
        have hpr := place_range nn (if (12 : Int) < F.length then 12 else F.length) (by split <;> omega)
        have hmin : (if (12 : Int) < F.length then (12 : Int) else F.length) ≤ F.length := by split <;> omega
        generalize placeS nn (if (12 : Int) < F.length then 12 else F.length) = pl at *
        generalize (if (12 : Int) < F.length then (12 : Int) else F.length) = mm at *
        have hk : (F.length : Int) - 1 - pl = (((F.length : Int) - 1 - pl).toNat : Nat) := by omega
        refine ⟨((F.length : Int) - 1 - pl).toNat, F[((F.length : Int) - 1 - pl).toNat]'(by omega), by omega, List.getElem?_eq_getElem _, ?_⟩
        rw [w64i (n := (F.length : Int) - 1) (by omega) (by omega), w64i (by omega) (by omega)]
        exact hk
      refine joinI (α := {a : Fr // isB a.l ∧ a.l.length ≤ 30000}) (fun ⟨a, _⟩ => [(0, .ro 8 (P0.map poA)), (1, .ro 7 (S0.map stA)), (5, .ptr 0 0), (7, .ptr 40 0), (9, .ptr 42 0), (10, .ptr 43 0), (11, .sl 3 44 0 F.length), (12, .int .i64 i), (15, .ptr 45 0)]) (fun ⟨a, _⟩ => ⟨46, [(0, some (msP 0 P0.length last .nils)), (1, some (mrP 0 P0.length)), (40, some (dMP 40 P0.length (IntKind.u16.wrap (last + 1)) .nils)), (41, some (dA X)), (42, some (imC J)), (43, some (rmC J)), (44, some (frC F)), (45, some (.obj (frA a)))] ++ famP 0 0 X⟩) ?_ ?_
      · conv => whnf
        refine condF (fun hs0 => ?_) (fun hs0 => ?_)
        · conv => whnf
          exact ⟨⟨⟨IntKind.u16.wrap nn, IntKind.u8.wrap hw, xy⟩, hxyB, by show xy.length ≤ 30000; omega⟩, subPk (c := 0) (X := X) [(45, some 46)] rfl rfl rfl (by omega) (fun h h1 h2 => rn1 (by omega)) rfl rfl ⟨⟨rfl, rfl⟩, ⟨rfl, rfl⟩, ⟨rfl, rfl⟩, ⟨rfl, rfl⟩, ⟨rfl, rfl⟩, ⟨rfl, rfl⟩, ⟨rfl, rfl⟩, ⟨rfl, rfl⟩, ⟨rfl, rfl⟩, trivial⟩ ⟨⟨rfl, rfl, rfl⟩, ⟨mrP_hokI (fun h h1 h2 => rn1 (by omega)) rfl, rfl, by rw [mrP_renI (ρ := rnm [(45, some 46)]) (fun h h1 h2 => rn1 (by omega))]; rfl⟩, ⟨rfl, rfl, rfl⟩, ⟨dA_hok _ _, rfl, by rw [dA_ren]; rfl⟩, ⟨trivial, rfl, rfl⟩, ⟨trivial, rfl, rfl⟩, ⟨frC_hok _ _ _, rfl, by rw [frC_ren]; rfl⟩, ⟨rfl, rfl, rfl⟩, trivial⟩ (by (repeat (refine famStep rfl ?_ (by omega))); exact famBase)⟩
        · have hs0 : 0 < F.length := by simpa using hs0
          obtain ⟨kk, f, hkk, hf, hidx⟩ := hI hs0
          have hfo := fok f (List.mem_of_getElem? hf)
          conv => whnf
          refine Ev.call (place_ev nn (if (12 : Int) < F.length then 12 else F.length) (by split <;> omega) (by split <;> omega)) ?_
          conv => whnf
          refine ⟨rfl, ?_⟩
          conv => whnf
          rw [hidx]
          refine condT (by simp; omega) ?_
          conv => whnf
          have hs : (frC F).ld true (0 + Int.toNat (kk : Int) * 3) 3 = (true, .agg (frA f)) := frC_all hf (by simp)
          refine condT (congrArg (·.1) hs) ?_
          conv => whnf
          refine fA21 (congrArg (·.2) hs) ?_
          conv => whnf
          refine Ev.call (answer_ev f ⟨7, nn, hw, xr, xb, xy, xv⟩ hfo.2 hxb hxr) ?_
          have hgo := ans_fok f ⟨7, nn, hw, xr, xb, xy, xv⟩ hfo
          generalize ansS f ⟨7, nn, hw, xr, xb, xy, xv⟩ = g at *
          conv => whnf
          exact ⟨⟨⟨g.id, g.u, xy⟩, hxyB, by show xy.length ≤ 30000; omega⟩, subPk (c := 0) (X := X) [(45, some 46)] rfl rfl rfl (by omega) (fun h h1 h2 => rn1 (by omega)) rfl rfl ⟨⟨rfl, rfl⟩, ⟨rfl, rfl⟩, ⟨rfl, rfl⟩, ⟨rfl, rfl⟩, ⟨rfl, rfl⟩, ⟨rfl, rfl⟩, ⟨rfl, rfl⟩, ⟨rfl, rfl⟩, ⟨rfl, rfl⟩, trivial⟩ ⟨⟨rfl, rfl, rfl⟩, ⟨mrP_hokI (fun h h1 h2 => rn1 (by omega)) rfl, rfl, by rw [mrP_renI (ρ := rnm [(45, some 46)]) (fun h h1 h2 => rn1 (by omega))]; rfl⟩, ⟨rfl, rfl, rfl⟩, ⟨dA_hok _ _, rfl, by rw [dA_ren]; rfl⟩, ⟨trivial, rfl, rfl⟩, ⟨trivial, rfl, rfl⟩, ⟨frC_hok _ _ _, rfl, by rw [frC_ren]; rfl⟩, ⟨rfl, rfl, rfl⟩, trivial⟩ (by (repeat (refine famStep rfl ?_ (by omega))); exact famBase)⟩
      · rintro ⟨g, hgB, hgl⟩
        conv => whnf
        obtain ⟨b, X', eT⟩ : ∃ b X', takeP g.id g.u g.l X = (b, X') := ⟨_, _, rfl⟩
        have hX' : X'.length = P0.length := by have := takeP_len g.id g.u g.l X; rw [eT] at this; exact this.trans hX
        have sok' : ∀ x ∈ X', SOk ((i + 1 : Nat) : Int) x := fun x hx => by
          have h2 := (sok_take (id := g.id) (u := g.u) (l := g.l) (X := X) sok).2
          rw [eT] at h2
          exact (h2 x hx).up (by show (i : Int) ≤ ((i + 1 : Nat) : Int); omega)
        with_reducible (first | refine unc1 ?_ | refine unc2 ?_ | refine unc3 ?_ | refine unc4 ?_ | refine unc5 ?_ | refine unc6 ?_ | refine unc7 ?_ | refine unc8 ?_ | refine unc9 ?_ | refine unc10 ?_ | refine unc11 ?_ | refine unc12 ?_ | refine unc13 ?_ | refine unc14 ?_ | refine unc15 ?_ | refine unc16 ?_ | skip)
        refine pkTakeRN (n := P0.length) (last := last) (oc := .nils) hX ⟨rfl, rfl, rfl, outN⟩ (by omega) (fun x hx => (sok x hx).okx) hgl eT ?_
        conv => whnf
        refine ⟨rfl, ?_⟩
        conv => whnf
        refine dkTakeN (n := P0.length) hX (by omega) (fun x hx => (sok x hx).wok) hgl hgB eT hX' rfl rfl ?_
        conv => whnf
        refine condN (by simp) ?_
        conv => whnf
        exact ⟨⟨⟨i, X', last, J, F⟩, rfl, by show i + 1 ≤ _; omega, hX', sok', fok, by show (F).length ≤ 40 * (i + 1); omega⟩, subPk (c := 0) (X := X') [] rfl rfl rfl (by omega) (fun _ _ _ => rfl) rfl rfl ⟨⟨rfl, rfl⟩, ⟨rfl, rfl⟩, ⟨rfl, rfl⟩, ⟨rfl, rfl⟩, ⟨rfl, rfl⟩, ⟨rfl, rfl⟩, ⟨rfl, rfl⟩, ⟨rfl, rfl⟩, trivial⟩ ⟨⟨rfl, rfl, rfl⟩, ⟨mrP_hok rfl, rfl, rfl⟩, ⟨rfl, rfl, rfl⟩, ⟨dA_hok _ _, rfl, by rw [dA_ren]; rfl⟩, ⟨trivial, rfl, rfl⟩, ⟨trivial, rfl, rfl⟩, ⟨frC_hok _ _ _, rfl, by rw [frC_ren]; rfl⟩, trivial⟩ (by (repeat (refine famStep rfl ?_ (by omega))); exact famBase)⟩
    by_cases h6 : wh = 6
    · subst h6
      conv => whnf
      with_reducible (first | refine unc1 ?_ | refine unc2 ?_ | refine unc3 ?_ | refine unc4 ?_ | refine unc5 ?_ | refine unc6 ?_ | refine unc7 ?_ | refine unc8 ?_ | refine unc9 ?_ | refine unc10 ?_ | refine unc11 ?_ | refine unc12 ?_ | refine unc13 ?_ | refine unc14 ?_ | refine unc15 ?_ | refine unc16 ?_ | skip)
      refine pkLatchN (n := P0.length) (last := last) (oc := .nils) hX ⟨rfl, rfl, rfl, outN⟩ (by omega) (fun x hx => (sok x hx).lat) (.inr (by decide)) rfl ?_
      conv => whnf
      refine dkLatchN (n := P0.length) hX (by omega) (fun x hx => (sok x hx).lok) (by decide) (by decide) rfl rfl rfl ?_
      conv => whnf
      exact ⟨⟨⟨i, X, last, latchN J X P0.length, F⟩, rfl, by show i + 1 ≤ _; omega, hX, fun x hx => (sok x hx).up (by show (i : Int) ≤ ((i + 1 : Nat) : Int); omega), fok, by show (F).length ≤ 40 * (i + 1); omega⟩, subPk (c := 0) (X := X) [] rfl rfl rfl (by omega) (fun _ _ _ => rfl) rfl rfl ⟨⟨rfl, rfl⟩, ⟨rfl, rfl⟩, ⟨rfl, rfl⟩, ⟨rfl, rfl⟩, ⟨rfl, rfl⟩, ⟨rfl, rfl⟩, ⟨rfl, rfl⟩, ⟨rfl, rfl⟩, trivial⟩ ⟨⟨rfl, rfl, rfl⟩, ⟨mrP_hok rfl, rfl, rfl⟩, ⟨rfl, rfl, rfl⟩, ⟨dA_hok _ _, rfl, by rw [dA_ren]; rfl⟩, ⟨trivial, rfl, rfl⟩, ⟨trivial, rfl, rfl⟩, ⟨frC_hok _ _ _, rfl, by rw [frC_ren]; rfl⟩, trivial⟩ (by (repeat (refine famStep rfl ?_ (by omega))); exact famBase)⟩
    by_cases h8 : wh = 8
    · subst h8
      conv => whnf
      refine Ev.call (place_ev hw 2 (by decide) (by decide)) ?_
      have hp2 := place_range hw 2 (by decide)
      generalize placeS hw 2 = q2 at *
      conv => whnf
      refine condT (by simp; omega) ?_
      conv => whnf
      refine condT (by show (Nat.beq 1 1 && !false && decide (0 + q2.toNat * 1 < [(2 : Int), 5].length)) = true; simp; omega) ?_
      conv => whnf
      generalize List.getD [(2 : Int), 5] (0 + Int.toNat q2 * 1) 0 = ar at *
      refine Ev.call (place_ev nn 64 (by decide) (by decide)) ?_
      conv => whnf
      refine ⟨rfl, ?_⟩
      conv => whnf
      refine blkCall (h := 42) (Put_tr J ar (placeS nn 64) xv hxv) rfl rfl rfl ?_
      conv => whnf
      refine Ev.call (place_ev nn 64 (by decide) (by decide)) ?_
      conv => whnf
      refine ⟨rfl, ?_⟩
      conv => whnf
      refine blkCall (h := 43) (rPut_tr J ar (placeS nn 64) xv) rfl rfl rfl ?_
      conv => whnf
      exact ⟨⟨⟨i, X, last, J.put ar (placeS nn 64) xv, F⟩, rfl, by show i + 1 ≤ _; omega, hX, fun x hx => (sok x hx).up (by show (i : Int) ≤ ((i + 1 : Nat) : Int); omega), fok, by show (F).length ≤ 40 * (i + 1); omega⟩, subPk (c := 0) (X := X) [] rfl rfl rfl (by omega) (fun _ _ _ => rfl) rfl rfl ⟨⟨rfl, rfl⟩, ⟨rfl, rfl⟩, ⟨rfl, rfl⟩, ⟨rfl, rfl⟩, ⟨rfl, rfl⟩, ⟨rfl, rfl⟩, ⟨rfl, rfl⟩, ⟨rfl, rfl⟩, trivial⟩ ⟨⟨rfl, rfl, rfl⟩, ⟨mrP_hok rfl, rfl, rfl⟩, ⟨rfl, rfl, rfl⟩, ⟨dA_hok _ _, rfl, by rw [dA_ren]; rfl⟩, ⟨trivial, rfl, rfl⟩, ⟨trivial, rfl, rfl⟩, ⟨frC_hok _ _ _, rfl, by rw [frC_ren]; rfl⟩, trivial⟩ (by (repeat (refine famStep rfl ?_ (by omega))); exact famBase)⟩
    conv => whnf
    refine condN (by simpa using h0) ?_
    conv => whnf
    refine condN (by simpa using h1) ?_
    conv => whnf
    refine condN (by simpa using h2) ?_
    conv => whnf
    refine condN (by simpa using h3) ?_
    conv => whnf
    refine condN (by simpa using h4) ?_
    conv => whnf
    refine condN (by simpa using h5) ?_
    conv => whnf
    refine condN (by simpa using h7) ?_
    conv => whnf
    refine condN (by simpa using h6) ?_
    conv => whnf
    refine condN (by simpa using h8) ?_
    conv => whnf
    exact ⟨⟨⟨i, X, last, J, F⟩, rfl, by show i + 1 ≤ _; omega, hX, fun x hx => (sok x hx).up (by show (i : Int) ≤ ((i + 1 : Nat) : Int); omega), fok, by show (F).length ≤ 40 * (i + 1); omega⟩, subPk (c := 0) (X := X) [] rfl rfl rfl (by omega) (fun _ _ _ => rfl) rfl rfl ⟨⟨rfl, rfl⟩, ⟨rfl, rfl⟩, ⟨rfl, rfl⟩, ⟨rfl, rfl⟩, ⟨rfl, rfl⟩, ⟨rfl, rfl⟩, ⟨rfl, rfl⟩, ⟨rfl, rfl⟩, trivial⟩ ⟨⟨rfl, rfl, rfl⟩, ⟨mrP_hok rfl, rfl, rfl⟩, ⟨rfl, rfl, rfl⟩, ⟨dA_hok _ _, rfl, by rw [dA_ren]; rfl⟩, ⟨trivial, rfl, rfl⟩, ⟨trivial, rfl, rfl⟩, ⟨frC_hok _ _ _, rfl, by rw [frC_ren]; rfl⟩, trivial⟩ (by (repeat (refine famStep rfl ?_ (by omega))); exact famBase)⟩
  · rintro ⟨⟨i0, X', last', J', F'⟩, e0, hi', hX', sok', fok', hF'⟩
    have e0 : i0 = i := e0
    subst e0
    have hi' : i0 + 1 ≤ S0.length := hi'
    have hX' : X'.length = P0.length := hX'
    have sok' : ∀ x ∈ X', SOk ((i0 + 1 : Nat) : Int) x := sok'
    have fok' : ∀ f ∈ F', FOk f := fok'
    have hF' : F'.length ≤ 40 * (i0 + 1) := hF'
    conv => whnf
    refine loopI (α := {k : Nat // k ≤ P0.length}) (fun ⟨k, _⟩ => [(0, .ro 8 (P0.map poA)), (1, .ro 7 (S0.map stA)), (5, .ptr 0 0), (7, .ptr 40 0), (9, .ptr 42 0), (10, .ptr 43 0), (11, .sl 3 44 0 F'.length), (12, .int .i64 i0), (17, .int .i64 k)]) (fun ⟨k, _⟩ => ⟨45, [(0, some (msP 0 P0.length last' .nils)), (1, some (mrP 0 P0.length)), (40, some (dMP 40 P0.length (IntKind.u16.wrap (last' + 1)) .nils)), (41, some (dA X')), (42, some (imC J')), (43, some (rmC J')), (44, some (frC F'))] ++ famP 0 0 X'⟩) (fun ⟨k, _⟩ => P0.length - k) ⟨0, Nat.zero_le _⟩ ?_ fun ⟨k, hk⟩ => ?_
    · exact subPk (c := 0) (X := X') [] rfl rfl rfl (by omega) (fun _ _ _ => rfl) rfl rfl ⟨⟨rfl, rfl⟩, ⟨rfl, rfl⟩, ⟨rfl, rfl⟩, ⟨rfl, rfl⟩, ⟨rfl, rfl⟩, ⟨rfl, rfl⟩, ⟨rfl, rfl⟩, ⟨rfl, rfl⟩, ⟨rfl, rfl⟩, trivial⟩ ⟨⟨rfl, rfl, rfl⟩, ⟨mrP_hok rfl, rfl, rfl⟩, ⟨rfl, rfl, rfl⟩, ⟨dA_hok _ _, rfl, by rw [dA_ren]; rfl⟩, ⟨trivial, rfl, rfl⟩, ⟨trivial, rfl, rfl⟩, ⟨frC_hok _ _ _, rfl, by rw [frC_ren]; rfl⟩, trivial⟩ (by (repeat (refine famStep rfl ?_ (by omega))); exact famBase)
    have hk : k ≤ P0.length := hk
    have hyk : k < P0.length → ∃ y, X'[k]? = some y := fun h => ⟨X'[k], List.getElem?_eq_getElem (by omega)⟩
    conv => whnf
    by_cases hkl : k < P0.length
    · obtain ⟨y, hy⟩ := hyk hkl
      refine condY (by simp; omega) ?_
      conv => whnf
      with_reducible (first | refine unc1 ?_ | refine unc2 ?_ | refine unc3 ?_ | refine unc4 ?_ | refine unc5 ?_ | refine unc6 ?_ | refine unc7 ?_ | refine unc8 ?_ | refine unc9 ?_ | refine unc10 ?_ | refine unc11 ?_ | refine unc12 ?_ | refine unc13 ?_ | refine unc14 ?_ | refine unc15 ?_ | refine unc16 ?_ | skip)
      refine pkWaitsN (n := P0.length) (last := last') (oc := .nils) hX' ⟨rfl, rfl, rfl, outN⟩ (by omega) hy ?_
      conv => whnf
      refine dkWaitsN (n := P0.length) hX' (by omega) hy rfl rfl ?_
      conv => whnf
      refine condT (by simp; omega) ?_
      conv => whnf
      have hs21 : (dA X').ld false (0 + Int.toNat (k : Int) * 25 + 21) 1 = (true, .bool y.st) := dA_at (j := 21) hy (by decide) (by simp)
      refine condT (congrArg (·.1) hs21) ?_
      conv => whnf
      refine fA21 (congrArg (·.2) hs21) ?_
      conv => whnf
      with_reducible (first | refine unc1 ?_ | refine unc2 ?_ | refine unc3 ?_ | refine unc4 ?_ | refine unc5 ?_ | refine unc6 ?_ | refine unc7 ?_ | refine unc8 ?_ | refine unc9 ?_ | refine unc10 ?_ | refine unc11 ?_ | refine unc12 ?_ | refine unc13 ?_ | refine unc14 ?_ | refine unc15 ?_ | refine unc16 ?_ | skip)
      refine pkStaleK (n := P0.length) (last := last') (oc := .nils) hX' ⟨rfl, rfl, rfl, outN⟩ (by omega) hy ?_
      conv => whnf
      refine ⟨rfl, ?_⟩
      conv => whnf
      refine ⟨rfl, ?_⟩
      conv => whnf
      refine condN (by simp) ?_
      conv => whnf
      refine condT (by simp; omega) ?_
      conv => whnf
      have hs20 : (dA X').ld false (0 + Int.toNat (k : Int) * 25 + 20) 1 = (true, .int .i64 y.ag) := dA_at (j := 20) hy (by decide) (by simp)
      refine condT (congrArg (·.1) hs20) ?_
      conv => whnf
      refine fA21 (congrArg (·.2) hs20) ?_
      conv => whnf
      with_reducible (first | refine unc1 ?_ | refine unc2 ?_ | refine unc3 ?_ | refine unc4 ?_ | refine unc5 ?_ | refine unc6 ?_ | refine unc7 ?_ | refine unc8 ?_ | refine unc9 ?_ | refine unc10 ?_ | refine unc11 ?_ | refine unc12 ?_ | refine unc13 ?_ | refine unc14 ?_ | refine unc15 ?_ | refine unc16 ?_ | skip)
      refine pkAgeK (n := P0.length) (last := last') (oc := .nils) hX' ⟨rfl, rfl, rfl, outN⟩ (by omega) hy ?_
      conv => whnf
      refine ⟨rfl, ?_⟩
      conv => whnf
      refine ⟨rfl, ?_⟩
      conv => whnf
      refine condN (by simp) ?_
      conv => whnf
      refine condN (by simp) ?_
      conv => whnf
      refine condN (by simp) ?_
      conv => whnf
      refine ⟨⟨k + 1, hkl⟩, subPk (c := 0) (X := X') [] rfl rfl rfl (by omega) (fun _ _ _ => rfl) rfl rfl ⟨⟨rfl, rfl⟩, ⟨rfl, rfl⟩, ⟨rfl, rfl⟩, ⟨rfl, rfl⟩, ⟨rfl, rfl⟩, ⟨rfl, rfl⟩, ⟨rfl, rfl⟩, ⟨rfl, rfl⟩, ⟨?_, rfl⟩, trivial⟩ ⟨⟨rfl, rfl, rfl⟩, ⟨mrP_hok rfl, rfl, rfl⟩, ⟨rfl, rfl, rfl⟩, ⟨dA_hok _ _, rfl, by rw [dA_ren]; rfl⟩, ⟨trivial, rfl, rfl⟩, ⟨trivial, rfl, rfl⟩, ⟨frC_hok _ _ _, rfl, by rw [frC_ren]; rfl⟩, trivial⟩ (by (repeat (refine famStep rfl ?_ (by omega))); exact famBase), by show P0.length - (k + 1) < P0.length - k; omega⟩
      show AV.int .i64 (IntKind.i64.wrap ((k : Int) + 1)) = AV.int .i64 ((k + 1 : Nat) : Int)
      rw [s64 (by omega)]
    refine condN (by simp; omega) ?_
    conv => whnf
    refine loopI (α := {a : Nat // 1 ≤ a ∧ a ≤ 7}) (fun ⟨a, _⟩ => [(0, .ro 8 (P0.map poA)), (1, .ro 7 (S0.map stA)), (5, .ptr 0 0), (7, .ptr 40 0), (9, .ptr 42 0), (10, .ptr 43 0), (11, .sl 3 44 0 F'.length), (12, .int .i64 i0), (22, .int .i64 a)]) (fun ⟨a, _⟩ => ⟨45, [(0, some (msP 0 P0.length last' .nils)), (1, some (mrP 0 P0.length)), (40, some (dMP 40 P0.length (IntKind.u16.wrap (last' + 1)) .nils)), (41, some (dA X')), (42, some (imC J')), (43, some (rmC J')), (44, some (frC F'))] ++ famP 0 0 X'⟩) (fun ⟨a, _⟩ => 7 - a) ⟨1, by decide, by decide⟩ ?_ fun ⟨a, ha1, ha7⟩ => ?_
    · exact subPk (c := 0) (X := X') [] rfl rfl rfl (by omega) (fun _ _ _ => rfl) rfl rfl ⟨⟨rfl, rfl⟩, ⟨rfl, rfl⟩, ⟨rfl, rfl⟩, ⟨rfl, rfl⟩, ⟨rfl, rfl⟩, ⟨rfl, rfl⟩, ⟨rfl, rfl⟩, ⟨rfl, rfl⟩, ⟨rfl, rfl⟩, trivial⟩ ⟨⟨rfl, rfl, rfl⟩, ⟨mrP_hok rfl, rfl, rfl⟩, ⟨rfl, rfl, rfl⟩, ⟨dA_hok _ _, rfl, by rw [dA_ren]; rfl⟩, ⟨trivial, rfl, rfl⟩, ⟨trivial, rfl, rfl⟩, ⟨frC_hok _ _ _, rfl, by rw [frC_ren]; rfl⟩, trivial⟩ (by (repeat (refine famStep rfl ?_ (by omega))); exact famBase)
    have ha1 : 1 ≤ a := ha1
    have ha7 : a ≤ 7 := ha7
    conv => whnf
    refine condF (fun ha => ?_) (fun ha => ?_)
    · conv => whnf
      refine ⟨⟨⟨i0 + 1, X', last', J', F'⟩, hi', hX', sok', fok', hF'⟩, subPk (c := 0) (X := X') [] rfl rfl rfl (by omega) (fun _ _ _ => rfl) rfl rfl ⟨⟨rfl, rfl⟩, ⟨rfl, rfl⟩, ⟨rfl, rfl⟩, ⟨rfl, rfl⟩, ⟨rfl, rfl⟩, ⟨rfl, rfl⟩, ⟨rfl, rfl⟩, ⟨?_, rfl⟩, trivial⟩ ⟨⟨rfl, rfl, rfl⟩, ⟨mrP_hok rfl, rfl, rfl⟩, ⟨rfl, rfl, rfl⟩, ⟨dA_hok _ _, rfl, by rw [dA_ren]; rfl⟩, ⟨trivial, rfl, rfl⟩, ⟨trivial, rfl, rfl⟩, ⟨frC_hok _ _ _, rfl, by rw [frC_ren]; rfl⟩, trivial⟩ (by (repeat (refine famStep rfl ?_ (by omega))); exact famBase), by show S0.length - (i0 + 1) < S0.length - i0; omega⟩
      show AV.int .i64 (IntKind.i64.wrap ((i0 : Int) + 1)) = AV.int .i64 ((i0 + 1 : Nat) : Int)
      rw [s64 (by omega)]
    have haI : (a : Int) ≤ 6 := by simpa using ha
    have ha : a ≤ 6 := by omega
    conv => whnf
    refine condF (fun h8 => ?_) (fun h8 => ?_)
    · conv => whnf
      refine ⟨⟨a + 1, by omega, by omega⟩, subPk (c := 0) (X := X') [] rfl rfl rfl (by omega) (fun _ _ _ => rfl) rfl rfl ⟨⟨rfl, rfl⟩, ⟨rfl, rfl⟩, ⟨rfl, rfl⟩, ⟨rfl, rfl⟩, ⟨rfl, rfl⟩, ⟨rfl, rfl⟩, ⟨rfl, rfl⟩, ⟨rfl, rfl⟩, ⟨?_, rfl⟩, trivial⟩ ⟨⟨rfl, rfl, rfl⟩, ⟨mrP_hok rfl, rfl, rfl⟩, ⟨rfl, rfl, rfl⟩, ⟨dA_hok _ _, rfl, by rw [dA_ren]; rfl⟩, ⟨trivial, rfl, rfl⟩, ⟨trivial, rfl, rfl⟩, ⟨frC_hok _ _ _, rfl, by rw [frC_ren]; rfl⟩, trivial⟩ (by (repeat (refine famStep rfl ?_ (by omega))); exact famBase), by show 7 - (a + 1) < 7 - a; omega⟩
      show AV.int .i64 (IntKind.i64.wrap ((a : Int) + 1)) = AV.int .i64 ((a + 1 : Nat) : Int)
      rw [s64 (by omega)]
    conv => whnf
    refine allCall (All_tr J' a) rfl rfl rfl ?_
    conv => whnf
    refine allCall (rAll_tr J' a) rfl rfl rfl ?_
    conv => whnf
    refine Ev.look (hregs_same (allL J'.o a) (allL_len _ _)) rfl ⟨see_dI rfl rfl, see_dI rfl rfl, trivial⟩ ?_
    conv => whnf
    refine ⟨⟨a + 1, by omega, by omega⟩, subPk (c := 0) (X := X') [] rfl rfl rfl (by omega) (fun _ _ _ => rfl) rfl rfl ⟨⟨rfl, rfl⟩, ⟨rfl, rfl⟩, ⟨rfl, rfl⟩, ⟨rfl, rfl⟩, ⟨rfl, rfl⟩, ⟨rfl, rfl⟩, ⟨rfl, rfl⟩, ⟨rfl, rfl⟩, ⟨?_, rfl⟩, trivial⟩ ⟨⟨rfl, rfl, rfl⟩, ⟨mrP_hok rfl, rfl, rfl⟩, ⟨rfl, rfl, rfl⟩, ⟨dA_hok _ _, rfl, by rw [dA_ren]; rfl⟩, ⟨trivial, rfl, rfl⟩, ⟨trivial, rfl, rfl⟩, ⟨frC_hok _ _ _, rfl, by rw [frC_ren]; rfl⟩, trivial⟩ (by (repeat (refine famStep rfl ?_ (by omega))); exact famBase), by show 7 - (a + 1) < 7 - a; omega⟩
    show AV.int .i64 (IntKind.i64.wrap ((a : Int) + 1)) = AV.int .i64 ((a + 1 : Nat) : Int)
    rw [s64 (by omega)]
end Go.Proofs.Ytomodeliimnddaa
set_option linter.unusedVariables false
set_option linter.unusedSimpArgs false
namespace Go.Ab
open Go.ChangeShapes Go.WideShapes Go.RowKit Go.Deep
def noM : Nat → Prop := fun _ => False
section
variable {P : Program} {H : Type} {enc : TypeId × Value → H} {W : World} {r : Reach} {b : Nat} {held : Bool}
theorem wf_has {k : IntKind} {n : Int} (h : (Lit.int k n).wf = true) : k.min ≤ n ∧ n ≤ k.max := by
  simpa [Lit.wf] using h
theorem gInt {t : TypeId} {k : IntKind} {fuel : Nat} {v : Value} {x : DataW H × List MemPlace} (ht : P.underlying t = some (.int k)) (h : DataW.trod enc P W 0 (fun _ => true) held fuel t [v] = some x) :
    ∃ n, v = .int k n ∧ k.min ≤ n ∧ n ≤ k.max := by
  obtain ⟨n, h1, _, h2⟩ := DataW.trod_int ht h
  exact ⟨n, by simpa using h1, wf_has h2⟩
theorem gField {t : TypeId} {fs : Array Field} {fuel : Nat} {cs : List Value} {x : DataW H × List MemPlace} (ht : P.underlying t = some (.struct fs)) (h : DataW.trod enc P W 0 (fun _ => true) held fuel t cs = some x)
    (j : Nat) (f : Field) (hj : fs[j]? = some f) (ho : f.offset = j) (hc : P.cellsOf f.type = 1) (hl : j < cs.length) : ∃ n y, DataW.trod enc P W 0 (fun _ => true) held n f.type [cs.getD j default] = some y := by
  obtain ⟨xs, n, _, _, _, hxl, hf⟩ := DataW.trod_struct ht h
  have h1 := hf j f hj
  rw [ho, hc] at h1
  have hone : (cs.drop j).take 1 = [cs.getD j default] := by
    have h2 : cs.getD j default = cs[j] := by simp [List.getD_eq_getElem?_getD, List.getElem?_eq_getElem hl]
    rw [h2, List.drop_eq_getElem_cons hl]
    rfl
  rw [hone] at h1
  have hjl : j < fs.size := (Array.getElem?_eq_some_iff.1 hj).1
  exact ⟨n, _, h1.trans (List.getElem?_eq_getElem (show j < xs.length by omega))⟩
theorem Ev.calls {f : Nat} {args : List AV} {Vs : Array Value} (h : Ev P f args (.bool true)) (hs : Vs.size = args.length) (hV : ∀ j, j < args.length → GRel W noM (args.getD j .undef) (Vs.getD j default)) :
    Calls P f Vs W fun e W' => e = .returned (.bool true) ∧ Below W.heap.size W W' := by
  obtain ⟨_, ht⟩ := h
  unfold Tr at ht
  have hR : Rep (fun _ => none) ⟨0, []⟩ W noM := ⟨fun _ _ => rfl, fun h c hg => (by cases hg), fun h h' c c' p p' hg => (by cases hg), fun b hb => False.elim hb⟩
  refine Calls.mono (ht.2 (fun _ => none) W noM Vs hR ⟨hs, fun j hj => .g _ _ (hV j hj)⟩) fun e W' he => ?_
  obtain ⟨V, ι', M', v, s', rfl, ⟨rfl, rfl⟩, h1, h2, h3⟩ := he
  obtain rfl := h1.bool_inv
  exact ⟨rfl, h3.os, h3.tape, h3.output, h3.size, fun k hk => h3.block k hk fun ⟨h, c, base, hg, _⟩ => by cases hg⟩
end
end Go.Ab
set_option linter.unusedVariables false
set_option linter.unusedSimpArgs false
namespace Go.Ab
open Go.ChangeShapes Go.WideShapes Go.RowKit Go.Deep
inductive CK where
  | int (k : IntKind)
  | bool
  | ints (k : IntKind)
  | bools
def CK.v : CK → AV → Prop
  | .int k, v => ∃ n, v = .int k n ∧ k.min ≤ n ∧ n ≤ k.max
  | .bool, v => ∃ b, v = .bool b
  | .ints k, v => ∃ l, v = .roI k l ∧ ∀ n ∈ l, k.min ≤ n ∧ n ≤ k.max
  | .bools, v => ∃ l, v = .roB l
def CK.ok (P : Program) (t : TypeId) : CK → Bool
  | .int k => match P.underlying t with
    | some (.int k') => decide (k' = k)
    | _ => false
  | .bool => match P.underlying t with
    | some .bool => true
    | _ => false
  | .ints k => match P.underlying t with
    | some (.slice e) => (match P.underlying e with
      | some (.int k') => decide (k' = k)
      | _ => false) && Nat.beq (P.cellsOf e) 1
    | _ => false
  | .bools => match P.underlying t with
    | some (.slice e) => (match P.underlying e with
      | some .bool => true
      | _ => false) && Nat.beq (P.cellsOf e) 1
    | _ => false
def CKs : List CK → List AV → Prop
  | [], [] => True
  | c :: cs, v :: vs => c.v v ∧ CKs cs vs
  | _, _ => False
theorem CKs.length : ∀ {cs : List CK} {l : List AV}, CKs cs l → l.length = cs.length
  | [], [], _ => rfl
  | c :: cs, v :: vs, h => by simp [CKs.length h.2]
  | [], _ :: _, h => h.elim
  | _ :: _, [], h => h.elim
theorem CKs.of : ∀ {cs : List CK} {l : List AV}, l.length = cs.length → (∀ j (c : CK), cs[j]? = some c → c.v (l.getD j .undef)) → CKs cs l
  | [], [], _, _ => trivial
  | c :: cs, v :: vs, hl, h => ⟨by simpa using h 0 c rfl, CKs.of (by simpa using hl) fun j d hd => by simpa using h (j + 1) d (by simpa using hd)⟩
  | [], _ :: _, hl, _ => by simp at hl
  | _ :: _, [], hl, _ => by simp at hl
theorem CK.one {c : CK} {v : AV} (h : c.v v) : v.flat = [v] := by
  cases c
  · obtain ⟨n, rfl, _⟩ := h; rfl
  · obtain ⟨b, rfl⟩ := h; rfl
  · obtain ⟨l, rfl, _⟩ := h; rfl
  · obtain ⟨l, rfl⟩ := h; rfl
section
variable {P : Program} {H : Type} {enc : TypeId × Value → H} {W : World} {held : Bool}
theorem cell_spot {a : Addr} {v : Value} (h : W.cell? a = some v) : a.spot = none ∧ a.block < W.heap.size := by
  obtain ⟨e, n, h1, _, h3⟩ := World.shape?_of_cell? h
  exact ⟨h3, lt_of_shape h1⟩
theorem gCell {c : CK} {t : TypeId} {fuel : Nat} {v : Value} {x : DataW H × List MemPlace} (hok : c.ok P t = true) (h : DataW.trod enc P W 0 (fun _ => true) held fuel t [v] = some x) : ∃ av, c.v av ∧ GRel W noM av v := by
  cases c with
  | int k =>
    simp only [CK.ok] at hok
    split at hok
    · rename_i k' ht
      obtain rfl := of_decide_eq_true hok
      obtain ⟨n, rfl, h1⟩ := gInt ht h
      exact ⟨_, ⟨n, rfl, h1⟩, .int _ _⟩
    · cases hok
  | bool =>
    simp only [CK.ok] at hok
    split at hok
    · rename_i ht
      obtain ⟨b, h1, _⟩ := DataW.trod_bool ht h
      obtain rfl : v = .bool b := by simpa using h1
      exact ⟨_, ⟨b, rfl⟩, .bool _⟩
    · cases hok
  | ints k =>
    simp only [CK.ok] at hok
    split at hok
    · rename_i e ht
      simp only [Bool.and_eq_true] at hok
      obtain ⟨h1, h2⟩ := hok
      split at h1
      · rename_i k' he
        obtain rfl := of_decide_eq_true h1
        have hc : P.cellsOf e = 1 := Nat.eq_of_beq_eq_true h2
        rcases open_ints ht he hc h with ⟨hcs, _⟩ | ⟨a, len, cap, zs, hcs, _, hl, hm, hz, _, hcell, hwf⟩
        · obtain rfl : v = .slice none 0 0 := by simpa using hcs
          exact ⟨.roI k' [], ⟨[], rfl, by simp⟩, .sliceNil _ 1 (fun j => .int k' (([] : List Int).getD j 0)) rfl⟩
        · obtain rfl : v = .slice (some a) len cap := by simpa using hcs
          have hz : zs.length = cap := by simpa using hz
          have hlen : (zs.take len).length = len := by rw [List.length_take]; omega
          refine ⟨.roI k' (zs.take len), ⟨_, rfl, fun n hn => wf_has (hwf n (List.mem_of_mem_take hn))⟩, ?_⟩
          have hsp : 0 < len → a.spot = none ∧ ¬ noM a.block ∧ a.block < W.heap.size := fun h0 => by
            have := hcell 0 (by omega)
            obtain ⟨q1, q2⟩ := cell_spot (a := a) (by simpa [Addr.add] using this)
            exact ⟨q1, fun h => h, q2⟩
          have := GRel.slice (w := W) (M := noM) (.roI k' (zs.take len)) 1 (zs.take len).length (fun j => .int k' ((zs.take len).getD j 0)) a cap (fun j => .int k' (zs.getD j 0)) rfl (fun h => hsp (by omega)) (by omega) (fun _ _ => rfl) (fun j hj => by
            rw [← add_eq a j (hsp (by omega)).1]; exact hcell j (by omega)) (fun j hj => by
            have : (zs.take len).getD j 0 = zs.getD j 0 := by
              have hj' : j < len := by omega
              simp [List.getD_eq_getElem?_getD, List.getElem?_take, hj']
            show GRel W noM (.int k' ((zs.take len).getD j 0)) _
            rw [this]; exact .int k' _)
          rw [hlen] at this
          exact this
      · cases h1
    · cases hok
  | bools =>
    simp only [CK.ok] at hok
    split at hok
    · rename_i e ht
      simp only [Bool.and_eq_true] at hok
      obtain ⟨h1, h2⟩ := hok
      split at h1
      · rename_i he
        have hc : P.cellsOf e = 1 := Nat.eq_of_beq_eq_true h2
        rcases open_bools ht he hc h with ⟨hcs, _⟩ | ⟨a, len, cap, B, hcs, _, hl, hm, _, hcell⟩
        · obtain rfl : v = .slice none 0 0 := by simpa using hcs
          exact ⟨.roB [], ⟨[], rfl⟩, .sliceNil _ 1 (fun j => .bool (([] : List Bool).getD j false)) rfl⟩
        · obtain rfl : v = .slice (some a) len cap := by simpa using hcs
          have hlen : ((List.range len).map B).length = len := by simp
          refine ⟨.roB ((List.range len).map B), ⟨_, rfl⟩, ?_⟩
          have hsp : 0 < len → a.spot = none ∧ ¬ noM a.block ∧ a.block < W.heap.size := fun h0 => by
            have := hcell 0 (by omega)
            obtain ⟨q1, q2⟩ := cell_spot (a := a) (by simpa [Addr.add] using this)
            exact ⟨q1, fun h => h, q2⟩
          have := GRel.slice (w := W) (M := noM) (.roB ((List.range len).map B)) 1 ((List.range len).map B).length (fun j => .bool (((List.range len).map B).getD j false)) a cap (fun j => .bool (B j)) rfl (fun h => hsp (by omega)) (by omega) (fun _ _ => rfl) (fun j hj => by
            rw [← add_eq a j (hsp (by omega)).1]; exact hcell j (by omega)) (fun j hj => by
            have : ((List.range len).map B).getD j false = B j := by
              have hj' : j < len := by omega
              simp [List.getD_eq_getElem?_getD, hj']
            show GRel W noM (.bool (((List.range len).map B).getD j false)) _
            rw [this]; exact .bool _)
          rw [hlen] at this
          exact this
      · cases h1
    · cases hok
def fieldsOk (P : Program) : Nat → List Field → List CK → Bool
  | _, [], [] => true
  | j, f :: fs, c :: cs => Nat.beq f.offset j && Nat.beq (P.cellsOf f.type) 1 && c.ok P f.type && fieldsOk P (j + 1) fs cs
  | _, _, _ => false
def structOk (P : Program) (t : TypeId) (cs : List CK) : Bool :=
  match P.underlying t with
  | some (.struct fs) => fieldsOk P 0 fs.toList cs && Nat.beq (P.cellsOf t) cs.length
  | _ => false
theorem fieldsOk_get : ∀ (fs : List Field) (cs : List CK) (j0 : Nat), fieldsOk P j0 fs cs = true → fs.length = cs.length ∧ ∀ j f c, fs[j]? = some f → cs[j]? = some c → f.offset = j0 + j ∧ P.cellsOf f.type = 1 ∧ c.ok P f.type = true
  | [], [], _, _ => ⟨rfl, fun j f c h => by simp at h⟩
  | f :: fs, c :: cs, j0, h => by
    simp only [fieldsOk, Bool.and_eq_true] at h
    obtain ⟨⟨⟨h1, h2⟩, h3⟩, h4⟩ := h
    obtain ⟨h5, h6⟩ := fieldsOk_get fs cs (j0 + 1) h4
    refine ⟨by simp [h5], fun j f' c' hf hc => ?_⟩
    cases j with
    | zero =>
      simp only [List.getElem?_cons_zero, Option.some.injEq] at hf hc
      subst hf; subst hc
      exact ⟨Nat.eq_of_beq_eq_true h1, Nat.eq_of_beq_eq_true h2, h3⟩
    | succ j =>
      have := h6 j f' c' (by simpa using hf) (by simpa using hc)
      exact ⟨by omega, this.2⟩
  | [], _ :: _, _, h => by simp [fieldsOk] at h
  | _ :: _, [], _, h => by simp [fieldsOk] at h
theorem gStruct {t : TypeId} {cks : List CK} {fuel : Nat} {cs : List Value} {x : DataW H × List MemPlace} (hs : structOk P t cks = true) (hl : cs.length = cks.length) (h : DataW.trod enc P W 0 (fun _ => true) held fuel t cs = some x) :
    ∃ l : List AV, CKs cks l ∧ ∀ j, j < cks.length → GRel W noM (l.getD j .undef) (cs.getD j default) := by
  unfold structOk at hs
  split at hs
  · rename_i fs ht
    simp only [Bool.and_eq_true] at hs
    obtain ⟨h1, h2⟩ := hs
    obtain ⟨h3, h4⟩ := fieldsOk_get _ _ _ h1
    have each : ∀ j, j < cks.length → ∃ av, (∀ c, cks[j]? = some c → c.v av) ∧ GRel W noM av (cs.getD j default) := fun j hj => by
      have hjf : j < fs.size := by simp at h3; omega
      obtain ⟨q1, q2, q3⟩ := h4 j fs[j] cks[j] (by simp [hjf]) (by simp [hj])
      obtain ⟨n, y, hy⟩ := gField ht h j fs[j] (by simp [hjf]) (by simpa using q1) q2 (by omega)
      obtain ⟨av, r1, r2⟩ := gCell q3 hy
      exact ⟨av, fun c hc => by
        rw [List.getElem?_eq_getElem hj] at hc
        cases hc
        exact r1, r2⟩
    obtain ⟨E, hE⟩ := choose_lt each
    have hlen : ((List.range cks.length).map E).length = cks.length := by simp
    have hget : ∀ j, j < cks.length → ((List.range cks.length).map E).getD j .undef = E j := fun j hj => by simp [List.getD_eq_getElem?_getD, hj]
    refine ⟨(List.range cks.length).map E, CKs.of hlen fun j c hc => ?_, fun j hj => ?_⟩
    · have hj : j < cks.length := (List.getElem?_eq_some_iff.1 hc).1
      rw [hget j hj]
      exact (hE j hj).1 c hc
    · rw [hget j hj]
      exact (hE j hj).2
  · cases hs
theorem gStructs {t e : TypeId} {cks : List CK} {fuel : Nat} {v : Value} {x : DataW H × List MemPlace} (ht : P.underlying t = some (.slice e)) (hs : structOk P e cks = true) (h0 : 0 < cks.length)
    (h : DataW.trod enc P W 0 (fun _ => true) held fuel t [v] = some x) : ∃ L : List (List AV), (∀ l ∈ L, CKs cks l) ∧ GRel W noM (.ro cks.length (L.map .agg)) v := by
  have hce : P.cellsOf e = cks.length := by
    unfold structOk at hs
    split at hs
    · simp only [Bool.and_eq_true] at hs
      exact Nat.eq_of_beq_eq_true hs.2
    · cases hs
  rcases open_slice ht h with ⟨hcs, _⟩ | ⟨a, len, cap, m, n, D, Pl, hcs, _, hl, hm, hmm, _, hx⟩
  · obtain rfl : v = .slice none 0 0 := by simpa using hcs
    exact ⟨[], by simp, .sliceNil _ cks.length (fun j => ((([] : List AV).getD (j / cks.length) .undef).flat.getD (j % cks.length) .undef)) rfl⟩
  · obtain rfl : v = .slice (some a) len cap := by simpa using hcs
    simp only [if_true] at hmm
    subst hmm
    have each : ∀ i, i < len → ∃ l : List AV, CKs cks l ∧ ∀ j, j < cks.length → ∃ V, W.cell? ((a.add (i * cks.length)).add j) = some V ∧ GRel W noM (l.getD j .undef) V := fun i hi => by
      obtain ⟨cs', h1, h2⟩ := hx i (by omega)
      rw [hce] at h1
      obtain ⟨_, h3, h4⟩ := World.cells?_some h1
      obtain ⟨l, h5, h6⟩ := gStruct hs h3 h2
      refine ⟨l, h5, fun j hj => ⟨cs'.getD j default, ?_, h6 j hj⟩⟩
      have hj' : j < cs'.length := by omega
      rw [h4 j hj, List.getD_eq_getElem?_getD, List.getElem?_eq_getElem hj']
      rfl
    obtain ⟨E, hE⟩ := choose_lt each
    have hsp : 0 < len → a.spot = none ∧ ¬ noM a.block ∧ a.block < W.heap.size := fun hp => by
      obtain ⟨V, h1, _⟩ := (hE 0 hp).2 0 h0
      obtain ⟨q1, q2⟩ := cell_spot (a := a) (by simpa [Addr.add] using h1)
      exact ⟨q1, fun h => h, q2⟩
    have hlen : (((List.range len).map E).map AV.agg).length = len := by simp
    refine ⟨(List.range len).map E, fun l hl' => ?_, ?_⟩
    · simp only [List.mem_map, List.mem_range] at hl'
      obtain ⟨i, hi, rfl⟩ := hl'
      exact (hE i hi).1
    have hgetE : ∀ i, i < len → (((List.range len).map E).map AV.agg).getD i .undef = .agg (E i) := fun i hi => by simp [List.getD_eq_getElem?_getD, hi]
    have cell : ∀ j, j < len * cks.length → ∃ V, W.cell? ⟨a.block, a.off + j, none⟩ = some V ∧ GRel W noM (((((List.range len).map E).map AV.agg).getD (j / cks.length) .undef).flat.getD (j % cks.length) .undef) V := fun j hj => by
      have hi : j / cks.length < len := (Nat.div_lt_iff_lt_mul h0).2 hj
      have hj2 : j % cks.length < cks.length := Nat.mod_lt _ h0
      obtain ⟨V, h1, h2⟩ := (hE _ hi).2 _ hj2
      refine ⟨V, ?_, ?_⟩
      · rw [add_add, Nat.div_add_mod' j cks.length, add_eq a j (hsp (Nat.lt_of_le_of_lt (Nat.zero_le _) hi)).1] at h1
        exact h1
      · rw [hgetE _ hi]
        exact h2
    obtain ⟨G, hG⟩ := choose_lt cell
    have := GRel.slice (w := W) (M := noM) (.ro cks.length (((List.range len).map E).map AV.agg)) cks.length len (fun j => ((((List.range len).map E).map AV.agg).getD (j / cks.length) .undef).flat.getD (j % cks.length) .undef) a m G
      (by simp only [AV.rov, hlen]) hsp hl (fun i hi => by
        show ((((List.range len).map E).map AV.agg).getD i .undef).flat.length = _
        rw [hgetE i hi]
        exact (hE i hi).1.length) (fun j hj => (hG j hj).1) (fun j hj => (hG j hj).2)
    exact this
end
theorem list_form {α β : Type} {f : α → β} {Q : α → Prop} : ∀ (L : List β), (∀ l ∈ L, ∃ s, l = f s ∧ Q s) → ∃ S : List α, L = S.map f ∧ ∀ s ∈ S, Q s
  | [], _ => ⟨[], rfl, by simp⟩
  | l :: L, h => by
    obtain ⟨s, rfl, hs⟩ := h l (by simp)
    obtain ⟨S, rfl, hS⟩ := list_form L fun l hl => h l (by simp [hl])
    exact ⟨s :: S, rfl, fun t ht => by
      rcases List.mem_cons.1 ht with rfl | ht
      · exact hs
      · exact hS t ht⟩
end Go.Ab
set_option linter.unusedVariables false
set_option linter.unusedSimpArgs false
namespace Go.Ab
open Go.ChangeShapes Go.WideShapes Go.RowKit Go.Deep
def AV.lim : AV → Prop
  | .roI _ l => l.length ≤ reachBytes
  | .roB l => l.length ≤ reachBytes
  | _ => True
def limOk (P : Program) (t : TypeId) : Bool :=
  match P.underlying t with
  | some (.struct fs) => fs.toList.all fun f => match P.underlying f.type with
    | some (.slice e) => Nat.ble 1 (P.bytesOf e)
    | _ => true
  | _ => false
section
variable {P : Program} {H : Type} {enc : TypeId × Value → H} {W : World} {held : Bool}
theorem weightsAll_mem {e : TypeId} : ∀ {l : List (DataW H)} {d : DataW H}, d ∈ l → ∀ n ∈ d.weights P e, n ∈ DataW.weightsAll P e l
  | [], _, h, _, _ => by cases h
  | x :: r, d, h, n, hn => by
    simp only [DataW.weightsAll, List.mem_append]
    rcases List.mem_cons.mp h with rfl | h
    · exact .inl hn
    · exact .inr (weightsAll_mem h n hn)
theorem rov_len {v : AV} {n : Nat} {f : Nat → AV} (h : v.rov = some (1, n, f)) : ∀ V len cap a, GRel W noM v V → V = .slice a len cap → n = len := by
  intro V len cap a hg hV
  subst hV
  cases hg with
  | slice _ es n' f' b cap' g hr =>
    rw [h] at hr
    simp only [Option.some.injEq, Prod.mk.injEq] at hr
    exact hr.2.1
  | sliceNil _ es f' hr =>
    rw [h] at hr
    simp only [Option.some.injEq, Prod.mk.injEq] at hr
    exact hr.2.1
  | _ => simp [AV.rov] at h
theorem cell_len {t e : TypeId} {fuel : Nat} {v : Value} {x : DataW H × List MemPlace} {av : AV} {n : Nat} {f : Nat → AV} (ht : P.underlying t = some (.slice e)) (hb : Nat.ble 1 (P.bytesOf e) = true) (h : DataW.trod enc P W 0 (fun _ => true) held fuel t [v] = some x)
    (hw : (x.1.weights P t).all (· ≤ reachBytes) = true) (hr : av.rov = some (1, n, f)) (hg : GRel W noM av v) : n ≤ reachBytes := by
  rcases DataW.trod_slice ht h with ⟨hcs, _⟩ | ⟨a, len, cap, elems, rest, m, _, hcs, rfl, _, _, _, hlen, _⟩
  · obtain rfl : v = .slice none 0 0 := by simpa using hcs
    rw [rov_len hr _ _ _ _ hg rfl]; exact Nat.zero_le _
  · obtain rfl : v = .slice (some a) len cap := by simpa using hcs
    rw [rov_len hr _ _ _ _ hg rfl]
    have h1 := List.all_eq_true.mp hw ((elems.length + rest.length) * P.bytesOf e) (by simp only [DataW.weights, ht, List.length_map]; exact List.mem_cons_self ..)
    have h1 : (elems.length + rest.length) * P.bytesOf e ≤ reachBytes := by simpa using h1
    have h2 := Nat.le_of_ble_eq_true hb
    have h3 : (elems.length + rest.length) * 1 ≤ (elems.length + rest.length) * P.bytesOf e := Nat.mul_le_mul_left _ h2
    omega
theorem lim_of {c : CK} {t : TypeId} {fuel : Nat} {v : Value} {x : DataW H × List MemPlace} {av : AV} (hok : c.ok P t = true) (hb : (match P.underlying t with
    | some (.slice e) => Nat.ble 1 (P.bytesOf e)
    | _ => true) = true) (h : DataW.trod enc P W 0 (fun _ => true) held fuel t [v] = some x) (hw : (x.1.weights P t).all (· ≤ reachBytes) = true) (hv : c.v av) (hg : GRel W noM av v) : av.lim := by
  cases c with
  | int k => obtain ⟨n, rfl, _⟩ := hv; trivial
  | bool => obtain ⟨b, rfl⟩ := hv; trivial
  | ints k =>
    obtain ⟨l, rfl, _⟩ := hv
    simp only [CK.ok] at hok
    split at hok
    · rename_i e ht
      rw [ht] at hb
      exact cell_len ht hb h hw rfl hg
    · cases hok
  | bools =>
    obtain ⟨l, rfl⟩ := hv
    simp only [CK.ok] at hok
    split at hok
    · rename_i e ht
      rw [ht] at hb
      exact cell_len ht hb h hw rfl hg
    · cases hok
theorem gStructL {t : TypeId} {cks : List CK} {fuel : Nat} {cs : List Value} {x : DataW H × List MemPlace} (hs : structOk P t cks = true) (hb : limOk P t = true) (hl : cs.length = cks.length) (h : DataW.trod enc P W 0 (fun _ => true) held fuel t cs = some x) (hw : (x.1.weights P t).all (· ≤ reachBytes) = true) :
    ∃ l : List AV, (CKs cks l ∧ ∀ j, j < cks.length → (l.getD j .undef).lim) ∧ ∀ j, j < cks.length → GRel W noM (l.getD j .undef) (cs.getD j default) := by
  obtain ⟨l, h1, h2⟩ := gStruct hs hl h
  refine ⟨l, ⟨h1, fun j hj => ?_⟩, h2⟩
  unfold structOk at hs
  unfold limOk at hb
  split at hs
  · rename_i fs ht
    rw [ht] at hb
    simp only [Bool.and_eq_true] at hs
    obtain ⟨h3, h4⟩ := fieldsOk_get _ _ _ hs.1
    have hjf : j < fs.size := by simp at h3; omega
    obtain ⟨q1, q2, q3⟩ := h4 j fs[j] cks[j] (by simp [hjf]) (by simp [hj])
    obtain ⟨xs, n, _, rfl, _, hxl, hf⟩ := DataW.trod_struct ht h
    have e1 := hf j fs[j] (by simp [hjf])
    rw [q1, q2, Nat.zero_add] at e1
    have hone : (cs.drop j).take 1 = [cs.getD j default] := by
      have h2 : cs.getD j default = cs[j] := by simp [List.getD_eq_getElem?_getD, List.getElem?_eq_getElem (show j < cs.length by omega)]
      rw [h2, List.drop_eq_getElem_cons (by omega)]
      rfl
    rw [hone] at e1
    have hjx : j < xs.length := by omega
    rw [List.getElem?_eq_getElem hjx] at e1
    refine lim_of (c := cks[j]) q3 ?_ e1 ?_ ?_ (h2 j hj)
    · exact List.all_eq_true.mp hb fs[j] (by simp)
    · rw [List.all_eq_true] at hw ⊢
      intro m hm
      refine hw m ?_
      simp only [DataW.weights, ht]
      exact DataW.weights_mem_each (j := j) (t := fs[j].type) (d := xs[j].1) (by simp [hjf]) (by simp [hjx]) m hm
    · have : ∀ {cs : List CK} {l : List AV}, CKs cs l → ∀ j (hj : j < cs.length), cs[j].v (l.getD j .undef) := by
        intro cs
        induction cs with
        | nil => intro l _ j hj; simp at hj
        | cons c cs ih =>
          intro l hc j hj
          cases l with
          | nil => exact hc.elim
          | cons v l =>
            cases j with
            | zero => exact hc.1
            | succ j => simpa using ih hc.2 j (by simpa using hj)
      exact this h1 j hj
  · cases hs
theorem gStructsL {t e : TypeId} {cks : List CK} {fuel : Nat} {v : Value} {x : DataW H × List MemPlace} (ht : P.underlying t = some (.slice e)) (hs : structOk P e cks = true) (h0 : 0 < cks.length) (hb : limOk P e = true) (hw : (x.1.weights P t).all (· ≤ reachBytes) = true)
    (h : DataW.trod enc P W 0 (fun _ => true) held fuel t [v] = some x) : ∃ L : List (List AV), (∀ l ∈ L, CKs cks l ∧ ∀ j, j < cks.length → (l.getD j .undef).lim) ∧ GRel W noM (.ro cks.length (L.map .agg)) v := by
  have hce : P.cellsOf e = cks.length := by
    unfold structOk at hs
    split at hs
    · simp only [Bool.and_eq_true] at hs
      exact Nat.eq_of_beq_eq_true hs.2
    · cases hs
  rcases open_slice ht h with ⟨hcs, _⟩ | ⟨a, len, cap, m, n, D, Pl, hcs, _, hl, hm, hmm, rfl, hx⟩
  · obtain rfl : v = .slice none 0 0 := by simpa using hcs
    exact ⟨[], by simp, .sliceNil _ cks.length (fun j => ((([] : List AV).getD (j / cks.length) .undef).flat.getD (j % cks.length) .undef)) rfl⟩
  · obtain rfl : v = .slice (some a) len cap := by simpa using hcs
    simp only [if_true] at hmm
    subst hmm
    have each : ∀ i, i < len → ∃ l : List AV, (CKs cks l ∧ ∀ j, j < cks.length → (l.getD j .undef).lim) ∧ ∀ j, j < cks.length → ∃ V, W.cell? ((a.add (i * cks.length)).add j) = some V ∧ GRel W noM (l.getD j .undef) V := fun i hi => by
      obtain ⟨cs', h1, h2⟩ := hx i (by omega)
      rw [hce] at h1
      obtain ⟨_, h3, h4⟩ := World.cells?_some h1
      have hd : ((D i).weights P e).all (· ≤ reachBytes) = true := by
        rw [List.all_eq_true] at hw ⊢
        intro n hn
        refine hw n ?_
        simp only [DataW.weights, ht, List.mem_cons, List.mem_append]
        exact .inr (.inl (weightsAll_mem (List.mem_map.mpr ⟨i, by simpa using hi, rfl⟩) n hn))
      obtain ⟨l, h5, h6⟩ := gStructL hs hb h3 h2 hd
      refine ⟨l, h5, fun j hj => ⟨cs'.getD j default, ?_, h6 j hj⟩⟩
      have hj' : j < cs'.length := by omega
      rw [h4 j hj, List.getD_eq_getElem?_getD, List.getElem?_eq_getElem hj']
      rfl
    obtain ⟨E, hE⟩ := choose_lt each
    have hsp : 0 < len → a.spot = none ∧ ¬ noM a.block ∧ a.block < W.heap.size := fun hp => by
      obtain ⟨V, h1, _⟩ := (hE 0 hp).2 0 h0
      obtain ⟨q1, q2⟩ := cell_spot (a := a) (by simpa [Addr.add] using h1)
      exact ⟨q1, fun h => h, q2⟩
    have hlen : (((List.range len).map E).map AV.agg).length = len := by simp
    refine ⟨(List.range len).map E, fun l hl' => ?_, ?_⟩
    · simp only [List.mem_map, List.mem_range] at hl'
      obtain ⟨i, hi, rfl⟩ := hl'
      exact (hE i hi).1
    have hgetE : ∀ i, i < len → (((List.range len).map E).map AV.agg).getD i .undef = .agg (E i) := fun i hi => by simp [List.getD_eq_getElem?_getD, hi]
    have cell : ∀ j, j < len * cks.length → ∃ V, W.cell? ⟨a.block, a.off + j, none⟩ = some V ∧ GRel W noM (((((List.range len).map E).map AV.agg).getD (j / cks.length) .undef).flat.getD (j % cks.length) .undef) V := fun j hj => by
      have hi : j / cks.length < len := (Nat.div_lt_iff_lt_mul h0).2 hj
      have hj2 : j % cks.length < cks.length := Nat.mod_lt _ h0
      obtain ⟨V, h1, h2⟩ := (hE _ hi).2 _ hj2
      refine ⟨V, ?_, ?_⟩
      · rw [add_add, Nat.div_add_mod' j cks.length, add_eq a j (hsp (Nat.lt_of_le_of_lt (Nat.zero_le _) hi)).1] at h1
        exact h1
      · rw [hgetE _ hi]
        exact h2
    obtain ⟨G, hG⟩ := choose_lt cell
    have := GRel.slice (w := W) (M := noM) (.ro cks.length (((List.range len).map E).map AV.agg)) cks.length len (fun j => ((((List.range len).map E).map AV.agg).getD (j / cks.length) .undef).flat.getD (j % cks.length) .undef) a m G
      (by simp only [AV.rov, hlen]) hsp hl (fun i hi => by
        show ((((List.range len).map E).map AV.agg).getD i .undef).flat.length = _
        rw [hgetE i hi]
        exact (hE i hi).1.1.length) (fun j hj => (hG j hj).1) (fun j hj => (hG j hj).2)
    exact this
end
end Go.Ab
set_option linter.unusedVariables false
set_option linter.unusedSimpArgs false
namespace Go.Proofs.Ytomodeliimnddaa
open Go.Ab
theorem polls_arg {W : World} {v : Value} {L : List (List AV)} (h : ∀ l ∈ L, CKs [.int .u8, .int .u8, .int .u16, .int .i64, .int .i64, .int .i64, .int .i64, .int .i64] l) (g : GRel W noM (.ro 8 (L.map .agg)) v) : ∃ S : List Po, GRel W noM (.ro 8 (S.map poA)) v ∧ ∀ x ∈ S, 0 ≤ x.a ∧ x.a < 65536 := by
  obtain ⟨S, rfl, hS⟩ := list_form (f := fun x : Po => [AV.int .u8 x.u, .int .u8 x.f, .int .u16 x.a, .int .i64 x.n, .int .i64 x.p, .int .i64 x.e, .int .i64 x.t, .int .i64 x.r]) (Q := fun x => 0 ≤ x.a ∧ x.a < 65536) L fun l hl => by
    have hc := h l hl
    match l, hc.length, hc with
    | [u, f, a, n, p, e, t, r], _, hc =>
      obtain ⟨⟨u, rfl, _⟩, ⟨f, rfl, _⟩, ⟨a, rfl, a1, a2⟩, ⟨n, rfl, _⟩, ⟨p, rfl, _⟩, ⟨e, rfl, _⟩, ⟨t, rfl, _⟩, ⟨r, rfl, _⟩, _⟩ := hc
      exact ⟨⟨u, f, a, n, p, e, t, r⟩, rfl, a1, Int.lt_add_one_of_le a2⟩
  exact ⟨S, by rw [List.map_map] at g; exact g, hS⟩
theorem steps_arg {W : World} {v : Value} {L : List (List AV)} (h : ∀ l ∈ L, CKs [.int .i64, .int .i64, .int .i64, .ints .u16, .bools, .ints .u8, .int .u16] l ∧ ∀ j, j < 7 → (l.getD j .undef).lim) (g : GRel W noM (.ro 7 (L.map .agg)) v) :
    ∃ S : List Stp, GRel W noM (.ro 7 (S.map stA)) v ∧ ∀ x ∈ S, (x.r.length ≤ 140737488355328 ∧ x.b.length ≤ 140737488355328 ∧ x.y.length ≤ 140737488355328) ∧ isB x.y ∧ 0 ≤ x.v := by
  obtain ⟨S, rfl, hS⟩ := list_form (f := stL) (Q := fun x => (x.r.length ≤ 140737488355328 ∧ x.b.length ≤ 140737488355328 ∧ x.y.length ≤ 140737488355328) ∧ isB x.y ∧ 0 ≤ x.v) L fun l hl => by
    have hc := h l hl
    match l, hc.1.length, hc with
    | [w, n, o, r, b, y, v], _, hc =>
      obtain ⟨⟨⟨w, rfl, _⟩, ⟨n, rfl, _⟩, ⟨o, rfl, _⟩, ⟨r, rfl, _⟩, ⟨b, rfl⟩, ⟨y, rfl, hy⟩, ⟨v, rfl, v0, _⟩, _⟩, hl⟩ := hc
      have l3 : r.length ≤ reachBytes := hl 3 (by decide)
      have l4 : b.length ≤ reachBytes := hl 4 (by decide)
      have l5 : y.length ≤ reachBytes := hl 5 (by decide)
      have hr := reachBytes_lt
      exact ⟨⟨w, n, o, r, b, y, v⟩, rfl, ⟨by show r.length ≤ _; omega, by show b.length ≤ _; omega, by show y.length ≤ _; omega⟩, fun z hz => ⟨(hy z hz).1, Int.lt_add_one_of_le (hy z hz).2⟩, v0⟩
  exact ⟨S, by rw [List.map_map] at g; exact g, hS⟩
end Go.Proofs.Ytomodeliimnddaa
