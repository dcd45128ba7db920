/- Statement of layer 26: an input's age. From a statement's arguments to the engine's values; a statement's row from a contract. -/
import Derived.Test.YtomodeliimnddaaRows
import Derived.WalkKit
import Derived.ProofKit
import Derived.OpenShut
import Derived.ShutString
import Derived.ChangeOld
import Derived.Below
import Derived.Deep.Grids
import Derived.Test.YtomodeliimnddaaHMstB
import Derived.Test.YtomodeliimnddaaHEngD
set_option linter.unusedVariables false
set_option linter.unusedSimpArgs false
namespace Go.Proofs.Ytomodeliimnddaa
open Go.Ab
/- rung/runglaw26.MasterAges -/
def a16 : ACode := (.seq (.reg [⟨(some 6), .mov (.c (.bool false)), none, false⟩])
 (.seq (.seq (.reg [⟨(some 18), .call 72 [], none, false⟩, ⟨(some 19), .un .not (.t 18), none, false⟩])
 (.cond (.t 19) (.seq (.reg [⟨(some 6), .mov (.c (.bool false)), none, false⟩])
 .ret)
 .skip))
 (.seq (.seq (.reg [⟨(some 20), .mov (.t 2), none, false⟩, ⟨(some 21), .len false (.t 20), none, false⟩, ⟨(some 22), .bin .gtr .other (.t 21) (.c (.int .i64 100)), none, false⟩])
 (.cond (.t 22) (.seq (.reg [⟨(some 6), .mov (.c (.bool true)), none, false⟩])
 .ret)
 .skip))
 (.seq (.reg [⟨(some 23), .mov (.t 0), none, false⟩, ⟨(some 24), .call 68 [(.t 23), (.c (.int .i64 6))], none, false⟩, ⟨(some 25), .bin .add .other (.c (.int .i64 1)) (.t 24), none, false⟩, ⟨(some 26), .mov (.t 1), none, false⟩, ⟨(some 27), .call 68 [(.t 26), (.c (.int .i64 6))], none, false⟩, ⟨(some 0), .mov (.t 25), none, false⟩, ⟨(some 1), .mov (.t 27), none, false⟩])
 (.seq (.reg [⟨(some 29), .mov (.t 0), none, false⟩, ⟨(some 30), .build [(.int .u8 0), (.int .u8 0), (.int .u16 0), (.int .i64 0), (.int .i64 0), (.int .i64 0), (.int .i64 0), (.int .i64 0)] [(0, 1, (.c (.int .u8 9))), (1, 1, (.c (.int .u8 4))), (2, 1, (.c (.int .u16 1))), (3, 1, (.c (.int .i64 1))), (4, 1, (.c (.int .i64 7))), (5, 1, (.t 29)), (6, 1, (.c (.int .i64 1000000))), (7, 1, (.c (.int .i64 1)))], none, false⟩, ⟨(some 31), .bslice 8 .gen [(.int .u8 0), (.int .u8 0), (.int .u16 0), (.int .i64 0), (.int .i64 0), (.int .i64 0), (.int .i64 0), (.int .i64 0)] [(0, 8, (.t 30))] 1, none, false⟩, ⟨(some 32), .call 73 [(.t 31)], none, false⟩, ⟨(some 28), .mov (.t 32), none, false⟩, ⟨(some 33), .ext (.t 28) 0, none, false⟩, ⟨(some 34), .ext (.t 28) 1, none, false⟩, ⟨(some 7), .mov (.t 33), none, false⟩, ⟨(some 8), .mov (.t 34), none, false⟩])
 (.seq (.reg [⟨(some 35), .call 27 [], none, false⟩, ⟨(some 9), .mov (.t 35), none, false⟩])
 (.seq (.seq (.reg [⟨(some 36), .mov (.t 8), none, false⟩, ⟨(some 37), .bin .neq .other (.t 36) (.c (.int .i64 0)), none, false⟩])
 (.cond (.t 37) (.seq (.reg [⟨(some 6), .mov (.c (.bool false)), none, false⟩])
 .ret)
 .skip))
 (.seq (.reg [⟨(some 10), .mov (.c .nils), none, false⟩])
 (.seq (.reg [⟨(some 11), .mov (.c (.int .i64 0)), none, false⟩, ⟨(some 12), .mov (.c (.int .u16 0)), none, false⟩, ⟨(some 13), .mov (.c (.bool false)), none, false⟩])
 (.seq (.seq (.reg [⟨(some 14), .mov (.c (.int .i64 0)), none, false⟩])
 (.block 0 (.loop (.seq (.seq (.reg [⟨(some 38), .mov (.t 14), none, false⟩, ⟨(some 39), .mov (.t 2), none, false⟩, ⟨(some 40), .len false (.t 39), none, false⟩, ⟨(some 41), .bin .lss .other (.t 38) (.t 40), none, false⟩])
 (.cond (.t 41) .skip
 (.exit 0)))
 (.seq (.block 1 (.seq (.reg [⟨(some 44), .mov (.t 7), none, false⟩, ⟨(some 45), .mov (.t 9), none, false⟩, ⟨(some 46), .call 75 [(.t 44), (.t 45)], none, false⟩])
 (.seq (.reg [⟨(some 47), .mov (.t 7), none, false⟩, ⟨(some 48), .call 76 [(.t 47)], none, false⟩, ⟨(some 15), .mov (.t 48), none, false⟩])
 (.seq (.seq (.reg [⟨(some 49), .mov (.t 15), none, false⟩, ⟨(some 50), .len false (.t 49), none, false⟩, ⟨(some 51), .bin .gtr .other (.t 50) (.c (.int .i64 0)), none, false⟩])
 (.cond (.t 51) (.reg [⟨(some 52), .mov (.t 15), none, false⟩, ⟨(some 53), .mov (.t 14), none, false⟩, ⟨(some 10), .mov (.t 52), none, false⟩, ⟨(some 11), .mov (.t 53), none, false⟩])
 .skip))
 (.seq (.seq (.reg [⟨(some 54), .mov (.t 10), none, false⟩, ⟨(some 55), .len false (.t 54), none, false⟩, ⟨(some 56), .bin .eql .other (.t 55) (.c (.int .i64 1)), none, false⟩, ⟨(some 57), .mov (.t 56), none, true⟩, ⟨(some 58), .mov (.t 14), (some (57, true)), false⟩, ⟨(some 59), .mov (.t 11), (some (57, true)), false⟩, ⟨(some 60), .bin .sub .other (.t 58) (.t 59), (some (57, true)), false⟩, ⟨(some 61), .mov (.t 1), (some (57, true)), false⟩, ⟨(some 62), .bin .geq .other (.t 60) (.t 61), (some (57, true)), false⟩, ⟨(some 63), .pick (.t 57) (.t 62) (.c (.bool false)), none, false⟩])
 (.cond (.t 63) (.seq (.seq (.draw [⟨0, ⟨(some 64), .mov (.t 7), none, false⟩, false, [], []⟩, ⟨1, ⟨(some 65), .mov (.t 10), none, false⟩, false, [], []⟩, ⟨2, ⟨(some 66), .idx 3 none true (.t 65) (.c (.int .i64 0)), none, false⟩, false, [], []⟩, ⟨3, ⟨(some 67), .fld 0 1 false (.t 66), none, false⟩, false, [], []⟩, ⟨4, ⟨(some 68), .load false 1 (.t 67), none, false⟩, false, [], []⟩, ⟨5, ⟨(some 69), .mov (.t 2), none, false⟩, false, [], []⟩, ⟨6, ⟨(some 70), .mov (.t 14), none, false⟩, false, [], []⟩, ⟨7, ⟨(some 71), .idx 1 none false (.t 69) (.t 70), none, false⟩, false, [], []⟩, ⟨8, ⟨(some 72), .load false 1 (.t 71), none, false⟩, false, [], []⟩, ⟨9, ⟨(some 73), .bin .shr .other (.t 72) (.c (.int .u64 8)), none, false⟩, false, [], []⟩, ⟨10, ⟨(some 74), .conv (.int .u8) (.t 73), none, false⟩, false, [], []⟩, ⟨11, ⟨(some 75), .mov (.t 2), none, false⟩, false, [], []⟩, ⟨12, ⟨(some 76), .mov (.t 14), none, false⟩, false, [], []⟩, ⟨13, ⟨(some 77), .idx 1 none false (.t 75) (.t 76), none, false⟩, false, [], []⟩, ⟨14, ⟨(some 78), .load false 1 (.t 77), none, false⟩, false, [], []⟩, ⟨15, ⟨(some 79), .conv (.int .u8) (.t 78), none, false⟩, false, [], []⟩, ⟨16, ⟨(some 80), .bslice 1 (.int .u8) [(.int .u8 0), (.int .u8 0), (.int .u8 0), (.int .u8 0)] [(0, 1, (.c (.int .u8 4))), (1, 1, (.c (.int .u8 2))), (2, 1, (.t 74)), (3, 1, (.t 79))] 4, none, false⟩, false, [], []⟩, ⟨17, ⟨(some 81), .build [(.int .u16 0), (.int .u8 0), .nils] [(0, 1, (.t 68)), (1, 1, (.c (.int .u8 9))), (2, 1, (.t 80))], none, false⟩, false, [], []⟩, ⟨18, ⟨(some 82), .call 77 [(.t 64), (.t 81)], none, false⟩, true, [16], []⟩, ⟨19, ⟨(some 83), .un .not (.t 82), none, false⟩, false, [], []⟩])
 (.cond (.t 83) (.seq (.reg [⟨(some 6), .mov (.c (.bool false)), none, false⟩])
 .ret)
 .skip))
 (.reg [⟨(some 84), .mov (.t 2), none, false⟩, ⟨(some 85), .mov (.t 14), none, false⟩, ⟨(some 86), .idx 1 none false (.t 84) (.t 85), none, false⟩, ⟨(some 87), .load false 1 (.t 86), none, false⟩, ⟨(some 12), .mov (.t 87), none, false⟩, ⟨(some 13), .mov (.c (.bool true)), none, false⟩, ⟨(some 10), .mov (.c .nils), none, false⟩]))
 .skip))
 (.seq (.reg [⟨(some 88), .mov (.t 7), none, false⟩, ⟨(some 89), .mov (.t 9), none, false⟩, ⟨(some 90), .call 78 [(.t 88), (.t 89)], none, false⟩])
 (.seq (.reg [⟨(some 92), .mov (.t 9), none, false⟩, ⟨(some 93), .call 44 [(.t 92), (.c (.int .i64 4)), (.c (.int .i64 7))], none, false⟩, ⟨(some 91), .mov (.t 93), none, false⟩, ⟨(some 94), .ext (.t 91) 0, none, false⟩, ⟨(some 95), .ext (.t 91) 1, none, false⟩, ⟨(some 16), .mov (.t 94), none, false⟩, ⟨(some 17), .mov (.t 95), none, false⟩])
 (.seq (.reg [⟨(some 96), .mov (.t 16), none, false⟩, ⟨(some 97), .mov (.t 12), none, false⟩, ⟨(some 98), .bin .neq .other (.t 96) (.t 97), none, false⟩, ⟨(some 99), .mov (.t 98), none, true⟩, ⟨(some 100), .mov (.t 13), (some (99, false)), false⟩, ⟨(some 101), .mov (.t 100), (some (99, false)), true⟩, ⟨(some 102), .mov (.t 7), (some (101, true)), false⟩, ⟨(some 103), .call 79 [(.t 102), (.c (.int .i64 0))], (some (101, true)), false⟩, ⟨(some 104), .mov (.t 0), (some (101, true)), false⟩, ⟨(some 105), .mov (.t 1), (some (101, true)), false⟩, ⟨(some 106), .bin .add .other (.t 104) (.t 105), (some (101, true)), false⟩, ⟨(some 107), .bin .gtr .other (.t 103) (.t 106), (some (101, true)), false⟩, ⟨(some 108), .pick (.t 101) (.t 107) (.c (.bool false)), (some (99, false)), false⟩, ⟨(some 109), .pick (.t 99) (.c (.bool true)) (.t 108), none, false⟩, ⟨(some 110), .mov (.t 109), none, true⟩, ⟨(some 111), .mov (.t 7), (some (110, false)), false⟩, ⟨(some 112), .call 80 [(.t 111), (.c (.int .i64 0))], (some (110, false)), false⟩, ⟨(some 113), .pick (.t 110) (.c (.bool true)) (.t 112), none, false⟩])
 (.cond (.t 113) (.seq (.reg [⟨(some 6), .mov (.c (.bool false)), none, false⟩])
 .ret)
 .skip)))))))))
 (.reg [⟨(some 42), .mov (.t 14), none, false⟩, ⟨(some 43), .bin .add .other (.t 42) (.c (.int .i64 1)), none, false⟩, ⟨(some 14), .mov (.t 43), none, false⟩]))))))
 (.seq (.reg [⟨(some 6), .mov (.c (.bool true)), none, false⟩])
 .ret)))))))))))
def r16 : List ARes := [.t 6]
theorem c16 : compF Try.prog Try.f16 = some (a16, r16) := by kernel_rfl

theorem b16 : hasBody Try.prog 16 = true := by kernel_rfl
theorem g16 : Try.prog.funcs[16]? = some Try.f16 := by kernel_rfl

def ap (e : Int) : Po := ⟨9, 4, 1, 1, 7, e, 1000000, 1⟩
def ax (e si : Int) (w : Bool) (id le qf qa qn ag : Int) (l : List Int) : Pl := ⟨ap e, 4, si, w, id, le, qf, qa, qn, [], [], 0, false, ag, l⟩
theorem ax_due (e si id le qf qa qn ag L : Int) (l : List Int) (I : Img) (h : si = -1 ∨ (0 ≤ si ∧ si ≤ 1000 ∧ e ≤ si + 1)) : bgN ([ax e si false id le qf qa qn ag l].map Pl.older) I L 1 = ([ax e 0 true (IntKind.u16.wrap (IntKind.u32.wrap (L + 1))) 1000000 4 1 1 (IntKind.i64.wrap (ag + 1)) l], IntKind.u32.wrap (L + 1), [⟨IntKind.u16.wrap (IntKind.u32.wrap (L + 1)), 9, [4, 0, 1, 0, 1]⟩]) := by
  have hd : (ax e si false id le qf qa qn ag l).older.due = true := by
    unfold Pl.due Pl.older
    rcases h with rfl | ⟨h0, h1, h2⟩
    · rfl
    · show (!(false || (decide ((if si ≥ 0 then IntKind.i64.wrap (si + 1) else si) ≥ 0) && decide ((if si ≥ 0 then IntKind.i64.wrap (si + 1) else si) < e)))) = true
      rw [if_pos h0, w64i (by omega) (by omega), decide_eq_false (show ¬ si + 1 < e by omega), Bool.and_false]; rfl
  rw [bg_due hd, asks_rd (show (4 : Int) < 5 by decide), sends_rd (show (4 : Int) < 5 by decide)]
  rfl
theorem ax_not (e si id le qf qa qn ag L : Int) (w : Bool) (l : List Int) (I : Img) (h0 : 0 ≤ si) (h1 : si ≤ 1000) (h : w = true ∨ si + 1 < e) : bgN ([ax e si w id le qf qa qn ag l].map Pl.older) I L 1 = ([ax e (si + 1) w id le qf qa qn (IntKind.i64.wrap (ag + 1)) l], L, []) := by
  have ho : (ax e si w id le qf qa qn ag l).older = ax e (si + 1) w id le qf qa qn (IntKind.i64.wrap (ag + 1)) l := by
    show (⟨ap e, 4, if si ≥ 0 then IntKind.i64.wrap (si + 1) else si, w, id, le, qf, qa, qn, [], [], 0, false, IntKind.i64.wrap (ag + 1), l⟩ : Pl) = _
    rw [if_pos h0, w64i (by omega) (by omega)]; rfl
  have hd : (ax e si w id le qf qa qn ag l).older.due = false := by
    rw [ho]
    show (!(w || (decide (si + 1 ≥ 0) && decide (si + 1 < e)))) = false
    rcases h with rfl | h
    · rfl
    · rw [decide_eq_true (show si + 1 ≥ 0 by omega), decide_eq_true h]; simp
  rw [bg_not hd, ho]
theorem ax_good (e si id le ag v : Int) (l : List Int) (h0 : 0 ≤ v) (h1 : v < 65536) : takeP id 9 (good 4 v) [ax e si true id le 4 1 1 ag l] = (true, [ax e si false id le 4 1 1 0 [v]]) := by
  have ho : orepS (ax e si true id le 4 1 1 ag l).rq (good 4 v) = (⟨4, 0, 0, 0, [], [v]⟩, 0) := orep_good 4 1 v (.inr rfl) h0 h1
  rw [take_one_yes]
  · unfold gotP
    rw [ho, if_pos rfl]
    rfl
  · unfold hitB
    rw [ho]
    show (true && (id == id) && ((9 : Int) == 9) && ((0 : Int) == 0)) = true
    rw [beq_self_eq_true]; rfl
theorem okx_ax (e si id le ag : Int) (l : List Int) : OkX [ax e si true id le 4 1 1 ag l] := mem_one ⟨(by decide : (0 : Int) ≤ 1), (by decide : (1 : Int) < 65536), Nat.zero_le _, Nat.zero_le _, fun _ => rfl⟩
theorem ax_latch (J : Img) (e si : Int) (w : Bool) (id le qf qa qn ag v : Int) : latchN J [ax e si w id le qf qa qn ag [v]] [ax e si w id le qf qa qn ag [v]].length = J.put 4 7 v := rfl
theorem ax_latch0 (J : Img) (e si : Int) (w : Bool) (id le qf qa qn ag : Int) : latchN J [ax e si w id le qf qa qn ag []] [ax e si w id le qf qa qn ag []].length = J := rfl
theorem getV_put16 (J : Img) (a i v : Int) (h : inA a i = true) : getV (J.put a i v).o a i = bitV a v := by
  unfold getV
  rw [if_pos h]
  show (putO J.o a i v) a.toNat i.toNat = _
  unfold putO
  rw [if_pos h]
  unfold set2
  rw [if_pos ⟨rfl, rfl⟩]
theorem one_fam16 {s : St} {c : Nat} {x : Pl} (h : s.get (c + (0 + 3)) = some (plC x)) : ∀ j (hj : j < [x].length), s.get (c + (j + 3)) = some (plC [x][j]) := fun j hj => by
  obtain rfl : j = 0 := by have h : j < 1 := hj; omega
  exact h
/-- what is known at the head of the loop -/
structure LA where
  i : Nat
  w : Bool
  so : Bool
  si : Int
  ag : Int
  id : Int
  le : Int
  qf : Int
  qa : Int
  qn : Int
  L : Int
  sc : Int
  lv : Int
  l : List Int
  J : Img
def LA.fs (a : LA) : List Fr := if a.w then [⟨a.id, 9, [4, 0, 1, 0, 1]⟩] else []
structure LA.Ok (a : LA) (n : Nat) (e late : Int) : Prop where
  hi : a.i ≤ n
  g0 : 0 ≤ a.ag
  g1 : a.ag ≤ a.i
  hw : a.w = true → (a.i : Int) - a.sc = a.si + 1 ∧ 0 ≤ a.si ∧ a.si + 1 ≤ late ∧ a.qf = 4 ∧ a.qa = 1 ∧ a.qn = 1
  hs : a.w = true → a.so = true → a.ag ≤ e + a.si
  hn : a.w = false → a.so = true → a.si = late + a.ag ∧ (a.ag = 0 ∨ late + a.ag < e)
  hz : a.w = false → a.so = false → a.si = -1
  ll : a.so = true → a.l = [a.lv]
  l0 : a.so = false → a.l = [] ∧ a.lv = 0
  hJ : getV a.J.o 4 7 = a.lv
  v0 : 0 ≤ a.lv
  v1 : a.lv < 65536
theorem LA.ok0 (n : Nat) (e late : Int) : LA.Ok ⟨0, false, false, -1, 0, 0, 0, 0, 0, 0, 0, 0, 0, [], .zero⟩ n e late :=
  ⟨Nat.zero_le _, by decide, by decide, (fun h => by cases h), (fun h => by cases h), (fun _ h => by cases h), (fun _ _ => rfl), (fun h => by cases h), (fun _ => ⟨rfl, rfl⟩), (by kernel_rfl : getV Img.zero.o 4 7 = 0), by decide, by decide⟩
set_option maxRecDepth 20000 in
set_option maxHeartbeats 4000000 in
theorem law16 (every late0 : Int) (V : List Int) (hV : ∀ x ∈ V, 0 ≤ x ∧ x < 65536) : Ev Try.prog 16 [.int .i64 every, .int .i64 late0, .roI .u16 V] (.bool true) := by
  refine FrzK.ev rfl (trF g16 b16 c16 ?_)
  conv => whnf
  refine Ev.call known26_ev ?_
  conv => whnf
  refine condF (fun h100 => ?_) (fun _ => ?_)
  rotate_left
  · conv => whnf
    exact FrzK.le (Le.refl _)
  have h100 : V.length ≤ 100 := by simp at h100; omega
  conv => whnf
  refine Ev.call (place_ev every 6 (by decide) (by decide)) ?_
  conv => whnf
  have he := place_range every 6 (by decide)
  have hl := place_range late0 6 (by decide)
  generalize placeS every 6 = e0 at *
  rw [w64i (n := 1 + e0) (by omega) (by omega)]
  refine Ev.call (place_ev late0 6 (by decide) (by decide)) ?_
  generalize placeS late0 6 = la at *
  obtain ⟨ee, hee⟩ : ∃ ee, ee = 1 + e0 := ⟨_, rfl⟩
  rw [← hee]
  conv => whnf
  have hal : allR [ap ee] = true := allR_one (right_of (by decide) (by decide) (by decide) (by decide) (by decide) (by omega) (by decide) (by decide))
  refine pkNew (S := [ap ee]) ⟨see_polls0 (S := [ap ee]) rfl, trivial⟩ (mem_one ⟨(by decide : (0 : Int) ≤ 1), (by decide : (1 : Int) < 65536)⟩) (by decide : (1 : Nat) ≤ 32) hal rfl ?_
  conv => whnf
  refine newCall New_tr ?_
  conv => whnf
  refine loopI (α := {a : LA // a.Ok V.length ee la}) (fun ⟨a, _⟩ => [(0, .int .i64 ee), (1, .int .i64 la), (2, .roI .u16 V), (7, .ptr 1 0), (9, .ptr 41 0), (10, .sl 3 42 0 a.fs.length), (11, .int .i64 a.sc), (12, .int .u16 a.lv), (13, .bool a.so), (14, .int .i64 a.i)]) (fun ⟨a, _⟩ => ⟨43, [(1, some (msP 1 1 a.L .nils)), (2, some (mrP 1 1)), (41, some (imC a.J)), (42, some (.obj (frsA a.fs)))] ++ famP 1 0 [ax ee a.si a.w a.id a.le a.qf a.qa a.qn a.ag a.l]⟩) (fun ⟨a, _⟩ => V.length - a.i) ⟨_, LA.ok0 _ _ _⟩ ?_ fun ⟨a, ha⟩ => ?_
  · exact subPk (c := 1) (X := [ax ee (-1) false 0 0 0 0 0 0 []]) [(42, none)] rfl rfl rfl (by decide : (1 : Nat) ≤ 36) (fun h _ h2 => rn1 (by omega)) rfl rfl ⟨⟨rfl, rfl⟩, ⟨rfl, rfl⟩, ⟨rfl, rfl⟩, ⟨rfl, rfl⟩, ⟨rfl, rfl⟩, ⟨rfl, rfl⟩, ⟨rfl, rfl⟩, ⟨rfl, rfl⟩, ⟨rfl, rfl⟩, ⟨rfl, rfl⟩, trivial⟩ ⟨⟨rfl, rfl, rfl⟩, ⟨mrP_hokI (fun h _ h2 => rn1 (by omega)) rfl, rfl, by show _ = some ((mrP 1 1).ren _); rw [mrP_renI (fun h _ h2 => rn1 (by omega))]; rfl⟩, ⟨trivial, rfl, rfl⟩, ⟨rfl, rfl, rfl⟩, trivial⟩ (one_fam16 rfl)
  obtain ⟨i, w, so, si, ag, id, le, qf, qa, qn, L, sc, lv, l, J⟩ := a
  obtain ⟨hi, g0, g1, hw, hs, hn, hz, ll, l0, hJ, v0, v1⟩ := ha
  have hi : i ≤ V.length := hi
  have g0 : 0 ≤ ag := g0
  have g1 : ag ≤ i := g1
  have hJ : getV J.o 4 7 = lv := hJ
  have v0 : 0 ≤ lv := v0
  conv => whnf
  by_cases hlt : i < V.length
  rotate_left
  · refine condN (by simp; omega) ?_
    conv => whnf
    exact FrzK.le (Le.refl _)
  refine condY (by simp; omega) ?_
  conv => whnf
  have hvi : 0 ≤ V.getD i 0 ∧ V.getD i 0 < 65536 := by
    have e : V.getD i 0 = V[i] := by simp [List.getD_eq_getElem?_getD, List.getElem?_eq_getElem hlt]
    rw [e]; exact hV _ (List.getElem_mem hlt)
  have hag : IntKind.i64.wrap (ag + 1) = ag + 1 := w64i (by omega) (by omega)
  have hii : IntKind.i64.wrap ((i : Int) - (i : Int)) = 0 := by rw [Int.sub_self]; rfl
  cases so <;> cases w
  · have hz : si = -1 := hz rfl rfl
    obtain ⟨hl0, hv0⟩ : l = [] ∧ lv = 0 := l0 rfl
    subst hl0; subst hv0
    with_reducible (first | refine unc1 ?_ | refine unc2 ?_ | refine unc3 ?_ | refine unc4 ?_ | refine unc5 ?_ | refine unc6 ?_ | refine unc7 ?_ | refine unc8 ?_ | refine unc9 ?_ | refine unc10 ?_ | refine unc11 ?_ | refine unc12 ?_ | refine unc13 ?_ | refine unc14 ?_ | refine unc15 ?_ | refine unc16 ?_ | skip)
    refine pkBeginA (last := L) (I := J) (X := [ax ee (si) false (id) (le) qf qa qn (ag) []]) ?_ (by decide : (1 : Nat) ≤ 36) (mem_one ⟨(by decide : (1 : Int) ≤ 1), (by decide : (1 : Int) ≤ 64)⟩) ?_ ?_ ?_ ?_ (ax_due ee si id le qf qa qn ag L [] J (by omega)) ?_
    · exact ⟨rfl, rfl, rfl, outN⟩
    · rfl
    · rfl
    · exact .inr (by decide)
    · rfl
    conv => whnf
    with_reducible (first | refine unc1 ?_ | refine unc2 ?_ | refine unc3 ?_ | refine unc4 ?_ | refine unc5 ?_ | refine unc6 ?_ | refine unc7 ?_ | refine unc8 ?_ | refine unc9 ?_ | refine unc10 ?_ | refine unc11 ?_ | refine unc12 ?_ | refine unc13 ?_ | refine unc14 ?_ | refine unc15 ?_ | refine unc16 ?_ | skip)
    refine pkOutA (last := IntKind.u32.wrap (L + 1)) (X := [ax ee (0) true (IntKind.u16.wrap (IntKind.u32.wrap (L + 1))) (1000000) 4 1 1 (IntKind.i64.wrap (ag + 1)) []]) (oc := .sl 3 43 0 1) ?_ (by decide : (1 : Nat) ≤ 36) ?_
    · exact ⟨rfl, rfl, rfl, outS _ _ _⟩
    conv => whnf
    refine condF (fun hla => ?_) (fun hla => ?_)
    · have hla : 0 < la := by
        have : ¬ (IntKind.i64.wrap ((i : Int) - (i : Int)) ≥ la) := by simpa using hla
        rw [hii] at this; omega
      conv => whnf
      with_reducible (first | refine unc1 ?_ | refine unc2 ?_ | refine unc3 ?_ | refine unc4 ?_ | refine unc5 ?_ | refine unc6 ?_ | refine unc7 ?_ | refine unc8 ?_ | refine unc9 ?_ | refine unc10 ?_ | refine unc11 ?_ | refine unc12 ?_ | refine unc13 ?_ | refine unc14 ?_ | refine unc15 ?_ | refine unc16 ?_ | skip)
      refine pkLatchA (last := IntKind.u32.wrap (L + 1)) (X := [ax ee (0) true (IntKind.u16.wrap (IntKind.u32.wrap (L + 1))) (1000000) 4 1 1 (IntKind.i64.wrap (ag + 1)) []]) (oc := .nils) (J := J) ?_ (by decide : (1 : Nat) ≤ 36) (mem_one ⟨(by decide : (0 : Nat) ≤ 1000), (fun _ h => by cases h)⟩) ?_ ?_ ?_
      · exact ⟨rfl, rfl, rfl, outN⟩
      · exact .inr (by decide)
      · rfl
      rw [ax_latch0 J]
      conv => whnf
      refine blkCall (Get_tr J 4 7) rfl rfl rfl ?_
      rw [hJ]
      conv => whnf
      with_reducible (first | refine unc1 ?_ | refine unc2 ?_ | refine unc3 ?_ | refine unc4 ?_ | refine unc5 ?_ | refine unc6 ?_ | refine unc7 ?_ | refine unc8 ?_ | refine unc9 ?_ | refine unc10 ?_ | refine unc11 ?_ | refine unc12 ?_ | refine unc13 ?_ | refine unc14 ?_ | refine unc15 ?_ | refine unc16 ?_ | skip)
      refine pkStale (last := IntKind.u32.wrap (L + 1)) (X := [ax ee (0) true (IntKind.u16.wrap (IntKind.u32.wrap (L + 1))) (1000000) 4 1 1 (IntKind.i64.wrap (ag + 1)) []]) (oc := .nils) ?_ (by decide : (1 : Nat) ≤ 36) (by decide) (by decide : (0 : Int) < 1) ?_
      · exact ⟨rfl, rfl, rfl, outN⟩
      conv => whnf
      refine ⟨⟨⟨i + 1, true, false, 0, IntKind.i64.wrap (ag + 1), IntKind.u16.wrap (IntKind.u32.wrap (L + 1)), 1000000, 4, 1, 1, IntKind.u32.wrap (L + 1), i, 0, [], J⟩, ⟨(by show i + 1 ≤ V.length; omega), (by show 0 ≤ IntKind.i64.wrap (ag + 1); omega), (by show IntKind.i64.wrap (ag + 1) ≤ ((i + 1 : Nat) : Int); omega), (fun _ => ⟨by show ((i + 1 : Nat) : Int) - (i : Int) = 0 + 1; omega, Int.le_refl _, by show (0 : Int) + 1 ≤ la; omega, rfl, rfl, rfl⟩), (fun _ h => by cases h), (fun _ h => by cases h), (fun h => by cases h), (fun h => by cases h), (fun _ => ⟨rfl, rfl⟩), (hJ), (v0), (v1)⟩⟩, subPk (c := 1) (X := [ax ee (0) true (IntKind.u16.wrap (IntKind.u32.wrap (L + 1))) (1000000) 4 1 1 (IntKind.i64.wrap (ag + 1)) []]) [(42, some 43)] rfl rfl rfl (by decide : (1 : Nat) ≤ 36) (fun h _ h2 => rn1 (by omega)) rfl rfl ⟨⟨rfl, rfl⟩, ⟨rfl, rfl⟩, ⟨rfl, rfl⟩, ⟨rfl, rfl⟩, ⟨rfl, rfl⟩, ⟨rfl, rfl⟩, ⟨rfl, rfl⟩, ⟨rfl, rfl⟩, ⟨rfl, rfl⟩, ⟨?_, rfl⟩, trivial⟩ ⟨⟨rfl, rfl, rfl⟩, ⟨mrP_hokI (fun h _ h2 => rn1 (by omega)) rfl, rfl, by show _ = some ((mrP 1 1).ren _); rw [mrP_renI (fun h _ h2 => rn1 (by omega))]; rfl⟩, ⟨trivial, rfl, rfl⟩, ⟨rfl, rfl, rfl⟩, trivial⟩ (one_fam16 rfl), by show V.length - (i + 1) < V.length - i; omega⟩
      show AV.int .i64 (IntKind.i64.wrap ((i : Int) + 1)) = AV.int .i64 ((i + 1 : Nat) : Int)
      rw [s64 (by omega)]
    · have hla : la = 0 := by
        have : IntKind.i64.wrap ((i : Int) - (i : Int)) ≥ la := by simpa using hla
        rw [hii] at this; omega
      conv => whnf
      refine condT (by simp; omega) ?_
      conv => whnf
      refine condT (by simp; omega) ?_
      conv => whnf
      with_reducible (first | refine unc1 ?_ | refine unc2 ?_ | refine unc3 ?_ | refine unc4 ?_ | refine unc5 ?_ | refine unc6 ?_ | refine unc7 ?_ | refine unc8 ?_ | refine unc9 ?_ | refine unc10 ?_ | refine unc11 ?_ | refine unc12 ?_ | refine unc13 ?_ | refine unc14 ?_ | refine unc15 ?_ | refine unc16 ?_ | skip)
      refine pkTake (last := IntKind.u32.wrap (L + 1)) (X := [ax ee (0) true (IntKind.u16.wrap (IntKind.u32.wrap (L + 1))) (1000000) 4 1 1 (IntKind.i64.wrap (ag + 1)) []]) (oc := .nils) (h := 44) (l := good 4 (V.getD i 0)) ?_ (by decide : (1 : Nat) ≤ 36) (okx_ax _ _ _ _ _ _) (by show 4 ≤ 1000; decide) ?_ rfl (ax_good ee _ _ _ _ (V.getD i 0) _ hvi.1 hvi.2) ?_
      · exact ⟨rfl, rfl, rfl, outN⟩
      · rfl
      conv => whnf
      refine condT (by simp; omega) ?_
      conv => whnf
      with_reducible (first | refine unc1 ?_ | refine unc2 ?_ | refine unc3 ?_ | refine unc4 ?_ | refine unc5 ?_ | refine unc6 ?_ | refine unc7 ?_ | refine unc8 ?_ | refine unc9 ?_ | refine unc10 ?_ | refine unc11 ?_ | refine unc12 ?_ | refine unc13 ?_ | refine unc14 ?_ | refine unc15 ?_ | refine unc16 ?_ | skip)
      refine pkLatchA (last := IntKind.u32.wrap (L + 1)) (X := [ax ee (0) false (IntKind.u16.wrap (IntKind.u32.wrap (L + 1))) (1000000) 4 1 1 (0) [(V.getD i 0)]]) (oc := .nils) (J := J) ?_ (by decide : (1 : Nat) ≤ 36) (mem_one ⟨(by decide : (1 : Nat) ≤ 1000), mem_one hvi.1⟩) ?_ ?_ ?_
      · exact ⟨rfl, rfl, rfl, outN⟩
      · exact .inr (by decide)
      · rfl
      rw [ax_latch J]
      conv => whnf
      refine blkCall (Get_tr (J.put 4 7 (V.getD i 0)) 4 7) rfl rfl rfl ?_
      rw [getV_put16 J 4 7 (V.getD i 0) rfl, show bitV 4 (V.getD i 0) = (V.getD i 0) from rfl]
      conv => whnf
      refine condN (by show ((V.getD i 0) != (V.getD i 0)) = false; simp) ?_
      conv => whnf
      with_reducible (first | refine unc1 ?_ | refine unc2 ?_ | refine unc3 ?_ | refine unc4 ?_ | refine unc5 ?_ | refine unc6 ?_ | refine unc7 ?_ | refine unc8 ?_ | refine unc9 ?_ | refine unc10 ?_ | refine unc11 ?_ | refine unc12 ?_ | refine unc13 ?_ | refine unc14 ?_ | refine unc15 ?_ | refine unc16 ?_ | skip)
      refine pkAge (last := IntKind.u32.wrap (L + 1)) (X := [ax ee (0) false (IntKind.u16.wrap (IntKind.u32.wrap (L + 1))) (1000000) 4 1 1 (0) [(V.getD i 0)]]) (oc := .nils) ?_ (by decide : (1 : Nat) ≤ 36) (by decide) (by decide : (0 : Int) < 1) ?_
      · exact ⟨rfl, rfl, rfl, outN⟩
      conv => whnf
      refine condN (by show decide ((0 : Int) > IntKind.i64.wrap (ee + la)) = false; rw [w64i (n := ee + la) (by omega) (by omega)]; exact decide_eq_false (by omega)) ?_
      conv => whnf
      with_reducible (first | refine unc1 ?_ | refine unc2 ?_ | refine unc3 ?_ | refine unc4 ?_ | refine unc5 ?_ | refine unc6 ?_ | refine unc7 ?_ | refine unc8 ?_ | refine unc9 ?_ | refine unc10 ?_ | refine unc11 ?_ | refine unc12 ?_ | refine unc13 ?_ | refine unc14 ?_ | refine unc15 ?_ | refine unc16 ?_ | skip)
      refine pkStale (last := IntKind.u32.wrap (L + 1)) (X := [ax ee (0) false (IntKind.u16.wrap (IntKind.u32.wrap (L + 1))) (1000000) 4 1 1 (0) [(V.getD i 0)]]) (oc := .nils) ?_ (by decide : (1 : Nat) ≤ 36) (by decide) (by decide : (0 : Int) < 1) ?_
      · exact ⟨rfl, rfl, rfl, outN⟩
      conv => whnf
      refine ⟨⟨⟨i + 1, false, true, 0, 0, IntKind.u16.wrap (IntKind.u32.wrap (L + 1)), 1000000, 4, 1, 1, IntKind.u32.wrap (L + 1), i, (V.getD i 0), [(V.getD i 0)], (J.put 4 7 (V.getD i 0))⟩, ⟨(by show i + 1 ≤ V.length; omega), (Int.le_refl _), (by show (0 : Int) ≤ ((i + 1 : Nat) : Int); omega), (fun h => by cases h), (fun h => by cases h), (fun _ _ => ⟨by show (0 : Int) = la + 0; omega, .inl rfl⟩), (fun _ h => by cases h), (fun _ => rfl), (fun h => by cases h), (getV_put16 J 4 7 (V.getD i 0) rfl), (hvi.1), (hvi.2)⟩⟩, subPk (c := 1) (X := [ax ee (0) false (IntKind.u16.wrap (IntKind.u32.wrap (L + 1))) (1000000) 4 1 1 (0) [(V.getD i 0)]]) [(42, none)] rfl rfl rfl (by decide : (1 : Nat) ≤ 36) (fun h _ h2 => rn1 (by omega)) rfl rfl ⟨⟨rfl, rfl⟩, ⟨rfl, rfl⟩, ⟨rfl, rfl⟩, ⟨rfl, rfl⟩, ⟨rfl, rfl⟩, ⟨rfl, rfl⟩, ⟨rfl, rfl⟩, ⟨rfl, rfl⟩, ⟨rfl, rfl⟩, ⟨?_, rfl⟩, trivial⟩ ⟨⟨rfl, rfl, rfl⟩, ⟨mrP_hokI (fun h _ h2 => rn1 (by omega)) rfl, rfl, by show _ = some ((mrP 1 1).ren _); rw [mrP_renI (fun h _ h2 => rn1 (by omega))]; rfl⟩, ⟨trivial, rfl, rfl⟩, ⟨rfl, rfl, rfl⟩, trivial⟩ (one_fam16 rfl), by show V.length - (i + 1) < V.length - i; omega⟩
      show AV.int .i64 (IntKind.i64.wrap ((i : Int) + 1)) = AV.int .i64 ((i + 1 : Nat) : Int)
      rw [s64 (by omega)]
  · obtain ⟨h1, h2, h3, h4, h5, h6⟩ : (i : Int) - sc = si + 1 ∧ 0 ≤ si ∧ si + 1 ≤ la ∧ qf = 4 ∧ qa = 1 ∧ qn = 1 := hw rfl
    subst h4; subst h5; subst h6
    obtain ⟨hl0, hv0⟩ : l = [] ∧ lv = 0 := l0 rfl
    subst hl0; subst hv0
    with_reducible (first | refine unc1 ?_ | refine unc2 ?_ | refine unc3 ?_ | refine unc4 ?_ | refine unc5 ?_ | refine unc6 ?_ | refine unc7 ?_ | refine unc8 ?_ | refine unc9 ?_ | refine unc10 ?_ | refine unc11 ?_ | refine unc12 ?_ | refine unc13 ?_ | refine unc14 ?_ | refine unc15 ?_ | refine unc16 ?_ | skip)
    refine pkBeginA (last := L) (I := J) (X := [ax ee (si) true (id) (le) 4 1 1 (ag) []]) ?_ (by decide : (1 : Nat) ≤ 36) (mem_one ⟨(by decide : (1 : Int) ≤ 1), (by decide : (1 : Int) ≤ 64)⟩) ?_ ?_ ?_ ?_ (ax_not ee si id le 4 1 1 ag L true [] J (by omega) (by omega) (.inl rfl)) ?_
    · exact ⟨rfl, rfl, rfl, outN⟩
    · rfl
    · rfl
    · exact .inr (by decide)
    · rfl
    conv => whnf
    with_reducible (first | refine unc1 ?_ | refine unc2 ?_ | refine unc3 ?_ | refine unc4 ?_ | refine unc5 ?_ | refine unc6 ?_ | refine unc7 ?_ | refine unc8 ?_ | refine unc9 ?_ | refine unc10 ?_ | refine unc11 ?_ | refine unc12 ?_ | refine unc13 ?_ | refine unc14 ?_ | refine unc15 ?_ | refine unc16 ?_ | skip)
    refine pkOutA (last := L) (X := [ax ee (si + 1) true (id) (le) 4 1 1 (IntKind.i64.wrap (ag + 1)) []]) (oc := .sl 3 43 0 0) ?_ (by decide : (1 : Nat) ≤ 36) ?_
    · exact ⟨rfl, rfl, rfl, outS _ _ _⟩
    conv => whnf
    have hsc : IntKind.i64.wrap ((i : Int) - sc) = si + 1 := by rw [h1]; exact w64i (by omega) (by omega)
    refine condF (fun hla => ?_) (fun hla => ?_)
    · have hla : si + 1 < la := by
        have : ¬ (IntKind.i64.wrap ((i : Int) - sc) ≥ la) := by simpa using hla
        rw [hsc] at this; omega
      conv => whnf
      with_reducible (first | refine unc1 ?_ | refine unc2 ?_ | refine unc3 ?_ | refine unc4 ?_ | refine unc5 ?_ | refine unc6 ?_ | refine unc7 ?_ | refine unc8 ?_ | refine unc9 ?_ | refine unc10 ?_ | refine unc11 ?_ | refine unc12 ?_ | refine unc13 ?_ | refine unc14 ?_ | refine unc15 ?_ | refine unc16 ?_ | skip)
      refine pkLatchA (last := L) (X := [ax ee (si + 1) true (id) (le) 4 1 1 (IntKind.i64.wrap (ag + 1)) []]) (oc := .nils) (J := J) ?_ (by decide : (1 : Nat) ≤ 36) (mem_one ⟨(by decide : (0 : Nat) ≤ 1000), (fun _ h => by cases h)⟩) ?_ ?_ ?_
      · exact ⟨rfl, rfl, rfl, outN⟩
      · exact .inr (by decide)
      · rfl
      rw [ax_latch0 J]
      conv => whnf
      refine blkCall (Get_tr J 4 7) rfl rfl rfl ?_
      rw [hJ]
      conv => whnf
      with_reducible (first | refine unc1 ?_ | refine unc2 ?_ | refine unc3 ?_ | refine unc4 ?_ | refine unc5 ?_ | refine unc6 ?_ | refine unc7 ?_ | refine unc8 ?_ | refine unc9 ?_ | refine unc10 ?_ | refine unc11 ?_ | refine unc12 ?_ | refine unc13 ?_ | refine unc14 ?_ | refine unc15 ?_ | refine unc16 ?_ | skip)
      refine pkStale (last := L) (X := [ax ee (si + 1) true (id) (le) 4 1 1 (IntKind.i64.wrap (ag + 1)) []]) (oc := .nils) ?_ (by decide : (1 : Nat) ≤ 36) (by decide) (by decide : (0 : Int) < 1) ?_
      · exact ⟨rfl, rfl, rfl, outN⟩
      conv => whnf
      refine ⟨⟨⟨i + 1, true, false, si + 1, IntKind.i64.wrap (ag + 1), id, le, 4, 1, 1, L, sc, 0, [], J⟩, ⟨(by show i + 1 ≤ V.length; omega), (by show 0 ≤ IntKind.i64.wrap (ag + 1); omega), (by show IntKind.i64.wrap (ag + 1) ≤ ((i + 1 : Nat) : Int); omega), (fun _ => ⟨by show ((i + 1 : Nat) : Int) - sc = si + 1 + 1; omega, by show 0 ≤ si + 1; omega, by show si + 1 + 1 ≤ la; omega, rfl, rfl, rfl⟩), (fun _ h => by cases h), (fun _ h => by cases h), (fun h => by cases h), (fun h => by cases h), (fun _ => ⟨rfl, rfl⟩), (hJ), (v0), (v1)⟩⟩, subPk (c := 1) (X := [ax ee (si + 1) true (id) (le) 4 1 1 (IntKind.i64.wrap (ag + 1)) []]) [] rfl rfl rfl (by decide : (1 : Nat) ≤ 36) (fun _ _ _ => rfl) rfl rfl ⟨⟨rfl, rfl⟩, ⟨rfl, rfl⟩, ⟨rfl, rfl⟩, ⟨rfl, rfl⟩, ⟨rfl, rfl⟩, ⟨rfl, rfl⟩, ⟨rfl, rfl⟩, ⟨rfl, rfl⟩, ⟨rfl, rfl⟩, ⟨?_, rfl⟩, trivial⟩ ⟨⟨msP_hok rfl, rfl, rfl⟩, ⟨mrP_hok rfl, rfl, rfl⟩, ⟨trivial, rfl, rfl⟩, ⟨rfl, rfl, rfl⟩, trivial⟩ (one_fam16 rfl), by show V.length - (i + 1) < V.length - i; omega⟩
      show AV.int .i64 (IntKind.i64.wrap ((i : Int) + 1)) = AV.int .i64 ((i + 1 : Nat) : Int)
      rw [s64 (by omega)]
    · have hla : si + 1 = la := by
        have : IntKind.i64.wrap ((i : Int) - sc) ≥ la := by simpa using hla
        rw [hsc] at this; omega
      conv => whnf
      refine condT (by simp; omega) ?_
      conv => whnf
      refine condT (by simp; omega) ?_
      conv => whnf
      with_reducible (first | refine unc1 ?_ | refine unc2 ?_ | refine unc3 ?_ | refine unc4 ?_ | refine unc5 ?_ | refine unc6 ?_ | refine unc7 ?_ | refine unc8 ?_ | refine unc9 ?_ | refine unc10 ?_ | refine unc11 ?_ | refine unc12 ?_ | refine unc13 ?_ | refine unc14 ?_ | refine unc15 ?_ | refine unc16 ?_ | skip)
      refine pkTake (last := L) (X := [ax ee (si + 1) true (id) (le) 4 1 1 (IntKind.i64.wrap (ag + 1)) []]) (oc := .nils) (h := 44) (l := good 4 (V.getD i 0)) ?_ (by decide : (1 : Nat) ≤ 36) (okx_ax _ _ _ _ _ _) (by show 4 ≤ 1000; decide) ?_ rfl (ax_good ee _ _ _ _ (V.getD i 0) _ hvi.1 hvi.2) ?_
      · exact ⟨rfl, rfl, rfl, outN⟩
      · rfl
      conv => whnf
      refine condT (by simp; omega) ?_
      conv => whnf
      with_reducible (first | refine unc1 ?_ | refine unc2 ?_ | refine unc3 ?_ | refine unc4 ?_ | refine unc5 ?_ | refine unc6 ?_ | refine unc7 ?_ | refine unc8 ?_ | refine unc9 ?_ | refine unc10 ?_ | refine unc11 ?_ | refine unc12 ?_ | refine unc13 ?_ | refine unc14 ?_ | refine unc15 ?_ | refine unc16 ?_ | skip)
      refine pkLatchA (last := L) (X := [ax ee (si + 1) false (id) (le) 4 1 1 (0) [(V.getD i 0)]]) (oc := .nils) (J := J) ?_ (by decide : (1 : Nat) ≤ 36) (mem_one ⟨(by decide : (1 : Nat) ≤ 1000), mem_one hvi.1⟩) ?_ ?_ ?_
      · exact ⟨rfl, rfl, rfl, outN⟩
      · exact .inr (by decide)
      · rfl
      rw [ax_latch J]
      conv => whnf
      refine blkCall (Get_tr (J.put 4 7 (V.getD i 0)) 4 7) rfl rfl rfl ?_
      rw [getV_put16 J 4 7 (V.getD i 0) rfl, show bitV 4 (V.getD i 0) = (V.getD i 0) from rfl]
      conv => whnf
      refine condN (by show ((V.getD i 0) != (V.getD i 0)) = false; simp) ?_
      conv => whnf
      with_reducible (first | refine unc1 ?_ | refine unc2 ?_ | refine unc3 ?_ | refine unc4 ?_ | refine unc5 ?_ | refine unc6 ?_ | refine unc7 ?_ | refine unc8 ?_ | refine unc9 ?_ | refine unc10 ?_ | refine unc11 ?_ | refine unc12 ?_ | refine unc13 ?_ | refine unc14 ?_ | refine unc15 ?_ | refine unc16 ?_ | skip)
      refine pkAge (last := L) (X := [ax ee (si + 1) false (id) (le) 4 1 1 (0) [(V.getD i 0)]]) (oc := .nils) ?_ (by decide : (1 : Nat) ≤ 36) (by decide) (by decide : (0 : Int) < 1) ?_
      · exact ⟨rfl, rfl, rfl, outN⟩
      conv => whnf
      refine condN (by show decide ((0 : Int) > IntKind.i64.wrap (ee + la)) = false; rw [w64i (n := ee + la) (by omega) (by omega)]; exact decide_eq_false (by omega)) ?_
      conv => whnf
      with_reducible (first | refine unc1 ?_ | refine unc2 ?_ | refine unc3 ?_ | refine unc4 ?_ | refine unc5 ?_ | refine unc6 ?_ | refine unc7 ?_ | refine unc8 ?_ | refine unc9 ?_ | refine unc10 ?_ | refine unc11 ?_ | refine unc12 ?_ | refine unc13 ?_ | refine unc14 ?_ | refine unc15 ?_ | refine unc16 ?_ | skip)
      refine pkStale (last := L) (X := [ax ee (si + 1) false (id) (le) 4 1 1 (0) [(V.getD i 0)]]) (oc := .nils) ?_ (by decide : (1 : Nat) ≤ 36) (by decide) (by decide : (0 : Int) < 1) ?_
      · exact ⟨rfl, rfl, rfl, outN⟩
      conv => whnf
      refine ⟨⟨⟨i + 1, false, true, si + 1, 0, id, le, 4, 1, 1, L, sc, (V.getD i 0), [(V.getD i 0)], (J.put 4 7 (V.getD i 0))⟩, ⟨(by show i + 1 ≤ V.length; omega), (Int.le_refl _), (by show (0 : Int) ≤ ((i + 1 : Nat) : Int); omega), (fun h => by cases h), (fun h => by cases h), (fun _ _ => ⟨by show si + 1 = la + 0; omega, .inl rfl⟩), (fun _ h => by cases h), (fun _ => rfl), (fun h => by cases h), (getV_put16 J 4 7 (V.getD i 0) rfl), (hvi.1), (hvi.2)⟩⟩, subPk (c := 1) (X := [ax ee (si + 1) false (id) (le) 4 1 1 (0) [(V.getD i 0)]]) [(42, none)] rfl rfl rfl (by decide : (1 : Nat) ≤ 36) (fun h _ h2 => rn1 (by omega)) rfl rfl ⟨⟨rfl, rfl⟩, ⟨rfl, rfl⟩, ⟨rfl, rfl⟩, ⟨rfl, rfl⟩, ⟨rfl, rfl⟩, ⟨rfl, rfl⟩, ⟨rfl, rfl⟩, ⟨rfl, rfl⟩, ⟨rfl, rfl⟩, ⟨?_, rfl⟩, trivial⟩ ⟨⟨rfl, rfl, rfl⟩, ⟨mrP_hokI (fun h _ h2 => rn1 (by omega)) rfl, rfl, by show _ = some ((mrP 1 1).ren _); rw [mrP_renI (fun h _ h2 => rn1 (by omega))]; rfl⟩, ⟨trivial, rfl, rfl⟩, ⟨rfl, rfl, rfl⟩, trivial⟩ (one_fam16 rfl), by show V.length - (i + 1) < V.length - i; omega⟩
      show AV.int .i64 (IntKind.i64.wrap ((i : Int) + 1)) = AV.int .i64 ((i + 1 : Nat) : Int)
      rw [s64 (by omega)]
  · obtain ⟨h1, h2⟩ : si = la + ag ∧ (ag = 0 ∨ la + ag < ee) := hn rfl rfl
    have hll : l = [lv] := ll rfl
    subst hll
    by_cases hd : ee ≤ si + 1
    · with_reducible (first | refine unc1 ?_ | refine unc2 ?_ | refine unc3 ?_ | refine unc4 ?_ | refine unc5 ?_ | refine unc6 ?_ | refine unc7 ?_ | refine unc8 ?_ | refine unc9 ?_ | refine unc10 ?_ | refine unc11 ?_ | refine unc12 ?_ | refine unc13 ?_ | refine unc14 ?_ | refine unc15 ?_ | refine unc16 ?_ | skip)
      refine pkBeginA (last := L) (I := J) (X := [ax ee (si) false (id) (le) qf qa qn (ag) [lv]]) ?_ (by decide : (1 : Nat) ≤ 36) (mem_one ⟨(by decide : (1 : Int) ≤ 1), (by decide : (1 : Int) ≤ 64)⟩) ?_ ?_ ?_ ?_ (ax_due ee si id le qf qa qn ag L [lv] J (by omega)) ?_
      · exact ⟨rfl, rfl, rfl, outN⟩
      · rfl
      · rfl
      · exact .inr (by decide)
      · rfl
      conv => whnf
      with_reducible (first | refine unc1 ?_ | refine unc2 ?_ | refine unc3 ?_ | refine unc4 ?_ | refine unc5 ?_ | refine unc6 ?_ | refine unc7 ?_ | refine unc8 ?_ | refine unc9 ?_ | refine unc10 ?_ | refine unc11 ?_ | refine unc12 ?_ | refine unc13 ?_ | refine unc14 ?_ | refine unc15 ?_ | refine unc16 ?_ | skip)
      refine pkOutA (last := IntKind.u32.wrap (L + 1)) (X := [ax ee (0) true (IntKind.u16.wrap (IntKind.u32.wrap (L + 1))) (1000000) 4 1 1 (IntKind.i64.wrap (ag + 1)) [lv]]) (oc := .sl 3 43 0 1) ?_ (by decide : (1 : Nat) ≤ 36) ?_
      · exact ⟨rfl, rfl, rfl, outS _ _ _⟩
      conv => whnf
      refine condF (fun hla => ?_) (fun hla => ?_)
      · have hla : 0 < la := by
          have : ¬ (IntKind.i64.wrap ((i : Int) - (i : Int)) ≥ la) := by simpa using hla
          rw [hii] at this; omega
        conv => whnf
        with_reducible (first | refine unc1 ?_ | refine unc2 ?_ | refine unc3 ?_ | refine unc4 ?_ | refine unc5 ?_ | refine unc6 ?_ | refine unc7 ?_ | refine unc8 ?_ | refine unc9 ?_ | refine unc10 ?_ | refine unc11 ?_ | refine unc12 ?_ | refine unc13 ?_ | refine unc14 ?_ | refine unc15 ?_ | refine unc16 ?_ | skip)
        refine pkLatchA (last := IntKind.u32.wrap (L + 1)) (X := [ax ee (0) true (IntKind.u16.wrap (IntKind.u32.wrap (L + 1))) (1000000) 4 1 1 (IntKind.i64.wrap (ag + 1)) [lv]]) (oc := .nils) (J := J) ?_ (by decide : (1 : Nat) ≤ 36) (mem_one ⟨(by decide : (1 : Nat) ≤ 1000), mem_one v0⟩) ?_ ?_ ?_
        · exact ⟨rfl, rfl, rfl, outN⟩
        · exact .inr (by decide)
        · rfl
        rw [ax_latch J]
        conv => whnf
        refine blkCall (Get_tr (J.put 4 7 lv) 4 7) rfl rfl rfl ?_
        rw [getV_put16 J 4 7 lv rfl, show bitV 4 lv = lv from rfl]
        conv => whnf
        refine condN (by show (lv != lv) = false; simp) ?_
        conv => whnf
        with_reducible (first | refine unc1 ?_ | refine unc2 ?_ | refine unc3 ?_ | refine unc4 ?_ | refine unc5 ?_ | refine unc6 ?_ | refine unc7 ?_ | refine unc8 ?_ | refine unc9 ?_ | refine unc10 ?_ | refine unc11 ?_ | refine unc12 ?_ | refine unc13 ?_ | refine unc14 ?_ | refine unc15 ?_ | refine unc16 ?_ | skip)
        refine pkAge (last := IntKind.u32.wrap (L + 1)) (X := [ax ee (0) true (IntKind.u16.wrap (IntKind.u32.wrap (L + 1))) (1000000) 4 1 1 (IntKind.i64.wrap (ag + 1)) [lv]]) (oc := .nils) ?_ (by decide : (1 : Nat) ≤ 36) (by decide) (by decide : (0 : Int) < 1) ?_
        · exact ⟨rfl, rfl, rfl, outN⟩
        conv => whnf
        refine condN (by show decide ((IntKind.i64.wrap (ag + 1) : Int) > IntKind.i64.wrap (ee + la)) = false; rw [w64i (n := ee + la) (by omega) (by omega)]; exact decide_eq_false (by omega)) ?_
        conv => whnf
        with_reducible (first | refine unc1 ?_ | refine unc2 ?_ | refine unc3 ?_ | refine unc4 ?_ | refine unc5 ?_ | refine unc6 ?_ | refine unc7 ?_ | refine unc8 ?_ | refine unc9 ?_ | refine unc10 ?_ | refine unc11 ?_ | refine unc12 ?_ | refine unc13 ?_ | refine unc14 ?_ | refine unc15 ?_ | refine unc16 ?_ | skip)
        refine pkStale (last := IntKind.u32.wrap (L + 1)) (X := [ax ee (0) true (IntKind.u16.wrap (IntKind.u32.wrap (L + 1))) (1000000) 4 1 1 (IntKind.i64.wrap (ag + 1)) [lv]]) (oc := .nils) ?_ (by decide : (1 : Nat) ≤ 36) (by decide) (by decide : (0 : Int) < 1) ?_
        · exact ⟨rfl, rfl, rfl, outN⟩
        conv => whnf
        refine ⟨⟨⟨i + 1, true, true, 0, IntKind.i64.wrap (ag + 1), IntKind.u16.wrap (IntKind.u32.wrap (L + 1)), 1000000, 4, 1, 1, IntKind.u32.wrap (L + 1), i, lv, [lv], (J.put 4 7 lv)⟩, ⟨(by show i + 1 ≤ V.length; omega), (by show 0 ≤ IntKind.i64.wrap (ag + 1); omega), (by show IntKind.i64.wrap (ag + 1) ≤ ((i + 1 : Nat) : Int); omega), (fun _ => ⟨by show ((i + 1 : Nat) : Int) - (i : Int) = 0 + 1; omega, Int.le_refl _, by show (0 : Int) + 1 ≤ la; omega, rfl, rfl, rfl⟩), (fun _ _ => by show IntKind.i64.wrap (ag + 1) ≤ ee + 0; omega), (fun h => by cases h), (fun h => by cases h), (fun _ => rfl), (fun h => by cases h), (getV_put16 J 4 7 lv rfl), (v0), (v1)⟩⟩, subPk (c := 1) (X := [ax ee (0) true (IntKind.u16.wrap (IntKind.u32.wrap (L + 1))) (1000000) 4 1 1 (IntKind.i64.wrap (ag + 1)) [lv]]) [(42, some 43)] rfl rfl rfl (by decide : (1 : Nat) ≤ 36) (fun h _ h2 => rn1 (by omega)) rfl rfl ⟨⟨rfl, rfl⟩, ⟨rfl, rfl⟩, ⟨rfl, rfl⟩, ⟨rfl, rfl⟩, ⟨rfl, rfl⟩, ⟨rfl, rfl⟩, ⟨rfl, rfl⟩, ⟨rfl, rfl⟩, ⟨rfl, rfl⟩, ⟨?_, rfl⟩, trivial⟩ ⟨⟨rfl, rfl, rfl⟩, ⟨mrP_hokI (fun h _ h2 => rn1 (by omega)) rfl, rfl, by show _ = some ((mrP 1 1).ren _); rw [mrP_renI (fun h _ h2 => rn1 (by omega))]; rfl⟩, ⟨trivial, rfl, rfl⟩, ⟨rfl, rfl, rfl⟩, trivial⟩ (one_fam16 rfl), by show V.length - (i + 1) < V.length - i; omega⟩
        show AV.int .i64 (IntKind.i64.wrap ((i : Int) + 1)) = AV.int .i64 ((i + 1 : Nat) : Int)
        rw [s64 (by omega)]
      · have hla : la = 0 := by
          have : IntKind.i64.wrap ((i : Int) - (i : Int)) ≥ la := by simpa using hla
          rw [hii] at this; omega
        conv => whnf
        refine condT (by simp; omega) ?_
        conv => whnf
        refine condT (by simp; omega) ?_
        conv => whnf
        with_reducible (first | refine unc1 ?_ | refine unc2 ?_ | refine unc3 ?_ | refine unc4 ?_ | refine unc5 ?_ | refine unc6 ?_ | refine unc7 ?_ | refine unc8 ?_ | refine unc9 ?_ | refine unc10 ?_ | refine unc11 ?_ | refine unc12 ?_ | refine unc13 ?_ | refine unc14 ?_ | refine unc15 ?_ | refine unc16 ?_ | skip)
        refine pkTake (last := IntKind.u32.wrap (L + 1)) (X := [ax ee (0) true (IntKind.u16.wrap (IntKind.u32.wrap (L + 1))) (1000000) 4 1 1 (IntKind.i64.wrap (ag + 1)) [lv]]) (oc := .nils) (h := 44) (l := good 4 (V.getD i 0)) ?_ (by decide : (1 : Nat) ≤ 36) (okx_ax _ _ _ _ _ _) (by show 4 ≤ 1000; decide) ?_ rfl (ax_good ee _ _ _ _ (V.getD i 0) _ hvi.1 hvi.2) ?_
        · exact ⟨rfl, rfl, rfl, outN⟩
        · rfl
        conv => whnf
        refine condT (by simp; omega) ?_
        conv => whnf
        with_reducible (first | refine unc1 ?_ | refine unc2 ?_ | refine unc3 ?_ | refine unc4 ?_ | refine unc5 ?_ | refine unc6 ?_ | refine unc7 ?_ | refine unc8 ?_ | refine unc9 ?_ | refine unc10 ?_ | refine unc11 ?_ | refine unc12 ?_ | refine unc13 ?_ | refine unc14 ?_ | refine unc15 ?_ | refine unc16 ?_ | skip)
        refine pkLatchA (last := IntKind.u32.wrap (L + 1)) (X := [ax ee (0) false (IntKind.u16.wrap (IntKind.u32.wrap (L + 1))) (1000000) 4 1 1 (0) [(V.getD i 0)]]) (oc := .nils) (J := J) ?_ (by decide : (1 : Nat) ≤ 36) (mem_one ⟨(by decide : (1 : Nat) ≤ 1000), mem_one hvi.1⟩) ?_ ?_ ?_
        · exact ⟨rfl, rfl, rfl, outN⟩
        · exact .inr (by decide)
        · rfl
        rw [ax_latch J]
        conv => whnf
        refine blkCall (Get_tr (J.put 4 7 (V.getD i 0)) 4 7) rfl rfl rfl ?_
        rw [getV_put16 J 4 7 (V.getD i 0) rfl, show bitV 4 (V.getD i 0) = (V.getD i 0) from rfl]
        conv => whnf
        refine condN (by show ((V.getD i 0) != (V.getD i 0)) = false; simp) ?_
        conv => whnf
        with_reducible (first | refine unc1 ?_ | refine unc2 ?_ | refine unc3 ?_ | refine unc4 ?_ | refine unc5 ?_ | refine unc6 ?_ | refine unc7 ?_ | refine unc8 ?_ | refine unc9 ?_ | refine unc10 ?_ | refine unc11 ?_ | refine unc12 ?_ | refine unc13 ?_ | refine unc14 ?_ | refine unc15 ?_ | refine unc16 ?_ | skip)
        refine pkAge (last := IntKind.u32.wrap (L + 1)) (X := [ax ee (0) false (IntKind.u16.wrap (IntKind.u32.wrap (L + 1))) (1000000) 4 1 1 (0) [(V.getD i 0)]]) (oc := .nils) ?_ (by decide : (1 : Nat) ≤ 36) (by decide) (by decide : (0 : Int) < 1) ?_
        · exact ⟨rfl, rfl, rfl, outN⟩
        conv => whnf
        refine condN (by show decide ((0 : Int) > IntKind.i64.wrap (ee + la)) = false; rw [w64i (n := ee + la) (by omega) (by omega)]; exact decide_eq_false (by omega)) ?_
        conv => whnf
        with_reducible (first | refine unc1 ?_ | refine unc2 ?_ | refine unc3 ?_ | refine unc4 ?_ | refine unc5 ?_ | refine unc6 ?_ | refine unc7 ?_ | refine unc8 ?_ | refine unc9 ?_ | refine unc10 ?_ | refine unc11 ?_ | refine unc12 ?_ | refine unc13 ?_ | refine unc14 ?_ | refine unc15 ?_ | refine unc16 ?_ | skip)
        refine pkStale (last := IntKind.u32.wrap (L + 1)) (X := [ax ee (0) false (IntKind.u16.wrap (IntKind.u32.wrap (L + 1))) (1000000) 4 1 1 (0) [(V.getD i 0)]]) (oc := .nils) ?_ (by decide : (1 : Nat) ≤ 36) (by decide) (by decide : (0 : Int) < 1) ?_
        · exact ⟨rfl, rfl, rfl, outN⟩
        conv => whnf
        refine ⟨⟨⟨i + 1, false, true, 0, 0, IntKind.u16.wrap (IntKind.u32.wrap (L + 1)), 1000000, 4, 1, 1, IntKind.u32.wrap (L + 1), i, (V.getD i 0), [(V.getD i 0)], (J.put 4 7 (V.getD i 0))⟩, ⟨(by show i + 1 ≤ V.length; omega), (Int.le_refl _), (by show (0 : Int) ≤ ((i + 1 : Nat) : Int); omega), (fun h => by cases h), (fun h => by cases h), (fun _ _ => ⟨by show (0 : Int) = la + 0; omega, .inl rfl⟩), (fun _ h => by cases h), (fun _ => rfl), (fun h => by cases h), (getV_put16 J 4 7 (V.getD i 0) rfl), (hvi.1), (hvi.2)⟩⟩, subPk (c := 1) (X := [ax ee (0) false (IntKind.u16.wrap (IntKind.u32.wrap (L + 1))) (1000000) 4 1 1 (0) [(V.getD i 0)]]) [(42, none)] rfl rfl rfl (by decide : (1 : Nat) ≤ 36) (fun h _ h2 => rn1 (by omega)) rfl rfl ⟨⟨rfl, rfl⟩, ⟨rfl, rfl⟩, ⟨rfl, rfl⟩, ⟨rfl, rfl⟩, ⟨rfl, rfl⟩, ⟨rfl, rfl⟩, ⟨rfl, rfl⟩, ⟨rfl, rfl⟩, ⟨rfl, rfl⟩, ⟨?_, rfl⟩, trivial⟩ ⟨⟨rfl, rfl, rfl⟩, ⟨mrP_hokI (fun h _ h2 => rn1 (by omega)) rfl, rfl, by show _ = some ((mrP 1 1).ren _); rw [mrP_renI (fun h _ h2 => rn1 (by omega))]; rfl⟩, ⟨trivial, rfl, rfl⟩, ⟨rfl, rfl, rfl⟩, trivial⟩ (one_fam16 rfl), by show V.length - (i + 1) < V.length - i; omega⟩
        show AV.int .i64 (IntKind.i64.wrap ((i : Int) + 1)) = AV.int .i64 ((i + 1 : Nat) : Int)
        rw [s64 (by omega)]
    · with_reducible (first | refine unc1 ?_ | refine unc2 ?_ | refine unc3 ?_ | refine unc4 ?_ | refine unc5 ?_ | refine unc6 ?_ | refine unc7 ?_ | refine unc8 ?_ | refine unc9 ?_ | refine unc10 ?_ | refine unc11 ?_ | refine unc12 ?_ | refine unc13 ?_ | refine unc14 ?_ | refine unc15 ?_ | refine unc16 ?_ | skip)
      refine pkBeginA (last := L) (I := J) (X := [ax ee (si) false (id) (le) qf qa qn (ag) [lv]]) ?_ (by decide : (1 : Nat) ≤ 36) (mem_one ⟨(by decide : (1 : Int) ≤ 1), (by decide : (1 : Int) ≤ 64)⟩) ?_ ?_ ?_ ?_ (ax_not ee si id le qf qa qn ag L false [lv] J (by omega) (by omega) (.inr (by omega))) ?_
      · exact ⟨rfl, rfl, rfl, outN⟩
      · rfl
      · rfl
      · exact .inr (by decide)
      · rfl
      conv => whnf
      with_reducible (first | refine unc1 ?_ | refine unc2 ?_ | refine unc3 ?_ | refine unc4 ?_ | refine unc5 ?_ | refine unc6 ?_ | refine unc7 ?_ | refine unc8 ?_ | refine unc9 ?_ | refine unc10 ?_ | refine unc11 ?_ | refine unc12 ?_ | refine unc13 ?_ | refine unc14 ?_ | refine unc15 ?_ | refine unc16 ?_ | skip)
      refine pkOutA (last := L) (X := [ax ee (si + 1) false (id) (le) qf qa qn (IntKind.i64.wrap (ag + 1)) [lv]]) (oc := .sl 3 43 0 0) ?_ (by decide : (1 : Nat) ≤ 36) ?_
      · exact ⟨rfl, rfl, rfl, outS _ _ _⟩
      conv => whnf
      with_reducible (first | refine unc1 ?_ | refine unc2 ?_ | refine unc3 ?_ | refine unc4 ?_ | refine unc5 ?_ | refine unc6 ?_ | refine unc7 ?_ | refine unc8 ?_ | refine unc9 ?_ | refine unc10 ?_ | refine unc11 ?_ | refine unc12 ?_ | refine unc13 ?_ | refine unc14 ?_ | refine unc15 ?_ | refine unc16 ?_ | skip)
      refine pkLatchA (last := L) (X := [ax ee (si + 1) false (id) (le) qf qa qn (IntKind.i64.wrap (ag + 1)) [lv]]) (oc := .nils) (J := J) ?_ (by decide : (1 : Nat) ≤ 36) (mem_one ⟨(by decide : (1 : Nat) ≤ 1000), mem_one v0⟩) ?_ ?_ ?_
      · exact ⟨rfl, rfl, rfl, outN⟩
      · exact .inr (by decide)
      · rfl
      rw [ax_latch J]
      conv => whnf
      refine blkCall (Get_tr (J.put 4 7 lv) 4 7) rfl rfl rfl ?_
      rw [getV_put16 J 4 7 lv rfl, show bitV 4 lv = lv from rfl]
      conv => whnf
      refine condN (by show (lv != lv) = false; simp) ?_
      conv => whnf
      with_reducible (first | refine unc1 ?_ | refine unc2 ?_ | refine unc3 ?_ | refine unc4 ?_ | refine unc5 ?_ | refine unc6 ?_ | refine unc7 ?_ | refine unc8 ?_ | refine unc9 ?_ | refine unc10 ?_ | refine unc11 ?_ | refine unc12 ?_ | refine unc13 ?_ | refine unc14 ?_ | refine unc15 ?_ | refine unc16 ?_ | skip)
      refine pkAge (last := L) (X := [ax ee (si + 1) false (id) (le) qf qa qn (IntKind.i64.wrap (ag + 1)) [lv]]) (oc := .nils) ?_ (by decide : (1 : Nat) ≤ 36) (by decide) (by decide : (0 : Int) < 1) ?_
      · exact ⟨rfl, rfl, rfl, outN⟩
      conv => whnf
      refine condN (by show decide ((IntKind.i64.wrap (ag + 1) : Int) > IntKind.i64.wrap (ee + la)) = false; rw [w64i (n := ee + la) (by omega) (by omega)]; exact decide_eq_false (by omega)) ?_
      conv => whnf
      with_reducible (first | refine unc1 ?_ | refine unc2 ?_ | refine unc3 ?_ | refine unc4 ?_ | refine unc5 ?_ | refine unc6 ?_ | refine unc7 ?_ | refine unc8 ?_ | refine unc9 ?_ | refine unc10 ?_ | refine unc11 ?_ | refine unc12 ?_ | refine unc13 ?_ | refine unc14 ?_ | refine unc15 ?_ | refine unc16 ?_ | skip)
      refine pkStale (last := L) (X := [ax ee (si + 1) false (id) (le) qf qa qn (IntKind.i64.wrap (ag + 1)) [lv]]) (oc := .nils) ?_ (by decide : (1 : Nat) ≤ 36) (by decide) (by decide : (0 : Int) < 1) ?_
      · exact ⟨rfl, rfl, rfl, outN⟩
      conv => whnf
      refine ⟨⟨⟨i + 1, false, true, si + 1, IntKind.i64.wrap (ag + 1), id, le, qf, qa, qn, L, sc, lv, [lv], (J.put 4 7 lv)⟩, ⟨(by show i + 1 ≤ V.length; omega), (by show 0 ≤ IntKind.i64.wrap (ag + 1); omega), (by show IntKind.i64.wrap (ag + 1) ≤ ((i + 1 : Nat) : Int); omega), (fun h => by cases h), (fun h => by cases h), (fun _ _ => ⟨by show si + 1 = la + IntKind.i64.wrap (ag + 1); omega, .inr (by show la + IntKind.i64.wrap (ag + 1) < ee; omega)⟩), (fun _ h => by cases h), (fun _ => rfl), (fun h => by cases h), (getV_put16 J 4 7 lv rfl), (v0), (v1)⟩⟩, subPk (c := 1) (X := [ax ee (si + 1) false (id) (le) qf qa qn (IntKind.i64.wrap (ag + 1)) [lv]]) [] rfl rfl rfl (by decide : (1 : Nat) ≤ 36) (fun _ _ _ => rfl) rfl rfl ⟨⟨rfl, rfl⟩, ⟨rfl, rfl⟩, ⟨rfl, rfl⟩, ⟨rfl, rfl⟩, ⟨rfl, rfl⟩, ⟨rfl, rfl⟩, ⟨rfl, rfl⟩, ⟨rfl, rfl⟩, ⟨rfl, rfl⟩, ⟨?_, rfl⟩, trivial⟩ ⟨⟨msP_hok rfl, rfl, rfl⟩, ⟨mrP_hok rfl, rfl, rfl⟩, ⟨trivial, rfl, rfl⟩, ⟨rfl, rfl, rfl⟩, trivial⟩ (one_fam16 rfl), by show V.length - (i + 1) < V.length - i; omega⟩
      show AV.int .i64 (IntKind.i64.wrap ((i : Int) + 1)) = AV.int .i64 ((i + 1 : Nat) : Int)
      rw [s64 (by omega)]
  · obtain ⟨h1, h2, h3, h4, h5, h6⟩ : (i : Int) - sc = si + 1 ∧ 0 ≤ si ∧ si + 1 ≤ la ∧ qf = 4 ∧ qa = 1 ∧ qn = 1 := hw rfl
    have hs : ag ≤ ee + si := hs rfl rfl
    subst h4; subst h5; subst h6
    have hll : l = [lv] := ll rfl
    subst hll
    with_reducible (first | refine unc1 ?_ | refine unc2 ?_ | refine unc3 ?_ | refine unc4 ?_ | refine unc5 ?_ | refine unc6 ?_ | refine unc7 ?_ | refine unc8 ?_ | refine unc9 ?_ | refine unc10 ?_ | refine unc11 ?_ | refine unc12 ?_ | refine unc13 ?_ | refine unc14 ?_ | refine unc15 ?_ | refine unc16 ?_ | skip)
    refine pkBeginA (last := L) (I := J) (X := [ax ee (si) true (id) (le) 4 1 1 (ag) [lv]]) ?_ (by decide : (1 : Nat) ≤ 36) (mem_one ⟨(by decide : (1 : Int) ≤ 1), (by decide : (1 : Int) ≤ 64)⟩) ?_ ?_ ?_ ?_ (ax_not ee si id le 4 1 1 ag L true [lv] J (by omega) (by omega) (.inl rfl)) ?_
    · exact ⟨rfl, rfl, rfl, outN⟩
    · rfl
    · rfl
    · exact .inr (by decide)
    · rfl
    conv => whnf
    with_reducible (first | refine unc1 ?_ | refine unc2 ?_ | refine unc3 ?_ | refine unc4 ?_ | refine unc5 ?_ | refine unc6 ?_ | refine unc7 ?_ | refine unc8 ?_ | refine unc9 ?_ | refine unc10 ?_ | refine unc11 ?_ | refine unc12 ?_ | refine unc13 ?_ | refine unc14 ?_ | refine unc15 ?_ | refine unc16 ?_ | skip)
    refine pkOutA (last := L) (X := [ax ee (si + 1) true (id) (le) 4 1 1 (IntKind.i64.wrap (ag + 1)) [lv]]) (oc := .sl 3 43 0 0) ?_ (by decide : (1 : Nat) ≤ 36) ?_
    · exact ⟨rfl, rfl, rfl, outS _ _ _⟩
    conv => whnf
    have hsc : IntKind.i64.wrap ((i : Int) - sc) = si + 1 := by rw [h1]; exact w64i (by omega) (by omega)
    refine condF (fun hla => ?_) (fun hla => ?_)
    · have hla : si + 1 < la := by
        have : ¬ (IntKind.i64.wrap ((i : Int) - sc) ≥ la) := by simpa using hla
        rw [hsc] at this; omega
      conv => whnf
      with_reducible (first | refine unc1 ?_ | refine unc2 ?_ | refine unc3 ?_ | refine unc4 ?_ | refine unc5 ?_ | refine unc6 ?_ | refine unc7 ?_ | refine unc8 ?_ | refine unc9 ?_ | refine unc10 ?_ | refine unc11 ?_ | refine unc12 ?_ | refine unc13 ?_ | refine unc14 ?_ | refine unc15 ?_ | refine unc16 ?_ | skip)
      refine pkLatchA (last := L) (X := [ax ee (si + 1) true (id) (le) 4 1 1 (IntKind.i64.wrap (ag + 1)) [lv]]) (oc := .nils) (J := J) ?_ (by decide : (1 : Nat) ≤ 36) (mem_one ⟨(by decide : (1 : Nat) ≤ 1000), mem_one v0⟩) ?_ ?_ ?_
      · exact ⟨rfl, rfl, rfl, outN⟩
      · exact .inr (by decide)
      · rfl
      rw [ax_latch J]
      conv => whnf
      refine blkCall (Get_tr (J.put 4 7 lv) 4 7) rfl rfl rfl ?_
      rw [getV_put16 J 4 7 lv rfl, show bitV 4 lv = lv from rfl]
      conv => whnf
      refine condN (by show (lv != lv) = false; simp) ?_
      conv => whnf
      with_reducible (first | refine unc1 ?_ | refine unc2 ?_ | refine unc3 ?_ | refine unc4 ?_ | refine unc5 ?_ | refine unc6 ?_ | refine unc7 ?_ | refine unc8 ?_ | refine unc9 ?_ | refine unc10 ?_ | refine unc11 ?_ | refine unc12 ?_ | refine unc13 ?_ | refine unc14 ?_ | refine unc15 ?_ | refine unc16 ?_ | skip)
      refine pkAge (last := L) (X := [ax ee (si + 1) true (id) (le) 4 1 1 (IntKind.i64.wrap (ag + 1)) [lv]]) (oc := .nils) ?_ (by decide : (1 : Nat) ≤ 36) (by decide) (by decide : (0 : Int) < 1) ?_
      · exact ⟨rfl, rfl, rfl, outN⟩
      conv => whnf
      refine condN (by show decide ((IntKind.i64.wrap (ag + 1) : Int) > IntKind.i64.wrap (ee + la)) = false; rw [w64i (n := ee + la) (by omega) (by omega)]; exact decide_eq_false (by omega)) ?_
      conv => whnf
      with_reducible (first | refine unc1 ?_ | refine unc2 ?_ | refine unc3 ?_ | refine unc4 ?_ | refine unc5 ?_ | refine unc6 ?_ | refine unc7 ?_ | refine unc8 ?_ | refine unc9 ?_ | refine unc10 ?_ | refine unc11 ?_ | refine unc12 ?_ | refine unc13 ?_ | refine unc14 ?_ | refine unc15 ?_ | refine unc16 ?_ | skip)
      refine pkStale (last := L) (X := [ax ee (si + 1) true (id) (le) 4 1 1 (IntKind.i64.wrap (ag + 1)) [lv]]) (oc := .nils) ?_ (by decide : (1 : Nat) ≤ 36) (by decide) (by decide : (0 : Int) < 1) ?_
      · exact ⟨rfl, rfl, rfl, outN⟩
      conv => whnf
      refine ⟨⟨⟨i + 1, true, true, si + 1, IntKind.i64.wrap (ag + 1), id, le, 4, 1, 1, L, sc, lv, [lv], (J.put 4 7 lv)⟩, ⟨(by show i + 1 ≤ V.length; omega), (by show 0 ≤ IntKind.i64.wrap (ag + 1); omega), (by show IntKind.i64.wrap (ag + 1) ≤ ((i + 1 : Nat) : Int); omega), (fun _ => ⟨by show ((i + 1 : Nat) : Int) - sc = si + 1 + 1; omega, by show 0 ≤ si + 1; omega, by show si + 1 + 1 ≤ la; omega, rfl, rfl, rfl⟩), (fun _ _ => by show IntKind.i64.wrap (ag + 1) ≤ ee + (si + 1); omega), (fun h => by cases h), (fun h => by cases h), (fun _ => rfl), (fun h => by cases h), (getV_put16 J 4 7 lv rfl), (v0), (v1)⟩⟩, subPk (c := 1) (X := [ax ee (si + 1) true (id) (le) 4 1 1 (IntKind.i64.wrap (ag + 1)) [lv]]) [] rfl rfl rfl (by decide : (1 : Nat) ≤ 36) (fun _ _ _ => rfl) rfl rfl ⟨⟨rfl, rfl⟩, ⟨rfl, rfl⟩, ⟨rfl, rfl⟩, ⟨rfl, rfl⟩, ⟨rfl, rfl⟩, ⟨rfl, rfl⟩, ⟨rfl, rfl⟩, ⟨rfl, rfl⟩, ⟨rfl, rfl⟩, ⟨?_, rfl⟩, trivial⟩ ⟨⟨msP_hok rfl, rfl, rfl⟩, ⟨mrP_hok rfl, rfl, rfl⟩, ⟨trivial, rfl, rfl⟩, ⟨rfl, rfl, rfl⟩, trivial⟩ (one_fam16 rfl), by show V.length - (i + 1) < V.length - i; omega⟩
      show AV.int .i64 (IntKind.i64.wrap ((i : Int) + 1)) = AV.int .i64 ((i + 1 : Nat) : Int)
      rw [s64 (by omega)]
    · have hla : si + 1 = la := by
        have : IntKind.i64.wrap ((i : Int) - sc) ≥ la := by simpa using hla
        rw [hsc] at this; omega
      conv => whnf
      refine condT (by simp; omega) ?_
      conv => whnf
      refine condT (by simp; omega) ?_
      conv => whnf
      with_reducible (first | refine unc1 ?_ | refine unc2 ?_ | refine unc3 ?_ | refine unc4 ?_ | refine unc5 ?_ | refine unc6 ?_ | refine unc7 ?_ | refine unc8 ?_ | refine unc9 ?_ | refine unc10 ?_ | refine unc11 ?_ | refine unc12 ?_ | refine unc13 ?_ | refine unc14 ?_ | refine unc15 ?_ | refine unc16 ?_ | skip)
      refine pkTake (last := L) (X := [ax ee (si + 1) true (id) (le) 4 1 1 (IntKind.i64.wrap (ag + 1)) [lv]]) (oc := .nils) (h := 44) (l := good 4 (V.getD i 0)) ?_ (by decide : (1 : Nat) ≤ 36) (okx_ax _ _ _ _ _ _) (by show 4 ≤ 1000; decide) ?_ rfl (ax_good ee _ _ _ _ (V.getD i 0) _ hvi.1 hvi.2) ?_
      · exact ⟨rfl, rfl, rfl, outN⟩
      · rfl
      conv => whnf
      refine condT (by simp; omega) ?_
      conv => whnf
      with_reducible (first | refine unc1 ?_ | refine unc2 ?_ | refine unc3 ?_ | refine unc4 ?_ | refine unc5 ?_ | refine unc6 ?_ | refine unc7 ?_ | refine unc8 ?_ | refine unc9 ?_ | refine unc10 ?_ | refine unc11 ?_ | refine unc12 ?_ | refine unc13 ?_ | refine unc14 ?_ | refine unc15 ?_ | refine unc16 ?_ | skip)
      refine pkLatchA (last := L) (X := [ax ee (si + 1) false (id) (le) 4 1 1 (0) [(V.getD i 0)]]) (oc := .nils) (J := J) ?_ (by decide : (1 : Nat) ≤ 36) (mem_one ⟨(by decide : (1 : Nat) ≤ 1000), mem_one hvi.1⟩) ?_ ?_ ?_
      · exact ⟨rfl, rfl, rfl, outN⟩
      · exact .inr (by decide)
      · rfl
      rw [ax_latch J]
      conv => whnf
      refine blkCall (Get_tr (J.put 4 7 (V.getD i 0)) 4 7) rfl rfl rfl ?_
      rw [getV_put16 J 4 7 (V.getD i 0) rfl, show bitV 4 (V.getD i 0) = (V.getD i 0) from rfl]
      conv => whnf
      refine condN (by show ((V.getD i 0) != (V.getD i 0)) = false; simp) ?_
      conv => whnf
      with_reducible (first | refine unc1 ?_ | refine unc2 ?_ | refine unc3 ?_ | refine unc4 ?_ | refine unc5 ?_ | refine unc6 ?_ | refine unc7 ?_ | refine unc8 ?_ | refine unc9 ?_ | refine unc10 ?_ | refine unc11 ?_ | refine unc12 ?_ | refine unc13 ?_ | refine unc14 ?_ | refine unc15 ?_ | refine unc16 ?_ | skip)
      refine pkAge (last := L) (X := [ax ee (si + 1) false (id) (le) 4 1 1 (0) [(V.getD i 0)]]) (oc := .nils) ?_ (by decide : (1 : Nat) ≤ 36) (by decide) (by decide : (0 : Int) < 1) ?_
      · exact ⟨rfl, rfl, rfl, outN⟩
      conv => whnf
      refine condN (by show decide ((0 : Int) > IntKind.i64.wrap (ee + la)) = false; rw [w64i (n := ee + la) (by omega) (by omega)]; exact decide_eq_false (by omega)) ?_
      conv => whnf
      with_reducible (first | refine unc1 ?_ | refine unc2 ?_ | refine unc3 ?_ | refine unc4 ?_ | refine unc5 ?_ | refine unc6 ?_ | refine unc7 ?_ | refine unc8 ?_ | refine unc9 ?_ | refine unc10 ?_ | refine unc11 ?_ | refine unc12 ?_ | refine unc13 ?_ | refine unc14 ?_ | refine unc15 ?_ | refine unc16 ?_ | skip)
      refine pkStale (last := L) (X := [ax ee (si + 1) false (id) (le) 4 1 1 (0) [(V.getD i 0)]]) (oc := .nils) ?_ (by decide : (1 : Nat) ≤ 36) (by decide) (by decide : (0 : Int) < 1) ?_
      · exact ⟨rfl, rfl, rfl, outN⟩
      conv => whnf
      refine ⟨⟨⟨i + 1, false, true, si + 1, 0, id, le, 4, 1, 1, L, sc, (V.getD i 0), [(V.getD i 0)], (J.put 4 7 (V.getD i 0))⟩, ⟨(by show i + 1 ≤ V.length; omega), (Int.le_refl _), (by show (0 : Int) ≤ ((i + 1 : Nat) : Int); omega), (fun h => by cases h), (fun h => by cases h), (fun _ _ => ⟨by show si + 1 = la + 0; omega, .inl rfl⟩), (fun _ h => by cases h), (fun _ => rfl), (fun h => by cases h), (getV_put16 J 4 7 (V.getD i 0) rfl), (hvi.1), (hvi.2)⟩⟩, subPk (c := 1) (X := [ax ee (si + 1) false (id) (le) 4 1 1 (0) [(V.getD i 0)]]) [(42, none)] rfl rfl rfl (by decide : (1 : Nat) ≤ 36) (fun h _ h2 => rn1 (by omega)) rfl rfl ⟨⟨rfl, rfl⟩, ⟨rfl, rfl⟩, ⟨rfl, rfl⟩, ⟨rfl, rfl⟩, ⟨rfl, rfl⟩, ⟨rfl, rfl⟩, ⟨rfl, rfl⟩, ⟨rfl, rfl⟩, ⟨rfl, rfl⟩, ⟨?_, rfl⟩, trivial⟩ ⟨⟨rfl, rfl, rfl⟩, ⟨mrP_hokI (fun h _ h2 => rn1 (by omega)) rfl, rfl, by show _ = some ((mrP 1 1).ren _); rw [mrP_renI (fun h _ h2 => rn1 (by omega))]; rfl⟩, ⟨trivial, rfl, rfl⟩, ⟨rfl, rfl, rfl⟩, trivial⟩ (one_fam16 rfl), by show V.length - (i + 1) < V.length - i; omega⟩
      show AV.int .i64 (IntKind.i64.wrap ((i : Int) + 1)) = AV.int .i64 ((i + 1 : Nat) : Int)
      rw [s64 (by omega)]
end Go.Proofs.Ytomodeliimnddaa
set_option linter.unusedVariables false
set_option linter.unusedSimpArgs false
namespace Go.Ab
open Go.ChangeShapes Go.WideShapes Go.RowKit Go.Deep
def noM : Nat → Prop := fun _ => False
section
variable {P : Program} {H : Type} {enc : TypeId × Value → H} {W : World} {r : Reach} {b : Nat} {held : Bool}
theorem wf_has {k : IntKind} {n : Int} (h : (Lit.int k n).wf = true) : k.min ≤ n ∧ n ≤ k.max := by
  simpa [Lit.wf] using h
theorem cell_addr {t e : TypeId} {a : Addr} {len cap : Nat} (ht : P.underlying t = some (.slice e)) (h : Cell.okWide P W r b t (.slice (some a) len cap)) : a.spot = none ∧ a.block < W.heap.size := by
  simp only [Cell.okWide, ht, Cell.ok] at h
  obtain ⟨_, _, _, h2, row, cells, h3, _⟩ := h
  exact ⟨h2, lt_of_shape h3⟩
theorem gInts {t e : TypeId} {k : IntKind} {fuel : Nat} {v : Value} {x : DataW H × List MemPlace} (hok : Cell.okWide P W r b t v) (ht : P.underlying t = some (.slice e)) (he : P.underlying e = some (.int k)) (hc : P.cellsOf e = 1)
    (h : DataW.trod enc P W 0 (fun _ => true) held fuel t [v] = some x) : ∃ l : List Int, GRel W noM (.roI k l) v ∧ ∀ n ∈ l, k.min ≤ n ∧ n ≤ k.max := by
  rcases open_ints ht he hc h with ⟨hcs, _⟩ | ⟨a, len, cap, zs, hcs, _, hl, hm, hz, _, hcell, hwf⟩
  · obtain rfl : v = .slice none 0 0 := by simpa using hcs
    exact ⟨[], .sliceNil _ 1 (fun j => .int k (([] : List Int).getD j 0)) rfl, by simp⟩
  · obtain rfl : v = .slice (some a) len cap := by simpa using hcs
    obtain ⟨h1, h2⟩ := cell_addr ht hok
    have hz : zs.length = cap := by simpa using hz
    have hlen : (zs.take len).length = len := by rw [List.length_take]; omega
    refine ⟨zs.take len, ?_, fun n hn => wf_has (hwf n (List.mem_of_mem_take hn))⟩
    have := GRel.slice (w := W) (M := noM) (.roI k (zs.take len)) 1 (zs.take len).length (fun j => .int k ((zs.take len).getD j 0)) a cap (fun j => .int k (zs.getD j 0)) rfl (fun _ => ⟨h1, fun h => h, h2⟩) (by omega) (fun _ _ => rfl) (fun j hj => by
      rw [← add_eq a j h1]; exact hcell j (by omega)) (fun j hj => by
      have : (zs.take len).getD j 0 = zs.getD j 0 := by
        have hj' : j < len := by omega
        simp [List.getD_eq_getElem?_getD, List.getElem?_take, hj']
      show GRel W noM (.int k ((zs.take len).getD j 0)) _
      rw [this]; exact .int k _)
    rw [hlen] at this
    exact this
theorem gBools {t e : TypeId} {fuel : Nat} {v : Value} {x : DataW H × List MemPlace} (hok : Cell.okWide P W r b t v) (ht : P.underlying t = some (.slice e)) (he : P.underlying e = some .bool) (hc : P.cellsOf e = 1)
    (h : DataW.trod enc P W 0 (fun _ => true) held fuel t [v] = some x) : ∃ l : List Bool, GRel W noM (.roB l) v := by
  rcases open_bools ht he hc h with ⟨hcs, _⟩ | ⟨a, len, cap, B, hcs, _, hl, hm, _, hcell⟩
  · obtain rfl : v = .slice none 0 0 := by simpa using hcs
    exact ⟨[], .sliceNil _ 1 (fun j => .bool (([] : List Bool).getD j false)) rfl⟩
  · obtain rfl : v = .slice (some a) len cap := by simpa using hcs
    obtain ⟨h1, h2⟩ := cell_addr ht hok
    have hlen : ((List.range len).map B).length = len := by simp
    refine ⟨(List.range len).map B, ?_⟩
    have := GRel.slice (w := W) (M := noM) (.roB ((List.range len).map B)) 1 ((List.range len).map B).length (fun j => .bool (((List.range len).map B).getD j false)) a cap (fun j => .bool (B j)) rfl (fun _ => ⟨h1, fun h => h, h2⟩) (by omega) (fun _ _ => rfl) (fun j hj => by
      rw [← add_eq a j h1]; exact hcell j (by omega)) (fun j hj => by
      have : ((List.range len).map B).getD j false = B j := by
        have hj' : j < len := by omega
        simp [List.getD_eq_getElem?_getD, hj']
      show GRel W noM (.bool (((List.range len).map B).getD j false)) _
      rw [this]; exact .bool _)
    rw [hlen] at this
    exact this
theorem gInt {t : TypeId} {k : IntKind} {fuel : Nat} {v : Value} {x : DataW H × List MemPlace} (ht : P.underlying t = some (.int k)) (h : DataW.trod enc P W 0 (fun _ => true) held fuel t [v] = some x) :
    ∃ n, v = .int k n ∧ k.min ≤ n ∧ n ≤ k.max := by
  obtain ⟨n, h1, _, h2⟩ := DataW.trod_int ht h
  exact ⟨n, by simpa using h1, wf_has h2⟩
/-- a field of one cell -/
theorem gField {t : TypeId} {fs : Array Field} {fuel : Nat} {cs : List Value} {x : DataW H × List MemPlace} (ht : P.underlying t = some (.struct fs)) (h : DataW.trod enc P W 0 (fun _ => true) held fuel t cs = some x)
    (j : Nat) (f : Field) (hj : fs[j]? = some f) (ho : f.offset = j) (hc : P.cellsOf f.type = 1) (hl : j < cs.length) : ∃ n y, DataW.trod enc P W 0 (fun _ => true) held n f.type [cs.getD j default] = some y := by
  obtain ⟨xs, n, _, _, _, hxl, hf⟩ := DataW.trod_struct ht h
  have h1 := hf j f hj
  rw [ho, hc] at h1
  have hone : (cs.drop j).take 1 = [cs.getD j default] := by
    have h2 : cs.getD j default = cs[j] := by simp [List.getD_eq_getElem?_getD, List.getElem?_eq_getElem hl]
    rw [h2, List.drop_eq_getElem_cons hl]
    rfl
  rw [hone] at h1
  have hjl : j < fs.size := (Array.getElem?_eq_some_iff.1 hj).1
  exact ⟨n, _, h1.trans (List.getElem?_eq_getElem (show j < xs.length by omega))⟩
/-- a struct of four numbers, a row of truth values, a row of numbers -/
theorem gSix {t : TypeId} {f0 f1 f2 f3 f4 f5 : Field} {k0 k1 k2 k3 k5 : IntKind} {e4 e5 : TypeId} {v : Value} {d : DataW H} {p : List MemPlace} (hs : P.underlying t = some (.struct #[f0, f1, f2, f3, f4, f5]))
    (ho : f0.offset = 0 ∧ f1.offset = 1 ∧ f2.offset = 2 ∧ f3.offset = 3 ∧ f4.offset = 4 ∧ f5.offset = 5)
    (h0 : P.underlying f0.type = some (.int k0)) (h1 : P.underlying f1.type = some (.int k1)) (h2 : P.underlying f2.type = some (.int k2)) (h3 : P.underlying f3.type = some (.int k3))
    (h4 : P.underlying f4.type = some (.slice e4)) (h5 : P.underlying f5.type = some (.slice e5)) (g4 : P.underlying e4 = some .bool) (g5 : P.underlying e5 = some (.int k5))
    (hc : P.cellsOf f0.type = 1 ∧ P.cellsOf f1.type = 1 ∧ P.cellsOf f2.type = 1 ∧ P.cellsOf f3.type = 1 ∧ P.cellsOf f4.type = 1 ∧ P.cellsOf f5.type = 1) (c4 : P.cellsOf e4 = 1) (c5 : P.cellsOf e5 = 1) (hC : P.cellsOf t = 6)
    (hct : P.cellTypes P.depth t = some [f0.type, f1.type, f2.type, f3.type, f4.type, f5.type]) (hval : Value.okWide P W r b t v) (h : DataW.Trod enc P W 0 (fun _ => true) held t v d p) :
    ∃ (n0 n1 n2 n3 : Int) (B : List Bool) (R : List Int), GRel W noM (.agg [.int k0 n0, .int k1 n1, .int k2 n2, .int k3 n3, .roB B, .roI k5 R]) v ∧ (k0.min ≤ n0 ∧ n0 ≤ k0.max) ∧ (k1.min ≤ n1 ∧ n1 ≤ k1.max) ∧ (k2.min ≤ n2 ∧ n2 ≤ k2.max) ∧ (k3.min ≤ n3 ∧ n3 ≤ k3.max) ∧ ∀ n ∈ R, k5.min ≤ n ∧ n ≤ k5.max := by
  obtain ⟨cs, rfl, hsz⟩ := okWide_struct hs hval
  rw [hC] at hsz
  have hrow : Row.okWide P W r b t cs := by
    simp only [Value.okWide, hs] at hval
    obtain ⟨cs', h1, _, h3⟩ := hval
    cases h1
    exact h3
  obtain ⟨ts, hts, _, hcell⟩ := hrow
  rw [hct] at hts
  cases hts
  obtain ⟨fuel, hf⟩ := h
  have hf : DataW.trod enc P W 0 (fun _ => true) held fuel t cs.toList = some (d, p) := hf
  have hl : cs.toList.length = 6 := by simpa using hsz
  have hg : ∀ j, cs.toList.getD j default = cs.getD j default := fun j => by simp [List.getD_eq_getElem?_getD, Array.getD_eq_getD_getElem?]
  have hsome : ∀ j, j < 6 → cs[j]? = some (cs.getD j default) := fun j hj => by
    have : j < cs.size := by omega
    simp [Array.getD, this]
  obtain ⟨m0, y0, q0⟩ := gField hs hf 0 f0 rfl ho.1 hc.1 (by omega)
  obtain ⟨m1, y1, q1⟩ := gField hs hf 1 f1 rfl ho.2.1 hc.2.1 (by omega)
  obtain ⟨m2, y2, q2⟩ := gField hs hf 2 f2 rfl ho.2.2.1 hc.2.2.1 (by omega)
  obtain ⟨m3, y3, q3⟩ := gField hs hf 3 f3 rfl ho.2.2.2.1 hc.2.2.2.1 (by omega)
  obtain ⟨m4, y4, q4⟩ := gField hs hf 4 f4 rfl ho.2.2.2.2.1 hc.2.2.2.2.1 (by omega)
  obtain ⟨m5, y5, q5⟩ := gField hs hf 5 f5 rfl ho.2.2.2.2.2 hc.2.2.2.2.2 (by omega)
  rw [hg] at q0 q1 q2 q3 q4 q5
  obtain ⟨n0, r0, s0⟩ := gInt h0 q0
  obtain ⟨n1, r1, s1⟩ := gInt h1 q1
  obtain ⟨n2, r2, s2⟩ := gInt h2 q2
  obtain ⟨n3, r3, s3⟩ := gInt h3 q3
  obtain ⟨u4, i4, o4⟩ := hcell 4 _ (hsome 4 (by omega))
  obtain ⟨u5, i5, o5⟩ := hcell 5 _ (hsome 5 (by omega))
  cases i4
  cases i5
  obtain ⟨B, r4⟩ := gBools o4 h4 g4 c4 q4
  obtain ⟨R, r5, s5⟩ := gInts o5 h5 g5 c5 q5
  refine ⟨n0, n1, n2, n3, B, R, .agg _ cs hsz fun j hj => ?_, s0, s1, s2, s3, s5⟩
  match j, hj with
  | 0, _ => rw [r0]; exact .int _ _
  | 1, _ => rw [r1]; exact .int _ _
  | 2, _ => rw [r2]; exact .int _ _
  | 3, _ => rw [r3]; exact .int _ _
  | 4, _ => exact r4
  | 5, _ => exact r5
  | j + 6, hj => simp at hj; omega
/-- what a statement's walk needs, from a contract -/
theorem Ev.calls {f : Nat} {args : List AV} {Vs : Array Value} (h : Ev P f args (.bool true)) (hs : Vs.size = args.length) (hV : ∀ j, j < args.length → GRel W noM (args.getD j .undef) (Vs.getD j default)) :
    Calls P f Vs W fun e W' => e = .returned (.bool true) ∧ Below W.heap.size W W' := by
  obtain ⟨_, ht⟩ := h
  unfold Tr at ht
  have hR : Rep (fun _ => none) ⟨0, []⟩ W noM := ⟨fun _ _ => rfl, fun h c hg => (by cases hg), fun h h' c c' p p' hg => (by cases hg), fun b hb => False.elim hb⟩
  refine Calls.mono (ht.2 (fun _ => none) W noM Vs hR ⟨hs, fun j hj => .g _ _ (hV j hj)⟩) fun e W' he => ?_
  obtain ⟨V, ι', M', v, s', rfl, ⟨rfl, rfl⟩, h1, h2, h3⟩ := he
  obtain rfl := h1.bool_inv
  exact ⟨rfl, h3.os, h3.tape, h3.output, h3.size, fun k hk => h3.block k hk fun ⟨h, c, base, hg, _⟩ => by cases hg⟩
end
end Go.Ab
