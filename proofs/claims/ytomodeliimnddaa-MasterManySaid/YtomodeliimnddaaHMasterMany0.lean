/- Many polls; rows of frames; rows of polls. Statement of layer 26: answers in any order. From a statement's arguments to the engine's values; a statement's row from a contract. -/
import Derived.Test.YtomodeliimnddaaRows
import Derived.WalkKit
import Derived.ProofKit
import Derived.OpenShut
import Derived.ShutString
import Derived.ChangeOld
import Derived.Below
import Derived.Deep.Grids
import Derived.Test.YtomodeliimnddaaHMstB
import Derived.Test.YtomodeliimnddaaHEngD
set_option linter.unusedVariables false
set_option linter.unusedSimpArgs false
namespace Go.Proofs.Ytomodeliimnddaa
open Go.Ab
instance : Inhabited Fr := ⟨⟨0, 0, []⟩⟩
/-- a row of frames -/
def frC (fs : List Fr) : Chunk := .obj (frsA fs)
theorem frC_eq (fs : List Fr) : Chunk.obj (frsA fs) = frC fs := rfl
theorem frC_hok (fs : List Fr) (N : Nat) (ρ : Nat → Option Nat) : (frC fs).hok N ρ := frsA_hok fs
theorem frC_ren (fs : List Fr) (ρ : Nat → Option Nat) : (frC fs).ren ρ = frC fs := by
  show Chunk.obj (renL ρ (frsA fs)) = _
  rw [frsA_ren]; rfl
theorem frC_size (fs : List Fr) : (frC fs).size = 3 * fs.length := frsA_len fs
theorem frsA_flats : ∀ fs : List Fr, frsA fs = flatsL frA fs
  | [] => rfl
  | x :: r => by rw [flatsL, ← frsA_flats r]; rfl
theorem frC_at {fs : List Fr} {k j off : Nat} (hk : k < fs.length) (hj : j < 3) (ho : off = k * 3 + j) : (frC fs).ld false off 1 = (true, (frA fs[k]).getD j .undef) := by
  show (Nat.ble (off + 1) (frsA fs).length, (frsA fs).getD off .undef) = _
  rw [ho, Nat.ble_eq_true_of_le (by rw [frsA_len]; omega), frsA_flats, flatsL_get (F := frA) (es := 3) (fun _ => rfl) fs k j hk hj]
theorem frC_id {fs : List Fr} {k off : Nat} (hk : k < fs.length) (ho : off = k * 3) : (frC fs).ld false off 1 = (true, .int .u16 fs[k].id) := frC_at (j := 0) hk (by decide) ho
theorem frC_u {fs : List Fr} {k off : Nat} (hk : k < fs.length) (ho : off = k * 3 + 1) : (frC fs).ld false off 1 = (true, .int .u8 fs[k].u) := frC_at (j := 1) hk (by decide) ho
theorem frC_l {fs : List Fr} {k off : Nat} (hk : k < fs.length) (ho : off = k * 3 + 2) : (frC fs).ld false off 1 = (true, .roI .u8 fs[k].l) := frC_at (j := 2) hk (by decide) ho
attribute [irreducible] frC
theorem famAt1 {c : Nat} {a : Nat × Option Chunk} {L : Mem} {X : List Pl} (hB : outK c (a :: L) = true) (hX : X.length ≤ 36) : ∀ j (h : j < X.length), Mem.get (a :: (L ++ famP c 0 X)) (c + (j + 3)) = some (plC X[j]) := famAt (B := a :: L) hB hX
theorem famAt2 {c : Nat} {a b : Nat × Option Chunk} {L : Mem} {X : List Pl} (hB : outK c (a :: b :: L) = true) (hX : X.length ≤ 36) : ∀ j (h : j < X.length), Mem.get (a :: b :: (L ++ famP c 0 X)) (c + (j + 3)) = some (plC X[j]) := famAt (B := a :: b :: L) hB hX
theorem famAt3 {c : Nat} {a b d : Nat × Option Chunk} {L : Mem} {X : List Pl} (hB : outK c (a :: b :: d :: L) = true) (hX : X.length ≤ 36) : ∀ j (h : j < X.length), Mem.get (a :: b :: d :: (L ++ famP c 0 X)) (c + (j + 3)) = some (plC X[j]) := famAt (B := a :: b :: d :: L) hB hX
theorem wrap16_succ (x : Int) : IntKind.u16.wrap (IntKind.u16.wrap x + 1) = IntKind.u16.wrap (x + 1) := by
  show (x % 65536 + 1) % 65536 = (x + 1) % 65536
  omega
/-- where all are due -/
theorem bg_all {Y : List Pl} {I : Img} {L : Int} (hd : ∀ y ∈ Y, y.due = true) (hL : 0 ≤ L) (hn : L + Y.length < 4294967296) : ∀ k, k ≤ Y.length →
    bgL Y I L k = L + k ∧ (bgF Y I L k).length = k ∧ (∀ j (h : j < k) (h1 : j < (bgF Y I L k).length) (h2 : j < Y.length), (bgF Y I L k)[j] = Y[j].sends I (L + (j + 1 : Nat))) ∧ (∀ j (h1 : j < (bgX Y I L k).length) (h2 : j < Y.length), (bgX Y I L k)[j] = if j < k then Y[j].asks I (L + (j + 1 : Nat)) else Y[j])
  | 0, _ => ⟨by show L = L + ((0 : Nat) : Int); omega, rfl, fun j h => absurd h (by omega), fun j h1 h2 => by rw [if_neg (by omega)]; rfl⟩
  | k + 1, hk => by
    obtain ⟨i1, i2, i3, i4⟩ := bg_all hd hL hn k (by omega)
    have hx : Y[k]? = some Y[k] := List.getElem?_eq_getElem (by omega)
    obtain ⟨b1, b2, b3⟩ := bg_some (I := I) (last := L) hx (hd _ (List.getElem_mem _))
    have hw : IntKind.u32.wrap (bgL Y I L k + 1) = L + (k + 1 : Nat) := by
      rw [i1]
      show (L + (k : Int) + 1) % 4294967296 = _
      rw [Int.emod_eq_of_lt (by omega) (by omega)]; omega
    rw [hw] at b1 b2 b3
    refine ⟨b2, by rw [b3, List.length_append, i2]; rfl, fun j h h1 h2 => ?_, fun j h1 h2 => ?_⟩
    · rw [List.getElem_of_eq b3]
      by_cases e : j < k
      · rw [List.getElem_append_left (by rw [i2]; exact e)]
        exact i3 j e _ h2
      · obtain rfl : j = k := by omega
        rw [List.getElem_append_right (by rw [i2]; omega)]
        simp only [i2, Nat.sub_self, List.getElem_cons_zero]
    · rw [List.getElem_of_eq b1, List.getElem_set]
      by_cases e : k = j
      · subst e
        rw [if_pos rfl, if_pos (by omega)]
      · rw [if_neg e, i4 j (by rw [bgX_len]; exact h2) h2]
        by_cases e2 : j < k
        · rw [if_pos e2, if_pos (by omega)]
        · rw [if_neg e2, if_neg (by omega)]
/-- a row of polls that is being built -/
def poRow (f : Nat → Po) (i : Nat) : List AV := flatsL poL ((List.range i).map f)
theorem poRow_len (f : Nat → Po) (i : Nat) : (poRow f i).length = i * 8 := by
  unfold poRow; rw [flatsL_len poL_len]; simp
theorem poRow_one (f : Nat → Po) (i : Nat) : (poRow f i).all AV.one = true := by
  unfold poRow
  generalize (List.range i).map f = S
  induction S with
  | nil => rfl
  | cons x r ih => rw [flatsL, List.all_append, ih]; rfl
theorem poRow_zero (f : Nat → Po) : poRow f 0 = [] := rfl
theorem poRow_succ (f : Nat → Po) (i : Nat) : poRow f (i + 1) = poRow f i ++ poL (f i) := by
  unfold poRow
  rw [List.range_succ, List.map_append, flatsL_app]
  show _ ++ (poL (f i) ++ []) = _
  rw [List.append_nil]
theorem poRow_hok (f : Nat → Po) (i N : Nat) (ρ : Nat → Option Nat) : hokL N ρ (poRow f i) = true := by
  unfold poRow
  generalize (List.range i).map f = S
  induction S with
  | nil => rfl
  | cons x r ih => exact hokL_app _ _ rfl ih
theorem poRow_ren (f : Nat → Po) (i : Nat) (ρ : Nat → Option Nat) : renL ρ (poRow f i) = poRow f i := by
  unfold poRow
  generalize (List.range i).map f = S
  induction S with
  | nil => rfl
  | cons x r ih => rw [flatsL, renL_app, ih]; rfl
theorem poRow_see {f : Nat → Po} {i h : Nat} {g : Nat → Option Chunk} (hg : g h = some (.obj (poRow f i))) : See g (.sl 8 h 0 i) (.ro 8 (((List.range i).map f).map poA)) := by
  have := see_polls0 (S := (List.range i).map f) hg
  rwa [List.length_map, List.length_range] at this
theorem poRow_seeN {f : Nat → Po} {i h : Nat} {g : Nat → Option Chunk} {c : Chunk} (e : c = .obj (poRow f i)) (hg : g h = some c) : See g (.sl 8 h 0 i) (.ro 8 (((List.range i).map f).map poA)) := poRow_see (e ▸ hg)
def poC (f : Nat → Po) (i : Nat) : Chunk := .obj (poRow f i)
attribute [irreducible] poRow
theorem map_range_len {α : Type} (f : Nat → α) (n : Nat) : ((List.range n).map f).length = n := by simp
theorem map_range_mem {α : Type} {f : Nat → α} {n : Nat} {x : α} (h : x ∈ (List.range n).map f) : ∃ i, i < n ∧ x = f i := by
  obtain ⟨i, hi, rfl⟩ := List.mem_map.mp h
  exact ⟨i, List.mem_range.mp hi, rfl⟩
theorem allR_range {f : Nat → Po} {n : Nat} (h : ∀ i, i < n → rightB (f i) = true) : allR ((List.range n).map f) = true := by
  unfold allR
  rw [List.all_eq_true]
  intro x hx
  obtain ⟨i, hi, rfl⟩ := map_range_mem hx
  exact h i hi
theorem app_po {get : Nat → Option Chunk} {nx : Nat} {ρ : AOpd → AV} {x y : AOpd} {h h2 i : Nat} {f : Nat → Po} (hx : ρ x = .sl 8 h 0 i) (hy : ρ y = .sl 8 h2 0 1) (hg : get h = some (.obj (poRow f i))) (hg2 : get h2 = some (.obj (poL (f i)))) (hl : i ≤ 1000) :
    opD get nx ρ (.app 8 48 x y) = .ok true (.sl 8 nx 0 (i + 1)) (.app h (.obj (poRow f (i + 1)))) := by
  have e1 : ((poRow f i).drop 0).take (i * 8) = poRow f i := by
    rw [List.drop_zero, List.take_of_length_le (by rw [poRow_len]; omega)]
  have e2 : ((poL (f i)).drop 0).take (1 * 8) = poL (f i) := rfl
  have e3 : (poL (f i)).all AV.one = true := rfl
  have e5 : (poL (f i)).length = 8 := rfl
  simp only [opD, hx, hy, appA, rowFrom, hg, hg2, lenA, Chunk.cat, e1, e2, e3, poRow_one, poRow_len, e5, ← poRow_succ]
  congr 1
  simp
  omega
section
variable {X X' : List Pl} {last : Int} {oc : AV} {c N n : Nat} {B : Mem} {K : AV → St → Prop}
theorem pkBeginN {d : Nat} {I : Img} {last' : Int} {fs : List Fr} (hn : X.length = n) (H : MsAt B c n last .nils) (hX : n ≤ 36) (hp : ∀ x ∈ X, 1 ≤ x.p.n ∧ x.p.n ≤ 64) (hN : below B N = true) (hcN : Nat.ble (c + 39) N = true) (hd : d < c ∨ c + 39 ≤ d) (hd2 : Mem.get B d = some (imC I))
    (e : bgN (X.map Pl.older) I last n = (X', last', fs))
    (kk : K (.tup []) ⟨N + 1, ((N, some (frC fs)) :: (c, some (msP c n last' (.sl 3 N 0 fs.length))) :: B) ++ famP c 0 X'⟩) : Tr Try.prog 75 [.ptr c 0, .ptr d 0] ⟨N, B ++ famP c 0 X⟩ K := by
  subst hn
  rw [← frC_eq] at kk
  exact pkBeginA H hX hp hN hcN hd hd2 e kk
theorem pkOutN (hn : X.length = n) (H : MsAt B c n last oc) (hX : n ≤ 36) (kk : K oc ⟨N, ((c, some (msP c n last .nils)) :: B) ++ famP c 0 X⟩) : Tr Try.prog 76 [.ptr c 0] ⟨N, B ++ famP c 0 X⟩ K := by
  subst hn; exact pkOutA H hX kk
theorem pkTickN (hn : X.length = n) (H : MsAt B c n last oc) (hX : n ≤ 36) (kk : K (.tup []) ⟨N, B ++ famP c 0 (X.map Pl.tick)⟩) : Tr Try.prog 83 [.ptr c 0] ⟨N, B ++ famP c 0 X⟩ K := by
  subst hn; exact pkTick H hX kk
theorem pkTakeRN {id u : Int} {l : List Int} {b : Bool} (hn : X.length = n) (H : MsAt B c n last oc) (hX : n ≤ 36) (hq : OkX X) (hl : l.length ≤ 1000) (eT : takeP id u l X = (b, X'))
    (kk : K (.bool b) ⟨N, B ++ famP c 0 X'⟩) : Tr Try.prog 77 [.ptr c 0, .agg [.int .u16 id, .int .u8 u, .roI .u8 l]] ⟨N, B ++ famP c 0 X⟩ K := by
  subst hn; exact pkTakeR H hX hq hl eT kk
theorem pkTakeN {id u : Int} {l : List Int} {b : Bool} {h m : Nat} (hn : X.length = n) (H : MsAt B c n last oc) (hX : n ≤ 36) (hq : OkX X) (hl : l.length ≤ 1000) (hr : Mem.get B h = some (.rowI .u8 l)) (hm : m = l.length) (eT : takeP id u l X = (b, X'))
    (kk : K (.bool b) ⟨N, ((h, none) :: B) ++ famP c 0 X'⟩) : Tr Try.prog 77 [.ptr c 0, .agg [.int .u16 id, .int .u8 u, .sl 1 h 0 m]] ⟨N, B ++ famP c 0 X⟩ K := by
  subst hn; exact pkTake H hX hq hl hr hm eT kk
theorem pkLatchN {d : Nat} {J : Img} (hn : X.length = n) (H : MsAt B c n last oc) (hX : n ≤ 36) (hl : ∀ x ∈ X, x.l.length ≤ 1000 ∧ ∀ v ∈ x.l, 0 ≤ v) (hd : d < c ∨ c + 39 ≤ d) (hd2 : Mem.get B d = some (imC J))
    (kk : K (.tup []) ⟨N, ((d, some (imC (latchN J X n))) :: B) ++ famP c 0 X⟩) : Tr Try.prog 78 [.ptr c 0, .ptr d 0] ⟨N, B ++ famP c 0 X⟩ K := by
  subst hn; exact pkLatchA H hX hl hd hd2 kk
end
end Go.Proofs.Ytomodeliimnddaa
set_option linter.unusedVariables false
set_option linter.unusedSimpArgs false
namespace Go.Proofs.Ytomodeliimnddaa
open Go.Ab
/- rung/runglaw26.MasterMany -/
def a21 : ACode := (.seq (.reg [⟨(some 6), .mov (.c (.bool false)), none, false⟩])
 (.seq (.seq (.reg [⟨(some 18), .call 72 [], none, false⟩, ⟨(some 19), .un .not (.t 18), none, false⟩])
 (.cond (.t 19) (.seq (.reg [⟨(some 6), .mov (.c (.bool false)), none, false⟩])
 .ret)
 .skip))
 (.seq (.seq (.reg [⟨(some 20), .mov (.t 1), none, false⟩, ⟨(some 21), .len false (.t 20), none, false⟩, ⟨(some 22), .bin .gtr .other (.t 21) (.c (.int .i64 100)), none, false⟩, ⟨(some 23), .mov (.t 22), none, true⟩, ⟨(some 24), .mov (.t 2), (some (23, false)), false⟩, ⟨(some 25), .len false (.t 24), (some (23, false)), false⟩, ⟨(some 26), .bin .gtr .other (.t 25) (.c (.int .i64 100)), (some (23, false)), false⟩, ⟨(some 27), .pick (.t 23) (.c (.bool true)) (.t 26), none, false⟩])
 (.cond (.t 27) (.seq (.reg [⟨(some 6), .mov (.c (.bool true)), none, false⟩])
 .ret)
 .skip))
 (.seq (.reg [⟨(some 28), .mov (.t 0), none, false⟩, ⟨(some 29), .call 68 [(.t 28), (.c (.int .i64 32))], none, false⟩, ⟨(some 30), .bin .add .other (.c (.int .i64 1)) (.t 29), none, false⟩, ⟨(some 0), .mov (.t 30), none, false⟩])
 (.seq (.reg [⟨(some 7), .mov (.c .nils), none, false⟩])
 (.seq (.seq (.reg [⟨(some 8), .mov (.c (.int .i64 0)), none, false⟩])
 (.block 0 (.loop (.seq (.seq (.reg [⟨(some 31), .mov (.t 8), none, false⟩, ⟨(some 32), .mov (.t 0), none, false⟩, ⟨(some 33), .bin .lss .other (.t 31) (.t 32), none, false⟩])
 (.cond (.t 33) .skip
 (.exit 0)))
 (.seq (.block 1 (.reg [⟨(some 36), .mov (.t 7), none, false⟩, ⟨(some 37), .mov (.t 8), none, false⟩, ⟨(some 38), .conv (.int .u16) (.t 37), none, false⟩, ⟨(some 39), .mov (.t 8), none, false⟩, ⟨(some 40), .build [(.int .u8 0), (.int .u8 0), (.int .u16 0), (.int .i64 0), (.int .i64 0), (.int .i64 0), (.int .i64 0), (.int .i64 0)] [(0, 1, (.c (.int .u8 9))), (1, 1, (.c (.int .u8 3))), (2, 1, (.t 38)), (3, 1, (.c (.int .i64 1))), (4, 1, (.t 39)), (5, 1, (.c (.int .i64 1))), (6, 1, (.c (.int .i64 9))), (7, 1, (.c (.int .i64 1)))], none, false⟩, ⟨(some 41), .bslice 8 .gen [(.int .u8 0), (.int .u8 0), (.int .u16 0), (.int .i64 0), (.int .i64 0), (.int .i64 0), (.int .i64 0), (.int .i64 0)] [(0, 8, (.t 40))] 1, none, false⟩, ⟨(some 42), .app 8 48 (.t 36) (.t 41), none, false⟩, ⟨(some 7), .mov (.t 42), none, false⟩]))
 (.reg [⟨(some 34), .mov (.t 8), none, false⟩, ⟨(some 35), .bin .add .other (.t 34) (.c (.int .i64 1)), none, false⟩, ⟨(some 8), .mov (.t 35), none, false⟩]))))))
 (.seq (.reg [⟨(some 44), .mov (.t 7), none, false⟩, ⟨(some 45), .call 73 [(.t 44)], none, false⟩, ⟨(some 43), .mov (.t 45), none, false⟩, ⟨(some 46), .ext (.t 43) 0, none, false⟩, ⟨(some 47), .ext (.t 43) 1, none, false⟩, ⟨(some 9), .mov (.t 46), none, false⟩, ⟨(some 10), .mov (.t 47), none, false⟩])
 (.seq (.reg [⟨(some 48), .call 27 [], none, false⟩, ⟨(some 11), .mov (.t 48), none, false⟩])
 (.seq (.seq (.reg [⟨(some 49), .mov (.t 10), none, false⟩, ⟨(some 50), .bin .neq .other (.t 49) (.c (.int .i64 0)), none, false⟩])
 (.cond (.t 50) (.seq (.reg [⟨(some 6), .mov (.c (.bool false)), none, false⟩])
 .ret)
 .skip))
 (.seq (.reg [⟨(some 51), .mov (.t 9), none, false⟩, ⟨(some 52), .mov (.t 11), none, false⟩, ⟨(some 53), .call 75 [(.t 51), (.t 52)], none, false⟩])
 (.seq (.reg [⟨(some 54), .mov (.t 9), none, false⟩, ⟨(some 55), .call 76 [(.t 54)], none, false⟩, ⟨(some 12), .mov (.t 55), none, false⟩])
 (.seq (.reg [⟨(some 56), .mkslice 1 2 (.int .u16) [(.int .u16 0)] (.c (.int .i64 64)), none, false⟩, ⟨(some 13), .mov (.t 56), none, false⟩])
 (.seq (.reg [⟨(some 57), .mov (.t 0), none, false⟩, ⟨(some 58), .mkslice 1 1 .bool [(.bool false)] (.t 57), none, false⟩, ⟨(some 14), .mov (.t 58), none, false⟩])
 (.seq (.seq (.reg [⟨(some 15), .mov (.c (.int .i64 0)), none, false⟩])
 (.block 2 (.loop (.seq (.seq (.reg [⟨(some 59), .mov (.t 15), none, false⟩, ⟨(some 60), .mov (.t 1), none, false⟩, ⟨(some 61), .len false (.t 60), none, false⟩, ⟨(some 62), .bin .lss .other (.t 59) (.t 61), none, false⟩, ⟨(some 63), .mov (.t 62), none, true⟩, ⟨(some 64), .mov (.t 15), (some (63, true)), false⟩, ⟨(some 65), .mov (.t 2), (some (63, true)), false⟩, ⟨(some 66), .len false (.t 65), (some (63, true)), false⟩, ⟨(some 67), .bin .lss .other (.t 64) (.t 66), (some (63, true)), false⟩, ⟨(some 68), .pick (.t 63) (.t 67) (.c (.bool false)), none, false⟩, ⟨(some 69), .mov (.t 68), none, true⟩, ⟨(some 70), .mov (.t 12), (some (69, true)), false⟩, ⟨(some 71), .len false (.t 70), (some (69, true)), false⟩, ⟨(some 72), .mov (.t 0), (some (69, true)), false⟩, ⟨(some 73), .bin .eql .other (.t 71) (.t 72), (some (69, true)), false⟩, ⟨(some 74), .pick (.t 69) (.t 73) (.c (.bool false)), none, false⟩])
 (.cond (.t 74) .skip
 (.exit 2)))
 (.seq (.block 3 (.seq (.reg [⟨(some 77), .mov (.t 1), none, false⟩, ⟨(some 78), .mov (.t 15), none, false⟩, ⟨(some 79), .idx 1 none false (.t 77) (.t 78), none, false⟩, ⟨(some 80), .load false 1 (.t 79), none, false⟩, ⟨(some 81), .conv (.int .i64) (.t 80), none, false⟩, ⟨(some 82), .mov (.t 0), none, false⟩, ⟨(some 83), .bin .rem .other (.t 81) (.t 82), none, false⟩, ⟨(some 16), .mov (.t 83), none, false⟩])
 (.seq (.draw [⟨0, ⟨(some 84), .mov (.t 9), none, false⟩, false, [], []⟩, ⟨1, ⟨(some 85), .mov (.t 12), none, false⟩, false, [], []⟩, ⟨2, ⟨(some 86), .mov (.t 16), none, false⟩, false, [], []⟩, ⟨3, ⟨(some 87), .idx 3 none true (.t 85) (.t 86), none, false⟩, false, [], []⟩, ⟨4, ⟨(some 88), .fld 0 1 false (.t 87), none, false⟩, false, [], []⟩, ⟨5, ⟨(some 89), .load false 1 (.t 88), none, false⟩, false, [], []⟩, ⟨6, ⟨(some 90), .mov (.t 2), none, false⟩, false, [], []⟩, ⟨7, ⟨(some 91), .mov (.t 15), none, false⟩, false, [], []⟩, ⟨8, ⟨(some 92), .idx 1 none false (.t 90) (.t 91), none, false⟩, false, [], []⟩, ⟨9, ⟨(some 93), .load false 1 (.t 92), none, false⟩, false, [], []⟩, ⟨10, ⟨(some 94), .bin .shr .other (.t 93) (.c (.int .u64 8)), none, false⟩, false, [], []⟩, ⟨11, ⟨(some 95), .conv (.int .u8) (.t 94), none, false⟩, false, [], []⟩, ⟨12, ⟨(some 96), .mov (.t 2), none, false⟩, false, [], []⟩, ⟨13, ⟨(some 97), .mov (.t 15), none, false⟩, false, [], []⟩, ⟨14, ⟨(some 98), .idx 1 none false (.t 96) (.t 97), none, false⟩, false, [], []⟩, ⟨15, ⟨(some 99), .load false 1 (.t 98), none, false⟩, false, [], []⟩, ⟨16, ⟨(some 100), .conv (.int .u8) (.t 99), none, false⟩, false, [], []⟩, ⟨17, ⟨(some 101), .bslice 1 (.int .u8) [(.int .u8 0), (.int .u8 0), (.int .u8 0), (.int .u8 0)] [(0, 1, (.c (.int .u8 3))), (1, 1, (.c (.int .u8 2))), (2, 1, (.t 95)), (3, 1, (.t 100))] 4, none, false⟩, false, [], []⟩, ⟨18, ⟨(some 102), .build [(.int .u16 0), (.int .u8 0), .nils] [(0, 1, (.t 89)), (1, 1, (.c (.int .u8 9))), (2, 1, (.t 101))], none, false⟩, false, [], []⟩, ⟨19, ⟨(some 103), .call 77 [(.t 84), (.t 102)], none, false⟩, true, [17], []⟩, ⟨20, ⟨(some 17), .mov (.t 103), none, false⟩, false, [], []⟩])
 (.seq (.seq (.reg [⟨(some 104), .mov (.t 17), none, false⟩, ⟨(some 105), .mov (.t 14), none, false⟩, ⟨(some 106), .mov (.t 16), none, false⟩, ⟨(some 107), .idx 1 none false (.t 105) (.t 106), none, false⟩, ⟨(some 108), .load false 1 (.t 107), none, false⟩, ⟨(some 109), .bin .eql .bool (.t 104) (.t 108), none, false⟩])
 (.cond (.t 109) (.seq (.reg [⟨(some 6), .mov (.c (.bool false)), none, false⟩])
 .ret)
 .skip))
 (.seq (.seq (.reg [⟨(some 110), .mov (.t 17), none, false⟩])
 (.cond (.t 110) (.reg [⟨(some 111), .mov (.t 13), none, false⟩, ⟨(some 112), .mov (.t 16), none, false⟩, ⟨(some 113), .mov (.t 14), none, false⟩, ⟨(some 114), .mov (.t 16), none, false⟩, ⟨(some 115), .mov (.t 2), none, false⟩, ⟨(some 116), .mov (.t 15), none, false⟩, ⟨(some 117), .idx 1 none false (.t 115) (.t 116), none, false⟩, ⟨(some 118), .load false 1 (.t 117), none, false⟩, ⟨(some 119), .idx 1 none false (.t 111) (.t 112), none, false⟩, ⟨none, .store 1 (.t 119) (.t 118), none, false⟩, ⟨(some 120), .idx 1 none false (.t 113) (.t 114), none, false⟩, ⟨none, .store 1 (.t 120) (.c (.bool true)), none, false⟩])
 .skip))
 (.seq (.reg [⟨(some 121), .mov (.t 9), none, false⟩, ⟨(some 122), .mov (.t 11), none, false⟩, ⟨(some 123), .call 78 [(.t 121), (.t 122)], none, false⟩])
 (.seq (.reg [⟨(some 124), .mov (.t 11), none, false⟩, ⟨(some 125), .call 36 [(.t 124), (.c (.int .i64 4))], none, false⟩, ⟨(some 126), .mov (.t 13), none, false⟩, ⟨(some 127), .call 35 [(.t 125), (.t 126)], none, false⟩, ⟨(some 128), .un .not (.t 127), none, false⟩])
 (.cond (.t 128) (.seq (.reg [⟨(some 6), .mov (.c (.bool false)), none, false⟩])
 .ret)
 .skip))))))))
 (.reg [⟨(some 75), .mov (.t 15), none, false⟩, ⟨(some 76), .bin .add .other (.t 75) (.c (.int .i64 1)), none, false⟩, ⟨(some 15), .mov (.t 76), none, false⟩]))))))
 (.seq (.reg [⟨(some 129), .mov (.t 12), none, false⟩, ⟨(some 130), .len false (.t 129), none, false⟩, ⟨(some 131), .mov (.t 0), none, false⟩, ⟨(some 132), .bin .eql .other (.t 130) (.t 131), none, false⟩, ⟨(some 6), .mov (.t 132), none, false⟩])
 .ret)))))))))))))))
def r21 : List ARes := [.t 6]
theorem c21 : compF Try.prog Try.f21 = some (a21, r21) := by kernel_rfl

theorem b21 : hasBody Try.prog 21 = true := by kernel_rfl
theorem g21 : Try.prog.funcs[21]? = some Try.f21 := by kernel_rfl

def pM (i : Nat) : Po := ⟨9, 3, IntKind.u16.wrap i, 1, i, 1, 9, 1⟩
theorem w16_small {k : Nat} (h : k < 36) : IntKind.u16.wrap (k : Int) = k := by
  show (k : Int) % 65536 = k
  omega
theorem rightM (k : Nat) (h : k < 36) : rightB (pM k) = true := by
  refine right_of (by decide) (by decide) (by decide) ?_ ⟨by omega, by show (k : Int) ≤ 64 - 1; omega⟩ (by decide) (by decide) (by decide)
  rw [w16_small h]; omega
/-- a poll that waits; one that was answered -/
def mW (j : Nat) : Pl := ⟨pM j, 4, 0, true, IntKind.u16.wrap ((j : Int) + 1), 9, 3, IntKind.u16.wrap j, 1, [], [], 0, false, 1, []⟩
def mA (j : Nat) (v : Int) : Pl := ⟨pM j, 4, 0, false, IntKind.u16.wrap ((j : Int) + 1), 9, 3, IntKind.u16.wrap j, 1, [], [], 0, false, 0, [v]⟩
def mX (P : Nat) (D : List Bool) (W : List Int) : List Pl := (List.range P).map fun j => if D.getD j false then mA j (W.getD j 0) else mW j
theorem mX_len (P : Nat) (D : List Bool) (W : List Int) : (mX P D W).length = P := map_range_len _ _
theorem mX_get (P : Nat) (D : List Bool) (W : List Int) (j : Nat) (h : j < (mX P D W).length) : (mX P D W)[j] = if D.getD j false then mA j (W.getD j 0) else mW j := by
  simp [mX]
theorem getD_set {α : Type} {l : List α} {k j : Nat} {x d : α} (hk : k < l.length) : (l.set k x).getD j d = if j = k then x else l.getD j d := by
  rw [List.getD_eq_getElem?_getD, List.getElem?_set, List.getD_eq_getElem?_getD]
  by_cases e : j = k
  · subst e; rw [if_pos rfl, if_pos rfl, if_pos hk]; rfl
  · rw [if_neg (fun h => e h.symm), if_neg e]
theorem hit_mW (k j : Nat) (v : Int) (hk : k < 36) (hj : j < 36) (h0 : 0 ≤ v) (h1 : v < 65536) : hitB (IntKind.u16.wrap ((k : Int) + 1)) 9 (good 3 v) (mW j) = decide (j = k) := by
  have ho : orepS (mW j).rq (good 3 v) = (⟨3, 0, 0, 0, [], [v]⟩, 0) := orep_good 3 _ v (.inl rfl) h0 h1
  unfold hitB
  rw [ho]
  show (true && (IntKind.u16.wrap ((j : Int) + 1) == IntKind.u16.wrap ((k : Int) + 1)) && ((9 : Int) == 9) && ((0 : Int) == 0)) = _
  have e1 : IntKind.u16.wrap ((j : Int) + 1) = (j : Int) + 1 := by show ((j : Int) + 1) % 65536 = _; omega
  have e2 : IntKind.u16.wrap ((k : Int) + 1) = (k : Int) + 1 := by show ((k : Int) + 1) % 65536 = _; omega
  rw [e1, e2]
  by_cases e : j = k
  · subst e; simp
  · have : ((j : Int) + 1 == (k : Int) + 1) = false := by simpa using (by omega : ¬ (j : Int) = k)
    rw [this, decide_eq_false e]; rfl
theorem got_mW (k : Nat) (v : Int) (h0 : 0 ≤ v) (h1 : v < 65536) : gotP (good 3 v) (mW k) = mA k v := by
  have ho : orepS (mW k).rq (good 3 v) = (⟨3, 0, 0, 0, [], [v]⟩, 0) := orep_good 3 _ v (.inl rfl) h0 h1
  unfold gotP
  rw [ho, if_pos rfl]
  rfl
theorem take_mX (P : Nat) (D : List Bool) (W : List Int) (k : Nat) (v : Int) (hk : k < P) (hP : P ≤ 36) (hD : D.length = P) (hW : P ≤ W.length) (h0 : 0 ≤ v) (h1 : v < 65536) :
    takeP (IntKind.u16.wrap ((k : Int) + 1)) 9 (good 3 v) (mX P D W) = if D.getD k false then (false, mX P D W) else (true, mX P (D.set k true) (W.set k v)) := by
  have hA : ∀ j (h : j < (mX P D W).length), j ≠ k ∨ D.getD k false = true → hitB (IntKind.u16.wrap ((k : Int) + 1)) 9 (good 3 v) (mX P D W)[j] = false := fun j h hjk => by
    have hj : j < P := by rw [mX_len] at h; exact h
    rw [mX_get]
    by_cases hd : D.getD j false = true
    · rw [if_pos hd]; rfl
    · rw [if_neg hd, hit_mW k j v (by omega) (by omega) h0 h1]
      refine decide_eq_false fun e => ?_
      subst e
      rcases hjk with h | h
      · exact h rfl
      · exact hd h
  by_cases hd : D.getD k false = true
  · rw [if_pos hd]
    exact takeP_no _ _ _ _ fun j h => hA j h (.inr hd)
  · rw [if_neg hd]
    have hkX : k < (mX P D W).length := by rw [mX_len]; exact hk
    have hx : (mX P D W)[k] = mW k := by rw [mX_get, if_neg hd]
    rw [takeP_hit _ _ _ (mX P D W) k hkX (by rw [hx, hit_mW k k v (by omega) (by omega) h0 h1]; simp) fun j h hj => hA j h (.inl (by omega)), hx, got_mW k v h0 h1]
    congr 1
    apply List.ext_getElem
    · rw [List.length_set, mX_len, mX_len]
    · intro j h2 h3
      rw [List.getElem_set, mX_get P (D.set k true), getD_set (by omega), getD_set (by omega), mX_get]
      by_cases e : k = j
      · subst e; rw [if_pos rfl, if_pos rfl, if_pos rfl, if_pos rfl]
      · have e2 : ¬ j = k := fun h => e h.symm
        simp only [if_neg e, e2, if_false]
theorem okx_mX (P : Nat) (D : List Bool) (W : List Int) : OkX (mX P D W) := fun x hx => by
  obtain ⟨j, _, rfl⟩ := map_range_mem hx
  by_cases h : D.getD j false = true
  · rw [if_pos h]; exact ⟨(by decide : (0 : Int) ≤ 1), (by decide : (1 : Int) < 65536), Nat.zero_le _, Nat.zero_le _, fun _ => rfl⟩
  · rw [if_neg h]; exact ⟨(by decide : (0 : Int) ≤ 1), (by decide : (1 : Int) < 65536), Nat.zero_le _, Nat.zero_le _, fun _ => rfl⟩
theorem put_at (J : Img) (a i v : Int) (j : Nat) (h : inA 4 i = true) (ha : a = 4) : (J.put a i v).o 4 j = if j = i.toNat then v else J.o 4 j := by
  subst ha
  show putO J.o 4 i v 4 j = _
  unfold putO
  rw [if_pos h]
  unfold set2
  by_cases e : j = i.toNat
  · rw [if_pos ⟨rfl, e⟩, if_pos e]; rfl
  · rw [if_neg (fun h => e h.2), if_neg e]
theorem latch_mX (J : Img) (P : Nat) (D : List Bool) (W : List Int) (hP : P ≤ 36) (j : Nat) : ∀ i, i ≤ P → (latchN J (mX P D W) i).o 4 j = if j < i ∧ D.getD j false = true then W.getD j 0 else J.o 4 j
  | 0, _ => by rw [if_neg (by omega)]; rfl
  | i + 1, hi => by
    have ih := latch_mX J P D W hP j i (by omega)
    have hx : (mX P D W)[i]? = some (if D.getD i false then mA i (W.getD i 0) else mW i) := by
      rw [List.getElem?_eq_getElem (by rw [mX_len]; omega), mX_get]
    show (match (mX P D W)[i]? with
      | some x => putL (latchN J (mX P D W) i) x x.l.length
      | none => latchN J (mX P D W) i).o 4 j = _
    rw [hx]
    by_cases hd : D.getD i false = true
    · rw [if_pos hd]
      show ((latchN J (mX P D W) i).put 4 (IntKind.i64.wrap ((i : Int) + 0)) (W.getD i 0)).o 4 j = _
      rw [Int.add_zero, w64i (by omega) (by omega), put_at _ 4 i _ j (inA_iff.mpr ⟨by omega, by show (i : Int) < 64; omega⟩) rfl, ih, Int.toNat_natCast]
      by_cases e : j = i
      · subst e; rw [if_pos rfl, if_pos ⟨by omega, hd⟩]
      · rw [if_neg e]
        by_cases e2 : j < i ∧ D.getD j false = true
        · rw [if_pos e2, if_pos ⟨by omega, e2.2⟩]
        · rw [if_neg e2, if_neg fun h => e2 ⟨by omega, h.2⟩]
    · rw [if_neg hd]
      show (latchN J (mX P D W) i).o 4 j = _
      rw [ih]
      by_cases e2 : j < i ∧ D.getD j false = true
      · rw [if_pos e2, if_pos ⟨by omega, e2.2⟩]
      · rw [if_neg e2, if_neg fun h => e2 ⟨by
          rcases Nat.lt_or_ge j i with h1 | h1
          · exact h1
          · have : j = i := by omega
            subst this; exact absurd h.2 hd, h.2⟩]
theorem allL_ext {f : Nat → Nat → Int} {W : List Int} (hW : W.length = 64) (h : ∀ j, j < 64 → f 4 j = W.getD j 0) : allL f 4 = W := by
  apply List.ext_getElem
  · rw [allL_length, hW]; rfl
  · intro j h1 h2
    have hj : j < 64 := by omega
    have : (allL f 4)[j] = f 4 j := by simp [allL]
    refine Eq.trans this ?_
    rw [h j hj, List.getD_eq_getElem?_getD, List.getElem?_eq_getElem h2]; rfl
theorem allL_at {f : Nat → Nat → Int} {W : List Int} (h : allL f 4 = W) (j : Nat) (hj : j < 64) : f 4 j = W.getD j 0 := by
  rw [← h, List.getD_eq_getElem?_getD]
  have hl : j < (allL f 4).length := by rw [allL_length]; exact hj
  rw [List.getElem?_eq_getElem hl]
  simp [allL]
theorem mX_l {P : Nat} {D : List Bool} {W : List Int} (h : ∀ v ∈ W, 0 ≤ v) : ∀ x ∈ mX P D W, x.l.length ≤ 1000 ∧ ∀ v ∈ x.l, 0 ≤ v := fun x hx => by
  obtain ⟨j, _, rfl⟩ := map_range_mem hx
  by_cases hd : D.getD j false = true
  · rw [if_pos hd]
    refine ⟨(by decide : (1 : Nat) ≤ 1000), fun v hv => ?_⟩
    have hv : v ∈ [W.getD j 0] := hv
    rw [List.mem_singleton] at hv
    subst hv
    rw [List.getD_eq_getElem?_getD]
    cases e : W[j]? with
    | none => exact Int.le_refl _
    | some w => exact h w (List.mem_of_getElem? e)
  · rw [if_neg hd]
    exact ⟨Nat.zero_le _, fun v hv => by cases hv⟩
theorem see_all {g : Nat → Option Chunk} {h n : Nat} {k : IntKind} {row : List Int} (hg : g h = some (.rowI k row)) (hn : n = row.length) : See g (.sl 1 h 0 n) (.roI k row) := by
  subst hn
  have := See.rowI (o := 0) (n := row.length) hg (by omega)
  rwa [List.drop_zero, List.take_length] at this
structure LM where
  k : Nat
  D : List Bool
  W : List Int
  J : Img
structure LM.Ok (a : LM) (n i : Nat) : Prop where
  hk : a.k ≤ n
  hD : a.D.length = i
  hW : a.W.length = 64
  h0 : ∀ v ∈ a.W, 0 ≤ v
  hJ : allL a.J.o 4 = a.W
theorem LM.ok0 (n i : Nat) : LM.Ok ⟨0, List.replicate i false, List.replicate 64 0, .zero⟩ n i :=
  ⟨Nat.zero_le _, List.length_replicate, List.length_replicate, (fun v hv => by have := (List.mem_replicate.mp hv).2; omega), by kernel_rfl⟩
theorem first_mX (P : Nat) (hP : P ≤ 32) : ∃ F, bgN ((((List.range P).map pM).map newP).map Pl.older) .zero 0 P = (mX P (List.replicate P false) (List.replicate 64 0), (P : Int), F) ∧ F.length = P ∧ ∀ k (h : k < F.length), F[k].id = IntKind.u16.wrap ((k : Int) + 1) := by
  have hYl : ((((List.range P).map pM).map newP).map Pl.older).length = P := by simp
  have hY : ∀ j (h : j < ((((List.range P).map pM).map newP).map Pl.older).length), ((((List.range P).map pM).map newP).map Pl.older)[j] = (newP (pM j)).older := fun j h => by simp
  obtain ⟨b1, b2, b3, b4⟩ := bg_all (Y := (((List.range P).map pM).map newP).map Pl.older) (I := .zero) (L := 0) (fun y hy => by
    obtain ⟨j, hj, rfl⟩ := List.getElem_of_mem hy
    rw [hY]; rfl) (Int.le_refl _) (by omega) P (by omega)
  refine ⟨bgF ((((List.range P).map pM).map newP).map Pl.older) .zero 0 P, ?_, b2, fun k h => ?_⟩
  · show (bgX _ .zero 0 P, bgL _ .zero 0 P, bgF _ .zero 0 P) = _
    rw [b1, Int.zero_add]
    congr 1
    apply List.ext_getElem
    · rw [bgX_len, hYl, mX_len]
    · intro j h1 h2
      have hj : j < P := by rw [mX_len] at h2; exact h2
      rw [b4 j h1 (by omega), if_pos hj, hY, mX_get, if_neg (by simp [List.getD_eq_getElem?_getD, hj])]
      rw [asks_rd (show (3 : Int) < 5 by decide)]
      show (⟨pM j, 4, 0, true, IntKind.u16.wrap (0 + ((j + 1 : Nat) : Int)), 9, 3, IntKind.u16.wrap j, IntKind.u16.wrap 1, [], [], 0, false, 1, []⟩ : Pl) = mW j
      rw [Int.zero_add]
      rfl
  · rw [b3 k (by omega) h (by omega)]
    show IntKind.u16.wrap (0 + ((k + 1 : Nat) : Int)) = _
    rw [Int.zero_add]; rfl
set_option maxRecDepth 20000 in
set_option maxHeartbeats 4000000 in
theorem law21 (n0 : Int) (O V : List Int) (hO : ∀ x ∈ O, 0 ≤ x ∧ x < 256) (hV : ∀ x ∈ V, 0 ≤ x ∧ x < 65536) : Ev Try.prog 21 [.int .i64 n0, .roI .u8 O, .roI .u16 V] (.bool true) := by
  refine FrzK.ev rfl (trF g21 b21 c21 ?_)
  conv => whnf
  refine Ev.call known26_ev ?_
  conv => whnf
  refine condF (fun hO1 => ?_) (fun _ => ?_)
  rotate_left
  · conv => whnf
    exact FrzK.le (Le.refl _)
  have hO1 : O.length ≤ 100 := by simp at hO1; omega
  conv => whnf
  refine condF (fun hV1 => ?_) (fun _ => ?_)
  rotate_left
  · conv => whnf
    exact FrzK.le (Le.refl _)
  have hV1 : V.length ≤ 100 := by simp at hV1; omega
  conv => whnf
  refine Ev.call (place_ev n0 32 (by decide) (by decide)) ?_
  conv => whnf
  have hp := place_range n0 32 (by decide)
  generalize placeS n0 32 = q0 at *
  rw [w64i (n := 1 + q0) (by omega) (by omega)]
  obtain ⟨pp, hpp⟩ : ∃ pp, pp = 1 + q0 := ⟨_, rfl⟩
  rw [← hpp]
  refine loopI (α := {i : Nat // (i : Int) ≤ pp}) (fun i => [(0, .int .i64 pp), (1, .roI .u8 O), (2, .roI .u16 V), (7, .sl 8 0 0 i.1), (8, .int .i64 i.1)]) (fun i => ⟨1, [(0, some (.obj (poRow pM i.1)))]⟩) (fun i => pp.toNat - i.1) ⟨0, by show (0 : Int) ≤ pp; omega⟩
    ⟨[(0, none)], rfl, rfl, rfl, ⟨⟨rfl, rfl⟩, ⟨rfl, rfl⟩, ⟨rfl, rfl⟩, ⟨rfl, rfl⟩, ⟨rfl, rfl⟩, trivial⟩, ⟨⟨poRow_hok _ _ _ _, rfl, by show (poRow pM 0).length = 0; rw [poRow_len]⟩, trivial⟩⟩ fun ⟨i, hi⟩ => ?_
  conv => whnf
  by_cases hlt : (i : Int) < pp
  · refine condY (by simpa using hlt) ?_
    conv => whnf
    have hdt : List.take (i * 8) (List.drop 0 (poRow pM i)) = poRow pM i := by rw [List.drop_zero, List.take_of_length_le (by rw [poRow_len]; omega)]
    refine condT ?_ ?_
    · show (Nat.beq 8 8 && decide (0 + i * 8 ≤ (poRow pM i).length) && (List.take (i * 8) (List.drop 0 (poRow pM i))).all AV.one && (Nat.beq 8 8 && decide (0 + 1 * 8 ≤ 8) && true) && decide ((i + 1) * 48 ≤ 140737488355328) && decide (i + 1 ≤ 140737488355328)) = true
      rw [hdt, poRow_one, poRow_len]
      simp
      omega
    conv => whnf
    refine ⟨⟨i + 1, by show ((i + 1 : Nat) : Int) ≤ pp; omega⟩, ⟨[(0, some 2)], rfl, rfl, rfl, ⟨⟨rfl, rfl⟩, ⟨rfl, rfl⟩, ⟨rfl, rfl⟩, ⟨rfl, rfl⟩, ⟨?_, rfl⟩, trivial⟩, ⟨⟨poRow_hok _ _ _ _, rfl, ?_⟩, trivial⟩⟩, by show pp.toNat - (i + 1) < pp.toNat - i; omega⟩
    · show AV.int .i64 (IntKind.i64.wrap ((i : Int) + 1)) = AV.int .i64 ((i + 1 : Nat) : Int)
      rw [s64 (by omega)]
    · show some (Chunk.obj (List.take (i * 8) (List.drop 0 (poRow pM i)) ++ poL (pM i))) = some (Chunk.obj (renL _ (poRow pM (i + 1))))
      rw [poRow_ren, hdt, poRow_succ]
  · refine condN (by simpa using hlt) ?_
    have hip : (i : Int) = pp := by omega
    subst hip
    conv => whnf
    obtain ⟨S, hS⟩ : ∃ S, S = (List.range i).map pM := ⟨_, rfl⟩
    have hSl : S.length = i := by rw [hS, map_range_len]
    refine pkNew (S := S) ⟨hS ▸ poRow_see rfl, trivial⟩ (fun x hx => ?_) (by omega) (hS ▸ allR_range fun k hk => rightM k (by omega)) rfl ?_
    · rw [hS] at hx
      obtain ⟨k, _, rfl⟩ := map_range_mem hx
      exact ⟨(wrap16_range _).1, (wrap16_range _).2⟩
    rw [hSl]
    obtain ⟨F1, he, hF1, hid⟩ := first_mX i (by omega)
    rw [← hS] at he
    have hX0l : (S.map newP).length = i := by rw [List.length_map, hSl]
    have hX0p : ∀ x ∈ S.map newP, 1 ≤ x.p.n ∧ x.p.n ≤ 64 := fun x hx => by
      obtain ⟨y, hy, rfl⟩ := List.mem_map.mp hx
      rw [hS] at hy
      obtain ⟨k, _, rfl⟩ := map_range_mem hy
      exact ⟨(by decide : (1 : Int) ≤ 1), (by decide : (1 : Int) ≤ 64)⟩
    generalize S.map newP = X0 at *
    conv => whnf
    refine newCall New_tr ?_
    conv => whnf
    with_reducible (first | refine unc1 ?_ | refine unc2 ?_ | refine unc3 ?_ | refine unc4 ?_ | refine unc5 ?_ | refine unc6 ?_ | refine unc7 ?_ | refine unc8 ?_ | refine unc9 ?_ | refine unc10 ?_ | refine unc11 ?_ | refine unc12 ?_ | refine unc13 ?_ | refine unc14 ?_ | refine unc15 ?_ | refine unc16 ?_ | skip)
    refine pkBeginN (n := i) (last := 0) (I := .zero) (X := X0) hX0l ?_ (by omega) hX0p ?_ ?_ ?_ ?_ he ?_
    · exact ⟨rfl, rfl, rfl, outN⟩
    · rfl
    · rfl
    · exact .inr (by decide)
    · rfl
    conv => whnf
    with_reducible (first | refine unc1 ?_ | refine unc2 ?_ | refine unc3 ?_ | refine unc4 ?_ | refine unc5 ?_ | refine unc6 ?_ | refine unc7 ?_ | refine unc8 ?_ | refine unc9 ?_ | refine unc10 ?_ | refine unc11 ?_ | refine unc12 ?_ | refine unc13 ?_ | refine unc14 ?_ | refine unc15 ?_ | refine unc16 ?_ | skip)
    refine pkOutN (n := i) (last := (i : Int)) (X := mX i (List.replicate i false) (List.replicate 64 0)) (oc := .sl 3 42 0 F1.length) (mX_len _ _ _) ?_ (by omega) ?_
    · exact ⟨rfl, rfl, rfl, outS _ _ _⟩
    conv => whnf
    refine condT (by simp; omega) ?_
    conv => whnf
    refine loopI (α := {a : LM // a.Ok O.length i}) (fun ⟨a, _⟩ => [(0, .int .i64 i), (1, .roI .u8 O), (2, .roI .u16 V), (9, .ptr 1 0), (11, .ptr 41 0), (12, .sl 3 42 0 F1.length), (13, .sl 1 43 0 64), (14, .sl 1 44 0 i), (15, .int .i64 a.k)]) (fun ⟨a, _⟩ => ⟨45, [(1, some (msP 1 i i .nils)), (2, some (mrP 1 i)), (41, some (imC a.J)), (42, some (frC F1)), (43, some (.rowI .u16 a.W)), (44, some (.rowB a.D))] ++ famP 1 0 (mX i a.D a.W)⟩) (fun ⟨a, _⟩ => O.length - a.k) ⟨_, LM.ok0 _ _⟩ ?_ fun ⟨a, ha⟩ => ?_
    · exact subPk (c := 1) (X := mX i (List.replicate i false) (List.replicate 64 0)) [] rfl rfl rfl (by rw [mX_len]; omega) (fun _ _ _ => rfl) rfl rfl ⟨⟨rfl, rfl⟩, ⟨rfl, rfl⟩, ⟨rfl, rfl⟩, ⟨rfl, rfl⟩, ⟨rfl, rfl⟩, ⟨rfl, rfl⟩, ⟨rfl, rfl⟩, ⟨rfl, rfl⟩, ⟨rfl, rfl⟩, trivial⟩ ⟨⟨msP_hok rfl, rfl, rfl⟩, ⟨mrP_hok rfl, rfl, rfl⟩, ⟨trivial, rfl, rfl⟩, ⟨frC_hok _ _ _, rfl, by rw [frC_ren]; rfl⟩, ⟨trivial, rfl, rfl⟩, ⟨trivial, rfl, rfl⟩, trivial⟩ (famAt2 rfl (by rw [mX_len]; omega))
    obtain ⟨hk, hD, hW, h0, hJ⟩ := ha
    conv => whnf
    refine condF (fun hkO => ?_) (fun hkO => ?_)
    · conv => whnf
      refine FrzK.le (leBool ?_)
      simp [hF1]
    have hkO : a.k < O.length := by simp at hkO; omega
    conv => whnf
    refine condF (fun hkV => ?_) (fun hkV => ?_)
    · conv => whnf
      refine FrzK.le (leBool ?_)
      simp [hF1]
    have hkV : a.k < V.length := by simp at hkV; omega
    conv => whnf
    refine condY (by simp [hF1]) ?_
    conv => whnf
    refine condT (by simp; omega) ?_
    conv => whnf
    have ho : 0 ≤ O.getD a.k 0 ∧ O.getD a.k 0 < 256 := by
      have e : O.getD a.k 0 = O[a.k] := by simp [List.getD_eq_getElem?_getD, List.getElem?_eq_getElem hkO]
      rw [e]; exact hO _ (List.getElem_mem hkO)
    have hv : 0 ≤ V.getD a.k 0 ∧ V.getD a.k 0 < 65536 := by
      have e : V.getD a.k 0 = V[a.k] := by simp [List.getD_eq_getElem?_getD, List.getElem?_eq_getElem hkV]
      rw [e]; exact hV _ (List.getElem_mem hkV)
    refine condT (by simp; omega) ?_
    rw [show IntKind.i64.wrap (List.getD O (Int.toNat (a.k : Int)) 0) = O.getD a.k 0 from w64i (n := O.getD a.k 0) (by omega) (by omega)]
    have hr0 : 0 ≤ (O.getD a.k 0).tmod i := Int.tmod_nonneg _ ho.1
    have hr1 : (O.getD a.k 0).tmod i < i := Int.tmod_lt_of_pos _ (by omega)
    obtain ⟨kk, hkk⟩ : ∃ kk : Nat, (O.getD a.k 0).tmod i = kk := ⟨((O.getD a.k 0).tmod i).toNat, by omega⟩
    rw [hkk] at hr1 ⊢
    have hki : kk < i := by omega
    have hkF : kk < F1.length := by omega
    conv => whnf
    refine condT (by simp; omega) ?_
    conv => whnf
    rw [frC_id (fs := F1) (k := kk) hkF (by simp)]
    conv => whnf
    refine condT (by simp; omega) ?_
    conv => whnf
    refine condT (by simp; omega) ?_
    conv => whnf
    have hdd : a.D.getD (0 + Int.toNat (kk : Int) * 1) false = a.D.getD kk false := by simp
    by_cases hd : a.D.getD kk false = true
    · have eT : takeP F1[kk].id 9 (good 3 (V.getD a.k 0)) (mX i a.D a.W) = (false, mX i a.D a.W) := by
        rw [hid kk hkF, take_mX i a.D a.W kk _ hki (by omega) hD (by omega) hv.1 hv.2, if_pos hd]
      have h0' := h0
      have hDl := hD
      have hWl := hW
      have hJ' : allL (latchN a.J (mX i a.D a.W) i).o 4 = a.W := allL_ext hW fun j hj => by
        rw [latch_mX a.J i a.D a.W (by omega) j i (Nat.le_refl _)]
        split
        · rfl
        · exact allL_at hJ j hj
      with_reducible (first | refine unc1 ?_ | refine unc2 ?_ | refine unc3 ?_ | refine unc4 ?_ | refine unc5 ?_ | refine unc6 ?_ | refine unc7 ?_ | refine unc8 ?_ | refine unc9 ?_ | refine unc10 ?_ | refine unc11 ?_ | refine unc12 ?_ | refine unc13 ?_ | refine unc14 ?_ | refine unc15 ?_ | refine unc16 ?_ | skip)
      refine pkTakeN (n := i) (last := (i : Int)) (X := mX i a.D a.W) (oc := .nils) (h := 45) (l := good 3 (V.getD a.k 0)) (mX_len _ _ _) ?_ (by omega) (okx_mX _ _ _) (by show 4 ≤ 1000; decide) ?_ rfl eT ?_
      · exact ⟨rfl, rfl, rfl, outN⟩
      · rfl
      conv => whnf
      refine condT (by first | (simp; omega) | (show decide _ = true; simp; omega) | (show decide _ = true; refine decide_eq_true ?_; show _ < (a.D).length; simp; omega) | (show decide _ = true; refine decide_eq_true ?_; show _ ≤ (a.W).length; simp; omega) | (show decide _ = true; refine decide_eq_true ?_; show _ ≤ (a.D).length; simp; omega)) ?_
      conv => whnf
      refine condT (by first | (simp; omega) | (show decide _ = true; simp; omega) | (show decide _ = true; refine decide_eq_true ?_; show _ < (a.D).length; simp; omega) | (show decide _ = true; refine decide_eq_true ?_; show _ ≤ (a.W).length; simp; omega) | (show decide _ = true; refine decide_eq_true ?_; show _ ≤ (a.D).length; simp; omega)) ?_
      conv => whnf
      refine condN (by rw [hdd, hd]; rfl) ?_
      conv => whnf
      with_reducible (first | refine unc1 ?_ | refine unc2 ?_ | refine unc3 ?_ | refine unc4 ?_ | refine unc5 ?_ | refine unc6 ?_ | refine unc7 ?_ | refine unc8 ?_ | refine unc9 ?_ | refine unc10 ?_ | refine unc11 ?_ | refine unc12 ?_ | refine unc13 ?_ | refine unc14 ?_ | refine unc15 ?_ | refine unc16 ?_ | skip)
      refine pkLatchN (n := i) (last := (i : Int)) (X := mX i a.D a.W) (oc := .nils) (J := a.J) (mX_len _ _ _) ?_ (by omega) (mX_l h0') ?_ ?_ ?_
      · exact ⟨rfl, rfl, rfl, outN⟩
      · exact .inr (by decide)
      · rfl
      conv => whnf
      refine allCall (All_tr (latchN a.J (mX i a.D a.W) i) 4) rfl rfl rfl ?_
      rw [hJ']
      conv => whnf
      refine Ev.look (hregs_same a.W (by omega)) rfl ?_ ?_
      · exact ⟨see_all rfl rfl, see_all rfl hWl.symm, trivial⟩
      conv => whnf
      refine ⟨⟨⟨a.k + 1, a.D, a.W, (latchN a.J (mX i a.D a.W) i)⟩, ⟨by show a.k + 1 ≤ O.length; omega, hDl, hWl, h0', hJ'⟩⟩, subPk (c := 1) (X := mX i a.D a.W) [] rfl rfl rfl (by rw [mX_len]; omega) (fun _ _ _ => rfl) rfl rfl ⟨⟨rfl, rfl⟩, ⟨rfl, rfl⟩, ⟨rfl, rfl⟩, ⟨rfl, rfl⟩, ⟨rfl, rfl⟩, ⟨rfl, rfl⟩, ⟨rfl, rfl⟩, ⟨rfl, rfl⟩, ⟨?_, rfl⟩, trivial⟩ ⟨⟨msP_hok rfl, rfl, rfl⟩, ⟨mrP_hok rfl, rfl, rfl⟩, ⟨trivial, rfl, rfl⟩, ⟨frC_hok _ _ _, rfl, by rw [frC_ren]; rfl⟩, ⟨trivial, rfl, rfl⟩, ⟨trivial, rfl, rfl⟩, trivial⟩ (famAt3 rfl (by rw [mX_len]; omega)), by show O.length - (a.k + 1) < O.length - a.k; omega⟩
      show AV.int .i64 (IntKind.i64.wrap ((a.k : Int) + 1)) = AV.int .i64 ((a.k + 1 : Nat) : Int)
      rw [s64 (by omega)]
    · have hd2 : a.D.getD kk false = false := by simpa using hd
      have eT : takeP F1[kk].id 9 (good 3 (V.getD a.k 0)) (mX i a.D a.W) = (true, mX i (a.D.set kk true) (a.W.set kk (V.getD a.k 0))) := by
        rw [hid kk hkF, take_mX i a.D a.W kk _ hki (by omega) hD (by omega) hv.1 hv.2, if_neg hd]
      have h0' : ∀ v ∈ a.W.set kk (V.getD a.k 0), 0 ≤ v := fun v h => by
        rcases List.mem_or_eq_of_mem_set h with h | h
        · exact h0 v h
        · rw [h]; exact hv.1
      have hDl : (a.D.set kk true).length = i := by rw [List.length_set]; exact hD
      have hWl : (a.W.set kk (V.getD a.k 0)).length = 64 := by rw [List.length_set]; exact hW
      have hJ' : allL (latchN a.J (mX i (a.D.set kk true) (a.W.set kk (V.getD a.k 0))) i).o 4 = a.W.set kk (V.getD a.k 0) := allL_ext hWl fun j hj => by
        rw [latch_mX a.J i _ _ (by omega) j i (Nat.le_refl _)]
        split
        · rfl
        · rename_i hn
          have hjk : j ≠ kk := fun e => hn (by
            subst e
            exact ⟨hki, by rw [getD_set (by omega), if_pos rfl]⟩)
          rw [getD_set (by omega), if_neg hjk]
          exact allL_at hJ j hj
      with_reducible (first | refine unc1 ?_ | refine unc2 ?_ | refine unc3 ?_ | refine unc4 ?_ | refine unc5 ?_ | refine unc6 ?_ | refine unc7 ?_ | refine unc8 ?_ | refine unc9 ?_ | refine unc10 ?_ | refine unc11 ?_ | refine unc12 ?_ | refine unc13 ?_ | refine unc14 ?_ | refine unc15 ?_ | refine unc16 ?_ | skip)
      refine pkTakeN (n := i) (last := (i : Int)) (X := mX i a.D a.W) (oc := .nils) (h := 45) (l := good 3 (V.getD a.k 0)) (mX_len _ _ _) ?_ (by omega) (okx_mX _ _ _) (by show 4 ≤ 1000; decide) ?_ rfl eT ?_
      · exact ⟨rfl, rfl, rfl, outN⟩
      · rfl
      conv => whnf
      refine condT (by first | (simp; omega) | (show decide _ = true; simp; omega) | (show decide _ = true; refine decide_eq_true ?_; show _ < (a.D).length; simp; omega) | (show decide _ = true; refine decide_eq_true ?_; show _ ≤ (a.W).length; simp; omega) | (show decide _ = true; refine decide_eq_true ?_; show _ ≤ (a.D).length; simp; omega)) ?_
      conv => whnf
      refine condT (by first | (simp; omega) | (show decide _ = true; simp; omega) | (show decide _ = true; refine decide_eq_true ?_; show _ < (a.D).length; simp; omega) | (show decide _ = true; refine decide_eq_true ?_; show _ ≤ (a.W).length; simp; omega) | (show decide _ = true; refine decide_eq_true ?_; show _ ≤ (a.D).length; simp; omega)) ?_
      conv => whnf
      refine condN (by rw [hdd, hd2]; rfl) ?_
      conv => whnf
      refine condT (by first | (simp; omega) | (show decide _ = true; simp; omega) | (show decide _ = true; refine decide_eq_true ?_; show _ < (a.D).length; simp; omega) | (show decide _ = true; refine decide_eq_true ?_; show _ ≤ (a.W).length; simp; omega) | (show decide _ = true; refine decide_eq_true ?_; show _ ≤ (a.D).length; simp; omega)) ?_
      conv => whnf
      refine condT (by first | (simp; omega) | (show decide _ = true; simp; omega) | (show decide _ = true; refine decide_eq_true ?_; show _ < (a.D).length; simp; omega) | (show decide _ = true; refine decide_eq_true ?_; show _ ≤ (a.W).length; simp; omega) | (show decide _ = true; refine decide_eq_true ?_; show _ ≤ (a.D).length; simp; omega)) ?_
      conv => whnf
      refine condT (by first | (simp; omega) | (show decide _ = true; simp; omega) | (show decide _ = true; refine decide_eq_true ?_; show _ < (a.D).length; simp; omega) | (show decide _ = true; refine decide_eq_true ?_; show _ ≤ (a.W).length; simp; omega) | (show decide _ = true; refine decide_eq_true ?_; show _ ≤ (a.D).length; simp; omega)) ?_
      conv => whnf
      refine condT (by first | (simp; omega) | (show decide _ = true; simp; omega) | (show decide _ = true; refine decide_eq_true ?_; show _ < (a.D).length; simp; omega) | (show decide _ = true; refine decide_eq_true ?_; show _ ≤ (a.W).length; simp; omega) | (show decide _ = true; refine decide_eq_true ?_; show _ ≤ (a.D).length; simp; omega)) ?_
      conv => whnf
      refine condT (by first | (simp; omega) | (show decide _ = true; simp; omega) | (show decide _ = true; refine decide_eq_true ?_; show _ < (a.D).length; simp; omega) | (show decide _ = true; refine decide_eq_true ?_; show _ ≤ (a.W).length; simp; omega) | (show decide _ = true; refine decide_eq_true ?_; show _ ≤ (a.D).length; simp; omega)) ?_
      conv => whnf
      rw [show 0 + Int.toNat (kk : Int) * 1 = kk by simp]
      with_reducible (first | refine unc1 ?_ | refine unc2 ?_ | refine unc3 ?_ | refine unc4 ?_ | refine unc5 ?_ | refine unc6 ?_ | refine unc7 ?_ | refine unc8 ?_ | refine unc9 ?_ | refine unc10 ?_ | refine unc11 ?_ | refine unc12 ?_ | refine unc13 ?_ | refine unc14 ?_ | refine unc15 ?_ | refine unc16 ?_ | skip)
      refine pkLatchN (n := i) (last := (i : Int)) (X := mX i (a.D.set kk true) (a.W.set kk (V.getD a.k 0))) (oc := .nils) (J := a.J) (mX_len _ _ _) ?_ (by omega) (mX_l h0') ?_ ?_ ?_
      · exact ⟨rfl, rfl, rfl, outN⟩
      · exact .inr (by decide)
      · rfl
      conv => whnf
      refine allCall (All_tr (latchN a.J (mX i (a.D.set kk true) (a.W.set kk (V.getD a.k 0))) i) 4) rfl rfl rfl ?_
      rw [hJ']
      conv => whnf
      refine Ev.look (hregs_same (a.W.set kk (V.getD a.k 0)) (by omega)) rfl ?_ ?_
      · exact ⟨see_all rfl rfl, see_all rfl hWl.symm, trivial⟩
      conv => whnf
      refine ⟨⟨⟨a.k + 1, (a.D.set kk true), (a.W.set kk (V.getD a.k 0)), (latchN a.J (mX i (a.D.set kk true) (a.W.set kk (V.getD a.k 0))) i)⟩, ⟨by show a.k + 1 ≤ O.length; omega, hDl, hWl, h0', hJ'⟩⟩, subPk (c := 1) (X := mX i (a.D.set kk true) (a.W.set kk (V.getD a.k 0))) [] rfl rfl rfl (by rw [mX_len]; omega) (fun _ _ _ => rfl) rfl rfl ⟨⟨rfl, rfl⟩, ⟨rfl, rfl⟩, ⟨rfl, rfl⟩, ⟨rfl, rfl⟩, ⟨rfl, rfl⟩, ⟨rfl, rfl⟩, ⟨rfl, rfl⟩, ⟨rfl, rfl⟩, ⟨?_, rfl⟩, trivial⟩ ⟨⟨msP_hok rfl, rfl, rfl⟩, ⟨mrP_hok rfl, rfl, rfl⟩, ⟨trivial, rfl, rfl⟩, ⟨frC_hok _ _ _, rfl, by rw [frC_ren]; rfl⟩, ⟨trivial, rfl, rfl⟩, ⟨trivial, rfl, rfl⟩, trivial⟩ (famAt3 rfl (by rw [mX_len]; omega)), by show O.length - (a.k + 1) < O.length - a.k; omega⟩
      show AV.int .i64 (IntKind.i64.wrap ((a.k : Int) + 1)) = AV.int .i64 ((a.k + 1 : Nat) : Int)
      rw [s64 (by omega)]
end Go.Proofs.Ytomodeliimnddaa
set_option linter.unusedVariables false
set_option linter.unusedSimpArgs false
namespace Go.Ab
open Go.ChangeShapes Go.WideShapes Go.RowKit Go.Deep
def noM : Nat → Prop := fun _ => False
section
variable {P : Program} {H : Type} {enc : TypeId × Value → H} {W : World} {r : Reach} {b : Nat} {held : Bool}
theorem wf_has {k : IntKind} {n : Int} (h : (Lit.int k n).wf = true) : k.min ≤ n ∧ n ≤ k.max := by
  simpa [Lit.wf] using h
theorem cell_addr {t e : TypeId} {a : Addr} {len cap : Nat} (ht : P.underlying t = some (.slice e)) (h : Cell.okWide P W r b t (.slice (some a) len cap)) : a.spot = none ∧ a.block < W.heap.size := by
  simp only [Cell.okWide, ht, Cell.ok] at h
  obtain ⟨_, _, _, h2, row, cells, h3, _⟩ := h
  exact ⟨h2, lt_of_shape h3⟩
theorem gInts {t e : TypeId} {k : IntKind} {fuel : Nat} {v : Value} {x : DataW H × List MemPlace} (hok : Cell.okWide P W r b t v) (ht : P.underlying t = some (.slice e)) (he : P.underlying e = some (.int k)) (hc : P.cellsOf e = 1)
    (h : DataW.trod enc P W 0 (fun _ => true) held fuel t [v] = some x) : ∃ l : List Int, GRel W noM (.roI k l) v ∧ ∀ n ∈ l, k.min ≤ n ∧ n ≤ k.max := by
  rcases open_ints ht he hc h with ⟨hcs, _⟩ | ⟨a, len, cap, zs, hcs, _, hl, hm, hz, _, hcell, hwf⟩
  · obtain rfl : v = .slice none 0 0 := by simpa using hcs
    exact ⟨[], .sliceNil _ 1 (fun j => .int k (([] : List Int).getD j 0)) rfl, by simp⟩
  · obtain rfl : v = .slice (some a) len cap := by simpa using hcs
    obtain ⟨h1, h2⟩ := cell_addr ht hok
    have hz : zs.length = cap := by simpa using hz
    have hlen : (zs.take len).length = len := by rw [List.length_take]; omega
    refine ⟨zs.take len, ?_, fun n hn => wf_has (hwf n (List.mem_of_mem_take hn))⟩
    have := GRel.slice (w := W) (M := noM) (.roI k (zs.take len)) 1 (zs.take len).length (fun j => .int k ((zs.take len).getD j 0)) a cap (fun j => .int k (zs.getD j 0)) rfl (fun _ => ⟨h1, fun h => h, h2⟩) (by omega) (fun _ _ => rfl) (fun j hj => by
      rw [← add_eq a j h1]; exact hcell j (by omega)) (fun j hj => by
      have : (zs.take len).getD j 0 = zs.getD j 0 := by
        have hj' : j < len := by omega
        simp [List.getD_eq_getElem?_getD, List.getElem?_take, hj']
      show GRel W noM (.int k ((zs.take len).getD j 0)) _
      rw [this]; exact .int k _)
    rw [hlen] at this
    exact this
theorem gBools {t e : TypeId} {fuel : Nat} {v : Value} {x : DataW H × List MemPlace} (hok : Cell.okWide P W r b t v) (ht : P.underlying t = some (.slice e)) (he : P.underlying e = some .bool) (hc : P.cellsOf e = 1)
    (h : DataW.trod enc P W 0 (fun _ => true) held fuel t [v] = some x) : ∃ l : List Bool, GRel W noM (.roB l) v := by
  rcases open_bools ht he hc h with ⟨hcs, _⟩ | ⟨a, len, cap, B, hcs, _, hl, hm, _, hcell⟩
  · obtain rfl : v = .slice none 0 0 := by simpa using hcs
    exact ⟨[], .sliceNil _ 1 (fun j => .bool (([] : List Bool).getD j false)) rfl⟩
  · obtain rfl : v = .slice (some a) len cap := by simpa using hcs
    obtain ⟨h1, h2⟩ := cell_addr ht hok
    have hlen : ((List.range len).map B).length = len := by simp
    refine ⟨(List.range len).map B, ?_⟩
    have := GRel.slice (w := W) (M := noM) (.roB ((List.range len).map B)) 1 ((List.range len).map B).length (fun j => .bool (((List.range len).map B).getD j false)) a cap (fun j => .bool (B j)) rfl (fun _ => ⟨h1, fun h => h, h2⟩) (by omega) (fun _ _ => rfl) (fun j hj => by
      rw [← add_eq a j h1]; exact hcell j (by omega)) (fun j hj => by
      have : ((List.range len).map B).getD j false = B j := by
        have hj' : j < len := by omega
        simp [List.getD_eq_getElem?_getD, hj']
      show GRel W noM (.bool (((List.range len).map B).getD j false)) _
      rw [this]; exact .bool _)
    rw [hlen] at this
    exact this
theorem gInt {t : TypeId} {k : IntKind} {fuel : Nat} {v : Value} {x : DataW H × List MemPlace} (ht : P.underlying t = some (.int k)) (h : DataW.trod enc P W 0 (fun _ => true) held fuel t [v] = some x) :
    ∃ n, v = .int k n ∧ k.min ≤ n ∧ n ≤ k.max := by
  obtain ⟨n, h1, _, h2⟩ := DataW.trod_int ht h
  exact ⟨n, by simpa using h1, wf_has h2⟩
/-- a field of one cell -/
theorem gField {t : TypeId} {fs : Array Field} {fuel : Nat} {cs : List Value} {x : DataW H × List MemPlace} (ht : P.underlying t = some (.struct fs)) (h : DataW.trod enc P W 0 (fun _ => true) held fuel t cs = some x)
    (j : Nat) (f : Field) (hj : fs[j]? = some f) (ho : f.offset = j) (hc : P.cellsOf f.type = 1) (hl : j < cs.length) : ∃ n y, DataW.trod enc P W 0 (fun _ => true) held n f.type [cs.getD j default] = some y := by
  obtain ⟨xs, n, _, _, _, hxl, hf⟩ := DataW.trod_struct ht h
  have h1 := hf j f hj
  rw [ho, hc] at h1
  have hone : (cs.drop j).take 1 = [cs.getD j default] := by
    have h2 : cs.getD j default = cs[j] := by simp [List.getD_eq_getElem?_getD, List.getElem?_eq_getElem hl]
    rw [h2, List.drop_eq_getElem_cons hl]
    rfl
  rw [hone] at h1
  have hjl : j < fs.size := (Array.getElem?_eq_some_iff.1 hj).1
  exact ⟨n, _, h1.trans (List.getElem?_eq_getElem (show j < xs.length by omega))⟩
/-- a struct of four numbers, a row of truth values, a row of numbers -/
theorem gSix {t : TypeId} {f0 f1 f2 f3 f4 f5 : Field} {k0 k1 k2 k3 k5 : IntKind} {e4 e5 : TypeId} {v : Value} {d : DataW H} {p : List MemPlace} (hs : P.underlying t = some (.struct #[f0, f1, f2, f3, f4, f5]))
    (ho : f0.offset = 0 ∧ f1.offset = 1 ∧ f2.offset = 2 ∧ f3.offset = 3 ∧ f4.offset = 4 ∧ f5.offset = 5)
    (h0 : P.underlying f0.type = some (.int k0)) (h1 : P.underlying f1.type = some (.int k1)) (h2 : P.underlying f2.type = some (.int k2)) (h3 : P.underlying f3.type = some (.int k3))
    (h4 : P.underlying f4.type = some (.slice e4)) (h5 : P.underlying f5.type = some (.slice e5)) (g4 : P.underlying e4 = some .bool) (g5 : P.underlying e5 = some (.int k5))
    (hc : P.cellsOf f0.type = 1 ∧ P.cellsOf f1.type = 1 ∧ P.cellsOf f2.type = 1 ∧ P.cellsOf f3.type = 1 ∧ P.cellsOf f4.type = 1 ∧ P.cellsOf f5.type = 1) (c4 : P.cellsOf e4 = 1) (c5 : P.cellsOf e5 = 1) (hC : P.cellsOf t = 6)
    (hct : P.cellTypes P.depth t = some [f0.type, f1.type, f2.type, f3.type, f4.type, f5.type]) (hval : Value.okWide P W r b t v) (h : DataW.Trod enc P W 0 (fun _ => true) held t v d p) :
    ∃ (n0 n1 n2 n3 : Int) (B : List Bool) (R : List Int), GRel W noM (.agg [.int k0 n0, .int k1 n1, .int k2 n2, .int k3 n3, .roB B, .roI k5 R]) v ∧ (k0.min ≤ n0 ∧ n0 ≤ k0.max) ∧ (k1.min ≤ n1 ∧ n1 ≤ k1.max) ∧ (k2.min ≤ n2 ∧ n2 ≤ k2.max) ∧ (k3.min ≤ n3 ∧ n3 ≤ k3.max) ∧ ∀ n ∈ R, k5.min ≤ n ∧ n ≤ k5.max := by
  obtain ⟨cs, rfl, hsz⟩ := okWide_struct hs hval
  rw [hC] at hsz
  have hrow : Row.okWide P W r b t cs := by
    simp only [Value.okWide, hs] at hval
    obtain ⟨cs', h1, _, h3⟩ := hval
    cases h1
    exact h3
  obtain ⟨ts, hts, _, hcell⟩ := hrow
  rw [hct] at hts
  cases hts
  obtain ⟨fuel, hf⟩ := h
  have hf : DataW.trod enc P W 0 (fun _ => true) held fuel t cs.toList = some (d, p) := hf
  have hl : cs.toList.length = 6 := by simpa using hsz
  have hg : ∀ j, cs.toList.getD j default = cs.getD j default := fun j => by simp [List.getD_eq_getElem?_getD, Array.getD_eq_getD_getElem?]
  have hsome : ∀ j, j < 6 → cs[j]? = some (cs.getD j default) := fun j hj => by
    have : j < cs.size := by omega
    simp [Array.getD, this]
  obtain ⟨m0, y0, q0⟩ := gField hs hf 0 f0 rfl ho.1 hc.1 (by omega)
  obtain ⟨m1, y1, q1⟩ := gField hs hf 1 f1 rfl ho.2.1 hc.2.1 (by omega)
  obtain ⟨m2, y2, q2⟩ := gField hs hf 2 f2 rfl ho.2.2.1 hc.2.2.1 (by omega)
  obtain ⟨m3, y3, q3⟩ := gField hs hf 3 f3 rfl ho.2.2.2.1 hc.2.2.2.1 (by omega)
  obtain ⟨m4, y4, q4⟩ := gField hs hf 4 f4 rfl ho.2.2.2.2.1 hc.2.2.2.2.1 (by omega)
  obtain ⟨m5, y5, q5⟩ := gField hs hf 5 f5 rfl ho.2.2.2.2.2 hc.2.2.2.2.2 (by omega)
  rw [hg] at q0 q1 q2 q3 q4 q5
  obtain ⟨n0, r0, s0⟩ := gInt h0 q0
  obtain ⟨n1, r1, s1⟩ := gInt h1 q1
  obtain ⟨n2, r2, s2⟩ := gInt h2 q2
  obtain ⟨n3, r3, s3⟩ := gInt h3 q3
  obtain ⟨u4, i4, o4⟩ := hcell 4 _ (hsome 4 (by omega))
  obtain ⟨u5, i5, o5⟩ := hcell 5 _ (hsome 5 (by omega))
  cases i4
  cases i5
  obtain ⟨B, r4⟩ := gBools o4 h4 g4 c4 q4
  obtain ⟨R, r5, s5⟩ := gInts o5 h5 g5 c5 q5
  refine ⟨n0, n1, n2, n3, B, R, .agg _ cs hsz fun j hj => ?_, s0, s1, s2, s3, s5⟩
  match j, hj with
  | 0, _ => rw [r0]; exact .int _ _
  | 1, _ => rw [r1]; exact .int _ _
  | 2, _ => rw [r2]; exact .int _ _
  | 3, _ => rw [r3]; exact .int _ _
  | 4, _ => exact r4
  | 5, _ => exact r5
  | j + 6, hj => simp at hj; omega
/-- what a statement's walk needs, from a contract -/
theorem Ev.calls {f : Nat} {args : List AV} {Vs : Array Value} (h : Ev P f args (.bool true)) (hs : Vs.size = args.length) (hV : ∀ j, j < args.length → GRel W noM (args.getD j .undef) (Vs.getD j default)) :
    Calls P f Vs W fun e W' => e = .returned (.bool true) ∧ Below W.heap.size W W' := by
  obtain ⟨_, ht⟩ := h
  unfold Tr at ht
  have hR : Rep (fun _ => none) ⟨0, []⟩ W noM := ⟨fun _ _ => rfl, fun h c hg => (by cases hg), fun h h' c c' p p' hg => (by cases hg), fun b hb => False.elim hb⟩
  refine Calls.mono (ht.2 (fun _ => none) W noM Vs hR ⟨hs, fun j hj => .g _ _ (hV j hj)⟩) fun e W' he => ?_
  obtain ⟨V, ι', M', v, s', rfl, ⟨rfl, rfl⟩, h1, h2, h3⟩ := he
  obtain rfl := h1.bool_inv
  exact ⟨rfl, h3.os, h3.tape, h3.output, h3.size, fun k hk => h3.block k hk fun ⟨h, c, base, hg, _⟩ => by cases hg⟩
end
end Go.Ab
