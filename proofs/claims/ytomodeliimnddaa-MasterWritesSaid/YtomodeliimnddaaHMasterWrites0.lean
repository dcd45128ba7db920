/- Many polls; rows of frames; rows of polls. Statement of layer 26: values are written. From a statement's arguments to the engine's values; a statement's row from a contract. -/
import Derived.Test.YtomodeliimnddaaRows
import Derived.WalkKit
import Derived.ProofKit
import Derived.OpenShut
import Derived.ShutString
import Derived.ChangeOld
import Derived.Below
import Derived.Deep.Grids
import Derived.Test.YtomodeliimnddaaHMstB
import Derived.Test.YtomodeliimnddaaHEngD
set_option linter.unusedVariables false
set_option linter.unusedSimpArgs false
namespace Go.Proofs.Ytomodeliimnddaa
open Go.Ab
instance : Inhabited Fr := ⟨⟨0, 0, []⟩⟩
/-- a row of frames -/
def frC (fs : List Fr) : Chunk := .obj (frsA fs)
theorem frC_eq (fs : List Fr) : Chunk.obj (frsA fs) = frC fs := rfl
theorem frC_hok (fs : List Fr) (N : Nat) (ρ : Nat → Option Nat) : (frC fs).hok N ρ := frsA_hok fs
theorem frC_ren (fs : List Fr) (ρ : Nat → Option Nat) : (frC fs).ren ρ = frC fs := by
  show Chunk.obj (renL ρ (frsA fs)) = _
  rw [frsA_ren]; rfl
theorem frC_size (fs : List Fr) : (frC fs).size = 3 * fs.length := frsA_len fs
theorem frsA_flats : ∀ fs : List Fr, frsA fs = flatsL frA fs
  | [] => rfl
  | x :: r => by rw [flatsL, ← frsA_flats r]; rfl
theorem frC_at {fs : List Fr} {k j off : Nat} (hk : k < fs.length) (hj : j < 3) (ho : off = k * 3 + j) : (frC fs).ld false off 1 = (true, (frA fs[k]).getD j .undef) := by
  show (Nat.ble (off + 1) (frsA fs).length, (frsA fs).getD off .undef) = _
  rw [ho, Nat.ble_eq_true_of_le (by rw [frsA_len]; omega), frsA_flats, flatsL_get (F := frA) (es := 3) (fun _ => rfl) fs k j hk hj]
theorem frC_id {fs : List Fr} {k off : Nat} (hk : k < fs.length) (ho : off = k * 3) : (frC fs).ld false off 1 = (true, .int .u16 fs[k].id) := frC_at (j := 0) hk (by decide) ho
theorem frC_u {fs : List Fr} {k off : Nat} (hk : k < fs.length) (ho : off = k * 3 + 1) : (frC fs).ld false off 1 = (true, .int .u8 fs[k].u) := frC_at (j := 1) hk (by decide) ho
theorem frC_l {fs : List Fr} {k off : Nat} (hk : k < fs.length) (ho : off = k * 3 + 2) : (frC fs).ld false off 1 = (true, .roI .u8 fs[k].l) := frC_at (j := 2) hk (by decide) ho
attribute [irreducible] frC
theorem famAt1 {c : Nat} {a : Nat × Option Chunk} {L : Mem} {X : List Pl} (hB : outK c (a :: L) = true) (hX : X.length ≤ 36) : ∀ j (h : j < X.length), Mem.get (a :: (L ++ famP c 0 X)) (c + (j + 3)) = some (plC X[j]) := famAt (B := a :: L) hB hX
theorem famAt2 {c : Nat} {a b : Nat × Option Chunk} {L : Mem} {X : List Pl} (hB : outK c (a :: b :: L) = true) (hX : X.length ≤ 36) : ∀ j (h : j < X.length), Mem.get (a :: b :: (L ++ famP c 0 X)) (c + (j + 3)) = some (plC X[j]) := famAt (B := a :: b :: L) hB hX
theorem famAt3 {c : Nat} {a b d : Nat × Option Chunk} {L : Mem} {X : List Pl} (hB : outK c (a :: b :: d :: L) = true) (hX : X.length ≤ 36) : ∀ j (h : j < X.length), Mem.get (a :: b :: d :: (L ++ famP c 0 X)) (c + (j + 3)) = some (plC X[j]) := famAt (B := a :: b :: d :: L) hB hX
theorem wrap16_succ (x : Int) : IntKind.u16.wrap (IntKind.u16.wrap x + 1) = IntKind.u16.wrap (x + 1) := by
  show (x % 65536 + 1) % 65536 = (x + 1) % 65536
  omega
/-- where all are due -/
theorem bg_all {Y : List Pl} {I : Img} {L : Int} (hd : ∀ y ∈ Y, y.due = true) (hL : 0 ≤ L) (hn : L + Y.length < 4294967296) : ∀ k, k ≤ Y.length →
    bgL Y I L k = L + k ∧ (bgF Y I L k).length = k ∧ (∀ j (h : j < k) (h1 : j < (bgF Y I L k).length) (h2 : j < Y.length), (bgF Y I L k)[j] = Y[j].sends I (L + (j + 1 : Nat))) ∧ (∀ j (h1 : j < (bgX Y I L k).length) (h2 : j < Y.length), (bgX Y I L k)[j] = if j < k then Y[j].asks I (L + (j + 1 : Nat)) else Y[j])
  | 0, _ => ⟨by show L = L + ((0 : Nat) : Int); omega, rfl, fun j h => absurd h (by omega), fun j h1 h2 => by rw [if_neg (by omega)]; rfl⟩
  | k + 1, hk => by
    obtain ⟨i1, i2, i3, i4⟩ := bg_all hd hL hn k (by omega)
    have hx : Y[k]? = some Y[k] := List.getElem?_eq_getElem (by omega)
    obtain ⟨b1, b2, b3⟩ := bg_some (I := I) (last := L) hx (hd _ (List.getElem_mem _))
    have hw : IntKind.u32.wrap (bgL Y I L k + 1) = L + (k + 1 : Nat) := by
      rw [i1]
      show (L + (k : Int) + 1) % 4294967296 = _
      rw [Int.emod_eq_of_lt (by omega) (by omega)]; omega
    rw [hw] at b1 b2 b3
    refine ⟨b2, by rw [b3, List.length_append, i2]; rfl, fun j h h1 h2 => ?_, fun j h1 h2 => ?_⟩
    · rw [List.getElem_of_eq b3]
      by_cases e : j < k
      · rw [List.getElem_append_left (by rw [i2]; exact e)]
        exact i3 j e _ h2
      · obtain rfl : j = k := by omega
        rw [List.getElem_append_right (by rw [i2]; omega)]
        simp only [i2, Nat.sub_self, List.getElem_cons_zero]
    · rw [List.getElem_of_eq b1, List.getElem_set]
      by_cases e : k = j
      · subst e
        rw [if_pos rfl, if_pos (by omega)]
      · rw [if_neg e, i4 j (by rw [bgX_len]; exact h2) h2]
        by_cases e2 : j < k
        · rw [if_pos e2, if_pos (by omega)]
        · rw [if_neg e2, if_neg (by omega)]
/-- a row of polls that is being built -/
def poRow (f : Nat → Po) (i : Nat) : List AV := flatsL poL ((List.range i).map f)
theorem poRow_len (f : Nat → Po) (i : Nat) : (poRow f i).length = i * 8 := by
  unfold poRow; rw [flatsL_len poL_len]; simp
theorem poRow_one (f : Nat → Po) (i : Nat) : (poRow f i).all AV.one = true := by
  unfold poRow
  generalize (List.range i).map f = S
  induction S with
  | nil => rfl
  | cons x r ih => rw [flatsL, List.all_append, ih]; rfl
theorem poRow_zero (f : Nat → Po) : poRow f 0 = [] := rfl
theorem poRow_succ (f : Nat → Po) (i : Nat) : poRow f (i + 1) = poRow f i ++ poL (f i) := by
  unfold poRow
  rw [List.range_succ, List.map_append, flatsL_app]
  show _ ++ (poL (f i) ++ []) = _
  rw [List.append_nil]
theorem poRow_hok (f : Nat → Po) (i N : Nat) (ρ : Nat → Option Nat) : hokL N ρ (poRow f i) = true := by
  unfold poRow
  generalize (List.range i).map f = S
  induction S with
  | nil => rfl
  | cons x r ih => exact hokL_app _ _ rfl ih
theorem poRow_ren (f : Nat → Po) (i : Nat) (ρ : Nat → Option Nat) : renL ρ (poRow f i) = poRow f i := by
  unfold poRow
  generalize (List.range i).map f = S
  induction S with
  | nil => rfl
  | cons x r ih => rw [flatsL, renL_app, ih]; rfl
theorem poRow_see {f : Nat → Po} {i h : Nat} {g : Nat → Option Chunk} (hg : g h = some (.obj (poRow f i))) : See g (.sl 8 h 0 i) (.ro 8 (((List.range i).map f).map poA)) := by
  have := see_polls0 (S := (List.range i).map f) hg
  rwa [List.length_map, List.length_range] at this
theorem poRow_seeN {f : Nat → Po} {i h : Nat} {g : Nat → Option Chunk} {c : Chunk} (e : c = .obj (poRow f i)) (hg : g h = some c) : See g (.sl 8 h 0 i) (.ro 8 (((List.range i).map f).map poA)) := poRow_see (e ▸ hg)
theorem poRow_take {f : Nat → Po} {i m : Nat} (h : m ≤ i) : List.take (m * 8) (List.drop (0 + 0 * 8) (poRow f i)) = poRow f m := by
  show List.take (m * 8) (poRow f i) = _
  unfold poRow
  rw [flatsL_take poL_len, ← List.map_take, List.take_range, Nat.min_eq_left h]
theorem poRow_flats {f : Nat → Po} {m : Nat} : poRow f m = flatsL poL ((List.range m).map f) := rfl
attribute [irreducible] poRow
theorem map_range_len {α : Type} (f : Nat → α) (n : Nat) : ((List.range n).map f).length = n := by simp
theorem map_range_mem {α : Type} {f : Nat → α} {n : Nat} {x : α} (h : x ∈ (List.range n).map f) : ∃ i, i < n ∧ x = f i := by
  obtain ⟨i, hi, rfl⟩ := List.mem_map.mp h
  exact ⟨i, List.mem_range.mp hi, rfl⟩
theorem allR_range {f : Nat → Po} {n : Nat} (h : ∀ i, i < n → rightB (f i) = true) : allR ((List.range n).map f) = true := by
  unfold allR
  rw [List.all_eq_true]
  intro x hx
  obtain ⟨i, hi, rfl⟩ := map_range_mem hx
  exact h i hi
theorem app_po {get : Nat → Option Chunk} {nx : Nat} {ρ : AOpd → AV} {x y : AOpd} {h h2 i : Nat} {f : Nat → Po} (hx : ρ x = .sl 8 h 0 i) (hy : ρ y = .sl 8 h2 0 1) (hg : get h = some (.obj (poRow f i))) (hg2 : get h2 = some (.obj (poL (f i)))) (hl : i ≤ 1000) :
    opD get nx ρ (.app 8 48 x y) = .ok true (.sl 8 nx 0 (i + 1)) (.app h (.obj (poRow f (i + 1)))) := by
  have e1 : ((poRow f i).drop 0).take (i * 8) = poRow f i := by
    rw [List.drop_zero, List.take_of_length_le (by rw [poRow_len]; omega)]
  have e2 : ((poL (f i)).drop 0).take (1 * 8) = poL (f i) := rfl
  have e3 : (poL (f i)).all AV.one = true := rfl
  have e5 : (poL (f i)).length = 8 := rfl
  simp only [opD, hx, hy, appA, rowFrom, hg, hg2, lenA, Chunk.cat, e1, e2, e3, poRow_one, poRow_len, e5, ← poRow_succ]
  congr 1
  simp
  omega
section
variable {X X' : List Pl} {last : Int} {oc : AV} {c N n : Nat} {B : Mem} {K : AV → St → Prop}
theorem pkBeginN {d : Nat} {I : Img} {last' : Int} {fs : List Fr} (hn : X.length = n) (H : MsAt B c n last .nils) (hX : n ≤ 36) (hp : ∀ x ∈ X, 1 ≤ x.p.n ∧ x.p.n ≤ 64) (hN : below B N = true) (hcN : Nat.ble (c + 39) N = true) (hd : d < c ∨ c + 39 ≤ d) (hd2 : Mem.get B d = some (imC I))
    (e : bgN (X.map Pl.older) I last n = (X', last', fs))
    (kk : K (.tup []) ⟨N + 1, ((N, some (frC fs)) :: (c, some (msP c n last' (.sl 3 N 0 fs.length))) :: B) ++ famP c 0 X'⟩) : Tr Try.prog 75 [.ptr c 0, .ptr d 0] ⟨N, B ++ famP c 0 X⟩ K := by
  subst hn
  rw [← frC_eq] at kk
  exact pkBeginA H hX hp hN hcN hd hd2 e kk
theorem pkOutN (hn : X.length = n) (H : MsAt B c n last oc) (hX : n ≤ 36) (kk : K oc ⟨N, ((c, some (msP c n last .nils)) :: B) ++ famP c 0 X⟩) : Tr Try.prog 76 [.ptr c 0] ⟨N, B ++ famP c 0 X⟩ K := by
  subst hn; exact pkOutA H hX kk
theorem pkTickN (hn : X.length = n) (H : MsAt B c n last oc) (hX : n ≤ 36) (kk : K (.tup []) ⟨N, B ++ famP c 0 (X.map Pl.tick)⟩) : Tr Try.prog 83 [.ptr c 0] ⟨N, B ++ famP c 0 X⟩ K := by
  subst hn; exact pkTick H hX kk
theorem pkTakeRN {id u : Int} {l : List Int} {b : Bool} (hn : X.length = n) (H : MsAt B c n last oc) (hX : n ≤ 36) (hq : OkX X) (hl : l.length ≤ 1000) (eT : takeP id u l X = (b, X'))
    (kk : K (.bool b) ⟨N, B ++ famP c 0 X'⟩) : Tr Try.prog 77 [.ptr c 0, .agg [.int .u16 id, .int .u8 u, .roI .u8 l]] ⟨N, B ++ famP c 0 X⟩ K := by
  subst hn; exact pkTakeR H hX hq hl eT kk
theorem pkTakeN {id u : Int} {l : List Int} {b : Bool} {h m : Nat} (hn : X.length = n) (H : MsAt B c n last oc) (hX : n ≤ 36) (hq : OkX X) (hl : l.length ≤ 1000) (hr : Mem.get B h = some (.rowI .u8 l)) (hm : m = l.length) (eT : takeP id u l X = (b, X'))
    (kk : K (.bool b) ⟨N, ((h, none) :: B) ++ famP c 0 X'⟩) : Tr Try.prog 77 [.ptr c 0, .agg [.int .u16 id, .int .u8 u, .sl 1 h 0 m]] ⟨N, B ++ famP c 0 X⟩ K := by
  subst hn; exact pkTake H hX hq hl hr hm eT kk
theorem pkLatchN {d : Nat} {J : Img} (hn : X.length = n) (H : MsAt B c n last oc) (hX : n ≤ 36) (hl : ∀ x ∈ X, x.l.length ≤ 1000 ∧ ∀ v ∈ x.l, 0 ≤ v) (hd : d < c ∨ c + 39 ≤ d) (hd2 : Mem.get B d = some (imC J))
    (kk : K (.tup []) ⟨N, ((d, some (imC (latchN J X n))) :: B) ++ famP c 0 X⟩) : Tr Try.prog 78 [.ptr c 0, .ptr d 0] ⟨N, B ++ famP c 0 X⟩ K := by
  subst hn; exact pkLatchA H hX hl hd hd2 kk
end
end Go.Proofs.Ytomodeliimnddaa
set_option linter.unusedVariables false
set_option linter.unusedSimpArgs false
namespace Go.Proofs.Ytomodeliimnddaa
open Go.Ab
/- rung/runglaw26.MasterWrites -/
def a20 : ACode := (.seq (.reg [⟨(some 8), .mov (.c (.bool false)), none, false⟩])
 (.seq (.seq (.reg [⟨(some 21), .call 72 [], none, false⟩, ⟨(some 22), .un .not (.t 21), none, false⟩])
 (.cond (.t 22) (.seq (.reg [⟨(some 8), .mov (.c (.bool false)), none, false⟩])
 .ret)
 .skip))
 (.seq (.seq (.reg [⟨(some 23), .mov (.t 2), none, false⟩, ⟨(some 24), .len false (.t 23), none, false⟩, ⟨(some 25), .bin .gtr .other (.t 24) (.c (.int .i64 100)), none, false⟩])
 (.cond (.t 25) (.seq (.reg [⟨(some 8), .mov (.c (.bool true)), none, false⟩])
 .ret)
 .skip))
 (.seq (.reg [⟨(some 26), .mov (.t 1), none, false⟩, ⟨(some 27), .call 68 [(.t 26), (.c (.int .i64 16))], none, false⟩, ⟨(some 28), .bin .add .other (.c (.int .i64 1)) (.t 27), none, false⟩, ⟨(some 1), .mov (.t 28), none, false⟩])
 (.seq (.reg [⟨(some 29), .mov (.t 1), none, false⟩, ⟨(some 30), .mov (.t 0), none, false⟩, ⟨(some 31), .mov (.t 1), none, false⟩, ⟨(some 32), .bin .sub .other (.c (.int .i64 64)) (.t 31), none, false⟩, ⟨(some 33), .call 68 [(.t 30), (.t 32)], none, false⟩, ⟨(some 34), .build [(.int .u8 0), (.int .u8 0), (.int .u16 0), (.int .i64 0), (.int .i64 0), (.int .i64 0), (.int .i64 0), (.int .i64 0)] [(0, 1, (.c (.int .u8 4))), (1, 1, (.c (.int .u8 16))), (2, 1, (.c (.int .u16 500))), (3, 1, (.t 29)), (4, 1, (.t 33)), (5, 1, (.c (.int .i64 1))), (6, 1, (.c (.int .i64 1))), (7, 1, (.c (.int .i64 1)))], none, false⟩, ⟨(some 9), .alloc [(2, (.int .u8 0)), (1, (.int .u16 0)), (5, (.int .i64 0))], none, false⟩, ⟨none, .store 8 (.t 9) (.t 34), none, false⟩])
 (.seq (.reg [⟨(some 10), .mov (.c (.int .i64 5)), none, false⟩])
 (.seq (.seq (.reg [⟨(some 35), .mov (.t 3), none, false⟩])
 (.cond (.t 35) (.reg [⟨(some 36), .fld 1 1 false (.t 9), none, false⟩, ⟨none, .store 1 (.t 36) (.c (.int .u8 15)), none, false⟩, ⟨(some 10), .mov (.c (.int .i64 2)), none, false⟩])
 .skip))
 (.seq (.reg [⟨(some 38), .load true 8 (.t 9), none, false⟩, ⟨(some 39), .bslice 8 .gen [(.int .u8 0), (.int .u8 0), (.int .u16 0), (.int .i64 0), (.int .i64 0), (.int .i64 0), (.int .i64 0), (.int .i64 0)] [(0, 8, (.t 38))] 1, none, false⟩, ⟨(some 40), .call 73 [(.t 39)], none, false⟩, ⟨(some 37), .mov (.t 40), none, false⟩, ⟨(some 41), .ext (.t 37) 0, none, false⟩, ⟨(some 42), .ext (.t 37) 1, none, false⟩, ⟨(some 11), .mov (.t 41), none, false⟩, ⟨(some 12), .mov (.t 42), none, false⟩])
 (.seq (.reg [⟨(some 43), .call 27 [], none, false⟩, ⟨(some 13), .mov (.t 43), none, false⟩])
 (.seq (.seq (.reg [⟨(some 44), .mov (.t 12), none, false⟩, ⟨(some 45), .bin .neq .other (.t 44) (.c (.int .i64 0)), none, false⟩])
 (.cond (.t 45) (.seq (.reg [⟨(some 8), .mov (.c (.bool false)), none, false⟩])
 .ret)
 .skip))
 (.seq (.seq (.reg [⟨(some 14), .mov (.c (.int .i64 0)), none, false⟩])
 (.block 0 (.loop (.seq (.seq (.reg [⟨(some 46), .mov (.t 14), none, false⟩, ⟨(some 47), .mov (.t 2), none, false⟩, ⟨(some 48), .len false (.t 47), none, false⟩, ⟨(some 49), .bin .lss .other (.t 46) (.t 48), none, false⟩])
 (.cond (.t 49) .skip
 (.exit 0)))
 (.seq (.block 1 (.seq (.draw [⟨0, ⟨(some 52), .mov (.t 13), none, false⟩, false, [], []⟩, ⟨1, ⟨(some 53), .mov (.t 10), none, false⟩, false, [], []⟩, ⟨2, ⟨(some 54), .fld 4 1 false (.t 9), none, false⟩, false, [], []⟩, ⟨3, ⟨(some 55), .load false 1 (.t 54), none, false⟩, false, [], []⟩, ⟨4, ⟨(some 56), .mov (.t 14), none, false⟩, false, [], []⟩, ⟨5, ⟨(some 57), .mov (.t 1), none, false⟩, false, [], []⟩, ⟨6, ⟨(some 58), .bin .rem .other (.t 56) (.t 57), none, false⟩, false, [], []⟩, ⟨7, ⟨(some 59), .bin .add .other (.t 55) (.t 58), none, false⟩, false, [], []⟩, ⟨8, ⟨(some 60), .mov (.t 2), none, false⟩, false, [], []⟩, ⟨9, ⟨(some 61), .mov (.t 14), none, false⟩, false, [], []⟩, ⟨10, ⟨(some 62), .idx 1 none false (.t 60) (.t 61), none, false⟩, false, [], []⟩, ⟨11, ⟨(some 63), .load false 1 (.t 62), none, false⟩, false, [], []⟩, ⟨12, ⟨(some 64), .call 29 [(.t 52), (.t 53), (.t 59), (.t 63)], none, false⟩, true, [], []⟩])
 (.seq (.reg [⟨(some 65), .mov (.t 11), none, false⟩, ⟨(some 66), .mov (.t 13), none, false⟩, ⟨(some 67), .call 75 [(.t 65), (.t 66)], none, false⟩])
 (.seq (.reg [⟨(some 68), .mov (.t 11), none, false⟩, ⟨(some 69), .call 83 [(.t 68)], none, false⟩])
 (.seq (.reg [⟨(some 70), .mov (.t 11), none, false⟩, ⟨(some 71), .call 76 [(.t 70)], none, false⟩, ⟨(some 15), .mov (.t 71), none, false⟩])
 (.seq (.reg [⟨(some 72), .fld 1 1 false (.t 9), none, false⟩, ⟨(some 73), .load false 1 (.t 72), none, false⟩, ⟨(some 74), .build [(.int .u8 0), (.int .u16 0), (.int .u16 0), (.int .u16 0), .nils, .nils] [(0, 1, (.t 73)), (1, 1, (.c (.int .u16 500)))], none, false⟩, ⟨(some 16), .alloc [(1, (.int .u8 0)), (3, (.int .u16 0)), (2, .nils)], none, false⟩, ⟨none, .store 6 (.t 16) (.t 74), none, false⟩])
 (.seq (.reg [⟨(some 75), .mov (.t 13), none, false⟩, ⟨(some 76), .mov (.t 10), none, false⟩, ⟨(some 77), .call 36 [(.t 75), (.t 76)], none, false⟩, ⟨(some 17), .mov (.t 77), none, false⟩])
 (.seq (.seq (.reg [⟨(some 18), .mov (.c (.int .i64 0)), none, false⟩])
 (.block 2 (.loop (.seq (.seq (.reg [⟨(some 78), .mov (.t 18), none, false⟩, ⟨(some 79), .mov (.t 1), none, false⟩, ⟨(some 80), .bin .lss .other (.t 78) (.t 79), none, false⟩])
 (.cond (.t 80) .skip
 (.exit 2)))
 (.seq (.block 3 (.seq (.reg [⟨(some 83), .mov (.t 3), none, false⟩])
 (.cond (.t 83) (.draw [⟨0, ⟨(some 84), .fld 4 1 false (.t 16), none, false⟩, false, [], []⟩, ⟨1, ⟨(some 85), .load false 1 (.t 84), none, false⟩, false, [], []⟩, ⟨2, ⟨(some 86), .mov (.t 17), none, false⟩, false, [], []⟩, ⟨3, ⟨(some 87), .fld 4 1 false (.t 9), none, false⟩, false, [], []⟩, ⟨4, ⟨(some 88), .load false 1 (.t 87), none, false⟩, false, [], []⟩, ⟨5, ⟨(some 89), .mov (.t 18), none, false⟩, false, [], []⟩, ⟨6, ⟨(some 90), .bin .add .other (.t 88) (.t 89), none, false⟩, false, [], []⟩, ⟨7, ⟨(some 91), .idx 1 none false (.t 86) (.t 90), none, false⟩, false, [], []⟩, ⟨8, ⟨(some 92), .load false 1 (.t 91), none, false⟩, false, [], []⟩, ⟨9, ⟨(some 93), .bin .eql .other (.t 92) (.c (.int .u16 1)), none, false⟩, false, [], []⟩, ⟨10, ⟨(some 94), .bslice 1 .bool [(.bool false)] [(0, 1, (.t 93))] 1, none, false⟩, false, [], []⟩, ⟨11, ⟨(some 95), .app 1 1 (.t 85) (.t 94), none, false⟩, true, [10], []⟩, ⟨12, ⟨(some 96), .fld 4 1 false (.t 16), none, false⟩, false, [], []⟩, ⟨13, ⟨none, .store 1 (.t 96) (.t 95), none, false⟩, true, [10], []⟩])
 (.draw [⟨0, ⟨(some 97), .fld 5 1 false (.t 16), none, false⟩, false, [], []⟩, ⟨1, ⟨(some 98), .load false 1 (.t 97), none, false⟩, false, [], []⟩, ⟨2, ⟨(some 99), .mov (.t 17), none, false⟩, false, [], []⟩, ⟨3, ⟨(some 100), .fld 4 1 false (.t 9), none, false⟩, false, [], []⟩, ⟨4, ⟨(some 101), .load false 1 (.t 100), none, false⟩, false, [], []⟩, ⟨5, ⟨(some 102), .mov (.t 18), none, false⟩, false, [], []⟩, ⟨6, ⟨(some 103), .bin .add .other (.t 101) (.t 102), none, false⟩, false, [], []⟩, ⟨7, ⟨(some 104), .idx 1 none false (.t 99) (.t 103), none, false⟩, false, [], []⟩, ⟨8, ⟨(some 105), .load false 1 (.t 104), none, false⟩, false, [], []⟩, ⟨9, ⟨(some 106), .bslice 1 (.int .u16) [(.int .u16 0)] [(0, 1, (.t 105))] 1, none, false⟩, false, [], []⟩, ⟨10, ⟨(some 107), .app 1 2 (.t 98) (.t 106), none, false⟩, true, [9], []⟩, ⟨11, ⟨(some 108), .fld 5 1 false (.t 16), none, false⟩, false, [], []⟩, ⟨12, ⟨none, .store 1 (.t 108) (.t 107), none, false⟩, true, [9], []⟩]))))
 (.reg [⟨(some 81), .mov (.t 18), none, false⟩, ⟨(some 82), .bin .add .other (.t 81) (.c (.int .i64 1)), none, false⟩, ⟨(some 18), .mov (.t 82), none, false⟩]))))))
 (.seq (.reg [⟨(some 110), .load true 6 (.t 16), none, false⟩, ⟨(some 111), .call 49 [(.t 110)], none, false⟩, ⟨(some 109), .mov (.t 111), none, false⟩, ⟨(some 112), .ext (.t 109) 0, none, false⟩, ⟨(some 113), .ext (.t 109) 1, none, false⟩, ⟨(some 19), .mov (.t 112), none, false⟩, ⟨(some 20), .mov (.t 113), none, false⟩])
 (.seq (.reg [⟨(some 114), .mov (.t 15), none, false⟩, ⟨(some 115), .len false (.t 114), none, false⟩, ⟨(some 116), .bin .neq .other (.t 115) (.c (.int .i64 1)), none, false⟩, ⟨(some 117), .mov (.t 116), none, true⟩, ⟨(some 118), .mov (.t 15), (some (117, false)), false⟩, ⟨(some 119), .idx 3 none true (.t 118) (.c (.int .i64 0)), (some (117, false)), false⟩, ⟨(some 120), .fld 2 1 false (.t 119), (some (117, false)), false⟩, ⟨(some 121), .load false 1 (.t 120), (some (117, false)), false⟩, ⟨(some 122), .mov (.t 19), (some (117, false)), false⟩, ⟨(some 123), .call 50 [(.t 121), (.t 122)], (some (117, false)), false⟩, ⟨(some 124), .un .not (.t 123), (some (117, false)), false⟩, ⟨(some 125), .pick (.t 117) (.c (.bool true)) (.t 124), none, false⟩, ⟨(some 126), .mov (.t 125), none, true⟩, ⟨(some 127), .mov (.t 15), (some (126, false)), false⟩, ⟨(some 128), .idx 3 none true (.t 127) (.c (.int .i64 0)), (some (126, false)), false⟩, ⟨(some 129), .fld 0 1 false (.t 128), (some (126, false)), false⟩, ⟨(some 130), .load false 1 (.t 129), (some (126, false)), false⟩, ⟨(some 131), .mov (.t 14), (some (126, false)), false⟩, ⟨(some 132), .bin .add .other (.t 131) (.c (.int .i64 1)), (some (126, false)), false⟩, ⟨(some 133), .conv (.int .u16) (.t 132), (some (126, false)), false⟩, ⟨(some 134), .bin .neq .other (.t 130) (.t 133), (some (126, false)), false⟩, ⟨(some 135), .pick (.t 126) (.c (.bool true)) (.t 134), none, false⟩])
 (.cond (.t 135) (.seq (.reg [⟨(some 8), .mov (.c (.bool false)), none, false⟩])
 .ret)
 .skip)))))))))))
 (.reg [⟨(some 50), .mov (.t 14), none, false⟩, ⟨(some 51), .bin .add .other (.t 50) (.c (.int .i64 1)), none, false⟩, ⟨(some 14), .mov (.t 51), none, false⟩]))))))
 (.seq (.reg [⟨(some 8), .mov (.c (.bool true)), none, false⟩])
 .ret))))))))))))
def r20 : List ARes := [.t 8]
theorem c20 : compF Try.prog Try.f20 = some (a20, r20) := by kernel_rfl

theorem b20 : hasBody Try.prog 20 = true := by kernel_rfl
theorem g20 : Try.prog.funcs[20]? = some Try.f20 := by kernel_rfl

/-- a poll that writes and is due -/
structure WX (P : Po) (a : Int) (x : Pl) : Prop where
  p : x.p = P
  ar : x.ar = a
  w : x.w = false
  si : x.si = -1 ∨ x.si = 0
theorem WX.due {P : Po} {a : Int} {x : Pl} (h : WX P a x) (he : P.e = 1) : x.older.due = true := by
  obtain ⟨h1, _, h2, h3⟩ := h
  unfold Pl.due Pl.older
  show (!(x.w || (decide ((if x.si ≥ 0 then IntKind.i64.wrap (x.si + 1) else x.si) ≥ 0) && decide ((if x.si ≥ 0 then IntKind.i64.wrap (x.si + 1) else x.si) < x.p.e)))) = true
  rcases h3 with h3 | h3
  · rw [h1, h2, h3, he]; rfl
  · rw [h1, h2, h3, he]; rfl
theorem WX.tick {P : Po} {a : Int} {x : Pl} {I : Img} {n : Int} (h : WX P a x) (ht : P.t = 1) : WX P a (x.older.asks I n).tick := by
  obtain ⟨h1, h2, h3, h4⟩ := h
  unfold Pl.tick
  rw [if_pos (show (x.older.asks I n).w = true from rfl), if_pos (by show IntKind.i64.wrap (x.p.t - 1) = 0; rw [h1, ht]; rfl)]
  exact ⟨h1, h2, rfl, .inr rfl⟩
theorem inA_of {a i : Int} (h0 : 0 ≤ i) (h1 : i < szA a) : inA a i = true := by
  unfold inA; rw [decide_eq_true h0, decide_eq_true h1]; rfl
theorem getV_all {f : Nat → Nat → Int} {a : Int} {i : Nat} (h : (i : Int) < szA a) : getV f a i = (allL f a).getD i 0 := by
  unfold getV
  rw [if_pos (inA_of (by omega) h), Int.toNat_natCast, List.getD_eq_getElem?_getD]
  have hl : i < (allL f a).length := by rw [allL_length]; omega
  rw [List.getElem?_eq_getElem hl]
  simp [allL]
theorem getV_put2 {J : Img} {i v : Int} {k : Int} (h : ∀ j, J.o 2 j = 0 ∨ J.o 2 j = 1) : ∀ j, (J.put 2 i v).o 2 j = 0 ∨ (J.put 2 i v).o 2 j = 1 := fun j => by
  show putO J.o 2 i v 2 j = 0 ∨ putO J.o 2 i v 2 j = 1
  unfold putO
  split
  · unfold set2
    split
    · unfold bitV
      by_cases e : v = 0
      · subst e; exact .inl rfl
      · rw [show (v != 0) = true by simpa using e]; exact .inr rfl
    · exact h j
  · exact h j
theorem bits01 {v : Int} (h : v = 0 ∨ v = 1) : (v == 1) = (v != 0) := by
  rcases h with rfl | rfl <;> rfl
theorem see_all20 {g : Nat → Option Chunk} {h n : Nat} {k : IntKind} {row : List Int} (hg : g h = some (.rowI k row)) (hn : n = row.length) : See g (.sl 1 h 0 n) (.roI k row) := by
  subst hn
  have := See.rowI (o := 0) (n := row.length) hg (by omega)
  rwa [List.drop_zero, List.take_length] at this
theorem see_allB {g : Nat → Option Chunk} {h n : Nat} {row : List Bool} (hg : g h = some (.rowB row)) (hn : n = row.length) : See g (.sl 1 h 0 n) (.roB row) := by
  subst hn
  have := See.rowB (o := 0) (n := row.length) hg (by omega)
  rwa [List.drop_zero, List.take_length] at this
theorem WX.olderAr {P : Po} {a : Int} {x : Pl} (h : WX P a x) : x.older.ar = a := h.ar
theorem one_fam20 {s : St} {c : Nat} {x : Pl} (h : s.get (c + (0 + 3)) = some (plC x)) : ∀ j (hj : j < [x].length), s.get (c + (j + 3)) = some (plC [x][j]) := fun j hj => by
  obtain rfl : j = 0 := by have h : j < 1 := hj; omega
  exact h
def pW (n p : Int) : Po := ⟨4, 16, 500, n, p, 1, 1, 1⟩
set_option maxRecDepth 20000 in
set_option maxHeartbeats 8000000 in
theorem law20W (p0 n0 : Int) (V : List Int) (hV : ∀ x ∈ V, 0 ≤ x ∧ x < 65536) : Ev Try.prog 20 [.int .i64 p0, .int .i64 n0, .roI .u16 V, .bool false] (.bool true) := by
  refine FrzK.ev rfl (trF g20 b20 c20 ?_)
  conv => whnf
  refine Ev.call known26_ev ?_
  conv => whnf
  refine condF (fun h100 => ?_) (fun _ => ?_)
  rotate_left
  · conv => whnf
    exact FrzK.le (Le.refl _)
  have h100 : V.length ≤ 100 := by simp at h100; omega
  conv => whnf
  refine Ev.call (place_ev n0 16 (by decide) (by decide)) ?_
  have hn := place_range n0 16 (by decide)
  generalize placeS n0 16 = q0 at *
  conv => whnf
  rw [w64i (n := 1 + q0) (by omega) (by omega)]
  obtain ⟨pn, hpn⟩ : ∃ pn, pn = 1 + q0 := ⟨_, rfl⟩
  rw [← hpn]
  conv => whnf
  rw [w64i (n := 64 - pn) (by omega) (by omega)]
  refine Ev.call (place_ev p0 (64 - pn) (by omega) (by omega)) ?_
  have hp := place_range p0 (64 - pn) (by omega)
  generalize placeS p0 (64 - pn) = pl at *
  conv => whnf
  have hal : allR [(pW pn pl)] = true := allR_one (right_of (by decide) (by decide) ⟨by show 1 ≤ pn; omega, by show pn ≤ 64; omega⟩ (by show 500 + pn ≤ 65536; omega) ⟨hp.1, by show pl ≤ 64 - pn; omega⟩ (by decide) (by decide) (by decide))
  refine pkNew (S := [(pW pn pl)]) ⟨see_polls0 (S := [(pW pn pl)]) rfl, trivial⟩ (mem_one ⟨(by decide : (0 : Int) ≤ 500), (by decide : (500 : Int) < 65536)⟩) (by decide : (1 : Nat) ≤ 32) hal rfl ?_
  conv => whnf
  refine newCall New_tr ?_
  conv => whnf
  refine loopI (α := {a : Nat × Img × Pl // a.1 ≤ V.length ∧ WX (pW pn pl) 5 a.2.2 ∧ True}) (fun ⟨⟨i, J, x⟩, _⟩ => [(1, .int .i64 pn), (2, .roI .u16 V), (3, .bool false), (9, .ptr 0 0), (10, .int .i64 5), (11, .ptr 2 0), (13, .ptr 42 0), (14, .int .i64 i)]) (fun ⟨⟨i, J, x⟩, _⟩ => ⟨43, [(0, some (.obj (poL (pW pn pl)))), (2, some (msP 2 1 i .nils)), (3, some (mrP 2 1)), (42, some (imC J))] ++ famP 2 0 [x]⟩) (fun ⟨⟨i, _, _⟩, _⟩ => V.length - i) ⟨⟨0, .zero, newP (pW pn pl)⟩, Nat.zero_le _, ⟨rfl, rfl, rfl, .inl rfl⟩, trivial⟩ ?_ fun ⟨⟨i, J, x⟩, hi, hx, hJ⟩ => ?_
  · exact subPk (c := 2) (X := [newP (pW pn pl)]) [] rfl rfl rfl (by decide : (1 : Nat) ≤ 36) (fun _ _ _ => rfl) rfl rfl ⟨⟨rfl, rfl⟩, ⟨rfl, rfl⟩, ⟨rfl, rfl⟩, ⟨rfl, rfl⟩, ⟨rfl, rfl⟩, ⟨rfl, rfl⟩, ⟨rfl, rfl⟩, ⟨rfl, rfl⟩, trivial⟩ ⟨⟨rfl, rfl, rfl⟩, ⟨msP_hok rfl, rfl, rfl⟩, ⟨mrP_hok rfl, rfl, rfl⟩, ⟨trivial, rfl, rfl⟩, trivial⟩ (one_fam20 rfl)
  have hi : i ≤ V.length := hi
  have hx : WX (pW pn pl) 5 x := hx
  have hJ : True := hJ
  conv => whnf
  by_cases hlt : i < V.length
  rotate_left
  · refine condN (by simp; omega) ?_
    conv => whnf
    exact FrzK.le (Le.refl _)
  refine condY (by simp; omega) ?_
  conv => whnf
  have hvi : 0 ≤ V.getD i 0 := by
    have e : V.getD i 0 = V[i] := by simp [List.getD_eq_getElem?_getD, List.getElem?_eq_getElem hlt]
    rw [e]; exact (hV _ (List.getElem_mem hlt)).1
  refine condT (by simp; omega) ?_
  conv => whnf
  refine condT (by simp; omega) ?_
  conv => whnf
  refine blkCall (h := 42) (Put_tr J 5 (IntKind.i64.wrap (pl + (i : Int).tmod pn)) (V.getD i 0) hvi) rfl rfl rfl ?_
  have hJ1 : True := trivial
  generalize J.put 5 (IntKind.i64.wrap (pl + (i : Int).tmod pn)) (V.getD i 0) = J1 at *
  conv => whnf
  have hw : IntKind.u32.wrap ((i : Int) + 1) = ((i + 1 : Nat) : Int) := by show ((i : Int) + 1) % 4294967296 = _; omega
  have hb : bgN ([x].map Pl.older) J1 i 1 = ([x.older.asks J1 ((i + 1 : Nat) : Int)], ((i + 1 : Nat) : Int), [⟨IntKind.u16.wrap ((i + 1 : Nat) : Int), 4, encR 16 500 0 0 [] ((List.range pn.toNat).map fun k => getN J1 x.older k)⟩]) := by
    rw [bg_due (hx.due rfl), hw]
    congr 3
    unfold Pl.sends askQ
    rw [show x.older.p = (pW pn pl) from hx.p]
    rfl
  have hx1 : WX (pW pn pl) 5 (x.older.asks J1 ((i + 1 : Nat) : Int)).tick := hx.tick rfl
  have hL1 : ((List.range pn.toNat).map fun k => getN J1 x.older k).length = pn.toNat := by simp
  have hpp : ∀ y ∈ [x], 1 ≤ y.p.n ∧ y.p.n ≤ 64 := mem_one (by rw [hx.p]; exact ⟨by show 1 ≤ pn; omega, by show pn ≤ 64; omega⟩)
  have hget : ∀ k : Nat, (k : Int) < pn → getN J1 x.older k = (allL J1.o 5).getD (pl + k).toNat 0 := fun k hk => by
    unfold getN
    rw [show x.older.ar = 5 from hx.ar, show x.older.p = (pW pn pl) from hx.p, show IntKind.i64.wrap ((pW pn pl).p + (k : Int)) = (((pl + k).toNat : Nat) : Int) from (w64i (n := pl + k) (by omega) (by omega)).trans (by omega)]
    exact getV_all (by show _ < (64 : Int); omega)
  generalize x.older.asks J1 ((i + 1 : Nat) : Int) = x1 at *
  with_reducible (first | refine unc1 ?_ | refine unc2 ?_ | refine unc3 ?_ | refine unc4 ?_ | refine unc5 ?_ | refine unc6 ?_ | refine unc7 ?_ | refine unc8 ?_ | refine unc9 ?_ | refine unc10 ?_ | refine unc11 ?_ | refine unc12 ?_ | refine unc13 ?_ | refine unc14 ?_ | refine unc15 ?_ | refine unc16 ?_ | skip)
  refine pkBeginA (last := i) (I := J1) (X := [x]) ?_ (by decide : (1 : Nat) ≤ 36) hpp ?_ ?_ ?_ ?_ hb ?_
  · exact ⟨rfl, rfl, rfl, outN⟩
  · rfl
  · rfl
  · exact .inr (by decide)
  · rfl
  conv => whnf
  with_reducible (first | refine unc1 ?_ | refine unc2 ?_ | refine unc3 ?_ | refine unc4 ?_ | refine unc5 ?_ | refine unc6 ?_ | refine unc7 ?_ | refine unc8 ?_ | refine unc9 ?_ | refine unc10 ?_ | refine unc11 ?_ | refine unc12 ?_ | refine unc13 ?_ | refine unc14 ?_ | refine unc15 ?_ | refine unc16 ?_ | skip)
  refine pkTick (last := ((i + 1 : Nat) : Int)) (X := [x1]) (oc := .sl 3 43 0 1) ?_ (by decide : (1 : Nat) ≤ 36) ?_
  · exact ⟨rfl, rfl, rfl, outS _ _ _⟩
  conv => whnf
  with_reducible (first | refine unc1 ?_ | refine unc2 ?_ | refine unc3 ?_ | refine unc4 ?_ | refine unc5 ?_ | refine unc6 ?_ | refine unc7 ?_ | refine unc8 ?_ | refine unc9 ?_ | refine unc10 ?_ | refine unc11 ?_ | refine unc12 ?_ | refine unc13 ?_ | refine unc14 ?_ | refine unc15 ?_ | refine unc16 ?_ | skip)
  refine pkOutA (last := ((i + 1 : Nat) : Int)) (X := [x1.tick]) (oc := .sl 3 43 0 1) ?_ (by decide : (1 : Nat) ≤ 36) ?_
  · exact ⟨rfl, rfl, rfl, outS _ _ _⟩
  conv => whnf
  refine allCall (All_tr J1 5) rfl rfl rfl ?_
  have hAl : (allL J1.o 5).length = 64 := allL_length _ _
  skip
  conv => whnf
  refine loopI (α := {k : Nat // (k : Int) ≤ pn}) (fun ⟨k, _⟩ => [(1, .int .i64 pn), (2, .roI .u16 V), (3, .bool false), (9, .ptr 0 0), (10, .int .i64 5), (11, .ptr 2 0), (13, .ptr 42 0), (14, .int .i64 i), (15, .sl 3 43 0 1), (16, .ptr 44 0), (17, .sl 1 45 0 64), (18, .int .i64 k)]) (fun ⟨k, _⟩ => ⟨47, [(0, some (.obj (poL (pW pn pl)))), (2, some (msP 2 1 ((i + 1 : Nat) : Int) .nils)), (3, some (mrP 2 1)), (42, some (imC J1)), (43, some (.obj [.int .u16 (IntKind.u16.wrap ((i + 1 : Nat) : Int)), .int .u8 4, .roI .u8 (encR 16 500 0 0 [] ((List.range pn.toNat).map fun k => getN J1 x.older k))])), (44, some (.obj [.int .u8 16, .int .u16 500, .int .u16 0, .int .u16 0, .nils, .sl 1 46 0 k])), (45, some (.rowI .u16 (allL J1.o 5))), (46, some (.rowI .u16 ((List.range k).map fun k => getN J1 x.older k)))] ++ famP 2 0 [x1.tick]⟩) (fun ⟨k, _⟩ => pn.toNat - k) ⟨0, by show (0 : Int) ≤ pn; omega⟩ ?_ fun ⟨k, hk⟩ => ?_
  · exact subPk (c := 2) (X := [x1.tick]) [(46, none)] rfl rfl rfl (by decide : (1 : Nat) ≤ 36) (fun h _ h2 => rn1 (by omega)) rfl rfl ⟨⟨rfl, rfl⟩, ⟨rfl, rfl⟩, ⟨rfl, rfl⟩, ⟨rfl, rfl⟩, ⟨rfl, rfl⟩, ⟨rfl, rfl⟩, ⟨rfl, rfl⟩, ⟨rfl, rfl⟩, ⟨rfl, rfl⟩, ⟨rfl, rfl⟩, ⟨rfl, rfl⟩, ⟨rfl, rfl⟩, trivial⟩ ⟨⟨rfl, rfl, rfl⟩, ⟨rfl, rfl, rfl⟩, ⟨mrP_hokI (fun h _ h2 => rn1 (by omega)) rfl, rfl, by show _ = some ((mrP 2 1).ren _); rw [mrP_renI (fun h _ h2 => rn1 (by omega))]; rfl⟩, ⟨trivial, rfl, rfl⟩, ⟨rfl, rfl, rfl⟩, ⟨rfl, rfl, rfl⟩, ⟨trivial, rfl, rfl⟩, ⟨trivial, rfl, rfl⟩, trivial⟩ (one_fam20 rfl)
  have hk : (k : Int) ≤ pn := hk
  conv => whnf
  by_cases hkn : (k : Int) < pn
  · refine condY (by simpa using hkn) ?_
    conv => whnf
    rw [show IntKind.i64.wrap ((pW pn pl).p + (k : Int)) = pl + k from w64i (n := pl + k) (by omega) (by omega)]
    refine condT (by simp; omega) ?_
    conv => whnf
    refine condT (by show decide _ = true; refine decide_eq_true ?_; rw [hAl]; omega) ?_
    conv => whnf
    refine condT (by simp; omega) ?_
    conv => whnf
    refine ⟨⟨k + 1, by show ((k + 1 : Nat) : Int) ≤ pn; omega⟩, subPk (c := 2) (X := [x1.tick]) [(46, some 48)] rfl rfl rfl (by decide : (1 : Nat) ≤ 36) (fun h _ h2 => rn1 (by omega)) rfl rfl ⟨⟨rfl, rfl⟩, ⟨rfl, rfl⟩, ⟨rfl, rfl⟩, ⟨rfl, rfl⟩, ⟨rfl, rfl⟩, ⟨rfl, rfl⟩, ⟨rfl, rfl⟩, ⟨rfl, rfl⟩, ⟨rfl, rfl⟩, ⟨rfl, rfl⟩, ⟨rfl, rfl⟩, ⟨?_, rfl⟩, trivial⟩ ⟨⟨rfl, rfl, rfl⟩, ⟨rfl, rfl, rfl⟩, ⟨mrP_hokI (fun h _ h2 => rn1 (by omega)) rfl, rfl, by show _ = some ((mrP 2 1).ren _); rw [mrP_renI (fun h _ h2 => rn1 (by omega))]; rfl⟩, ⟨trivial, rfl, rfl⟩, ⟨rfl, rfl, rfl⟩, ⟨rfl, rfl, rfl⟩, ⟨trivial, rfl, rfl⟩, ⟨trivial, rfl, ?_⟩, trivial⟩ (one_fam20 rfl), by show pn.toNat - (k + 1) < pn.toNat - k; omega⟩
    · show AV.int .i64 (IntKind.i64.wrap ((k : Int) + 1)) = AV.int .i64 ((k + 1 : Nat) : Int)
      rw [s64 (by omega)]
    · have hv : (allL J1.o 5).getD (0 + (pl + (k : Int)).toNat * 1) 0 = getN J1 x.older k := by
        rw [hget k hkn]; simp
      show some (Chunk.rowI .u16 (((((List.range k).map fun k => getN J1 x.older k)).drop 0).take k ++ ([(allL J1.o 5).getD (0 + (pl + (k : Int)).toNat * 1) 0].drop 0).take 1)) = some (Chunk.rowI .u16 ((List.range (k + 1)).map fun k => getN J1 x.older k))
      rw [hv, List.range_succ, List.map_append, List.drop_zero]
      conv => lhs; rw [List.take_of_length_le (by simp)]
      rfl
  · obtain rfl : k = pn.toNat := by omega
    refine condN (by simpa using hkn) ?_
    conv => whnf
    refine Ret1.lookF (Ret1.of rfl ((rRequest_raw 16 500 0 0 [] ((List.range pn.toNat).map fun k => getN J1 x.older k) (by decide) (by decide) (by simp <;> omega) (by simp <;> omega)).mono fun v s h => by unfold RawK at h; exact h)) rfl ⟨See.aggL ⟨.same _ rfl, .same _ rfl, .same _ rfl, .same _ rfl, .le _ _ _ (.same _ rfl) Le.nilB, see_all20 rfl hL1.symm, trivial⟩, trivial⟩ ?_
    conv => whnf
    refine Ev.call (bytesT _) ?_
    conv => whnf
    refine condN (by rw [s64 (by omega)]; simp) ?_
    conv => whnf
    refine ⟨⟨⟨i + 1, J1, x1.tick⟩, by show i + 1 ≤ V.length; omega, hx1, hJ1⟩, subPk (c := 2) (X := [x1.tick]) [] rfl rfl rfl (by decide : (1 : Nat) ≤ 36) (fun _ _ _ => rfl) rfl rfl ⟨⟨rfl, rfl⟩, ⟨rfl, rfl⟩, ⟨rfl, rfl⟩, ⟨rfl, rfl⟩, ⟨rfl, rfl⟩, ⟨rfl, rfl⟩, ⟨rfl, rfl⟩, ⟨?_, rfl⟩, trivial⟩ ⟨⟨rfl, rfl, rfl⟩, ⟨msP_hok rfl, rfl, rfl⟩, ⟨mrP_hok rfl, rfl, rfl⟩, ⟨trivial, rfl, rfl⟩, trivial⟩ (one_fam20 rfl), by show V.length - (i + 1) < V.length - i; omega⟩
    show AV.int .i64 (IntKind.i64.wrap ((i : Int) + 1)) = AV.int .i64 ((i + 1 : Nat) : Int)
    rw [s64 (by omega)]
def pC (n p : Int) : Po := ⟨4, 15, 500, n, p, 1, 1, 1⟩
set_option maxRecDepth 20000 in
set_option maxHeartbeats 8000000 in
theorem law20C (p0 n0 : Int) (V : List Int) (hV : ∀ x ∈ V, 0 ≤ x ∧ x < 65536) : Ev Try.prog 20 [.int .i64 p0, .int .i64 n0, .roI .u16 V, .bool true] (.bool true) := by
  refine FrzK.ev rfl (trF g20 b20 c20 ?_)
  conv => whnf
  refine Ev.call known26_ev ?_
  conv => whnf
  refine condF (fun h100 => ?_) (fun _ => ?_)
  rotate_left
  · conv => whnf
    exact FrzK.le (Le.refl _)
  have h100 : V.length ≤ 100 := by simp at h100; omega
  conv => whnf
  refine Ev.call (place_ev n0 16 (by decide) (by decide)) ?_
  have hn := place_range n0 16 (by decide)
  generalize placeS n0 16 = q0 at *
  conv => whnf
  rw [w64i (n := 1 + q0) (by omega) (by omega)]
  obtain ⟨pn, hpn⟩ : ∃ pn, pn = 1 + q0 := ⟨_, rfl⟩
  rw [← hpn]
  conv => whnf
  rw [w64i (n := 64 - pn) (by omega) (by omega)]
  refine Ev.call (place_ev p0 (64 - pn) (by omega) (by omega)) ?_
  have hp := place_range p0 (64 - pn) (by omega)
  generalize placeS p0 (64 - pn) = pl at *
  conv => whnf
  have hal : allR [(pC pn pl)] = true := allR_one (right_of (by decide) (by decide) ⟨by show 1 ≤ pn; omega, by show pn ≤ 64; omega⟩ (by show 500 + pn ≤ 65536; omega) ⟨hp.1, by show pl ≤ 128 - pn; omega⟩ (by decide) (by decide) (by decide))
  refine pkNew (S := [(pC pn pl)]) ⟨see_polls0 (S := [(pC pn pl)]) rfl, trivial⟩ (mem_one ⟨(by decide : (0 : Int) ≤ 500), (by decide : (500 : Int) < 65536)⟩) (by decide : (1 : Nat) ≤ 32) hal rfl ?_
  conv => whnf
  refine newCall New_tr ?_
  conv => whnf
  refine loopI (α := {a : Nat × Img × Pl // a.1 ≤ V.length ∧ WX (pC pn pl) 2 a.2.2 ∧ ∀ j, a.2.1.o 2 j = 0 ∨ a.2.1.o 2 j = 1}) (fun ⟨⟨i, J, x⟩, _⟩ => [(1, .int .i64 pn), (2, .roI .u16 V), (3, .bool true), (9, .ptr 0 0), (10, .int .i64 2), (11, .ptr 2 0), (13, .ptr 42 0), (14, .int .i64 i)]) (fun ⟨⟨i, J, x⟩, _⟩ => ⟨43, [(0, some (.obj (poL (pC pn pl)))), (2, some (msP 2 1 i .nils)), (3, some (mrP 2 1)), (42, some (imC J))] ++ famP 2 0 [x]⟩) (fun ⟨⟨i, _, _⟩, _⟩ => V.length - i) ⟨⟨0, .zero, newP (pC pn pl)⟩, Nat.zero_le _, ⟨rfl, rfl, rfl, .inl rfl⟩, fun _ => .inl rfl⟩ ?_ fun ⟨⟨i, J, x⟩, hi, hx, hJ⟩ => ?_
  · exact subPk (c := 2) (X := [newP (pC pn pl)]) [] rfl rfl rfl (by decide : (1 : Nat) ≤ 36) (fun _ _ _ => rfl) rfl rfl ⟨⟨rfl, rfl⟩, ⟨rfl, rfl⟩, ⟨rfl, rfl⟩, ⟨rfl, rfl⟩, ⟨rfl, rfl⟩, ⟨rfl, rfl⟩, ⟨rfl, rfl⟩, ⟨rfl, rfl⟩, trivial⟩ ⟨⟨rfl, rfl, rfl⟩, ⟨msP_hok rfl, rfl, rfl⟩, ⟨mrP_hok rfl, rfl, rfl⟩, ⟨trivial, rfl, rfl⟩, trivial⟩ (one_fam20 rfl)
  have hi : i ≤ V.length := hi
  have hx : WX (pC pn pl) 2 x := hx
  have hJ : ∀ j, J.o 2 j = 0 ∨ J.o 2 j = 1 := hJ
  conv => whnf
  by_cases hlt : i < V.length
  rotate_left
  · refine condN (by simp; omega) ?_
    conv => whnf
    exact FrzK.le (Le.refl _)
  refine condY (by simp; omega) ?_
  conv => whnf
  have hvi : 0 ≤ V.getD i 0 := by
    have e : V.getD i 0 = V[i] := by simp [List.getD_eq_getElem?_getD, List.getElem?_eq_getElem hlt]
    rw [e]; exact (hV _ (List.getElem_mem hlt)).1
  refine condT (by simp; omega) ?_
  conv => whnf
  refine condT (by simp; omega) ?_
  conv => whnf
  refine blkCall (h := 42) (Put_tr J 2 (IntKind.i64.wrap (pl + (i : Int).tmod pn)) (V.getD i 0) hvi) rfl rfl rfl ?_
  have hJ1 : ∀ j, (J.put 2 (IntKind.i64.wrap (pl + (i : Int).tmod pn)) (V.getD i 0)).o 2 j = 0 ∨ (J.put 2 (IntKind.i64.wrap (pl + (i : Int).tmod pn)) (V.getD i 0)).o 2 j = 1 := getV_put2 (k := 0) hJ
  generalize J.put 2 (IntKind.i64.wrap (pl + (i : Int).tmod pn)) (V.getD i 0) = J1 at *
  conv => whnf
  have hw : IntKind.u32.wrap ((i : Int) + 1) = ((i + 1 : Nat) : Int) := by show ((i : Int) + 1) % 4294967296 = _; omega
  have hb : bgN ([x].map Pl.older) J1 i 1 = ([x.older.asks J1 ((i + 1 : Nat) : Int)], ((i + 1 : Nat) : Int), [⟨IntKind.u16.wrap ((i + 1 : Nat) : Int), 4, encR 15 500 0 0 ((List.range pn.toNat).map fun k => getN J1 x.older k != 0) []⟩]) := by
    rw [bg_due (hx.due rfl), hw]
    congr 3
    unfold Pl.sends askQ
    rw [show x.older.p = (pC pn pl) from hx.p]
    rfl
  have hx1 : WX (pC pn pl) 2 (x.older.asks J1 ((i + 1 : Nat) : Int)).tick := hx.tick rfl
  have hL1 : ((List.range pn.toNat).map fun k => getN J1 x.older k != 0).length = pn.toNat := by simp
  have hpp : ∀ y ∈ [x], 1 ≤ y.p.n ∧ y.p.n ≤ 64 := mem_one (by rw [hx.p]; exact ⟨by show 1 ≤ pn; omega, by show pn ≤ 64; omega⟩)
  have hget : ∀ k : Nat, (k : Int) < pn → getN J1 x.older k = (allL J1.o 2).getD (pl + k).toNat 0 := fun k hk => by
    unfold getN
    rw [show x.older.ar = 2 from hx.ar, show x.older.p = (pC pn pl) from hx.p, show IntKind.i64.wrap ((pC pn pl).p + (k : Int)) = (((pl + k).toNat : Nat) : Int) from (w64i (n := pl + k) (by omega) (by omega)).trans (by omega)]
    exact getV_all (by show _ < (128 : Int); omega)
  generalize x.older.asks J1 ((i + 1 : Nat) : Int) = x1 at *
  with_reducible (first | refine unc1 ?_ | refine unc2 ?_ | refine unc3 ?_ | refine unc4 ?_ | refine unc5 ?_ | refine unc6 ?_ | refine unc7 ?_ | refine unc8 ?_ | refine unc9 ?_ | refine unc10 ?_ | refine unc11 ?_ | refine unc12 ?_ | refine unc13 ?_ | refine unc14 ?_ | refine unc15 ?_ | refine unc16 ?_ | skip)
  refine pkBeginA (last := i) (I := J1) (X := [x]) ?_ (by decide : (1 : Nat) ≤ 36) hpp ?_ ?_ ?_ ?_ hb ?_
  · exact ⟨rfl, rfl, rfl, outN⟩
  · rfl
  · rfl
  · exact .inr (by decide)
  · rfl
  conv => whnf
  with_reducible (first | refine unc1 ?_ | refine unc2 ?_ | refine unc3 ?_ | refine unc4 ?_ | refine unc5 ?_ | refine unc6 ?_ | refine unc7 ?_ | refine unc8 ?_ | refine unc9 ?_ | refine unc10 ?_ | refine unc11 ?_ | refine unc12 ?_ | refine unc13 ?_ | refine unc14 ?_ | refine unc15 ?_ | refine unc16 ?_ | skip)
  refine pkTick (last := ((i + 1 : Nat) : Int)) (X := [x1]) (oc := .sl 3 43 0 1) ?_ (by decide : (1 : Nat) ≤ 36) ?_
  · exact ⟨rfl, rfl, rfl, outS _ _ _⟩
  conv => whnf
  with_reducible (first | refine unc1 ?_ | refine unc2 ?_ | refine unc3 ?_ | refine unc4 ?_ | refine unc5 ?_ | refine unc6 ?_ | refine unc7 ?_ | refine unc8 ?_ | refine unc9 ?_ | refine unc10 ?_ | refine unc11 ?_ | refine unc12 ?_ | refine unc13 ?_ | refine unc14 ?_ | refine unc15 ?_ | refine unc16 ?_ | skip)
  refine pkOutA (last := ((i + 1 : Nat) : Int)) (X := [x1.tick]) (oc := .sl 3 43 0 1) ?_ (by decide : (1 : Nat) ≤ 36) ?_
  · exact ⟨rfl, rfl, rfl, outS _ _ _⟩
  conv => whnf
  refine allCall (All_tr J1 2) rfl rfl rfl ?_
  have hAl : (allL J1.o 2).length = 128 := allL_length _ _
  have hA01 : ∀ j, getN J1 x.older j = 0 ∨ getN J1 x.older j = 1 := fun j => by
    unfold getN getV
    rw [hx.olderAr]
    split
    · exact hJ1 _
    · exact .inl rfl
  conv => whnf
  refine loopI (α := {k : Nat // (k : Int) ≤ pn}) (fun ⟨k, _⟩ => [(1, .int .i64 pn), (2, .roI .u16 V), (3, .bool true), (9, .ptr 0 0), (10, .int .i64 2), (11, .ptr 2 0), (13, .ptr 42 0), (14, .int .i64 i), (15, .sl 3 43 0 1), (16, .ptr 44 0), (17, .sl 1 45 0 128), (18, .int .i64 k)]) (fun ⟨k, _⟩ => ⟨47, [(0, some (.obj (poL (pC pn pl)))), (2, some (msP 2 1 ((i + 1 : Nat) : Int) .nils)), (3, some (mrP 2 1)), (42, some (imC J1)), (43, some (.obj [.int .u16 (IntKind.u16.wrap ((i + 1 : Nat) : Int)), .int .u8 4, .roI .u8 (encR 15 500 0 0 ((List.range pn.toNat).map fun k => getN J1 x.older k != 0) [])])), (44, some (.obj [.int .u8 15, .int .u16 500, .int .u16 0, .int .u16 0, .sl 1 46 0 k, .nils])), (45, some (.rowI .u16 (allL J1.o 2))), (46, some (.rowB ((List.range k).map fun k => getN J1 x.older k != 0)))] ++ famP 2 0 [x1.tick]⟩) (fun ⟨k, _⟩ => pn.toNat - k) ⟨0, by show (0 : Int) ≤ pn; omega⟩ ?_ fun ⟨k, hk⟩ => ?_
  · exact subPk (c := 2) (X := [x1.tick]) [(46, none)] rfl rfl rfl (by decide : (1 : Nat) ≤ 36) (fun h _ h2 => rn1 (by omega)) rfl rfl ⟨⟨rfl, rfl⟩, ⟨rfl, rfl⟩, ⟨rfl, rfl⟩, ⟨rfl, rfl⟩, ⟨rfl, rfl⟩, ⟨rfl, rfl⟩, ⟨rfl, rfl⟩, ⟨rfl, rfl⟩, ⟨rfl, rfl⟩, ⟨rfl, rfl⟩, ⟨rfl, rfl⟩, ⟨rfl, rfl⟩, trivial⟩ ⟨⟨rfl, rfl, rfl⟩, ⟨rfl, rfl, rfl⟩, ⟨mrP_hokI (fun h _ h2 => rn1 (by omega)) rfl, rfl, by show _ = some ((mrP 2 1).ren _); rw [mrP_renI (fun h _ h2 => rn1 (by omega))]; rfl⟩, ⟨trivial, rfl, rfl⟩, ⟨rfl, rfl, rfl⟩, ⟨rfl, rfl, rfl⟩, ⟨trivial, rfl, rfl⟩, ⟨trivial, rfl, rfl⟩, trivial⟩ (one_fam20 rfl)
  have hk : (k : Int) ≤ pn := hk
  conv => whnf
  by_cases hkn : (k : Int) < pn
  · refine condY (by simpa using hkn) ?_
    conv => whnf
    rw [show IntKind.i64.wrap ((pC pn pl).p + (k : Int)) = pl + k from w64i (n := pl + k) (by omega) (by omega)]
    refine condT (by simp; omega) ?_
    conv => whnf
    refine condT (by show decide _ = true; refine decide_eq_true ?_; rw [hAl]; omega) ?_
    conv => whnf
    refine condT (by simp; omega) ?_
    conv => whnf
    refine ⟨⟨k + 1, by show ((k + 1 : Nat) : Int) ≤ pn; omega⟩, subPk (c := 2) (X := [x1.tick]) [(46, some 48)] rfl rfl rfl (by decide : (1 : Nat) ≤ 36) (fun h _ h2 => rn1 (by omega)) rfl rfl ⟨⟨rfl, rfl⟩, ⟨rfl, rfl⟩, ⟨rfl, rfl⟩, ⟨rfl, rfl⟩, ⟨rfl, rfl⟩, ⟨rfl, rfl⟩, ⟨rfl, rfl⟩, ⟨rfl, rfl⟩, ⟨rfl, rfl⟩, ⟨rfl, rfl⟩, ⟨rfl, rfl⟩, ⟨?_, rfl⟩, trivial⟩ ⟨⟨rfl, rfl, rfl⟩, ⟨rfl, rfl, rfl⟩, ⟨mrP_hokI (fun h _ h2 => rn1 (by omega)) rfl, rfl, by show _ = some ((mrP 2 1).ren _); rw [mrP_renI (fun h _ h2 => rn1 (by omega))]; rfl⟩, ⟨trivial, rfl, rfl⟩, ⟨rfl, rfl, rfl⟩, ⟨rfl, rfl, rfl⟩, ⟨trivial, rfl, rfl⟩, ⟨trivial, rfl, ?_⟩, trivial⟩ (one_fam20 rfl), by show pn.toNat - (k + 1) < pn.toNat - k; omega⟩
    · show AV.int .i64 (IntKind.i64.wrap ((k : Int) + 1)) = AV.int .i64 ((k + 1 : Nat) : Int)
      rw [s64 (by omega)]
    · have hv : ((allL J1.o 2).getD (0 + (pl + (k : Int)).toNat * 1) 0 == 1) = (getN J1 x.older k != 0) := by
        rw [← bits01 (hA01 k), hget k hkn]; simp
      show some (Chunk.rowB (((((List.range k).map fun k => getN J1 x.older k != 0)).drop 0).take k ++ ([(allL J1.o 2).getD (0 + (pl + (k : Int)).toNat * 1) 0 == 1].drop 0).take 1)) = some (Chunk.rowB ((List.range (k + 1)).map fun k => getN J1 x.older k != 0))
      rw [hv, List.range_succ, List.map_append, List.drop_zero]
      conv => lhs; rw [List.take_of_length_le (by simp)]
      rfl
  · obtain rfl : k = pn.toNat := by omega
    refine condN (by simpa using hkn) ?_
    conv => whnf
    refine Ret1.lookF (Ret1.of rfl ((rRequest_raw 15 500 0 0 ((List.range pn.toNat).map fun k => getN J1 x.older k != 0) [] (by decide) (by decide) (by simp <;> omega) (by simp <;> omega)).mono fun v s h => by unfold RawK at h; exact h)) rfl ⟨See.aggL ⟨.same _ rfl, .same _ rfl, .same _ rfl, .same _ rfl, see_allB rfl hL1.symm, .le _ _ _ (.same _ rfl) (Le.nilI _), trivial⟩, trivial⟩ ?_
    conv => whnf
    refine Ev.call (bytesT _) ?_
    conv => whnf
    refine condN (by rw [s64 (by omega)]; simp) ?_
    conv => whnf
    refine ⟨⟨⟨i + 1, J1, x1.tick⟩, by show i + 1 ≤ V.length; omega, hx1, hJ1⟩, subPk (c := 2) (X := [x1.tick]) [] rfl rfl rfl (by decide : (1 : Nat) ≤ 36) (fun _ _ _ => rfl) rfl rfl ⟨⟨rfl, rfl⟩, ⟨rfl, rfl⟩, ⟨rfl, rfl⟩, ⟨rfl, rfl⟩, ⟨rfl, rfl⟩, ⟨rfl, rfl⟩, ⟨rfl, rfl⟩, ⟨?_, rfl⟩, trivial⟩ ⟨⟨rfl, rfl, rfl⟩, ⟨msP_hok rfl, rfl, rfl⟩, ⟨mrP_hok rfl, rfl, rfl⟩, ⟨trivial, rfl, rfl⟩, trivial⟩ (one_fam20 rfl), by show V.length - (i + 1) < V.length - i; omega⟩
    show AV.int .i64 (IntKind.i64.wrap ((i : Int) + 1)) = AV.int .i64 ((i + 1 : Nat) : Int)
    rw [s64 (by omega)]
theorem law20 (p0 n0 : Int) (V : List Int) (c : Bool) (hV : ∀ x ∈ V, 0 ≤ x ∧ x < 65536) : Ev Try.prog 20 [.int .i64 p0, .int .i64 n0, .roI .u16 V, .bool c] (.bool true) := by
  cases c
  · exact law20W p0 n0 V hV
  · exact law20C p0 n0 V hV
end Go.Proofs.Ytomodeliimnddaa
set_option linter.unusedVariables false
set_option linter.unusedSimpArgs false
namespace Go.Ab
open Go.ChangeShapes Go.WideShapes Go.RowKit Go.Deep
def noM : Nat → Prop := fun _ => False
section
variable {P : Program} {H : Type} {enc : TypeId × Value → H} {W : World} {r : Reach} {b : Nat} {held : Bool}
theorem wf_has {k : IntKind} {n : Int} (h : (Lit.int k n).wf = true) : k.min ≤ n ∧ n ≤ k.max := by
  simpa [Lit.wf] using h
theorem cell_addr {t e : TypeId} {a : Addr} {len cap : Nat} (ht : P.underlying t = some (.slice e)) (h : Cell.okWide P W r b t (.slice (some a) len cap)) : a.spot = none ∧ a.block < W.heap.size := by
  simp only [Cell.okWide, ht, Cell.ok] at h
  obtain ⟨_, _, _, h2, row, cells, h3, _⟩ := h
  exact ⟨h2, lt_of_shape h3⟩
theorem gInts {t e : TypeId} {k : IntKind} {fuel : Nat} {v : Value} {x : DataW H × List MemPlace} (hok : Cell.okWide P W r b t v) (ht : P.underlying t = some (.slice e)) (he : P.underlying e = some (.int k)) (hc : P.cellsOf e = 1)
    (h : DataW.trod enc P W 0 (fun _ => true) held fuel t [v] = some x) : ∃ l : List Int, GRel W noM (.roI k l) v ∧ ∀ n ∈ l, k.min ≤ n ∧ n ≤ k.max := by
  rcases open_ints ht he hc h with ⟨hcs, _⟩ | ⟨a, len, cap, zs, hcs, _, hl, hm, hz, _, hcell, hwf⟩
  · obtain rfl : v = .slice none 0 0 := by simpa using hcs
    exact ⟨[], .sliceNil _ 1 (fun j => .int k (([] : List Int).getD j 0)) rfl, by simp⟩
  · obtain rfl : v = .slice (some a) len cap := by simpa using hcs
    obtain ⟨h1, h2⟩ := cell_addr ht hok
    have hz : zs.length = cap := by simpa using hz
    have hlen : (zs.take len).length = len := by rw [List.length_take]; omega
    refine ⟨zs.take len, ?_, fun n hn => wf_has (hwf n (List.mem_of_mem_take hn))⟩
    have := GRel.slice (w := W) (M := noM) (.roI k (zs.take len)) 1 (zs.take len).length (fun j => .int k ((zs.take len).getD j 0)) a cap (fun j => .int k (zs.getD j 0)) rfl (fun _ => ⟨h1, fun h => h, h2⟩) (by omega) (fun _ _ => rfl) (fun j hj => by
      rw [← add_eq a j h1]; exact hcell j (by omega)) (fun j hj => by
      have : (zs.take len).getD j 0 = zs.getD j 0 := by
        have hj' : j < len := by omega
        simp [List.getD_eq_getElem?_getD, List.getElem?_take, hj']
      show GRel W noM (.int k ((zs.take len).getD j 0)) _
      rw [this]; exact .int k _)
    rw [hlen] at this
    exact this
theorem gBools {t e : TypeId} {fuel : Nat} {v : Value} {x : DataW H × List MemPlace} (hok : Cell.okWide P W r b t v) (ht : P.underlying t = some (.slice e)) (he : P.underlying e = some .bool) (hc : P.cellsOf e = 1)
    (h : DataW.trod enc P W 0 (fun _ => true) held fuel t [v] = some x) : ∃ l : List Bool, GRel W noM (.roB l) v := by
  rcases open_bools ht he hc h with ⟨hcs, _⟩ | ⟨a, len, cap, B, hcs, _, hl, hm, _, hcell⟩
  · obtain rfl : v = .slice none 0 0 := by simpa using hcs
    exact ⟨[], .sliceNil _ 1 (fun j => .bool (([] : List Bool).getD j false)) rfl⟩
  · obtain rfl : v = .slice (some a) len cap := by simpa using hcs
    obtain ⟨h1, h2⟩ := cell_addr ht hok
    have hlen : ((List.range len).map B).length = len := by simp
    refine ⟨(List.range len).map B, ?_⟩
    have := GRel.slice (w := W) (M := noM) (.roB ((List.range len).map B)) 1 ((List.range len).map B).length (fun j => .bool (((List.range len).map B).getD j false)) a cap (fun j => .bool (B j)) rfl (fun _ => ⟨h1, fun h => h, h2⟩) (by omega) (fun _ _ => rfl) (fun j hj => by
      rw [← add_eq a j h1]; exact hcell j (by omega)) (fun j hj => by
      have : ((List.range len).map B).getD j false = B j := by
        have hj' : j < len := by omega
        simp [List.getD_eq_getElem?_getD, hj']
      show GRel W noM (.bool (((List.range len).map B).getD j false)) _
      rw [this]; exact .bool _)
    rw [hlen] at this
    exact this
theorem gInt {t : TypeId} {k : IntKind} {fuel : Nat} {v : Value} {x : DataW H × List MemPlace} (ht : P.underlying t = some (.int k)) (h : DataW.trod enc P W 0 (fun _ => true) held fuel t [v] = some x) :
    ∃ n, v = .int k n ∧ k.min ≤ n ∧ n ≤ k.max := by
  obtain ⟨n, h1, _, h2⟩ := DataW.trod_int ht h
  exact ⟨n, by simpa using h1, wf_has h2⟩
/-- a field of one cell -/
theorem gField {t : TypeId} {fs : Array Field} {fuel : Nat} {cs : List Value} {x : DataW H × List MemPlace} (ht : P.underlying t = some (.struct fs)) (h : DataW.trod enc P W 0 (fun _ => true) held fuel t cs = some x)
    (j : Nat) (f : Field) (hj : fs[j]? = some f) (ho : f.offset = j) (hc : P.cellsOf f.type = 1) (hl : j < cs.length) : ∃ n y, DataW.trod enc P W 0 (fun _ => true) held n f.type [cs.getD j default] = some y := by
  obtain ⟨xs, n, _, _, _, hxl, hf⟩ := DataW.trod_struct ht h
  have h1 := hf j f hj
  rw [ho, hc] at h1
  have hone : (cs.drop j).take 1 = [cs.getD j default] := by
    have h2 : cs.getD j default = cs[j] := by simp [List.getD_eq_getElem?_getD, List.getElem?_eq_getElem hl]
    rw [h2, List.drop_eq_getElem_cons hl]
    rfl
  rw [hone] at h1
  have hjl : j < fs.size := (Array.getElem?_eq_some_iff.1 hj).1
  exact ⟨n, _, h1.trans (List.getElem?_eq_getElem (show j < xs.length by omega))⟩
/-- a struct of four numbers, a row of truth values, a row of numbers -/
theorem gSix {t : TypeId} {f0 f1 f2 f3 f4 f5 : Field} {k0 k1 k2 k3 k5 : IntKind} {e4 e5 : TypeId} {v : Value} {d : DataW H} {p : List MemPlace} (hs : P.underlying t = some (.struct #[f0, f1, f2, f3, f4, f5]))
    (ho : f0.offset = 0 ∧ f1.offset = 1 ∧ f2.offset = 2 ∧ f3.offset = 3 ∧ f4.offset = 4 ∧ f5.offset = 5)
    (h0 : P.underlying f0.type = some (.int k0)) (h1 : P.underlying f1.type = some (.int k1)) (h2 : P.underlying f2.type = some (.int k2)) (h3 : P.underlying f3.type = some (.int k3))
    (h4 : P.underlying f4.type = some (.slice e4)) (h5 : P.underlying f5.type = some (.slice e5)) (g4 : P.underlying e4 = some .bool) (g5 : P.underlying e5 = some (.int k5))
    (hc : P.cellsOf f0.type = 1 ∧ P.cellsOf f1.type = 1 ∧ P.cellsOf f2.type = 1 ∧ P.cellsOf f3.type = 1 ∧ P.cellsOf f4.type = 1 ∧ P.cellsOf f5.type = 1) (c4 : P.cellsOf e4 = 1) (c5 : P.cellsOf e5 = 1) (hC : P.cellsOf t = 6)
    (hct : P.cellTypes P.depth t = some [f0.type, f1.type, f2.type, f3.type, f4.type, f5.type]) (hval : Value.okWide P W r b t v) (h : DataW.Trod enc P W 0 (fun _ => true) held t v d p) :
    ∃ (n0 n1 n2 n3 : Int) (B : List Bool) (R : List Int), GRel W noM (.agg [.int k0 n0, .int k1 n1, .int k2 n2, .int k3 n3, .roB B, .roI k5 R]) v ∧ (k0.min ≤ n0 ∧ n0 ≤ k0.max) ∧ (k1.min ≤ n1 ∧ n1 ≤ k1.max) ∧ (k2.min ≤ n2 ∧ n2 ≤ k2.max) ∧ (k3.min ≤ n3 ∧ n3 ≤ k3.max) ∧ ∀ n ∈ R, k5.min ≤ n ∧ n ≤ k5.max := by
  obtain ⟨cs, rfl, hsz⟩ := okWide_struct hs hval
  rw [hC] at hsz
  have hrow : Row.okWide P W r b t cs := by
    simp only [Value.okWide, hs] at hval
    obtain ⟨cs', h1, _, h3⟩ := hval
    cases h1
    exact h3
  obtain ⟨ts, hts, _, hcell⟩ := hrow
  rw [hct] at hts
  cases hts
  obtain ⟨fuel, hf⟩ := h
  have hf : DataW.trod enc P W 0 (fun _ => true) held fuel t cs.toList = some (d, p) := hf
  have hl : cs.toList.length = 6 := by simpa using hsz
  have hg : ∀ j, cs.toList.getD j default = cs.getD j default := fun j => by simp [List.getD_eq_getElem?_getD, Array.getD_eq_getD_getElem?]
  have hsome : ∀ j, j < 6 → cs[j]? = some (cs.getD j default) := fun j hj => by
    have : j < cs.size := by omega
    simp [Array.getD, this]
  obtain ⟨m0, y0, q0⟩ := gField hs hf 0 f0 rfl ho.1 hc.1 (by omega)
  obtain ⟨m1, y1, q1⟩ := gField hs hf 1 f1 rfl ho.2.1 hc.2.1 (by omega)
  obtain ⟨m2, y2, q2⟩ := gField hs hf 2 f2 rfl ho.2.2.1 hc.2.2.1 (by omega)
  obtain ⟨m3, y3, q3⟩ := gField hs hf 3 f3 rfl ho.2.2.2.1 hc.2.2.2.1 (by omega)
  obtain ⟨m4, y4, q4⟩ := gField hs hf 4 f4 rfl ho.2.2.2.2.1 hc.2.2.2.2.1 (by omega)
  obtain ⟨m5, y5, q5⟩ := gField hs hf 5 f5 rfl ho.2.2.2.2.2 hc.2.2.2.2.2 (by omega)
  rw [hg] at q0 q1 q2 q3 q4 q5
  obtain ⟨n0, r0, s0⟩ := gInt h0 q0
  obtain ⟨n1, r1, s1⟩ := gInt h1 q1
  obtain ⟨n2, r2, s2⟩ := gInt h2 q2
  obtain ⟨n3, r3, s3⟩ := gInt h3 q3
  obtain ⟨u4, i4, o4⟩ := hcell 4 _ (hsome 4 (by omega))
  obtain ⟨u5, i5, o5⟩ := hcell 5 _ (hsome 5 (by omega))
  cases i4
  cases i5
  obtain ⟨B, r4⟩ := gBools o4 h4 g4 c4 q4
  obtain ⟨R, r5, s5⟩ := gInts o5 h5 g5 c5 q5
  refine ⟨n0, n1, n2, n3, B, R, .agg _ cs hsz fun j hj => ?_, s0, s1, s2, s3, s5⟩
  match j, hj with
  | 0, _ => rw [r0]; exact .int _ _
  | 1, _ => rw [r1]; exact .int _ _
  | 2, _ => rw [r2]; exact .int _ _
  | 3, _ => rw [r3]; exact .int _ _
  | 4, _ => exact r4
  | 5, _ => exact r5
  | j + 6, hj => simp at hj; omega
/-- what a statement's walk needs, from a contract -/
theorem Ev.calls {f : Nat} {args : List AV} {Vs : Array Value} (h : Ev P f args (.bool true)) (hs : Vs.size = args.length) (hV : ∀ j, j < args.length → GRel W noM (args.getD j .undef) (Vs.getD j default)) :
    Calls P f Vs W fun e W' => e = .returned (.bool true) ∧ Below W.heap.size W W' := by
  obtain ⟨_, ht⟩ := h
  unfold Tr at ht
  have hR : Rep (fun _ => none) ⟨0, []⟩ W noM := ⟨fun _ _ => rfl, fun h c hg => (by cases hg), fun h h' c c' p p' hg => (by cases hg), fun b hb => False.elim hb⟩
  refine Calls.mono (ht.2 (fun _ => none) W noM Vs hR ⟨hs, fun j hj => .g _ _ (hV j hj)⟩) fun e W' he => ?_
  obtain ⟨V, ι', M', v, s', rfl, ⟨rfl, rfl⟩, h1, h2, h3⟩ := he
  obtain rfl := h1.bool_inv
  exact ⟨rfl, h3.os, h3.tape, h3.output, h3.size, fun k hk => h3.block k hk fun ⟨h, c, base, hg, _⟩ => by cases hg⟩
end
end Go.Ab
