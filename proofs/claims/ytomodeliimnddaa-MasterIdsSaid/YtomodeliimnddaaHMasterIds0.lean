/- Many polls; rows of frames; rows of polls. Statement of layer 26: transaction ids. From a statement's arguments to the engine's values; a statement's row from a contract. -/
import Derived.Test.YtomodeliimnddaaRows
import Derived.WalkKit
import Derived.ProofKit
import Derived.OpenShut
import Derived.ShutString
import Derived.ChangeOld
import Derived.Below
import Derived.Deep.Grids
import Derived.Test.YtomodeliimnddaaHMstB
import Derived.Test.YtomodeliimnddaaHEngD
set_option linter.unusedVariables false
set_option linter.unusedSimpArgs false
namespace Go.Proofs.Ytomodeliimnddaa
open Go.Ab
instance : Inhabited Fr := ⟨⟨0, 0, []⟩⟩
/-- a row of frames -/
def frC (fs : List Fr) : Chunk := .obj (frsA fs)
theorem frC_eq (fs : List Fr) : Chunk.obj (frsA fs) = frC fs := rfl
theorem frC_hok (fs : List Fr) (N : Nat) (ρ : Nat → Option Nat) : (frC fs).hok N ρ := frsA_hok fs
theorem frC_ren (fs : List Fr) (ρ : Nat → Option Nat) : (frC fs).ren ρ = frC fs := by
  show Chunk.obj (renL ρ (frsA fs)) = _
  rw [frsA_ren]; rfl
theorem frC_size (fs : List Fr) : (frC fs).size = 3 * fs.length := frsA_len fs
theorem frsA_flats : ∀ fs : List Fr, frsA fs = flatsL frA fs
  | [] => rfl
  | x :: r => by rw [flatsL, ← frsA_flats r]; rfl
theorem frC_at {fs : List Fr} {k j off : Nat} (hk : k < fs.length) (hj : j < 3) (ho : off = k * 3 + j) : (frC fs).ld false off 1 = (true, (frA fs[k]).getD j .undef) := by
  show (Nat.ble (off + 1) (frsA fs).length, (frsA fs).getD off .undef) = _
  rw [ho, Nat.ble_eq_true_of_le (by rw [frsA_len]; omega), frsA_flats, flatsL_get (F := frA) (es := 3) (fun _ => rfl) fs k j hk hj]
theorem frC_id {fs : List Fr} {k off : Nat} (hk : k < fs.length) (ho : off = k * 3) : (frC fs).ld false off 1 = (true, .int .u16 fs[k].id) := frC_at (j := 0) hk (by decide) ho
theorem frC_u {fs : List Fr} {k off : Nat} (hk : k < fs.length) (ho : off = k * 3 + 1) : (frC fs).ld false off 1 = (true, .int .u8 fs[k].u) := frC_at (j := 1) hk (by decide) ho
theorem frC_l {fs : List Fr} {k off : Nat} (hk : k < fs.length) (ho : off = k * 3 + 2) : (frC fs).ld false off 1 = (true, .roI .u8 fs[k].l) := frC_at (j := 2) hk (by decide) ho
attribute [irreducible] frC
theorem famAt1 {c : Nat} {a : Nat × Option Chunk} {L : Mem} {X : List Pl} (hB : outK c (a :: L) = true) (hX : X.length ≤ 36) : ∀ j (h : j < X.length), Mem.get (a :: (L ++ famP c 0 X)) (c + (j + 3)) = some (plC X[j]) := famAt (B := a :: L) hB hX
theorem famAt2 {c : Nat} {a b : Nat × Option Chunk} {L : Mem} {X : List Pl} (hB : outK c (a :: b :: L) = true) (hX : X.length ≤ 36) : ∀ j (h : j < X.length), Mem.get (a :: b :: (L ++ famP c 0 X)) (c + (j + 3)) = some (plC X[j]) := famAt (B := a :: b :: L) hB hX
theorem wrap16_succ (x : Int) : IntKind.u16.wrap (IntKind.u16.wrap x + 1) = IntKind.u16.wrap (x + 1) := by
  show (x % 65536 + 1) % 65536 = (x + 1) % 65536
  omega
/-- where all are due -/
theorem bg_all {Y : List Pl} {I : Img} {L : Int} (hd : ∀ y ∈ Y, y.due = true) (hL : 0 ≤ L) (hn : L + Y.length < 4294967296) : ∀ k, k ≤ Y.length →
    bgL Y I L k = L + k ∧ (bgF Y I L k).length = k ∧ (∀ j (h : j < k) (h1 : j < (bgF Y I L k).length) (h2 : j < Y.length), (bgF Y I L k)[j] = Y[j].sends I (L + (j + 1 : Nat))) ∧ (∀ j (h1 : j < (bgX Y I L k).length) (h2 : j < Y.length), (bgX Y I L k)[j] = if j < k then Y[j].asks I (L + (j + 1 : Nat)) else Y[j])
  | 0, _ => ⟨by show L = L + ((0 : Nat) : Int); omega, rfl, fun j h => absurd h (by omega), fun j h1 h2 => by rw [if_neg (by omega)]; rfl⟩
  | k + 1, hk => by
    obtain ⟨i1, i2, i3, i4⟩ := bg_all hd hL hn k (by omega)
    have hx : Y[k]? = some Y[k] := List.getElem?_eq_getElem (by omega)
    obtain ⟨b1, b2, b3⟩ := bg_some (I := I) (last := L) hx (hd _ (List.getElem_mem _))
    have hw : IntKind.u32.wrap (bgL Y I L k + 1) = L + (k + 1 : Nat) := by
      rw [i1]
      show (L + (k : Int) + 1) % 4294967296 = _
      rw [Int.emod_eq_of_lt (by omega) (by omega)]; omega
    rw [hw] at b1 b2 b3
    refine ⟨b2, by rw [b3, List.length_append, i2]; rfl, fun j h h1 h2 => ?_, fun j h1 h2 => ?_⟩
    · rw [List.getElem_of_eq b3]
      by_cases e : j < k
      · rw [List.getElem_append_left (by rw [i2]; exact e)]
        exact i3 j e _ h2
      · obtain rfl : j = k := by omega
        rw [List.getElem_append_right (by rw [i2]; omega)]
        simp only [i2, Nat.sub_self, List.getElem_cons_zero]
    · rw [List.getElem_of_eq b1, List.getElem_set]
      by_cases e : k = j
      · subst e
        rw [if_pos rfl, if_pos (by omega)]
      · rw [if_neg e, i4 j (by rw [bgX_len]; exact h2) h2]
        by_cases e2 : j < k
        · rw [if_pos e2, if_pos (by omega)]
        · rw [if_neg e2, if_neg (by omega)]
/-- a row of polls that is being built -/
def poRow (f : Nat → Po) (i : Nat) : List AV := flatsL poL ((List.range i).map f)
theorem poRow_len (f : Nat → Po) (i : Nat) : (poRow f i).length = i * 8 := by
  unfold poRow; rw [flatsL_len poL_len]; simp
theorem poRow_one (f : Nat → Po) (i : Nat) : (poRow f i).all AV.one = true := by
  unfold poRow
  generalize (List.range i).map f = S
  induction S with
  | nil => rfl
  | cons x r ih => rw [flatsL, List.all_append, ih]; rfl
theorem poRow_zero (f : Nat → Po) : poRow f 0 = [] := rfl
theorem poRow_succ (f : Nat → Po) (i : Nat) : poRow f (i + 1) = poRow f i ++ poL (f i) := by
  unfold poRow
  rw [List.range_succ, List.map_append, flatsL_app]
  show _ ++ (poL (f i) ++ []) = _
  rw [List.append_nil]
theorem poRow_hok (f : Nat → Po) (i N : Nat) (ρ : Nat → Option Nat) : hokL N ρ (poRow f i) = true := by
  unfold poRow
  generalize (List.range i).map f = S
  induction S with
  | nil => rfl
  | cons x r ih => exact hokL_app _ _ rfl ih
theorem poRow_ren (f : Nat → Po) (i : Nat) (ρ : Nat → Option Nat) : renL ρ (poRow f i) = poRow f i := by
  unfold poRow
  generalize (List.range i).map f = S
  induction S with
  | nil => rfl
  | cons x r ih => rw [flatsL, renL_app, ih]; rfl
theorem poRow_see {f : Nat → Po} {i h : Nat} {g : Nat → Option Chunk} (hg : g h = some (.obj (poRow f i))) : See g (.sl 8 h 0 i) (.ro 8 (((List.range i).map f).map poA)) := by
  have := see_polls0 (S := (List.range i).map f) hg
  rwa [List.length_map, List.length_range] at this
theorem poRow_seeN {f : Nat → Po} {i h : Nat} {g : Nat → Option Chunk} {c : Chunk} (e : c = .obj (poRow f i)) (hg : g h = some c) : See g (.sl 8 h 0 i) (.ro 8 (((List.range i).map f).map poA)) := poRow_see (e ▸ hg)
def poC (f : Nat → Po) (i : Nat) : Chunk := .obj (poRow f i)
attribute [irreducible] poRow
theorem map_range_len {α : Type} (f : Nat → α) (n : Nat) : ((List.range n).map f).length = n := by simp
theorem map_range_mem {α : Type} {f : Nat → α} {n : Nat} {x : α} (h : x ∈ (List.range n).map f) : ∃ i, i < n ∧ x = f i := by
  obtain ⟨i, hi, rfl⟩ := List.mem_map.mp h
  exact ⟨i, List.mem_range.mp hi, rfl⟩
theorem allR_range {f : Nat → Po} {n : Nat} (h : ∀ i, i < n → rightB (f i) = true) : allR ((List.range n).map f) = true := by
  unfold allR
  rw [List.all_eq_true]
  intro x hx
  obtain ⟨i, hi, rfl⟩ := map_range_mem hx
  exact h i hi
theorem app_po {get : Nat → Option Chunk} {nx : Nat} {ρ : AOpd → AV} {x y : AOpd} {h h2 i : Nat} {f : Nat → Po} (hx : ρ x = .sl 8 h 0 i) (hy : ρ y = .sl 8 h2 0 1) (hg : get h = some (.obj (poRow f i))) (hg2 : get h2 = some (.obj (poL (f i)))) (hl : i ≤ 1000) :
    opD get nx ρ (.app 8 48 x y) = .ok true (.sl 8 nx 0 (i + 1)) (.app h (.obj (poRow f (i + 1)))) := by
  have e1 : ((poRow f i).drop 0).take (i * 8) = poRow f i := by
    rw [List.drop_zero, List.take_of_length_le (by rw [poRow_len]; omega)]
  have e2 : ((poL (f i)).drop 0).take (1 * 8) = poL (f i) := rfl
  have e3 : (poL (f i)).all AV.one = true := rfl
  have e5 : (poL (f i)).length = 8 := rfl
  simp only [opD, hx, hy, appA, rowFrom, hg, hg2, lenA, Chunk.cat, e1, e2, e3, poRow_one, poRow_len, e5, ← poRow_succ]
  congr 1
  simp
  omega
section
variable {X X' : List Pl} {last : Int} {oc : AV} {c N n : Nat} {B : Mem} {K : AV → St → Prop}
theorem pkBeginN {d : Nat} {I : Img} {last' : Int} {fs : List Fr} (hn : X.length = n) (H : MsAt B c n last .nils) (hX : n ≤ 36) (hp : ∀ x ∈ X, 1 ≤ x.p.n ∧ x.p.n ≤ 64) (hN : below B N = true) (hcN : Nat.ble (c + 39) N = true) (hd : d < c ∨ c + 39 ≤ d) (hd2 : Mem.get B d = some (imC I))
    (e : bgN (X.map Pl.older) I last n = (X', last', fs))
    (kk : K (.tup []) ⟨N + 1, ((N, some (frC fs)) :: (c, some (msP c n last' (.sl 3 N 0 fs.length))) :: B) ++ famP c 0 X'⟩) : Tr Try.prog 75 [.ptr c 0, .ptr d 0] ⟨N, B ++ famP c 0 X⟩ K := by
  subst hn
  rw [← frC_eq] at kk
  exact pkBeginA H hX hp hN hcN hd hd2 e kk
theorem pkOutN (hn : X.length = n) (H : MsAt B c n last oc) (hX : n ≤ 36) (kk : K oc ⟨N, ((c, some (msP c n last .nils)) :: B) ++ famP c 0 X⟩) : Tr Try.prog 76 [.ptr c 0] ⟨N, B ++ famP c 0 X⟩ K := by
  subst hn; exact pkOutA H hX kk
theorem pkTickN (hn : X.length = n) (H : MsAt B c n last oc) (hX : n ≤ 36) (kk : K (.tup []) ⟨N, B ++ famP c 0 (X.map Pl.tick)⟩) : Tr Try.prog 83 [.ptr c 0] ⟨N, B ++ famP c 0 X⟩ K := by
  subst hn; exact pkTick H hX kk
theorem pkTakeRN {id u : Int} {l : List Int} {b : Bool} (hn : X.length = n) (H : MsAt B c n last oc) (hX : n ≤ 36) (hq : OkX X) (hl : l.length ≤ 1000) (eT : takeP id u l X = (b, X'))
    (kk : K (.bool b) ⟨N, B ++ famP c 0 X'⟩) : Tr Try.prog 77 [.ptr c 0, .agg [.int .u16 id, .int .u8 u, .roI .u8 l]] ⟨N, B ++ famP c 0 X⟩ K := by
  subst hn; exact pkTakeR H hX hq hl eT kk
theorem pkTakeN {id u : Int} {l : List Int} {b : Bool} {h m : Nat} (hn : X.length = n) (H : MsAt B c n last oc) (hX : n ≤ 36) (hq : OkX X) (hl : l.length ≤ 1000) (hr : Mem.get B h = some (.rowI .u8 l)) (hm : m = l.length) (eT : takeP id u l X = (b, X'))
    (kk : K (.bool b) ⟨N, ((h, none) :: B) ++ famP c 0 X'⟩) : Tr Try.prog 77 [.ptr c 0, .agg [.int .u16 id, .int .u8 u, .sl 1 h 0 m]] ⟨N, B ++ famP c 0 X⟩ K := by
  subst hn; exact pkTake H hX hq hl hr hm eT kk
theorem pkLatchN {d : Nat} {J : Img} (hn : X.length = n) (H : MsAt B c n last oc) (hX : n ≤ 36) (hl : ∀ x ∈ X, x.l.length ≤ 1000 ∧ ∀ v ∈ x.l, 0 ≤ v) (hd : d < c ∨ c + 39 ≤ d) (hd2 : Mem.get B d = some (imC J))
    (kk : K (.tup []) ⟨N, ((d, some (imC (latchN J X n))) :: B) ++ famP c 0 X⟩) : Tr Try.prog 78 [.ptr c 0, .ptr d 0] ⟨N, B ++ famP c 0 X⟩ K := by
  subst hn; exact pkLatchA H hX hl hd hd2 kk
end
end Go.Proofs.Ytomodeliimnddaa
set_option linter.unusedVariables false
set_option linter.unusedSimpArgs false
namespace Go.Proofs.Ytomodeliimnddaa
open Go.Ab
/- rung/runglaw26.MasterIds -/
def a18 : ACode := (.seq (.reg [⟨(some 4), .mov (.c (.bool false)), none, false⟩])
 (.seq (.seq (.reg [⟨(some 14), .call 72 [], none, false⟩, ⟨(some 15), .un .not (.t 14), none, false⟩])
 (.cond (.t 15) (.seq (.reg [⟨(some 4), .mov (.c (.bool false)), none, false⟩])
 .ret)
 .skip))
 (.seq (.reg [⟨(some 16), .mov (.t 0), none, false⟩, ⟨(some 17), .call 68 [(.t 16), (.c (.int .i64 70000))], none, false⟩, ⟨(some 18), .mov (.t 1), none, false⟩, ⟨(some 19), .call 68 [(.t 18), (.c (.int .i64 32))], none, false⟩, ⟨(some 20), .bin .add .other (.c (.int .i64 1)) (.t 19), none, false⟩, ⟨(some 0), .mov (.t 17), none, false⟩, ⟨(some 1), .mov (.t 20), none, false⟩])
 (.seq (.reg [⟨(some 5), .mov (.c .nils), none, false⟩])
 (.seq (.seq (.reg [⟨(some 6), .mov (.c (.int .i64 0)), none, false⟩])
 (.block 0 (.loop (.seq (.seq (.reg [⟨(some 21), .mov (.t 6), none, false⟩, ⟨(some 22), .mov (.t 1), none, false⟩, ⟨(some 23), .bin .lss .other (.t 21) (.t 22), none, false⟩])
 (.cond (.t 23) .skip
 (.exit 0)))
 (.seq (.block 1 (.reg [⟨(some 26), .mov (.t 5), none, false⟩, ⟨(some 27), .mov (.t 6), none, false⟩, ⟨(some 28), .build [(.int .u8 0), (.int .u8 0), (.int .u16 0), (.int .i64 0), (.int .i64 0), (.int .i64 0), (.int .i64 0), (.int .i64 0)] [(0, 1, (.c (.int .u8 9))), (1, 1, (.c (.int .u8 1))), (3, 1, (.c (.int .i64 1))), (4, 1, (.t 27)), (5, 1, (.c (.int .i64 1))), (6, 1, (.c (.int .i64 1))), (7, 1, (.c (.int .i64 1000000)))], none, false⟩, ⟨(some 29), .bslice 8 .gen [(.int .u8 0), (.int .u8 0), (.int .u16 0), (.int .i64 0), (.int .i64 0), (.int .i64 0), (.int .i64 0), (.int .i64 0)] [(0, 8, (.t 28))] 1, none, false⟩, ⟨(some 30), .app 8 48 (.t 26) (.t 29), none, false⟩, ⟨(some 5), .mov (.t 30), none, false⟩]))
 (.reg [⟨(some 24), .mov (.t 6), none, false⟩, ⟨(some 25), .bin .add .other (.t 24) (.c (.int .i64 1)), none, false⟩, ⟨(some 6), .mov (.t 25), none, false⟩]))))))
 (.seq (.reg [⟨(some 32), .mov (.t 5), none, false⟩, ⟨(some 33), .call 73 [(.t 32)], none, false⟩, ⟨(some 31), .mov (.t 33), none, false⟩, ⟨(some 34), .ext (.t 31) 0, none, false⟩, ⟨(some 35), .ext (.t 31) 1, none, false⟩, ⟨(some 7), .mov (.t 34), none, false⟩, ⟨(some 8), .mov (.t 35), none, false⟩])
 (.seq (.reg [⟨(some 36), .call 27 [], none, false⟩, ⟨(some 9), .mov (.t 36), none, false⟩])
 (.seq (.seq (.reg [⟨(some 37), .mov (.t 8), none, false⟩, ⟨(some 38), .bin .neq .other (.t 37) (.c (.int .i64 0)), none, false⟩])
 (.cond (.t 38) (.seq (.reg [⟨(some 4), .mov (.c (.bool false)), none, false⟩])
 .ret)
 .skip))
 (.seq (.reg [⟨(some 10), .mov (.c (.int .u16 1)), none, false⟩])
 (.seq (.seq (.reg [⟨(some 11), .mov (.c (.int .i64 0)), none, false⟩])
 (.block 2 (.loop (.seq (.seq (.reg [⟨(some 39), .mov (.t 11), none, false⟩, ⟨(some 40), .mov (.t 0), none, false⟩, ⟨(some 41), .bin .lss .other (.t 39) (.t 40), none, false⟩])
 (.cond (.t 41) .skip
 (.exit 2)))
 (.seq (.block 3 (.seq (.reg [⟨(some 45), .mov (.t 7), none, false⟩, ⟨(some 46), .mov (.t 9), none, false⟩, ⟨(some 47), .call 75 [(.t 45), (.t 46)], none, false⟩])
 (.seq (.reg [⟨(some 48), .mov (.t 7), none, false⟩, ⟨(some 49), .call 76 [(.t 48)], none, false⟩, ⟨(some 12), .mov (.t 49), none, false⟩])
 (.seq (.seq (.reg [⟨(some 50), .mov (.t 12), none, false⟩, ⟨(some 51), .len false (.t 50), none, false⟩, ⟨(some 52), .mov (.t 1), none, false⟩, ⟨(some 53), .bin .neq .other (.t 51) (.t 52), none, false⟩])
 (.cond (.t 53) (.seq (.reg [⟨(some 4), .mov (.c (.bool false)), none, false⟩])
 .ret)
 .skip))
 (.seq (.seq (.reg [⟨(some 13), .mov (.c (.int .i64 0)), none, false⟩])
 (.block 4 (.loop (.seq (.seq (.reg [⟨(some 54), .mov (.t 13), none, false⟩, ⟨(some 55), .mov (.t 1), none, false⟩, ⟨(some 56), .bin .lss .other (.t 54) (.t 55), none, false⟩])
 (.cond (.t 56) .skip
 (.exit 4)))
 (.seq (.block 5 (.seq (.seq (.reg [⟨(some 59), .mov (.t 12), none, false⟩, ⟨(some 60), .mov (.t 13), none, false⟩, ⟨(some 61), .idx 3 none true (.t 59) (.t 60), none, false⟩, ⟨(some 62), .fld 0 1 false (.t 61), none, false⟩, ⟨(some 63), .load false 1 (.t 62), none, false⟩, ⟨(some 64), .mov (.t 10), none, false⟩, ⟨(some 65), .bin .neq .other (.t 63) (.t 64), none, false⟩])
 (.cond (.t 65) (.seq (.reg [⟨(some 4), .mov (.c (.bool false)), none, false⟩])
 .ret)
 .skip))
 (.reg [⟨(some 66), .mov (.t 10), none, false⟩, ⟨(some 67), .bin .add .other (.t 66) (.c (.int .u16 1)), none, false⟩, ⟨(some 10), .mov (.t 67), none, false⟩])))
 (.reg [⟨(some 57), .mov (.t 13), none, false⟩, ⟨(some 58), .bin .add .other (.t 57) (.c (.int .i64 1)), none, false⟩, ⟨(some 13), .mov (.t 58), none, false⟩]))))))
 (.reg [⟨(some 68), .mov (.t 7), none, false⟩, ⟨(some 69), .call 83 [(.t 68)], none, false⟩]))))))
 (.reg [⟨(some 42), .mov (.t 11), none, false⟩, ⟨(some 43), .mov (.t 1), none, false⟩, ⟨(some 44), .bin .add .other (.t 42) (.t 43), none, false⟩, ⟨(some 11), .mov (.t 44), none, false⟩]))))))
 (.seq (.reg [⟨(some 70), .mov (.t 7), none, false⟩, ⟨(some 71), .call 76 [(.t 70)], none, false⟩, ⟨(some 72), .len false (.t 71), none, false⟩, ⟨(some 73), .bin .eql .other (.t 72) (.c (.int .i64 0)), none, false⟩, ⟨(some 4), .mov (.t 73), none, false⟩])
 .ret)))))))))))
def r18 : List ARes := [.t 4]
theorem c18 : compF Try.prog Try.f18 = some (a18, r18) := by kernel_rfl

theorem b18 : hasBody Try.prog 18 = true := by kernel_rfl
theorem g18 : Try.prog.funcs[18]? = some Try.f18 := by kernel_rfl

def pI (i : Nat) : Po := ⟨9, 1, 0, 1, i, 1, 1, 1000000⟩
/-- polls that are due -/
def Due18 (x : Pl) : Prop := x.w = false ∧ (x.si = -1 ∨ x.si = 0) ∧ x.p.e = 1 ∧ x.p.t = 1 ∧ x.p.n = 1
theorem due18_new (i : Nat) : Due18 (newP (pI i)) := ⟨rfl, .inl rfl, rfl, rfl, rfl⟩
theorem due18_old {x : Pl} (h : Due18 x) : x.older.due = true := by
  obtain ⟨h1, h2, h3, _⟩ := h
  unfold Pl.due Pl.older
  show (!(x.w || (decide ((if x.si ≥ 0 then IntKind.i64.wrap (x.si + 1) else x.si) ≥ 0) && decide ((if x.si ≥ 0 then IntKind.i64.wrap (x.si + 1) else x.si) < x.p.e)))) = true
  rcases h2 with h2 | h2
  · rw [h1, h2, h3]; rfl
  · rw [h1, h2, h3]; rfl
theorem due18_tick {x : Pl} (I : Img) (n : Int) (h : Due18 x) : Due18 (x.older.asks I n).tick := by
  obtain ⟨h1, h2, h3, h4, h5⟩ := h
  unfold Pl.tick
  rw [if_pos (show (x.older.asks I n).w = true from rfl), if_pos (by show IntKind.i64.wrap (x.p.t - 1) = 0; rw [h4]; rfl)]
  exact ⟨rfl, .inr rfl, h3, h4, h5⟩
set_option maxRecDepth 20000 in
set_option maxHeartbeats 4000000 in
theorem law18 (n0 p0 : Int) : Ev Try.prog 18 [.int .i64 n0, .int .i64 p0] (.bool true) := by
  refine FrzK.ev rfl (trF g18 b18 c18 ?_)
  conv => whnf
  refine Ev.call known26_ev ?_
  conv => whnf
  refine Ev.call (place_ev n0 70000 (by decide) (by decide)) ?_
  conv => whnf
  refine Ev.call (place_ev p0 32 (by decide) (by decide)) ?_
  have hn := place_range n0 70000 (by decide)
  have hp := place_range p0 32 (by decide)
  generalize placeS n0 70000 = nn at *
  generalize placeS p0 32 = q0 at *
  conv => whnf
  rw [w64i (n := 1 + q0) (by omega) (by omega)]
  obtain ⟨pp, hpp⟩ : ∃ pp, pp = 1 + q0 := ⟨_, rfl⟩
  rw [← hpp]
  refine loopI (α := {i : Nat // (i : Int) ≤ pp}) (fun i => [(0, .int .i64 nn), (1, .int .i64 pp), (5, .sl 8 0 0 i.1), (6, .int .i64 i.1)]) (fun i => ⟨1, [(0, some (.obj (poRow pI i.1)))]⟩) (fun i => pp.toNat - i.1) ⟨0, by show (0 : Int) ≤ pp; omega⟩
    ⟨[(0, none)], rfl, rfl, rfl, ⟨⟨rfl, rfl⟩, ⟨rfl, rfl⟩, ⟨rfl, rfl⟩, ⟨rfl, rfl⟩, trivial⟩, ⟨⟨poRow_hok _ _ _ _, rfl, by show (poRow pI 0).length = 0; rw [poRow_len]⟩, trivial⟩⟩ fun ⟨i, hi⟩ => ?_
  conv => whnf
  by_cases hlt : (i : Int) < pp
  · refine condY (by simpa using hlt) ?_
    conv => whnf
    have hdt : List.take (i * 8) (List.drop 0 (poRow pI i)) = poRow pI i := by rw [List.drop_zero, List.take_of_length_le (by rw [poRow_len]; omega)]
    refine condT ?_ ?_
    · show (Nat.beq 8 8 && decide (0 + i * 8 ≤ (poRow pI i).length) && (List.take (i * 8) (List.drop 0 (poRow pI i))).all AV.one && (Nat.beq 8 8 && decide (0 + 1 * 8 ≤ 8) && true) && decide ((i + 1) * 48 ≤ 140737488355328) && decide (i + 1 ≤ 140737488355328)) = true
      rw [hdt, poRow_one, poRow_len]
      simp
      omega
    conv => whnf
    refine ⟨⟨i + 1, by show ((i + 1 : Nat) : Int) ≤ pp; omega⟩, ⟨[(0, some 2)], rfl, rfl, rfl, ⟨⟨rfl, rfl⟩, ⟨rfl, rfl⟩, ⟨rfl, rfl⟩, ⟨?_, rfl⟩, trivial⟩, ⟨⟨poRow_hok _ _ _ _, rfl, ?_⟩, trivial⟩⟩, by show pp.toNat - (i + 1) < pp.toNat - i; omega⟩
    · show AV.int .i64 (IntKind.i64.wrap ((i : Int) + 1)) = AV.int .i64 ((i + 1 : Nat) : Int)
      rw [s64 (by omega)]
    · show some (Chunk.obj (List.take (i * 8) (List.drop 0 (poRow pI i)) ++ poL (pI i))) = some (Chunk.obj (renL _ (poRow pI (i + 1))))
      rw [poRow_ren, hdt, poRow_succ]
  · refine condN (by simpa using hlt) ?_
    have hip : (i : Int) = pp := by omega
    conv => whnf
    obtain ⟨S, hS⟩ : ∃ S, S = (List.range i).map pI := ⟨_, rfl⟩
    have hSl : S.length = i := by rw [hS, map_range_len]
    refine pkNew (S := S) ⟨hS ▸ poRow_see rfl, trivial⟩ (fun x hx => ?_) (by omega) (hS ▸ allR_range fun k hk => right_of (by decide) (by decide) (by decide) (by decide) ⟨by omega, by show (k : Int) ≤ 128 - 1; omega⟩ (by decide) (by decide) (by decide)) rfl ?_
    · rw [hS] at hx
      obtain ⟨k, _, rfl⟩ := map_range_mem hx
      exact ⟨(by decide : (0 : Int) ≤ 0), (by decide : (0 : Int) < 65536)⟩
    rw [hSl]
    have hX0 : (S.map newP).length = i ∧ ∀ x ∈ S.map newP, Due18 x := ⟨by rw [List.length_map, hSl], fun x hx => by
      obtain ⟨y, hy, rfl⟩ := List.mem_map.mp hx
      rw [hS] at hy
      obtain ⟨k, _, rfl⟩ := map_range_mem hy
      exact due18_new k⟩
    generalize S.map newP = X0 at *
    conv => whnf
    refine newCall New_tr ?_
    conv => whnf
    refine loopI (α := {a : Nat × List Pl // (a.1 : Int) ≤ nn + 32 ∧ a.2.length = i ∧ ∀ x ∈ a.2, Due18 x}) (fun ⟨⟨m, X⟩, _⟩ => [(0, .int .i64 nn), (1, .int .i64 pp), (7, .ptr 1 0), (9, .ptr 41 0), (10, .int .u16 (IntKind.u16.wrap ((m : Int) + 1))), (11, .int .i64 m)]) (fun ⟨⟨m, X⟩, _⟩ => ⟨42, [(1, some (msP 1 i m .nils)), (2, some (mrP 1 i)), (41, some (imC .zero))] ++ famP 1 0 X⟩) (fun ⟨⟨m, X⟩, _⟩ => (nn + 32 - m).toNat) ⟨⟨0, X0⟩, by show (0 : Int) ≤ nn + 32; omega, hX0.1, hX0.2⟩ ?_ fun ⟨⟨m, X⟩, hm, hXl, hXd⟩ => ?_
    · exact subPk (c := 1) (X := X0) [] rfl rfl rfl (by omega) (fun _ _ _ => rfl) rfl rfl ⟨⟨rfl, rfl⟩, ⟨rfl, rfl⟩, ⟨rfl, rfl⟩, ⟨rfl, rfl⟩, ⟨rfl, rfl⟩, ⟨rfl, rfl⟩, trivial⟩ ⟨⟨msP_hok rfl, rfl, rfl⟩, ⟨mrP_hok rfl, rfl, rfl⟩, ⟨trivial, rfl, rfl⟩, trivial⟩ (famAt1 rfl (by omega))
    · have hXl : X.length = i := hXl
      conv => whnf
      by_cases hmn : (m : Int) < nn
      · refine condY (by simpa using hmn) ?_
        conv => whnf
        have hYl : (X.map Pl.older).length = i := by rw [List.length_map, hXl]
        obtain ⟨b1, b2, b3, b4⟩ := bg_all (Y := X.map Pl.older) (I := .zero) (L := (m : Int)) (fun y hy => by
          obtain ⟨x, hx, rfl⟩ := List.mem_map.mp hy
          exact due18_old (hXd x hx)) (by omega) (by omega) i (by omega)
        have hX1l : (bgX (X.map Pl.older) .zero m i).length = i := by rw [bgX_len, hYl]
        have hX1 : ∀ x ∈ (bgX (X.map Pl.older) .zero m i).map Pl.tick, Due18 x := fun x hx => by
          obtain ⟨y, hy, rfl⟩ := List.mem_map.mp hx
          obtain ⟨j, hj, rfl⟩ := List.getElem_of_mem hy
          have hji : j < i := by omega
          rw [b4 j hj (by omega), if_pos hji, List.getElem_map]
          exact due18_tick _ _ (hXd _ (List.getElem_mem _))
        have hid : ∀ k (h : k < (bgF (X.map Pl.older) .zero m i).length), (bgF (X.map Pl.older) .zero m i)[k].id = IntKind.u16.wrap ((m : Int) + k + 1) := fun k h => by
          rw [b3 k (by omega) h (by omega)]
          show IntKind.u16.wrap ((m : Int) + ((k + 1 : Nat) : Int)) = _
          congr 1
        have he : bgN (X.map Pl.older) .zero m i = (bgX (X.map Pl.older) .zero m i, (m : Int) + i, bgF (X.map Pl.older) .zero m i) := by
          show (bgX (X.map Pl.older) .zero m i, bgL (X.map Pl.older) .zero m i, bgF (X.map Pl.older) .zero m i) = _
          rw [b1]
        clear b3 b4
        generalize bgX (X.map Pl.older) .zero m i = X1 at *
        generalize bgF (X.map Pl.older) .zero m i = F1 at *
        with_reducible (first | refine unc1 ?_ | refine unc2 ?_ | refine unc3 ?_ | refine unc4 ?_ | refine unc5 ?_ | refine unc6 ?_ | refine unc7 ?_ | refine unc8 ?_ | refine unc9 ?_ | refine unc10 ?_ | refine unc11 ?_ | refine unc12 ?_ | refine unc13 ?_ | refine unc14 ?_ | refine unc15 ?_ | refine unc16 ?_ | skip)
        refine pkBeginN (n := i) (last := (m : Int)) (I := .zero) (X := X) hXl ?_ (by omega) (fun x hx => by have h := (hXd x hx).2.2.2.2; omega) ?_ ?_ ?_ ?_ he ?_
        · exact ⟨rfl, rfl, rfl, outN⟩
        · rfl
        · rfl
        · exact .inr (by decide)
        · rfl
        conv => whnf
        with_reducible (first | refine unc1 ?_ | refine unc2 ?_ | refine unc3 ?_ | refine unc4 ?_ | refine unc5 ?_ | refine unc6 ?_ | refine unc7 ?_ | refine unc8 ?_ | refine unc9 ?_ | refine unc10 ?_ | refine unc11 ?_ | refine unc12 ?_ | refine unc13 ?_ | refine unc14 ?_ | refine unc15 ?_ | refine unc16 ?_ | skip)
        refine pkOutN (n := i) (last := (m : Int) + i) (X := X1) (oc := .sl 3 42 0 F1.length) hX1l ?_ (by omega) ?_
        · exact ⟨rfl, rfl, rfl, outS _ _ _⟩
        conv => whnf
        refine condN (by simp; omega) ?_
        conv => whnf
        refine loopI (α := {k : Nat // (k : Int) ≤ pp}) (fun k => [(0, .int .i64 nn), (1, .int .i64 pp), (7, .ptr 1 0), (9, .ptr 41 0), (10, .int .u16 (IntKind.u16.wrap ((m : Int) + k.1 + 1))), (11, .int .i64 m), (12, .sl 3 42 0 F1.length), (13, .int .i64 k.1)]) (fun k => ⟨43, [(1, some (msP 1 i ((m : Int) + i) .nils)), (2, some (mrP 1 i)), (41, some (imC .zero)), (42, some (frC F1))] ++ famP 1 0 X1⟩) (fun k => pp.toNat - k.1) ⟨0, by show (0 : Int) ≤ pp; omega⟩ ?_ fun ⟨k, hk⟩ => ?_
        · exact subPk (c := 1) (X := X1) [] rfl rfl rfl (by omega) (fun _ _ _ => rfl) rfl rfl ⟨⟨rfl, rfl⟩, ⟨rfl, rfl⟩, ⟨rfl, rfl⟩, ⟨rfl, rfl⟩, ⟨rfl, rfl⟩, ⟨rfl, rfl⟩, ⟨rfl, rfl⟩, ⟨rfl, rfl⟩, trivial⟩ ⟨⟨msP_hok rfl, rfl, rfl⟩, ⟨mrP_hok rfl, rfl, rfl⟩, ⟨trivial, rfl, rfl⟩, ⟨frC_hok _ _ _, rfl, by rw [frC_ren]; rfl⟩, trivial⟩ (famAt rfl (by omega))
        · conv => whnf
          by_cases hkt : (k : Int) < pp
          · refine condY (by simpa using hkt) ?_
            conv => whnf
            have hkF : k < F1.length := by omega
            refine condT (by simp; omega) ?_
            conv => whnf
            rw [frC_id (fs := F1) (k := k) hkF (by simp)]
            conv => whnf
            refine condN (by rw [hid k hkF]; simp) ?_
            conv => whnf
            refine ⟨⟨k + 1, by show ((k + 1 : Nat) : Int) ≤ pp; omega⟩, subPk (c := 1) (X := X1) [] rfl rfl rfl (by omega) (fun _ _ _ => rfl) rfl rfl ⟨⟨rfl, rfl⟩, ⟨rfl, rfl⟩, ⟨rfl, rfl⟩, ⟨rfl, rfl⟩, ⟨?_, rfl⟩, ⟨rfl, rfl⟩, ⟨rfl, rfl⟩, ⟨?_, rfl⟩, trivial⟩ ⟨⟨msP_hok rfl, rfl, rfl⟩, ⟨mrP_hok rfl, rfl, rfl⟩, ⟨trivial, rfl, rfl⟩, ⟨frC_hok _ _ _, rfl, by rw [frC_ren]; rfl⟩, trivial⟩ (famAt rfl (by omega)), by show pp.toNat - (k + 1) < pp.toNat - k; omega⟩
            · show AV.int .u16 (IntKind.u16.wrap (IntKind.u16.wrap ((m : Int) + k + 1) + 1)) = AV.int .u16 (IntKind.u16.wrap ((m : Int) + ((k + 1 : Nat) : Int) + 1))
              rw [wrap16_succ]
              rfl
            · show AV.int .i64 (IntKind.i64.wrap ((k : Int) + 1)) = AV.int .i64 ((k + 1 : Nat) : Int)
              rw [s64 (by omega)]
          · obtain rfl : k = i := by omega
            refine condN (by simpa using hkt) ?_
            conv => whnf
            with_reducible (first | refine unc1 ?_ | refine unc2 ?_ | refine unc3 ?_ | refine unc4 ?_ | refine unc5 ?_ | refine unc6 ?_ | refine unc7 ?_ | refine unc8 ?_ | refine unc9 ?_ | refine unc10 ?_ | refine unc11 ?_ | refine unc12 ?_ | refine unc13 ?_ | refine unc14 ?_ | refine unc15 ?_ | refine unc16 ?_ | skip)
            refine pkTickN (n := k) (last := (m : Int) + k) (X := X1) (oc := .nils) hX1l ?_ (by omega) ?_
            · exact ⟨rfl, rfl, rfl, outN⟩
            conv => whnf
            refine ⟨⟨⟨m + k, X1.map Pl.tick⟩, by show ((m + k : Nat) : Int) ≤ nn + 32; omega, by show (X1.map Pl.tick).length = k; rw [List.length_map, hX1l], hX1⟩, subPk (c := 1) (X := X1.map Pl.tick) [] rfl rfl rfl (by rw [List.length_map]; omega) (fun _ _ _ => rfl) rfl rfl ⟨⟨rfl, rfl⟩, ⟨rfl, rfl⟩, ⟨rfl, rfl⟩, ⟨rfl, rfl⟩, ⟨rfl, rfl⟩, ⟨?_, rfl⟩, trivial⟩ ⟨⟨msP_hok rfl, rfl, rfl⟩, ⟨mrP_hok rfl, rfl, rfl⟩, ⟨trivial, rfl, rfl⟩, trivial⟩ (famAt rfl (by rw [List.length_map]; omega)), by show (nn + 32 - ((m + k : Nat) : Int)).toNat < (nn + 32 - (m : Int)).toNat; omega⟩
            show AV.int .i64 (IntKind.i64.wrap ((m : Int) + pp)) = AV.int .i64 ((m + k : Nat) : Int)
            rw [w64i (by omega) (by omega)]
            congr 1
            omega
      · refine condN (by simpa using hmn) ?_
        conv => whnf
        with_reducible (first | refine unc1 ?_ | refine unc2 ?_ | refine unc3 ?_ | refine unc4 ?_ | refine unc5 ?_ | refine unc6 ?_ | refine unc7 ?_ | refine unc8 ?_ | refine unc9 ?_ | refine unc10 ?_ | refine unc11 ?_ | refine unc12 ?_ | refine unc13 ?_ | refine unc14 ?_ | refine unc15 ?_ | refine unc16 ?_ | skip)
        refine pkOutN (n := i) (last := (m : Int)) (X := X) (oc := .nils) hXl ?_ (by omega) ?_
        · exact ⟨rfl, rfl, rfl, outN⟩
        conv => whnf
        exact FrzK.le (Le.refl _)
end Go.Proofs.Ytomodeliimnddaa
set_option linter.unusedVariables false
set_option linter.unusedSimpArgs false
namespace Go.Ab
open Go.ChangeShapes Go.WideShapes Go.RowKit Go.Deep
def noM : Nat → Prop := fun _ => False
section
variable {P : Program} {H : Type} {enc : TypeId × Value → H} {W : World} {r : Reach} {b : Nat} {held : Bool}
theorem wf_has {k : IntKind} {n : Int} (h : (Lit.int k n).wf = true) : k.min ≤ n ∧ n ≤ k.max := by
  simpa [Lit.wf] using h
theorem cell_addr {t e : TypeId} {a : Addr} {len cap : Nat} (ht : P.underlying t = some (.slice e)) (h : Cell.okWide P W r b t (.slice (some a) len cap)) : a.spot = none ∧ a.block < W.heap.size := by
  simp only [Cell.okWide, ht, Cell.ok] at h
  obtain ⟨_, _, _, h2, row, cells, h3, _⟩ := h
  exact ⟨h2, lt_of_shape h3⟩
theorem gInts {t e : TypeId} {k : IntKind} {fuel : Nat} {v : Value} {x : DataW H × List MemPlace} (hok : Cell.okWide P W r b t v) (ht : P.underlying t = some (.slice e)) (he : P.underlying e = some (.int k)) (hc : P.cellsOf e = 1)
    (h : DataW.trod enc P W 0 (fun _ => true) held fuel t [v] = some x) : ∃ l : List Int, GRel W noM (.roI k l) v ∧ ∀ n ∈ l, k.min ≤ n ∧ n ≤ k.max := by
  rcases open_ints ht he hc h with ⟨hcs, _⟩ | ⟨a, len, cap, zs, hcs, _, hl, hm, hz, _, hcell, hwf⟩
  · obtain rfl : v = .slice none 0 0 := by simpa using hcs
    exact ⟨[], .sliceNil _ 1 (fun j => .int k (([] : List Int).getD j 0)) rfl, by simp⟩
  · obtain rfl : v = .slice (some a) len cap := by simpa using hcs
    obtain ⟨h1, h2⟩ := cell_addr ht hok
    have hz : zs.length = cap := by simpa using hz
    have hlen : (zs.take len).length = len := by rw [List.length_take]; omega
    refine ⟨zs.take len, ?_, fun n hn => wf_has (hwf n (List.mem_of_mem_take hn))⟩
    have := GRel.slice (w := W) (M := noM) (.roI k (zs.take len)) 1 (zs.take len).length (fun j => .int k ((zs.take len).getD j 0)) a cap (fun j => .int k (zs.getD j 0)) rfl (fun _ => ⟨h1, fun h => h, h2⟩) (by omega) (fun _ _ => rfl) (fun j hj => by
      rw [← add_eq a j h1]; exact hcell j (by omega)) (fun j hj => by
      have : (zs.take len).getD j 0 = zs.getD j 0 := by
        have hj' : j < len := by omega
        simp [List.getD_eq_getElem?_getD, List.getElem?_take, hj']
      show GRel W noM (.int k ((zs.take len).getD j 0)) _
      rw [this]; exact .int k _)
    rw [hlen] at this
    exact this
theorem gBools {t e : TypeId} {fuel : Nat} {v : Value} {x : DataW H × List MemPlace} (hok : Cell.okWide P W r b t v) (ht : P.underlying t = some (.slice e)) (he : P.underlying e = some .bool) (hc : P.cellsOf e = 1)
    (h : DataW.trod enc P W 0 (fun _ => true) held fuel t [v] = some x) : ∃ l : List Bool, GRel W noM (.roB l) v := by
  rcases open_bools ht he hc h with ⟨hcs, _⟩ | ⟨a, len, cap, B, hcs, _, hl, hm, _, hcell⟩
  · obtain rfl : v = .slice none 0 0 := by simpa using hcs
    exact ⟨[], .sliceNil _ 1 (fun j => .bool (([] : List Bool).getD j false)) rfl⟩
  · obtain rfl : v = .slice (some a) len cap := by simpa using hcs
    obtain ⟨h1, h2⟩ := cell_addr ht hok
    have hlen : ((List.range len).map B).length = len := by simp
    refine ⟨(List.range len).map B, ?_⟩
    have := GRel.slice (w := W) (M := noM) (.roB ((List.range len).map B)) 1 ((List.range len).map B).length (fun j => .bool (((List.range len).map B).getD j false)) a cap (fun j => .bool (B j)) rfl (fun _ => ⟨h1, fun h => h, h2⟩) (by omega) (fun _ _ => rfl) (fun j hj => by
      rw [← add_eq a j h1]; exact hcell j (by omega)) (fun j hj => by
      have : ((List.range len).map B).getD j false = B j := by
        have hj' : j < len := by omega
        simp [List.getD_eq_getElem?_getD, hj']
      show GRel W noM (.bool (((List.range len).map B).getD j false)) _
      rw [this]; exact .bool _)
    rw [hlen] at this
    exact this
theorem gInt {t : TypeId} {k : IntKind} {fuel : Nat} {v : Value} {x : DataW H × List MemPlace} (ht : P.underlying t = some (.int k)) (h : DataW.trod enc P W 0 (fun _ => true) held fuel t [v] = some x) :
    ∃ n, v = .int k n ∧ k.min ≤ n ∧ n ≤ k.max := by
  obtain ⟨n, h1, _, h2⟩ := DataW.trod_int ht h
  exact ⟨n, by simpa using h1, wf_has h2⟩
/-- a field of one cell -/
theorem gField {t : TypeId} {fs : Array Field} {fuel : Nat} {cs : List Value} {x : DataW H × List MemPlace} (ht : P.underlying t = some (.struct fs)) (h : DataW.trod enc P W 0 (fun _ => true) held fuel t cs = some x)
    (j : Nat) (f : Field) (hj : fs[j]? = some f) (ho : f.offset = j) (hc : P.cellsOf f.type = 1) (hl : j < cs.length) : ∃ n y, DataW.trod enc P W 0 (fun _ => true) held n f.type [cs.getD j default] = some y := by
  obtain ⟨xs, n, _, _, _, hxl, hf⟩ := DataW.trod_struct ht h
  have h1 := hf j f hj
  rw [ho, hc] at h1
  have hone : (cs.drop j).take 1 = [cs.getD j default] := by
    have h2 : cs.getD j default = cs[j] := by simp [List.getD_eq_getElem?_getD, List.getElem?_eq_getElem hl]
    rw [h2, List.drop_eq_getElem_cons hl]
    rfl
  rw [hone] at h1
  have hjl : j < fs.size := (Array.getElem?_eq_some_iff.1 hj).1
  exact ⟨n, _, h1.trans (List.getElem?_eq_getElem (show j < xs.length by omega))⟩
/-- a struct of four numbers, a row of truth values, a row of numbers -/
theorem gSix {t : TypeId} {f0 f1 f2 f3 f4 f5 : Field} {k0 k1 k2 k3 k5 : IntKind} {e4 e5 : TypeId} {v : Value} {d : DataW H} {p : List MemPlace} (hs : P.underlying t = some (.struct #[f0, f1, f2, f3, f4, f5]))
    (ho : f0.offset = 0 ∧ f1.offset = 1 ∧ f2.offset = 2 ∧ f3.offset = 3 ∧ f4.offset = 4 ∧ f5.offset = 5)
    (h0 : P.underlying f0.type = some (.int k0)) (h1 : P.underlying f1.type = some (.int k1)) (h2 : P.underlying f2.type = some (.int k2)) (h3 : P.underlying f3.type = some (.int k3))
    (h4 : P.underlying f4.type = some (.slice e4)) (h5 : P.underlying f5.type = some (.slice e5)) (g4 : P.underlying e4 = some .bool) (g5 : P.underlying e5 = some (.int k5))
    (hc : P.cellsOf f0.type = 1 ∧ P.cellsOf f1.type = 1 ∧ P.cellsOf f2.type = 1 ∧ P.cellsOf f3.type = 1 ∧ P.cellsOf f4.type = 1 ∧ P.cellsOf f5.type = 1) (c4 : P.cellsOf e4 = 1) (c5 : P.cellsOf e5 = 1) (hC : P.cellsOf t = 6)
    (hct : P.cellTypes P.depth t = some [f0.type, f1.type, f2.type, f3.type, f4.type, f5.type]) (hval : Value.okWide P W r b t v) (h : DataW.Trod enc P W 0 (fun _ => true) held t v d p) :
    ∃ (n0 n1 n2 n3 : Int) (B : List Bool) (R : List Int), GRel W noM (.agg [.int k0 n0, .int k1 n1, .int k2 n2, .int k3 n3, .roB B, .roI k5 R]) v ∧ (k0.min ≤ n0 ∧ n0 ≤ k0.max) ∧ (k1.min ≤ n1 ∧ n1 ≤ k1.max) ∧ (k2.min ≤ n2 ∧ n2 ≤ k2.max) ∧ (k3.min ≤ n3 ∧ n3 ≤ k3.max) ∧ ∀ n ∈ R, k5.min ≤ n ∧ n ≤ k5.max := by
  obtain ⟨cs, rfl, hsz⟩ := okWide_struct hs hval
  rw [hC] at hsz
  have hrow : Row.okWide P W r b t cs := by
    simp only [Value.okWide, hs] at hval
    obtain ⟨cs', h1, _, h3⟩ := hval
    cases h1
    exact h3
  obtain ⟨ts, hts, _, hcell⟩ := hrow
  rw [hct] at hts
  cases hts
  obtain ⟨fuel, hf⟩ := h
  have hf : DataW.trod enc P W 0 (fun _ => true) held fuel t cs.toList = some (d, p) := hf
  have hl : cs.toList.length = 6 := by simpa using hsz
  have hg : ∀ j, cs.toList.getD j default = cs.getD j default := fun j => by simp [List.getD_eq_getElem?_getD, Array.getD_eq_getD_getElem?]
  have hsome : ∀ j, j < 6 → cs[j]? = some (cs.getD j default) := fun j hj => by
    have : j < cs.size := by omega
    simp [Array.getD, this]
  obtain ⟨m0, y0, q0⟩ := gField hs hf 0 f0 rfl ho.1 hc.1 (by omega)
  obtain ⟨m1, y1, q1⟩ := gField hs hf 1 f1 rfl ho.2.1 hc.2.1 (by omega)
  obtain ⟨m2, y2, q2⟩ := gField hs hf 2 f2 rfl ho.2.2.1 hc.2.2.1 (by omega)
  obtain ⟨m3, y3, q3⟩ := gField hs hf 3 f3 rfl ho.2.2.2.1 hc.2.2.2.1 (by omega)
  obtain ⟨m4, y4, q4⟩ := gField hs hf 4 f4 rfl ho.2.2.2.2.1 hc.2.2.2.2.1 (by omega)
  obtain ⟨m5, y5, q5⟩ := gField hs hf 5 f5 rfl ho.2.2.2.2.2 hc.2.2.2.2.2 (by omega)
  rw [hg] at q0 q1 q2 q3 q4 q5
  obtain ⟨n0, r0, s0⟩ := gInt h0 q0
  obtain ⟨n1, r1, s1⟩ := gInt h1 q1
  obtain ⟨n2, r2, s2⟩ := gInt h2 q2
  obtain ⟨n3, r3, s3⟩ := gInt h3 q3
  obtain ⟨u4, i4, o4⟩ := hcell 4 _ (hsome 4 (by omega))
  obtain ⟨u5, i5, o5⟩ := hcell 5 _ (hsome 5 (by omega))
  cases i4
  cases i5
  obtain ⟨B, r4⟩ := gBools o4 h4 g4 c4 q4
  obtain ⟨R, r5, s5⟩ := gInts o5 h5 g5 c5 q5
  refine ⟨n0, n1, n2, n3, B, R, .agg _ cs hsz fun j hj => ?_, s0, s1, s2, s3, s5⟩
  match j, hj with
  | 0, _ => rw [r0]; exact .int _ _
  | 1, _ => rw [r1]; exact .int _ _
  | 2, _ => rw [r2]; exact .int _ _
  | 3, _ => rw [r3]; exact .int _ _
  | 4, _ => exact r4
  | 5, _ => exact r5
  | j + 6, hj => simp at hj; omega
/-- what a statement's walk needs, from a contract -/
theorem Ev.calls {f : Nat} {args : List AV} {Vs : Array Value} (h : Ev P f args (.bool true)) (hs : Vs.size = args.length) (hV : ∀ j, j < args.length → GRel W noM (args.getD j .undef) (Vs.getD j default)) :
    Calls P f Vs W fun e W' => e = .returned (.bool true) ∧ Below W.heap.size W W' := by
  obtain ⟨_, ht⟩ := h
  unfold Tr at ht
  have hR : Rep (fun _ => none) ⟨0, []⟩ W noM := ⟨fun _ _ => rfl, fun h c hg => (by cases hg), fun h h' c c' p p' hg => (by cases hg), fun b hb => False.elim hb⟩
  refine Calls.mono (ht.2 (fun _ => none) W noM Vs hR ⟨hs, fun j hj => .g _ _ (hV j hj)⟩) fun e W' he => ?_
  obtain ⟨V, ι', M', v, s', rfl, ⟨rfl, rfl⟩, h1, h2, h3⟩ := he
  obtain rfl := h1.bool_inv
  exact ⟨rfl, h3.os, h3.tape, h3.output, h3.size, fun k hk => h3.block k hk fun ⟨h, c, base, hg, _⟩ => by cases hg⟩
end
end Go.Ab
