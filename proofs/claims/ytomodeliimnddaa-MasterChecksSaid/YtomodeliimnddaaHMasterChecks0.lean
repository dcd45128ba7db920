/- Many polls; rows of frames; rows of polls. The document's master: it is made. Statement of layer 26: polls are taken, or refused. From a statement's arguments to the engine's values; a statement's row from a contract. From a statement's arguments to the engine's values: rows of structs, rows of rows, structs. Arguments of the statements of layer 26: polls. -/
import Derived.Test.YtomodeliimnddaaRows
import Derived.WalkKit
import Derived.ProofKit
import Derived.OpenShut
import Derived.ShutString
import Derived.ChangeOld
import Derived.Below
import Derived.Deep.Grids
import Derived.Deep.Slices
import Derived.Test.YtomodeliimnddaaHMstB
import Derived.Test.YtomodeliimnddaaHEngD
import Derived.Test.YtomodeliimnddaaHMstA
set_option linter.unusedVariables false
set_option linter.unusedSimpArgs false
namespace Go.Proofs.Ytomodeliimnddaa
open Go.Ab
instance : Inhabited Fr := ⟨⟨0, 0, []⟩⟩
/-- a row of frames -/
def frC (fs : List Fr) : Chunk := .obj (frsA fs)
theorem frC_eq (fs : List Fr) : Chunk.obj (frsA fs) = frC fs := rfl
theorem frC_hok (fs : List Fr) (N : Nat) (ρ : Nat → Option Nat) : (frC fs).hok N ρ := frsA_hok fs
theorem frC_ren (fs : List Fr) (ρ : Nat → Option Nat) : (frC fs).ren ρ = frC fs := by
  show Chunk.obj (renL ρ (frsA fs)) = _
  rw [frsA_ren]; rfl
theorem frC_size (fs : List Fr) : (frC fs).size = 3 * fs.length := frsA_len fs
theorem frsA_flats : ∀ fs : List Fr, frsA fs = flatsL frA fs
  | [] => rfl
  | x :: r => by rw [flatsL, ← frsA_flats r]; rfl
theorem frC_at {fs : List Fr} {k j off : Nat} (hk : k < fs.length) (hj : j < 3) (ho : off = k * 3 + j) : (frC fs).ld false off 1 = (true, (frA fs[k]).getD j .undef) := by
  show (Nat.ble (off + 1) (frsA fs).length, (frsA fs).getD off .undef) = _
  rw [ho, Nat.ble_eq_true_of_le (by rw [frsA_len]; omega), frsA_flats, flatsL_get (F := frA) (es := 3) (fun _ => rfl) fs k j hk hj]
theorem frC_id {fs : List Fr} {k off : Nat} (hk : k < fs.length) (ho : off = k * 3) : (frC fs).ld false off 1 = (true, .int .u16 fs[k].id) := frC_at (j := 0) hk (by decide) ho
theorem frC_u {fs : List Fr} {k off : Nat} (hk : k < fs.length) (ho : off = k * 3 + 1) : (frC fs).ld false off 1 = (true, .int .u8 fs[k].u) := frC_at (j := 1) hk (by decide) ho
theorem frC_l {fs : List Fr} {k off : Nat} (hk : k < fs.length) (ho : off = k * 3 + 2) : (frC fs).ld false off 1 = (true, .roI .u8 fs[k].l) := frC_at (j := 2) hk (by decide) ho
attribute [irreducible] frC
theorem famAt1 {c : Nat} {a : Nat × Option Chunk} {L : Mem} {X : List Pl} (hB : outK c (a :: L) = true) (hX : X.length ≤ 36) : ∀ j (h : j < X.length), Mem.get (a :: (L ++ famP c 0 X)) (c + (j + 3)) = some (plC X[j]) := famAt (B := a :: L) hB hX
theorem famAt2 {c : Nat} {a b : Nat × Option Chunk} {L : Mem} {X : List Pl} (hB : outK c (a :: b :: L) = true) (hX : X.length ≤ 36) : ∀ j (h : j < X.length), Mem.get (a :: b :: (L ++ famP c 0 X)) (c + (j + 3)) = some (plC X[j]) := famAt (B := a :: b :: L) hB hX
theorem famAt3 {c : Nat} {a b d : Nat × Option Chunk} {L : Mem} {X : List Pl} (hB : outK c (a :: b :: d :: L) = true) (hX : X.length ≤ 36) : ∀ j (h : j < X.length), Mem.get (a :: b :: d :: (L ++ famP c 0 X)) (c + (j + 3)) = some (plC X[j]) := famAt (B := a :: b :: d :: L) hB hX
theorem wrap16_succ (x : Int) : IntKind.u16.wrap (IntKind.u16.wrap x + 1) = IntKind.u16.wrap (x + 1) := by
  show (x % 65536 + 1) % 65536 = (x + 1) % 65536
  omega
/-- where all are due -/
theorem bg_all {Y : List Pl} {I : Img} {L : Int} (hd : ∀ y ∈ Y, y.due = true) (hL : 0 ≤ L) (hn : L + Y.length < 4294967296) : ∀ k, k ≤ Y.length →
    bgL Y I L k = L + k ∧ (bgF Y I L k).length = k ∧ (∀ j (h : j < k) (h1 : j < (bgF Y I L k).length) (h2 : j < Y.length), (bgF Y I L k)[j] = Y[j].sends I (L + (j + 1 : Nat))) ∧ (∀ j (h1 : j < (bgX Y I L k).length) (h2 : j < Y.length), (bgX Y I L k)[j] = if j < k then Y[j].asks I (L + (j + 1 : Nat)) else Y[j])
  | 0, _ => ⟨by show L = L + ((0 : Nat) : Int); omega, rfl, fun j h => absurd h (by omega), fun j h1 h2 => by rw [if_neg (by omega)]; rfl⟩
  | k + 1, hk => by
    obtain ⟨i1, i2, i3, i4⟩ := bg_all hd hL hn k (by omega)
    have hx : Y[k]? = some Y[k] := List.getElem?_eq_getElem (by omega)
    obtain ⟨b1, b2, b3⟩ := bg_some (I := I) (last := L) hx (hd _ (List.getElem_mem _))
    have hw : IntKind.u32.wrap (bgL Y I L k + 1) = L + (k + 1 : Nat) := by
      rw [i1]
      show (L + (k : Int) + 1) % 4294967296 = _
      rw [Int.emod_eq_of_lt (by omega) (by omega)]; omega
    rw [hw] at b1 b2 b3
    refine ⟨b2, by rw [b3, List.length_append, i2]; rfl, fun j h h1 h2 => ?_, fun j h1 h2 => ?_⟩
    · rw [List.getElem_of_eq b3]
      by_cases e : j < k
      · rw [List.getElem_append_left (by rw [i2]; exact e)]
        exact i3 j e _ h2
      · obtain rfl : j = k := by omega
        rw [List.getElem_append_right (by rw [i2]; omega)]
        simp only [i2, Nat.sub_self, List.getElem_cons_zero]
    · rw [List.getElem_of_eq b1, List.getElem_set]
      by_cases e : k = j
      · subst e
        rw [if_pos rfl, if_pos (by omega)]
      · rw [if_neg e, i4 j (by rw [bgX_len]; exact h2) h2]
        by_cases e2 : j < k
        · rw [if_pos e2, if_pos (by omega)]
        · rw [if_neg e2, if_neg (by omega)]
/-- a row of polls that is being built -/
def poRow (f : Nat → Po) (i : Nat) : List AV := flatsL poL ((List.range i).map f)
theorem poRow_len (f : Nat → Po) (i : Nat) : (poRow f i).length = i * 8 := by
  unfold poRow; rw [flatsL_len poL_len]; simp
theorem poRow_one (f : Nat → Po) (i : Nat) : (poRow f i).all AV.one = true := by
  unfold poRow
  generalize (List.range i).map f = S
  induction S with
  | nil => rfl
  | cons x r ih => rw [flatsL, List.all_append, ih]; rfl
theorem poRow_zero (f : Nat → Po) : poRow f 0 = [] := rfl
theorem poRow_succ (f : Nat → Po) (i : Nat) : poRow f (i + 1) = poRow f i ++ poL (f i) := by
  unfold poRow
  rw [List.range_succ, List.map_append, flatsL_app]
  show _ ++ (poL (f i) ++ []) = _
  rw [List.append_nil]
theorem poRow_hok (f : Nat → Po) (i N : Nat) (ρ : Nat → Option Nat) : hokL N ρ (poRow f i) = true := by
  unfold poRow
  generalize (List.range i).map f = S
  induction S with
  | nil => rfl
  | cons x r ih => exact hokL_app _ _ rfl ih
theorem poRow_ren (f : Nat → Po) (i : Nat) (ρ : Nat → Option Nat) : renL ρ (poRow f i) = poRow f i := by
  unfold poRow
  generalize (List.range i).map f = S
  induction S with
  | nil => rfl
  | cons x r ih => rw [flatsL, renL_app, ih]; rfl
theorem poRow_see {f : Nat → Po} {i h : Nat} {g : Nat → Option Chunk} (hg : g h = some (.obj (poRow f i))) : See g (.sl 8 h 0 i) (.ro 8 (((List.range i).map f).map poA)) := by
  have := see_polls0 (S := (List.range i).map f) hg
  rwa [List.length_map, List.length_range] at this
theorem poRow_seeN {f : Nat → Po} {i h : Nat} {g : Nat → Option Chunk} {c : Chunk} (e : c = .obj (poRow f i)) (hg : g h = some c) : See g (.sl 8 h 0 i) (.ro 8 (((List.range i).map f).map poA)) := poRow_see (e ▸ hg)
theorem poRow_take {f : Nat → Po} {i m : Nat} (h : m ≤ i) : List.take (m * 8) (List.drop (0 + 0 * 8) (poRow f i)) = poRow f m := by
  show List.take (m * 8) (poRow f i) = _
  unfold poRow
  rw [flatsL_take poL_len, ← List.map_take, List.take_range, Nat.min_eq_left h]
theorem poRow_flats {f : Nat → Po} {m : Nat} : poRow f m = flatsL poL ((List.range m).map f) := rfl
attribute [irreducible] poRow
theorem map_range_len {α : Type} (f : Nat → α) (n : Nat) : ((List.range n).map f).length = n := by simp
theorem map_range_mem {α : Type} {f : Nat → α} {n : Nat} {x : α} (h : x ∈ (List.range n).map f) : ∃ i, i < n ∧ x = f i := by
  obtain ⟨i, hi, rfl⟩ := List.mem_map.mp h
  exact ⟨i, List.mem_range.mp hi, rfl⟩
theorem allR_range {f : Nat → Po} {n : Nat} (h : ∀ i, i < n → rightB (f i) = true) : allR ((List.range n).map f) = true := by
  unfold allR
  rw [List.all_eq_true]
  intro x hx
  obtain ⟨i, hi, rfl⟩ := map_range_mem hx
  exact h i hi
theorem app_po {get : Nat → Option Chunk} {nx : Nat} {ρ : AOpd → AV} {x y : AOpd} {h h2 i : Nat} {f : Nat → Po} (hx : ρ x = .sl 8 h 0 i) (hy : ρ y = .sl 8 h2 0 1) (hg : get h = some (.obj (poRow f i))) (hg2 : get h2 = some (.obj (poL (f i)))) (hl : i ≤ 1000) :
    opD get nx ρ (.app 8 48 x y) = .ok true (.sl 8 nx 0 (i + 1)) (.app h (.obj (poRow f (i + 1)))) := by
  have e1 : ((poRow f i).drop 0).take (i * 8) = poRow f i := by
    rw [List.drop_zero, List.take_of_length_le (by rw [poRow_len]; omega)]
  have e2 : ((poL (f i)).drop 0).take (1 * 8) = poL (f i) := rfl
  have e3 : (poL (f i)).all AV.one = true := rfl
  have e5 : (poL (f i)).length = 8 := rfl
  simp only [opD, hx, hy, appA, rowFrom, hg, hg2, lenA, Chunk.cat, e1, e2, e3, poRow_one, poRow_len, e5, ← poRow_succ]
  congr 1
  simp
  omega
section
variable {X X' : List Pl} {last : Int} {oc : AV} {c N n : Nat} {B : Mem} {K : AV → St → Prop}
theorem pkBeginN {d : Nat} {I : Img} {last' : Int} {fs : List Fr} (hn : X.length = n) (H : MsAt B c n last .nils) (hX : n ≤ 36) (hp : ∀ x ∈ X, 1 ≤ x.p.n ∧ x.p.n ≤ 64) (hN : below B N = true) (hcN : Nat.ble (c + 39) N = true) (hd : d < c ∨ c + 39 ≤ d) (hd2 : Mem.get B d = some (imC I))
    (e : bgN (X.map Pl.older) I last n = (X', last', fs))
    (kk : K (.tup []) ⟨N + 1, ((N, some (frC fs)) :: (c, some (msP c n last' (.sl 3 N 0 fs.length))) :: B) ++ famP c 0 X'⟩) : Tr Try.prog 75 [.ptr c 0, .ptr d 0] ⟨N, B ++ famP c 0 X⟩ K := by
  subst hn
  rw [← frC_eq] at kk
  exact pkBeginA H hX hp hN hcN hd hd2 e kk
theorem pkOutN (hn : X.length = n) (H : MsAt B c n last oc) (hX : n ≤ 36) (kk : K oc ⟨N, ((c, some (msP c n last .nils)) :: B) ++ famP c 0 X⟩) : Tr Try.prog 76 [.ptr c 0] ⟨N, B ++ famP c 0 X⟩ K := by
  subst hn; exact pkOutA H hX kk
theorem pkTickN (hn : X.length = n) (H : MsAt B c n last oc) (hX : n ≤ 36) (kk : K (.tup []) ⟨N, B ++ famP c 0 (X.map Pl.tick)⟩) : Tr Try.prog 83 [.ptr c 0] ⟨N, B ++ famP c 0 X⟩ K := by
  subst hn; exact pkTick H hX kk
theorem pkTakeRN {id u : Int} {l : List Int} {b : Bool} (hn : X.length = n) (H : MsAt B c n last oc) (hX : n ≤ 36) (hq : OkX X) (hl : l.length ≤ 1000) (eT : takeP id u l X = (b, X'))
    (kk : K (.bool b) ⟨N, B ++ famP c 0 X'⟩) : Tr Try.prog 77 [.ptr c 0, .agg [.int .u16 id, .int .u8 u, .roI .u8 l]] ⟨N, B ++ famP c 0 X⟩ K := by
  subst hn; exact pkTakeR H hX hq hl eT kk
theorem pkTakeN {id u : Int} {l : List Int} {b : Bool} {h m : Nat} (hn : X.length = n) (H : MsAt B c n last oc) (hX : n ≤ 36) (hq : OkX X) (hl : l.length ≤ 1000) (hr : Mem.get B h = some (.rowI .u8 l)) (hm : m = l.length) (eT : takeP id u l X = (b, X'))
    (kk : K (.bool b) ⟨N, ((h, none) :: B) ++ famP c 0 X'⟩) : Tr Try.prog 77 [.ptr c 0, .agg [.int .u16 id, .int .u8 u, .sl 1 h 0 m]] ⟨N, B ++ famP c 0 X⟩ K := by
  subst hn; exact pkTake H hX hq hl hr hm eT kk
theorem pkLatchN {d : Nat} {J : Img} (hn : X.length = n) (H : MsAt B c n last oc) (hX : n ≤ 36) (hl : ∀ x ∈ X, x.l.length ≤ 1000 ∧ ∀ v ∈ x.l, 0 ≤ v) (hd : d < c ∨ c + 39 ≤ d) (hd2 : Mem.get B d = some (imC J))
    (kk : K (.tup []) ⟨N, ((d, some (imC (latchN J X n))) :: B) ++ famP c 0 X⟩) : Tr Try.prog 78 [.ptr c 0, .ptr d 0] ⟨N, B ++ famP c 0 X⟩ K := by
  subst hn; exact pkLatchA H hX hl hd hd2 kk
end
end Go.Proofs.Ytomodeliimnddaa
set_option linter.unusedVariables false
set_option linter.unusedSimpArgs false
namespace Go.Proofs.Ytomodeliimnddaa
open Go.Ab
/- rung/rungref26.area -/
def a129 : ACode := (.seq (.reg [⟨(some 2), .mov (.c (.int .i64 0)), none, false⟩])
 (.seq (.seq (.reg [⟨(some 3), .mov (.t 0), none, false⟩])
 (.block 0 (.seq (.seq (.reg [⟨(some 5), .bin .eql .other (.t 3) (.c (.int .u8 1)), none, false⟩, ⟨(some 4), .mov (.t 5), none, false⟩])
 (.cond (.t 4) .skip
 (.reg [⟨(some 6), .bin .eql .other (.t 3) (.c (.int .u8 2)), none, false⟩, ⟨(some 4), .mov (.t 6), none, false⟩])))
 (.cond (.t 4) (.seq (.reg [⟨(some 2), .mov (.c (.int .i64 1)), none, false⟩])
 .ret)
 (.seq (.seq (.reg [⟨(some 8), .bin .eql .other (.t 3) (.c (.int .u8 3)), none, false⟩, ⟨(some 7), .mov (.t 8), none, false⟩])
 (.cond (.t 7) .skip
 (.reg [⟨(some 9), .bin .eql .other (.t 3) (.c (.int .u8 4)), none, false⟩, ⟨(some 7), .mov (.t 9), none, false⟩])))
 (.cond (.t 7) (.seq (.reg [⟨(some 2), .mov (.c (.int .i64 4)), none, false⟩])
 .ret)
 (.seq (.reg [⟨(some 11), .bin .eql .other (.t 3) (.c (.int .u8 15)), none, false⟩, ⟨(some 10), .mov (.t 11), none, false⟩])
 (.cond (.t 10) (.seq (.reg [⟨(some 2), .mov (.c (.int .i64 2)), none, false⟩])
 .ret)
 (.seq (.reg [⟨(some 13), .bin .eql .other (.t 3) (.c (.int .u8 16)), none, false⟩, ⟨(some 12), .mov (.t 13), none, false⟩])
 (.cond (.t 12) (.seq (.reg [⟨(some 2), .mov (.c (.int .i64 5)), none, false⟩])
 .ret)
 .skip))))))))))
 (.seq (.reg [⟨(some 2), .mov (.c (.int .i64 0)), none, false⟩])
 .ret)))
def r129 : List ARes := [.t 2]
theorem c129 : compF Try.prog Try.f129 = some (a129, r129) := by kernel_rfl

theorem b129 : hasBody Try.prog 129 = true := by kernel_rfl
theorem g129 : Try.prog.funcs[129]? = some Try.f129 := by kernel_rfl
/- rung/rungref26.million -/
def a130 : ACode := (.seq (.reg [⟨(some 2), .mov (.c (.bool false)), none, false⟩])
 (.seq (.reg [⟨(some 3), .mov (.t 0), none, false⟩, ⟨(some 4), .bin .geq .other (.t 3) (.c (.int .i64 1)), none, false⟩, ⟨(some 5), .mov (.t 4), none, true⟩, ⟨(some 6), .mov (.t 0), (some (5, true)), false⟩, ⟨(some 7), .bin .leq .other (.t 6) (.c (.int .i64 1000000)), (some (5, true)), false⟩, ⟨(some 8), .pick (.t 5) (.t 7) (.c (.bool false)), none, false⟩, ⟨(some 2), .mov (.t 8), none, false⟩])
 .ret))
def r130 : List ARes := [.t 2]
theorem c130 : compF Try.prog Try.f130 = some (a130, r130) := by kernel_rfl

theorem b130 : hasBody Try.prog 130 = true := by kernel_rfl
theorem g130 : Try.prog.funcs[130]? = some Try.f130 := by kernel_rfl
/- rung/rungref26.New -/
def a74 : ACode := (.seq (.reg [⟨(some 2), .mov (.c .nilp), none, false⟩, ⟨(some 3), .mov (.c (.int .i64 0)), none, false⟩])
 (.seq (.seq (.reg [⟨(some 7), .mov (.t 0), none, false⟩, ⟨(some 8), .len false (.t 7), none, false⟩, ⟨(some 9), .bin .gtr .other (.t 8) (.c (.int .i64 32)), none, false⟩])
 (.cond (.t 9) (.seq (.reg [⟨(some 2), .mov (.c .nilp), none, false⟩, ⟨(some 3), .mov (.c (.int .i64 260)), none, false⟩])
 .ret)
 .skip))
 (.seq (.reg [⟨(some 10), .build [.nils, (.int .u16 0), .nils] [(1, 1, (.c (.int .u16 1)))], none, false⟩, ⟨(some 11), .box (.t 10), none, false⟩, ⟨(some 4), .mov (.t 11), none, false⟩])
 (.seq (.seq (.reg [⟨(some 5), .mov (.c (.int .i64 0)), none, false⟩])
 (.block 0 (.loop (.seq (.seq (.reg [⟨(some 12), .mov (.t 5), none, false⟩, ⟨(some 13), .mov (.t 0), none, false⟩, ⟨(some 14), .len false (.t 13), none, false⟩, ⟨(some 15), .bin .lss .other (.t 12) (.t 14), none, false⟩])
 (.cond (.t 15) .skip
 (.exit 0)))
 (.seq (.block 1 (.seq (.reg [⟨(some 18), .mov (.t 0), none, false⟩, ⟨(some 19), .mov (.t 5), none, false⟩, ⟨(some 20), .idx 8 none true (.t 18) (.t 19), none, false⟩, ⟨(some 21), .load true 8 (.t 20), none, false⟩, ⟨(some 6), .alloc [(2, (.int .u8 0)), (1, (.int .u16 0)), (5, (.int .i64 0))], none, false⟩, ⟨none, .store 8 (.t 6) (.t 21), none, false⟩])
 (.seq (.seq (.draw [⟨0, ⟨(some 22), .fld 0 1 false (.t 6), none, false⟩, false, [], []⟩, ⟨1, ⟨(some 23), .load false 1 (.t 22), none, false⟩, false, [], []⟩, ⟨2, ⟨(some 24), .bin .lss .other (.t 23) (.c (.int .u8 1)), none, false⟩, false, [], []⟩, ⟨3, ⟨(some 25), .mov (.t 24), none, true⟩, false, [], []⟩, ⟨4, ⟨(some 26), .fld 0 1 false (.t 6), (some (25, false)), false⟩, false, [], []⟩, ⟨5, ⟨(some 27), .load false 1 (.t 26), (some (25, false)), false⟩, false, [], []⟩, ⟨6, ⟨(some 28), .bin .gtr .other (.t 27) (.c (.int .u8 247)), (some (25, false)), false⟩, false, [], []⟩, ⟨7, ⟨(some 29), .pick (.t 25) (.c (.bool true)) (.t 28), none, false⟩, false, [], []⟩, ⟨8, ⟨(some 30), .mov (.t 29), none, true⟩, false, [], []⟩, ⟨9, ⟨(some 31), .fld 1 1 false (.t 6), (some (30, false)), false⟩, false, [], []⟩, ⟨10, ⟨(some 32), .load false 1 (.t 31), (some (30, false)), false⟩, false, [], []⟩, ⟨11, ⟨(some 33), .call 129 [(.t 32)], (some (30, false)), false⟩, true, [], []⟩, ⟨12, ⟨(some 34), .bin .eql .other (.t 33) (.c (.int .i64 0)), (some (30, false)), false⟩, false, [], []⟩, ⟨13, ⟨(some 35), .pick (.t 30) (.c (.bool true)) (.t 34), none, false⟩, false, [], []⟩, ⟨14, ⟨(some 36), .mov (.t 35), none, true⟩, false, [], []⟩, ⟨15, ⟨(some 37), .fld 3 1 false (.t 6), (some (36, false)), false⟩, false, [], []⟩, ⟨16, ⟨(some 38), .load false 1 (.t 37), (some (36, false)), false⟩, false, [], []⟩, ⟨17, ⟨(some 39), .bin .lss .other (.t 38) (.c (.int .i64 1)), (some (36, false)), false⟩, false, [], []⟩, ⟨18, ⟨(some 40), .pick (.t 36) (.c (.bool true)) (.t 39), none, false⟩, false, [], []⟩, ⟨19, ⟨(some 41), .mov (.t 40), none, true⟩, false, [], []⟩, ⟨20, ⟨(some 42), .fld 3 1 false (.t 6), (some (41, false)), false⟩, false, [], []⟩, ⟨21, ⟨(some 43), .load false 1 (.t 42), (some (41, false)), false⟩, false, [], []⟩, ⟨22, ⟨(some 44), .bin .gtr .other (.t 43) (.c (.int .i64 64)), (some (41, false)), false⟩, false, [], []⟩, ⟨23, ⟨(some 45), .pick (.t 41) (.c (.bool true)) (.t 44), none, false⟩, false, [], []⟩, ⟨24, ⟨(some 46), .mov (.t 45), none, true⟩, false, [], []⟩, ⟨25, ⟨(some 47), .fld 2 1 false (.t 6), (some (46, false)), false⟩, false, [], []⟩, ⟨26, ⟨(some 48), .load false 1 (.t 47), (some (46, false)), false⟩, false, [], []⟩, ⟨27, ⟨(some 49), .conv (.int .i64) (.t 48), (some (46, false)), false⟩, false, [], []⟩, ⟨28, ⟨(some 50), .fld 3 1 false (.t 6), (some (46, false)), false⟩, false, [], []⟩, ⟨29, ⟨(some 51), .load false 1 (.t 50), (some (46, false)), false⟩, false, [], []⟩, ⟨30, ⟨(some 52), .bin .add .other (.t 49) (.t 51), (some (46, false)), false⟩, false, [], []⟩, ⟨31, ⟨(some 53), .bin .gtr .other (.t 52) (.c (.int .i64 65536)), (some (46, false)), false⟩, false, [], []⟩, ⟨32, ⟨(some 54), .pick (.t 46) (.c (.bool true)) (.t 53), none, false⟩, false, [], []⟩, ⟨33, ⟨(some 55), .mov (.t 54), none, true⟩, false, [], []⟩, ⟨34, ⟨(some 56), .fld 4 1 false (.t 6), (some (55, false)), false⟩, false, [], []⟩, ⟨35, ⟨(some 57), .load false 1 (.t 56), (some (55, false)), false⟩, false, [], []⟩, ⟨36, ⟨(some 58), .bin .lss .other (.t 57) (.c (.int .i64 0)), (some (55, false)), false⟩, false, [], []⟩, ⟨37, ⟨(some 59), .pick (.t 55) (.c (.bool true)) (.t 58), none, false⟩, false, [], []⟩, ⟨38, ⟨(some 60), .mov (.t 59), none, true⟩, false, [], []⟩, ⟨39, ⟨(some 61), .fld 4 1 false (.t 6), (some (60, false)), false⟩, false, [], []⟩, ⟨40, ⟨(some 62), .load false 1 (.t 61), (some (60, false)), false⟩, false, [], []⟩, ⟨41, ⟨(some 63), .fld 1 1 false (.t 6), (some (60, false)), false⟩, false, [], []⟩, ⟨42, ⟨(some 64), .load false 1 (.t 63), (some (60, false)), false⟩, false, [], []⟩, ⟨45, ⟨(some 67), .fld 3 1 false (.t 6), (some (60, false)), false⟩, false, [], []⟩, ⟨46, ⟨(some 68), .load false 1 (.t 67), (some (60, false)), false⟩, false, [], []⟩, ⟨43, ⟨(some 65), .call 129 [(.t 64)], (some (60, false)), false⟩, true, [], [(.t 61), (.t 67)]⟩, ⟨44, ⟨(some 66), .call 103 [(.t 65)], (some (60, false)), false⟩, true, [], [(.t 61), (.t 67)]⟩, ⟨47, ⟨(some 69), .bin .sub .other (.t 66) (.t 68), (some (60, false)), false⟩, false, [], []⟩, ⟨48, ⟨(some 70), .bin .gtr .other (.t 62) (.t 69), (some (60, false)), false⟩, false, [], []⟩, ⟨49, ⟨(some 71), .pick (.t 60) (.c (.bool true)) (.t 70), none, false⟩, false, [], []⟩, ⟨50, ⟨(some 72), .mov (.t 71), none, true⟩, false, [], []⟩, ⟨51, ⟨(some 73), .fld 5 1 false (.t 6), (some (72, false)), false⟩, false, [], []⟩, ⟨52, ⟨(some 74), .load false 1 (.t 73), (some (72, false)), false⟩, false, [], []⟩, ⟨53, ⟨(some 75), .call 130 [(.t 74)], (some (72, false)), false⟩, true, [], []⟩, ⟨54, ⟨(some 76), .un .not (.t 75), (some (72, false)), false⟩, false, [], []⟩, ⟨55, ⟨(some 77), .pick (.t 72) (.c (.bool true)) (.t 76), none, false⟩, false, [], []⟩, ⟨56, ⟨(some 78), .mov (.t 77), none, true⟩, false, [], []⟩, ⟨57, ⟨(some 79), .fld 6 1 false (.t 6), (some (78, false)), false⟩, false, [], []⟩, ⟨58, ⟨(some 80), .load false 1 (.t 79), (some (78, false)), false⟩, false, [], []⟩, ⟨59, ⟨(some 81), .call 130 [(.t 80)], (some (78, false)), false⟩, true, [], []⟩, ⟨60, ⟨(some 82), .un .not (.t 81), (some (78, false)), false⟩, false, [], []⟩, ⟨61, ⟨(some 83), .pick (.t 78) (.c (.bool true)) (.t 82), none, false⟩, false, [], []⟩, ⟨62, ⟨(some 84), .mov (.t 83), none, true⟩, false, [], []⟩, ⟨63, ⟨(some 85), .fld 7 1 false (.t 6), (some (84, false)), false⟩, false, [], []⟩, ⟨64, ⟨(some 86), .load false 1 (.t 85), (some (84, false)), false⟩, false, [], []⟩, ⟨65, ⟨(some 87), .call 130 [(.t 86)], (some (84, false)), false⟩, true, [], []⟩, ⟨66, ⟨(some 88), .un .not (.t 87), (some (84, false)), false⟩, false, [], []⟩, ⟨67, ⟨(some 89), .pick (.t 84) (.c (.bool true)) (.t 88), none, false⟩, false, [], []⟩])
 (.cond (.t 89) (.seq (.reg [⟨(some 2), .mov (.c .nilp), none, false⟩, ⟨(some 3), .mov (.c (.int .i64 260)), none, false⟩])
 .ret)
 .skip))
 (.draw [⟨0, ⟨(some 90), .mov (.t 4), none, false⟩, false, [], []⟩, ⟨1, ⟨(some 91), .mov (.t 4), none, false⟩, false, [], []⟩, ⟨2, ⟨(some 92), .nilck (.t 91), none, false⟩, false, [], []⟩, ⟨3, ⟨(some 93), .fld 0 1 false (.t 92), none, false⟩, false, [], []⟩, ⟨4, ⟨(some 94), .load false 1 (.t 93), none, false⟩, false, [], []⟩, ⟨5, ⟨(some 95), .load true 8 (.t 6), none, false⟩, false, [], []⟩, ⟨6, ⟨(some 96), .build [(.int .u8 0), (.int .u8 0), (.int .u16 0), (.int .i64 0), (.int .i64 0), (.int .i64 0), (.int .i64 0), (.int .i64 0), (.bool false), (.int .i64 0), (.int .i64 0), (.bool false), (.int .u16 0), (.int .u8 0), (.int .u16 0), (.int .u16 0), (.int .u16 0), .nils, .nils, (.int .i64 0), (.int .i64 0), (.bool false), (.bool false), .nils, .nils] [(0, 8, (.t 95))], none, false⟩, false, [], []⟩, ⟨7, ⟨(some 97), .bslice 25 .gen [(.int .u8 0), (.int .u8 0), (.int .u16 0), (.int .i64 0), (.int .i64 0), (.int .i64 0), (.int .i64 0), (.int .i64 0), (.bool false), (.int .i64 0), (.int .i64 0), (.bool false), (.int .u16 0), (.int .u8 0), (.int .u16 0), (.int .u16 0), (.int .u16 0), .nils, .nils, (.int .i64 0), (.int .i64 0), (.bool false), (.bool false), .nils, .nils] [(0, 25, (.t 96))] 1, none, false⟩, false, [], []⟩, ⟨8, ⟨(some 98), .app 25 208 (.t 94) (.t 97), none, false⟩, true, [7], []⟩, ⟨9, ⟨(some 99), .nilck (.t 90), none, false⟩, false, [], []⟩, ⟨10, ⟨(some 100), .fld 0 1 false (.t 99), none, false⟩, false, [], []⟩, ⟨11, ⟨none, .store 1 (.t 100) (.t 98), none, false⟩, true, [7], []⟩]))))
 (.reg [⟨(some 16), .mov (.t 5), none, false⟩, ⟨(some 17), .bin .add .other (.t 16) (.c (.int .i64 1)), none, false⟩, ⟨(some 5), .mov (.t 17), none, false⟩]))))))
 (.seq (.reg [⟨(some 101), .mov (.t 4), none, false⟩, ⟨(some 2), .mov (.t 101), none, false⟩, ⟨(some 3), .mov (.c (.int .i64 0)), none, false⟩])
 .ret)))))
def r74 : List ARes := [.t 2, .t 3]
theorem c74 : compF Try.prog Try.f74 = some (a74, r74) := by kernel_rfl

theorem b74 : hasBody Try.prog 74 = true := by kernel_rfl
theorem g74 : Try.prog.funcs[74]? = some Try.f74 := by kernel_rfl

theorem darea_ev (f : Int) : Ev Try.prog 129 [.int .u8 f] (.int .i64 (areaS f)) := by
  refine FrzK.ev rfl (trF g129 b129 c129 ?_)
  conv => whnf
  by_cases h1 : f = 1
  · subst h1; conv => whnf
    exact FrzK.le (Le.refl _)
  by_cases h2 : f = 2
  · subst h2; conv => whnf
    exact FrzK.le (Le.refl _)
  by_cases h3 : f = 3
  · subst h3; conv => whnf
    exact FrzK.le (Le.refl _)
  by_cases h4 : f = 4
  · subst h4; conv => whnf
    exact FrzK.le (Le.refl _)
  by_cases h15 : f = 15
  · subst h15; conv => whnf
    exact FrzK.le (Le.refl _)
  by_cases h16 : f = 16
  · subst h16; conv => whnf
    exact FrzK.le (Le.refl _)
  have hA : areaS f = 0 := by unfold areaS; rw [if_neg (by omega), if_neg (by omega), if_neg h15, if_neg h16]
  rw [hA]
  repeat' (first
    | (refine condN (by simp; assumption) ?_; conv => whnf)
    | fail)
  exact FrzK.le (Le.refl _)
theorem dmill_ev (n : Int) : Ev Try.prog 130 [.int .i64 n] (.bool (millB n)) := by
  refine FrzK.ev rfl (trF g130 b130 c130 ?_)
  conv => whnf
  refine condF (fun h => ?_) (fun h => ?_)
  · conv => whnf
    refine FrzK.le (leBool ?_)
    unfold millB
    rw [show decide (1 ≤ n) = false from h]; rfl
  · conv => whnf
    refine FrzK.le (leBool ?_)
    unfold millB
    rw [show decide (1 ≤ n) = true from h]; rfl
/-- a poll of the document as it is made -/
def dpN (x : Po) : List AV := [.int .u8 x.u, .int .u8 x.f, .int .u16 x.a, .int .i64 x.n, .int .i64 x.p, .int .i64 x.e, .int .i64 x.t, .int .i64 x.r, .bool false, .int .i64 0, .int .i64 0, .bool false, .int .u16 0, .int .u8 0, .int .u16 0, .int .u16 0, .int .u16 0, .nils, .nils, .int .i64 0, .int .i64 0, .bool false, .bool false, .nils, .nils]
theorem dpN_len (x : Po) : (dpN x).length = 25 := rfl
def dRow (S : List Po) (i : Nat) : List AV := flatsL dpN (S.take i)
def dnSt (S : List Po) (i : Nat) : St := ⟨2, [(0, some (.obj [.sl 25 1 0 i, .int .u16 1, .nils])), (1, some (.obj (dRow S i)))]⟩
theorem flatsL_hok {α : Type} {F : α → List AV} {N : Nat} {ρ : Nat → Option Nat} (h : ∀ x, hokL N ρ (F x) = true) : ∀ S : List α, hokL N ρ (flatsL F S) = true
  | [] => rfl
  | x :: r => hokL_app _ _ (h x) (flatsL_hok h r)
theorem flatsL_ren {α : Type} {F : α → List AV} {ρ : Nat → Option Nat} (h : ∀ x, renL ρ (F x) = F x) : ∀ S : List α, renL ρ (flatsL F S) = flatsL F S
  | [] => rfl
  | x :: r => by rw [flatsL, renL_app, h x, flatsL_ren h r]
theorem flatsL_all {α : Type} {F : α → List AV} {p : AV → Bool} (h : ∀ x, (F x).all p = true) : ∀ S : List α, (flatsL F S).all p = true
  | [] => rfl
  | x :: r => by rw [flatsL, List.all_append, h x, flatsL_all h r]; rfl
theorem dRow_len (S : List Po) (i : Nat) (hi : i ≤ S.length) : (dRow S i).length = i * 25 := by
  unfold dRow; rw [flatsL_len dpN_len, List.length_take]; congr 1; omega
theorem dRow_one (S : List Po) (i : Nat) : (dRow S i).all AV.one = true := flatsL_all (fun _ => rfl) _
theorem dRow_zero (S : List Po) : dRow S 0 = [] := by unfold dRow; rw [List.take_zero]; rfl
theorem dRow_succ (S : List Po) (i : Nat) (hi : i < S.length) : dRow S (i + 1) = dRow S i ++ dpN S[i] := by
  unfold dRow
  rw [List.take_add_one, List.getElem?_eq_getElem hi, flatsL_app]
  show _ ++ (dpN S[i] ++ []) = _
  rw [List.append_nil]
theorem dRow_hok (S : List Po) (i N : Nat) (ρ : Nat → Option Nat) : hokL N ρ (dRow S i) = true := flatsL_hok (fun _ => rfl) _
theorem dRow_ren (S : List Po) (i : Nat) (ρ : Nat → Option Nat) : renL ρ (dRow S i) = dRow S i := flatsL_ren (fun _ => rfl) _
attribute [irreducible] dRow
set_option maxRecDepth 20000 in
set_option maxHeartbeats 400000 in
theorem dnew_raw (S : List Po) (hS : ∀ x ∈ S, 0 ≤ x.a ∧ x.a < 65536) (h32 : S.length ≤ 32) : Tr Try.prog 74 [.ro 8 (S.map poA)] ⟨0, []⟩ fun v s => (allR S = true ∧ v = .tup [.ptr 0 0, .int .i64 0] ∧ s = dnSt S S.length) ∨ (allR S = false ∧ v = .tup [.nilp, .int .i64 260]) := by
  refine trF g74 b74 c74 ?_
  conv => whnf
  refine condN (by simp; omega) ?_
  conv => whnf
  refine loopI (α := {i : Nat // i ≤ S.length ∧ ∀ j (h : j < S.length), j < i → rightB S[j] = true}) (fun i => [(0, .ro 8 (S.map poA)), (4, .ptr 0 0), (5, .int .i64 i.1)]) (fun i => dnSt S i.1) (fun i => S.length - i.1) ⟨0, Nat.zero_le _, fun j h k => by omega⟩
    ⟨[(1, none)], rfl, rfl, rfl, ⟨⟨rfl, rfl⟩, ⟨rfl, rfl⟩, ⟨rfl, rfl⟩, trivial⟩, ⟨⟨rfl, rfl, rfl⟩, ⟨dRow_hok _ _ _ _, rfl, by show (dRow S 0).length = 0; rw [dRow_zero]; rfl⟩, trivial⟩⟩ fun ⟨i, hi, hb⟩ => ?_
  conv => whnf
  by_cases hlt : i < S.length
  · refine condY (by simp; omega) ?_
    conv => whnf
    have hx : (S.map poA).getD (Int.toNat (i : Int)) .undef = poA S[i] := map_at hlt
    refine condT (by simp; omega) ?_
    rw [hx]
    have ha := hS S[i] (List.getElem_mem hlt)
    have hno : rightB S[i] = false → allR S = false := fun h => by
      rw [Bool.eq_false_iff]
      intro e
      have := (allR_iff S).mp e i hlt
      rw [h] at this; cases this
    have hbx : rightB S[i] = true → ∀ j (h : j < S.length), j < i + 1 → rightB S[j] = true := fun h j hj hji => by
      by_cases e : j = i
      · subst e; exact h
      · exact hb j hj (by omega)
    have htk : S.take (i + 1) = S.take i ++ [S[i]] := by rw [List.take_add_one, List.getElem?_eq_getElem hlt]; rfl
    have hRl : (dRow S i).length = i * 25 := dRow_len S i hi
    generalize hp : S[i] = y at *
    obtain ⟨u, f, a, n, p, e, t, r⟩ := y
    have ha : 0 ≤ a ∧ a < 65536 := ha
    have hz := szA_range (areaS f)
    conv => whnf
    refine condF (fun h => ?_) (fun h => ?_)
    rotate_left
    · conv => whnf
      refine .inr ⟨hno ?_, rfl⟩
      rw [Bool.eq_false_iff]
      intro hr
      simp only [rightB, millB, Bool.and_eq_true, decide_eq_true_eq, bne_iff_ne, ne_eq] at hr
      simp at h
      omega
    have h1 : 1 ≤ u := by simpa using h
    clear h
    conv => whnf
    refine condF (fun h => ?_) (fun h => ?_)
    rotate_left
    · conv => whnf
      refine .inr ⟨hno ?_, rfl⟩
      rw [Bool.eq_false_iff]
      intro hr
      simp only [rightB, millB, Bool.and_eq_true, decide_eq_true_eq, bne_iff_ne, ne_eq] at hr
      simp at h
      omega
    have h2 : u ≤ 247 := by simpa using h
    clear h
    conv => whnf
    refine Ev.call (darea_ev f) ?_
    conv => whnf
    repeat' (first | (refine ⟨rfl, ?_⟩; conv => whnf) | fail)
    refine condF (fun h => ?_) (fun h => ?_)
    rotate_left
    · conv => whnf
      refine .inr ⟨hno ?_, rfl⟩
      rw [Bool.eq_false_iff]
      intro hr
      simp only [rightB, millB, Bool.and_eq_true, decide_eq_true_eq, bne_iff_ne, ne_eq] at hr
      simp at h
      omega
    have h3 : areaS f ≠ 0 := by simpa using h
    clear h
    conv => whnf
    refine condF (fun h => ?_) (fun h => ?_)
    rotate_left
    · conv => whnf
      refine .inr ⟨hno ?_, rfl⟩
      rw [Bool.eq_false_iff]
      intro hr
      simp only [rightB, millB, Bool.and_eq_true, decide_eq_true_eq, bne_iff_ne, ne_eq] at hr
      simp at h
      omega
    have h4 : 1 ≤ n := by simpa using h
    clear h
    conv => whnf
    refine condF (fun h => ?_) (fun h => ?_)
    rotate_left
    · conv => whnf
      refine .inr ⟨hno ?_, rfl⟩
      rw [Bool.eq_false_iff]
      intro hr
      simp only [rightB, millB, Bool.and_eq_true, decide_eq_true_eq, bne_iff_ne, ne_eq] at hr
      simp at h
      omega
    have h5 : n ≤ 64 := by simpa using h
    clear h
    conv => whnf
    rw [w64i (n := a) (by omega) (by omega), w64i (n := a + n) (by omega) (by omega)]
    refine condF (fun h => ?_) (fun h => ?_)
    rotate_left
    · conv => whnf
      refine .inr ⟨hno ?_, rfl⟩
      rw [Bool.eq_false_iff]
      intro hr
      simp only [rightB, millB, Bool.and_eq_true, decide_eq_true_eq, bne_iff_ne, ne_eq] at hr
      simp at h
      omega
    have h6 : a + n ≤ 65536 := by simpa using h
    clear h
    conv => whnf
    refine condF (fun h => ?_) (fun h => ?_)
    rotate_left
    · conv => whnf
      refine .inr ⟨hno ?_, rfl⟩
      rw [Bool.eq_false_iff]
      intro hr
      simp only [rightB, millB, Bool.and_eq_true, decide_eq_true_eq, bne_iff_ne, ne_eq] at hr
      simp at h
      omega
    have h7 : 0 ≤ p := by simpa using h
    clear h
    conv => whnf
    refine Ev.call (darea_ev f) ?_
    conv => whnf
    repeat' (first | (refine ⟨rfl, ?_⟩; conv => whnf) | fail)
    refine Ev.call (rsize_ev (areaS f)) ?_
    conv => whnf
    repeat' (first | (refine ⟨rfl, ?_⟩; conv => whnf) | fail)
    rw [w64i (n := szA (areaS f) - n) (by omega) (by omega)]
    refine condF (fun h => ?_) (fun h => ?_)
    rotate_left
    · conv => whnf
      refine .inr ⟨hno ?_, rfl⟩
      rw [Bool.eq_false_iff]
      intro hr
      simp only [rightB, millB, Bool.and_eq_true, decide_eq_true_eq, bne_iff_ne, ne_eq] at hr
      simp at h
      omega
    have h8 : p ≤ szA (areaS f) - n := by simpa using h
    clear h
    conv => whnf
    refine Ev.call (dmill_ev e) ?_
    conv => whnf
    repeat' (first | (refine ⟨rfl, ?_⟩; conv => whnf) | fail)
    refine condF (fun h => ?_) (fun h => ?_)
    rotate_left
    · conv => whnf
      refine .inr ⟨hno ?_, rfl⟩
      rw [Bool.eq_false_iff]
      intro hr
      simp only [rightB, Bool.and_eq_true] at hr
      have h : millB e = false := by simpa using h
      simp [h] at hr
    have g0 : millB e = true := by simpa using h
    clear h
    conv => whnf
    refine Ev.call (dmill_ev t) ?_
    conv => whnf
    repeat' (first | (refine ⟨rfl, ?_⟩; conv => whnf) | fail)
    refine condF (fun h => ?_) (fun h => ?_)
    rotate_left
    · conv => whnf
      refine .inr ⟨hno ?_, rfl⟩
      rw [Bool.eq_false_iff]
      intro hr
      simp only [rightB, Bool.and_eq_true] at hr
      have h : millB t = false := by simpa using h
      simp [h] at hr
    have g1 : millB t = true := by simpa using h
    clear h
    conv => whnf
    refine Ev.call (dmill_ev r) ?_
    conv => whnf
    repeat' (first | (refine ⟨rfl, ?_⟩; conv => whnf) | fail)
    refine condF (fun h => ?_) (fun h => ?_)
    rotate_left
    · conv => whnf
      refine .inr ⟨hno ?_, rfl⟩
      rw [Bool.eq_false_iff]
      intro hr
      simp only [rightB, Bool.and_eq_true] at hr
      have h : millB r = false := by simpa using h
      simp [h] at hr
    have g2 : millB r = true := by simpa using h
    clear h
    conv => whnf
    have hgood : rightB ⟨u, f, a, n, p, e, t, r⟩ = true := by
      show (decide (1 ≤ u) && decide (u ≤ 247) && areaS f != 0 && decide (1 ≤ n) && decide (n ≤ 64) && decide (a + n ≤ 65536) && decide (0 ≤ p) && decide (p ≤ szA (areaS f) - n) && millB e && millB t && millB r) = true
      have k3 : (areaS f != 0) = true := by simpa using h3
      rw [decide_eq_true h1, decide_eq_true h2, k3, decide_eq_true h4, decide_eq_true h5, decide_eq_true h6, decide_eq_true h7, decide_eq_true h8, g0, g1, g2]; rfl
    have hdt : List.take (i * 25) (List.drop 0 (dRow S i)) = dRow S i := by rw [List.drop_zero, List.take_of_length_le (by omega)]
    refine condT ?_ ?_
    · show (Nat.beq 25 25 && decide (0 + i * 25 ≤ (dRow S i).length) && (List.take (i * 25) (List.drop 0 (dRow S i))).all AV.one && (Nat.beq 25 25 && decide (0 + 1 * 25 ≤ 25) && true) && decide ((i + 1) * 208 ≤ 140737488355328) && decide (i + 1 ≤ 140737488355328)) = true
      rw [hdt, dRow_one, hRl]
      simp
      omega
    conv => whnf
    refine ⟨⟨i + 1, hlt, hbx hgood⟩, ⟨[(1, some 4)], rfl, rfl, rfl, ⟨⟨rfl, rfl⟩, ⟨rfl, rfl⟩, ⟨?_, rfl⟩, trivial⟩, ⟨⟨rfl, rfl, rfl⟩, ⟨dRow_hok _ _ _ _, rfl, ?_⟩, trivial⟩⟩, by show S.length - (i + 1) < S.length - i; omega⟩
    · show AV.int .i64 (IntKind.i64.wrap ((i : Int) + 1)) = AV.int .i64 ((i + 1 : Nat) : Int)
      rw [s64 (by omega)]
    · show _ = some (Chunk.obj (renL _ (dRow S (i + 1))))
      rw [dRow_ren, dRow_succ S i hlt, hp]
      show some (Chunk.obj (List.take (i * 25) (List.drop 0 (dRow S i)) ++ dpN ⟨u, f, a, n, p, e, t, r⟩)) = _
      rw [hdt]
  · obtain rfl : i = S.length := by omega
    refine condN (by simp) ?_
    conv => whnf
    exact .inl ⟨(allR_iff S).mpr fun j hj => hb j hj hj, rfl, rfl⟩
end Go.Proofs.Ytomodeliimnddaa
set_option linter.unusedVariables false
set_option linter.unusedSimpArgs false
namespace Go.Proofs.Ytomodeliimnddaa
open Go.Ab
/- rung/runglaw26.MasterChecks -/
def a15 : ACode := (.seq (.reg [⟨(some 2), .box (.t 0), none, false⟩, ⟨(some 4), .mov (.c (.bool false)), none, false⟩])
 (.seq (.seq (.reg [⟨(some 15), .call 72 [], none, false⟩, ⟨(some 16), .un .not (.t 15), none, false⟩])
 (.cond (.t 16) (.seq (.reg [⟨(some 4), .mov (.c (.bool false)), none, false⟩])
 .ret)
 .skip))
 (.seq (.reg [⟨(some 17), .mov (.t 1), none, false⟩, ⟨(some 18), .call 68 [(.t 17), (.c (.int .i64 36))], none, false⟩, ⟨(some 1), .mov (.t 18), none, false⟩])
 (.seq (.reg [⟨(some 5), .mov (.c .nils), none, false⟩])
 (.seq (.seq (.reg [⟨(some 6), .mov (.c (.int .i64 0)), none, false⟩])
 (.block 0 (.loop (.seq (.seq (.reg [⟨(some 19), .mov (.t 6), none, false⟩, ⟨(some 20), .mov (.t 1), none, false⟩, ⟨(some 21), .bin .lss .other (.t 19) (.t 20), none, false⟩])
 (.cond (.t 21) .skip
 (.exit 0)))
 (.seq (.block 1 (.reg [⟨(some 24), .mov (.t 5), none, false⟩, ⟨(some 25), .build [(.int .u8 0), (.int .u8 0), (.int .u16 0), (.int .i64 0), (.int .i64 0), (.int .i64 0), (.int .i64 0), (.int .i64 0)] [(0, 1, (.c (.int .u8 1))), (1, 1, (.c (.int .u8 3))), (3, 1, (.c (.int .i64 1))), (5, 1, (.c (.int .i64 1))), (6, 1, (.c (.int .i64 1))), (7, 1, (.c (.int .i64 1)))], none, false⟩, ⟨(some 26), .bslice 8 .gen [(.int .u8 0), (.int .u8 0), (.int .u16 0), (.int .i64 0), (.int .i64 0), (.int .i64 0), (.int .i64 0), (.int .i64 0)] [(0, 8, (.t 25))] 1, none, false⟩, ⟨(some 27), .app 8 48 (.t 24) (.t 26), none, false⟩, ⟨(some 5), .mov (.t 27), none, false⟩]))
 (.reg [⟨(some 22), .mov (.t 6), none, false⟩, ⟨(some 23), .bin .add .other (.t 22) (.c (.int .i64 1)), none, false⟩, ⟨(some 6), .mov (.t 23), none, false⟩]))))))
 (.seq (.reg [⟨(some 29), .mov (.t 5), none, false⟩, ⟨(some 30), .call 73 [(.t 29)], none, false⟩, ⟨(some 28), .mov (.t 30), none, false⟩, ⟨(some 31), .ext (.t 28) 0, none, false⟩, ⟨(some 32), .ext (.t 28) 1, none, false⟩, ⟨(some 7), .mov (.t 31), none, false⟩, ⟨(some 8), .mov (.t 32), none, false⟩])
 (.seq (.reg [⟨(some 34), .load true 8 (.t 2), none, false⟩, ⟨(some 35), .bslice 8 .gen [(.int .u8 0), (.int .u8 0), (.int .u16 0), (.int .i64 0), (.int .i64 0), (.int .i64 0), (.int .i64 0), (.int .i64 0)] [(0, 8, (.t 34))] 1, none, false⟩, ⟨(some 36), .call 73 [(.t 35)], none, false⟩, ⟨(some 33), .mov (.t 36), none, false⟩, ⟨(some 37), .ext (.t 33) 0, none, false⟩, ⟨(some 38), .ext (.t 33) 1, none, false⟩, ⟨(some 9), .mov (.t 37), none, false⟩, ⟨(some 10), .mov (.t 38), none, false⟩])
 (.seq (.reg [⟨(some 40), .load true 8 (.t 2), none, false⟩, ⟨(some 41), .bslice 8 .gen [(.int .u8 0), (.int .u8 0), (.int .u16 0), (.int .i64 0), (.int .i64 0), (.int .i64 0), (.int .i64 0), (.int .i64 0)] [(0, 8, (.t 40))] 1, none, false⟩, ⟨(some 42), .call 74 [(.t 41)], none, false⟩, ⟨(some 39), .mov (.t 42), none, false⟩, ⟨(some 43), .ext (.t 39) 0, none, false⟩, ⟨(some 44), .ext (.t 39) 1, none, false⟩, ⟨(some 11), .mov (.t 43), none, false⟩, ⟨(some 12), .mov (.t 44), none, false⟩])
 (.seq (.draw [⟨0, ⟨(some 46), .mov (.t 5), none, false⟩, false, [], []⟩, ⟨1, ⟨(some 47), .mov (.t 1), none, false⟩, false, [], []⟩, ⟨2, ⟨(some 48), .mn (.t 47) (.c (.int .i64 20)), none, false⟩, false, [], []⟩, ⟨3, ⟨(some 49), .slice (.sl 8) (.t 46) none (some (.t 48)), none, false⟩, false, [], []⟩, ⟨4, ⟨(some 50), .load true 8 (.t 2), none, false⟩, false, [], []⟩, ⟨5, ⟨(some 51), .bslice 8 .gen [(.int .u8 0), (.int .u8 0), (.int .u16 0), (.int .i64 0), (.int .i64 0), (.int .i64 0), (.int .i64 0), (.int .i64 0)] [(0, 8, (.t 50))] 1, none, false⟩, false, [], []⟩, ⟨6, ⟨(some 52), .app 8 48 (.t 49) (.t 51), none, false⟩, true, [5], []⟩, ⟨7, ⟨(some 53), .call 73 [(.t 52)], none, false⟩, true, [5], []⟩, ⟨8, ⟨(some 45), .mov (.t 53), none, false⟩, false, [], []⟩, ⟨9, ⟨(some 54), .ext (.t 45) 0, none, false⟩, false, [], []⟩, ⟨10, ⟨(some 55), .ext (.t 45) 1, none, false⟩, false, [], []⟩, ⟨11, ⟨(some 13), .mov (.t 54), none, false⟩, false, [], []⟩, ⟨12, ⟨(some 14), .mov (.t 55), none, false⟩, false, [], []⟩])
 (.seq (.reg [⟨(some 56), .mov (.t 8), none, false⟩, ⟨(some 57), .bin .eql .other (.t 56) (.c (.int .i64 0)), none, false⟩, ⟨(some 58), .mov (.t 1), none, false⟩, ⟨(some 59), .bin .leq .other (.t 58) (.c (.int .i64 32)), none, false⟩, ⟨(some 60), .bin .eql .bool (.t 57) (.t 59), none, false⟩, ⟨(some 61), .mov (.t 60), none, true⟩, ⟨(some 62), .mov (.t 10), (some (61, true)), false⟩, ⟨(some 63), .mov (.t 12), (some (61, true)), false⟩, ⟨(some 64), .bin .eql .other (.t 62) (.t 63), (some (61, true)), false⟩, ⟨(some 65), .pick (.t 61) (.t 64) (.c (.bool false)), none, false⟩, ⟨(some 66), .mov (.t 65), none, true⟩, ⟨(some 67), .mov (.t 14), (some (66, true)), false⟩, ⟨(some 68), .mov (.t 12), (some (66, true)), false⟩, ⟨(some 69), .bin .eql .other (.t 67) (.t 68), (some (66, true)), false⟩, ⟨(some 70), .pick (.t 66) (.t 69) (.c (.bool false)), none, false⟩, ⟨(some 4), .mov (.t 70), none, false⟩])
 .ret))))))))))
def r15 : List ARes := [.t 4]
theorem c15 : compF Try.prog Try.f15 = some (a15, r15) := by kernel_rfl

theorem b15 : hasBody Try.prog 15 = true := by kernel_rfl
theorem g15 : Try.prog.funcs[15]? = some Try.f15 := by kernel_rfl


/-- a master is made, or not: what comes of it is not kept -/
theorem newF {S : List Po} {args : List AV} {N : Nat} {B : Mem} {K : AV → St → Prop} (hs : SeeL (St.get ⟨N, B⟩) args [.ro 8 (S.map poA)]) (hS : ∀ x ∈ S, 0 ≤ x.a ∧ x.a < 65536) (hl : S.length ≤ 1000) (hB : below B N = true)
    (k1 : S.length ≤ 32 → allR S = true → K (.tup [.ptr N 0, .int .i64 0]) ⟨N + 40, B⟩) (k2 : ¬ (S.length ≤ 32 ∧ allR S = true) → K (.tup [.nilp, .int .i64 260]) ⟨N, B⟩) : Tr Try.prog 73 args ⟨N, B⟩ K := by
  by_cases h : S.length ≤ 32 ∧ allR S = true
  · refine Tr.leSt (K := fun v s => v = .tup [.ptr N 0, .int .i64 0] ∧ s = ⟨N + 40, ((N, some (msP N S.length 0 .nils)) :: (N + 1, some (mrP N S.length)) :: B) ++ famP N 0 (S.map newP)⟩) (pkNew hs hS h.1 h.2 hB ⟨rfl, rfl⟩) fun v s ⟨hv, hs⟩ => ⟨⟨N + 40, B⟩, ?_, hv ▸ k1 h.1 h.2⟩
    subst hs
    refine ⟨rfl, fun a y hg => ⟨y, ?_, LeC.refl _⟩⟩
    have hg : Mem.get B a = some y := hg
    have hk : hasK B a = true := by
      cases e : hasK B a with
      | true => rfl
      | false => rw [hasK_none _ _ e] at hg; cases hg
    have hlt := below_mem hB hk
    show Mem.get (((N, some (msP N S.length 0 .nils)) :: (N + 1, some (mrP N S.length)) :: B) ++ famP N 0 (S.map newP)) a = some y
    refine get_left_some ?_
    rw [get_ne (by omega), get_ne (by omega)]
    exact hg
  · exact Ev.look (newNo_tr S hS hl h) rfl hs (k2 h)
theorem dnSt_own (S : List Po) (i : Nat) : ownS (dnSt S i).m := by
  refine ⟨rfl, ?_, trivial⟩
  show ownL (dRow S i) = true
  unfold dRow
  generalize S.take i = T
  induction T with
  | nil => rfl
  | cons x r ih =>
    show ownL (dpN x ++ flatsL dpN r) = true
    have : ∀ l m : List AV, ownL l = true → ownL m = true → ownL (l ++ m) = true := fun l m => by
      induction l with
      | nil => intro _ h; exact h
      | cons v t ih =>
        intro h1 h2
        simp only [ownL, Bool.and_eq_true] at h1
        show (AV.own v && ownL (t ++ m)) = true
        rw [h1.1, ih h1.2 h2]; rfl
    exact this _ _ rfl ih
theorem dnewY {S : List Po} (hS : ∀ x ∈ S, 0 ≤ x.a ∧ x.a < 65536) (h32 : S.length ≤ 32) (ha : allR S = true) : Tr Try.prog 74 [.ro 8 (S.map poA)] ⟨0, []⟩ fun v s => v = .tup [.ptr 0 0, .int .i64 0] ∧ s = dnSt S S.length :=
  (dnew_raw S hS h32).mono fun v s h => by
    rcases h with ⟨_, h1, h2⟩ | ⟨h, _⟩
    · exact ⟨h1, h2⟩
    · rw [ha] at h; cases h
theorem dnewN {S : List Po} (hS : ∀ x ∈ S, 0 ≤ x.a ∧ x.a < 65536) (h32 : S.length ≤ 32) (ha : allR S = false) : Ev Try.prog 74 [.ro 8 (S.map poA)] (.tup [.nilp, .int .i64 260]) :=
  Ev.of rfl ((dnew_raw S hS h32).mono fun v s h => by
    rcases h with ⟨h, _⟩ | ⟨_, h⟩
    · rw [ha] at h; cases h
    · exact ⟨v, s, .refl _ _, h ▸ Le.refl _⟩)
theorem dnewF {S : List Po} {args : List AV} {N : Nat} {B : Mem} {K : AV → St → Prop} (hs : SeeL (St.get ⟨N, B⟩) args [.ro 8 (S.map poA)]) (hS : ∀ x ∈ S, 0 ≤ x.a ∧ x.a < 65536) (h32 : S.length ≤ 32) (hB : below B N = true)
    (k1 : allR S = true → K (.tup [.ptr N 0, .int .i64 0]) ⟨N + 2, B⟩) (k2 : allR S = false → K (.tup [.nilp, .int .i64 260]) ⟨N, B⟩) : Tr Try.prog 74 args ⟨N, B⟩ K := by
  cases h : allR S with
  | true =>
    refine Tr.leSt (K := fun v s => v = .tup [.ptr N 0, .int .i64 0] ∧ s = ⟨N + 2, memRen (shift N) (dnSt S S.length).m ++ B⟩) (Tr.look (dnewY hS h32 h) hs fun v s ⟨hv, hs⟩ => ?_) fun v s ⟨hv, hs⟩ => ⟨⟨N + 2, B⟩, ?_, hv ▸ k1 h⟩
    · subst hv; subst hs
      exact ⟨rfl, dnSt_own _ _, rfl, rfl⟩
    · subst hs
      refine ⟨rfl, fun a y hg => ⟨y, ?_, LeC.refl _⟩⟩
      have hg : Mem.get B a = some y := hg
      have hk : hasK B a = true := by
        cases e : hasK B a with
        | true => rfl
        | false => rw [hasK_none _ _ e] at hg; cases hg
      show Mem.get (memRen (shift N) (dnSt S S.length).m ++ B) a = some y
      rw [get_appR (shift_low N _ a (below_mem hB hk))]
      exact hg
  | false => exact Ev.look (dnewN hS h32 h) rfl hs (k2 h)

theorem newFY {S : List Po} {args : List AV} {N : Nat} {B : Mem} {K : AV → St → Prop} (hs : SeeL (St.get ⟨N, B⟩) args [.ro 8 (S.map poA)]) (hS : ∀ x ∈ S, 0 ≤ x.a ∧ x.a < 65536) (hl : S.length ≤ 1000) (hB : below B N = true) (h1 : S.length ≤ 32) (h2 : allR S = true) (k : K (.tup [.ptr N 0, .int .i64 0]) ⟨N + 40, B⟩) : Tr Try.prog 73 args ⟨N, B⟩ K :=
  newF hs hS hl hB (fun _ _ => k) fun h => absurd ⟨h1, h2⟩ h
theorem newFN {S : List Po} {args : List AV} {N : Nat} {B : Mem} {K : AV → St → Prop} (hs : SeeL (St.get ⟨N, B⟩) args [.ro 8 (S.map poA)]) (hS : ∀ x ∈ S, 0 ≤ x.a ∧ x.a < 65536) (hl : S.length ≤ 1000) (hB : below B N = true) (h : ¬ (S.length ≤ 32 ∧ allR S = true)) (k : K (.tup [.nilp, .int .i64 260]) ⟨N, B⟩) : Tr Try.prog 73 args ⟨N, B⟩ K :=
  newF hs hS hl hB (fun h1 h2 => absurd ⟨h1, h2⟩ h) fun _ => k
theorem dnewFY {S : List Po} {args : List AV} {N : Nat} {B : Mem} {K : AV → St → Prop} (hs : SeeL (St.get ⟨N, B⟩) args [.ro 8 (S.map poA)]) (hS : ∀ x ∈ S, 0 ≤ x.a ∧ x.a < 65536) (h32 : S.length ≤ 32) (hB : below B N = true) (h2 : allR S = true) (k : K (.tup [.ptr N 0, .int .i64 0]) ⟨N + 2, B⟩) : Tr Try.prog 74 args ⟨N, B⟩ K :=
  dnewF hs hS h32 hB (fun _ => k) fun h => by rw [h2] at h; cases h
theorem dnewFN {S : List Po} {args : List AV} {N : Nat} {B : Mem} {K : AV → St → Prop} (hs : SeeL (St.get ⟨N, B⟩) args [.ro 8 (S.map poA)]) (hS : ∀ x ∈ S, 0 ≤ x.a ∧ x.a < 65536) (h32 : S.length ≤ 32) (hB : below B N = true) (h2 : allR S = false) (k : K (.tup [.nilp, .int .i64 260]) ⟨N, B⟩) : Tr Try.prog 74 args ⟨N, B⟩ K :=
  dnewF hs hS h32 hB (fun h => by rw [h2] at h; cases h) fun _ => k
def pC (_ : Nat) : Po := ⟨1, 3, 0, 1, 0, 1, 1, 1⟩
theorem seeP {g : Nat → Option Chunk} {h n : Nat} {S : List Po} {y : Option Chunk} (e : y = some (.obj (flatsL poL S))) (hn : S.length = n) (hg : g h = y) : See g (.sl 8 h 0 n) (.ro 8 (S.map poA)) := by
  subst hn
  exact see_polls0 (hg.trans e)
theorem pC_all (n : Nat) : allR ((List.range n).map pC) = true := allR_range fun i _ => by kernel_rfl
theorem pC_rng (n : Nat) : ∀ x ∈ (List.range n).map pC, 0 ≤ x.a ∧ x.a < 65536 := fun x hx => by
  obtain ⟨k, _, rfl⟩ := map_range_mem hx
  exact ⟨(by decide : (0 : Int) ≤ 0), (by decide : (0 : Int) < 65536)⟩
theorem allR_app {S : List Po} {p : Po} (h : allR S = true) : allR (S ++ [p]) = rightB p := by
  unfold allR at *
  rw [List.all_append, h]
  simp
set_option maxRecDepth 20000 in
set_option maxHeartbeats 4000000 in
theorem law15 (p : Po) (n0 : Int) (ha : 0 ≤ p.a ∧ p.a < 65536) : Ev Try.prog 15 [poA p, .int .i64 n0] (.bool true) := by
  refine FrzK.ev rfl (trF g15 b15 c15 ?_)
  conv => whnf
  refine Ev.call known26_ev ?_
  conv => whnf
  refine Ev.call (place_ev n0 36 (by decide) (by decide)) ?_
  have hp := place_range n0 36 (by decide)
  generalize placeS n0 36 = pp at *
  conv => whnf
  refine loopI (α := {i : Nat // (i : Int) ≤ pp}) (fun i => [(1, .int .i64 pp), (2, .ptr 0 0), (5, .sl 8 1 0 i.1), (6, .int .i64 i.1)]) (fun i => ⟨2, [(0, some (.obj (poL p))), (1, some (.obj (poRow pC i.1)))]⟩) (fun i => pp.toNat - i.1) ⟨0, by show (0 : Int) ≤ pp; omega⟩
    ⟨[(1, none)], rfl, rfl, rfl, ⟨⟨rfl, rfl⟩, ⟨rfl, rfl⟩, ⟨rfl, rfl⟩, ⟨rfl, rfl⟩, trivial⟩, ⟨⟨rfl, rfl, rfl⟩, ⟨poRow_hok _ _ _ _, rfl, by show (poRow pC 0).length = 0; rw [poRow_len]⟩, trivial⟩⟩ fun ⟨i, hi⟩ => ?_
  conv => whnf
  by_cases hlt : (i : Int) < pp
  · refine condY (by simpa using hlt) ?_
    conv => whnf
    have hdt : List.take (i * 8) (List.drop 0 (poRow pC i)) = poRow pC i := by rw [List.drop_zero, List.take_of_length_le (by rw [poRow_len]; omega)]
    refine condT ?_ ?_
    · show (Nat.beq 8 8 && decide (0 + i * 8 ≤ (poRow pC i).length) && (List.take (i * 8) (List.drop 0 (poRow pC i))).all AV.one && (Nat.beq 8 8 && decide (0 + 1 * 8 ≤ 8) && true) && decide ((i + 1) * 48 ≤ 140737488355328) && decide (i + 1 ≤ 140737488355328)) = true
      rw [hdt, poRow_one, poRow_len]
      simp
      omega
    conv => whnf
    refine ⟨⟨i + 1, by show ((i + 1 : Nat) : Int) ≤ pp; omega⟩, ⟨[(1, some 3)], rfl, rfl, rfl, ⟨⟨rfl, rfl⟩, ⟨rfl, rfl⟩, ⟨rfl, rfl⟩, ⟨?_, rfl⟩, trivial⟩, ⟨⟨rfl, rfl, rfl⟩, ⟨poRow_hok _ _ _ _, rfl, ?_⟩, trivial⟩⟩, by show pp.toNat - (i + 1) < pp.toNat - i; omega⟩
    · show AV.int .i64 (IntKind.i64.wrap ((i : Int) + 1)) = AV.int .i64 ((i + 1 : Nat) : Int)
      rw [s64 (by omega)]
    · show some (Chunk.obj (List.take (i * 8) (List.drop 0 (poRow pC i)) ++ poL (pC i))) = some (Chunk.obj (renL _ (poRow pC (i + 1))))
      rw [poRow_ren, hdt, poRow_succ]
  · refine condN (by simpa using hlt) ?_
    have hip : (i : Int) = pp := by omega
    obtain ⟨m, hm⟩ : ∃ m : Nat, (if (20 : Int) < pp then 20 else pp) = m := ⟨(if (20 : Int) < pp then 20 else pp).toNat, by split <;> omega⟩
    have hmi : m ≤ i ∧ m ≤ 20 := by split at hm <;> omega
    have hdt : List.take (m * 8) (List.drop (0 + 0 * 8) (poRow pC i)) = poRow pC m := poRow_take hmi.1
    cases h1 : rightB p with
    | true =>
      have h2 : allR ((List.range m).map pC ++ [p]) = true := by rw [allR_app (pC_all m), h1]
      have h1 : allR [p] = true := allR_one h1
      by_cases h32 : i ≤ 32
      · refine newFY (S := (List.range i).map pC) ⟨poRow_see rfl, trivial⟩ (pC_rng i) (by simp; omega) rfl (by simp; omega) (pC_all i) ?_
        conv => whnf
        refine newFY (S := [p]) ⟨see_polls0 (S := [p]) rfl, trivial⟩ (mem_one ha) (by decide : (1 : Nat) ≤ 1000) rfl (by decide : (1 : Nat) ≤ 32) h1 ?_
        conv => whnf
        refine dnewFY (S := [p]) ⟨see_polls0 (S := [p]) rfl, trivial⟩ (mem_one ha) (by decide : (1 : Nat) ≤ 32) rfl h1 ?_
        conv => whnf
        refine condT (by show (decide (0 ≤ (if (20 : Int) < pp then 20 else pp)) && decide ((if (20 : Int) < pp then 20 else pp) ≤ ((i : Nat) : Int)) && Nat.beq 8 8) = true; rw [hm]; simp; omega) ?_
        rw [hm]
        conv => whnf
        refine condT ?_ ?_
        · show (Nat.beq 8 8 && decide (0 + 0 * 8 + m * 8 ≤ (poRow pC i).length) && (List.take (m * 8) (List.drop (0 + 0 * 8) (poRow pC i))).all AV.one && (Nat.beq 8 8 && decide (0 + 1 * 8 ≤ 8) && true) && decide ((m + 1) * 48 ≤ 140737488355328) && decide (m + 1 ≤ 140737488355328)) = true
          rw [hdt, poRow_one, poRow_len]
          simp
          omega
        conv => whnf
        have hgg : some (Chunk.obj (List.take (m * 8) (List.drop (0 + 0 * 8) (poRow pC i)) ++ poL p)) = some (Chunk.obj (flatsL poL ((List.range m).map pC ++ [p]))) := by
          rw [hdt, flatsL_app, poRow_flats]; rfl
        refine newFY (S := (List.range m).map pC ++ [p]) ⟨seeP hgg (by simp) rfl, trivial⟩ (fun x hx => ?_) (by simp; omega) rfl (by simp; omega) h2 ?_
        · rcases List.mem_append.mp hx with h | h
          · exact pC_rng m x h
          · rw [List.mem_singleton] at h; subst h; exact ha
        conv => whnf
        refine condY (by show ((true : Bool) == decide (pp ≤ 32)) = true; simp; omega) ?_
        conv => whnf
        exact FrzK.le (Le.refl _)
      · refine newFN (S := (List.range i).map pC) ⟨poRow_see rfl, trivial⟩ (pC_rng i) (by simp; omega) rfl (by simp; omega) ?_
        conv => whnf
        refine newFY (S := [p]) ⟨see_polls0 (S := [p]) rfl, trivial⟩ (mem_one ha) (by decide : (1 : Nat) ≤ 1000) rfl (by decide : (1 : Nat) ≤ 32) h1 ?_
        conv => whnf
        refine dnewFY (S := [p]) ⟨see_polls0 (S := [p]) rfl, trivial⟩ (mem_one ha) (by decide : (1 : Nat) ≤ 32) rfl h1 ?_
        conv => whnf
        refine condT (by show (decide (0 ≤ (if (20 : Int) < pp then 20 else pp)) && decide ((if (20 : Int) < pp then 20 else pp) ≤ ((i : Nat) : Int)) && Nat.beq 8 8) = true; rw [hm]; simp; omega) ?_
        rw [hm]
        conv => whnf
        refine condT ?_ ?_
        · show (Nat.beq 8 8 && decide (0 + 0 * 8 + m * 8 ≤ (poRow pC i).length) && (List.take (m * 8) (List.drop (0 + 0 * 8) (poRow pC i))).all AV.one && (Nat.beq 8 8 && decide (0 + 1 * 8 ≤ 8) && true) && decide ((m + 1) * 48 ≤ 140737488355328) && decide (m + 1 ≤ 140737488355328)) = true
          rw [hdt, poRow_one, poRow_len]
          simp
          omega
        conv => whnf
        have hgg : some (Chunk.obj (List.take (m * 8) (List.drop (0 + 0 * 8) (poRow pC i)) ++ poL p)) = some (Chunk.obj (flatsL poL ((List.range m).map pC ++ [p]))) := by
          rw [hdt, flatsL_app, poRow_flats]; rfl
        refine newFY (S := (List.range m).map pC ++ [p]) ⟨seeP hgg (by simp) rfl, trivial⟩ (fun x hx => ?_) (by simp; omega) rfl (by simp; omega) h2 ?_
        · rcases List.mem_append.mp hx with h | h
          · exact pC_rng m x h
          · rw [List.mem_singleton] at h; subst h; exact ha
        conv => whnf
        refine condY (by show ((false : Bool) == decide (pp ≤ 32)) = true; simp; omega) ?_
        conv => whnf
        exact FrzK.le (Le.refl _)
    | false =>
      have h2 : allR ((List.range m).map pC ++ [p]) = false := by rw [allR_app (pC_all m), h1]
      have h1 : allR [p] = false := by show (rightB p && true) = false; rw [h1]; rfl
      by_cases h32 : i ≤ 32
      · refine newFY (S := (List.range i).map pC) ⟨poRow_see rfl, trivial⟩ (pC_rng i) (by simp; omega) rfl (by simp; omega) (pC_all i) ?_
        conv => whnf
        refine newFN (S := [p]) ⟨see_polls0 (S := [p]) rfl, trivial⟩ (mem_one ha) (by decide : (1 : Nat) ≤ 1000) rfl (fun h => by rw [h1] at h; cases h.2) ?_
        conv => whnf
        refine dnewFN (S := [p]) ⟨see_polls0 (S := [p]) rfl, trivial⟩ (mem_one ha) (by decide : (1 : Nat) ≤ 32) rfl h1 ?_
        conv => whnf
        refine condT (by show (decide (0 ≤ (if (20 : Int) < pp then 20 else pp)) && decide ((if (20 : Int) < pp then 20 else pp) ≤ ((i : Nat) : Int)) && Nat.beq 8 8) = true; rw [hm]; simp; omega) ?_
        rw [hm]
        conv => whnf
        refine condT ?_ ?_
        · show (Nat.beq 8 8 && decide (0 + 0 * 8 + m * 8 ≤ (poRow pC i).length) && (List.take (m * 8) (List.drop (0 + 0 * 8) (poRow pC i))).all AV.one && (Nat.beq 8 8 && decide (0 + 1 * 8 ≤ 8) && true) && decide ((m + 1) * 48 ≤ 140737488355328) && decide (m + 1 ≤ 140737488355328)) = true
          rw [hdt, poRow_one, poRow_len]
          simp
          omega
        conv => whnf
        have hgg : some (Chunk.obj (List.take (m * 8) (List.drop (0 + 0 * 8) (poRow pC i)) ++ poL p)) = some (Chunk.obj (flatsL poL ((List.range m).map pC ++ [p]))) := by
          rw [hdt, flatsL_app, poRow_flats]; rfl
        refine newFN (S := (List.range m).map pC ++ [p]) ⟨seeP hgg (by simp) rfl, trivial⟩ (fun x hx => ?_) (by simp; omega) rfl (fun h => by rw [h2] at h; cases h.2) ?_
        · rcases List.mem_append.mp hx with h | h
          · exact pC_rng m x h
          · rw [List.mem_singleton] at h; subst h; exact ha
        conv => whnf
        refine condY (by show ((true : Bool) == decide (pp ≤ 32)) = true; simp; omega) ?_
        conv => whnf
        exact FrzK.le (Le.refl _)
      · refine newFN (S := (List.range i).map pC) ⟨poRow_see rfl, trivial⟩ (pC_rng i) (by simp; omega) rfl (by simp; omega) ?_
        conv => whnf
        refine newFN (S := [p]) ⟨see_polls0 (S := [p]) rfl, trivial⟩ (mem_one ha) (by decide : (1 : Nat) ≤ 1000) rfl (fun h => by rw [h1] at h; cases h.2) ?_
        conv => whnf
        refine dnewFN (S := [p]) ⟨see_polls0 (S := [p]) rfl, trivial⟩ (mem_one ha) (by decide : (1 : Nat) ≤ 32) rfl h1 ?_
        conv => whnf
        refine condT (by show (decide (0 ≤ (if (20 : Int) < pp then 20 else pp)) && decide ((if (20 : Int) < pp then 20 else pp) ≤ ((i : Nat) : Int)) && Nat.beq 8 8) = true; rw [hm]; simp; omega) ?_
        rw [hm]
        conv => whnf
        refine condT ?_ ?_
        · show (Nat.beq 8 8 && decide (0 + 0 * 8 + m * 8 ≤ (poRow pC i).length) && (List.take (m * 8) (List.drop (0 + 0 * 8) (poRow pC i))).all AV.one && (Nat.beq 8 8 && decide (0 + 1 * 8 ≤ 8) && true) && decide ((m + 1) * 48 ≤ 140737488355328) && decide (m + 1 ≤ 140737488355328)) = true
          rw [hdt, poRow_one, poRow_len]
          simp
          omega
        conv => whnf
        have hgg : some (Chunk.obj (List.take (m * 8) (List.drop (0 + 0 * 8) (poRow pC i)) ++ poL p)) = some (Chunk.obj (flatsL poL ((List.range m).map pC ++ [p]))) := by
          rw [hdt, flatsL_app, poRow_flats]; rfl
        refine newFN (S := (List.range m).map pC ++ [p]) ⟨seeP hgg (by simp) rfl, trivial⟩ (fun x hx => ?_) (by simp; omega) rfl (fun h => by rw [h2] at h; cases h.2) ?_
        · rcases List.mem_append.mp hx with h | h
          · exact pC_rng m x h
          · rw [List.mem_singleton] at h; subst h; exact ha
        conv => whnf
        refine condY (by show ((false : Bool) == decide (pp ≤ 32)) = true; simp; omega) ?_
        conv => whnf
        exact FrzK.le (Le.refl _)

end Go.Proofs.Ytomodeliimnddaa
set_option linter.unusedVariables false
set_option linter.unusedSimpArgs false
namespace Go.Ab
open Go.ChangeShapes Go.WideShapes Go.RowKit Go.Deep
def noM : Nat → Prop := fun _ => False
section
variable {P : Program} {H : Type} {enc : TypeId × Value → H} {W : World} {r : Reach} {b : Nat} {held : Bool}
theorem wf_has {k : IntKind} {n : Int} (h : (Lit.int k n).wf = true) : k.min ≤ n ∧ n ≤ k.max := by
  simpa [Lit.wf] using h
theorem cell_addr {t e : TypeId} {a : Addr} {len cap : Nat} (ht : P.underlying t = some (.slice e)) (h : Cell.okWide P W r b t (.slice (some a) len cap)) : a.spot = none ∧ a.block < W.heap.size := by
  simp only [Cell.okWide, ht, Cell.ok] at h
  obtain ⟨_, _, _, h2, row, cells, h3, _⟩ := h
  exact ⟨h2, lt_of_shape h3⟩
theorem gInts {t e : TypeId} {k : IntKind} {fuel : Nat} {v : Value} {x : DataW H × List MemPlace} (hok : Cell.okWide P W r b t v) (ht : P.underlying t = some (.slice e)) (he : P.underlying e = some (.int k)) (hc : P.cellsOf e = 1)
    (h : DataW.trod enc P W 0 (fun _ => true) held fuel t [v] = some x) : ∃ l : List Int, GRel W noM (.roI k l) v ∧ ∀ n ∈ l, k.min ≤ n ∧ n ≤ k.max := by
  rcases open_ints ht he hc h with ⟨hcs, _⟩ | ⟨a, len, cap, zs, hcs, _, hl, hm, hz, _, hcell, hwf⟩
  · obtain rfl : v = .slice none 0 0 := by simpa using hcs
    exact ⟨[], .sliceNil _ 1 (fun j => .int k (([] : List Int).getD j 0)) rfl, by simp⟩
  · obtain rfl : v = .slice (some a) len cap := by simpa using hcs
    obtain ⟨h1, h2⟩ := cell_addr ht hok
    have hz : zs.length = cap := by simpa using hz
    have hlen : (zs.take len).length = len := by rw [List.length_take]; omega
    refine ⟨zs.take len, ?_, fun n hn => wf_has (hwf n (List.mem_of_mem_take hn))⟩
    have := GRel.slice (w := W) (M := noM) (.roI k (zs.take len)) 1 (zs.take len).length (fun j => .int k ((zs.take len).getD j 0)) a cap (fun j => .int k (zs.getD j 0)) rfl (fun _ => ⟨h1, fun h => h, h2⟩) (by omega) (fun _ _ => rfl) (fun j hj => by
      rw [← add_eq a j h1]; exact hcell j (by omega)) (fun j hj => by
      have : (zs.take len).getD j 0 = zs.getD j 0 := by
        have hj' : j < len := by omega
        simp [List.getD_eq_getElem?_getD, List.getElem?_take, hj']
      show GRel W noM (.int k ((zs.take len).getD j 0)) _
      rw [this]; exact .int k _)
    rw [hlen] at this
    exact this
theorem gBools {t e : TypeId} {fuel : Nat} {v : Value} {x : DataW H × List MemPlace} (hok : Cell.okWide P W r b t v) (ht : P.underlying t = some (.slice e)) (he : P.underlying e = some .bool) (hc : P.cellsOf e = 1)
    (h : DataW.trod enc P W 0 (fun _ => true) held fuel t [v] = some x) : ∃ l : List Bool, GRel W noM (.roB l) v := by
  rcases open_bools ht he hc h with ⟨hcs, _⟩ | ⟨a, len, cap, B, hcs, _, hl, hm, _, hcell⟩
  · obtain rfl : v = .slice none 0 0 := by simpa using hcs
    exact ⟨[], .sliceNil _ 1 (fun j => .bool (([] : List Bool).getD j false)) rfl⟩
  · obtain rfl : v = .slice (some a) len cap := by simpa using hcs
    obtain ⟨h1, h2⟩ := cell_addr ht hok
    have hlen : ((List.range len).map B).length = len := by simp
    refine ⟨(List.range len).map B, ?_⟩
    have := GRel.slice (w := W) (M := noM) (.roB ((List.range len).map B)) 1 ((List.range len).map B).length (fun j => .bool (((List.range len).map B).getD j false)) a cap (fun j => .bool (B j)) rfl (fun _ => ⟨h1, fun h => h, h2⟩) (by omega) (fun _ _ => rfl) (fun j hj => by
      rw [← add_eq a j h1]; exact hcell j (by omega)) (fun j hj => by
      have : ((List.range len).map B).getD j false = B j := by
        have hj' : j < len := by omega
        simp [List.getD_eq_getElem?_getD, hj']
      show GRel W noM (.bool (((List.range len).map B).getD j false)) _
      rw [this]; exact .bool _)
    rw [hlen] at this
    exact this
theorem gInt {t : TypeId} {k : IntKind} {fuel : Nat} {v : Value} {x : DataW H × List MemPlace} (ht : P.underlying t = some (.int k)) (h : DataW.trod enc P W 0 (fun _ => true) held fuel t [v] = some x) :
    ∃ n, v = .int k n ∧ k.min ≤ n ∧ n ≤ k.max := by
  obtain ⟨n, h1, _, h2⟩ := DataW.trod_int ht h
  exact ⟨n, by simpa using h1, wf_has h2⟩
/-- a field of one cell -/
theorem gField {t : TypeId} {fs : Array Field} {fuel : Nat} {cs : List Value} {x : DataW H × List MemPlace} (ht : P.underlying t = some (.struct fs)) (h : DataW.trod enc P W 0 (fun _ => true) held fuel t cs = some x)
    (j : Nat) (f : Field) (hj : fs[j]? = some f) (ho : f.offset = j) (hc : P.cellsOf f.type = 1) (hl : j < cs.length) : ∃ n y, DataW.trod enc P W 0 (fun _ => true) held n f.type [cs.getD j default] = some y := by
  obtain ⟨xs, n, _, _, _, hxl, hf⟩ := DataW.trod_struct ht h
  have h1 := hf j f hj
  rw [ho, hc] at h1
  have hone : (cs.drop j).take 1 = [cs.getD j default] := by
    have h2 : cs.getD j default = cs[j] := by simp [List.getD_eq_getElem?_getD, List.getElem?_eq_getElem hl]
    rw [h2, List.drop_eq_getElem_cons hl]
    rfl
  rw [hone] at h1
  have hjl : j < fs.size := (Array.getElem?_eq_some_iff.1 hj).1
  exact ⟨n, _, h1.trans (List.getElem?_eq_getElem (show j < xs.length by omega))⟩
/-- a struct of four numbers, a row of truth values, a row of numbers -/
theorem gSix {t : TypeId} {f0 f1 f2 f3 f4 f5 : Field} {k0 k1 k2 k3 k5 : IntKind} {e4 e5 : TypeId} {v : Value} {d : DataW H} {p : List MemPlace} (hs : P.underlying t = some (.struct #[f0, f1, f2, f3, f4, f5]))
    (ho : f0.offset = 0 ∧ f1.offset = 1 ∧ f2.offset = 2 ∧ f3.offset = 3 ∧ f4.offset = 4 ∧ f5.offset = 5)
    (h0 : P.underlying f0.type = some (.int k0)) (h1 : P.underlying f1.type = some (.int k1)) (h2 : P.underlying f2.type = some (.int k2)) (h3 : P.underlying f3.type = some (.int k3))
    (h4 : P.underlying f4.type = some (.slice e4)) (h5 : P.underlying f5.type = some (.slice e5)) (g4 : P.underlying e4 = some .bool) (g5 : P.underlying e5 = some (.int k5))
    (hc : P.cellsOf f0.type = 1 ∧ P.cellsOf f1.type = 1 ∧ P.cellsOf f2.type = 1 ∧ P.cellsOf f3.type = 1 ∧ P.cellsOf f4.type = 1 ∧ P.cellsOf f5.type = 1) (c4 : P.cellsOf e4 = 1) (c5 : P.cellsOf e5 = 1) (hC : P.cellsOf t = 6)
    (hct : P.cellTypes P.depth t = some [f0.type, f1.type, f2.type, f3.type, f4.type, f5.type]) (hval : Value.okWide P W r b t v) (h : DataW.Trod enc P W 0 (fun _ => true) held t v d p) :
    ∃ (n0 n1 n2 n3 : Int) (B : List Bool) (R : List Int), GRel W noM (.agg [.int k0 n0, .int k1 n1, .int k2 n2, .int k3 n3, .roB B, .roI k5 R]) v ∧ (k0.min ≤ n0 ∧ n0 ≤ k0.max) ∧ (k1.min ≤ n1 ∧ n1 ≤ k1.max) ∧ (k2.min ≤ n2 ∧ n2 ≤ k2.max) ∧ (k3.min ≤ n3 ∧ n3 ≤ k3.max) ∧ ∀ n ∈ R, k5.min ≤ n ∧ n ≤ k5.max := by
  obtain ⟨cs, rfl, hsz⟩ := okWide_struct hs hval
  rw [hC] at hsz
  have hrow : Row.okWide P W r b t cs := by
    simp only [Value.okWide, hs] at hval
    obtain ⟨cs', h1, _, h3⟩ := hval
    cases h1
    exact h3
  obtain ⟨ts, hts, _, hcell⟩ := hrow
  rw [hct] at hts
  cases hts
  obtain ⟨fuel, hf⟩ := h
  have hf : DataW.trod enc P W 0 (fun _ => true) held fuel t cs.toList = some (d, p) := hf
  have hl : cs.toList.length = 6 := by simpa using hsz
  have hg : ∀ j, cs.toList.getD j default = cs.getD j default := fun j => by simp [List.getD_eq_getElem?_getD, Array.getD_eq_getD_getElem?]
  have hsome : ∀ j, j < 6 → cs[j]? = some (cs.getD j default) := fun j hj => by
    have : j < cs.size := by omega
    simp [Array.getD, this]
  obtain ⟨m0, y0, q0⟩ := gField hs hf 0 f0 rfl ho.1 hc.1 (by omega)
  obtain ⟨m1, y1, q1⟩ := gField hs hf 1 f1 rfl ho.2.1 hc.2.1 (by omega)
  obtain ⟨m2, y2, q2⟩ := gField hs hf 2 f2 rfl ho.2.2.1 hc.2.2.1 (by omega)
  obtain ⟨m3, y3, q3⟩ := gField hs hf 3 f3 rfl ho.2.2.2.1 hc.2.2.2.1 (by omega)
  obtain ⟨m4, y4, q4⟩ := gField hs hf 4 f4 rfl ho.2.2.2.2.1 hc.2.2.2.2.1 (by omega)
  obtain ⟨m5, y5, q5⟩ := gField hs hf 5 f5 rfl ho.2.2.2.2.2 hc.2.2.2.2.2 (by omega)
  rw [hg] at q0 q1 q2 q3 q4 q5
  obtain ⟨n0, r0, s0⟩ := gInt h0 q0
  obtain ⟨n1, r1, s1⟩ := gInt h1 q1
  obtain ⟨n2, r2, s2⟩ := gInt h2 q2
  obtain ⟨n3, r3, s3⟩ := gInt h3 q3
  obtain ⟨u4, i4, o4⟩ := hcell 4 _ (hsome 4 (by omega))
  obtain ⟨u5, i5, o5⟩ := hcell 5 _ (hsome 5 (by omega))
  cases i4
  cases i5
  obtain ⟨B, r4⟩ := gBools o4 h4 g4 c4 q4
  obtain ⟨R, r5, s5⟩ := gInts o5 h5 g5 c5 q5
  refine ⟨n0, n1, n2, n3, B, R, .agg _ cs hsz fun j hj => ?_, s0, s1, s2, s3, s5⟩
  match j, hj with
  | 0, _ => rw [r0]; exact .int _ _
  | 1, _ => rw [r1]; exact .int _ _
  | 2, _ => rw [r2]; exact .int _ _
  | 3, _ => rw [r3]; exact .int _ _
  | 4, _ => exact r4
  | 5, _ => exact r5
  | j + 6, hj => simp at hj; omega
/-- what a statement's walk needs, from a contract -/
theorem Ev.calls {f : Nat} {args : List AV} {Vs : Array Value} (h : Ev P f args (.bool true)) (hs : Vs.size = args.length) (hV : ∀ j, j < args.length → GRel W noM (args.getD j .undef) (Vs.getD j default)) :
    Calls P f Vs W fun e W' => e = .returned (.bool true) ∧ Below W.heap.size W W' := by
  obtain ⟨_, ht⟩ := h
  unfold Tr at ht
  have hR : Rep (fun _ => none) ⟨0, []⟩ W noM := ⟨fun _ _ => rfl, fun h c hg => (by cases hg), fun h h' c c' p p' hg => (by cases hg), fun b hb => False.elim hb⟩
  refine Calls.mono (ht.2 (fun _ => none) W noM Vs hR ⟨hs, fun j hj => .g _ _ (hV j hj)⟩) fun e W' he => ?_
  obtain ⟨V, ι', M', v, s', rfl, ⟨rfl, rfl⟩, h1, h2, h3⟩ := he
  obtain rfl := h1.bool_inv
  exact ⟨rfl, h3.os, h3.tape, h3.output, h3.size, fun k hk => h3.block k hk fun ⟨h, c, base, hg, _⟩ => by cases hg⟩
end
end Go.Ab
set_option linter.unusedVariables false
set_option linter.unusedSimpArgs false
namespace Go.Ab
open Go.ChangeShapes Go.WideShapes Go.RowKit Go.Deep
/-- what lies in one cell: a number, a truth value, a row of numbers, of truth values -/
inductive CK where
  | int (k : IntKind)
  | bool
  | ints (k : IntKind)
  | bools
def CK.v : CK → AV → Prop
  | .int k, v => ∃ n, v = .int k n ∧ k.min ≤ n ∧ n ≤ k.max
  | .bool, v => ∃ b, v = .bool b
  | .ints k, v => ∃ l, v = .roI k l ∧ ∀ n ∈ l, k.min ≤ n ∧ n ≤ k.max
  | .bools, v => ∃ l, v = .roB l
def CK.ok (P : Program) (t : TypeId) : CK → Bool
  | .int k => match P.underlying t with
    | some (.int k') => decide (k' = k)
    | _ => false
  | .bool => match P.underlying t with
    | some .bool => true
    | _ => false
  | .ints k => match P.underlying t with
    | some (.slice e) => (match P.underlying e with
      | some (.int k') => decide (k' = k)
      | _ => false) && Nat.beq (P.cellsOf e) 1
    | _ => false
  | .bools => match P.underlying t with
    | some (.slice e) => (match P.underlying e with
      | some .bool => true
      | _ => false) && Nat.beq (P.cellsOf e) 1
    | _ => false
def CKs : List CK → List AV → Prop
  | [], [] => True
  | c :: cs, v :: vs => c.v v ∧ CKs cs vs
  | _, _ => False
theorem CKs.length : ∀ {cs : List CK} {l : List AV}, CKs cs l → l.length = cs.length
  | [], [], _ => rfl
  | c :: cs, v :: vs, h => by simp [CKs.length h.2]
  | [], _ :: _, h => h.elim
  | _ :: _, [], h => h.elim
theorem CKs.of : ∀ {cs : List CK} {l : List AV}, l.length = cs.length → (∀ j (c : CK), cs[j]? = some c → c.v (l.getD j .undef)) → CKs cs l
  | [], [], _, _ => trivial
  | c :: cs, v :: vs, hl, h => ⟨by simpa using h 0 c rfl, CKs.of (by simpa using hl) fun j d hd => by simpa using h (j + 1) d (by simpa using hd)⟩
  | [], _ :: _, hl, _ => by simp at hl
  | _ :: _, [], hl, _ => by simp at hl
theorem CK.one {c : CK} {v : AV} (h : c.v v) : v.flat = [v] := by
  cases c
  · obtain ⟨n, rfl, _⟩ := h; rfl
  · obtain ⟨b, rfl⟩ := h; rfl
  · obtain ⟨l, rfl, _⟩ := h; rfl
  · obtain ⟨l, rfl⟩ := h; rfl
section
variable {P : Program} {H : Type} {enc : TypeId × Value → H} {W : World} {held : Bool}
theorem cell_spot {a : Addr} {v : Value} (h : W.cell? a = some v) : a.spot = none ∧ a.block < W.heap.size := by
  obtain ⟨e, n, h1, _, h3⟩ := World.shape?_of_cell? h
  exact ⟨h3, lt_of_shape h1⟩
theorem gCell {c : CK} {t : TypeId} {fuel : Nat} {v : Value} {x : DataW H × List MemPlace} (hok : c.ok P t = true) (h : DataW.trod enc P W 0 (fun _ => true) held fuel t [v] = some x) : ∃ av, c.v av ∧ GRel W noM av v := by
  cases c with
  | int k =>
    simp only [CK.ok] at hok
    split at hok
    · rename_i k' ht
      obtain rfl := of_decide_eq_true hok
      obtain ⟨n, rfl, h1⟩ := gInt ht h
      exact ⟨_, ⟨n, rfl, h1⟩, .int _ _⟩
    · cases hok
  | bool =>
    simp only [CK.ok] at hok
    split at hok
    · rename_i ht
      obtain ⟨b, h1, _⟩ := DataW.trod_bool ht h
      obtain rfl : v = .bool b := by simpa using h1
      exact ⟨_, ⟨b, rfl⟩, .bool _⟩
    · cases hok
  | ints k =>
    simp only [CK.ok] at hok
    split at hok
    · rename_i e ht
      simp only [Bool.and_eq_true] at hok
      obtain ⟨h1, h2⟩ := hok
      split at h1
      · rename_i k' he
        obtain rfl := of_decide_eq_true h1
        have hc : P.cellsOf e = 1 := Nat.eq_of_beq_eq_true h2
        rcases open_ints ht he hc h with ⟨hcs, _⟩ | ⟨a, len, cap, zs, hcs, _, hl, hm, hz, _, hcell, hwf⟩
        · obtain rfl : v = .slice none 0 0 := by simpa using hcs
          exact ⟨.roI k' [], ⟨[], rfl, by simp⟩, .sliceNil _ 1 (fun j => .int k' (([] : List Int).getD j 0)) rfl⟩
        · obtain rfl : v = .slice (some a) len cap := by simpa using hcs
          have hz : zs.length = cap := by simpa using hz
          have hlen : (zs.take len).length = len := by rw [List.length_take]; omega
          refine ⟨.roI k' (zs.take len), ⟨_, rfl, fun n hn => wf_has (hwf n (List.mem_of_mem_take hn))⟩, ?_⟩
          have hsp : 0 < len → a.spot = none ∧ ¬ noM a.block ∧ a.block < W.heap.size := fun h0 => by
            have := hcell 0 (by omega)
            obtain ⟨q1, q2⟩ := cell_spot (a := a) (by simpa [Addr.add] using this)
            exact ⟨q1, fun h => h, q2⟩
          have := GRel.slice (w := W) (M := noM) (.roI k' (zs.take len)) 1 (zs.take len).length (fun j => .int k' ((zs.take len).getD j 0)) a cap (fun j => .int k' (zs.getD j 0)) rfl (fun h => hsp (by omega)) (by omega) (fun _ _ => rfl) (fun j hj => by
            rw [← add_eq a j (hsp (by omega)).1]; exact hcell j (by omega)) (fun j hj => by
            have : (zs.take len).getD j 0 = zs.getD j 0 := by
              have hj' : j < len := by omega
              simp [List.getD_eq_getElem?_getD, List.getElem?_take, hj']
            show GRel W noM (.int k' ((zs.take len).getD j 0)) _
            rw [this]; exact .int k' _)
          rw [hlen] at this
          exact this
      · cases h1
    · cases hok
  | bools =>
    simp only [CK.ok] at hok
    split at hok
    · rename_i e ht
      simp only [Bool.and_eq_true] at hok
      obtain ⟨h1, h2⟩ := hok
      split at h1
      · rename_i he
        have hc : P.cellsOf e = 1 := Nat.eq_of_beq_eq_true h2
        rcases open_bools ht he hc h with ⟨hcs, _⟩ | ⟨a, len, cap, B, hcs, _, hl, hm, _, hcell⟩
        · obtain rfl : v = .slice none 0 0 := by simpa using hcs
          exact ⟨.roB [], ⟨[], rfl⟩, .sliceNil _ 1 (fun j => .bool (([] : List Bool).getD j false)) rfl⟩
        · obtain rfl : v = .slice (some a) len cap := by simpa using hcs
          have hlen : ((List.range len).map B).length = len := by simp
          refine ⟨.roB ((List.range len).map B), ⟨_, rfl⟩, ?_⟩
          have hsp : 0 < len → a.spot = none ∧ ¬ noM a.block ∧ a.block < W.heap.size := fun h0 => by
            have := hcell 0 (by omega)
            obtain ⟨q1, q2⟩ := cell_spot (a := a) (by simpa [Addr.add] using this)
            exact ⟨q1, fun h => h, q2⟩
          have := GRel.slice (w := W) (M := noM) (.roB ((List.range len).map B)) 1 ((List.range len).map B).length (fun j => .bool (((List.range len).map B).getD j false)) a cap (fun j => .bool (B j)) rfl (fun h => hsp (by omega)) (by omega) (fun _ _ => rfl) (fun j hj => by
            rw [← add_eq a j (hsp (by omega)).1]; exact hcell j (by omega)) (fun j hj => by
            have : ((List.range len).map B).getD j false = B j := by
              have hj' : j < len := by omega
              simp [List.getD_eq_getElem?_getD, hj']
            show GRel W noM (.bool (((List.range len).map B).getD j false)) _
            rw [this]; exact .bool _)
          rw [hlen] at this
          exact this
      · cases h1
    · cases hok
/-- the fields of a struct of such cells -/
def fieldsOk (P : Program) : Nat → List Field → List CK → Bool
  | _, [], [] => true
  | j, f :: fs, c :: cs => Nat.beq f.offset j && Nat.beq (P.cellsOf f.type) 1 && c.ok P f.type && fieldsOk P (j + 1) fs cs
  | _, _, _ => false
def structOk (P : Program) (t : TypeId) (cs : List CK) : Bool :=
  match P.underlying t with
  | some (.struct fs) => fieldsOk P 0 fs.toList cs && Nat.beq (P.cellsOf t) cs.length
  | _ => false
theorem fieldsOk_get : ∀ (fs : List Field) (cs : List CK) (j0 : Nat), fieldsOk P j0 fs cs = true → fs.length = cs.length ∧ ∀ j f c, fs[j]? = some f → cs[j]? = some c → f.offset = j0 + j ∧ P.cellsOf f.type = 1 ∧ c.ok P f.type = true
  | [], [], _, _ => ⟨rfl, fun j f c h => by simp at h⟩
  | f :: fs, c :: cs, j0, h => by
    simp only [fieldsOk, Bool.and_eq_true] at h
    obtain ⟨⟨⟨h1, h2⟩, h3⟩, h4⟩ := h
    obtain ⟨h5, h6⟩ := fieldsOk_get fs cs (j0 + 1) h4
    refine ⟨by simp [h5], fun j f' c' hf hc => ?_⟩
    cases j with
    | zero =>
      simp only [List.getElem?_cons_zero, Option.some.injEq] at hf hc
      subst hf; subst hc
      exact ⟨Nat.eq_of_beq_eq_true h1, Nat.eq_of_beq_eq_true h2, h3⟩
    | succ j =>
      have := h6 j f' c' (by simpa using hf) (by simpa using hc)
      exact ⟨by omega, this.2⟩
  | [], _ :: _, _, h => by simp [fieldsOk] at h
  | _ :: _, [], _, h => by simp [fieldsOk] at h
/-- a struct's cells -/
theorem gStruct {t : TypeId} {cks : List CK} {fuel : Nat} {cs : List Value} {x : DataW H × List MemPlace} (hs : structOk P t cks = true) (hl : cs.length = cks.length) (h : DataW.trod enc P W 0 (fun _ => true) held fuel t cs = some x) :
    ∃ l : List AV, CKs cks l ∧ ∀ j, j < cks.length → GRel W noM (l.getD j .undef) (cs.getD j default) := by
  unfold structOk at hs
  split at hs
  · rename_i fs ht
    simp only [Bool.and_eq_true] at hs
    obtain ⟨h1, h2⟩ := hs
    obtain ⟨h3, h4⟩ := fieldsOk_get _ _ _ h1
    have each : ∀ j, j < cks.length → ∃ av, (∀ c, cks[j]? = some c → c.v av) ∧ GRel W noM av (cs.getD j default) := fun j hj => by
      have hjf : j < fs.size := by simp at h3; omega
      obtain ⟨q1, q2, q3⟩ := h4 j fs[j] cks[j] (by simp [hjf]) (by simp [hj])
      obtain ⟨n, y, hy⟩ := gField ht h j fs[j] (by simp [hjf]) (by simpa using q1) q2 (by omega)
      obtain ⟨av, r1, r2⟩ := gCell q3 hy
      exact ⟨av, fun c hc => by
        rw [List.getElem?_eq_getElem hj] at hc
        cases hc
        exact r1, r2⟩
    obtain ⟨E, hE⟩ := choose_lt each
    have hlen : ((List.range cks.length).map E).length = cks.length := by simp
    have hget : ∀ j, j < cks.length → ((List.range cks.length).map E).getD j .undef = E j := fun j hj => by simp [List.getD_eq_getElem?_getD, hj]
    refine ⟨(List.range cks.length).map E, CKs.of hlen fun j c hc => ?_, fun j hj => ?_⟩
    · have hj : j < cks.length := (List.getElem?_eq_some_iff.1 hc).1
      rw [hget j hj]
      exact (hE j hj).1 c hc
    · rw [hget j hj]
      exact (hE j hj).2
  · cases hs
/-- a row of structs -/
theorem gStructs {t e : TypeId} {cks : List CK} {fuel : Nat} {v : Value} {x : DataW H × List MemPlace} (ht : P.underlying t = some (.slice e)) (hs : structOk P e cks = true) (h0 : 0 < cks.length)
    (h : DataW.trod enc P W 0 (fun _ => true) held fuel t [v] = some x) : ∃ L : List (List AV), (∀ l ∈ L, CKs cks l) ∧ GRel W noM (.ro cks.length (L.map .agg)) v := by
  have hce : P.cellsOf e = cks.length := by
    unfold structOk at hs
    split at hs
    · simp only [Bool.and_eq_true] at hs
      exact Nat.eq_of_beq_eq_true hs.2
    · cases hs
  rcases open_slice ht h with ⟨hcs, _⟩ | ⟨a, len, cap, m, n, D, Pl, hcs, _, hl, hm, hmm, _, hx⟩
  · obtain rfl : v = .slice none 0 0 := by simpa using hcs
    exact ⟨[], by simp, .sliceNil _ cks.length (fun j => ((([] : List AV).getD (j / cks.length) .undef).flat.getD (j % cks.length) .undef)) rfl⟩
  · obtain rfl : v = .slice (some a) len cap := by simpa using hcs
    simp only [if_true] at hmm
    subst hmm
    have each : ∀ i, i < len → ∃ l : List AV, CKs cks l ∧ ∀ j, j < cks.length → ∃ V, W.cell? ((a.add (i * cks.length)).add j) = some V ∧ GRel W noM (l.getD j .undef) V := fun i hi => by
      obtain ⟨cs', h1, h2⟩ := hx i (by omega)
      rw [hce] at h1
      obtain ⟨_, h3, h4⟩ := World.cells?_some h1
      obtain ⟨l, h5, h6⟩ := gStruct hs h3 h2
      refine ⟨l, h5, fun j hj => ⟨cs'.getD j default, ?_, h6 j hj⟩⟩
      have hj' : j < cs'.length := by omega
      rw [h4 j hj, List.getD_eq_getElem?_getD, List.getElem?_eq_getElem hj']
      rfl
    obtain ⟨E, hE⟩ := choose_lt each
    have hsp : 0 < len → a.spot = none ∧ ¬ noM a.block ∧ a.block < W.heap.size := fun hp => by
      obtain ⟨V, h1, _⟩ := (hE 0 hp).2 0 h0
      obtain ⟨q1, q2⟩ := cell_spot (a := a) (by simpa [Addr.add] using h1)
      exact ⟨q1, fun h => h, q2⟩
    have hlen : (((List.range len).map E).map AV.agg).length = len := by simp
    refine ⟨(List.range len).map E, fun l hl' => ?_, ?_⟩
    · simp only [List.mem_map, List.mem_range] at hl'
      obtain ⟨i, hi, rfl⟩ := hl'
      exact (hE i hi).1
    have hgetE : ∀ i, i < len → (((List.range len).map E).map AV.agg).getD i .undef = .agg (E i) := fun i hi => by simp [List.getD_eq_getElem?_getD, hi]
    have cell : ∀ j, j < len * cks.length → ∃ V, W.cell? ⟨a.block, a.off + j, none⟩ = some V ∧ GRel W noM (((((List.range len).map E).map AV.agg).getD (j / cks.length) .undef).flat.getD (j % cks.length) .undef) V := fun j hj => by
      have hi : j / cks.length < len := (Nat.div_lt_iff_lt_mul h0).2 hj
      have hj2 : j % cks.length < cks.length := Nat.mod_lt _ h0
      obtain ⟨V, h1, h2⟩ := (hE _ hi).2 _ hj2
      refine ⟨V, ?_, ?_⟩
      · rw [add_add, Nat.div_add_mod' j cks.length, add_eq a j (hsp (Nat.lt_of_le_of_lt (Nat.zero_le _) hi)).1] at h1
        exact h1
      · rw [hgetE _ hi]
        exact h2
    obtain ⟨G, hG⟩ := choose_lt cell
    have := GRel.slice (w := W) (M := noM) (.ro cks.length (((List.range len).map E).map AV.agg)) cks.length len (fun j => ((((List.range len).map E).map AV.agg).getD (j / cks.length) .undef).flat.getD (j % cks.length) .undef) a m G
      (by simp only [AV.rov, hlen]) hsp hl (fun i hi => by
        show ((((List.range len).map E).map AV.agg).getD i .undef).flat.length = _
        rw [hgetE i hi]
        exact (hE i hi).1.length) (fun j hj => (hG j hj).1) (fun j hj => (hG j hj).2)
    exact this
/-- a row of rows of numbers -/
theorem gRows {t e : TypeId} {k : IntKind} {fuel : Nat} {v : Value} {x : DataW H × List MemPlace} (ht : P.underlying t = some (.slice e)) (hs : (CK.ints k).ok P e = true) (hce : P.cellsOf e = 1)
    (h : DataW.trod enc P W 0 (fun _ => true) held fuel t [v] = some x) : ∃ L : List (List Int), (∀ l ∈ L, ∀ n ∈ l, k.min ≤ n ∧ n ≤ k.max) ∧ GRel W noM (.ro 1 (L.map (.roI k))) v := by
  rcases open_slice ht h with ⟨hcs, _⟩ | ⟨a, len, cap, m, n, D, Pl, hcs, _, hl, hm, hmm, _, hx⟩
  · obtain rfl : v = .slice none 0 0 := by simpa using hcs
    exact ⟨[], by simp, .sliceNil _ 1 (fun j => ((([] : List AV).getD (j / 1) .undef).flat.getD (j % 1) .undef)) rfl⟩
  · obtain rfl : v = .slice (some a) len cap := by simpa using hcs
    simp only [if_true] at hmm
    subst hmm
    have each : ∀ i, i < len → ∃ l : List Int, (∀ n ∈ l, k.min ≤ n ∧ n ≤ k.max) ∧ ∃ V, W.cell? (a.add i) = some V ∧ GRel W noM (.roI k l) V := fun i hi => by
      obtain ⟨cs', h1, h2⟩ := hx i (by omega)
      rw [hce, Nat.mul_one] at h1
      obtain ⟨_, h3, h4⟩ := World.cells?_some h1
      match cs', h3 with
      | [c], _ =>
        obtain ⟨av, h5, h6⟩ := gCell hs h2
        obtain ⟨l, rfl, h7⟩ := h5
        refine ⟨l, h7, c, ?_, h6⟩
        have := h4 0 (by omega)
        simpa [Addr.add] using this
    obtain ⟨E, hE⟩ := choose_lt each
    have hsp : 0 < len → a.spot = none ∧ ¬ noM a.block ∧ a.block < W.heap.size := fun hp => by
      obtain ⟨V, h1, _⟩ := (hE 0 hp).2
      obtain ⟨q1, q2⟩ := cell_spot (a := a) (by simpa [Addr.add] using h1)
      exact ⟨q1, fun h => h, q2⟩
    have hlen : (((List.range len).map E).map (AV.roI k)).length = len := by simp
    refine ⟨(List.range len).map E, fun l hl' => ?_, ?_⟩
    · simp only [List.mem_map, List.mem_range] at hl'
      obtain ⟨i, hi, rfl⟩ := hl'
      exact (hE i hi).1
    have hgetE : ∀ i, i < len → (((List.range len).map E).map (AV.roI k)).getD i .undef = .roI k (E i) := fun i hi => by simp [List.getD_eq_getElem?_getD, hi]
    have cell : ∀ j, j < len * 1 → ∃ V, W.cell? ⟨a.block, a.off + j, none⟩ = some V ∧ GRel W noM (((((List.range len).map E).map (AV.roI k)).getD (j / 1) .undef).flat.getD (j % 1) .undef) V := fun j hj => by
      have hj : j < len := by omega
      obtain ⟨V, h1, h2⟩ := (hE j hj).2
      refine ⟨V, ?_, ?_⟩
      · rw [add_eq a j (hsp (by omega)).1] at h1
        exact h1
      · rw [Nat.div_one, Nat.mod_one, hgetE _ hj]
        exact h2
    obtain ⟨G, hG⟩ := choose_lt cell
    have := GRel.slice (w := W) (M := noM) (.ro 1 (((List.range len).map E).map (AV.roI k))) 1 len (fun j => ((((List.range len).map E).map (AV.roI k)).getD (j / 1) .undef).flat.getD (j % 1) .undef) a m G
      (by simp only [AV.rov, hlen]) hsp hl (fun i hi => by
        show ((((List.range len).map E).map (AV.roI k)).getD i .undef).flat.length = _
        rw [hgetE i hi]
        rfl) (fun j hj => (hG j hj).1) (fun j hj => (hG j hj).2)
    exact this
/-- a struct, by value -/
theorem gStructV {t : TypeId} {cks : List CK} {r : Reach} {b : Nat} {v : Value} {d : DataW H} {p : List MemPlace} (hs : structOk P t cks = true) (hval : Value.okWide P W r b t v) (h : DataW.Trod enc P W 0 (fun _ => true) held t v d p) :
    ∃ l : List AV, CKs cks l ∧ GRel W noM (.agg l) v := by
  have hs' := hs
  unfold structOk at hs
  split at hs
  · rename_i fs ht
    simp only [Bool.and_eq_true] at hs
    obtain ⟨cs, rfl, hsz⟩ := okWide_struct ht hval
    obtain ⟨fuel, hf⟩ := h
    have hf : DataW.trod enc P W 0 (fun _ => true) held fuel t cs.toList = some (d, p) := hf
    have hc := Nat.eq_of_beq_eq_true hs.2
    obtain ⟨l, h1, h2⟩ := gStruct hs' (by simp; omega) hf
    have hg : ∀ j, cs.toList.getD j default = cs.getD j default := fun j => by simp [List.getD_eq_getElem?_getD, Array.getD_eq_getD_getElem?]
    refine ⟨l, h1, .agg l cs (by rw [h1.length]; omega) fun j hj => ?_⟩
    rw [← hg]
    exact h2 j (by rw [← h1.length]; exact hj)
  · cases hs
end
/-- a list of values that are all of a form -/
theorem list_form {α β : Type} {f : α → β} {Q : α → Prop} : ∀ (L : List β), (∀ l ∈ L, ∃ s, l = f s ∧ Q s) → ∃ S : List α, L = S.map f ∧ ∀ s ∈ S, Q s
  | [], _ => ⟨[], rfl, by simp⟩
  | l :: L, h => by
    obtain ⟨s, rfl, hs⟩ := h l (by simp)
    obtain ⟨S, rfl, hS⟩ := list_form L fun l hl => h l (by simp [hl])
    exact ⟨s :: S, rfl, fun t ht => by
      rcases List.mem_cons.1 ht with rfl | ht
      · exact hs
      · exact hS t ht⟩
end Go.Ab
set_option linter.unusedVariables false
set_option linter.unusedSimpArgs false
namespace Go.Proofs.Ytomodeliimnddaa
open Go.Ab
theorem poll_arg {W : World} {v : Value} {l : List AV} (h : CKs [.int .u8, .int .u8, .int .u16, .int .i64, .int .i64, .int .i64, .int .i64, .int .i64] l) (g : GRel W noM (.agg l) v) : ∃ S : Po, GRel W noM (poA S) v ∧ 0 ≤ S.a ∧ S.a < 65536 := by
  match l, h.length, h with
  | [u, f, a, n, p, e, t, r], _, hc =>
    obtain ⟨⟨u, rfl, _⟩, ⟨f, rfl, _⟩, ⟨a, rfl, a1, a2⟩, ⟨n, rfl, _⟩, ⟨p, rfl, _⟩, ⟨e, rfl, _⟩, ⟨t, rfl, _⟩, ⟨r, rfl, _⟩, _⟩ := hc
    exact ⟨⟨u, f, a, n, p, e, t, r⟩, g, a1, Int.lt_add_one_of_le a2⟩
end Go.Proofs.Ytomodeliimnddaa
