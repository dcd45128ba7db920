/- From a statement's row to the engine's contract: the package variable that is read; calls. -/
import Derived.Test.YtaafinlbepaboaaGreatDoorRows
import Derived.WalkKit
import Derived.ProofKit
import Derived.OpenShut
import Derived.FnData
import Derived.ChangeOld
import Derived.Below
import Derived.Lay
import Derived.LaidSub
import Derived.Test.YtaafinlbepaboaaGreatDoorHTopRestart3
set_option linter.unusedVariables false
set_option linter.unusedSimpArgs false
namespace Go.Ab
open Go.ChangeShapes Go.WideShapes Go.RowKit
def noM : Nat → Prop := fun _ => False
section
variable {P : Program} {W : World}
theorem wf_has {k : IntKind} {n : Int} (h : (Lit.int k n).wf = true) : k.min ≤ n ∧ n ≤ k.max := by
  simpa [Lit.wf] using h
/-- what a statement's walk needs, from a contract -/
theorem Ev.calls {f : Nat} {args : List AV} {Vs : Array Value} (hg : GlobOk W noM) (h : Ev P f args (.bool true)) (hs : Vs.size = args.length) (hV : ∀ j, j < args.length → GRel W noM (args.getD j .undef) (Vs.getD j default)) :
    Calls P f Vs W fun e W' => e = .returned (.bool true) ∧ Below W.heap.size W W' := by
  obtain ⟨_, ht⟩ := h
  unfold Tr at ht
  have hR : Rep (fun _ => none) ⟨0, []⟩ W noM := ⟨fun _ _ => rfl, fun h c hg => (by cases hg), fun h h' c c' p p' hg => (by cases hg), fun b hb => False.elim hb, hg⟩
  refine Calls.mono (ht.2 (fun _ => none) W noM Vs hR ⟨hs, fun j hj => .g _ _ (hV j hj)⟩) fun e W' he => ?_
  obtain ⟨V, ι', M', v, s', rfl, ⟨rfl, rfl⟩, h1, h2, h3⟩ := he
  obtain rfl := h1.bool_inv
  exact ⟨rfl, h3.os, h3.tape, h3.output, h3.size, fun k hk => h3.block k hk fun ⟨h, c, base, hg, _⟩ => by cases hg⟩
end
end Go.Ab
namespace Go.Proofs.YtaafinlbepaboaaGreatDoor
open Go Go.Ab
def spI (i : Nat) : Int := bif Nat.beq i 32 || (Nat.ble 9 i && Nat.ble i 13) then 1 else 0
theorem space_eq {H : Type} : (Rows.laid_strings_asciiSpace : DataW H) = .agg ((List.range 256).map fun i => .lit (.int .u8 (spI i))) := by kernel_rfl
theorem gName : Tryz.prog.globalNamed "strings.asciiSpace" = some 0 := by kernel_rfl
theorem gType : (Tryz.prog.globals[0]?).map (·.type) = some 511 := by kernel_rfl
theorem u511 : Tryz.prog.underlying 511 = some (.array 256 5) := by kernel_rfl
theorem u5 : Tryz.prog.underlying 5 = some (.int .u8) := by kernel_rfl
theorem c5' : Tryz.prog.cellsOf 5 = 1 := by kernel_rfl
/-- the variable's cells -/
theorem glob_of {W : World} {l : List (String × DataW Unit)} (hh : (l.filter fun x => x.2.handleName?.isSome) = []) (h : laidMetH Tryz.prog (("strings.asciiSpace", Rows.laid_strings_asciiSpace) :: l) W)
    (h1 : (Rows.laid_strings_asciiSpace : DataW Unit).handleName?.isSome = false) : GlobOk W noM := by
  have hm : laidMet Tryz.prog (("strings.asciiSpace", Rows.laid_strings_asciiSpace) :: l) W := by
    unfold laidMetH at h
    rw [List.filter_cons_of_neg (by simp [h1]), hh] at h
    exact h
  obtain ⟨ps, hL, _, _⟩ := hm
  obtain ⟨g, t, cs, fuel, p, q, e1, e2, e3, e4, _, _⟩ := hL
  obtain rfl : g = 0 := Option.some.inj (e1.symm.trans gName)
  obtain rfl : t = 511 := Option.some.inj (e2.symm.trans gType)
  obtain ⟨xs, m, _, hx, _, hn, hi⟩ := DataW.trod_array u511 e4
  have hxs : ((List.range 256).map fun i => DataW.lit (H := Unit) (.int .u8 (spI i))) = xs.map (·.1) := by
    have := congrArg (·.1) hx
    simp only [space_eq, DataW.agg.injEq] at this
    exact this
  have hcell : ∀ i, i < 256 → W.cell? ⟨0, i, none⟩ = some (.int .u8 (spI i)) := fun i hlt => by
    have hx1 := hi i hlt
    have hlt' : i < xs.length := by omega
    rw [List.getElem?_eq_getElem hlt'] at hx1
    obtain ⟨n, hc, hv, _⟩ := DataW.trod_int u5 hx1
    have h2 : (xs.map (·.1))[i]? = some (.lit (.int .u8 n)) := by
      rw [List.getElem?_map, List.getElem?_eq_getElem hlt', hv]; rfl
    rw [← hxs, List.getElem?_map, List.getElem?_range hlt] at h2
    simp only [Option.map_some, Option.some.injEq, DataW.lit.injEq, Lit.int.injEq, true_and] at h2
    subst h2
    rw [c5', Nat.mul_one] at hc
    rw [World.var?_cell gName e3 i]
    have h3 : (cs.toList.drop i)[0]? = some (.int .u8 (spI i)) := by
      have : ((cs.toList.drop i).take 1)[0]? = some (.int .u8 (spI i)) := by rw [hc]; rfl
      rwa [List.getElem?_take, if_pos (by decide)] at this
    rw [List.getElem?_drop] at h3
    simpa using h3
  intro g v hv
  have hb : 0 < W.heap.size := by
    have := hcell 0 (by decide)
    simp only [World.cell?] at this
    by_cases hz : 0 < W.heap.size
    · exact hz
    · rw [Array.getElem?_eq_none (by omega)] at this
      cases this
  unfold globT globOf at hv
  cases hg : Nat.beq 0 g with
  | false => rw [hg] at hv; cases hv
  | true =>
    rw [hg] at hv
    obtain rfl := Nat.eq_of_beq_eq_true hg
    cases hv
    have hsl : spaceL.length = 256 := by simp [spaceL]
    refine .cptr _ ⟨0, 0, none⟩ (fun j => .int .u8 (spI j)) rfl (fun h => h) hb (fun j hj => ?_) fun j hj => ?_
    · show W.cell? ⟨0, 0 + j, none⟩ = _
      rw [Nat.zero_add]
      exact hcell j (by rw [← hsl]; exact hj)
    · have hj' : j < 256 := by rw [← hsl]; exact hj
      have : (AV.agg spaceL).flat.getD j .undef = .int .u8 (spI j) := by
        show spaceL.getD j .undef = _
        simp only [spaceL, List.getD_eq_getElem?_getD, List.getElem?_map, List.getElem?_range hj', Option.map_some, Option.getD_some]
        rfl
      rw [this]
      exact .int _ _
end Go.Proofs.YtaafinlbepaboaaGreatDoor
