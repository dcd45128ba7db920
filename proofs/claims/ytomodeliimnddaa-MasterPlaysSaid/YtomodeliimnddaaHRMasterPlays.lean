/- MasterPlays: a master sends just the document's requests, takes just its replies, misses, is stale, and latches just its values. Conditions: none beyond the row's. -/
import Derived.SizedLaws
import Derived.Test.YtomodeliimnddaaHMasterPlays1
set_option linter.unusedVariables false
namespace Go.Proofs.Ytomodeliimnddaa.masterPlays
open Go.ChangeShapes Go.WideShapes Go.ChangeAt Go.RowKit Go.Ab
open Go.ChangeMaps (open_string shut_string)
theorem own : ownKnob Try.prog.godebug = none := by kernel_rfl
theorem laidOut : laidOutB Try.prog = true := by kernel_rfl
set_option maxRecDepth 100000 in
theorem lifted (os : Os) (started : os.Started) (H : Type) (enc : TypeId × Value → H) :
    ReturnsInHanded {} Try.checked os 19 .any (Rows.masterPlaysSpec.pre6 enc Try.prog Try.f19 Rows.masterPlaysRow.domain false) (Rows.masterPlaysSpec.post enc Try.prog Try.f19 false true false false) := by
  refine returnsInHanded_of_change_sized (C := Try.checked) own started (by kernel_rfl) Try.func19
    (ChangeSpec.witness6 (enc := enc) (C := Try.checked) false ⟨#[], #[.slice none 0 0, .slice none 0 0], []⟩ 8 (by kernel_rfl) (by kernel_rfl) (by kernel_rfl) (by kernel_rfl)) ?_
  intro W base args ds gs before hval0 hW hcnd hsz _
  have hval : ∀ (j : Nat) t v, Try.f19.params[j]? = some t → args[j]? = some v → Value.okWide Try.prog W .any base t v := hval0
  have hW' := hW
  obtain ⟨p, q, hA0, hV, rfl, hfz, hnd⟩ := hW
  have hA : DataW.TrodAll enc Try.prog W 0 (fun _ => true) true Try.f19.params.toList args.toList ds p := hA0
  rw [Try.params19] at hA hval
  obtain ⟨v0, vs0, d0, ds0, p0, q0, hargs, rfl, rfl, h0, r0⟩ := trodAll_cons hA
  obtain ⟨v1, vs1, d1, ds1, p1, q1, rfl, rfl, rfl, h1, r1⟩ := trodAll_cons r0
  obtain ⟨rfl, rfl, rfl⟩ := trodAll_nil r1
  obtain rfl : args = #[v0, v1] := by cases args; simp_all
  obtain ⟨rfl, rfl⟩ := trodVars_none hV
  obtain ⟨a0, len0, cap0, rfl⟩ := okWide_slice Try.underlying90 (hval 0 90 v0 rfl rfl)
  have k0 := h0
  have lt0 : ∀ x ∈ p0, x.block < W.heap.size := by obtain ⟨m, hm⟩ := k0; exact DataW.trod_lt m _ _ _ hm
  obtain ⟨fu0, hf0⟩ := h0
  obtain ⟨M0, z0, y0⟩ := gStructs (cks := [.int .u8, .int .u8, .int .u16, .int .i64, .int .i64, .int .i64, .int .i64, .int .i64]) Try.underlying90 (by kernel_rfl) (by decide) hf0
  obtain ⟨S0, g0, s0⟩ := polls_arg z0 y0
  obtain ⟨a1, len1, cap1, rfl⟩ := okWide_slice Try.underlying113 (hval 1 113 v1 rfl rfl)
  have k1 := h1
  have lt1 : ∀ x ∈ p1, x.block < W.heap.size := by obtain ⟨m, hm⟩ := k1; exact DataW.trod_lt m _ _ _ hm
  obtain ⟨fu1, hf1⟩ := h1
  have hw1 : (d1.weights Try.prog 113).all (· ≤ reachBytes) = true := by
    rw [List.all_eq_true] at hsz ⊢
    intro n hn
    exact hsz n (DataW.weights_mem_each (j := 1) (t := 113) (d := d1) (by kernel_rfl) rfl n hn)
  obtain ⟨M1, z1, y1⟩ := gStructsL (cks := [.int .i64, .int .i64, .int .i64, .ints .u16, .bools, .ints .u8, .int .u16]) Try.underlying113 (by kernel_rfl) (by decide) (by kernel_rfl) hw1 hf1
  obtain ⟨S1, g1, s1⟩ := steps_arg z1 y1
  clear hA0 hval0
  refine (Ev.calls (W := W) (law19 S0 S1 s0 (fun x hx => (s1 x hx).1) (fun x hx => (s1 x hx).2)) rfl fun j hj => ?_).mono fun e W' ⟨he, bel⟩ => ?_
  · match j, hj with
    | 0, _ => exact g0
    | 1, _ => exact g1
    | j + 2, hj => exact absurd hj (by simp)
  subst he
  exact ⟨_, rfl, _, _, _, [], _, [], hW', trodAll_mk1 (shut_bool Try.underlying4 _), (trodAll_cons_mk (Below.trod laidOut (by kernel_rfl) (of_decide_eq_true (by kernel_rfl)) k0 bel lt0) (trodAll_cons_mk (Below.trod laidOut (by kernel_rfl) (of_decide_eq_true (by kernel_rfl)) k1 bel lt1) trodAll_mk0)), rfl, bel.frame _, fun h => by cases h⟩
theorem c1 : mapsRowed Try.prog = true := by kernel_rfl
theorem c2 : (Rows.masterPlaysRow.inPlace == Try.prog.inPlace 19) = true := by kernel_rfl
theorem c3 : (Rows.masterPlaysRow.unfollowed == Try.prog.unfollowed 19) = true := by kernel_rfl
theorem c4 : (Rows.masterPlaysRow.recurses == Try.prog.recurses 19) = true := by kernel_rfl
theorem c5 : (Rows.masterPlaysRow.named == Try.prog.varsNamed 19) = true := by kernel_rfl
theorem closed : joinedFacts Try.prog 19 Try.f19 Rows.masterPlaysSpec Rows.masterPlaysRow = true := by
  unfold joinedFacts
  rw [laidOut, c1, c2, c3, c4, c5]
  kernel_rfl
theorem over : Rows.masterPlaysRow.holds Try.pinned (OpenSpec.ofChange Rows.masterPlaysSpec) :=
  OpenClaim.holds_of_wide 19 Try.f19 rfl rfl rfl rfl rfl rfl rfl ⟨rfl, rfl, rfl, rfl, rfl⟩ rfl rfl rfl rfl rfl (by kernel_rfl) Try.func19 closed
    (of_decide_eq_true (by kernel_rfl)) (by unfold Func.isWrapper; first | (rw [if_pos (by decide +kernel)]; kernel_rfl) | (rw [if_neg (by decide +kernel)]; exact ⟨rfl, rfl⟩))
    (fun os started H enc _ => lifted os started H enc)
theorem proved : Rows.MasterPlaysSaid := over
#print axioms proved
end Go.Proofs.Ytomodeliimnddaa.masterPlays
