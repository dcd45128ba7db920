/- PduReads: any bytes at all are read as a request, or refused, just as the document says. Conditions: none beyond the row's. -/
import Derived.Test.YtomodeliimnddaaAbLaw6
import Derived.Test.YtomodeliimnddaaAbRow
set_option linter.unusedVariables false
namespace Go.Proofs.Ytomodeliimnddaa.pduReads
open Go.ChangeShapes Go.WideShapes Go.ChangeAt Go.RowKit Go.Ab
open Go.ChangeMaps (open_string shut_string)

theorem own : ownKnob Try.prog.godebug = none := by kernel_rfl
theorem laidOut : laidOutB Try.prog = true := by kernel_rfl
set_option maxRecDepth 100000 in
theorem lifted (os : Os) (started : os.Started) (H : Type) (enc : TypeId × Value → H) :
    ReturnsInHanded {} Try.checked os 6 .any (Rows.pduReadsSpec.pre6 enc Try.prog Try.f6 Rows.pduReadsRow.domain false) (Rows.pduReadsSpec.post enc Try.prog Try.f6 false true false false) := by
  refine returnsInHanded_of_change (C := Try.checked) own started (by kernel_rfl) Try.func6
    (ChangeSpec.witness6 (enc := enc) (C := Try.checked) false ⟨#[], #[.slice none 0 0], []⟩ 8 (by kernel_rfl) (by kernel_rfl) (by kernel_rfl) (by kernel_rfl)) ?_
  intro W base args ds gs before hval0 hW hcnd _
  have hval : ∀ (j : Nat) t v, Try.f6.params[j]? = some t → args[j]? = some v → Value.okWide Try.prog W .any base t v := hval0
  have hW' := hW
  obtain ⟨p, q, hA0, hV, rfl, hfz, hnd⟩ := hW
  have hA : DataW.TrodAll enc Try.prog W 0 (fun _ => true) true Try.f6.params.toList args.toList ds p := hA0
  rw [Try.params6] at hA hval
  obtain ⟨v0, vs0, d0, ds0, p0, q0, hargs, rfl, rfl, h0, r0⟩ := trodAll_cons hA
  obtain ⟨rfl, rfl, rfl⟩ := trodAll_nil r0
  obtain rfl : args = #[v0] := by cases args; simp_all
  obtain ⟨rfl, rfl⟩ := trodVars_none hV
  have o0 : Cell.okWide Try.prog W .any base 48 v0 := by have := hval 0 48 v0 rfl rfl; simpa only [Value.okWide, Try.underlying48] using this
  obtain ⟨a0, len0, cap0, rfl⟩ := okWide_slice Try.underlying48 (hval 0 48 v0 rfl rfl)
  have k0 := h0
  have lt0 : ∀ x ∈ p0, x.block < W.heap.size := by obtain ⟨m, hm⟩ := k0; exact DataW.trod_lt m _ _ _ hm
  obtain ⟨fu0, hf0⟩ := h0
  obtain ⟨L0, g0, s0⟩ := gInts o0 Try.underlying48 Try.underlying5 (by kernel_rfl) hf0
  clear hA0 hval0
  refine (Ev.calls (W := W) (law6 L0 (fun x hx => ⟨(s0 x hx).1, Int.lt_add_one_of_le (s0 x hx).2⟩)) rfl fun j hj => ?_).mono fun e W' ⟨he, bel⟩ => ?_
  · match j, hj with
    | 0, _ => exact g0
    | j + 1, hj => exact absurd hj (by simp)
  subst he
  exact ⟨_, rfl, _, _, _, [], _, [], hW', trodAll_mk1 (shut_bool Try.underlying4 _), (trodAll_cons_mk (Below.trod laidOut (by kernel_rfl) (of_decide_eq_true (by kernel_rfl)) k0 bel lt0) trodAll_mk0), rfl, bel.frame _, fun h => by cases h⟩

theorem c1 : mapsRowed Try.prog = true := by kernel_rfl
theorem c2 : (Rows.pduReadsRow.inPlace == Try.prog.inPlace 6) = true := by kernel_rfl
theorem c3 : (Rows.pduReadsRow.unfollowed == Try.prog.unfollowed 6) = true := by kernel_rfl
theorem c4 : (Rows.pduReadsRow.recurses == Try.prog.recurses 6) = true := by kernel_rfl
theorem c5 : (Rows.pduReadsRow.named == Try.prog.varsNamed 6) = true := by kernel_rfl
theorem closed : joinedFacts Try.prog 6 Try.f6 Rows.pduReadsSpec Rows.pduReadsRow = true := by
  unfold joinedFacts
  rw [laidOut, c1, c2, c3, c4, c5]
  kernel_rfl
theorem over : Rows.pduReadsRow.holds Try.pinned (OpenSpec.ofChange Rows.pduReadsSpec) :=
  OpenClaim.holds_of_wide 6 Try.f6 rfl rfl rfl rfl rfl rfl rfl ⟨rfl, rfl, rfl, rfl, rfl⟩ rfl rfl rfl rfl rfl (by kernel_rfl) Try.func6 closed
    (of_decide_eq_true (by kernel_rfl)) (by unfold Func.isWrapper; first | (rw [if_pos (by decide +kernel)]; kernel_rfl) | (rw [if_neg (by decide +kernel)]; exact ⟨rfl, rfl⟩))
    (fun os started H enc _ => lifted os started H enc)
theorem proved : Rows.PduReadsSaid := over
#print axioms proved
end Go.Proofs.Ytomodeliimnddaa.pduReads
