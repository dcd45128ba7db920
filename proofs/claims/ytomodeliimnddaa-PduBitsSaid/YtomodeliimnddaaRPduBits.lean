/- PduBits: bits are packed into bytes, the lowest first, and taken out again, any number of them. Conditions: none beyond the row's. -/
import Derived.Test.YtomodeliimnddaaAbLaw10
import Derived.Test.YtomodeliimnddaaAbRow
set_option linter.unusedVariables false
namespace Go.Proofs.Ytomodeliimnddaa.pduBits
open Go.ChangeShapes Go.WideShapes Go.ChangeAt Go.RowKit Go.Ab
open Go.ChangeMaps (open_string shut_string)

theorem own : ownKnob Try.prog.godebug = none := by kernel_rfl
theorem laidOut : laidOutB Try.prog = true := by kernel_rfl
set_option maxRecDepth 100000 in
theorem lifted (os : Os) (started : os.Started) (H : Type) (enc : TypeId × Value → H) :
    ReturnsInHanded {} Try.checked os 10 .any (Rows.pduBitsSpec.pre6 enc Try.prog Try.f10 Rows.pduBitsRow.domain false) (Rows.pduBitsSpec.post enc Try.prog Try.f10 false true false false) := by
  refine returnsInHanded_of_change (C := Try.checked) own started (by kernel_rfl) Try.func10
    (ChangeSpec.witness6 (enc := enc) (C := Try.checked) false ⟨#[], #[.slice none 0 0, .slice none 0 0, .int .i64 0], []⟩ 8 (by kernel_rfl) (by kernel_rfl) (by kernel_rfl) (by kernel_rfl)) ?_
  intro W base args ds gs before hval0 hW hcnd _
  have hval : ∀ (j : Nat) t v, Try.f10.params[j]? = some t → args[j]? = some v → Value.okWide Try.prog W .any base t v := hval0
  have hW' := hW
  obtain ⟨p, q, hA0, hV, rfl, hfz, hnd⟩ := hW
  have hA : DataW.TrodAll enc Try.prog W 0 (fun _ => true) true Try.f10.params.toList args.toList ds p := hA0
  rw [Try.params10] at hA hval
  obtain ⟨v0, vs0, d0, ds0, p0, q0, hargs, rfl, rfl, h0, r0⟩ := trodAll_cons hA
  obtain ⟨v1, vs1, d1, ds1, p1, q1, rfl, rfl, rfl, h1, r1⟩ := trodAll_cons r0
  obtain ⟨v2, vs2, d2, ds2, p2, q2, rfl, rfl, rfl, h2, r2⟩ := trodAll_cons r1
  obtain ⟨rfl, rfl, rfl⟩ := trodAll_nil r2
  obtain rfl : args = #[v0, v1, v2] := by cases args; simp_all
  obtain ⟨rfl, rfl⟩ := trodVars_none hV
  have o0 : Cell.okWide Try.prog W .any base 44 v0 := by have := hval 0 44 v0 rfl rfl; simpa only [Value.okWide, Try.underlying44] using this
  obtain ⟨a0, len0, cap0, rfl⟩ := okWide_slice Try.underlying44 (hval 0 44 v0 rfl rfl)
  have k0 := h0
  have lt0 : ∀ x ∈ p0, x.block < W.heap.size := by obtain ⟨m, hm⟩ := k0; exact DataW.trod_lt m _ _ _ hm
  obtain ⟨fu0, hf0⟩ := h0
  obtain ⟨L0, g0⟩ := gBools o0 Try.underlying44 Try.underlying4 (by kernel_rfl) hf0
  have o1 : Cell.okWide Try.prog W .any base 48 v1 := by have := hval 1 48 v1 rfl rfl; simpa only [Value.okWide, Try.underlying48] using this
  obtain ⟨a1, len1, cap1, rfl⟩ := okWide_slice Try.underlying48 (hval 1 48 v1 rfl rfl)
  have k1 := h1
  have lt1 : ∀ x ∈ p1, x.block < W.heap.size := by obtain ⟨m, hm⟩ := k1; exact DataW.trod_lt m _ _ _ hm
  obtain ⟨fu1, hf1⟩ := h1
  obtain ⟨L1, g1, s1⟩ := gInts o1 Try.underlying48 Try.underlying5 (by kernel_rfl) hf1
  obtain ⟨a2, rfl, rfl, rfl, w2⟩ := open_int Try.underlying3 (hval 2 3 v2 rfl rfl) h2
  have s2 := wf_has w2
  have g2 : GRel W noM (.int .i64 a2) (.int .i64 a2) := .int _ _
  clear hA0 hval0
  refine (Ev.calls (W := W) (law10 L0 L1 a2) rfl fun j hj => ?_).mono fun e W' ⟨he, bel⟩ => ?_
  · match j, hj with
    | 0, _ => exact g0
    | 1, _ => exact g1
    | 2, _ => exact g2
    | j + 3, hj => exact absurd hj (by simp)
  subst he
  exact ⟨_, rfl, _, _, _, [], _, [], hW', trodAll_mk1 (shut_bool Try.underlying4 _), (trodAll_cons_mk (Below.trod laidOut (by kernel_rfl) (of_decide_eq_true (by kernel_rfl)) k0 bel lt0) (trodAll_cons_mk (Below.trod laidOut (by kernel_rfl) (of_decide_eq_true (by kernel_rfl)) k1 bel lt1) (trodAll_cons_mk (shut_int Try.underlying3 w2) trodAll_mk0))), rfl, bel.frame _, fun h => by cases h⟩

theorem c1 : mapsRowed Try.prog = true := by kernel_rfl
theorem c2 : (Rows.pduBitsRow.inPlace == Try.prog.inPlace 10) = true := by kernel_rfl
theorem c3 : (Rows.pduBitsRow.unfollowed == Try.prog.unfollowed 10) = true := by kernel_rfl
theorem c4 : (Rows.pduBitsRow.recurses == Try.prog.recurses 10) = true := by kernel_rfl
theorem c5 : (Rows.pduBitsRow.named == Try.prog.varsNamed 10) = true := by kernel_rfl
theorem closed : joinedFacts Try.prog 10 Try.f10 Rows.pduBitsSpec Rows.pduBitsRow = true := by
  unfold joinedFacts
  rw [laidOut, c1, c2, c3, c4, c5]
  kernel_rfl
theorem over : Rows.pduBitsRow.holds Try.pinned (OpenSpec.ofChange Rows.pduBitsSpec) :=
  OpenClaim.holds_of_wide 10 Try.f10 rfl rfl rfl rfl rfl rfl rfl ⟨rfl, rfl, rfl, rfl, rfl⟩ rfl rfl rfl rfl rfl (by kernel_rfl) Try.func10 closed
    (of_decide_eq_true (by kernel_rfl)) (by unfold Func.isWrapper; first | (rw [if_pos (by decide +kernel)]; kernel_rfl) | (rw [if_neg (by decide +kernel)]; exact ⟨rfl, rfl⟩))
    (fun os started H enc _ => lifted os started H enc)
theorem proved : Rows.PduBitsSaid := over
#print axioms proved
end Go.Proofs.Ytomodeliimnddaa.pduBits
