/- PduAnswers: of any request and any bytes it is told as the document says whether they answer it, and what. Conditions: none beyond the row's. -/
import Derived.Test.YtomodeliimnddaaAbLaw8
import Derived.Test.YtomodeliimnddaaAbRow
set_option linter.unusedVariables false
namespace Go.Proofs.Ytomodeliimnddaa.pduAnswers
open Go.ChangeShapes Go.WideShapes Go.ChangeAt Go.RowKit Go.Ab
open Go.ChangeMaps (open_string shut_string)

theorem own : ownKnob Try.prog.godebug = none := by kernel_rfl
theorem laidOut : laidOutB Try.prog = true := by kernel_rfl
set_option maxRecDepth 100000 in
theorem lifted (os : Os) (started : os.Started) (H : Type) (enc : TypeId × Value → H) :
    ReturnsInHanded {} Try.checked os 8 .any (Rows.pduAnswersSpec.pre6 enc Try.prog Try.f8 Rows.pduAnswersRow.domain false) (Rows.pduAnswersSpec.post enc Try.prog Try.f8 false true false false) := by
  refine returnsInHanded_of_change (C := Try.checked) own started (by kernel_rfl) Try.func8
    (ChangeSpec.witness6 (enc := enc) (C := Try.checked) false ⟨#[], #[.agg #[.int .u8 0, .int .u16 0, .int .u16 0, .int .u16 0, .slice none 0 0, .slice none 0 0], .slice none 0 0], []⟩ 8 (by kernel_rfl) (by kernel_rfl) (by kernel_rfl) (by kernel_rfl)) ?_
  intro W base args ds gs before hval0 hW hcnd _
  have hval : ∀ (j : Nat) t v, Try.f8.params[j]? = some t → args[j]? = some v → Value.okWide Try.prog W .any base t v := hval0
  have hW' := hW
  obtain ⟨p, q, hA0, hV, rfl, hfz, hnd⟩ := hW
  have hA : DataW.TrodAll enc Try.prog W 0 (fun _ => true) true Try.f8.params.toList args.toList ds p := hA0
  rw [Try.params8] at hA hval
  obtain ⟨v0, vs0, d0, ds0, p0, q0, hargs, rfl, rfl, h0, r0⟩ := trodAll_cons hA
  obtain ⟨v1, vs1, d1, ds1, p1, q1, rfl, rfl, rfl, h1, r1⟩ := trodAll_cons r0
  obtain ⟨rfl, rfl, rfl⟩ := trodAll_nil r1
  obtain rfl : args = #[v0, v1] := by cases args; simp_all
  obtain ⟨rfl, rfl⟩ := trodVars_none hV
  have k0 := h0
  have lt0 : ∀ x ∈ p0, x.block < W.heap.size := by obtain ⟨m, hm⟩ := k0; exact DataW.trod_lt m _ _ _ hm
  obtain ⟨n0_0, n0_1, n0_2, n0_3, B0, R0, g0, s0_0, s0_1, s0_2, s0_3, s0_5⟩ := gSix (W := W) Try.underlying46 ⟨rfl, rfl, rfl, rfl, rfl, rfl⟩ Try.underlying5 Try.underlying30 Try.underlying30 Try.underlying30 Try.underlying44 Try.underlying35 Try.underlying4 Try.underlying30 ⟨by kernel_rfl, by kernel_rfl, by kernel_rfl, by kernel_rfl, by kernel_rfl, by kernel_rfl⟩ (by kernel_rfl) (by kernel_rfl) (by kernel_rfl) (by kernel_rfl) (hval 0 46 v0 rfl rfl) h0
  have o1 : Cell.okWide Try.prog W .any base 48 v1 := by have := hval 1 48 v1 rfl rfl; simpa only [Value.okWide, Try.underlying48] using this
  obtain ⟨a1, len1, cap1, rfl⟩ := okWide_slice Try.underlying48 (hval 1 48 v1 rfl rfl)
  have k1 := h1
  have lt1 : ∀ x ∈ p1, x.block < W.heap.size := by obtain ⟨m, hm⟩ := k1; exact DataW.trod_lt m _ _ _ hm
  obtain ⟨fu1, hf1⟩ := h1
  obtain ⟨L1, g1, s1⟩ := gInts o1 Try.underlying48 Try.underlying5 (by kernel_rfl) hf1
  clear hA0 hval0
  refine (Ev.calls (W := W) (law8 n0_0 n0_1 n0_2 n0_3 B0 R0 L1 ⟨s0_0.1, Int.lt_add_one_of_le s0_0.2⟩ ⟨s0_2.1, Int.lt_add_one_of_le s0_2.2⟩ (fun x hx => ⟨(s1 x hx).1, Int.lt_add_one_of_le (s1 x hx).2⟩)) rfl fun j hj => ?_).mono fun e W' ⟨he, bel⟩ => ?_
  · match j, hj with
    | 0, _ => exact g0
    | 1, _ => exact g1
    | j + 2, hj => exact absurd hj (by simp)
  subst he
  exact ⟨_, rfl, _, _, _, [], _, [], hW', trodAll_mk1 (shut_bool Try.underlying4 _), (trodAll_cons_mk (Below.trod laidOut (by kernel_rfl) (of_decide_eq_true (by kernel_rfl)) k0 bel lt0) (trodAll_cons_mk (Below.trod laidOut (by kernel_rfl) (of_decide_eq_true (by kernel_rfl)) k1 bel lt1) trodAll_mk0)), rfl, bel.frame _, fun h => by cases h⟩

theorem c1 : mapsRowed Try.prog = true := by kernel_rfl
theorem c2 : (Rows.pduAnswersRow.inPlace == Try.prog.inPlace 8) = true := by kernel_rfl
theorem c3 : (Rows.pduAnswersRow.unfollowed == Try.prog.unfollowed 8) = true := by kernel_rfl
theorem c4 : (Rows.pduAnswersRow.recurses == Try.prog.recurses 8) = true := by kernel_rfl
theorem c5 : (Rows.pduAnswersRow.named == Try.prog.varsNamed 8) = true := by kernel_rfl
theorem closed : joinedFacts Try.prog 8 Try.f8 Rows.pduAnswersSpec Rows.pduAnswersRow = true := by
  unfold joinedFacts
  rw [laidOut, c1, c2, c3, c4, c5]
  kernel_rfl
theorem over : Rows.pduAnswersRow.holds Try.pinned (OpenSpec.ofChange Rows.pduAnswersSpec) :=
  OpenClaim.holds_of_wide 8 Try.f8 rfl rfl rfl rfl rfl rfl rfl ⟨rfl, rfl, rfl, rfl, rfl⟩ rfl rfl rfl rfl rfl (by kernel_rfl) Try.func8 closed
    (of_decide_eq_true (by kernel_rfl)) (by unfold Func.isWrapper; first | (rw [if_pos (by decide +kernel)]; kernel_rfl) | (rw [if_neg (by decide +kernel)]; exact ⟨rfl, rfl⟩))
    (fun os started H enc _ => lifted os started H enc)
theorem proved : Rows.PduAnswersSaid := over
#print axioms proved
end Go.Proofs.Ytomodeliimnddaa.pduAnswers
