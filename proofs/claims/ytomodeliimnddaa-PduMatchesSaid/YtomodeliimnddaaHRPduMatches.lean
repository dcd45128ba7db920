/- PduMatches: a reply that is written for a request is read as that, with each of the functions, and as an exception; and it answers no request of another function. Conditions: none beyond the row's. -/
import Derived.Test.YtomodeliimnddaaHPduMatches1
set_option linter.unusedVariables false
namespace Go.Proofs.Ytomodeliimnddaa.pduMatches
open Go.ChangeShapes Go.WideShapes Go.ChangeAt Go.RowKit Go.Ab
open Go.ChangeMaps (open_string shut_string)

theorem own : ownKnob Try.prog.godebug = none := by kernel_rfl
theorem laidOut : laidOutB Try.prog = true := by kernel_rfl
set_option maxRecDepth 100000 in
theorem lifted (os : Os) (started : os.Started) (H : Type) (enc : TypeId × Value → H) :
    ReturnsInHanded {} Try.checked os 9 .any (Rows.pduMatchesSpec.pre6 enc Try.prog Try.f9 Rows.pduMatchesRow.domain false) (Rows.pduMatchesSpec.post enc Try.prog Try.f9 false true false false) := by
  refine returnsInHanded_of_change (C := Try.checked) own started (by kernel_rfl) Try.func9
    (ChangeSpec.witness6 (enc := enc) (C := Try.checked) false ⟨#[], #[.agg #[.int .u8 0, .int .u16 0, .int .u16 0, .int .u16 0, .slice none 0 0, .slice none 0 0], .slice none 0 0, .slice none 0 0, .int .u8 0, .int .u8 0], []⟩ 8 (by kernel_rfl) (by kernel_rfl) (by kernel_rfl) (by kernel_rfl)) ?_
  intro W base args ds gs before hval0 hW hcnd _
  have hval : ∀ (j : Nat) t v, Try.f9.params[j]? = some t → args[j]? = some v → Value.okWide Try.prog W .any base t v := hval0
  have hW' := hW
  obtain ⟨p, q, hA0, hV, rfl, hfz, hnd⟩ := hW
  have hA : DataW.TrodAll enc Try.prog W 0 (fun _ => true) true Try.f9.params.toList args.toList ds p := hA0
  rw [Try.params9] at hA hval
  obtain ⟨v0, vs0, d0, ds0, p0, q0, hargs, rfl, rfl, h0, r0⟩ := trodAll_cons hA
  obtain ⟨v1, vs1, d1, ds1, p1, q1, rfl, rfl, rfl, h1, r1⟩ := trodAll_cons r0
  obtain ⟨v2, vs2, d2, ds2, p2, q2, rfl, rfl, rfl, h2, r2⟩ := trodAll_cons r1
  obtain ⟨v3, vs3, d3, ds3, p3, q3, rfl, rfl, rfl, h3, r3⟩ := trodAll_cons r2
  obtain ⟨v4, vs4, d4, ds4, p4, q4, rfl, rfl, rfl, h4, r4⟩ := trodAll_cons r3
  obtain ⟨rfl, rfl, rfl⟩ := trodAll_nil r4
  obtain rfl : args = #[v0, v1, v2, v3, v4] := by cases args; simp_all
  obtain ⟨rfl, rfl⟩ := trodVars_none hV
  have k0 := h0
  have lt0 : ∀ x ∈ p0, x.block < W.heap.size := by obtain ⟨m, hm⟩ := k0; exact DataW.trod_lt m _ _ _ hm
  obtain ⟨n0_0, n0_1, n0_2, n0_3, B0, R0, g0, s0_0, s0_1, s0_2, s0_3, s0_5⟩ := gSix (W := W) Try.underlying46 ⟨rfl, rfl, rfl, rfl, rfl, rfl⟩ Try.underlying5 Try.underlying30 Try.underlying30 Try.underlying30 Try.underlying44 Try.underlying35 Try.underlying4 Try.underlying30 ⟨by kernel_rfl, by kernel_rfl, by kernel_rfl, by kernel_rfl, by kernel_rfl, by kernel_rfl⟩ (by kernel_rfl) (by kernel_rfl) (by kernel_rfl) (by kernel_rfl) (hval 0 46 v0 rfl rfl) h0
  have o1 : Cell.okWide Try.prog W .any base 44 v1 := by have := hval 1 44 v1 rfl rfl; simpa only [Value.okWide, Try.underlying44] using this
  obtain ⟨a1, len1, cap1, rfl⟩ := okWide_slice Try.underlying44 (hval 1 44 v1 rfl rfl)
  have k1 := h1
  have lt1 : ∀ x ∈ p1, x.block < W.heap.size := by obtain ⟨m, hm⟩ := k1; exact DataW.trod_lt m _ _ _ hm
  obtain ⟨fu1, hf1⟩ := h1
  obtain ⟨L1, g1⟩ := gBools o1 Try.underlying44 Try.underlying4 (by kernel_rfl) hf1
  have o2 : Cell.okWide Try.prog W .any base 35 v2 := by have := hval 2 35 v2 rfl rfl; simpa only [Value.okWide, Try.underlying35] using this
  obtain ⟨a2, len2, cap2, rfl⟩ := okWide_slice Try.underlying35 (hval 2 35 v2 rfl rfl)
  have k2 := h2
  have lt2 : ∀ x ∈ p2, x.block < W.heap.size := by obtain ⟨m, hm⟩ := k2; exact DataW.trod_lt m _ _ _ hm
  obtain ⟨fu2, hf2⟩ := h2
  obtain ⟨L2, g2, s2⟩ := gInts o2 Try.underlying35 Try.underlying30 (by kernel_rfl) hf2
  obtain ⟨a3, rfl, rfl, rfl, w3⟩ := open_int Try.underlying5 (hval 3 5 v3 rfl rfl) h3
  have s3 := wf_has w3
  have g3 : GRel W noM (.int .u8 a3) (.int .u8 a3) := .int _ _
  obtain ⟨a4, rfl, rfl, rfl, w4⟩ := open_int Try.underlying5 (hval 4 5 v4 rfl rfl) h4
  have s4 := wf_has w4
  have g4 : GRel W noM (.int .u8 a4) (.int .u8 a4) := .int _ _
  clear hA0 hval0
  refine (Ev.calls (W := W) (law9 n0_0 n0_1 n0_2 n0_3 B0 R0 L1 L2 a3 a4 ⟨s0_0.1, Int.lt_add_one_of_le s0_0.2⟩ ⟨s0_2.1, Int.lt_add_one_of_le s0_2.2⟩ ⟨s3.1, Int.lt_add_one_of_le s3.2⟩ (fun x hx => ⟨(s2 x hx).1, Int.lt_add_one_of_le (s2 x hx).2⟩)) rfl fun j hj => ?_).mono fun e W' ⟨he, bel⟩ => ?_
  · match j, hj with
    | 0, _ => exact g0
    | 1, _ => exact g1
    | 2, _ => exact g2
    | 3, _ => exact g3
    | 4, _ => exact g4
    | j + 5, hj => exact absurd hj (by simp)
  subst he
  exact ⟨_, rfl, _, _, _, [], _, [], hW', trodAll_mk1 (shut_bool Try.underlying4 _), (trodAll_cons_mk (Below.trod laidOut (by kernel_rfl) (of_decide_eq_true (by kernel_rfl)) k0 bel lt0) (trodAll_cons_mk (Below.trod laidOut (by kernel_rfl) (of_decide_eq_true (by kernel_rfl)) k1 bel lt1) (trodAll_cons_mk (Below.trod laidOut (by kernel_rfl) (of_decide_eq_true (by kernel_rfl)) k2 bel lt2) (trodAll_cons_mk (shut_int Try.underlying5 w3) (trodAll_cons_mk (shut_int Try.underlying5 w4) trodAll_mk0))))), rfl, bel.frame _, fun h => by cases h⟩

theorem c1 : mapsRowed Try.prog = true := by kernel_rfl
theorem c2 : (Rows.pduMatchesRow.inPlace == Try.prog.inPlace 9) = true := by kernel_rfl
theorem c3 : (Rows.pduMatchesRow.unfollowed == Try.prog.unfollowed 9) = true := by kernel_rfl
theorem c4 : (Rows.pduMatchesRow.recurses == Try.prog.recurses 9) = true := by kernel_rfl
theorem c5 : (Rows.pduMatchesRow.named == Try.prog.varsNamed 9) = true := by kernel_rfl
theorem closed : joinedFacts Try.prog 9 Try.f9 Rows.pduMatchesSpec Rows.pduMatchesRow = true := by
  unfold joinedFacts
  rw [laidOut, c1, c2, c3, c4, c5]
  kernel_rfl
theorem over : Rows.pduMatchesRow.holds Try.pinned (OpenSpec.ofChange Rows.pduMatchesSpec) :=
  OpenClaim.holds_of_wide 9 Try.f9 rfl rfl rfl rfl rfl rfl rfl ⟨rfl, rfl, rfl, rfl, rfl⟩ rfl rfl rfl rfl rfl (by kernel_rfl) Try.func9 closed
    (of_decide_eq_true (by kernel_rfl)) (by unfold Func.isWrapper; first | (rw [if_pos (by decide +kernel)]; kernel_rfl) | (rw [if_neg (by decide +kernel)]; exact ⟨rfl, rfl⟩))
    (fun os started H enc _ => lifted os started H enc)
theorem proved : Rows.PduMatchesSaid := over
#print axioms proved
end Go.Proofs.Ytomodeliimnddaa.pduMatches
