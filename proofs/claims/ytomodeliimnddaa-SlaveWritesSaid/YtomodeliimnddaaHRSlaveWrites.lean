/- SlaveWrites: a read behind a write tells what was written, and that nothing else has changed. Conditions: none beyond the row's. -/
import Derived.Test.YtomodeliimnddaaHSlaveWrites2
set_option linter.unusedVariables false
namespace Go.Proofs.Ytomodeliimnddaa.slaveWrites
open Go.ChangeShapes Go.WideShapes Go.ChangeAt Go.RowKit Go.Ab
open Go.ChangeMaps (open_string shut_string)

theorem own : ownKnob Try.prog.godebug = none := by kernel_rfl
theorem laidOut : laidOutB Try.prog = true := by kernel_rfl
set_option maxRecDepth 100000 in
theorem lifted (os : Os) (started : os.Started) (H : Type) (enc : TypeId × Value → H) :
    ReturnsInHanded {} Try.checked os 24 .any (Rows.slaveWritesSpec.pre6 enc Try.prog Try.f24 Rows.slaveWritesRow.domain false) (Rows.slaveWritesSpec.post enc Try.prog Try.f24 false true false false) := by
  refine returnsInHanded_of_change (C := Try.checked) own started (by kernel_rfl) Try.func24
    (ChangeSpec.witness6 (enc := enc) (C := Try.checked) false ⟨#[], #[.slice none 0 0, .int .u16 0, .slice none 0 0, .slice none 0 0, .int .u16 0, .int .u16 0], []⟩ 8 (by kernel_rfl) (by kernel_rfl) (by kernel_rfl) (by kernel_rfl)) ?_
  intro W base args ds gs before hval0 hW hcnd _
  have hval : ∀ (j : Nat) t v, Try.f24.params[j]? = some t → args[j]? = some v → Value.okWide Try.prog W .any base t v := hval0
  have hW' := hW
  obtain ⟨p, q, hA0, hV, rfl, hfz, hnd⟩ := hW
  have hA : DataW.TrodAll enc Try.prog W 0 (fun _ => true) true Try.f24.params.toList args.toList ds p := hA0
  rw [Try.params24] at hA hval
  obtain ⟨v0, vs0, d0, ds0, p0, q0, hargs, rfl, rfl, h0, r0⟩ := trodAll_cons hA
  obtain ⟨v1, vs1, d1, ds1, p1, q1, rfl, rfl, rfl, h1, r1⟩ := trodAll_cons r0
  obtain ⟨v2, vs2, d2, ds2, p2, q2, rfl, rfl, rfl, h2, r2⟩ := trodAll_cons r1
  obtain ⟨v3, vs3, d3, ds3, p3, q3, rfl, rfl, rfl, h3, r3⟩ := trodAll_cons r2
  obtain ⟨v4, vs4, d4, ds4, p4, q4, rfl, rfl, rfl, h4, r4⟩ := trodAll_cons r3
  obtain ⟨v5, vs5, d5, ds5, p5, q5, rfl, rfl, rfl, h5, r5⟩ := trodAll_cons r4
  obtain ⟨rfl, rfl, rfl⟩ := trodAll_nil r5
  obtain rfl : args = #[v0, v1, v2, v3, v4, v5] := by cases args; simp_all
  obtain ⟨rfl, rfl⟩ := trodVars_none hV
  obtain ⟨a0, len0, cap0, rfl⟩ := okWide_slice Try.underlying85 (hval 0 85 v0 rfl rfl)
  have k0 := h0
  have lt0 : ∀ x ∈ p0, x.block < W.heap.size := by obtain ⟨m, hm⟩ := k0; exact DataW.trod_lt m _ _ _ hm
  obtain ⟨fu0, hf0⟩ := h0
  obtain ⟨M0, z0, y0⟩ := gStructs (cks := [.int .i64, .int .i64, .int .u16]) Try.underlying85 (by kernel_rfl) (by decide) hf0
  obtain ⟨S0, g0, s0⟩ := puts_arg z0 y0
  obtain ⟨a1, rfl, rfl, rfl, w1⟩ := open_int Try.underlying30 (hval 1 30 v1 rfl rfl) h1
  have s1 := wf_has w1
  have g1 : GRel W noM (.int .u16 a1) (.int .u16 a1) := .int _ _
  have o2 : Cell.okWide Try.prog W .any base 35 v2 := by have := hval 2 35 v2 rfl rfl; simpa only [Value.okWide, Try.underlying35] using this
  obtain ⟨a2, len2, cap2, rfl⟩ := okWide_slice Try.underlying35 (hval 2 35 v2 rfl rfl)
  have k2 := h2
  have lt2 : ∀ x ∈ p2, x.block < W.heap.size := by obtain ⟨m, hm⟩ := k2; exact DataW.trod_lt m _ _ _ hm
  obtain ⟨fu2, hf2⟩ := h2
  obtain ⟨L2, g2, s2⟩ := gInts o2 Try.underlying35 Try.underlying30 (by kernel_rfl) hf2
  have o3 : Cell.okWide Try.prog W .any base 44 v3 := by have := hval 3 44 v3 rfl rfl; simpa only [Value.okWide, Try.underlying44] using this
  obtain ⟨a3, len3, cap3, rfl⟩ := okWide_slice Try.underlying44 (hval 3 44 v3 rfl rfl)
  have k3 := h3
  have lt3 : ∀ x ∈ p3, x.block < W.heap.size := by obtain ⟨m, hm⟩ := k3; exact DataW.trod_lt m _ _ _ hm
  obtain ⟨fu3, hf3⟩ := h3
  obtain ⟨L3, g3⟩ := gBools o3 Try.underlying44 Try.underlying4 (by kernel_rfl) hf3
  obtain ⟨a4, rfl, rfl, rfl, w4⟩ := open_int Try.underlying30 (hval 4 30 v4 rfl rfl) h4
  have s4 := wf_has w4
  have g4 : GRel W noM (.int .u16 a4) (.int .u16 a4) := .int _ _
  obtain ⟨a5, rfl, rfl, rfl, w5⟩ := open_int Try.underlying30 (hval 5 30 v5 rfl rfl) h5
  have s5 := wf_has w5
  have g5 : GRel W noM (.int .u16 a5) (.int .u16 a5) := .int _ _
  clear hA0 hval0
  refine (Ev.calls (W := W) (law24 S0 a1 L2 L3 a4 a5 s0 ⟨s1.1, Int.lt_add_one_of_le s1.2⟩ (fun x hx => ⟨(s2 x hx).1, Int.lt_add_one_of_le (s2 x hx).2⟩) ⟨s4.1, Int.lt_add_one_of_le s4.2⟩ ⟨s5.1, Int.lt_add_one_of_le s5.2⟩) rfl fun j hj => ?_).mono fun e W' ⟨he, bel⟩ => ?_
  · match j, hj with
    | 0, _ => exact g0
    | 1, _ => exact g1
    | 2, _ => exact g2
    | 3, _ => exact g3
    | 4, _ => exact g4
    | 5, _ => exact g5
    | j + 6, hj => exact absurd hj (by simp)
  subst he
  exact ⟨_, rfl, _, _, _, [], _, [], hW', trodAll_mk1 (shut_bool Try.underlying4 _), (trodAll_cons_mk (Below.trod laidOut (by kernel_rfl) (of_decide_eq_true (by kernel_rfl)) k0 bel lt0) (trodAll_cons_mk (shut_int Try.underlying30 w1) (trodAll_cons_mk (Below.trod laidOut (by kernel_rfl) (of_decide_eq_true (by kernel_rfl)) k2 bel lt2) (trodAll_cons_mk (Below.trod laidOut (by kernel_rfl) (of_decide_eq_true (by kernel_rfl)) k3 bel lt3) (trodAll_cons_mk (shut_int Try.underlying30 w4) (trodAll_cons_mk (shut_int Try.underlying30 w5) trodAll_mk0)))))), rfl, bel.frame _, fun h => by cases h⟩

theorem c1 : mapsRowed Try.prog = true := by kernel_rfl
theorem c2 : (Rows.slaveWritesRow.inPlace == Try.prog.inPlace 24) = true := by kernel_rfl
theorem c3 : (Rows.slaveWritesRow.unfollowed == Try.prog.unfollowed 24) = true := by kernel_rfl
theorem c4 : (Rows.slaveWritesRow.recurses == Try.prog.recurses 24) = true := by kernel_rfl
theorem c5 : (Rows.slaveWritesRow.named == Try.prog.varsNamed 24) = true := by kernel_rfl
theorem closed : joinedFacts Try.prog 24 Try.f24 Rows.slaveWritesSpec Rows.slaveWritesRow = true := by
  unfold joinedFacts
  rw [laidOut, c1, c2, c3, c4, c5]
  kernel_rfl
theorem over : Rows.slaveWritesRow.holds Try.pinned (OpenSpec.ofChange Rows.slaveWritesSpec) :=
  OpenClaim.holds_of_wide 24 Try.f24 rfl rfl rfl rfl rfl rfl rfl ⟨rfl, rfl, rfl, rfl, rfl⟩ rfl rfl rfl rfl rfl (by kernel_rfl) Try.func24 closed
    (of_decide_eq_true (by kernel_rfl)) (by unfold Func.isWrapper; first | (rw [if_pos (by decide +kernel)]; kernel_rfl) | (rw [if_neg (by decide +kernel)]; exact ⟨rfl, rfl⟩))
    (fun os started H enc _ => lifted os started H enc)
theorem proved : Rows.SlaveWritesSaid := over
#print axioms proved
end Go.Proofs.Ytomodeliimnddaa.slaveWrites
