/- MasterMany: answers come to the polls that asked, in whatever order they come, each once. Conditions: none beyond the row's. -/
import Derived.Test.YtomodeliimnddaaHMasterMany0
set_option linter.unusedVariables false
namespace Go.Proofs.Ytomodeliimnddaa.masterMany
open Go.ChangeShapes Go.WideShapes Go.ChangeAt Go.RowKit Go.Ab
open Go.ChangeMaps (open_string shut_string)

theorem own : ownKnob Try.prog.godebug = none := by kernel_rfl
theorem laidOut : laidOutB Try.prog = true := by kernel_rfl
set_option maxRecDepth 100000 in
theorem lifted (os : Os) (started : os.Started) (H : Type) (enc : TypeId × Value → H) :
    ReturnsInHanded {} Try.checked os 21 .any (Rows.masterManySpec.pre6 enc Try.prog Try.f21 Rows.masterManyRow.domain false) (Rows.masterManySpec.post enc Try.prog Try.f21 false true false false) := by
  refine returnsInHanded_of_change (C := Try.checked) own started (by kernel_rfl) Try.func21
    (ChangeSpec.witness6 (enc := enc) (C := Try.checked) false ⟨#[], #[.int .i64 0, .slice none 0 0, .slice none 0 0], []⟩ 8 (by kernel_rfl) (by kernel_rfl) (by kernel_rfl) (by kernel_rfl)) ?_
  intro W base args ds gs before hval0 hW hcnd _
  have hval : ∀ (j : Nat) t v, Try.f21.params[j]? = some t → args[j]? = some v → Value.okWide Try.prog W .any base t v := hval0
  have hW' := hW
  obtain ⟨p, q, hA0, hV, rfl, hfz, hnd⟩ := hW
  have hA : DataW.TrodAll enc Try.prog W 0 (fun _ => true) true Try.f21.params.toList args.toList ds p := hA0
  rw [Try.params21] at hA hval
  obtain ⟨v0, vs0, d0, ds0, p0, q0, hargs, rfl, rfl, h0, r0⟩ := trodAll_cons hA
  obtain ⟨v1, vs1, d1, ds1, p1, q1, rfl, rfl, rfl, h1, r1⟩ := trodAll_cons r0
  obtain ⟨v2, vs2, d2, ds2, p2, q2, rfl, rfl, rfl, h2, r2⟩ := trodAll_cons r1
  obtain ⟨rfl, rfl, rfl⟩ := trodAll_nil r2
  obtain rfl : args = #[v0, v1, v2] := by cases args; simp_all
  obtain ⟨rfl, rfl⟩ := trodVars_none hV
  obtain ⟨a0, rfl, rfl, rfl, w0⟩ := open_int Try.underlying3 (hval 0 3 v0 rfl rfl) h0
  have s0 := wf_has w0
  have g0 : GRel W noM (.int .i64 a0) (.int .i64 a0) := .int _ _
  have o1 : Cell.okWide Try.prog W .any base 48 v1 := by have := hval 1 48 v1 rfl rfl; simpa only [Value.okWide, Try.underlying48] using this
  obtain ⟨a1, len1, cap1, rfl⟩ := okWide_slice Try.underlying48 (hval 1 48 v1 rfl rfl)
  have k1 := h1
  have lt1 : ∀ x ∈ p1, x.block < W.heap.size := by obtain ⟨m, hm⟩ := k1; exact DataW.trod_lt m _ _ _ hm
  obtain ⟨fu1, hf1⟩ := h1
  obtain ⟨L1, g1, s1⟩ := gInts o1 Try.underlying48 Try.underlying5 (by kernel_rfl) hf1
  have o2 : Cell.okWide Try.prog W .any base 35 v2 := by have := hval 2 35 v2 rfl rfl; simpa only [Value.okWide, Try.underlying35] using this
  obtain ⟨a2, len2, cap2, rfl⟩ := okWide_slice Try.underlying35 (hval 2 35 v2 rfl rfl)
  have k2 := h2
  have lt2 : ∀ x ∈ p2, x.block < W.heap.size := by obtain ⟨m, hm⟩ := k2; exact DataW.trod_lt m _ _ _ hm
  obtain ⟨fu2, hf2⟩ := h2
  obtain ⟨L2, g2, s2⟩ := gInts o2 Try.underlying35 Try.underlying30 (by kernel_rfl) hf2
  clear hA0 hval0
  refine (Ev.calls (W := W) (law21 a0 L1 L2 (fun x hx => ⟨(s1 x hx).1, Int.lt_add_one_of_le (s1 x hx).2⟩) (fun x hx => ⟨(s2 x hx).1, Int.lt_add_one_of_le (s2 x hx).2⟩)) rfl fun j hj => ?_).mono fun e W' ⟨he, bel⟩ => ?_
  · match j, hj with
    | 0, _ => exact g0
    | 1, _ => exact g1
    | 2, _ => exact g2
    | j + 3, hj => exact absurd hj (by simp)
  subst he
  exact ⟨_, rfl, _, _, _, [], _, [], hW', trodAll_mk1 (shut_bool Try.underlying4 _), (trodAll_cons_mk (shut_int Try.underlying3 w0) (trodAll_cons_mk (Below.trod laidOut (by kernel_rfl) (of_decide_eq_true (by kernel_rfl)) k1 bel lt1) (trodAll_cons_mk (Below.trod laidOut (by kernel_rfl) (of_decide_eq_true (by kernel_rfl)) k2 bel lt2) trodAll_mk0))), rfl, bel.frame _, fun h => by cases h⟩

theorem c1 : mapsRowed Try.prog = true := by kernel_rfl
theorem c2 : (Rows.masterManyRow.inPlace == Try.prog.inPlace 21) = true := by kernel_rfl
theorem c3 : (Rows.masterManyRow.unfollowed == Try.prog.unfollowed 21) = true := by kernel_rfl
theorem c4 : (Rows.masterManyRow.recurses == Try.prog.recurses 21) = true := by kernel_rfl
theorem c5 : (Rows.masterManyRow.named == Try.prog.varsNamed 21) = true := by kernel_rfl
theorem closed : joinedFacts Try.prog 21 Try.f21 Rows.masterManySpec Rows.masterManyRow = true := by
  unfold joinedFacts
  rw [laidOut, c1, c2, c3, c4, c5]
  kernel_rfl
theorem over : Rows.masterManyRow.holds Try.pinned (OpenSpec.ofChange Rows.masterManySpec) :=
  OpenClaim.holds_of_wide 21 Try.f21 rfl rfl rfl rfl rfl rfl rfl ⟨rfl, rfl, rfl, rfl, rfl⟩ rfl rfl rfl rfl rfl (by kernel_rfl) Try.func21 closed
    (of_decide_eq_true (by kernel_rfl)) (by unfold Func.isWrapper; first | (rw [if_pos (by decide +kernel)]; kernel_rfl) | (rw [if_neg (by decide +kernel)]; exact ⟨rfl, rfl⟩))
    (fun os started H enc _ => lifted os started H enc)
theorem proved : Rows.MasterManySaid := over
#print axioms proved
end Go.Proofs.Ytomodeliimnddaa.masterMany
