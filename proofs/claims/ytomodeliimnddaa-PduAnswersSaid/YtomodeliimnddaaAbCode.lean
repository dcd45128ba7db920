/- The engine's soundness: code; a function's contract from its verification condition. -/
import Derived.Test.YtomodeliimnddaaAbSub
set_option linter.unusedVariables false
set_option linter.unusedSimpArgs false
set_option autoImplicit false
namespace Go.Ab

def Ex.out : Ex → Exit
  | .normal => .normal
  | .exit id => .exit id
  | .ret => .ret

/-- regions whose order is open: shown elsewhere -/
def DrawOk (P : Program) : Prop :=
  ∀ (F : From) (id : Nat) (ops : Array Oper) (p : List AStep), compReg P ops.toList true = some (.draw p) → dstOk F.N (.draw p) = true →
    ∀ {e s act ι w M} (K : Env → St → Prop) (Q : Exit → Act → World → Prop), Inv F e s act ι w M → drawW P p e s [] K →
      (∀ e' s' act' ι' w' M', Inv F e' s' act' ι' w' M' → K e' s' → Q .normal act' w') → (Code.region id ops true).wp P Q act w

/-- a loop, with what the program doesn't show -/
theorem wp_loop_ghost {P : Program} {c : Code} {Q : Exit → Act → World → Prop} {a : Act} {w : World} {α : Type} (I : α → Act → World → Prop) (μ : α → Nat) (x0 : α) (h₀ : I x0 a w)
    (round : ∀ x a w, I x a w → c.wp P (Exit.then (fun a' w' => ∃ x', I x' a' w' ∧ μ x' < μ x) Q) a w) : (Code.loop c).wp P Q a w := by
  intro b k cs
  have key : ∀ n x a w, μ x = n → I x a w →
      ∃ e a' w', Q e a' w' ∧ Arrives P (lone (b.at a (.code c :: .inLoop c :: k)) cs w) b k cs e a' w' := by
    intro n
    induction n using Nat.strongRecOn with
    | _ n ih =>
      intro x a w hn hI
      obtain ⟨e, a₁, w₁, hq, harr⟩ := round x a w hI b (.inLoop c :: k) cs
      cases e with
      | normal =>
        obtain ⟨x', hI₁, hlt⟩ := hq
        obtain ⟨e₂, a₂, w₂, hq₂, harr₂⟩ := ih (μ x') (hn ▸ hlt) x' a₁ w₁ rfl hI₁
        exact ⟨e₂, a₂, w₂, hq₂, .of_steps (Steps.trans harr (.one step_inLoop)) harr₂⟩
      | exit id => exact ⟨_, a₁, w₁, hq, .pass (x := .inLoop c) rfl (fun _ _ => .inl (by simp)) harr⟩
      | goto l => exact ⟨_, a₁, w₁, hq, .pass (x := .inLoop c) rfl (fun _ _ => .inl (by simp)) harr⟩
      | ret => exact ⟨_, a₁, w₁, hq, .pass (x := .inLoop c) rfl (fun _ _ => .inl (by simp)) harr⟩
      | panic ch => exact ⟨_, a₁, w₁, hq, .pass (x := .inLoop c) rfl (fun _ _ => .inl (by simp)) harr⟩
      | outgrown => exact ⟨_, a₁, w₁, hq, .pass (x := .inLoop c) rfl (fun _ _ => .inl (by simp)) harr⟩
  obtain ⟨e, a', w', hq, harr⟩ := key _ x0 a w rfl h₀
  exact ⟨e, a', w', hq, .of_steps (.one step_loop) harr⟩

section
variable {P : Program} {F : From}

theorem wpA_seq (n0 : Nat) (a b : ACode) (e : Env) (s : St) (K : Ex → Env → St → Prop) : wpA P n0 (.seq a b) e s K = wpA P n0 a e s fun x e s => match x with
      | .normal => wpA P n0 b e s K
      | .exit j => K (.exit j) e s
      | .ret => K .ret e s := rfl
theorem wpA_cond (n0 : Nat) (c : AOpd) (a b : ACode) (e : Env) (s : St) (K : Ex → Env → St → Prop) : wpA P n0 (.cond c a b) e s K = match c.ev e with
      | .bool t => bif t then wpA P n0 a e s K else wpA P n0 b e s K
      | _ => False := rfl
theorem wpA_block (n0 id : Nat) (a : ACode) (e : Env) (s : St) (K : Ex → Env → St → Prop) : wpA P n0 (.block id a) e s K = wpA P n0 a e s fun x e s => match x with
      | .normal => K .normal e s
      | .exit j => bif Nat.beq j id then K .normal e s else K (.exit j) e s
      | .ret => K .ret e s := rfl
theorem wpA_loop (n0 : Nat) (a : ACode) (e : Env) (s : St) (K : Ex → Env → St → Prop) : wpA P n0 (.loop a) e s K = LoopW n0 (wpA P n0 a) e s K := rfl

theorem wpA_sound (hD : DrawOk P) : ∀ (c : Code) (a : ACode), comp P c = some a → dstOk F.N a = true →
    ∀ {e s act ι w M} (K : Ex → Env → St → Prop) (Q : Exit → Act → World → Prop), Inv F e s act ι w M → wpA P F.n0 a e s K →
      (∀ x e' s' act' ι' w' M', Inv F e' s' act' ι' w' M' → K x e' s' → Q x.out act' w') → c.wp P Q act w := by
  intro c
  induction c with
  | skip =>
    intro a hc hd e s act ι w M K Q hI h hk
    simp only [comp, Option.some.injEq] at hc
    subst hc
    exact wp_skip (hk .normal _ _ _ _ _ _ hI h)
  | region id ops draw =>
    intro a hc hd e s act ι w M K Q hI h hk
    simp only [comp] at hc
    have hc' := hc
    unfold compReg at hc
    split at hc
    · rename_i l hl
      cases draw with
      | false =>
        simp only [cond_false, Option.some.injEq] at hc
        subst hc
        simp only [dstOk] at hd
        refine wp_region_list ?_
        have := regW_sound (Q := Q) (K := fun e s => K .normal e s) ops.toList 0 l hl hd hI h fun e' s' act' ι' w' M' hI' hK => hk .normal _ _ _ _ _ _ hI' hK
        simpa using this
      | true =>
        simp only [cond_true] at hc
        cases hp : planOk P ops.toList l (ancs ops.toList []) (plan (ancs ops.toList []) l l.length [] 0) with
        | true =>
          simp only [hp, cond_true, Option.some.injEq] at hc
          subst hc
          exact hD F id ops _ hc' hd (fun e s => K .normal e s) Q hI h fun e' s' act' ι' w' M' hI' hK => hk .normal _ _ _ _ _ _ hI' hK
        | false => simp [hp] at hc
    · simp at hc
  | seq x y ihx ihy =>
    intro a hc hd e s act ι w M K Q hI h hk
    simp only [comp] at hc
    split at hc
    · rename_i a' b' ha hb
      simp only [Option.some.injEq] at hc
      subst hc
      simp only [dstOk, Bool.and_eq_true] at hd
      rw [wpA_seq] at h
      refine wp_seq (ihx a' ha hd.1 _ _ hI h fun ex e' s' act' ι' w' M' hI' hK => ?_)
      cases ex with
      | normal => exact ihy b' hb hd.2 _ _ hI' hK hk
      | exit j => exact hk _ _ _ _ _ _ _ hI' hK
      | ret => exact hk _ _ _ _ _ _ _ hI' hK
    · simp at hc
  | cond cx x y ihx ihy =>
    intro a hc hd e s act ι w M K Q hI h hk
    simp only [comp] at hc
    split at hc
    · rename_i c' a' b' hcc ha hb
      simp only [Option.some.injEq] at hc
      subst hc
      simp only [dstOk, Bool.and_eq_true] at hd
      rw [wpA_cond] at h
      have hv := hI.env.orel _ _ hcc
      cases hb' : c'.ev e <;> simp only [hb'] at h
      rename_i t
      rw [hb'] at hv
      refine wp_cond hv.bool_inv ?_
      cases t
      · exact ihy b' hb hd.2 _ _ hI h hk
      · exact ihx a' ha hd.1 _ _ hI h hk
    · simp at hc
  | block id x ih =>
    intro a hc hd e s act ι w M K Q hI h hk
    simp only [comp] at hc
    obtain ⟨a', ha, rfl⟩ := map_some hc
    rw [wpA_block] at h
    refine wp_block (ih a' ha hd _ _ hI h fun ex e' s' act' ι' w' M' hI' hK => ?_)
    cases ex with
    | normal => exact hk .normal _ _ _ _ _ _ hI' hK
    | exit j =>
      simp only [Ex.out, Exit.inBlock]
      by_cases hj : j = id
      · subst hj
        have hb : Nat.beq j j = true := by simp
        simp only [hb, cond_true] at hK
        rw [if_pos rfl]
        exact hk .normal _ _ _ _ _ _ hI' hK
      · have hb : Nat.beq j id = false := by
          rw [Bool.eq_false_iff]
          exact fun e => hj (Nat.eq_of_beq_eq_true e)
        simp only [hb, cond_false] at hK
        rw [if_neg hj]
        exact hk (.exit j) _ _ _ _ _ _ hI' hK
    | ret => exact hk .ret _ _ _ _ _ _ hI' hK
  | loop x ih =>
    intro a hc hd e s act ι w M K Q hI h hk
    simp only [comp] at hc
    obtain ⟨a', ha, rfl⟩ := map_some hc
    rw [wpA_loop] at h
    unfold LoopW at h
    obtain ⟨α, E, S, μ, x0, h0, hr⟩ := h
    refine wp_loop_ghost (fun x act w => ∃ ι M, Inv F (E x) (S x) act ι w M) μ x0 ?_ fun x act w hx => ?_
    · obtain ⟨ι', hI'⟩ := sub_sound hI h0
      exact ⟨ι', M, hI'⟩
    · obtain ⟨ι1, M1, hI1⟩ := hx
      refine ih a' ha hd _ _ hI1 (hr x) fun ex e' s' act' ι' w' M' hI' hK => ?_
      cases ex with
      | normal =>
        obtain ⟨x', hs, hm⟩ := hK
        obtain ⟨ι2, hI2⟩ := sub_sound hI' hs
        exact ⟨x', ⟨ι2, M', hI2⟩, hm⟩
      | exit j => exact hk _ _ _ _ _ _ _ hI' hK
      | ret => exact hk _ _ _ _ _ _ _ hI' hK
  | exit id =>
    intro a hc hd e s act ι w M K Q hI h hk
    simp only [comp, Option.some.injEq] at hc
    subst hc
    exact wp_exit (hk (.exit id) _ _ _ _ _ _ hI h)
  | ret =>
    intro a hc hd e s act ι w M K Q hI h hk
    simp only [comp, Option.some.injEq] at hc
    subst hc
    exact wp_ret (hk .ret _ _ _ _ _ _ hI h)
  | rangeFunc f ps as body _ _ => intro a hc; simp [comp] at hc
  | scope body _ => intro a hc; simp [comp] at hc
  | label l => intro a hc; simp [comp] at hc
  | goto l => intro a hc; simp [comp] at hc
  | refuse why => intro a hc; simp [comp] at hc

theorem argsE_get : ∀ (l : List AV) (i u : Nat), (argsE i l).get u = if i ≤ u then l.getD (u - i) .undef else .undef
  | [], i, u => by simp [argsE, Env.get]
  | v :: r, i, u => by
    rw [argsE, Env.get_cons, argsE_get r (i + 1) u]
    by_cases h1 : i = u
    · subst h1; simp
    · rw [if_neg h1]
      by_cases h2 : i ≤ u
      · rw [if_pos h2, if_pos (by omega), show u - i = (u - (i + 1)) + 1 by omega]
        simp [List.getD_eq_getElem?_getD]
      · rw [if_neg h2, if_neg (by omega)]
theorem args_erel {ι : Iota} {w : World} {M : Nat → Prop} {args : List AV} {Vs : Array Value} {N : Nat} (h : VRels ι w M args Vs) : ERel ι w M (argsE 0 args) { tmps := Vs ++ Array.replicate (N - Vs.size) undef, defers := [] } := by
  intro u
  rw [argsE_get, if_pos (Nat.zero_le _), Nat.sub_zero]
  by_cases hu : u < args.length
  · have h1 : u < Vs.size := by rw [h.1]; exact hu
    have := h.2 u hu
    simpa [Array.getD_eq_getD_getElem?, Array.getElem?_append, h1] using this
  · rw [show args.getD u .undef = .undef by simp [List.getD_eq_getElem?_getD, List.getElem?_eq_none (Nat.le_of_not_lt hu)]]
    exact .undef _

theorem resW_nil (e : Env) (s : St) (K : List AV → Prop) : resW e s [] K = K [] := rfl
theorem resW_cons (e : Env) (s : St) (r : ARes) (l : List ARes) (K : List AV → Prop) : resW e s (r :: l) K = match r with
      | .t n => forceV (e.get n) fun v => resW e s l fun l => K (v :: l)
      | .cell n agg sz => match e.get n with
        | .ptr h off => match s.get h with
          | some c => bif (c.ld agg off sz).1 then forceV (c.ld agg off sz).2 fun v => resW e s l fun l => K (v :: l) else False
          | none => False
        | _ => False := rfl

def rv (tmps : Array Value) : ResultVar → Sem Value
  | .tmp t => pure (tmps.getD t undef)
  | .cell a t => do loadVar t (← asAddr (tmps.getD a undef))
theorem results_eq (fn : Func) (tmps : Array Value) : results fn tmps = (do let vs ← fn.results.mapM (rv tmps); pure (if h : vs.size = 1 then vs[0] else .tuple vs)) := by
  unfold results
  have : ∀ x, (match x with
    | .tmp t => pure (tmps.getD t undef)
    | .cell a t => (do loadVar t (← asAddr (tmps.getD a undef)) : Sem Value)) = rv tmps x := fun x => by cases x <;> rfl
  rfl
theorem res_sound {ι : Iota} {s : St} {w : World} {M : Nat → Prop} {e : Env} {act : Act} (hI : Inv F e s act ι w M) : ∀ (rs : List ResultVar) (ars : List ARes), compRes P rs = some ars → ∀ (K : List AV → Prop), resW e s ars K →
    ∃ (l : List AV) (vs : List Value), (rs.mapM (rv act.tmps)).run P w = .ok vs w ∧ VRels ι w M l vs.toArray ∧ K l
  | [], ars, hc, K, h => by
    simp only [compRes, Option.some.injEq] at hc
    subst hc
    exact ⟨[], [], by simp, ⟨rfl, fun j hj => by simp at hj⟩, h⟩
  | .tmp t :: r, ars, hc, K, h => by
    simp only [compRes] at hc
    obtain ⟨l, hl, rfl⟩ := map_some hc
    rw [resW_cons] at h
    simp only [forceV_eq] at h
    obtain ⟨l', vs, h1, h2, h3⟩ := res_sound hI r l hl _ h
    refine ⟨e.get t :: l', act.tmps.getD t undef :: vs, ?_, ?_, h3⟩
    · rw [List.mapM_cons]
      simp only [rv, Sem.run_bind, Sem.run_pure, Result.andThen_ok]
      rw [h1]
      simp
    · obtain ⟨k1, k2⟩ := h2
      refine ⟨by simpa using k1, fun j hj => ?_⟩
      cases j with
      | zero => simpa using hI.env t
      | succ j => simpa using k2 j (by simpa using hj)
  | .cell t ty :: r, ars, hc, K, h => by
    simp only [compRes] at hc
    split at hc
    · rename_i ag n l ha hz hl
      split at hc
      · rename_i hk
        simp only [Option.some.injEq] at hc
        subst hc
        have hk' : ag = true ∨ n = 1 := by simpa using hk
        rw [resW_cons] at h
        have hv := hI.env t
        cases hp : e.get t <;> simp only [hp] at h
        rename_i hh off
        rw [hp] at hv
        cases hg : s.get hh with
        | none => simp [hg] at h
        | some c =>
          simp only [hg] at h
          cases hld : (c.ld ag off n).1 with
          | false => simp [hld] at h
          | true =>
            simp only [hld, cond_true, forceV_eq] at h
            obtain ⟨l', vs, h1, h2, h3⟩ := res_sound hI r l hl _ h
            obtain ⟨V, h4, h5⟩ := load_ptr (P := P) (t := ty) (v := (c.ld ag off n).2) hv hI.rep.hget hg ha hz hk' (by rw [← hld])
            obtain ⟨b, base, _, hX⟩ := hv.ptr_inv
            refine ⟨(c.ld ag off n).2 :: l', V :: vs, ?_, ?_, h3⟩
            · rw [List.mapM_cons]
              rw [hX] at h4
              simp only [Instr.loadAt, Instr.sureAddr, Sem.run_bind, Sem.run_pure, Result.andThen_ok] at h4
              simp only [rv, hX, asAddr, Sem.run_bind, Sem.run_pure, Result.andThen_ok, h4]
              rw [h1]
              simp
            · obtain ⟨k1, k2⟩ := h2
              refine ⟨by simpa using k1, fun j hj => ?_⟩
              cases j with
              | zero => simpa using h5
              | succ j => simpa using k2 j (by simpa using hj)
      · simp at hc
    · simp at hc

theorem ret_rel {ι : Iota} {w : World} {M : Nat → Prop} {l : List AV} {vs : List Value} {K : AV → St → Prop} {s : St} (h : VRels ι w M l vs.toArray) (hK : retW K s l) :
    ∃ v, VRel ι w M v (if hh : vs.toArray.size = 1 then vs.toArray[0] else .tuple vs.toArray) ∧ K v s := by
  obtain ⟨h1, h2⟩ := h
  match l, hK with
  | [v], hK =>
    refine ⟨v, ?_, hK⟩
    have hs : vs.toArray.size = 1 := by simpa using h1
    rw [dif_pos hs]
    have := h2 0 (by simp)
    match vs, hs with
    | [V], _ => simpa using this
  | [], hK =>
    refine ⟨.tup [], ?_, hK⟩
    rw [dif_neg (by rw [h1]; simp)]
    exact .tup _ _ h1 h2
  | a :: b :: r, hK =>
    refine ⟨.tup (a :: b :: r), ?_, hK⟩
    rw [dif_neg (by rw [h1]; simp)]
    exact .tup _ _ h1 h2

/-- a function does what its verification condition says -/
theorem fn_sound (hD : DrawOk P) {f : Nat} {fn : Func} {a : ACode} {rs : List ARes} {args : List AV} {s : St} {K : AV → St → Prop} (hf : P.funcs[f]? = some fn) (hb : hasBody P f = true) (hc : compF P fn = some (a, rs)) (h : fnW P a rs args s K) : Tr P f args s K := by
  unfold compF at hc
  split at hc
  · rename_i c hbody
    split at hc
    · rename_i a' rs' ha hrs
      split at hc
      · rename_i hd
        simp only [Option.some.injEq, Prod.mk.injEq] at hc
        obtain ⟨rfl, rfl⟩ := hc
        unfold Tr
        refine ⟨hb, fun ι w M Vs hR hV => calls_of_wp hf hbody ?_⟩
        let F : From := ⟨ι, s, w, M, hR.lt, s.next, fn.ntmps⟩
        have hI : Inv F (argsE 0 args) s { tmps := Vs ++ Array.replicate (fn.ntmps - Vs.size) undef, defers := [] } ι w M :=
          ⟨hR, args_erel hV, by simp [F]; omega, rfl, Go.refl ι s w M (Nat.le_refl _)⟩
        refine wpA_sound (F := F) hD c a' ha hd _ _ hI h fun x e' s' act' ι' w' M' hI' hK => ?_
        have fin : resW e' s' rs' (retW K s') → act'.defers = [] ∧ ∃ v, (results fn act'.tmps).run P w' = .ok v w' ∧ ∃ V ι' M' v' s', Ending.returned v = .returned V ∧ K v' s' ∧ VRel ι' w' M' v' V ∧ Rep ι' s' w' M' ∧ Go s.next ι s w M ι' s' w' M' := by
          intro hres
          refine ⟨hI'.dfr, ?_⟩
          obtain ⟨l, vs, h1, h2, h3⟩ := res_sound (P := P) hI' _ _ hrs _ hres
          obtain ⟨v, h4, h5⟩ := ret_rel h2 h3
          refine ⟨_, ?_, _, ι', M', v, s', rfl, h5, h4, hI'.rep, hI'.go⟩
          rw [results_eq, Array.mapM_eq_mapM_toList]
          simp only [Sem.run_bind, map_eq_pure_bind]
          rw [h1]
          simp only [Result.andThen_ok, Sem.run_pure]
        cases x with
        | normal => exact fin hK
        | exit j => exact hK.elim
        | ret => exact fin hK
      · simp at hc
    · simp at hc
  · simp at hc

end
end Go.Ab
