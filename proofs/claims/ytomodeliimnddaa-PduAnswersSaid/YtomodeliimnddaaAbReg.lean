/- The engine's soundness: regions in the order of the text. -/
import Derived.Test.YtomodeliimnddaaAbOps8
import Derived.Orders
set_option linter.unusedVariables false
set_option linter.unusedSimpArgs false
set_option autoImplicit false
namespace Go.Ab

/-- slots hold what is known of them -/
def ERel (ι : Iota) (w : World) (M : Nat → Prop) (e : Env) (act : Act) : Prop := ∀ u, VRel ι w M (e.get u) (act.tmps.getD u undef)

/-- where a call began -/
structure From where
  ι : Iota
  s : St
  w : World
  M : Nat → Prop
  lt : ∀ b, M b → b < w.heap.size
  n0 : Nat
  N : Nat

structure Inv (F : From) (e : Env) (s : St) (act : Act) (ι : Iota) (w : World) (M : Nat → Prop) : Prop where
  rep : Rep ι s w M
  env : ERel ι w M e act
  size : F.N ≤ act.tmps.size
  dfr : act.defers = []
  go : Go F.n0 F.ι F.s F.w F.M ι s w M

section
variable {P : Program} {ι : Iota} {s : St} {w : World} {M : Nat → Prop} {e : Env} {act : Act} {F : From}

theorem Env.get_cons (d u : Nat) (v : AV) (e : Env) : Env.get ((d, v) :: e) u = if d = u then v else e.get u := by
  simp only [Env.get]
  by_cases hu : d = u
  · subst hu; simp
  · rw [if_neg hu]
    have : Nat.beq d u = false := by
      rw [Bool.eq_false_iff]
      exact fun e => hu (Nat.eq_of_beq_eq_true e)
    simp [this]

theorem ERel.orel (h : ERel ι w M e act) : ORel ι w M (AOpd.ev e) act.eval := by
  intro x y hy
  cases x <;> simp only [opd, Option.some.injEq, reduceCtorEq] at hy
  · subst hy; exact h _
  · obtain ⟨a, ha, rfl⟩ := map_some hy; exact ofV_rel ha
  · subst hy; exact .g _ _ (.fn _)
theorem ERel.mono {ι' : Iota} {w' : World} {M' : Nat → Prop} (hi : Imm w M w' M') (hx : ∀ h p, ι h = some p → ι' h = some p) (h : ERel ι w M e act) : ERel ι' w' M' e act := fun u => (h u).mono hi hx
theorem slotIn_lt {n d : Nat} (h : slotIn n (some d) = true) : d < n := by
  simp only [slotIn, blt_eq, decide_eq_true_eq] at h; exact h
theorem put_size (act : Act) (d : Option Nat) (V : Value) : (act.put d V).tmps.size = act.tmps.size := by cases d <;> simp [Act.put]
theorem put_defers (act : Act) (d : Option Nat) (V : Value) : (act.put d V).defers = act.defers := by cases d <;> rfl
theorem ERel.put {d : Option Nat} {v : AV} {V : Value} {N : Nat} (h : ERel ι w M e act) (hv : VRel ι w M v V) (hd : slotIn N d = true) (hN : N ≤ act.tmps.size) : ERel ι w M (putE e d v) (act.put d V) := by
  cases d with
  | none => exact h
  | some d =>
    have hlt := slotIn_lt hd
    intro u
    simp only [putE, Act.put, Env.get_cons]
    by_cases hu : d = u
    · subst hu
      rw [if_pos rfl]
      have : d < act.tmps.size := by omega
      simpa [Array.getD, this] using hv
    · rw [if_neg hu]
      have : (act.tmps.setIfInBounds d V).getD u undef = act.tmps.getD u undef := by
        simp only [Array.getD_eq_getD_getElem?, Array.getElem?_setIfInBounds_ne hu]
      rw [this]
      exact h u

theorem eval_func (act : Act) (f : Nat) : act.eval (.func f) = .func (.func f) #[] #[] := rfl

theorem get_next_none (hR : Rep ι s w M) : s.get s.next = none := by
  cases h : s.get s.next with
  | none => rfl
  | some c => exact absurd (hR.none_of_get h) (by omega)

theorem mk_does {n0 : Nat} {o : Sem Next} {v : AV} {c : Chunk} (hR : Rep ι s w M) (hn : n0 ≤ s.next) (h : MkN P ι w M o s.next v c) : DoesN P n0 ι s w M o v (s.app (.new c)) := by
  obtain ⟨V, cs, T, h1, h2, h3, h4⟩ := h
  have hi : ι s.next = none := hR.fresh _ (Nat.le_refl _)
  have hg := get_next_none hR
  have hR1 : Rep ι ⟨s.next + 1, s.m⟩ w M := hR.next (by omega)
  have hR2 := Rep.alloc (cs := cs) (T := T) (h := s.next) hR1 hi (by simp) hg
  have hx := ι.set_ext s.next (some (w.heap.size, 0)) hi
  have hI := Imm.alloc (w := w) (M := M) (.cells cs T)
  refine ⟨V, ι.set s.next (some (w.heap.size, 0)), _, addM M w.heap.size, .inl h1, h4 _ _ (ι.set_same _ _), ?_, ?_, hx, hI⟩
  · refine hR2.put (.inr ⟨w.heap.size, 0, ι.set_same _ _, .inr rfl, ⟨cs, T, (0, 0), heap_alloc_new w _, fun i _ => by omega, by omega, fun j hj => ?_⟩, fun j c' p hne hc' hp => ?_⟩)
    · rw [Nat.zero_add]
      exact (h3 j hj).mono hI hx
    · rw [ι.set_other _ _ _ hne] at hp
      have hM := hR.ownM ⟨j, c', p.2, hc', hp⟩
      have := hR.lt _ hM
      omega
  · have hgo := Go.alloc (n0 := n0) (h := s.next) (o := .cells cs T) (p := some (w.heap.size, 0)) (ι := ι) (s := s) (w := w) (M := M) hn hn hg hi
    refine ⟨hgo.size, hgo.tape, hgo.os, hgo.output, hgo.block, hgo.shape, hgo.back, hgo.keep, fun b hb ho => ?_, by simp only [St.app]; omega, hgo.ext⟩
    obtain ⟨j, c', base, h1, h2⟩ := ho
    simp only [St.app, St.get_cons] at h1
    split at h1
    · rename_i he
      subst he
      rw [ι.set_same] at h2
      simp only [Option.some.injEq, Prod.mk.injEq] at h2
      omega
    · rename_i he
      rw [ι.set_other _ _ _ (fun e => he e.symm)] at h2
      exact ⟨j, c', base, h1, h2⟩

/-- every operation -/
theorem op_does {n0 : Nat} {o : Oper} {a : AOp} {v : AV} {eff : Eff} (hc : compOp P o.op = some a) (hR : Rep ι s w M) (hρ : ERel ι w M e act) (hn : n0 ≤ s.next) (h : opD s.get s.next (AOpd.ev e) a = .ok true v eff) :
    DoesN P n0 ι s w M (execOp act.eval o) v (s.app eff) := by
  cases hE : a.isE with
  | true => exact (op_eff hc hE hR hρ.orel (eval_func act) hn).1 v eff h
  | false =>
    cases hA : a.isA with
    | true =>
      obtain ⟨c, rfl, hm⟩ := op_make hc hA hρ.orel h
      exact mk_does hR hn hm
    | false =>
      obtain ⟨⟨V, h1, h2⟩, rfl⟩ := op_pure hc hE hA hρ.orel hR.hget h
      exact ⟨V, ι, w, M, .inl h1, h2, hR, Go.refl ι s w M hn, fun _ _ h => h, Imm.refl w M⟩

theorem op_calls {o : Oper} {a : AOp} {f : Nat} {args : List AV} (hc : compOp P o.op = some a) (hR : Rep ι s w M) (hρ : ERel ι w M e act) (h : opD s.get s.next (AOpd.ev e) a = .call f args) (hb : hasBody P f = true) :
    ∃ Vs, (execOp act.eval o).run P w = .ok (.enter f Vs) w ∧ VRels ι w M args Vs := by
  cases hE : a.isE with
  | true => exact (op_eff hc hE hR hρ.orel (eval_func act) (Nat.zero_le _)).2 f args h hb
  | false =>
    exfalso
    cases a <;> simp only [AOp.isE, reduceCtorEq] at hE <;> simp only [opD] at h
    all_goals first
      | (simp at h; done)
      | (split at h <;> first | (simp at h; done) | (split at h <;> first | (simp at h; done) | (split at h <;> simp at h; done)))
      | (simp only [sliceA] at h; split at h <;> first | (simp at h; done) | (split at h <;> first | (simp at h; done) | (split at h <;> simp at h; done)))
      | (simp only [idxA] at h; split at h <;> first | (simp at h; done) | (split at h <;> first | (simp at h; done) | (split at h <;> simp at h; done)))
      | (simp only [convA] at h; split at h <;> first | (simp at h; done) | (split at h <;> first | (simp at h; done) | (split at h <;> simp at h; done)))
      | (simp only [unA] at h; split at h <;> first | (simp at h; done) | (split at h <;> first | (simp at h; done) | (split at h <;> simp at h; done)))

theorem Inv.put {d : Option Nat} {v : AV} {V : Value} (h : Inv F e s act ι w M) (hv : VRel ι w M v V) (hd : slotIn F.N d = true) : Inv F (putE e d v) s (act.put d V) ι w M :=
  ⟨h.rep, h.env.put hv hd h.size, by rw [put_size]; exact h.size, by rw [put_defers]; exact h.dfr, h.go⟩

/-- a later world -/
theorem Inv.step {ι' : Iota} {s' : St} {w' : World} {M' : Nat → Prop} (h : Inv F e s act ι w M) (hR : Rep ι' s' w' M') (hg : Go F.n0 ι s w M ι' s' w' M') (hx : ∀ h p, ι h = some p → ι' h = some p) (hi : Imm w M w' M') : Inv F e s' act ι' w' M' :=
  ⟨hR, h.env.mono hi hx, h.size, h.dfr, h.go.trans hg F.lt⟩

theorem Rep.ext_all {n0 : Nat} {ι' : Iota} {s' : St} {w' : World} {M' : Nat → Prop} (hR : Rep ι s w M) (hg : Go s.next ι s w M ι' s' w' M') : ∀ h p, ι h = some p → ι' h = some p := fun h p hp => by
  rcases Nat.lt_or_ge h s.next with hl | hl
  · rw [hg.ext h hl]; exact hp
  · rw [hR.fresh h hl] at hp; cases hp

theorem ins_sound {o : Oper} {i : AIns} {K : Env → St → Prop} {next : Act → World → Prop} {Q : Exit → Act → World → Prop} (hop : compOp P o.op = some i.op) (hdst : i.dst = o.dst) (hslot : slotIn F.N i.dst = true) (hI : Inv F e s act ι w M)
    (h : insW s s.get e i (fun v eff => putW e i.dst v fun e => appW s eff fun s => K e s) (fun f args => Tr P f args s fun v s => forceV v fun v => putW e i.dst v fun e => K e s))
    (hk : ∀ e' s' act' ι' w' M', Inv F e' s' act' ι' w' M' → K e' s' → next act' w') : o.wp P act w next Q := by
  unfold insW at h
  split at h
  · rename_i c v eff hd
    cases c with
    | false => simp at h
    | true =>
      simp only [cond_true, forceV_eq] at h
      have hK : K (putE e i.dst v) (s.app eff) := by
        cases hs : i.split with
        | false => simp only [hs, cond_false, putW_eq, appW_eq] at h; exact h
        | true =>
          simp only [hs, cond_true] at h
          cases v <;> simp only [] at h
          rename_i b
          cases b <;> simpa only [cond_true, cond_false, putW_eq, appW_eq] using h
      obtain ⟨V, ι', w', M', hrun, h1, h2, h3, h4, h5⟩ := op_does (n0 := F.n0) hop hI.rep hI.env hI.go.next hd
      have hI' := (hI.step h2 h3 h4 h5).put h1 hslot
      rw [hdst] at hI' hK
      unfold Oper.wp
      rcases hrun with hrun | ⟨hrun, rfl⟩
      · rw [hrun, Oper.upon_value]; exact hk _ _ _ _ _ _ hI' hK
      · rw [hrun, Oper.upon_skip]; exact hk _ _ _ _ _ _ hI' hK
  · rename_i f args hd
    unfold Tr at h
    obtain ⟨hb, h⟩ := h
    obtain ⟨Vs, hrun, hV⟩ := op_calls hop hI.rep hI.env hd hb
    unfold Oper.wp
    rw [hrun, Oper.upon_enter]
    refine Calls.mono (h ι w M Vs hI.rep hV) fun en w' he => ?_
    obtain ⟨V, ι', M', v, s', rfl, hK, h1, h2, h3⟩ := he
    simp only [forceV_eq, putW_eq] at hK
    have hx := Rep.ext_all (n0 := 0) hI.rep h3
    have hI' := (hI.step h2 (h3.weak hI.go.next) hx (GoImm h3 fun b hb => hI.rep.ownM hb)).put h1 hslot
    rw [hdst] at hI' hK
    exact hk _ _ _ _ _ _ hI' hK
  · exact h.elim

theorem VRel.skip {ι : Iota} {w : World} {M : Nat → Prop} : VRel ι w M (.tup []) Go.undef := .g _ _ (.tup _ #[] rfl fun j hj => absurd hj (Nat.not_lt_zero j))
/-- is it done? -/
theorem guard_sound {ops : List Oper} {o : Oper} {i : AIns} {k : Nat} (hi : insOf P ops k o = some i) (henv : ERel ι w M e act) {yes no : Prop} (h : guardW e i yes no) :
    (Region.wanted o (yielded ops.toArray act.tmps) = true ∧ yes) ∨ (Region.wanted o (yielded ops.toArray act.tmps) = false ∧ no) := by
  unfold insOf at hi
  split at hi
  · rename_i a ha
    split at hi
    · rename_i hg
      simp only [Option.some.injEq] at hi
      subst hi
      simp only [guardW] at h
      exact .inl ⟨by simp [Region.wanted, hg], h⟩
    · rename_i g hg
      split at hi
      · rename_i t ht
        simp only [Option.some.injEq] at hi
        subst hi
        simp only [guardW] at h
        have hv := henv t
        cases hb : e.get t <;> simp only [hb] at h
        case tup l =>
          rw [hb] at hv
          obtain ⟨cs, hV, _⟩ := hv.tup_inv
          have hy : yielded ops.toArray act.tmps g.1 = none := by
            have h1 : (ops.toArray[g.1]?).bind (·.dst) = some t := by simpa using ht
            simp only [yielded, h1, Option.bind_some]
            rw [Array.getD_eq_getD_getElem?] at hV
            cases h3 : act.tmps[t]? with
            | none => rfl
            | some x => rw [h3] at hV; simp at hV; rw [hV]
          refine .inr ⟨?_, h⟩
          obtain ⟨gi, want⟩ := g
          simp only at hy
          simp only [Region.wanted, hg, hy]
          rfl
        rename_i b
        rw [hb] at hv
        have hV := hv.bool_inv
        have hy : yielded ops.toArray act.tmps g.1 = some b := by
          have h1 : (ops.toArray[g.1]?).bind (·.dst) = some t := by simpa using ht
          have h2 : act.tmps[t]? = some (.bool b) := by
            rw [Array.getD_eq_getD_getElem?] at hV
            cases h3 : act.tmps[t]? with
            | none => rw [h3] at hV; simp [undef] at hV
            | some x => rw [h3] at hV; simp at hV; rw [hV]
          simp only [yielded, h1, Option.bind_some, h2]
        obtain ⟨gi, want⟩ := g
        simp only at hy h ht
        have hw : Region.wanted o (yielded ops.toArray act.tmps) = (b == want) := by
          simp only [Region.wanted, hg, hy]
          cases b <;> cases want <;> rfl
        rw [hw]
        cases b <;> cases want <;> simp only [cond_true, cond_false] at h
        · exact .inl ⟨rfl, h⟩
        · exact .inr ⟨rfl, h⟩
        · exact .inr ⟨rfl, h⟩
        · exact .inl ⟨rfl, h⟩
      · simp at hi
  · simp at hi
theorem insOf_op {ops : List Oper} {o : Oper} {i : AIns} {k : Nat} (hi : insOf P ops k o = some i) : compOp P o.op = some i.op ∧ i.dst = o.dst := by
  unfold insOf at hi
  split at hi
  · rename_i a ha
    split at hi
    · simp only [Option.some.injEq] at hi; subst hi; exact ⟨ha, rfl⟩
    · split at hi
      · simp only [Option.some.injEq] at hi; subst hi; exact ⟨ha, rfl⟩
      · simp at hi
  · simp at hi

theorem regW_sound {Q : Exit → Act → World → Prop} {K : Env → St → Prop} {ops : List Oper} : ∀ (l : List Oper) (k : Nat) (il : List AIns), insL P ops k l = some il → il.all (fun i => slotIn F.N i.dst) = true →
    ∀ {e s act ι w M}, Inv F e s act ι w M → regW P il e s K → (∀ e' s' act' ι' w' M', Inv F e' s' act' ι' w' M' → K e' s' → Q .normal act' w') → wpList P ops.toArray Q l act w
  | [], k, il, hl, hs, e, s, act, ι, w, M, hI, h, hk => by
    simp only [insL, Option.some.injEq] at hl
    subst hl
    exact hk _ _ _ _ _ _ hI h
  | o :: r, k, il, hl, hs, e, s, act, ι, w, M, hI, h, hk => by
    simp only [insL] at hl
    split at hl
    · rename_i i l hi hr
      simp only [Option.some.injEq] at hl
      subst hl
      simp only [List.all_cons, Bool.and_eq_true] at hs
      obtain ⟨h1, h2⟩ := insOf_op hi
      rw [regW_cons] at h
      unfold wpList
      rcases guard_sound hi hI.env h with ⟨hw, h⟩ | ⟨hw, h⟩
      · rw [if_pos hw]
        exact .inl (ins_sound h1 h2 hs.1 hI h fun e' s' act' ι' w' M' hI' hK => regW_sound r (k + 1) l hr hs.2 hI' hK hk)
      · rw [if_neg (by simp [hw])]
        rw [putW_eq] at h
        have hI' := hI.put (V := undef) (v := .tup []) VRel.skip hs.1
        rw [h2] at hI' h
        exact regW_sound r (k + 1) l hr hs.2 hI' h hk
    · simp at hl

end
end Go.Ab
