/- The engine's soundness: regions whose order is open: what changes memory; every order. The engine: rules for contracts: weaker ones; calls by other names in a bigger state; rows that nobody writes any more. The engine's soundness: concrete runs. The engine's soundness: concrete runs of regions. The engine's soundness: concrete runs of code and of functions. The engine's soundness: the fast machine does what the other does. The engine: rows that nobody writes any more become values. The engine: the same verification conditions, with values brought to their form at each step, so that terms stay small. The engine: verification conditions with places where ways come together, and rows that are values from a place on. Tools for contracts. Contracts of pure functions, and of functions that append to a row; how they are used. The engine: what is known of memory may be known less well. The engine: stages of a concrete run. What a call was seen to do in an empty memory, it does in any. The engine: functions that ask recover() first and have nothing to do when nothing is there. The engine: a call in a known state, its result printed, as an oracle for that call where the same is known. The engine: a function of plain values, tabulated: an oracle. The engine: handles that stand for numbers, given values. The engine: runs from known states, numbers of which aren't known. -/
import Derived.Defers
import Derived.Test.YtaafinlbepaboaaGreatDoorProg
import Derived.KernelRfl
import Derived.Recover
import Derived.Test.YtaafinlbepaboaaGreatDoorHTopRestart2
import Derived.Test.YtaafinlbepaboaaGreatDoorHTopRestart0
set_option linter.unusedVariables false
set_option linter.unusedSimpArgs false
set_option autoImplicit false
namespace Go.Ab

section
variable {P : Program} {F : From} {ops : List Oper} {anc : List Nat} {ins : List AIns} {p : List AStep} {K : Env → St → Prop} {D D' : Nat → Bool} {pre rest : List AStep} {e0 e E : Env} {s T : St} {pd : Pend} {act : Act} {ι : Iota} {w : World} {M : Nat → Prop}

/-- the blocks that are there already -/
def doneL (D : Nat → Bool) : Pend → Mem
  | [] => []
  | q :: r => bif D q.1 then (q.2.1, some q.2.2) :: doneL D r else doneL D r
theorem doneL_get (D : Nat → Bool) : ∀ (pd : Pend), PNd pd → ∀ h c, (doneL D pd).get h = some c ↔ ∃ i, (i, h, c) ∈ pd ∧ D i = true
  | [], _, h, c => by simp [doneL, Mem.get]
  | q :: r, hn, h, c => by
    obtain ⟨h1, h2⟩ := List.pairwise_cons.1 hn
    have ih := doneL_get D r h2 h c
    simp only [doneL]
    cases hd : D q.1 with
    | true =>
      simp only [cond_true, Mem.get_cons]
      by_cases he : q.2.1 = h
      · rw [if_pos he]
        simp only [Option.some.injEq]
        constructor
        · intro hc; exact ⟨q.1, by rw [← he, ← hc]; simp, hd⟩
        · rintro ⟨i, hi, _⟩
          rcases List.mem_cons.1 hi with k | k
          · rw [← k]
          · exact absurd he (h1 _ k)
      · rw [if_neg he, ih]
        constructor
        · rintro ⟨i, hi, k⟩; exact ⟨i, List.mem_cons_of_mem _ hi, k⟩
        · rintro ⟨i, hi, k⟩
          rcases List.mem_cons.1 hi with k' | k'
          · exact absurd (by rw [← k']) he
          · exact ⟨i, k', k⟩
    | false =>
      simp only [cond_false]
      rw [ih]
      constructor
      · rintro ⟨i, hi, k⟩; exact ⟨i, List.mem_cons_of_mem _ hi, k⟩
      · rintro ⟨i, hi, k⟩
        rcases List.mem_cons.1 hi with k' | k'
        · rw [← k'] at hd; simp only at hd; rw [hd] at k; cases k
        · exact ⟨i, k', k⟩
theorem doneL_append (D : Nat → Bool) (m : Mem) : ∀ (pd : Pend) h, (doneL D pd ++ m).get h = match (doneL D pd).get h with
    | some c => some c
    | none => m.get h
  | [], h => rfl
  | q :: r, h => by
    have ih := doneL_append D m r h
    simp only [doneL]
    cases hd : D q.1 with
    | true =>
      simp only [cond_true, List.cons_append, Mem.get_cons]
      by_cases he : q.2.1 = h
      · rw [if_pos he, if_pos he]
      · rw [if_neg he, if_neg he]; exact ih
    | false => exact ih

/-- what a step that changes memory comes to -/
theorem J.execE (hp : PlanF P ops anc ins p) {x : AStep} {r : List AStep} {v : AV} {V : Value} {s' : St} {m : Mem} {pd' : Pend} {ι' : Iota} {w' : World} {M' : Nat → Prop} (h : J P F anc ins p K D pre (x :: r) e0 e E s T pd act ι w M)
    (hxe : x.e = true) (hanc : ∀ j, (anc.getD x.i 0).testBit j = true → D j = true) (hD' : ∀ j, D' j = true ↔ j = x.i ∨ D j = true) (hslot : slotIn F.N x.ins.dst = true)
    (hab : absorb x.ab pd s.m = (m, pd')) (hW : drawW P r (putE e x.ins.dst v) s' pd' K) (hV : VRel ι' w' M' v V) (hR : Rep ι' s' w' M') (hgo : Go s.next ι ⟨s.next, m⟩ w M ι' s' w' M')
    (hext : ∀ h p, ι h = some p → ι' h = some p) (hi : Imm w M w' M')
    (hwatch : ∀ o ∈ x.wt, LookRel (AOpd.ev e) o.1 (AOpd.ev e o.2) (getP ⟨s.next, m⟩ pd') (getP s' pd')) :
    ∃ T', J P F anc ins p K D' (pre ++ [x]) r e0 (putE e x.ins.dst v) (putE E x.ins.dst v) s' T' pd' (act.put x.ins.dst V) ι' w' M' := by
  have hxi : x.i ∉ pre.map (·.i) := (hp.order pre x r h.split).2.1
  have hxp : x ∈ p := by rw [h.split]; simp
  have hpre : ∀ x ∈ pre, x ∈ p := fun x hx => by rw [h.split]; simp [hx]
  have hxins := hp.at hxp
  have hxD : D x.i = false := by
    cases hd : D x.i with
    | false => rfl
    | true => exact absurd (h.dpre _ hd) hxi
  have hst := (hp.steps pre x r h.split).2
  have hxab : ∀ j, memN x.ab j = true → (anc.getD x.i 0).testBit j = true := fun j hj => by
    rw [memN_iff] at hj
    rw [hst] at hj
    unfold stepOf at hj
    cases hE : x.ins.op.isE with
    | false => simp [hE] at hj
    | true =>
      simp only [hE, cond_true, List.mem_filter, Bool.and_eq_true] at hj
      exact hj.2.1
  have hxwt : ∀ z ∈ pre, (anc.getD x.i 0).testBit z.i = false → ∀ o, z.ins.op.looks = some o → (z.ins.op.lookK, o) ∈ x.wt := fun z hz hzb o ho => by
    rw [hst]
    have hE : x.ins.op.isE = true := by
      have h2 := (stepOf_i anc ins (pre.map (·.i)) x.i x.ins).2.2
      rw [← hst, hxe] at h2
      exact h2.symm
    unfold stepOf
    simp only [hE, cond_true, List.mem_filterMap]
    exact ⟨z.i, List.mem_map_of_mem hz, by simp only [hzb, cond_false, hp.at (hpre z hz), ho, Option.map_some]⟩
  have hrest : pd' = pd.filter fun q => !memN x.ab q.1 := by have := absorb_rest x.ab pd s.m; rw [hab] at this; exact this
  have hmget : ∀ k c, (St.mk s.next m).get k = some c ↔ s.get k = some c ∨ ∃ i, (i, k, c) ∈ pd ∧ memN x.ab i = true := fun k c => by
    have := absorb_get x.ab pd s.m h.pnd h.pnone k c
    rw [hab] at this
    exact this
  have hmem' : ∀ q, q ∈ pd' ↔ q ∈ pd ∧ memN x.ab q.1 = false := fun q => by rw [hrest]; simp
  have hmT : ∀ k c, (St.mk s.next m).get k = some c → T.get k = some c := fun k c hc => by
    rw [h.tget]
    rcases (hmget k c).1 hc with q | ⟨i, q, q'⟩
    · exact .inl q
    · exact .inr ⟨i, q, hanc i (hxab i q')⟩
  have hnd' : PNd pd' := by rw [hrest]; exact h.pnd.sublist List.filter_sublist
  have hm0 : ∀ q ∈ pd', (St.mk s.next m).get q.2.1 = none := fun q hq => by
    cases hg : (St.mk s.next m).get q.2.1 with
    | none => rfl
    | some c =>
      obtain ⟨q1, q2⟩ := (hmem' q).1 hq
      rcases (hmget _ c).1 hg with k | ⟨i, k, k'⟩
      · rw [h.pnone q q1] at k; cases k
      · have := PNd.inj h.pnd q1 k rfl
        rw [this, k'] at q2; cases q2
  have hext' : ∀ k, k < s.next → ι' k = ι k := hgo.ext
  have hnx : s.next ≤ s'.next := hgo.next
  have hdisj : ∀ q ∈ pd', s'.get q.2.1 = none := fun q hq => by
    obtain ⟨q1, q2⟩ := (hmem' q).1 hq
    cases hg : s'.get q.2.1 with
    | none => rfl
    | some c =>
      exfalso
      have hlt := (h.plt q q1).1
      cases hd : D q.1 with
      | false =>
        have h0 := h.pun q q1 hd
        rcases hR.own _ c hg with ⟨k, _⟩ | ⟨b, base, k, _⟩ <;> rw [hext' _ hlt, h0] at k <;> cases k
      | true =>
        obtain ⟨⟨b, base⟩, hpp⟩ := h.pdn q q1 hd
        have hTg : T.get q.2.1 = some q.2.2 := (h.tget _ _).2 (.inr ⟨q.1, q1, hd⟩)
        have hMb := h.rep.ownM ⟨_, _, _, hTg, hpp⟩
        have hOwn : Own ι ⟨s.next, m⟩ b := hgo.own b (h.rep.lt b hMb) ⟨_, c, base, hg, (hext' _ hlt).trans hpp⟩
        obtain ⟨j, c', base', k1, k2⟩ := hOwn
        have hne : q.2.1 ≠ j := fun e => by rw [← e, hm0 q hq] at k1; cases k1
        exact h.rep.inj _ j _ c' _ _ hTg (hmT j c' k1) hne hpp k2 rfl
  have hFr : ∀ k c, (doneL D pd').get k = some c → T.get k = some c ∧ (St.mk s.next m).get k = none := fun k c hc => by
    obtain ⟨i, q, q'⟩ := (doneL_get D pd' hnd' k c).1 hc
    exact ⟨(h.tget k c).2 (.inr ⟨i, ((hmem' _).1 q).1, q'⟩), hm0 _ q⟩
  obtain ⟨f1, f2, f3⟩ := frame (doneL D pd') h.rep hmT h.tnext.symm hR hgo hext hi hFr
  have hDpd : ∀ q ∈ pd', (D' q.1 = true ↔ D q.1 = true) := fun q hq => by
    rw [hD']
    constructor
    · rintro (k | k)
      · exact absurd (by rw [← k]; exact h.ppre q ((hmem' q).1 hq).1) hxi
      · exact k
    · exact .inr
  have hD : ∀ j, D' j = false → D j = false ∧ j ≠ x.i := fun j hj => by
    constructor
    · cases hd : D j with
      | false => rfl
      | true => rw [(hD' j).2 (.inr hd)] at hj; cases hj
    · intro e; rw [(hD' j).2 (.inl e)] at hj; cases hj
  have hnd : ∀ z ∈ pre, ∀ d, z.ins.dst = some d → x.ins.dst ≠ some d := fun z hz d h1 h2 => by
    have := hp.slot1 _ _ _ _ d (hp.at (hpre z hz)) hxins h1 h2
    exact hxi (this ▸ List.mem_map_of_mem hz)
  refine ⟨⟨s'.next, doneL D pd' ++ s'.m⟩, by rw [h.split]; simp, fun i hi => ?_, fun i j hi hj => ?_, fun z hz he => ?_, hW, f1, fun k c => ?_, rfl, hnd', hdisj, fun q hq => ?_, fun q hq hd => ?_, fun q hq hd => ?_, fun q hq => ?_, (h.env.mono hi hext).put hV hslot h.size, fun z hz u hd hu => ?_, fun u hu => ?_, fun u hu => ?_, fun z hz hd => ?_, by rw [put_size]; exact h.size, by rw [put_defers]; exact h.dfr.mono hi hext, h.go.trans (f2.weak (by have := h.go.next; rw [h.tnext] at this; exact this)) F.lt⟩
  · simp only [List.map_append, List.mem_append, List.map_cons, List.map_nil, List.mem_singleton]
    rcases (hD' i).1 hi with k | k
    · exact .inr k
    · exact .inl (h.dpre i k)
  · rcases (hD' i).1 hi with rfl | k
    · exact (hD' j).2 (.inr (hanc j hj))
    · exact (hD' j).2 (.inr (h.dcl i j k hj))
  · rcases List.mem_append.1 hz with hz | hz
    · exact (hD' _).2 (.inr (h.eDone z hz he))
    · simp only [List.mem_singleton] at hz; subst hz; exact (hD' _).2 (.inl rfl)
  · show (doneL D pd' ++ s'.m).get k = some c ↔ _
    rw [doneL_append]
    cases hg : (doneL D pd').get k with
    | some c1 =>
      obtain ⟨i, q, q'⟩ := (doneL_get D pd' hnd' k c1).1 hg
      simp only [Option.some.injEq]
      constructor
      · rintro rfl; exact .inr ⟨i, q, (hDpd _ q).2 q'⟩
      · rintro (k' | ⟨i', q1, _⟩)
        · have := hdisj _ q; simp only at this; rw [this] at k'; cases k'
        · have := PNd.inj hnd' q q1 rfl
          simp only [Prod.mk.injEq] at this
          exact this.2.2
    | none =>
      simp only
      constructor
      · intro hc; exact .inl hc
      · rintro (k' | ⟨i', q1, q2⟩)
        · exact k'
        · have := (doneL_get D pd' hnd' k c).2 ⟨i', q1, (hDpd _ q1).1 q2⟩
          rw [hg] at this; cases this
  · have := h.plt q ((hmem' q).1 hq).1
    exact ⟨by omega, this.2⟩
  · obtain ⟨q1, _⟩ := (hmem' q).1 hq
    rw [hext' _ (h.plt q q1).1]
    exact h.pun q q1 (hD _ hd).1
  · obtain ⟨q1, _⟩ := (hmem' q).1 hq
    rw [hext' _ (h.plt q q1).1]
    exact h.pdn q q1 ((hDpd q hq).1 hd)
  · simp only [List.map_append, List.mem_append]
    exact .inl (h.ppre q ((hmem' q).1 hq).1)
  · rcases List.mem_append.1 hz with hz | hz
    · rw [putE_get, if_neg (hnd z hz u hu)]
      exact h.eE1 z hz u (hD _ hd).1 hu
    · simp only [List.mem_singleton] at hz; subst hz
      exact absurd rfl (hD _ hd).2
  · rw [putE_get, putE_get]
    split
    · rfl
    · refine h.eE2 u fun z hz hzd hzu => hu z (by simp [hz]) ?_ hzu
      cases hd : D' z.i with
      | false => rfl
      | true =>
        rcases (hD' _).1 hd with k | k
        · exact absurd (k ▸ List.mem_map_of_mem hz) hxi
        · rw [hzd] at k; cases k
  · rw [putE_get, if_neg (hu x (by simp))]
    exact h.e00 u fun z hz => hu z (by simp [hz])
  · rcases List.mem_append.1 hz with hz | hz
    · have hzd := (hD _ hd).1
      have hzb : (anc.getD x.i 0).testBit z.i = false := by
        cases hb : (anc.getD x.i 0).testBit z.i with
        | false => rfl
        | true => rw [hanc _ hb] at hzd; cases hzd
      refine (h.recs z hz hzd).mono (fun u k y k1 k2 k3 => ?_) (fun d hd' => ?_) (fun o ho => ?_) (fun o ho hs => ?_) (fun o ho => LookRel.trans (LookRel.of fun k c ha hc => ?_) (hwatch _ (hxwt z hz hzb o ho))) fun q hq => ?_
      · rw [putE_get, if_neg]
        intro hxu
        have := hp.slot1 _ _ _ _ u k1 hxins k2 hxu
        subst this
        exact hxi (hp.before h.split hz k3)
      · rw [putE_get, if_neg (hnd z hz d hd')]
      · obtain ⟨u, rfl⟩ := hp.slot4 _ _ _ (hp.at (hpre z hz)) ho
        show (putE e x.ins.dst v).get u = e.get u
        rw [putE_get, if_neg]
        intro hxu
        exact hxi (hp.before h.split hz (hp.slot3 _ _ _ _ u hxins (hp.at (hpre z hz)) hxu (by simp [AOp.eyes, ho])))
      · cases o with
        | t u =>
          show (putE e x.ins.dst v).get u = e.get u
          rw [putE_get, if_neg]
          intro hxu
          refine hxi (hp.before h.split hz (hp.slot3 _ _ _ _ u hxins (hp.at (hpre z hz)) hxu ?_))
          unfold AOp.eyes
          split
          · exact List.mem_cons_of_mem _ ho
          · rename_i hn; rw [hn] at hs; cases hs
        | c v => rfl
        | f n => rfl
      · rw [getP_iff hnd' hm0, hmget]
        rw [getP_iff h.pnd h.pnone] at hc
        rcases hc with hc | ⟨i, hc⟩
        · exact .inl (.inl hc)
        · cases hm : memN x.ab i with
          | true => exact .inl (.inr ⟨i, hc, hm⟩)
          | false => exact .inr ⟨i, (hmem' _).2 ⟨hc, hm⟩⟩
      · rw [hmem']
        constructor
        · exact fun k => k.1
        · intro k
          refine ⟨k, ?_⟩
          cases hm : memN x.ab q.1 with
          | false => rfl
          | true =>
            have := hxab _ hm
            rw [hq, hzb] at this; cases this
    · simp only [List.mem_singleton] at hz; subst hz
      exact absurd rfl (hD _ hd).2

/-- a step that changes memory, or calls -/
theorem exec_eff (hp : PlanF P ops anc ins p) {x : AStep} {r : List AStep} {Q : Exit → Act → World → Prop} {next : Act → World → Prop} (h : J P F anc ins p K D pre (x :: r) e0 e E s T pd act ι w M)
    (hxe : x.e = true) (hanc : ∀ j, (anc.getD x.i 0).testBit j = true → D j = true) (hD' : ∀ j, D' j = true ↔ j = x.i ∨ D j = true) (hslot : slotIn F.N x.ins.dst = true)
    (hk : ∀ e' E' s' T' pd' act' ι' w' M', J P F anc ins p K D' (pre ++ [x]) r e0 e' E' s' T' pd' act' ι' w' M' → next act' w') : wpOp P ops.toArray Q x.i next act w := by
  have hxi : x.i ∉ pre.map (·.i) := (hp.order pre x r h.split).2.1
  have hxp : x ∈ p := by rw [h.split]; simp
  have hpre : ∀ x ∈ pre, x ∈ p := fun x hx => by rw [h.split]; simp [hx]
  have hxins := hp.at hxp
  obtain ⟨o, ho, hio⟩ := hp.insOk _ _ hxins
  obtain ⟨hop, hdst⟩ := insOf_op hio
  have hE : ∀ u ∈ x.ins.reads, e.get u = E.get u := fun u hu => by
    refine (h.eE2 u fun z hz hzd hzu => ?_).symm
    rcases (hp.slot2 _ _ _ _ u (hp.at (hpre z hz)) hxins hzu hu).2 with k | k
    · rw [hanc _ k] at hzd; cases hzd
    · exact hxi (hp.before h.split hz k)
  have hst := (hp.steps pre x r h.split).2
  have hW := h.W
  rw [drawW_cons, hxe, cond_true] at hW
  cases hab : absorb x.ab pd s.m with
  | mk m pd' =>
  simp only [hab] at hW
  have hxab : ∀ j, memN x.ab j = true → (anc.getD x.i 0).testBit j = true := fun j hj => by
    rw [memN_iff] at hj
    rw [hst] at hj
    unfold stepOf at hj
    cases hE : x.ins.op.isE with
    | false => simp [hE] at hj
    | true =>
      simp only [hE, cond_true, List.mem_filter, Bool.and_eq_true] at hj
      exact hj.2.1
  have hmT : ∀ k c, (St.mk s.next m).get k = some c → T.get k = some c := fun k c hc => by
    rw [h.tget]
    have := absorb_get x.ab pd s.m h.pnd h.pnone k c
    rw [hab] at this
    rcases this.1 hc with q | ⟨i, q, q'⟩
    · exact .inl q
    · exact .inr ⟨i, q, hanc i (hxab i q')⟩
  have hRm : Rep ι ⟨s.next, m⟩ w M := h.rep.sub hmT h.tnext.symm
  have hgetO : ops.toArray[x.i]? = some o := by simpa using ho
  unfold wpOp
  rw [hgetO]
  simp only
  rcases guardW_spec hW with ⟨hg, hW⟩ | ⟨hg, hW⟩
  · rw [guardOk_congr hE] at hg
    rcases guard_sound hio h.env (guardW_of hg) with ⟨hw, _⟩ | ⟨_, hc⟩
    case inr => cases hc
    rw [if_pos hw]
    refine .inl ?_
    unfold Oper.wp
    rcases insW_spec hW with ⟨v, eff, hd, hW⟩ | ⟨f, args, hd, hW⟩
    · rw [appW_eq] at hW
      obtain ⟨hwt, hW⟩ := watch_spec _ _ hW
      rw [putW_eq] at hW
      rw [opD_congr _ (ev_congr hE)] at hd
      obtain ⟨V, ι', w', M', hrun, h1, h2, h3, h4, h5⟩ := op_does (n0 := s.next) hop hRm h.env (Nat.le_refl _) hd
      obtain ⟨T', hJ⟩ := h.execE hp hxe hanc hD' hslot hab hW h1 h2 h3 h4 h5 hwt
      rw [hdst] at hJ
      rcases hrun with hrun | ⟨hrun, rfl⟩
      · rw [hrun, Oper.upon_value]; exact hk _ _ _ _ _ _ _ _ _ hJ
      · rw [hrun, Oper.upon_skip]; exact hk _ _ _ _ _ _ _ _ _ hJ
    · unfold Tr at hW
      obtain ⟨hb, hW⟩ := hW
      rw [opD_congr _ (ev_congr hE)] at hd
      obtain ⟨Vs, hrun, hVs⟩ := op_calls hop hRm h.env hd hb
      rw [hrun, Oper.upon_enter]
      refine Calls.mono (hW ι w M Vs hRm hVs) fun en w' he => ?_
      obtain ⟨V, ι', M', v, s', rfl, hK, h1, h2, h3⟩ := he
      obtain ⟨hwt, hK⟩ := watch_spec _ _ hK
      rw [forceV_eq, putW_eq] at hK
      obtain ⟨T', hJ⟩ := h.execE hp hxe hanc hD' hslot hab hK h1 h2 h3 (Rep.ext_all (n0 := 0) hRm h3) (GoImm h3 fun b hb => hRm.ownM hb) hwt
      rw [hdst] at hJ
      exact hk _ _ _ _ _ _ _ _ _ hJ
  · rw [guardOk_congr hE] at hg
    rcases guard_sound hio h.env (guardW_of hg) with ⟨_, hc⟩ | ⟨hw, _⟩
    · cases hc
    · rw [if_neg (by simp [hw])]
      rw [putW_eq] at hW
      obtain ⟨T', hJ⟩ := h.execE hp hxe hanc hD' hslot hab hW VRel.skip hRm (Go.refl _ _ _ _ (Nat.le_refl _)) (fun _ _ h => h) (Imm.refl _ _) (fun _ _ => .of fun _ _ _ h => h)
      rw [hdst] at hJ
      exact hk _ _ _ _ _ _ _ _ _ hJ

theorem count_lt {f f' : Nat → Bool} : ∀ (l : List Nat) (i : Nat), i ∈ l → (∀ j, f' j = true → f j = true) → f i = true → f' i = false → (l.filter f').length < (l.filter f).length
  | [], i, h, _, _, _ => by simp at h
  | a :: r, i, h, hm, h1, h2 => by
    have hle : (r.filter f').length ≤ (r.filter f).length := by
      have : ∀ l : List Nat, (l.filter f').length ≤ (l.filter f).length := by
        intro l
        induction l with
        | nil => simp
        | cons b q ih =>
          simp only [List.filter_cons]
          cases hb' : f' b with
          | true => simp [hm b hb', ih]
          | false =>
            cases hb : f b with
            | true => simp; omega
            | false => simp; exact ih
      exact this r
    simp only [List.filter_cons]
    rcases List.mem_cons.1 h with rfl | h
    · simp [h1, h2]; omega
    · have ih := count_lt r i h hm h1 h2
      cases ha' : f' a with
      | true => simp [hm a ha', ih]
      | false =>
        cases ha : f a with
        | true => simp; omega
        | false => simpa using ih

theorem draw_run {Q : Exit → Act → World → Prop} (hp : PlanF P ops anc ins p) (hslots : ∀ x ∈ p, slotIn F.N x.ins.dst = true)
    (hQ : ∀ e' s' act' ι' w' M', Inv F e' s' act' ι' w' M' → K e' s' → Q .normal act' w') :
    ∀ (fuel : Nat) (listed : Array Bool), listed.size = ops.length → ((List.range ops.length).filter fun i => !listed.getD i false).length ≤ fuel →
      ∀ {pre rest e E s T pd act ι w M}, J P F anc ins p K (fun i => listed.getD i false) pre rest e0 e E s T pd act ι w M → (rest = [] ∨ ∃ y r, rest = y :: r ∧ y.e = true) →
      wpAny P .any ops.toArray Q fuel listed act w := by
  -- all are done
  have fin : ∀ (listed : Array Bool), listed.size = ops.length → Region.ready .any ops.toArray listed = [] →
      ∀ {pre rest e E s T pd act ι w M}, J P F anc ins p K (fun i => listed.getD i false) pre rest e0 e E s T pd act ι w M → Q .normal act w := by
    intro listed hsz hr pre rest e E s T pd act ι w M h
    have hall : ∀ (l a : List AStep), p = a ++ l → (∀ z ∈ a, listed.getD z.i false = true) → ∀ z ∈ p, listed.getD z.i false = true := by
      intro l
      induction l with
      | nil => intro a ha hd z hz; rw [ha] at hz; exact hd z (by simpa using hz)
      | cons y r ih =>
        intro a ha hd
        refine ih (a ++ [y]) (by rw [ha]; simp) fun z hz => ?_
        rcases List.mem_append.1 hz with hz | hz
        · exact hd z hz
        · simp only [List.mem_singleton] at hz
          subst hz
          have hzp : z ∈ p := by rw [ha]; simp
          obtain ⟨o, ho, hio⟩ := hp.insOk _ _ (hp.at hzp)
          have hlt : z.i < ops.length := (List.getElem?_eq_some_iff.1 ho).1
          cases hl : listed.getD z.i false with
          | true => rfl
          | false =>
            exfalso
            have hmem : z.i ∈ Region.ready .any ops.toArray listed := by
              rw [mem_ready]
              refine ⟨?_, o, by simpa using ho, fun ed hed hb => ?_⟩
              · have hlt' : z.i < listed.size := by omega
                simp only [Array.getD, hlt', dif_pos] at hl ⊢
                exact hl
              · have hdep : ed.on ∈ depsOf o := by
                  unfold depsOf
                  exact List.mem_map_of_mem (List.mem_filter.2 ⟨by simpa using hed, hb⟩)
                have hbit : (anc.getD z.i 0).testBit ed.on = true := by
                  rw [hp.deps _ o ho, orAll_bit]
                  exact ⟨_, hdep, .inl rfl⟩
                have hin := (hp.order a z r ha).1 _ hbit
                obtain ⟨y', hy', hyi⟩ := List.mem_map.1 hin
                rw [← hyi]
                exact hd y' hy'
            rw [hr] at hmem
            simp at hmem
    have hdone := hall p [] (by simp) (by simp)
    have hrest : rest = [] := by
      cases hrr : rest with
      | nil => rfl
      | cons y r =>
        have hs := h.split
        rw [hrr] at hs
        have := hdone y (by rw [hs]; simp)
        exact absurd (h.dpre _ this) (hp.order pre y r hs).2.1
    subst hrest
    have hW := h.W
    rw [drawW_nil] at hW
    have hpp : pre = p := by rw [h.split]; simp
    have hsub : ∀ k c, (St.mk s.next (flush pd s.m)).get k = some c → T.get k = some c := fun k c hc => by
      rw [h.tget]
      rcases flush_get pd s.m k c hc with q | ⟨i, q⟩
      · exact .inl q
      · refine .inr ⟨i, q, ?_⟩
        obtain ⟨y, hy, hyi⟩ := List.mem_map.1 (h.ppre _ q)
        have := hdone y (hpp ▸ hy)
        rw [hyi] at this
        exact this
    refine hQ _ _ _ ι w M ⟨h.rep.sub hsub h.tnext.symm, fun u => ?_, h.size, h.dfr, h.go.sub hsub (by rw [h.tnext]; exact Nat.le_refl _)⟩ hW
    rw [← h.eE2 u fun z hz hzd => by rw [hdone z (hpp ▸ hz)] at hzd; cases hzd]
    exact h.env u
  intro fuel
  induction fuel with
  | zero =>
    intro listed hsz hc pre rest e E s T pd act ι w M h _
    have hr : Region.ready .any ops.toArray listed = [] := by
      cases hrd : Region.ready .any ops.toArray listed with
      | nil => rfl
      | cons i q =>
        exfalso
        have hi : i ∈ Region.ready .any ops.toArray listed := by rw [hrd]; simp
        obtain ⟨h1, o, h2, _⟩ := mem_ready.1 hi
        have hlt : i < ops.length := by
          have := (Array.getElem?_eq_some_iff.1 h2).1
          simpa using this
        have hl : listed.getD i false = false := by
          have hlt' : i < listed.size := by omega
          simp only [Array.getD, hlt', dif_pos] at h1 ⊢
          exact h1
        have : i ∈ (List.range ops.length).filter fun i => !listed.getD i false := List.mem_filter.2 ⟨List.mem_range.2 hlt, by simp only [hl]; rfl⟩
        have := List.length_pos_of_mem this
        omega
    exact ⟨hr, fin listed hsz hr h⟩
  | succ fuel ih =>
    intro listed hsz hc pre rest e E s T pd act ι w M h hrest
    refine ⟨fun hr => fin listed hsz hr h, fun i hi => ?_⟩
    obtain ⟨h1, o, h2, h3⟩ := mem_ready.1 hi
    have ho : ops[i]? = some o := by simpa using h2
    have hlt : i < ops.length := (List.getElem?_eq_some_iff.1 ho).1
    have hlt' : i < listed.size := by omega
    have hl : listed.getD i false = false := by
      simp only [Array.getD, hlt', dif_pos] at h1 ⊢
      exact h1
    obtain ⟨x, hxp, rfl⟩ := hp.cover i hlt
    have hanc : ∀ j, (anc.getD x.i 0).testBit j = true → listed.getD j false = true := fun j hj => by
      rw [hp.deps _ o ho, orAll_bit] at hj
      obtain ⟨d, hd, hj⟩ := hj
      have hdd : listed.getD d false = true := by
        unfold depsOf at hd
        obtain ⟨ed, hed, rfl⟩ := List.mem_map.1 hd
        obtain ⟨q1, q2⟩ := List.mem_filter.1 hed
        exact h3 ed (by simpa using q1) q2
      rcases hj with rfl | hj
      · exact hdd
      · exact h.dcl d j hdd hj
    have hset : ∀ j, (listed.setIfInBounds x.i true).getD j false = true ↔ j = x.i ∨ listed.getD j false = true := fun j => by
      by_cases hj : j = x.i
      · subst hj
        simp [Array.getD, hlt']
      · have : (listed.setIfInBounds x.i true).getD j false = listed.getD j false := by
          simp only [Array.getD_eq_getD_getElem?, Array.getElem?_setIfInBounds_ne (fun e => hj e.symm)]
        rw [this]
        simp [hj]
    have hcnt : ((List.range ops.length).filter fun i => !(listed.setIfInBounds x.i true).getD i false).length ≤ fuel := by
      have := count_lt (f := fun i => !listed.getD i false) (f' := fun i => !(listed.setIfInBounds x.i true).getD i false) (List.range ops.length) x.i (List.mem_range.2 hlt) (fun j hj => by
        simp only [Bool.not_eq_true'] at hj ⊢
        cases hjj : listed.getD j false with
        | false => rfl
        | true => rw [(hset j).2 (.inr hjj)] at hj; cases hj) (by simp only [hl]; rfl) (by simp only [(hset x.i).2 (.inl rfl)]; rfl)
      omega
    have hsz' : (listed.setIfInBounds x.i true).size = ops.length := by simp [hsz]
    have next : ∀ {pre rest e E s T pd act ι w M}, J P F anc ins p K (fun i => (listed.setIfInBounds x.i true).getD i false) pre rest e0 e E s T pd act ι w M → wpAny P .any ops.toArray Q fuel (listed.setIfInBounds x.i true) act w := by
      intro pre rest e E s T pd act ι w M hJ
      obtain ⟨pre', rest', e', s', T', pd', hJ', hr'⟩ := advance hp rest pre hJ
      exact ih _ hsz' hcnt hJ' hr'
    -- in the plan's past, or next
    have hx : x ∈ pre ∨ x ∈ rest := by
      have := hxp
      rw [h.split] at this
      exact List.mem_append.1 this
    rcases hx with hx | hx
    · exact exec_plain hp h hx hl hanc hset (hslots x hxp) fun E' T' act' ι' w' M' hJ => next hJ
    · rcases hrest with hr | ⟨y, r, hr, hye⟩
      · rw [hr] at hx; simp at hx
      · subst hr
        rcases List.mem_cons.1 hx with rfl | hx
        · exact exec_eff hp h hye hanc hset (hslots x hxp) fun e' E' s' T' pd' act' ι' w' M' hJ => next hJ
        · exfalso
          have hb := (hp.order pre y r h.split).2.2 hye x hx
          have := h.dpre _ (hanc _ hb)
          exact (hp.order pre y r h.split).2.1 this

end

theorem drawOk {P : Program} (hm : P.follows .mixedOrders = true) : DrawOk P := by
  intro F id ops p hc hd e s act ι w M K Q hI hW hQ
  unfold compReg at hc
  split at hc
  · rename_i l hl
    simp only [cond_true] at hc
    cases hpk : planOk P ops.toList l (ancs ops.toList []) (plan (ancs ops.toList []) l l.length [] 0) with
    | false => simp [hpk] at hc
    | true =>
      simp only [hpk, cond_true, Option.some.injEq, ACode.draw.injEq] at hc
      have hp := planF hl (p := p) hc.symm (by rw [← hc]; exact hpk)
      have hslots : ∀ x ∈ p, slotIn F.N x.ins.dst = true := by
        simp only [dstOk, List.all_eq_true] at hd
        exact hd
      refine wp_region_any hm ?_
      have hI' : Inv F e s act ι w.drew M := ⟨hI.rep.drew, hI.env.mono .drew (fun _ _ h => h), hI.size, hI.dfr.mono .drew (fun _ _ h => h), hI.go.trans (Go.drew hI.go.next) F.lt⟩
      have hfalse : ∀ i, (Array.replicate ops.size false).getD i false = false := fun i => by
        by_cases hi : i < ops.size <;> simp [Array.getD, hi]
      have hJ : J P F (ancs ops.toList []) l p K (fun i => (Array.replicate ops.size false).getD i false) [] p e e e s s [] act ι w.drew M := by
        refine ⟨rfl, fun i hi => ?_, fun i j hi => ?_, fun x hx => by simp at hx, hW, hI'.rep, fun h c => by simp, rfl, List.Pairwise.nil, fun q hq => by simp at hq, fun q hq => by simp at hq, fun q hq => by simp at hq, fun q hq => by simp at hq, fun q hq => by simp at hq, hI'.env, fun x hx => by simp at hx, fun _ _ => rfl, fun _ _ => rfl, fun x hx => by simp at hx, hI'.size, hI'.dfr, hI'.go⟩
        · rw [hfalse] at hi; cases hi
        · rw [hfalse] at hi; cases hi
      obtain ⟨pre', rest', e', s', T', pd', hJ', hr'⟩ := advance hp p [] hJ
      have hrun := draw_run (Q := Q) hp hslots hQ ops.size (Array.replicate ops.size false) (by simp) (by
        refine Nat.le_trans (List.length_filter_le _ _) ?_
        simp) hJ' hr'
      simpa using hrun
  · simp at hc
end Go.Ab
set_option linter.unusedVariables false
set_option linter.unusedSimpArgs false
set_option autoImplicit false
namespace Go.Ab

section
variable {P : Program}

theorem Tr.mono {f : Nat} {args : List AV} {s : St} {K K' : AV → St → Prop} (h : Tr P f args s K) (hk : ∀ v s', K v s' → K' v s') : Tr P f args s K' := by
  unfold Tr at *
  obtain ⟨hb, h⟩ := h
  refine ⟨hb, fun ι w M Vs hR hV => Calls.mono (h ι w M Vs hR hV) fun e w' he => ?_⟩
  obtain ⟨V, ι', M', v, s', he, hK, h1, h2, h3⟩ := he
  exact ⟨V, ι', M', v, s', he, hk _ _ hK, h1, h2, h3⟩

/-! ### by other names -/
section
variable {ι ι' : Iota} {w : World} {M : Nat → Prop} {ρ : Nat → Option Nat}
/-- what ι says of a handle, ι' says of its other name -/
def Fwd (ι ι' : Iota) (ρ : Nat → Option Nat) : Prop := ∀ h p, ι h = some p → match ρ h with
  | some h' => ι' h' = some p
  | none => p = none
mutual
theorem ren_fwd (hf : Fwd ι ι' ρ) : ∀ (v : AV) (V : Value), VRel ι w M v V → VRel ι' w M (v.ren ρ) V
  | .ptr h o, V, hr => by
    obtain ⟨b, base, h4, rfl⟩ := hr.ptr_inv
    have := hf h _ h4
    cases h3 : ρ h with
    | some h' => rw [h3] at this; simp only [AV.ren, h3]; exact .ptr h' o b base this
    | none => rw [h3] at this; cases this
  | .mp h, V, hr => by
    obtain ⟨b, h4, rfl⟩ := hr.mp_inv
    have := hf h _ h4
    cases h3 : ρ h with
    | some h' => rw [h3] at this; simp only [AV.ren, h3]; exact .mp h' b this
    | none => rw [h3] at this; cases this
  | .bfn f l, V, hr => by
    obtain ⟨cs, rfl, h1, h2⟩ := hr.bfn_inv
    exact .bfn f _ cs (by rw [renL_length]; exact h1) fun j hj => by
      rw [renL_length] at hj
      rw [renL_getD l j hj]
      exact renL_fwd hf l j hj _ (h2 j hj)
  | .sl e h o m, V, hr => by
    rcases hr.sl_inv with ⟨b, base, oo, cap, T, N, h4, h5, h6, h7, h8, rfl⟩ | ⟨h4, rfl, rfl⟩
    · have := hf h _ h4
      cases h3 : ρ h with
      | some h' => rw [h3] at this; simp only [AV.ren, h3]; exact .sl e h' o m b base oo cap T N this h5 h6 h7 h8
      | none => rw [h3] at this; cases this
    · have := hf h _ h4
      cases h3 : ρ h with
      | some h' => rw [h3] at this; simp only [AV.ren, h3]; exact .slv e h' o this
      | none => simp only [AV.ren, h3]; exact .g _ _ .nils
  | .agg l, V, hr => by
    obtain ⟨cs, rfl, h1, h2⟩ := hr.agg_inv
    exact .agg _ cs (by rw [renL_length]; exact h1) fun j hj => by
      rw [renL_length] at hj
      rw [renL_getD l j hj]
      exact renL_fwd hf l j hj _ (h2 j hj)
  | .tup l, V, hr => by
    obtain ⟨cs, rfl, h1, h2⟩ := hr.tup_inv
    exact .tup _ cs (by rw [renL_length]; exact h1) fun j hj => by
      rw [renL_length] at hj
      rw [renL_getD l j hj]
      exact renL_fwd hf l j hj _ (h2 j hj)
  | .iface t v, V, hr => by
    obtain ⟨V', rfl, h1⟩ := hr.iface_inv
    exact .iface t _ V' (ren_fwd hf v V' h1)
  | .fn f l, V, hr => by
    obtain ⟨cs, rfl, h1, h2⟩ := hr.fn_inv
    exact .fn f _ cs (by rw [renL_length]; exact h1) fun j hj => by
      rw [renL_length] at hj
      rw [renL_getD l j hj]
      exact renL_fwd hf l j hj _ (h2 j hj)
  | .undef, V, hr => .undef V
  | .sy k e, V, hr => by
    obtain ⟨h1, rfl⟩ := hr.sy_inv
    obtain ⟨h2, h3⟩ := SE.fwd (ι := ι) (ι' := ι') hf h1
    exact .sy k _ _ h2 h3
  | .aggI n k g, V, hr => VRel.same (v := .aggI n k g) hr (by simp) (by simp) (by simp) (by simp) (by simp) (by simp) (by simp) (by simp)
  | .bool b, V, hr => VRel.same (v := .bool b) hr (by simp) (by simp) (by simp) (by simp) (by simp) (by simp) (by simp) (by simp)
  | .int k m, V, hr => VRel.same (v := .int k m) hr (by simp) (by simp) (by simp) (by simp) (by simp) (by simp) (by simp) (by simp)
  | .str x, V, hr => VRel.same (v := .str x) hr (by simp) (by simp) (by simp) (by simp) (by simp) (by simp) (by simp) (by simp)
  | .nilp, V, hr => VRel.same (v := .nilp) hr (by simp) (by simp) (by simp) (by simp) (by simp) (by simp) (by simp) (by simp)
  | .nils, V, hr => VRel.same (v := .nils) hr (by simp) (by simp) (by simp) (by simp) (by simp) (by simp) (by simp) (by simp)
  | .nili, V, hr => VRel.same (v := .nili) hr (by simp) (by simp) (by simp) (by simp) (by simp) (by simp) (by simp) (by simp)
  | .nilf, V, hr => VRel.same (v := .nilf) hr (by simp) (by simp) (by simp) (by simp) (by simp) (by simp) (by simp) (by simp)
  | .nilm, V, hr => VRel.same (v := .nilm) hr (by simp) (by simp) (by simp) (by simp) (by simp) (by simp) (by simp) (by simp)
  | .cptr v, V, hr => VRel.same (v := .cptr v) hr (by simp) (by simp) (by simp) (by simp) (by simp) (by simp) (by simp) (by simp)
  | .roI k l, V, hr => VRel.same (v := .roI k l) hr (by simp) (by simp) (by simp) (by simp) (by simp) (by simp) (by simp) (by simp)
  | .roB l, V, hr => VRel.same (v := .roB l) hr (by simp) (by simp) (by simp) (by simp) (by simp) (by simp) (by simp) (by simp)
  | .ro e l, V, hr => VRel.same (v := .ro e l) hr (by simp) (by simp) (by simp) (by simp) (by simp) (by simp) (by simp) (by simp)
  | .raw x, V, hr => VRel.same (v := .raw x) hr (by simp) (by simp) (by simp) (by simp) (by simp) (by simp) (by simp) (by simp)
termination_by structural v => v
theorem renL_fwd (hf : Fwd ι ι' ρ) : ∀ (l : List AV) (j : Nat), j < l.length → ∀ V, VRel ι w M (l.getD j .undef) V → VRel ι' w M ((l.getD j .undef).ren ρ) V
  | [], j, hj, V, hr => by simp at hj
  | v :: r, 0, hj, V, hr => ren_fwd hf v V (by simpa using hr)
  | v :: r, j + 1, hj, V, hr => by simpa using renL_fwd hf r j (by simpa using hj) V (by simpa using hr)
termination_by structural l => l
end
theorem crel_fwd (hf : Fwd ι ι' ρ) {c : Chunk} {b base : Nat} (h : CRel ι w M c b base) : CRel ι' w M (c.ren ρ) b base := by
  by_cases hm : ∃ l k, c = .map l k
  · obtain ⟨l, k, rfl⟩ := hm
    obtain ⟨h0, es, h1, h2, h3⟩ := h
    refine ⟨h0, es, h1, by simpa using h2, fun j x hj => ?_⟩
    rw [List.getElem?_map] at hj
    obtain ⟨y, hy, rfl⟩ := Option.map_eq_some_iff.1 hj
    obtain ⟨e, q1, q2, q3, q4⟩ := h3 j y hy
    exact ⟨e, q1, ren_fwd hf _ _ q2, ren_fwd hf _ _ q3, q4⟩
  have hnm : ∀ l k, c ≠ .map l k := fun l k e => hm ⟨l, k, e⟩
  have hnr : ∀ l k, c.ren ρ ≠ .map l k := fun l k e => by cases c <;> first | (exact absurd rfl (hnm _ _)) | (simp [Chunk.ren] at e)
  rw [CRel.not_map hnm] at h
  rw [CRel.not_map hnr]
  obtain ⟨cs, T, fr, h1, h2, h3, h4⟩ := h
  refine ⟨cs, T, fr, h1, h2, by rw [Chunk.ren_size]; exact h3, fun j hj => ?_⟩
  rw [Chunk.ren_size] at hj
  have := h4 j hj
  cases c with
  | obj l =>
    simp only [Chunk.ren, Chunk.get, Chunk.size] at *
    rw [renL_getD l j hj]
    exact renL_fwd hf l j hj _ this
  | fn m f => exact ren_fwd hf _ _ this
  | rowI k l => exact ren_fwd hf _ _ this
  | rowB l => exact ren_fwd hf _ _ this
  | blk n k g => exact ren_fwd hf _ _ this
  | map l k => exact absurd rfl (hnm l k)
end

/-- the names behind a call: those that were, the call's own -/
def back (ρ : Nat → Option Nat) (n0 n : Nat) (h : Nat) : Option Nat := bif Nat.blt h n0 then ρ h else some (n + (h - n0))
def memRen (ρ : Nat → Option Nat) : Mem → Mem
  | [] => []
  | (h, c) :: r => match ρ h with
    | some h' => (h', c.map (·.ren ρ)) :: memRen ρ r
    | none => memRen ρ r
def dropL : List Nat → Mem → Mem
  | [], m => m
  | h :: r, m => (h, none) :: dropL r m
def backSt (ρ : Nat → Option Nat) (s0 s s0' : St) : St :=
  ⟨s.next + (s0'.next - s0.next), memRen (back ρ s0.next s.next) s0'.m ++ dropL (liveOf ρ s0.m) s.m⟩

theorem dropL_get : ∀ (l : List Nat) (m : Mem) (k : Nat) (c : Chunk), (dropL l m).get k = some c → m.get k = some c ∧ k ∉ l
  | [], m, k, c, h => ⟨h, by simp⟩
  | a :: r, m, k, c, h => by
    simp only [dropL, Mem.get_cons] at h
    split at h
    · cases h
    · rename_i hne
      obtain ⟨h1, h2⟩ := dropL_get r m k c h
      exact ⟨h1, by simp only [List.mem_cons, not_or]; exact ⟨fun e => hne e.symm, h2⟩⟩
theorem memRen_get (ρ : Nat → Option Nat) (m2 : Mem) : ∀ (m : Mem) (k : Nat) (c : Chunk), (memRen ρ m ++ m2).get k = some c → (∃ h c0, m.get h = some c0 ∧ ρ h = some k ∧ c = c0.ren ρ) ∨ m2.get k = some c
  | [], k, c, h => .inr h
  | (a, d) :: r, k, c, h => by
    simp only [memRen] at h
    cases ha : ρ a with
    | none =>
      rw [ha] at h
      rcases memRen_get ρ m2 r k c h with ⟨h1, c0, k1, k2, k3⟩ | k1
      · refine .inl ⟨h1, c0, ?_, k2, k3⟩
        rw [Mem.get_cons, if_neg (fun e => by rw [← e, ha] at k2; cases k2)]
        exact k1
      · exact .inr k1
    | some a' =>
      rw [ha] at h
      simp only [List.cons_append, Mem.get_cons] at h
      split at h
      · rename_i he
        subst he
        obtain ⟨c0, hd, hc⟩ := map_some h
        exact .inl ⟨a, c0, by rw [Mem.get_cons, if_pos rfl]; exact hd, ha, hc.symm⟩
      · rename_i he
        rcases memRen_get ρ m2 r k c h with ⟨h1, c0, k1, k2, k3⟩ | k1
        · refine .inl ⟨h1, c0, ?_, k2, k3⟩
          rw [Mem.get_cons, if_neg (fun e => by rw [← e, ha] at k2; exact he (by simpa using k2))]
          exact k1
        · exact .inr k1

/-- A call in a bigger state, by other names. -/
theorem Tr.call {f : Nat} {args0 args : List AV} {s0 s : St} {K0 K : AV → St → Prop} (rn : List (Nat × Option Nat)) (h : Tr P f args0 s0 K0) (ha : args = renL (rnm rn) args0) (hok : hokL s0.next (rnm rn) args0 = true)
    (hm : memSub (rnm rn) s0.next s s0.m) (hn : nodupN (liveOf (rnm rn) s0.m) = true) (hK : ∀ v0 s0', K0 v0 s0' → K (v0.ren (back (rnm rn) s0.next s.next)) (backSt (rnm rn) s0 s s0')) : Tr P f args s K := by
  subst ha
  unfold Tr at *
  obtain ⟨hb, h⟩ := h
  refine ⟨hb, fun ι w M Vs hR hV => ?_⟩
  generalize hρ : rnm rn = ρ at *
  have hmem := memSub_mem s0.m hm
  have key : ∀ k c, s0.get k = some c → (ι.ren ρ s0.next k = some none ∧ c.size = 0) ∨ ∃ h', ρ k = some h' ∧ ι.ren ρ s0.next k = ι h' ∧ s.get h' = some (c.ren ρ) := fun k c hg => by
    obtain ⟨k1, k2, k3⟩ := hmem k c (mem_get _ _ _ hg)
    cases hr : ρ k with
    | none => rw [hr] at k3; exact .inl ⟨Iota.ren_none k2 hr, k3⟩
    | some h' => rw [hr] at k3; exact .inr ⟨h', rfl, Iota.ren_some k2 hr, k3⟩
  have hownL : ∀ b, Own (ι.ren ρ s0.next) s0 b → ∃ h' c base, h' ∈ liveOf ρ s0.m ∧ s.get h' = some c ∧ ι h' = some (some (b, base)) := fun b ho => by
    obtain ⟨k, c, base, k1, k2⟩ := ho
    rcases key k c k1 with ⟨k3, _⟩ | ⟨h', k5, k3, k4⟩
    · rw [k2] at k3; cases k3
    · rw [k2] at k3; exact ⟨h', _, base, live_mem _ _ _ _ (mem_get _ _ _ k1) k5, k4, k3.symm⟩
  have hown : ∀ b, Own (ι.ren ρ s0.next) s0 b → Own ι s b := fun b ho => by
    obtain ⟨h', c, base, _, k1, k2⟩ := hownL b ho
    exact ⟨h', c, base, k1, k2⟩
  have hR0 : Rep (ι.ren ρ s0.next) s0 w M := by
    refine ⟨fun h hh => Iota.ren_ge hh, fun h c hg => ?_, fun h h' c c' p p' hg hg' hne hp hp' => ?_, hR.lt, hR.glob⟩
    · rcases key h c hg with k | ⟨h', _, k3, k4⟩
      · exact .inl k
      · rw [k3]
        rcases hR.own h' _ k4 with ⟨k5, k6⟩ | ⟨b, base, k5, k6, k7⟩
        · exact .inl ⟨k5, by rw [Chunk.ren_size] at k6; exact k6⟩
        · exact .inr ⟨b, base, k5, k6, ren_crel (hmem h c (mem_get _ _ _ hg)).1 k7⟩
    · rcases key h c hg with ⟨k3, _⟩ | ⟨h1', r1, k3, k4⟩
      · rw [hp] at k3; cases k3
      · rcases key h' c' hg' with ⟨k5, _⟩ | ⟨h2', r2, k5, k6⟩
        · rw [hp'] at k5; cases k5
        · rw [hp] at k3
          rw [hp'] at k5
          refine hR.inj h1' h2' _ _ p p' k4 k6 (fun he => hne ?_) k3.symm k5.symm
          subst he
          exact live_inj s0.m hn h h' c c' h1' (mem_get _ _ _ hg) (mem_get _ _ _ hg') r1 r2
  have hV0 : VRels (ι.ren ρ s0.next) w M args0 Vs := by
    obtain ⟨k1, k2⟩ := hV
    rw [renL_length] at k1 k2
    exact ⟨k1, fun j hj => renL_rel args0 hok j hj _ (by rw [← renL_getD args0 j hj]; exact k2 j hj)⟩
  refine Calls.mono (h _ w M Vs hR0 hV0) fun en w1 he => ?_
  obtain ⟨V, ι1, M1, v0, s0', rfl, hK0, h1, h2, h3⟩ := he
  -- the names behind it
  let ι' : Iota := fun k => if k < s.next then ι k else ι1 (s0.next + (k - s.next))
  have hlo : ∀ k, k < s.next → ι' k = ι k := fun k hk => by simp [ι', hk]
  have hhi : ∀ k, s.next ≤ k → ι' k = ι1 (s0.next + (k - s.next)) := fun k hk => by simp [ι', Nat.not_lt.2 hk]
  have hf : Fwd ι1 ι' (back ρ s0.next s.next) := fun k p hp => by
    unfold back
    rw [blt_eq]
    by_cases hk : k < s0.next
    · simp only [hk, decide_true, cond_true]
      rw [h3.ext k hk] at hp
      cases hr : ρ k with
      | none => rw [Iota.ren_none hk hr] at hp; cases hp; rfl
      | some k' =>
        rw [Iota.ren_some hk hr] at hp
        have hlt : k' < s.next := by
          rcases Nat.lt_or_ge k' s.next with hl | hl
          · exact hl
          · rw [hR.fresh k' hl] at hp; cases hp
        simp only
        rw [hlo k' hlt]; exact hp
    · simp only [hk, decide_false, cond_false]
      rw [hhi _ (by omega), show s0.next + (s.next + (k - s0.next) - s.next) = k by omega]
      exact hp
  have hx : ∀ k p, ι k = some p → ι' k = some p := fun k p hp => by
    rcases Nat.lt_or_ge k s.next with hl | hl
    · rw [hlo k hl]; exact hp
    · rw [hR.fresh k hl] at hp; cases hp
  have hI : Imm w M w1 M1 := GoImm h3 fun b hb => hR.ownM (hown b hb)
  have hn1 : s0.next ≤ s0'.next := h3.next
  have hget : ∀ k c, (backSt ρ s0 s s0').get k = some c → (∃ h0 c0, s0'.get h0 = some c0 ∧ back ρ s0.next s.next h0 = some k ∧ c = c0.ren (back ρ s0.next s.next)) ∨ (s.get k = some c ∧ k ∉ liveOf ρ s0.m) := fun k c hc => by
    rcases memRen_get _ _ _ _ _ hc with k1 | k1
    · exact .inl k1
    · exact .inr (dropL_get _ _ _ _ k1)
  -- the caller's other blocks
  have hoth : ∀ k c b base, s.get k = some c → k ∉ liveOf ρ s0.m → ι k = some (some (b, base)) → ¬ Own (ι.ren ρ s0.next) s0 b := fun k c b base hk hl hi ho => by
    obtain ⟨h', c', base', k1, k2, k3⟩ := hownL b ho
    have hne : h' ≠ k := fun e => hl (e ▸ k1)
    exact hR.inj h' k c' c _ _ k2 hk hne k3 hi rfl
  have htie : ∀ h0 c0 k p, s0'.get h0 = some c0 → back ρ s0.next s.next h0 = some k → ι' k = some p → ι1 h0 = some p := fun h0 c0 k p hg hb hp => by
    rcases h2.own h0 c0 hg with ⟨q, _⟩ | ⟨b, base, q, _⟩
    · have := hf h0 _ q; rw [hb] at this; rw [this] at hp; rw [q, hp]
    · have := hf h0 _ q; rw [hb] at this; rw [this] at hp; rw [q, hp]
  refine ⟨V, ι', M1, _, backSt ρ s0 s s0', rfl, hK v0 s0' hK0, ren_fwd hf v0 V h1, ⟨fun k hk => ?_, fun k c hc => ?_, fun k k' c c' p p' hc hc' hne hp hp' => ?_, h2.lt, h2.glob⟩, ⟨h3.size, h3.tape, h3.os, h3.output, fun b hb ho => h3.block b hb fun h => ho (hown b h), h3.shape, h3.back, fun b hM ho => h3.keep b hM fun h => ho (hown b h), fun b hb ho => ?_, by simp only [backSt]; omega, fun k hk => hlo k hk⟩⟩
  · simp only [backSt] at hk
    rw [hhi k (by omega)]
    exact h2.fresh _ (by omega)
  · rcases hget k c hc with ⟨h0, c0, q1, q2, rfl⟩ | ⟨q1, q2⟩
    · rcases h2.own h0 c0 q1 with ⟨r1, r2⟩ | ⟨b, base, r1, r2, r3⟩
      · have := hf h0 _ r1; rw [q2] at this
        exact .inl ⟨this, by rw [Chunk.ren_size]; exact r2⟩
      · have := hf h0 _ r1; rw [q2] at this
        exact .inr ⟨b, base, this, r2, crel_fwd hf r3⟩
    · rcases hR.own k c q1 with ⟨r1, r2⟩ | ⟨b, base, r1, r2, r3⟩
      · exact .inl ⟨hx _ _ r1, r2⟩
      · have hno := hoth k c b base q1 q2 r1
        exact .inr ⟨b, base, hx _ _ r1, h3.keep b r2 hno, r3.mono hI hx (h3.block b (hR.lt b r2) hno)⟩
  · rcases hget k c hc with ⟨h0, c0, q1, q2, _⟩ | ⟨q1, q2⟩ <;> rcases hget k' c' hc' with ⟨h0', c0', q1', q2', _⟩ | ⟨q1', q2'⟩
    · refine h2.inj h0 h0' c0 c0' p p' q1 q1' (fun e => hne ?_) (htie _ _ _ _ q1 q2 hp) (htie _ _ _ _ q1' q2' hp')
      subst e
      rw [q2] at q2'
      simpa using q2'
    · have hp2 : ι k' = some (some p') := by
        have hlt := hR.none_of_get q1'
        rw [hlo k' hlt] at hp'; exact hp'
      have hMb : M p'.1 := hR.ownM ⟨k', c', p'.2, q1', hp2⟩
      intro e
      exact hoth k' c' p'.1 p'.2 q1' q2' hp2 (h3.own p'.1 (hR.lt _ hMb) ⟨h0, c0, p.2, q1, by rw [htie _ _ _ _ q1 q2 hp, ← e]⟩)
    · have hp2 : ι k = some (some p) := by
        have hlt := hR.none_of_get q1
        rw [hlo k hlt] at hp; exact hp
      have hMb : M p.1 := hR.ownM ⟨k, c, p.2, q1, hp2⟩
      intro e
      exact hoth k c p.1 p.2 q1 q2 hp2 (h3.own p.1 (hR.lt _ hMb) ⟨h0', c0', p'.2, q1', by rw [htie _ _ _ _ q1' q2' hp', e]⟩)
    · have hlt := hR.none_of_get q1
      have hlt' := hR.none_of_get q1'
      rw [hlo k hlt] at hp
      rw [hlo k' hlt'] at hp'
      exact hR.inj k k' c c' p p' q1 q1' hne hp hp'
  · obtain ⟨k, c, base, k1, k2⟩ := ho
    rcases hget k c k1 with ⟨h0, c0, q1, q2, _⟩ | ⟨q1, q2⟩
    · exact hown b (h3.own b hb ⟨h0, c0, base, q1, htie _ _ _ _ q1 q2 k2⟩)
    · have hlt := hR.none_of_get q1
      rw [hlo k hlt] at k2
      exact ⟨k, c, base, q1, k2⟩

end
end Go.Ab
set_option linter.unusedVariables false
set_option linter.unusedSimpArgs false
set_option autoImplicit false
namespace Go.Ab

/-! ### trees -/
theorem beqN (a b : Nat) : Nat.beq a b = decide (a = b) := by
  by_cases h : a = b
  · subst h; simp
  · rw [decide_eq_false h, Bool.eq_false_iff]
    exact fun e => h (Nat.eq_of_beq_eq_true e)
section
variable {α : Type}
theorem PT.mkA_eq (t : PT α) (x : α) (b : PT α) : PT.mkA t x b = .n t x b := by cases t <;> rfl
theorem PT.mkB_eq (a : PT α) (x : α) (t : PT α) : PT.mkB a x t = .n a x t := by cases t <;> rfl
theorem PT.go_eq {β : Type} (t : PT α) (K : PT α → β) : t.go K = K t := by cases t <;> rfl
theorem PT.getP_l (d : α) (p : Po) : PT.getP d p .l = d := by cases p <;> rfl
theorem PT.getP_same (d v : α) : ∀ (p : Po) (t : PT α), PT.getP d p (PT.setP d v p t) = v
  | .h, t => by cases t <;> rfl
  | .i q, t => by
    cases t with
    | l => show PT.getP d (.i q) (PT.mkA (PT.setP d v q .l) d .l) = _; rw [PT.mkA_eq]; exact PT.getP_same d v q .l
    | n a x b => show PT.getP d (.i q) (PT.mkA (PT.setP d v q a) x b) = _; rw [PT.mkA_eq]; exact PT.getP_same d v q a
  | .o q, t => by
    cases t with
    | l => show PT.getP d (.o q) (PT.mkB .l d (PT.setP d v q .l)) = _; rw [PT.mkB_eq]; exact PT.getP_same d v q .l
    | n a x b => show PT.getP d (.o q) (PT.mkB a x (PT.setP d v q b)) = _; rw [PT.mkB_eq]; exact PT.getP_same d v q b
theorem PT.getP_other (d v : α) : ∀ (q p : Po) (t : PT α), p ≠ q → PT.getP d p (PT.setP d v q t) = PT.getP d p t
  | .h, p, t, h => by
    cases p with
    | h => exact absurd rfl h
    | i p =>
      cases t with
      | l => show PT.getP d p .l = d; exact PT.getP_l d p
      | n a x b => rfl
    | o p =>
      cases t with
      | l => show PT.getP d p .l = d; exact PT.getP_l d p
      | n a x b => rfl
  | .i q, p, t, h => by
    cases t with
    | l =>
      show PT.getP d p (PT.mkA (PT.setP d v q .l) d .l) = _
      rw [PT.mkA_eq, PT.getP_l]
      cases p with
      | h => rfl
      | i p =>
        show PT.getP d p (PT.setP d v q .l) = _
        rw [PT.getP_other d v q p .l fun e => h (by rw [e]), PT.getP_l]
      | o p => show PT.getP d p .l = _; exact PT.getP_l d p
    | n a x b =>
      show PT.getP d p (PT.mkA (PT.setP d v q a) x b) = _
      rw [PT.mkA_eq]
      cases p with
      | h => rfl
      | i p => exact PT.getP_other d v q p a fun e => h (by rw [e])
      | o p => rfl
  | .o q, p, t, h => by
    cases t with
    | l =>
      show PT.getP d p (PT.mkB .l d (PT.setP d v q .l)) = _
      rw [PT.mkB_eq, PT.getP_l]
      cases p with
      | h => rfl
      | o p =>
        show PT.getP d p (PT.setP d v q .l) = _
        rw [PT.getP_other d v q p .l fun e => h (by rw [e]), PT.getP_l]
      | i p => show PT.getP d p .l = _; exact PT.getP_l d p
    | n a x b =>
      show PT.getP d p (PT.mkB a x (PT.setP d v q b)) = _
      rw [PT.mkB_eq]
      cases p with
      | h => rfl
      | o p => exact PT.getP_other d v q p b fun e => h (by rw [e])
      | i p => rfl
def valP : Po → Nat
  | .h => 1
  | .i p => 2 * valP p + 1
  | .o p => 2 * valP p
theorem valP_poF : ∀ (f n : Nat), 1 ≤ n → (n < 2 ^ f → valP (poF f n) = n) ∧ (2 ^ f ≤ n → 2 ^ f ≤ valP (poF f n))
  | 0, n, h => ⟨fun h1 => by simp at h1; omega, fun _ => by simp [poF, valP]⟩
  | f + 1, n, h => by
    have hp : 1 ≤ 2 ^ f := Nat.one_le_two_pow
    have hs : 2 ^ (f + 1) = 2 * 2 ^ f := by rw [Nat.pow_succ]; omega
    unfold poF
    cases h1 : Nat.ble n 1 with
    | true =>
      have := Nat.le_of_ble_eq_true h1
      simp only [cond_true, valP]
      omega
    | false =>
      have h2 : ¬ n ≤ 1 := fun hh => by rw [Nat.ble_eq_true_of_le hh] at h1; cases h1
      simp only [cond_false, beqN]
      have hm : Nat.mod n 2 = n % 2 := rfl
      have hd : Nat.div n 2 = n / 2 := rfl
      rw [hm, hd]
      obtain ⟨k1, k2⟩ := valP_poF f (n / 2) (by omega)
      by_cases hb : n % 2 = 1
      · simp only [hb, decide_true, cond_true, valP]
        refine ⟨fun h3 => ?_, fun h3 => ?_⟩
        · have := k1 (by omega); omega
        · have := k2 (by omega); omega
      · simp only [hb, decide_false, cond_false, valP]
        refine ⟨fun h3 => ?_, fun h3 => ?_⟩
        · have := k1 (by omega); omega
        · have := k2 (by omega); omega
theorem po_inj {j k : Nat} (hk : Nat.blt k bigN = true) (h : po j = po k) : j = k := by
  have hk : k < 1000000 := by simpa [bigN, blt_eq] using hk
  have h21 : (2 : Nat) ^ 21 = 2097152 := rfl
  obtain ⟨a1, _⟩ := valP_poF 21 (Nat.succ k) (by omega)
  obtain ⟨b1, b2⟩ := valP_poF 21 (Nat.succ j) (by omega)
  unfold po at h
  rw [h] at b1 b2
  have ha := a1 (by omega)
  rcases Nat.lt_or_ge (Nat.succ j) (2 ^ 21) with hl | hl
  · have := b1 hl; omega
  · have := b2 hl; omega
theorem PT.get_set20 {d : α} {t : PT α} {k : Nat} {v : α} {j : Nat} (h : Nat.blt k bigN = true) : (PT.set d t k v).get d j = if j = k then v else t.get d j := by
  unfold PT.set PT.get
  by_cases hj : j = k
  · subst hj; rw [if_pos rfl]; exact PT.getP_same _ _ _ _
  · rw [if_neg hj]; exact PT.getP_other _ _ _ _ _ fun e => hj (po_inj h e)
end

/-! ### forms -/
section
variable {β : Type}
theorem goN_eq (n : Nat) (K : Nat → β) : goN n K = K n := by cases n <;> rfl
theorem goI_eq (n : Int) (K : Int → β) : goI n K = K n := by cases n <;> simp only [goI, goN_eq]
theorem goB_eq (b : Bool) (K : Bool → β) : goB b K = K b := by cases b <;> rfl
theorem goIL_eq : ∀ (l : List Int) (K : List Int → β), goIL l K = K l
  | [], K => rfl
  | n :: r, K => by simp only [goIL, goI_eq, goIL_eq r]
theorem goBL_eq : ∀ (l : List Bool) (K : List Bool → β), goBL l K = K l
  | [], K => rfl
  | n :: r, K => by simp only [goBL, goB_eq, goBL_eq r]
theorem goA_eq (v : AV) (K : AV → β) : goA v K = K v := by cases v <;> simp only [goA, goN_eq, goI_eq, goB_eq]
theorem goL_eq : ∀ (l : List AV) (K : List AV → β), goL l K = K l
  | [], K => rfl
  | v :: r, K => by simp only [goL, goA_eq, goL_eq r]
theorem goV_eq (v : AV) (K : AV → β) : goV v K = K v := by
  cases v <;> simp only [goV, goL_eq, goA_eq, goN_eq, goI_eq, goB_eq]
theorem goC_eq (c : Chunk) (K : Chunk → β) : goC c K = K c := by cases c <;> simp only [goC, goL_eq, goIL_eq, goBL_eq]
end

/-! ### states -/
theorem Env.getR_eq (e : Env) (u : Nat) : e.getR u = e.get u := by
  induction e with
  | nil => rfl
  | cons p r ih =>
    show (Bool.rec (Env.getR r u) p.2 (Nat.beq p.1 u) : AV) = _
    rw [ih]
    show _ = (bif Nat.beq p.1 u then p.2 else Env.get r u)
    cases Nat.beq p.1 u <;> rfl
theorem slotX_eq (k : Nat) (x : XE) (n : Nat) : slotX k x n = bif keptB k n then x.e.get .undef n else x.loc.get n := by
  unfold slotX
  rw [Env.getR_eq]
  cases keptB k n <;> rfl
def eqE (k : Nat) (t : XE) (e : Env) : Prop := ∀ u, e.get u = slotX k t u
def eqS (t : XS) (s : St) : Prop := s.next = t.next ∧ ∀ h, s.get h = t.get h
theorem eqE.ev {k : Nat} {t : XE} {e : Env} (h : eqE k t e) : AOpd.ev e = evT k t := by
  funext x
  cases x
  · exact h _
  · rfl
  · rfl
theorem eqS.get {t : XS} {s : St} (h : eqS t s) : s.get = t.get := funext h.2
theorem putE_get' (e : Env) (d : Option Nat) (v : AV) (u : Nat) : (putE e d v).get u = if d = some u then v else e.get u := by
  cases d with
  | none => simp [putE]
  | some d => simp only [putE, Env.get_cons, Option.some.injEq]
theorem putX_spec {β : Type} {k : Nat} {t : XE} {d : Option Nat} {v : AV} {K : XE → Option β} {r : β} (h : putX k t d v K = some r) : ∃ t', K t' = some r ∧ t'.ds = t.ds ∧ ∀ e, eqE k t e → eqE k t' (putE e d v) := by
  cases d with
  | none => exact ⟨t, h, rfl, fun e he => he⟩
  | some d =>
    simp only [putX, PT.go_eq] at h
    cases hk : keptB k d with
    | false =>
      rw [hk] at h
      refine ⟨_, h, rfl, fun e he u => ?_⟩
      rw [slotX_eq, putE_get']
      have h0 := he u
      rw [slotX_eq] at h0
      by_cases hu : d = u
      · subst hu
        simp only [hk, cond_false, if_true]
        rw [Env.get_cons, if_pos rfl]
      · rw [if_neg (by simpa using hu), h0]
        cases keptB k u
        · simp only [cond_false]; rw [Env.get_cons, if_neg hu]
        · rfl
    | true =>
      rw [hk] at h
      simp only at h
      cases hb : Nat.blt d bigN with
      | false => rw [hb] at h; cases h
      | true =>
        rw [hb] at h
        refine ⟨_, h, rfl, fun e he u => ?_⟩
        rw [slotX_eq, putE_get']
        have h0 := he u
        rw [slotX_eq] at h0
        by_cases hu : d = u
        · subst hu
          simp only [hk, cond_true, if_true]
          rw [PT.get_set20 hb, if_pos rfl]
        · rw [if_neg (by simpa using hu), h0]
          cases keptB k u
          · rfl
          · simp only [cond_true]; rw [PT.get_set20 hb, if_neg (fun e => hu e.symm)]
theorem putX_slot {k d : Nat} {t t' : XE} {v : AV} (h : putX k t (some d) v some = some t') (u : Nat) : slotX k t' u = if d = u then v else slotX k t u := by
  simp only [putX, PT.go_eq] at h
  rw [slotX_eq, slotX_eq]
  cases hk : keptB k d with
  | false =>
    rw [hk] at h
    simp only [Option.some.injEq] at h
    subst h
    by_cases hu : d = u
    · subst hu
      simp only [hk, cond_false, if_true]
      rw [Env.get_cons, if_pos rfl]
    · rw [if_neg hu]
      cases keptB k u
      · simp only [cond_false]; rw [Env.get_cons, if_neg hu]
      · rfl
  | true =>
    rw [hk] at h
    simp only at h
    cases hb : Nat.blt d bigN with
    | false => rw [hb] at h; cases h
    | true =>
      rw [hb] at h
      simp only [Option.some.injEq] at h
      subst h
      by_cases hu : d = u
      · subst hu
        simp only [hk, cond_true, if_true]
        rw [PT.get_set20 hb, if_pos rfl]
      · rw [if_neg hu]
        cases keptB k u
        · rfl
        · simp only [cond_true]; rw [PT.get_set20 hb, if_neg (fun e => hu e.symm)]
theorem drop_spec {k : Nat} {x : XE} {e : Env} (h : eqE k x e) : ∃ e', eqE k x.drop e' ∧ ∀ u, e'.get u = e.get u ∨ e'.get u = .undef := by
  have key : ∀ (l : Env) u, Env.get (l.filter fun p => keptB k p.1) u = bif keptB k u then Env.get l u else .undef := by
    intro l u
    induction l with
    | nil => cases keptB k u <;> rfl
    | cons p r ih =>
      rw [List.filter_cons]
      by_cases hu : p.1 = u
      · cases hk : keptB k p.1 with
        | true =>
          rw [if_pos rfl, show p = (p.1, p.2) from rfl, Env.get_cons, if_pos hu, ← hu, hk, Env.get_cons, if_pos rfl]; rfl
        | false =>
          rw [if_neg (by simp), ih, ← hu, hk]; rfl
      · have e1 : Env.get (p :: r) u = Env.get r u := by
          rw [show p = (p.1, p.2) from rfl, Env.get_cons, if_neg hu]
        rw [e1]
        cases hk : keptB k p.1 with
        | true => rw [if_pos rfl, show p = (p.1, p.2) from rfl, Env.get_cons, if_neg hu, ih]
        | false => rw [if_neg (by simp), ih]
  refine ⟨e.filter fun p => keptB k p.1, fun u => ?_, fun u => ?_⟩
  · rw [key, slotX_eq, h u, slotX_eq]
    cases keptB k u <;> rfl
  · rw [key]
    cases keptB k u
    · exact .inr rfl
    · exact .inl rfl
theorem effX_spec {β : Type} {t : XS} {f : Eff} {K : XS → Option β} {r : β} (h : effX t f K = some r) : ∃ t', K t' = some r ∧ ∀ s, eqS t s → eqS t' (s.app f) := by
  cases f with
  | no => exact ⟨t, h, fun s hs => hs⟩
  | new c =>
    simp only [effX, PT.go_eq, goC_eq, goN_eq] at h
    cases hb : Nat.blt t.next bigN with
    | false => simp [hb] at h
    | true =>
      simp only [hb, cond_true] at h
      refine ⟨_, h, fun s hs => ⟨by simp [St.app, hs.1], fun u => ?_⟩⟩
      show St.get ⟨s.next + 1, (s.next, some c) :: s.m⟩ u = (PT.set none t.m t.next (some c)).get none u
      rw [St.get_cons, PT.get_set20 hb, hs.1]
      by_cases hu : t.next = u
      · subst hu; simp
      · rw [if_neg hu, if_neg (fun e => hu e.symm)]; exact hs.2 u
  | set k c =>
    simp only [effX, PT.go_eq, goC_eq] at h
    cases hb : Nat.blt k bigN with
    | false => simp [hb] at h
    | true =>
      simp only [hb, cond_true] at h
      refine ⟨_, h, fun s hs => ⟨by simp [St.app, hs.1], fun u => ?_⟩⟩
      show St.get ⟨s.next, (k, some c) :: s.m⟩ u = (PT.set none t.m k (some c)).get none u
      rw [St.get_cons, PT.get_set20 hb]
      by_cases hu : k = u
      · subst hu; simp
      · rw [if_neg hu, if_neg (fun e => hu e.symm)]; exact hs.2 u
  | app k c =>
    simp only [effX, PT.go_eq, goC_eq, goN_eq] at h
    cases hb : Nat.blt k bigN with
    | false => simp [hb] at h
    | true =>
      cases hb2 : Nat.blt t.next bigN with
      | false => simp [hb2] at h
      | true =>
        simp only [hb, hb2, Bool.and_self, cond_true] at h
        refine ⟨_, h, fun s hs => ⟨by simp [St.app, hs.1], fun u => ?_⟩⟩
        show St.get ⟨s.next + 1, (s.next, some c) :: (k, none) :: s.m⟩ u = (PT.set none (PT.set none t.m k none) t.next (some c)).get none u
        rw [St.get_cons, St.get_cons, PT.get_set20 hb2, PT.get_set20 hb, hs.1]
        by_cases hu : t.next = u
        · subst hu; simp
        · rw [if_neg hu, if_neg (fun e : u = t.next => hu e.symm)]
          by_cases hk : k = u
          · subst hk; simp
          · rw [if_neg hk, if_neg (fun e : u = k => hk e.symm)]; exact hs.2 u

/-- what a run knows holds of the program's state -/
def InvX (F : From) (k : Nat) (x : XE) (t : XS) (act : Act) (ι : Iota) (w : World) (M : Nat → Prop) : Prop :=
  ∃ e s, eqE k x e ∧ eqS t s ∧ Inv { F with ds := x.ds } e s act ι w M
/-- calls do what a table says -/
def CallOk (P : Program) (C : CallX) : Prop := ∀ f args t v t', C f args t = some (v, t') → ∀ s, eqS t s → Tr P f args s fun v' s' => v' = v ∧ eqS t' s'

section
variable {P : Program} {F : From} {C : CallX} {k : Nat} {x x' : XE} {t t' : XS} {act : Act} {ι : Iota} {w : World} {M : Nat → Prop}

theorem comp0_more {o : Op} {m : MOp} (h : compOp0 P o = some (.more m)) : False := by
  have hmk : ∀ z l, mkBuild z l ≠ .more m := fun z l => by unfold mkBuild; cases Nat.blt 64 (rlLen z) && intsR z <;> simp
  cases o <;> simp only [compOp0, compCall, compAppz, Option.map_eq_some_iff] at h
  all_goals repeat' (first | (obtain ⟨_, _, h⟩ := h; cases h; done) | (cases h; done) | (simp at h; done) | (rw [Option.map_eq_some_iff] at h; obtain ⟨_, _, h⟩ := h; first | (cases h; done) | exact hmk _ _ h) | split at h)
theorem comp_dfr {o : Op} {a : AOpd} {l : List AOpd} (h : compMore P o = .dfr a l) : ∃ c y, o = .defer c ∧ c.callee = .value y ∧ opds c.args.toList = some l ∧ opd y = some a := by
  cases o <;> simp only [compMore, compMoreCall] at h
  case defer c =>
    split at h
    · rename_i y l' h1 h2
      split at h
      · rename_i a' h3
        cases h
        exact ⟨c, y, rfl, h1, h2, h3⟩
      · cases h
    · cases h
  all_goals repeat' (first | (cases h; done) | contradiction | (rename_i n _; cases hb : Nat.blt 0 n <;> simp only [hb, cond_true, cond_false, reduceCtorEq] at h; done) | split at h)
theorem defer_sound {c : Call} {ty : TypeId} {o : AOpd} {l : List AOpd} {f : Nat} {args : List AV} {ρ : AOpd → AV} {η : Operand → Value} {y : Operand} (hρ : ORel ι w M ρ η) (hc : c.callee = .value y) (hl : opds c.args.toList = some l) (ho : opd y = some o)
    (h : (match ρ o with | .fn f caps => some (f, l.map ρ ++ caps) | .bfn f b => some (f, b ++ l.map ρ) | _ => none) = some (f, args)) :
    ∃ d, (resolve η c ty).run P w = .ok d w ∧ DRel1 P ι w M (f, args) d := by
  have hy := hρ _ _ ho
  have rels : VRels ι w M (l.map ρ) (c.args.map η) := by
    obtain ⟨h1, h2⟩ := opds_rel hρ _ _ hl
    refine ⟨by simpa using h1, fun j hj => ?_⟩
    have hcs : (c.args.map η).getD j default = (c.args.toList.map η).getD j default := by
      simp [Array.getD_eq_getD_getElem?, List.getD_eq_getElem?_getD]
    rw [hcs]
    exact h2 j hj
  cases hv : ρ o <;> simp only [hv, Option.some.injEq, reduceCtorEq, Prod.mk.injEq] at h
  case fn f' caps =>
    obtain ⟨rfl, rfl⟩ := h
    rw [hv] at hy
    obtain ⟨cs, hX, hl', hg⟩ := hy.fn_inv
    refine ⟨⟨.fn (.func f') cs, #[] ++ c.args.map η⟩, by simp [resolve, hc, hX, Deferred.ofValue], .func f', cs, c.args.map η ++ cs, rfl, fun hb w' => ?_, rels.append ⟨hl', hg⟩⟩
    simp [invoke, callee_enter hb]
  case bfn f' b =>
    obtain ⟨rfl, rfl⟩ := h
    rw [hv] at hy
    obtain ⟨cs, hX, hl', hg⟩ := hy.bfn_inv
    refine ⟨⟨.fn (.func f') #[], cs ++ c.args.map η⟩, by simp [resolve, hc, hX, Deferred.ofValue], .func f', #[], cs ++ c.args.map η, rfl, fun hb w' => ?_, VRels.append ⟨hl', hg⟩ rels⟩
    simp [invoke, callee_enter hb]

theorem insX_sound {o : Oper} {i : AIns} {next : Act → World → Prop} {Q : Exit → Act → World → Prop} (hP : F.P = P) (hC : CallOk P C) (hop : compOp P o.op = some i.op) (hdst : i.dst = o.dst) (hslot : slotIn F.N i.dst = true) (hI : InvX F k x t act ι w M)
    (h : insX C k i x t = some (x', t')) (hk : ∀ act' ι' w' M', InvX F k x' t' act' ι' w' M' → next act' w') : o.wp P act w next Q := by
  obtain ⟨e, s, he, hs, hI⟩ := hI
  unfold insX at h
  cases hdf : isDfr i.op with
  | true =>
    simp only [hdf, cond_true] at h
    split at h
    · rename_i d hd
      obtain ⟨t1, h1, hds, hE⟩ := putX_spec h
      simp only [Option.some.injEq, Prod.mk.injEq] at h1
      obtain ⟨rfl, rfl⟩ := h1
      unfold isDfr at hdf
      split at hdf
      · rename_i ao al hio
        rw [hio] at hop hd
        rcases compOp_cases hop with hop | hop
        · exfalso
          exact comp0_more hop
        · simp only [AOp.more.injEq] at hop
          obtain ⟨c, y, hoc, hcc, hcl, hcy⟩ := comp_dfr hop.symm
          simp only [deferX] at hd
          rw [← he.ev] at hd
          obtain ⟨D, hD1, hD2⟩ := defer_sound (P := P) (ty := o.type) (f := d.1) (args := d.2) (hI.env.orel hI.rep.glob) hcc hcl hcy hd
          unfold Oper.wp
          have hrun : (execOp act.eval o).run P w = .ok (.defer D) w := by
            unfold execOp
            rw [hoc]
            simp [hD1]
          rw [hrun, Oper.upon_defer]
          rw [← hdst]
          refine hk _ ι w M ⟨_, s, hE e he, hs, ⟨hI.rep, ?_, by rw [put_size]; exact hI.size, ?_, hI.go⟩⟩
          · exact ERel.put (act := { act with defers := D :: act.defers }) hI.env VRel.skip hslot hI.size
          · rw [put_defers]
            refine ⟨?_, by rw [hds]; exact hI.dfr⟩
            rw [hP]; exact hD2
      · cases hdf
    · cases h
  | false =>
    simp only [hdf, cond_false] at h
    rw [opX_eq, ← he.ev, ← hs.get, ← hs.1] at h
    split at h
    · rename_i c v eff hd
      cases c with
      | false => simp at h
      | true =>
        simp only [cond_true] at h
        obtain ⟨t1, h1, hS⟩ := effX_spec h
        rw [goV_eq] at h1
        obtain ⟨t2, h2, hds, hE⟩ := putX_spec h1
        simp only [Option.some.injEq, Prod.mk.injEq] at h2
        obtain ⟨rfl, rfl⟩ := h2
        obtain ⟨V, ι', w', M', hrun, h1, h2, h3, h4, h5⟩ := op_does (n0 := F.n0) hop hI.rep hI.env hI.go.next hd
        have hI' := (hI.step h2 h3 h4 h5).put h1 hslot
        rw [hdst] at hI'
        unfold Oper.wp
        have hX : InvX F k t2 t1 (act.put o.dst V) ι' w' M' := ⟨_, _, hE e he, hS s hs, by rw [hds, hdst]; exact hI'⟩
        rcases hrun with hrun | ⟨hrun, rfl⟩
        · rw [hrun, Oper.upon_value]; exact hk _ _ _ _ hX
        · rw [hrun, Oper.upon_skip]; exact hk _ _ _ _ hX
    · rename_i f args hd
      rw [goL_eq] at h
      split at h
      · rename_i v t1 hc
        obtain ⟨t2, h2, hds, hE⟩ := putX_spec h
        simp only [Option.some.injEq, Prod.mk.injEq] at h2
        obtain ⟨rfl, rfl⟩ := h2
        have hT := hC f args t v t1 hc s hs
        unfold Tr at hT
        obtain ⟨hb, hT⟩ := hT
        obtain ⟨Vs, hrun, hV⟩ := op_calls hop hI.rep hI.env hd hb
        unfold Oper.wp
        rw [hrun, Oper.upon_enter]
        refine Calls.mono (hT ι w M Vs hI.rep hV) fun en w' he' => ?_
        obtain ⟨V, ι', M', v', s', rfl, ⟨rfl, hs'⟩, h1, h2, h3⟩ := he'
        have hx := Rep.ext_all (n0 := 0) hI.rep h3
        have hI' := (hI.step h2 (h3.weak hI.go.next) hx (GoImm h3 fun b hb => hI.rep.ownM hb)).put h1 hslot
        rw [hdst] at hI'
        exact hk _ _ _ _ ⟨_, _, hE e he, hs', by rw [hds, hdst]; exact hI'⟩
      · cases h
    · cases h
end
end Go.Ab
set_option linter.unusedVariables false
set_option linter.unusedSimpArgs false
set_option autoImplicit false
namespace Go.Ab

section
variable {P : Program} {F : From} {C : CallX} {k : Nat} {x x' : XE} {t t' : XS} {act : Act} {ι : Iota} {w : World} {M : Nat → Prop}

theorem guardX_spec {e : Env} {t : XE} {i : AIns} {b : Bool} (he : eqE k t e) (h : guardX k t i = some b) {yes no : Prop} (hy : b = true → yes) (hn : b = false → no) : guardW e i yes no := by
  cases hg : i.guard with
  | none =>
    have h1 : b = true := by
      simp only [guardX, hg, Option.some.injEq] at h
      exact h.symm
    simp only [guardW, hg]
    exact hy h1
  | some g =>
    simp only [guardX, hg] at h
    simp only [guardW, hg]
    rw [he g.1]
    cases hc : slotX k t g.1 with
    | bool c =>
      rw [hc] at h
      cases c <;> cases hg2 : g.2 <;> simp only [hg2, cond_true, cond_false, Bool.not_true, Bool.not_false, Option.some.injEq] at h ⊢ <;> first | exact hy h.symm | exact hn h.symm
    | tup l =>
      rw [hc] at h
      simp only [Option.some.injEq] at h
      exact hn h.symm
    | _ => rw [hc] at h; cases h

theorem regX_sound {Q : Exit → Act → World → Prop} {ops : List Oper} (hP : F.P = P) (hC : CallOk P C) : ∀ (l : List Oper) (q : Nat) (il : List AIns), insL P ops q l = some il → il.all (fun i => slotIn F.N i.dst) = true →
    ∀ {x t act ι w M x' t'}, InvX F k x t act ι w M → regX C k il x t = some (x', t') → (∀ act' ι' w' M', InvX F k x' t' act' ι' w' M' → Q .normal act' w') → wpList P ops.toArray Q l act w
  | [], q, il, hl, hs, x, t, act, ι, w, M, x', t', hI, h, hk => by
    simp only [insL, Option.some.injEq] at hl
    subst hl
    simp only [regX, Option.some.injEq, Prod.mk.injEq] at h
    obtain ⟨rfl, rfl⟩ := h
    exact hk _ _ _ _ hI
  | o :: r, q, il, hl, hs, x, t, act, ι, w, M, x', t', hI, h, hk => by
    simp only [insL] at hl
    split at hl
    · rename_i i l hi hr
      simp only [Option.some.injEq] at hl
      subst hl
      simp only [List.all_cons, Bool.and_eq_true] at hs
      obtain ⟨h1, h2⟩ := insOf_op hi
      unfold regX at h
      unfold wpList
      obtain ⟨e, s, he, hs', hI'⟩ := hI
      split at h
      · rename_i hg
        rcases guard_sound hi hI'.env (guardX_spec (yes := True) (no := False) he hg (fun _ => trivial) (fun e => by cases e)) with ⟨hw, _⟩ | ⟨_, hf⟩
        · rw [if_pos hw]
          split at h
          · rename_i x1 t1 hx
            exact .inl (insX_sound hP hC h1 h2 hs.1 ⟨e, s, he, hs', hI'⟩ hx fun act' ι' w' M' hI1 => regX_sound hP hC r (q + 1) l hr hs.2 hI1 h hk)
          · cases h
        · exact hf.elim
      · rename_i hg
        rcases guard_sound hi hI'.env (guardX_spec (yes := False) (no := True) he hg (fun e => by cases e) (fun _ => trivial)) with ⟨_, hf⟩ | ⟨hw, _⟩
        · exact hf.elim
        · rw [if_neg (by simp [hw])]
          split at h
          · rename_i x1 hx
            obtain ⟨t1, hx1, hds, hE⟩ := putX_spec hx
            simp only [Option.some.injEq] at hx1
            subst hx1
            have hI1 := hI'.put (V := undef) (v := .tup []) VRel.skip hs.1
            rw [h2] at hI1
            exact regX_sound hP hC r (q + 1) l hr hs.2 ⟨_, s, hE e he, hs', by rw [hds, h2]; exact hI1⟩ h hk
          · cases h
      · cases h
    · cases hl

/-! ### regions whose order is open -/
mutual
theorem eqA'_sound : ∀ (a b : AV), eqA' a b = true → a = b
  | .undef, b, h => by cases b <;> simp [eqA'] at h <;> rfl
  | .bool a, b, h => by cases b <;> simp [eqA'] at h; subst h; rfl
  | .int k n, b, h => by cases b <;> simp [eqA'] at h; obtain ⟨rfl, rfl⟩ := h; rfl
  | .str a, b, h => by
    cases b <;> simp only [eqA', reduceCtorEq, Bool.false_eq_true] at h
    rename_i b
    obtain ⟨a, m⟩ := a
    obtain ⟨b, n⟩ := b
    simp only [Bool.and_eq_true] at h
    rw [Nat.eq_of_beq_eq_true h.1, Nat.eq_of_beq_eq_true h.2]
  | .nilp, b, h => by cases b <;> simp [eqA'] at h <;> rfl
  | .nils, b, h => by cases b <;> simp [eqA'] at h <;> rfl
  | .nili, b, h => by cases b <;> simp [eqA'] at h <;> rfl
  | .nilf, b, h => by cases b <;> simp [eqA'] at h <;> rfl
  | .nilm, b, h => by cases b <;> simp [eqA'] at h <;> rfl
  | .ptr x y, b, h => by cases b <;> simp [eqA'] at h; obtain ⟨rfl, rfl⟩ := h; rfl
  | .cptr v, b, h => by cases b <;> simp [eqA'] at h; rw [eqA'_sound _ _ h]
  | .sl e x o n, b, h => by cases b <;> simp [eqA'] at h; obtain ⟨⟨⟨rfl, rfl⟩, rfl⟩, rfl⟩ := h; rfl
  | .roI k l, b, h => by cases b <;> simp [eqA'] at h; obtain ⟨rfl, rfl⟩ := h; rfl
  | .roB l, b, h => by cases b <;> simp [eqA'] at h; subst h; rfl
  | .ro e l, b, h => by cases b <;> simp [eqA'] at h; obtain ⟨rfl, h2⟩ := h; rw [eqAs_sound _ _ h2]
  | .agg l, b, h => by cases b <;> simp [eqA'] at h; rw [eqAs_sound _ _ h]
  | .aggI n k g, b, h => by cases b <;> simp [eqA'] at h
  | .tup l, b, h => by cases b <;> simp [eqA'] at h; rw [eqAs_sound _ _ h]
  | .iface t v, b, h => by cases b <;> simp [eqA'] at h; obtain ⟨rfl, h2⟩ := h; rw [eqA'_sound _ _ h2]
  | .fn f l, b, h => by cases b <;> simp [eqA'] at h; obtain ⟨rfl, h2⟩ := h; rw [eqAs_sound _ _ h2]
  | .mp x, b, h => by cases b <;> simp [eqA'] at h; subst h; rfl
  | .bfn f l, b, h => by cases b <;> simp [eqA'] at h; obtain ⟨rfl, h2⟩ := h; rw [eqAs_sound _ _ h2]
  | .raw v, b, h => by cases b <;> simp [eqA'] at h
  | .sy k e, b, h => by
    cases b <;> simp only [eqA', reduceCtorEq, Bool.false_eq_true, Bool.and_eq_true] at h
    rw [kiN_inj (Nat.eq_of_beq_eq_true h.1), SE.eq_sound h.2]
theorem eqAs_sound : ∀ (a b : List AV), eqAs a b = true → a = b
  | [], b, h => by cases b <;> simp [eqAs] at h; rfl
  | a :: l, b, h => by
    cases b <;> simp [eqAs] at h
    rw [eqA'_sound _ _ h.1, eqAs_sound _ _ h.2]
end
theorem eqMs_sound : ∀ (a b : List (AV × AV × Nat)), eqMs a b = true → a = b
  | [], b, h => by cases b <;> simp [eqMs] at h; rfl
  | (a1, a2, a3) :: l, b, h => by
    cases b <;> simp [eqMs] at h
    rename_i b r
    obtain ⟨b1, b2, b3⟩ := b
    simp only at h
    obtain ⟨⟨⟨h1, h2⟩, h3⟩, h4⟩ := h
    rw [eqA'_sound _ _ h1, eqA'_sound _ _ h2, eqMs_sound _ _ h4, h3]
theorem eqC_sound {a b : Chunk} (h : eqC a b = true) : a = b := by
  cases a <;> cases b <;> simp [eqC] at h
  · rw [eqAs_sound _ _ h]
  · obtain ⟨rfl, rfl⟩ := h; rfl
  · rw [h]
  · obtain ⟨h1, rfl⟩ := h; rw [eqMs_sound _ _ h1]
theorem eqCO_sound {a b : Option Chunk} (h : eqCO a b = true) : a = b := by
  cases a <;> cases b <;> simp [eqCO] at h
  · rfl
  · rw [eqC_sound h]

theorem agrX_sound {sk : Nat} {e : XE} {k : LkK} {off : Nat} {c c' : Option Chunk} (h : agrX sk e k off c c' = true) : agrO (evT sk e) k off c c' := by
  cases k with
  | all => exact eqCO_sound h
  | cells ag sz =>
    simp only [agrX] at h
    cases c <;> cases c' <;> simp only [Bool.false_eq_true] at h
    · rfl
    · simp only [Bool.and_eq_true, beq_iff_eq] at h
      simp only [agrO, Option.map_some]
      rw [Prod.ext h.1 (eqA'_sound _ _ h.2)]
  | key kk z k =>
    simp only [agrX] at h
    cases c <;> cases c' <;> simp only [Bool.false_eq_true] at h
    · rfl
    · split at h
      · rename_i v v' h1 h2
        simp only [agrO, Option.map_some, h1, h2, eqA'_sound _ _ h]
      · cases h
theorem watchX_spec {sk : Nat} {e : Env} {xe : XE} {T : LkK → Nat → Nat → Bool} {g g' : Nat → Option Chunk} {K : Prop} (he : eqE sk xe e) (hT : ∀ k o h, T k o h = true → agrO (evT sk xe) k o (g h) (g' h)) (hK : K) : ∀ (l : List (LkK × AOpd)), watchX sk xe T l = true → watchW e g g' l K
  | [], _ => hK
  | a :: r, h => by
    simp only [watchX, Bool.and_eq_true] at h
    obtain ⟨h1, h2⟩ := h
    have ih := watchX_spec he hT hK r h2
    show (match a.2.ev e with
    | .ptr h o => agrO (AOpd.ev e) a.1 o (g h) (g' h) ∧ watchW e g g' r K
    | .sl _ h o _ => agrO (AOpd.ev e) a.1 o (g h) (g' h) ∧ watchW e g g' r K
    | .mp h => agrO (AOpd.ev e) a.1 0 (g h) (g' h) ∧ watchW e g g' r K
    | _ => watchW e g g' r K)
    rw [he.ev]
    cases hv : evT sk xe a.2 <;> simp only [hv] at h1 <;> first | exact ⟨hT _ _ _ h1, ih⟩ | exact ih

def eqM (t : PT (Option Chunk)) (m : Mem) : Prop := ∀ h, m.get h = t.get none h
theorem eqM.cons {m : PT (Option Chunk)} {M : Mem} {k : Nat} {c : Chunk} (hb : Nat.blt k bigN = true) (h : eqM m M) : eqM (PT.set none m k (some c)) ((k, some c) :: M) := fun u => by
  rw [Mem.get_cons, PT.get_set20 hb]
  by_cases hu : k = u
  · subst hu; simp
  · rw [if_neg hu, if_neg (fun e => hu e.symm)]; exact h u
theorem absorbX_spec (ab : List Nat) : ∀ (p : Pend) (m : PT (Option Chunk)) (m' : PT (Option Chunk)) (p' : Pend), absorbX ab p m = some (m', p') → ∀ M, eqM m M → eqM m' (absorb ab p M).1 ∧ (absorb ab p M).2 = p'
  | [], m, m', p', h, M, hM => by
    simp only [absorbX, Option.some.injEq, Prod.mk.injEq] at h
    obtain ⟨rfl, rfl⟩ := h
    exact ⟨hM, rfl⟩
  | q :: r, m, m', p', h, M, hM => by
    simp only [absorbX] at h
    split at h
    · rename_i m1 r1 h1
      obtain ⟨h2, h3⟩ := absorbX_spec ab r m m1 r1 h1 M hM
      cases hm : memNX ab q.1 with
      | true =>
        have hm' : memN ab q.1 = true := hm
        simp only [hm, cond_true, PT.go_eq] at h
        cases hb : Nat.blt q.2.1 bigN with
        | false => simp [hb] at h
        | true =>
          simp only [hb, cond_true, Option.some.injEq, Prod.mk.injEq] at h
          obtain ⟨rfl, rfl⟩ := h
          simp only [absorb, hm', cond_true]
          exact ⟨h2.cons hb, h3⟩
      | false =>
        have hm' : memN ab q.1 = false := hm
        simp only [hm, cond_false, Option.some.injEq, Prod.mk.injEq] at h
        obtain ⟨rfl, rfl⟩ := h
        simp only [absorb, hm', cond_false]
        exact ⟨h2, by rw [h3]⟩
    · cases h
theorem flushX_spec : ∀ (p : Pend) (m m' : PT (Option Chunk)), flushX p m = some m' → ∀ M, eqM m M → eqM m' (flush p M)
  | [], m, m', h, M, hM => by
    simp only [flushX, Option.some.injEq] at h
    subst h
    exact hM
  | q :: r, m, m', h, M, hM => by
    simp only [flushX] at h
    split at h
    · rename_i m1 h1
      have h2 := flushX_spec r m m1 h1 M hM
      simp only [PT.go_eq] at h
      cases hb : Nat.blt q.2.1 bigN with
      | false => simp [hb] at h
      | true =>
        simp only [hb, cond_true, Option.some.injEq] at h
        subst h
        exact h2.cons hb
    · cases h
theorem insW_ok {s : St} {get : Nat → Option Chunk} {e : Env} {i : AIns} {K : AV → Eff → Prop} {D : Nat → List AV → Prop} {v : AV} {eff : Eff} (hd : opD get s.next (AOpd.ev e) i.op = .ok true v eff) (hs : splitX i v = true) (hK : K v eff) : insW s get e i K D := by
  unfold insW
  rw [hd]
  simp only [cond_true, forceV_eq]
  unfold splitX at hs
  cases hi : i.split with
  | false => simpa using hK
  | true =>
    simp only [hi, cond_true] at hs ⊢
    cases v <;> simp only [Bool.false_eq_true] at hs
    rename_i b
    cases b <;> simpa using hK
theorem insW_call {s : St} {get : Nat → Option Chunk} {e : Env} {i : AIns} {K : AV → Eff → Prop} {D : Nat → List AV → Prop} {f : Nat} {args : List AV} (hd : opD get s.next (AOpd.ev e) i.op = .call f args) (hK : D f args) : insW s get e i K D := by
  unfold insW
  rw [hd]
  exact hK
theorem getPX_eq {t : XS} {s : St} (h : eqS t s) (p : Pend) : getP s p = getPX t p := by
  funext k
  unfold getP getPX
  rw [h.2 k]
  cases t.get k with
  | some c => rfl
  | none =>
    simp only
    induction p with
    | nil => rfl
    | cons q r ih =>
      simp only [Pend.get, PendX.get]
      rw [ih]
theorem agrO.of {ρ : AOpd → AV} {k : LkK} {o : Nat} {c c' : Option Chunk} (h : c = c') : agrO ρ k o c c' := by subst h; cases k <;> rfl
theorem kept_spec {s : St} {eff : Eff} {p : Pend} {h : Nat} (hk : keptX s.next eff h = true) : getP s p h = getP (s.app eff) p h := by
  unfold getP
  have : (s.app eff).get h = s.get h := by
    cases eff with
    | no => rfl
    | new c =>
      simp only [keptX, beqN, Bool.not_eq_true', decide_eq_false_iff_not] at hk
      show St.get ⟨s.next + 1, (s.next, some c) :: s.m⟩ h = _
      rw [St.get_cons, if_neg hk]; rfl
    | set k c =>
      simp only [keptX, beqN, Bool.not_eq_true', decide_eq_false_iff_not] at hk
      show St.get ⟨s.next, (k, some c) :: s.m⟩ h = _
      rw [St.get_cons, if_neg hk]
    | app k c =>
      simp only [keptX, beqN, Bool.and_eq_true, Bool.not_eq_true', decide_eq_false_iff_not] at hk
      show St.get ⟨s.next + 1, (s.next, some c) :: (k, none) :: s.m⟩ h = _
      rw [St.get_cons, if_neg hk.2, St.get_cons, if_neg hk.1]; rfl
  rw [this]

theorem setP_spec {sk : Nat} {e : XE} {lk : LkK} {o k : Nat} {c : Option Chunk} {s : St} {p : Pend} {eff : Eff} (h : agrX sk e lk o c (effAt eff k) = true) (hc : c.isSome = true) : agrO (evT sk e) lk o c (getP (s.app eff) p k) := by
  have := agrX_sound h
  unfold effAt at this
  cases eff with
  | set u d =>
    simp only [beqN] at this
    by_cases hu : u = k
    · subst hu
      simp only [decide_true, cond_true] at this
      have hg : getP (s.app (.set u d)) p u = some d := by
        unfold getP
        show (match St.get ⟨s.next, (u, some d) :: s.m⟩ u with | some c => some c | none => p.get u) = _
        rw [St.get_cons, if_pos rfl]
      rw [hg]; exact this
    · exfalso
      simp only [hu, decide_false, cond_false] at this
      cases c with
      | none => cases hc
      | some c => cases lk <;> simp [agrO] at this
  | _ =>
    exfalso
    cases c with
    | none => cases hc
    | some c => cases lk <;> simp [agrO] at this
theorem drawX_sound (hC : CallOk P C) : ∀ (l : List AStep) (x : XE) (t : XS) (pd : Pend) (x' : XE) (t' : XS), drawX C k l x t pd = some (x', t') → x'.ds = x.ds ∧ ∀ e s, eqE k x e → eqS t s → drawW P l e s pd fun e s => eqE k x' e ∧ eqS t' s
  | [], x, t, pd, x', t', h => by
    simp only [drawX] at h
    split at h
    · rename_i m hm
      simp only [Option.some.injEq, Prod.mk.injEq] at h
      obtain ⟨rfl, rfl⟩ := h
      exact ⟨rfl, fun e s he hs => ⟨he, hs.1, flushX_spec pd _ _ hm _ hs.2⟩⟩
    · cases h
  | a :: r, x, t, pd, x', t', h => by
    unfold drawX at h
    cases hdf : isDfr a.ins.op with
    | true => simp [hdf] at h
    | false =>
    simp only [hdf, cond_false] at h
    cases hae : a.e with
    | true =>
      simp only [hae, cond_true] at h
      split at h
      · cases h
      · rename_i m p' hab
        split at h
        · cases h
        · rename_i hg
          split at h
          · rename_i x1 hx
            obtain ⟨e1, hx1, hds1, hE⟩ := putX_spec hx
            simp only [Option.some.injEq] at hx1
            subst hx1
            obtain ⟨hds, ih⟩ := drawX_sound hC r _ _ _ _ _ h
            refine ⟨hds.trans hds1, fun e s he hs => ?_⟩
            obtain ⟨hm, hp⟩ := absorbX_spec a.ab pd _ _ _ hab s.m hs.2
            rw [drawW_cons, hae]
            simp only [cond_true]
            rw [hp]
            refine guardX_spec he hg (fun e => by cases e) fun _ => ?_
            rw [putW_eq]
            exact ih _ _ (hE e he) ⟨hs.1, hm⟩
          · cases h
        · rename_i hg
          split at h
          · rename_i c v eff hd
            split at h
            · rename_i x1 t1 hx
              cases hc : c && splitX a.ins v && watchX k x (fun lk o h => keptX t.next eff h || (getPX ⟨t.next, m⟩ p' h).isSome && agrX k x lk o (getPX ⟨t.next, m⟩ p' h) (effAt eff h)) a.wt with
              | false => simp [hc] at hx
              | true =>
                simp only [hc, cond_true] at hx
                simp only [Bool.and_eq_true] at hc
                obtain ⟨⟨rfl, hsp⟩, hw⟩ := hc
                obtain ⟨s1, hx1, hS⟩ := effX_spec hx
                rw [goV_eq] at hx1
                obtain ⟨e1, hx2, hds1, hE⟩ := putX_spec hx1
                simp only [Option.some.injEq, Prod.mk.injEq] at hx2
                obtain ⟨rfl, rfl⟩ := hx2
                obtain ⟨hds, ih⟩ := drawX_sound hC r _ _ _ _ _ h
                refine ⟨hds.trans hds1, fun e s he hs => ?_⟩
                obtain ⟨hm, hp⟩ := absorbX_spec a.ab pd _ _ _ hab s.m hs.2
                have hs1 : eqS ⟨t.next, m⟩ ⟨s.next, (absorb a.ab pd s.m).1⟩ := ⟨hs.1, hm⟩
                rw [drawW_cons, hae]
                simp only [cond_true]
                rw [hp]
                refine guardX_spec he hg (fun _ => ?_) (fun e => by cases e)
                refine insW_ok (v := v) (eff := eff) (by rw [he.ev, hs1.get, hs.1, ← opX_eq]; exact hd) hsp ?_
                rw [appW_eq]
                refine watchX_spec he (fun lk o u hk => ?_) ?_ _ hw
                · rcases Bool.or_eq_true _ _ ▸ hk with hk | hk
                  · exact .of (kept_spec (by rw [hs.1]; exact hk))
                  · rw [getPX_eq hs1]
                    exact setP_spec (Bool.and_eq_true _ _ ▸ hk).2 (Bool.and_eq_true _ _ ▸ hk).1
                rw [putW_eq]
                exact ih _ _ (hE e he) (hS _ hs1)
            · cases h
          · rename_i f args hd
            rw [goL_eq] at h
            split at h
            · rename_i v t1 hcall
              split at h
              · rename_i x1 hx
                cases hw : watchX k x (fun lk o h => agrX k x lk o (getPX ⟨t.next, m⟩ p' h) (getPX t1 p' h)) a.wt with
                | false => simp [hw] at hx
                | true =>
                  simp only [hw, cond_true] at hx
                  obtain ⟨e1, hx2, hds1, hE⟩ := putX_spec hx
                  simp only [Option.some.injEq] at hx2
                  subst hx2
                  obtain ⟨hds, ih⟩ := drawX_sound hC r _ _ _ _ _ h
                  refine ⟨hds.trans hds1, fun e s he hs => ?_⟩
                  obtain ⟨hm, hp⟩ := absorbX_spec a.ab pd _ _ _ hab s.m hs.2
                  have hs1 : eqS ⟨t.next, m⟩ ⟨s.next, (absorb a.ab pd s.m).1⟩ := ⟨hs.1, hm⟩
                  rw [drawW_cons, hae]
                  simp only [cond_true]
                  rw [hp]
                  refine guardX_spec he hg (fun _ => ?_) (fun e => by cases e)
                  refine insW_call (f := f) (args := args) (by rw [he.ev, hs1.get, hs.1, ← opX_eq]; exact hd) ?_
                  refine (hC f args _ v t1 hcall _ hs1).mono fun v' s' hv => ?_
                  obtain ⟨rfl, hs'⟩ := hv
                  refine watchX_spec he (fun _ _ u hk => ?_) ?_ _ hw
                  · rw [getPX_eq hs1, getPX_eq hs']; exact agrX_sound hk
                  · rw [forceV_eq, putW_eq]
                    exact ih _ _ (hE e he) hs'
              · cases h
            · cases h
          · cases h
    | false =>
      simp only [hae, cond_false] at h
      split at h
      · cases h
      · rename_i hg
        split at h
        · rename_i x1 hx
          obtain ⟨e1, hx1, hds1, hE⟩ := putX_spec hx
          simp only [Option.some.injEq] at hx1
          subst hx1
          obtain ⟨hds, ih⟩ := drawX_sound hC r _ _ _ _ _ h
          refine ⟨hds.trans hds1, fun e s he hs => ?_⟩
          rw [drawW_cons, hae]
          simp only [cond_false]
          refine guardX_spec he hg (fun e => by cases e) fun _ => ?_
          rw [putW_eq]
          exact ih _ _ (hE e he) hs
        · cases h
      · rename_i hg
        split at h
        · rename_i c v eff hd
          cases hc : c && splitX a.ins v with
          | false => simp [hc] at h
          | true =>
            simp only [hc, cond_true] at h
            simp only [Bool.and_eq_true] at hc
            obtain ⟨rfl, hsp⟩ := hc
            split at h
            · split at h
              · rename_i x1 hx
                rw [goV_eq] at hx
                obtain ⟨e1, hx1, hds1, hE⟩ := putX_spec hx
                simp only [Option.some.injEq] at hx1
                subst hx1
                obtain ⟨hds, ih⟩ := drawX_sound hC r _ _ _ _ _ h
                refine ⟨hds.trans hds1, fun e s he hs => ?_⟩
                rw [drawW_cons, hae]
                simp only [cond_false]
                refine guardX_spec he hg (fun _ => ?_) (fun e => by cases e)
                refine insW_ok (v := v) (eff := .no) (by rw [he.ev, getPX_eq hs, hs.1, ← opX_eq]; exact hd) hsp ?_
                rw [putW_eq]
                exact ih _ _ (hE e he) hs
              · cases h
            · rename_i ch
              split at h
              · rename_i x1 ch1 hx
                rw [goC_eq, goV_eq] at hx
                obtain ⟨e1, hx1, hds1, hE⟩ := putX_spec hx
                simp only [Option.some.injEq, Prod.mk.injEq] at hx1
                obtain ⟨rfl, rfl⟩ := hx1
                rw [goN_eq] at h
                obtain ⟨hds, ih⟩ := drawX_sound hC r _ _ _ _ _ h
                refine ⟨hds.trans hds1, fun e s he hs => ?_⟩
                rw [drawW_cons, hae]
                simp only [cond_false]
                refine guardX_spec he hg (fun _ => ?_) (fun e => by cases e)
                refine insW_ok (v := v) (eff := .new ch) (by rw [he.ev, getPX_eq hs, hs.1, ← opX_eq]; exact hd) hsp ?_
                rw [putW_eq]
                simp only
                rw [hs.1]
                exact ih _ _ (hE e he) ⟨rfl, hs.2⟩
              · cases h
            · cases h
        · cases h
end
end Go.Ab
set_option linter.unusedVariables false
set_option linter.unusedSimpArgs false
set_option autoImplicit false
namespace Go.Ab

def Ex'.out : Ex' → Exit
  | .normal => .normal
  | .exit id => .exit id
  | .ret => .ret

/-- a loop that has begun -/
def LoopWp (P : Program) (c : Code) (Q : Exit → Act → World → Prop) (a : Act) (w : World) : Prop :=
  ∀ (b : Frame) (k : List Item) (cs : List Frame), ∃ e a' w', Q e a' w' ∧ Arrives P (lone (b.at a (.code c :: .inLoop c :: k)) cs w) b k cs e a' w'
theorem LoopWp.wp {P : Program} {c : Code} {Q : Exit → Act → World → Prop} {a : Act} {w : World} (h : LoopWp P c Q a w) : (Code.loop c).wp P Q a w := by
  intro b k cs
  obtain ⟨e, a', w', hq, harr⟩ := h b k cs
  exact ⟨e, a', w', hq, .of_steps (.one step_loop) harr⟩
theorem LoopWp.once {P : Program} {c : Code} {Q : Exit → Act → World → Prop} {a : Act} {w : World} (h : c.wp P (Exit.then (LoopWp P c Q) Q) a w) : LoopWp P c Q a w := by
  intro b k cs
  obtain ⟨e, a₁, w₁, hq, harr⟩ := h b (.inLoop c :: k) cs
  cases e with
  | normal =>
    obtain ⟨e₂, a₂, w₂, hq₂, harr₂⟩ := hq b k cs
    exact ⟨e₂, a₂, w₂, hq₂, .of_steps (Steps.trans harr (.one step_inLoop)) harr₂⟩
  | exit id => exact ⟨_, a₁, w₁, hq, .pass (x := .inLoop c) rfl (fun _ _ => .inl (by simp)) harr⟩
  | goto l => exact ⟨_, a₁, w₁, hq, .pass (x := .inLoop c) rfl (fun _ _ => .inl (by simp)) harr⟩
  | ret => exact ⟨_, a₁, w₁, hq, .pass (x := .inLoop c) rfl (fun _ _ => .inl (by simp)) harr⟩
  | panic ch => exact ⟨_, a₁, w₁, hq, .pass (x := .inLoop c) rfl (fun _ _ => .inl (by simp)) harr⟩
  | outgrown => exact ⟨_, a₁, w₁, hq, .pass (x := .inLoop c) rfl (fun _ _ => .inl (by simp)) harr⟩

section
variable {P : Program} {F : From} {C : CallX} {k : Nat}
/-- a piece of code does what the machine does -/
def RunsX (P : Program) (F : From) (k : Nat) (c : Code) (B : XE → XS → Option (Ex' × XE × XS)) : Prop :=
  ∀ (Q : Exit → Act → World → Prop) {x t act ι w M ex x' t'}, InvX F k x t act ι w M → B x t = some (ex, x', t') → (∀ act' ι' w' M', InvX F k x' t' act' ι' w' M' → Q ex.out act' w') → c.wp P Q act w
theorem loopX_sound {c : Code} {B : XE → XS → Option (Ex' × XE × XS)} (hB : RunsX P F k c B) (Q : Exit → Act → World → Prop) : ∀ (q : Nat) {x t act ι w M ex x' t'}, InvX F k x t act ι w M → loopX B q x t = some (ex, x', t') →
    (∀ act' ι' w' M', InvX F k x' t' act' ι' w' M' → Exit.then (LoopWp P c Q) Q ex.out act' w') → LoopWp P c Q act w
  | 0, x, t, act, ι, w, M, ex, x', t', hI, h, hk => LoopWp.once (hB _ hI h hk)
  | q + 1, x, t, act, ι, w, M, ex, x', t', hI, h, hk => by
    unfold loopX at h
    split at h
    · rename_i x1 t1 h1
      exact loopX_sound hB Q q hI h1 fun act' ι' w' M' hI' => loopX_sound hB Q q hI' h hk
    · exact loopX_sound hB Q q hI h hk

theorem InvX.drop {x : XE} {t : XS} {act : Act} {ι : Iota} {w : World} {M : Nat → Prop} (h : InvX F k x t act ι w M) : InvX F k x.drop t act ι w M := by
  obtain ⟨e, s, he, hs, hI⟩ := h
  obtain ⟨e', he', hw⟩ := drop_spec he
  refine ⟨e', s, he', hs, ⟨hI.rep, fun u => ?_, hI.size, hI.dfr, hI.go⟩⟩
  rcases hw u with h | h
  · rw [h]; exact hI.env u
  · rw [h]; exact .undef _
theorem execX_sound (hm : P.follows .mixedOrders = true) (hP : F.P = P) (hC : CallOk P C) : ∀ (c : Code) (a : ACode), comp P c = some a → dstOk F.N a = true → RunsX P F k c (execX C k a) := by
  intro c
  induction c with
  | skip =>
    intro a hc hd Q x t act ι w M ex x' t' hI h hk
    simp only [comp, Option.some.injEq] at hc
    subst hc
    simp only [execX, Option.some.injEq, Prod.mk.injEq] at h
    obtain ⟨rfl, rfl, rfl⟩ := h
    exact wp_skip (hk _ _ _ _ hI)
  | region id ops draw =>
    intro a hc hd Q x t act ι w M ex x' t' hI h hk
    simp only [comp] at hc
    have hc' := hc
    unfold compReg at hc
    split at hc
    · rename_i l hl
      cases draw with
      | false =>
        simp only [cond_false, Option.some.injEq] at hc
        subst hc
        simp only [dstOk] at hd
        refine wp_region_list ?_
        simp only [execX] at h
        split at h
        · rename_i x1 t1 h1
          simp only [Option.some.injEq, Prod.mk.injEq] at h
          obtain ⟨rfl, rfl, rfl⟩ := h
          have := regX_sound (Q := Q) hP hC ops.toList 0 l hl hd hI.drop h1 hk
          simpa using this
        · cases h
      | true =>
        simp only [cond_true] at hc
        cases hp : planOk P ops.toList l (ancs ops.toList []) (plan (ancs ops.toList []) l l.length [] 0) with
        | true =>
          simp only [hp, cond_true, Option.some.injEq] at hc
          subst hc
          simp only [execX] at h
          split at h
          · rename_i x1 t1 h1
            simp only [Option.some.injEq, Prod.mk.injEq] at h
            obtain ⟨rfl, rfl, rfl⟩ := h
            obtain ⟨hds, hdr⟩ := drawX_sound hC _ _ _ _ _ _ h1
            obtain ⟨e, s, he, hs, hI⟩ := hI.drop
            exact drawOk hm { F with ds := x.drop.ds } id ops _ hc' hd _ Q hI (hdr e s he hs) fun e' s' act' ι' w' M' hI' hK => hk _ _ _ _ ⟨e', s', hK.1, hK.2, by rw [hds]; exact hI'⟩
          · cases h
        | false => simp [hp] at hc
    · simp at hc
  | seq a b iha ihb =>
    intro a' hc hd Q x t act ι w M ex x' t' hI h hk
    simp only [comp] at hc
    split at hc
    · rename_i a1 b1 ha hb
      simp only [Option.some.injEq] at hc
      subst hc
      simp only [dstOk, Bool.and_eq_true] at hd
      simp only [execX] at h
      refine wp_seq ?_
      split at h
      · rename_i x1 t1 h1
        exact iha a1 ha hd.1 _ hI h1 fun act' ι' w' M' hI' => ihb b1 hb hd.2 Q hI' h hk
      · rename_i hne
        refine iha a1 ha hd.1 _ hI h fun act' ι' w' M' hI' => ?_
        cases ex with
        | normal => exact absurd h (hne _ _)
        | exit j => exact hk _ _ _ _ hI'
        | ret => exact hk _ _ _ _ hI'
    · simp at hc
  | cond cx a b iha ihb =>
    intro a' hc hd Q x t act ι w M ex x' t' hI h hk
    simp only [comp] at hc
    split at hc
    · rename_i c1 a1 b1 hcc ha hb
      simp only [Option.some.injEq] at hc
      subst hc
      simp only [dstOk, Bool.and_eq_true] at hd
      simp only [execX] at h
      have hI0 := hI
      obtain ⟨e, s, he, hs, hI⟩ := hI
      have hv := hI.env.orel hI.rep.glob _ _ hcc
      rw [he.ev] at hv
      split at h
      · rename_i hb1
        rw [hb1] at hv
        exact wp_cond hv.bool_inv (iha a1 ha hd.1 Q hI0 h hk)
      · rename_i hb1
        rw [hb1] at hv
        exact wp_cond hv.bool_inv (ihb b1 hb hd.2 Q hI0 h hk)
      · cases h
    · simp at hc
  | block id a ih =>
    intro a' hc hd Q x t act ι w M ex x' t' hI h hk
    simp only [comp] at hc
    obtain ⟨a1, ha, rfl⟩ := map_some hc
    simp only [execX] at h
    refine wp_block ?_
    split at h
    · rename_i j x1 t1 h1
      refine ih a1 ha hd _ hI h1 fun act' ι' w' M' hI' => ?_
      simp only [Ex'.out, Exit.inBlock]
      rw [beqN] at h
      by_cases hj : j = id
      · simp only [hj, decide_true, cond_true, Option.some.injEq, Prod.mk.injEq] at h
        obtain ⟨rfl, rfl, rfl⟩ := h
        rw [if_pos hj]
        exact hk _ _ _ _ hI'
      · simp only [hj, decide_false, cond_false, Option.some.injEq, Prod.mk.injEq] at h
        obtain ⟨rfl, rfl, rfl⟩ := h
        rw [if_neg hj]
        exact hk _ _ _ _ hI'
    · rename_i hne
      refine ih a1 ha hd _ hI h fun act' ι' w' M' hI' => ?_
      cases ex with
      | normal => exact hk _ _ _ _ hI'
      | exit j => exact absurd h (hne _ _ _)
      | ret => exact hk _ _ _ _ hI'
  | loop a ih =>
    intro a' hc hd Q x t act ι w M ex x' t' hI h hk
    simp only [comp] at hc
    obtain ⟨a1, ha, rfl⟩ := map_some hc
    simp only [execX] at h
    refine LoopWp.wp ?_
    split at h
    · cases h
    · rename_i hne
      refine loopX_sound (ih a1 ha hd) Q loopN hI h fun act' ι' w' M' hI' => ?_
      cases ex with
      | normal => exact absurd h (hne _)
      | exit j => exact hk _ _ _ _ hI'
      | ret => exact hk _ _ _ _ hI'
  | exit id =>
    intro a hc hd Q x t act ι w M ex x' t' hI h hk
    simp only [comp, Option.some.injEq] at hc
    subst hc
    simp only [execX, Option.some.injEq, Prod.mk.injEq] at h
    obtain ⟨rfl, rfl, rfl⟩ := h
    exact wp_exit (hk _ _ _ _ hI)
  | ret =>
    intro a hc hd Q x t act ι w M ex x' t' hI h hk
    simp only [comp, Option.some.injEq] at hc
    subst hc
    simp only [execX, Option.some.injEq, Prod.mk.injEq] at h
    obtain ⟨rfl, rfl, rfl⟩ := h
    exact wp_ret (hk _ _ _ _ hI)
  | rangeFunc f ps asg body _ _ => (intro a hc; simp [comp] at hc)
  | scope body ih =>
    intro a hc hd Q x t act ι w M ex x' t' hI h hk
    refine wp_scope_straight (ih a hc hd _ hI h fun act' ι' w' M' hI' => ?_)
    cases ex <;> exact hk _ _ _ _ hI'
  | label l =>
    intro a hc hd Q x t act ι w M ex x' t' hI h hk
    simp only [comp, Option.some.injEq] at hc
    subst hc
    simp only [execX, Option.some.injEq, Prod.mk.injEq] at h
    obtain ⟨rfl, rfl, rfl⟩ := h
    exact wp_label (hk _ _ _ _ hI)
  | goto l => intro a hc; simp [comp] at hc
  | refuse why => intro a hc; simp [comp] at hc

theorem argsX_spec : ∀ (l : List AV) (i : Nat) (x x' : XE), argsX k l i x = some x' → x'.ds = x.ds ∧ ∀ u, slotX k x' u = if i ≤ u ∧ u < i + l.length then l.getD (u - i) .undef else slotX k x u
  | [], i, x, x', h => by
    simp only [argsX, Option.some.injEq] at h
    subst h
    exact ⟨rfl, fun u => by rw [if_neg (by simp)]⟩
  | v :: r, i, x, x', h => by
    simp only [argsX] at h
    split at h
    · rename_i x1 h1
      obtain ⟨t1, hx1, hds, hE⟩ := putX_spec h1
      simp only [Option.some.injEq] at hx1
      subst hx1
      obtain ⟨hd, hs⟩ := argsX_spec r _ _ _ h
      refine ⟨hd.trans hds, fun u => ?_⟩
      rw [hs u]
      have put : slotX k t1 u = if i = u then v else slotX k x u := by
        -- by an environment that says the same at one place
        have := hE
        exact putX_slot h1 u
      rw [put]
      by_cases hu : i = u
      · subst hu
        rw [if_neg (by omega), if_pos rfl, if_pos (by simp)]
        simp
      · by_cases h1 : i + 1 ≤ u ∧ u < i + 1 + r.length
        · rw [if_pos (by simpa using h1), if_pos (by simp; omega), show u - i = (u - (i + 1)) + 1 by omega]
          simp [List.getD_eq_getElem?_getD]
        · rw [if_neg (by simpa using h1), if_neg hu, if_neg (by simp; omega)]
    · cases h
theorem argsX_eq {l : List AV} {x : XE} (h : argsX k l 0 ⟨[], .l, []⟩ = some x) : x.ds = [] ∧ eqE k x (argsE 0 l) := by
  obtain ⟨h1, h2⟩ := argsX_spec l 0 _ _ h
  refine ⟨h1, fun u => ?_⟩
  rw [argsE_get, h2 u, if_pos (Nat.zero_le _)]
  by_cases hu : u < l.length
  · rw [if_pos (by omega)]
  · rw [if_neg (by omega), slotX_eq]
    simp only [PT.get, PT.getP_l, Env.get]
    cases keptB k u <;> simp [List.getD_eq_getElem?_getD, List.getElem?_eq_none (Nat.le_of_not_lt hu)]
theorem resX_spec {e : Env} {s : St} {xe : XE} {t : XS} (he : eqE k xe e) (hs : eqS t s) : ∀ (rs : List ARes) (l : List AV), resX k xe t rs = some l → ∀ (K : List AV → Prop), K l → resW e s rs K
  | [], l, h, K, hK => by
    simp only [resX, Option.some.injEq] at h
    subst h
    exact hK
  | .t n :: r, l, h, K, hK => by
    simp only [resX] at h
    split at h
    · rename_i l' h'
      simp only [Option.some.injEq] at h
      subst h
      rw [resW_cons]
      simp only [forceV_eq]
      refine resX_spec he hs r l' h' _ ?_
      rw [he n]
      exact hK
    · cases h
  | .cell n agg sz :: r, l, h, K, hK => by
    simp only [resX] at h
    split at h
    · rename_i hh off hp
      split at h
      · rename_i c hg
        cases hl : (c.ld agg off sz).1 with
        | false => simp [hl] at h
        | true =>
          simp only [hl, cond_true] at h
          split at h
          · rename_i l' h'
            simp only [Option.some.injEq] at h
            subst h
            rw [resW_cons]
            simp only [he n, hp, hs.2, hg, hl, cond_true, forceV_eq]
            exact resX_spec he hs r l' h' _ hK
          · cases h
      · cases h
    · cases h

/-- A deferred call's contract. -/
def TrD (P : Program) (f : Nat) (args : List AV) (s : St) (K : St → Prop) : Prop :=
  hasBody P f = true ∧ ∀ ι w M Vs, Rep ι s w M → VRels ι w M args Vs → CallsD P f Vs .returning w fun e u w' =>
    ∃ V ι' M' s', e = .returned V ∧ u = .returning ∧ K s' ∧ Rep ι' s' w' M' ∧ Go s.next ι s w M ι' s' w' M'
def CallOkD (P : Program) (D : CallX) : Prop := ∀ f args t v t', D f args t = some (v, t') → ∀ s, eqS t s → TrD P f args s fun s' => eqS t' s'

theorem leave_sound {D : CallX} (hP : F.P = P) (hD : CallOkD P D) {fn : Func} {R : Ending → World → Prop} {act : Act} : ∀ (ds : List (Nat × List AV)) (xe : XE) (t t' : XS) (Ds : List Deferred) (ι : Iota) (w : World) (M : Nat → Prop) (e : Env) (s : St), leaveX D ds t = some t' → eqE k xe e → eqS t s →
    Inv { F with ds := [] } e s { act with defers := [] } ι w M → DRel P ι w M ds Ds →
    (∀ ι' w' M' e s, eqE k xe e → eqS t' s → Inv { F with ds := [] } e s { act with defers := [] } ι' w' M' → ∃ v, (results fn act.tmps).run P w' = .ok v w' ∧ R (.returned v) w') →
    Leaves P fn act.tmps R Ds .returning w
  | [], xe, t, t', Ds, ι, w, M, e, s, h, he, hs, hI, hDs, hk => by
    simp only [leaveX, Option.some.injEq] at h
    subst h
    obtain rfl := hDs.nil_inv rfl
    exact hk _ _ _ _ _ he hs hI
  | d :: r, xe, t, t', [], ι, w, M, e, s, h, he, hs, hI, hDs, hk => hDs.elim
  | d :: r, xe, t, t', D0 :: Ds, ι, w, M, e, s, h, he, hs, hI, hDs, hk => by
    simp only [leaveX] at h
    split at h
    · rename_i v t1 h1
      obtain ⟨⟨fv, cap, Vs, k1, k2, k3⟩, hDs⟩ := hDs
      obtain ⟨hb, hT⟩ := hD d.1 d.2 t v t1 h1 s hs
      obtain ⟨tg, ag⟩ := D0
      simp only at k1
      subst k1
      refine leaves_cons (by simp) (k2 hb w) (CallsD.mono (hT ι w M Vs hI.rep k3) fun en u w' he' => ?_)
      obtain ⟨V, ι', M', s', rfl, rfl, hs', h2, h3⟩ := he'
      have hx := Rep.ext_all (n0 := 0) hI.rep h3
      have hi := GoImm h3 fun b hb => hI.rep.ownM hb
      exact leave_sound hP hD r xe t1 t' Ds ι' w' M' e s' h he hs' (hI.step h2 (h3.weak hI.go.next) hx hi) (hDs.mono hi hx) hk
    · cases h

theorem fnX_sound {C D : CallX} (T : Nat → Nat) (hm : P.follows .mixedOrders = true) (hC : CallOk P C) (hD : CallOkD P D) : CallOk P (fnX P T C D) := by
  intro f args t v t' h s hs
  unfold fnX at h
  split at h
  · rename_i fn hf
    cases hb : hasBody P f with
    | false => simp [hb] at h
    | true =>
      simp only [hb, cond_true] at h
      split at h
      · rename_i a rs hcf
        rw [goN_eq] at h
        split at h
        · rename_i xe hxe
          split at h
          · cases h
          · rename_i ex x1 t1 hne hex
            split at h
            · rename_i t2 hlv
              split at h
              · rename_i l hres
                rw [goV_eq] at h
                simp only [Option.some.injEq, Prod.mk.injEq] at h
                obtain ⟨rfl, rfl⟩ := h
                unfold compF at hcf
                split at hcf
                · rename_i c hbody
                  split at hcf
                  · rename_i a' rs' ha hrs
                    split at hcf
                    · rename_i hd
                      simp only [Option.some.injEq, Prod.mk.injEq] at hcf
                      obtain ⟨rfl, rfl⟩ := hcf
                      unfold Tr
                      refine ⟨hb, fun ι w M Vs hR hV => calls_of_wp_defers hf hbody ?_⟩
                      let F : From := ⟨P, [], ι, s, w, M, hR.lt, s.next, fn.ntmps⟩
                      have hI : InvX F (T f) xe t { tmps := Vs ++ Array.replicate (fn.ntmps - Vs.size) undef, defers := [] } ι w M :=
                        ⟨argsE 0 args, s, (argsX_eq hxe).2, hs, ⟨hR, args_erel hV, by simp [F]; omega, by rw [(argsX_eq hxe).1]; trivial, Go.refl ι s w M (Nat.le_refl _)⟩⟩
                      refine execX_sound (F := F) hm rfl hC c a' ha hd _ hI hex fun act' ι' w' M' hI' => ?_
                      have fin : Leaves P fn act'.tmps (fun e w' => ∃ V ι' M' v s', e = .returned V ∧ (v = retX l ∧ eqS t2 s') ∧ VRel ι' w' M' v V ∧ Rep ι' s' w' M' ∧ Go s.next ι s w M ι' s' w' M') act'.defers .returning w' := by
                        obtain ⟨e1, s1, he1, hs1, hI1⟩ := hI'
                        refine leave_sound (F := F) (k := T f) rfl hD x1.ds x1 t1 t2 act'.defers ι' w' M' e1 s1 hlv he1 hs1 ⟨hI1.rep, hI1.env, hI1.size, trivial, hI1.go⟩ hI1.dfr fun ι2 w2 M2 e2 s2 he2 hs2 hI2 => ?_
                        have hres' := resX_spec he2 hs2 rs' l hres (retW (fun v s' => v = retX l ∧ eqS t2 s') s2) (by
                          match l with
                          | [v] => exact ⟨rfl, hs2⟩
                          | [] => exact ⟨rfl, hs2⟩
                          | _ :: _ :: _ => exact ⟨rfl, hs2⟩)
                        obtain ⟨l', vs, h1, h2, h3⟩ := res_sound (P := P) hI2 _ _ hrs _ hres'
                        obtain ⟨v, h4, h5⟩ := ret_rel h2 h3
                        refine ⟨_, ?_, _, ι2, M2, v, s2, rfl, h5, h4, hI2.rep, hI2.go⟩
                        rw [results_eq, Array.mapM_eq_mapM_toList]
                        simp only [Sem.run_bind, map_eq_pure_bind]
                        rw [h1]
                        simp only [Result.andThen_ok, Sem.run_pure]
                      cases ex with
                      | normal => exact fin
                      | exit j => exact (hne j rfl).elim
                      | ret => exact fin
                    · simp at hcf
                  · simp at hcf
                · simp at hcf
              · cases h
            · cases h
          · cases h
        · cases h
      · cases h
  · cases h
theorem dfnX_sound {C : CallX} (T : Nat → Nat) (hm : P.follows .mixedOrders = true) (hC : CallOk P C) : CallOkD P (dfnX P T C) := by
  intro f args t v t' h s hs
  unfold dfnX at h
  split at h
  · rename_i fn hf
    cases hb : hasBody P f with
    | false => simp [hb] at h
    | true =>
      simp only [hb, cond_true] at h
      split at h
      · rename_i a rs hcf
        rw [goN_eq] at h
        split at h
        · rename_i xe hxe
          split at h
          · cases h
          · rename_i ex x1 t1 hne hex
            split at h
            · rename_i hds
              split at h
              · rename_i l hres
                simp only [Option.some.injEq, Prod.mk.injEq] at h
                obtain ⟨rfl, rfl⟩ := h
                unfold compF at hcf
                split at hcf
                · rename_i c hbody
                  split at hcf
                  · rename_i a' rs' ha hrs
                    split at hcf
                    · rename_i hd
                      simp only [Option.some.injEq, Prod.mk.injEq] at hcf
                      obtain ⟨rfl, rfl⟩ := hcf
                      refine ⟨hb, fun ι w M Vs hR hV => ?_⟩
                      refine CallsD.mono (callsD_of_wp (u := .returning) (R := fun e w' => ∃ V ι' M' s', e = .returned V ∧ eqS t1 s' ∧ Rep ι' s' w' M' ∧ Go s.next ι s w M ι' s' w' M') hf hbody ?_) fun e u' w' hh => ?_
                      · let F : From := ⟨P, [], ι, s, w, M, hR.lt, s.next, fn.ntmps⟩
                        have hI : InvX F (T f) xe t { tmps := Vs ++ Array.replicate (fn.ntmps - Vs.size) undef, defers := [] } ι w M :=
                          ⟨argsE 0 args, s, (argsX_eq hxe).2, hs, ⟨hR, args_erel hV, by simp [F]; omega, by rw [(argsX_eq hxe).1]; trivial, Go.refl ι s w M (Nat.le_refl _)⟩⟩
                        refine execX_sound (F := F) hm rfl hC c a' ha hd _ hI hex fun act' ι' w' M' hI' => ?_
                        obtain ⟨e2, s2, he2, hs2, hI2⟩ := hI'
                        have fin : act'.defers = [] ∧ ∃ v, (results fn act'.tmps).run P w' = .ok v w' ∧ ∃ V ι' M' s', Ending.returned v = .returned V ∧ eqS t1 s' ∧ Rep ι' s' w' M' ∧ Go s.next ι s w M ι' s' w' M' := by
                          refine ⟨hI2.dfr.nil_inv hds, ?_⟩
                          have hres' := resX_spec he2 hs2 rs' l hres (retW (fun v s' => v = retX l ∧ eqS t1 s') s2) (by
                            match l with
                            | [v] => exact ⟨rfl, hs2⟩
                            | [] => exact ⟨rfl, hs2⟩
                            | _ :: _ :: _ => exact ⟨rfl, hs2⟩)
                          obtain ⟨l', vs, h1, h2, h3⟩ := res_sound (P := P) hI2 _ _ hrs _ hres'
                          obtain ⟨v, h4, h5⟩ := ret_rel h2 h3
                          refine ⟨if hh : vs.toArray.size = 1 then vs.toArray[0] else .tuple vs.toArray, ?_, _, ι', M', s2, rfl, hs2, hI2.rep, hI2.go⟩
                          rw [results_eq, Array.mapM_eq_mapM_toList]
                          simp only [Sem.run_bind, map_eq_pure_bind]
                          rw [h1]
                          simp only [Result.andThen_ok, Sem.run_pure]
                        cases ex with
                        | normal => exact fin
                        | exit j => exact (hne j rfl).elim
                        | ret => exact fin
                      · obtain ⟨rfl, V, ι', M', s', rfl, h1, h2, h3⟩ := hh
                        exact ⟨V, ι', M', s', rfl, rfl, h1, h2, h3⟩
                    · simp at hcf
                  · simp at hcf
                · simp at hcf
              · cases h
            · cases h
          · cases h
        · cases h
      · cases h
  · cases h
theorem callX_sound {O D : CallX} (T : Nat → Nat) (hm : P.follows .mixedOrders = true) (hO : CallOk P O) (hD : CallOkD P D) : ∀ n, CallOk P (callX P T O D n)
  | 0 => hO
  | n + 1 => by
    intro f args t v t' h
    unfold callX at h
    split at h
    · rename_i r hr
      cases h
      exact hO f args t v t' hr
    · refine fnX_sound T hm (callX_sound T hm hO hD n) ?_ f args t v t' h
      intro f args t v t' h
      dsimp only at h
      split at h
      · rename_i r hr
        cases h
        exact hD f args t v t' hr
      · exact dfnX_sound T hm (callX_sound T hm hO hD n) f args t v t' h
end
end Go.Ab
set_option linter.unusedVariables false
set_option linter.unusedSimpArgs false
set_option autoImplicit false
namespace Go.Ab

section
variable {β : Type}
theorem qC_eq (c : Chunk) (K : Chunk → β) : qC c K = K c := by cases c <;> simp only [qC, qL_eq, goIL_eq, goBL_eq]
theorem brec_eq (b : Bool) (A B : Option β) : (Bool.rec A B b : Option β) = bif b then B else A := by cases b <;> rfl
theorem putF_eq (k : Nat) (d : Option Nat) (v : AV) (loc : Env) (e : PT AV) (ds : List (Nat × List AV)) (n : Nat) (m : PT (Option Chunk)) (K : Kt β) :
    putF k d v loc e ds n m K = putX k ⟨loc, e, ds⟩ d v fun x => K x.loc x.e x.ds n m := by cases d <;> rfl
theorem effF_eq (f : Eff) (n : Nat) (m : PT (Option Chunk)) (K : Nat → PT (Option Chunk) → Option β) : effF f n m K = effX ⟨n, m⟩ f fun s => K s.next s.m := by
  cases f <;> simp only [effF, ef_no, ef_new, ef_set, ef_app, effX, brec_eq, qC_eq, goC_eq, qN_eq, goN_eq]
theorem putX_bind {γ : Type} (k : Nat) (x : XE) (d : Option Nat) (v : AV) (K : XE → Option β) (g : β → Option γ) : (putX k x d v K).bind g = putX k x d v fun x => (K x).bind g := by
  cases d with
  | none => rfl
  | some d =>
    simp only [putX, PT.go_eq]
    cases keptB k d with
    | false => rfl
    | true =>
      simp only
      cases Nat.blt d bigN <;> rfl
theorem effX_bind {γ : Type} (s : XS) (f : Eff) (K : XS → Option β) (g : β → Option γ) : (effX s f K).bind g = effX s f fun s => (K s).bind g := by
  cases f with
  | no => rfl
  | new c => simp only [effX]; cases Nat.blt s.next bigN <;> simp [goC_eq, PT.go_eq, goN_eq]
  | set h c => simp only [effX]; cases Nat.blt h bigN <;> simp [goC_eq, PT.go_eq]
  | app h c => simp only [effX]; cases Nat.blt h bigN && Nat.blt s.next bigN <;> simp [goC_eq, PT.go_eq, goN_eq]
theorem ins_eq (C : CallX) (k : Nat) (i : AIns) (loc : Env) (e : PT AV) (ds : List (Nat × List AV)) (n : Nat) (m : PT (Option Chunk)) (K : Kt β) :
    insF' C k i loc e ds n m K = match guardX k ⟨loc, e, ds⟩ i with
      | some true => (insX C k i ⟨loc, e, ds⟩ ⟨n, m⟩).bind fun p => K p.1.loc p.1.e p.1.ds p.2.next p.2.m
      | some false => (putX k ⟨loc, e, ds⟩ i.dst (.tup []) some).bind fun x => K x.loc x.e x.ds n m
      | none => none := by
  obtain ⟨d, o, g, sp⟩ := i
  have yes : (Bool.rec (resF' (opQ (getF m) n (evF k loc e) o) C k d loc e ds n m K) (dfrF k d o loc e ds n m K) (isDfr o) : Option β) = (insX C k ⟨d, o, g, sp⟩ ⟨loc, e, ds⟩ ⟨n, m⟩).bind fun p => K p.1.loc p.1.e p.1.ds p.2.next p.2.m := by
    rw [brec_eq]
    unfold insX
    cases hd : isDfr o with
    | true =>
      simp only [cond_true, dfrF]
      cases hq : deferX k ⟨loc, e, ds⟩ o with
      | none => rfl
      | some x =>
        simp only
        rw [putF_eq, putX_bind]
        cases d with
        | none => rfl
        | some d =>
          simp only [putX, PT.go_eq]
          cases keptB k d with
          | false => rfl
          | true => simp only; cases Nat.blt d bigN <;> rfl
    | false =>
      simp only [cond_false]
      have hev : evF k loc e = evT k ⟨loc, e, ds⟩ := funext fun o => evF_eq k ⟨loc, e, ds⟩ o
      rw [opQ_eq', hev]
      have hg : getF m = XS.get ⟨n, m⟩ := rfl
      rw [hg]
      cases opX (XS.get ⟨n, m⟩) n (evT k ⟨loc, e, ds⟩) o with
      | bad => rfl
      | call f args =>
        show rs_call f args C k d loc e ds n m K = _
        simp only [rs_call, qL_eq, goL_eq]
        cases C f args ⟨n, m⟩ with
        | none => rfl
        | some p =>
          simp only
          rw [putF_eq, putX_bind]
          rfl
      | ok c v eff =>
        show rs_ok c v eff C k d loc e ds n m K = _
        simp only [rs_ok, brec_eq, effF_eq, qV_eq]
        cases c with
        | false => rfl
        | true =>
          simp only [cond_true, effX_bind, goV_eq, putX_bind, putF_eq]
          rfl
  have no : putF k d (.tup []) loc e ds n m K = (putX k ⟨loc, e, ds⟩ d (.tup []) some).bind fun x => K x.loc x.e x.ds n m := by
    rw [putF_eq, putX_bind]; rfl
  show guF g k loc e _ _ = _
  rw [yes, no]
  unfold guF guardX
  cases g with
  | none => rfl
  | some g =>
    simp only
    have : evt_t g.1 k loc e = slotX k ⟨loc, e, ds⟩ g.1 := rfl
    rw [this]
    cases slotX k ⟨loc, e, ds⟩ g.1 <;> try rfl
    rename_i b
    obtain ⟨g1, g2⟩ := g
    cases b <;> cases g2 <;> rfl
theorem reg_eq (C : CallX) (k : Nat) : ∀ (l : List AIns) (loc : Env) (e : PT AV) (ds : List (Nat × List AV)) (n : Nat) (m : PT (Option Chunk)) (K : Kt β),
    regF' C k l loc e ds n m K = (regX C k l ⟨loc, e, ds⟩ ⟨n, m⟩).bind fun p => K p.1.loc p.1.e p.1.ds p.2.next p.2.m
  | [], loc, e, ds, n, m, K => rfl
  | i :: r, loc, e, ds, n, m, K => by
    show insF' C k i loc e ds n m (fun loc e ds n m => regF' C k r loc e ds n m K) = _
    rw [ins_eq]
    unfold regX
    cases guardX k ⟨loc, e, ds⟩ i with
    | none => rfl
    | some b =>
      cases b with
      | true =>
        simp only
        cases insX C k i ⟨loc, e, ds⟩ ⟨n, m⟩ with
        | none => rfl
        | some p => exact reg_eq C k r p.1.loc p.1.e p.1.ds p.2.next p.2.m K
      | false =>
        simp only
        cases putX k ⟨loc, e, ds⟩ i.dst (.tup []) some with
        | none => rfl
        | some x => exact reg_eq C k r x.loc x.e x.ds n m K
end

theorem loop_eq (B : Env → PT AV → List (Nat × List AV) → Nat → PT (Option Chunk) → RX) : ∀ (q : Nat) (loc : Env) (e : PT AV) (ds : List (Nat × List AV)) (n : Nat) (m : PT (Option Chunk)),
    loopF B q loc e ds n m = loopX (fun x s => B x.loc x.e x.ds s.next s.m) q ⟨loc, e, ds⟩ ⟨n, m⟩
  | 0, loc, e, ds, n, m => rfl
  | q + 1, loc, e, ds, n, m => by
    show seqF (loopF B q loc e ds n m) (fun loc e ds n m => loopF B q loc e ds n m) = _
    rw [loop_eq B q]
    conv => rhs; unfold loopX
    cases loopX (fun x s => B x.loc x.e x.ds s.next s.m) q ⟨loc, e, ds⟩ ⟨n, m⟩ with
    | none => rfl
    | some p =>
      obtain ⟨ex, x, s⟩ := p
      cases ex with
      | normal => exact loop_eq B q x.loc x.e x.ds s.next s.m
      | exit j => rfl
      | ret => rfl
theorem exec_eq (C : CallX) (k : Nat) : ∀ (c : ACode) (loc : Env) (e : PT AV) (ds : List (Nat × List AV)) (n : Nat) (m : PT (Option Chunk)),
    execF C k c loc e ds n m = execX C k c ⟨loc, e, ds⟩ ⟨n, m⟩
  | .skip, _, _, _, _, _ => rfl
  | .exit _, _, _, _, _, _ => rfl
  | .ret, _, _, _, _, _ => rfl
  | .reg l, loc, e, ds, n, m => by
    show regF' C k l [] e ds n m (fin .normal) = _
    rw [reg_eq]
    simp only [execX, XE.drop]
    cases regX C k l ⟨[], e, ds⟩ ⟨n, m⟩ with
    | none => rfl
    | some p => rfl
  | .draw l, loc, e, ds, n, m => rfl
  | .seq a b, loc, e, ds, n, m => by
    show seqF (execF C k a loc e ds n m) (fun loc e ds n m => execF C k b loc e ds n m) = _
    rw [exec_eq C k a]
    simp only [execX]
    cases execX C k a ⟨loc, e, ds⟩ ⟨n, m⟩ with
    | none => rfl
    | some p =>
      obtain ⟨ex, x, s⟩ := p
      cases ex with
      | normal => exact exec_eq C k b x.loc x.e x.ds s.next s.m
      | exit j => rfl
      | ret => rfl
  | .cond c a b, loc, e, ds, n, m => by
    show condF' (evF k loc e c) (execF C k a loc e ds n m) (execF C k b loc e ds n m) = _
    rw [exec_eq C k a, exec_eq C k b, evF_eq k ⟨loc, e, ds⟩ c]
    simp only [execX, condF']
    cases evT k ⟨loc, e, ds⟩ c <;> try rfl
    rename_i b
    cases b <;> rfl
  | .block id a, loc, e, ds, n, m => by
    show blockF id (execF C k a loc e ds n m) = _
    rw [exec_eq C k a]
    simp only [execX]
    cases execX C k a ⟨loc, e, ds⟩ ⟨n, m⟩ with
    | none => rfl
    | some p =>
      obtain ⟨ex, x, s⟩ := p
      cases ex with
      | normal => rfl
      | exit j => show bl_exit j id x s = _; simp only [bl_exit, brec_eq]
      | ret => rfl
  | .loop a, loc, e, ds, n, m => by
    show endF (loopF (execF C k a) loopN loc e ds n m) = _
    rw [loop_eq]
    have : (fun (x : XE) (s : XS) => execF C k a x.loc x.e x.ds s.next s.m) = execX C k a := by
      funext x s
      exact exec_eq C k a x.loc x.e x.ds s.next s.m
    rw [this]
    simp only [execX]
    cases loopX (execX C k a) loopN ⟨loc, e, ds⟩ ⟨n, m⟩ with
    | none => rfl
    | some p =>
      obtain ⟨ex, x, s⟩ := p
      cases ex <;> rfl
theorem args_eq (k : Nat) (K : Env → PT AV → Option (AV × XS)) : ∀ (l : List AV) (i : Nat) (x : XE), x.ds = [] → argsF k l i x.loc x.e K = (argsX k l i x).bind fun x => K x.loc x.e
  | [], i, x, _ => rfl
  | v :: r, i, x, hx => by
    show putF k (some i) v x.loc x.e [] 0 .l (fun loc e _ _ _ => argsF k r (Nat.succ i) loc e K) = _
    rw [putF_eq]
    have hx' : (⟨x.loc, x.e, []⟩ : XE) = x := by rw [← hx]
    rw [hx']
    simp only [argsX]
    have : ∀ (G : XE → Option (AV × XS)), putX k x (some i) v G = (putX k x (some i) v some).bind G := fun G => by rw [putX_bind]; rfl
    rw [this]
    cases h : putX k x (some i) v some with
    | none => rfl
    | some x1 =>
      obtain ⟨t, h1, h2, _⟩ := putX_spec h
      simp only [Option.some.injEq] at h1
      subst h1
      exact args_eq k K r (Nat.succ i) t (h2.trans hx)
theorem fn_eq (P : Program) (T : Nat → Nat) (C D : CallX) (f : Nat) (args : List AV) (s : XS) : fnF' P T C D f args s = fnX P T C D f args s := by
  unfold fnF' fnX codeX
  cases P.funcs[f]? with
  | none => rfl
  | some fn =>
    simp only
    cases hasBody P f with
    | false => rfl
    | true =>
      simp only [cond_true]
      cases compF P fn with
      | none => rfl
      | some p =>
        obtain ⟨a, rs⟩ := p
        simp only [qN_eq, goN_eq]
        rw [args_eq (T f) _ args 0 ⟨[], .l, []⟩ rfl]
        cases h : argsX (T f) args 0 ⟨[], .l, []⟩ with
        | none => rfl
        | some x =>
          simp only [Option.bind_some]
          have hx := (argsX_spec args 0 _ _ h).1
          rw [exec_eq, show (⟨x.loc, x.e, []⟩ : XE) = x by rw [← show x.ds = [] from hx], show (⟨s.next, s.m⟩ : XS) = s from rfl]
          unfold endFn
          simp only [qV_eq, goV_eq]
          rfl
theorem call_eq (P : Program) (T : Nat → Nat) (O D : CallX) : ∀ n, callF P T O D n = callX P T O D n
  | 0 => rfl
  | n + 1 => by
    funext f args s
    have ih := call_eq P T O D n
    show (Option.casesOn (motive := fun _ => Option (AV × XS)) (O f args s) (fnF' P T (callF P T O D n) (fun f args s => match D f args s with
      | some r => some r
      | none => dfnX P T (callF P T O D n) f args s) f args s) fun r => some r) = _
    rw [ih, fn_eq]
    conv => rhs; unfold callX
    cases O f args s <;> rfl
end Go.Ab
set_option linter.unusedVariables false
set_option linter.unusedSimpArgs false
set_option autoImplicit false
namespace Go.Ab

/-- a slice of a row, as a value -/
def frzS (c : Chunk) (es off len : Nat) : Option AV :=
  match c with
  | .rowI k l => bif Nat.beq es 1 && Nat.ble (off + len) l.length then some (.roI k ((l.drop off).take len)) else none
  | .rowB l => bif Nat.beq es 1 && Nat.ble (off + len) l.length then some (.roB ((l.drop off).take len)) else none
  | _ => none
mutual
def AV.frz (h : Nat) (c : Chunk) : AV → AV
  | .sl e h' o n => bif Nat.beq h' h then (match frzS c e o n with
    | some v => v
    | none => .sl e h' o n) else .sl e h' o n
  | .agg l => .agg (frzL h c l)
  | .tup l => .tup (frzL h c l)
  | .iface t v => .iface t (AV.frz h c v)
  | .fn f l => .fn f (frzL h c l)
  | .bfn f l => .bfn f (frzL h c l)
  | .mp h => .mp h
  | .ptr h o => .ptr h o
  | .undef => .undef
  | .aggI n k g => .aggI n k g
  | .bool b => .bool b
  | .int k n => .int k n
  | .str s => .str s
  | .nilp => .nilp
  | .nils => .nils
  | .nili => .nili
  | .nilf => .nilf
  | .nilm => .nilm
  | .cptr v => .cptr v
  | .roI k l => .roI k l
  | .roB l => .roB l
  | .ro e l => .ro e l
  | .raw v => .raw v
  | .sy k e => .sy k e
termination_by structural v => v
def frzL (h : Nat) (c : Chunk) : List AV → List AV
  | [] => []
  | v :: r => AV.frz h c v :: frzL h c r
termination_by structural l => l
end
def St.drop (s : St) (h : Nat) : St := ⟨s.next, (h, none) :: s.m⟩

section
variable {P : Program} {ι : Iota} {s : St} {w : World} {M : Nat → Prop}

/-- not to be written any more -/
def subM (ι : Iota) (h : Nat) (M : Nat → Prop) : Nat → Prop := fun b => M b ∧ ∀ base, ι h ≠ some (some (b, base))
theorem Imm.subM (h : Nat) : Imm w M w (subM ι h M) := ⟨Nat.le_refl _, fun b _ hb => ⟨fun k => hb k.1, rfl⟩, fun _ _ => rfl⟩

theorem frzS_rel {c : Chunk} {h e o n : Nat} {v : AV} {V : Value} (hR : Rep ι s w M) (hg : s.get h = some c) (hv : frzS c e o n = some v) (hr : VRel ι w M (.sl e h o n) V) : VRel ι w (subM ι h M) v V := by
  have key : ∀ (f : Nat → AV) (nl : Nat), e = 1 → v.rov = some (1, n, f) → (∀ i, v.elen i = 1) → (∀ j, j < n → f j = c.get (o + j)) → (∀ j, ∀ W, VRel ι w M (c.get j) W → GRel w (subM ι h M) (c.get j) W) → o + n ≤ c.size → VRel ι w (subM ι h M) v V := by
    intro f nl he hrov hel hf hG hle
    subst he
    rcases hr.sl_inv with ⟨b, base, oo, cap, T, N, hi, ho, hl, hs, hnn, rfl⟩ | ⟨hi, rfl, rfl⟩
    · rcases hR.own h c hg with ⟨k1, _⟩ | ⟨b', base', k1, k2, hC⟩
      · rw [hi] at k1; cases k1
      · rw [hi] at k1
        simp only [Option.some.injEq, Prod.mk.injEq] at k1
        obtain ⟨rfl, rfl⟩ := k1
        have hcc : ∀ j, j < n → ∃ W, w.cell? ⟨b, oo + j, none⟩ = some W ∧ VRel ι w M (c.get (o + j)) W := fun j hj => by
          have ho' : oo = base + o := by
            rcases ho with h | h
            · exact h
            · omega
          subst ho'
          have := hC.cell (j := o + j) (by omega)
          rwa [← Nat.add_assoc] at this
        let g : Nat → Value := fun j => if hj : j < n then (hcc j hj).choose else default
        refine .g _ _ (.slice v 1 n f ⟨b, oo, none⟩ cap g hrov (fun _ => ⟨rfl, fun hm => hm.2 base hi, hR.lt b k2⟩) hl (fun i _ => hel i) (fun j hj => ?_) fun j hj => ?_)
        · have hj : j < n := by omega
          simp only [g, hj, dif_pos]; exact (hcc j hj).choose_spec.1
        · have hj : j < n := by omega
          rw [hf j hj]
          simp only [g, hj, dif_pos]
          exact hG _ _ (hcc j hj).choose_spec.2
    · exact .g _ _ (.sliceNil v 1 f hrov)
  cases c with
  | rowI k l =>
    simp only [frzS] at hv
    cases hb : (Nat.beq e 1 && Nat.ble (o + n) l.length) with
    | false => simp [hb] at hv
    | true =>
      simp only [hb, cond_true, Option.some.injEq] at hv
      simp only [Bool.and_eq_true] at hb
      subst hv
      have hle := Nat.le_of_ble_eq_true hb.2
      refine key (fun j => .int k (((l.drop o).take n).getD j 0)) 0 (Nat.eq_of_beq_eq_true hb.1) ?_ (fun _ => rfl) (fun j hj => ?_) (fun j W hW => ?_) hle
      · simp only [AV.rov, List.length_take, List.length_drop]
        congr 3
        omega
      · simp only [Chunk.get]
        rw [getD_drop_take _ _ _ _ _ hj]
      · simp only [Chunk.get] at hW ⊢
        rw [hW.int_inv]
        exact .int _ _
  | rowB l =>
    simp only [frzS] at hv
    cases hb : (Nat.beq e 1 && Nat.ble (o + n) l.length) with
    | false => simp [hb] at hv
    | true =>
      simp only [hb, cond_true, Option.some.injEq] at hv
      simp only [Bool.and_eq_true] at hb
      subst hv
      have hle := Nat.le_of_ble_eq_true hb.2
      refine key (fun j => .bool (((l.drop o).take n).getD j false)) 0 (Nat.eq_of_beq_eq_true hb.1) ?_ (fun _ => rfl) (fun j hj => ?_) (fun j W hW => ?_) hle
      · simp only [AV.rov, List.length_take, List.length_drop]
        congr 3
        omega
      · simp only [Chunk.get]
        rw [getD_drop_take _ _ _ _ _ hj]
      · simp only [Chunk.get] at hW ⊢
        rw [hW.bool_inv]
        exact .bool _
  | obj l => simp [frzS] at hv
  | fn m f => simp [frzS] at hv
  | blk m k g => simp [frzS] at hv
  | map m k => simp [frzS] at hv

theorem frzL_length (h : Nat) (c : Chunk) : ∀ l : List AV, (frzL h c l).length = l.length
  | [] => rfl
  | v :: r => by simp [frzL, frzL_length h c r]
theorem frzL_getD (h : Nat) (c : Chunk) : ∀ (l : List AV) (j : Nat), j < l.length → (frzL h c l).getD j .undef = (l.getD j .undef).frz h c
  | [], j, hj => by simp at hj
  | v :: r, 0, hj => by simp [frzL]
  | v :: r, j + 1, hj => by simpa [frzL] using frzL_getD h c r j (by simpa using hj)
mutual
theorem frz_rel {c : Chunk} {h : Nat} (hR : Rep ι s w M) (hg : s.get h = some c) : ∀ (v : AV) (V : Value), VRel ι w M v V → VRel ι w (subM ι h M) (v.frz h c) V
  | .sl e h' o n, V, hr => by
    simp only [AV.frz]
    cases hb : Nat.beq h' h with
    | false => exact hr.mono (Imm.subM h) (fun _ _ h => h)
    | true =>
      have := Nat.eq_of_beq_eq_true hb
      subst this
      simp only [cond_true]
      cases hf : frzS c e o n with
      | none => exact hr.mono (Imm.subM h') (fun _ _ h => h)
      | some v => exact frzS_rel hR hg hf hr
  | .agg l, V, hr => by
    obtain ⟨cs, rfl, h1, h2⟩ := hr.agg_inv
    exact .agg _ cs (by rw [frzL_length]; exact h1) fun j hj => by
      rw [frzL_length] at hj
      rw [frzL_getD h c l j hj]
      exact frzL_rel hR hg l j hj _ (h2 j hj)
  | .tup l, V, hr => by
    obtain ⟨cs, rfl, h1, h2⟩ := hr.tup_inv
    exact .tup _ cs (by rw [frzL_length]; exact h1) fun j hj => by
      rw [frzL_length] at hj
      rw [frzL_getD h c l j hj]
      exact frzL_rel hR hg l j hj _ (h2 j hj)
  | .iface t v, V, hr => by
    obtain ⟨V', rfl, h1⟩ := hr.iface_inv
    exact .iface t _ V' (frz_rel hR hg v V' h1)
  | .fn f l, V, hr => by
    obtain ⟨cs, rfl, h1, h2⟩ := hr.fn_inv
    exact .fn f _ cs (by rw [frzL_length]; exact h1) fun j hj => by
      rw [frzL_length] at hj
      rw [frzL_getD h c l j hj]
      exact frzL_rel hR hg l j hj _ (h2 j hj)
  | .bfn f l, V, hr => by
    obtain ⟨cs, rfl, h1, h2⟩ := hr.bfn_inv
    exact .bfn f _ cs (by rw [frzL_length]; exact h1) fun j hj => by
      rw [frzL_length] at hj
      rw [frzL_getD h c l j hj]
      exact frzL_rel hR hg l j hj _ (h2 j hj)
  | .mp h', V, hr => hr.mono (Imm.subM h) (fun _ _ h => h)
  | .ptr h' o, V, hr => hr.mono (Imm.subM h) (fun _ _ h => h)
  | .undef, V, hr => .undef V
  | .aggI n k g, V, hr => hr.mono (Imm.subM h) (fun _ _ h => h)
  | .bool b, V, hr => hr.mono (Imm.subM h) (fun _ _ h => h)
  | .int k m, V, hr => hr.mono (Imm.subM h) (fun _ _ h => h)
  | .str x, V, hr => hr.mono (Imm.subM h) (fun _ _ h => h)
  | .nilp, V, hr => hr.mono (Imm.subM h) (fun _ _ h => h)
  | .nils, V, hr => hr.mono (Imm.subM h) (fun _ _ h => h)
  | .nili, V, hr => hr.mono (Imm.subM h) (fun _ _ h => h)
  | .nilf, V, hr => hr.mono (Imm.subM h) (fun _ _ h => h)
  | .nilm, V, hr => hr.mono (Imm.subM h) (fun _ _ h => h)
  | .cptr v, V, hr => hr.mono (Imm.subM h) (fun _ _ h => h)
  | .roI k l, V, hr => hr.mono (Imm.subM h) (fun _ _ h => h)
  | .roB l, V, hr => hr.mono (Imm.subM h) (fun _ _ h => h)
  | .ro e l, V, hr => hr.mono (Imm.subM h) (fun _ _ h => h)
  | .raw x, V, hr => hr.mono (Imm.subM h) (fun _ _ h => h)
  | .sy k e, V, hr => hr.mono (Imm.subM h) (fun _ _ h => h)
termination_by structural v => v
theorem frzL_rel {c : Chunk} {h : Nat} (hR : Rep ι s w M) (hg : s.get h = some c) : ∀ (l : List AV) (j : Nat), j < l.length → ∀ V, VRel ι w M (l.getD j .undef) V → VRel ι w (subM ι h M) ((l.getD j .undef).frz h c) V
  | [], j, hj, V, hr => by simp at hj
  | v :: r, 0, hj, V, hr => frz_rel hR hg v V (by simpa using hr)
  | v :: r, j + 1, hj, V, hr => by simpa using frzL_rel hR hg r j (by simpa using hj) V (by simpa using hr)
termination_by structural l => l
end

theorem drop_get {h k : Nat} {c : Chunk} (hc : (s.drop h).get k = some c) : k ≠ h ∧ s.get k = some c := by
  unfold St.drop at hc
  rw [St.get_cons] at hc
  split at hc
  · cases hc
  · rename_i hne; exact ⟨fun e => hne e.symm, hc⟩
theorem Rep.freeze {c : Chunk} {h : Nat} (hR : Rep ι s w M) (hg : s.get h = some c) : Rep ι (s.drop h) w (subM ι h M) := by
  refine ⟨hR.fresh, fun k c' hc => ?_, fun k k' c1 c2 p p' hc hc' hne hp hp' => hR.inj k k' c1 c2 p p' (drop_get hc).2 (drop_get hc').2 hne hp hp', fun b hb => hR.lt b hb.1, hR.glob.sub fun b hb => hb.1⟩
  obtain ⟨hne, hc'⟩ := drop_get hc
  rcases hR.own k c' hc' with k1 | ⟨b, base, k1, k2, k3⟩
  · exact .inl k1
  · exact .inr ⟨b, base, k1, ⟨k2, fun base' hb => hR.inj k h c' c _ _ hc' hg hne k1 hb rfl⟩, k3.mono (Imm.subM h) (fun _ _ h => h) rfl⟩
theorem Go.freeze {c : Chunk} {h : Nat} (hg : s.get h = some c) {n0 : Nat} (hn : n0 ≤ s.next) : Go n0 ι s w M ι (s.drop h) w (subM ι h M) :=
  ⟨Nat.le_refl _, rfl, rfl, rfl, fun _ _ _ => rfl, fun _ _ => rfl, fun _ _ hm => hm.1, fun b hm ho => ⟨hm, fun base hb => ho ⟨h, c, base, hg, hb⟩⟩, fun b _ ho => by
    obtain ⟨k, c', base, k1, k2⟩ := ho
    exact ⟨k, c', base, (drop_get k1).2, k2⟩, hn, fun _ _ => rfl⟩

/-- a row given to a call that nobody writes from then on -/
theorem Tr.lend {f : Nat} {args : List AV} {s : St} {K : AV → St → Prop} (h : Nat) {c : Chunk} (hg : s.get h = some c) (ht : Tr P f (frzL h c args) (s.drop h) K) : Tr P f args s K := by
  unfold Tr at *
  obtain ⟨hb, ht⟩ := ht
  refine ⟨hb, fun ι w M Vs hR hV => ?_⟩
  have hV' : VRels ι w (subM ι h M) (frzL h c args) Vs := ⟨by rw [frzL_length]; exact hV.1, fun j hj => by
    rw [frzL_length] at hj
    rw [frzL_getD h c args j hj]
    exact frzL_rel hR hg args j hj _ (hV.2 j hj)⟩
  refine Calls.mono (ht ι w _ Vs (hR.freeze hg) hV') fun en w' he => ?_
  obtain ⟨V, ι', M', v, s', rfl, hK, h1, h2, h3⟩ := he
  exact ⟨V, ι', M', v, s', rfl, hK, h1, h2, (Go.freeze hg (Nat.le_refl _)).trans h3 hR.lt⟩

/-- what a result is as a value: rows frozen, one by one -/
inductive Frz : AV → St → AV → St → Prop
  | refl (v : AV) (s : St) : Frz v s v s
  | step (v : AV) (s : St) (h : Nat) (c : Chunk) (v' : AV) (s' : St) (hg : s.get h = some c) (ht : Frz (v.frz h c) (s.drop h) v' s') : Frz v s v' s'
theorem Frz.sound {v v' : AV} {s s' : St} (hf : Frz v s v' s') : ∀ {ι : Iota} {w : World} {M : Nat → Prop} {V : Value}, VRel ι w M v V → Rep ι s w M → ∃ M', VRel ι w M' v' V ∧ Rep ι s' w M' ∧ ∀ n0, n0 ≤ s.next → Go n0 ι s w M ι s' w M' := by
  induction hf with
  | refl v s => intro ι w M V hv hR; exact ⟨M, hv, hR, fun n0 hn => Go.refl _ _ _ _ hn⟩
  | step v s h c v' s' hg ht ih =>
    intro ι w M V hv hR
    obtain ⟨M', h1, h2, h3⟩ := ih (frz_rel hR hg v V hv) (hR.freeze hg)
    exact ⟨M', h1, h2, fun n0 hn => (Go.freeze hg hn).trans (h3 n0 hn) hR.lt⟩
theorem Tr.freeze {f : Nat} {args : List AV} {s : St} {K K' : AV → St → Prop} (ht : Tr P f args s K) (hk : ∀ v s', K v s' → ∃ v2 s2, Frz v s' v2 s2 ∧ K' v2 s2) : Tr P f args s K' := by
  unfold Tr at *
  obtain ⟨hb, ht⟩ := ht
  refine ⟨hb, fun ι w M Vs hR hV => Calls.mono (ht ι w M Vs hR hV) fun en w' he => ?_⟩
  obtain ⟨V, ι', M', v, s', rfl, hK, h1, h2, h3⟩ := he
  obtain ⟨v2, s2, hf, hK2⟩ := hk v s' hK
  obtain ⟨M2, k1, k2, k3⟩ := hf.sound h1 h2
  exact ⟨V, ι', M2, v2, s2, rfl, hK2, k1, k2, h3.trans (k3 _ h3.next) hR.lt⟩

/-- a result by other names, or known less well -/
theorem Tr.norm {f : Nat} {args : List AV} {s : St} {K K' : AV → St → Prop} (ht : Tr P f args s K) (hk : ∀ v s', K v s' → ∃ v2 s2, SubW s.next [(0, v)] s' [(0, v2)] s2 ∧ K' v2 s2) : Tr P f args s K' := by
  unfold Tr at *
  obtain ⟨hb, ht⟩ := ht
  refine ⟨hb, fun ι w M Vs hR hV => Calls.mono (ht ι w M Vs hR hV) fun en w' he => ?_⟩
  obtain ⟨V, ι', M', v, s', rfl, hK, h1, h2, h3⟩ := he
  obtain ⟨v2, s2, hs, hK2⟩ := hk v s' hK
  let F : From := ⟨P, [], ι, s, w, M, hR.lt, s.next, 0⟩
  have hI : Inv F [(0, v)] s' { tmps := #[V], defers := [] } ι' w' M' := by
    refine ⟨h2, fun u => ?_, Nat.zero_le _, trivial, h3⟩
    rw [Env.get_cons]
    by_cases hu : 0 = u
    · subst hu; simpa using h1
    · rw [if_neg hu]; exact .undef _
  obtain ⟨ι2, hI2⟩ := sub_sound rfl hI hs
  have hv := hI2.env 0
  rw [Env.get_cons, if_pos rfl] at hv
  exact ⟨V, ι2, M', v2, s2, rfl, hK2, by simpa using hv, hI2.rep, hI2.go⟩

/-- whatever is known of a value as the first is known of it as the second -/
def Le (v v' : AV) : Prop := ∀ (ι : Iota) (w : World) (M : Nat → Prop) (V : Value), VRel ι w M v V → VRel ι w M v' V
theorem Le.refl (v : AV) : Le v v := fun _ _ _ _ h => h
theorem Le.nilI (k : IntKind) : Le .nils (.roI k []) := fun ι w M V h => by
  rw [h.nils_inv]
  exact .g _ _ (.sliceNil _ 1 (fun j => .int k (([] : List Int).getD j 0)) rfl)
theorem Le.nilB : Le .nils (.roB []) := fun ι w M V h => by
  rw [h.nils_inv]
  exact .g _ _ (.sliceNil _ 1 (fun j => .bool (([] : List Bool).getD j false)) rfl)
theorem Le.undef (v : AV) : Le v .undef := fun _ _ _ V _ => .undef V
/-- pointwise -/
def LeL : List AV → List AV → Prop
  | [], [] => True
  | v :: r, v' :: r' => Le v v' ∧ LeL r r'
  | _, _ => False
theorem LeL.get : ∀ {l l' : List AV}, LeL l l' → l.length = l'.length ∧ ∀ j, Le (l.getD j .undef) (l'.getD j .undef)
  | [], [], _ => ⟨rfl, fun j => Le.refl _⟩
  | v :: r, v' :: r', h => by
    obtain ⟨h1, h2⟩ := LeL.get h.2
    refine ⟨by simp [h1], fun j => ?_⟩
    cases j with
    | zero => simpa using h.1
    | succ j => simpa using h2 j
  | [], _ :: _, h => h.elim
  | _ :: _, [], h => h.elim
theorem Le.agg {l l' : List AV} (h : LeL l l') : Le (.agg l) (.agg l') := fun ι w M V hV => by
  obtain ⟨cs, rfl, h1, h2⟩ := hV.agg_inv
  obtain ⟨k1, k2⟩ := h.get
  exact .agg _ cs (by omega) fun j hj => k2 j _ _ _ _ (h2 j (by omega))
theorem Tr.le {f : Nat} {args args' : List AV} {s : St} {K : AV → St → Prop} (h : LeL args args') (ht : Tr P f args' s K) : Tr P f args s K := by
  unfold Tr at *
  obtain ⟨hb, ht⟩ := ht
  obtain ⟨k1, k2⟩ := h.get
  exact ⟨hb, fun ι w M Vs hR hV => ht ι w M Vs hR ⟨by rw [hV.1, k1], fun j hj => k2 j _ _ _ _ (hV.2 j (by omega))⟩⟩

theorem Le.tup {l l' : List AV} (h : LeL l l') : Le (.tup l) (.tup l') := fun ι w M V hV => by
  obtain ⟨cs, rfl, h1, h2⟩ := hV.tup_inv
  obtain ⟨k1, k2⟩ := h.get
  exact .tup _ cs (by omega) fun j hj => k2 j _ _ _ _ (h2 j (by omega))
theorem Tr.leRes {f : Nat} {args : List AV} {s : St} {K K' : AV → St → Prop} (ht : Tr P f args s K) (hk : ∀ v s', K v s' → ∃ v', Le v v' ∧ K' v' s') : Tr P f args s K' := by
  unfold Tr at *
  obtain ⟨hb, ht⟩ := ht
  refine ⟨hb, fun ι w M Vs hR hV => Calls.mono (ht ι w M Vs hR hV) fun en w' he => ?_⟩
  obtain ⟨V, ι', M', v, s', rfl, hK, h1, h2, h3⟩ := he
  obtain ⟨v', hle, hK'⟩ := hk v s' hK
  exact ⟨V, ι', M', v', s', rfl, hK', hle _ _ _ _ h1, h2, h3⟩

end
end Go.Ab
set_option linter.unusedVariables false
set_option linter.unusedSimpArgs false
set_option autoImplicit false
namespace Go.Ab

noncomputable def forceN (n : Nat) : (Nat → Prop) → Prop := Nat.rec (motive := fun _ => (Nat → Prop) → Prop) (fun K => K 0) (fun n _ K => K (n + 1)) n
theorem forceN_eq (n : Nat) (K : Nat → Prop) : forceN n K = K n := by cases n <;> rfl
noncomputable def forceA (v : AV) (K : AV → Prop) : Prop :=
  match v with
  | .undef => K .undef
  | .bool b => K (.bool b)
  | .int k n => K (.int k n)
  | .str s => K (.str s)
  | .nilp => K .nilp
  | .nils => K .nils
  | .nili => K .nili
  | .nilf => K .nilf
  | .nilm => K .nilm
  | .ptr h o => forceN h fun h => K (.ptr h o)
  | .cptr v => K (.cptr v)
  | .sl e h o n => forceN h fun h => K (.sl e h o n)
  | .roI k l => K (.roI k l)
  | .roB l => K (.roB l)
  | .ro e l => K (.ro e l)
  | .agg l => K (.agg l)
  | .aggI n k g => K (.aggI n k g)
  | .tup l => K (.tup l)
  | .iface t v => K (.iface t v)
  | .fn f c => K (.fn f c)
  | .mp h => forceN h fun h => K (.mp h)
  | .bfn f c => K (.bfn f c)
  | .raw v => K (.raw v)
  | .sy k e => K (.sy k e)
theorem forceA_eq (v : AV) (K : AV → Prop) : forceA v K = K v := by cases v <;> first | rfl | exact forceN_eq _ _
noncomputable def forceM (l : List AV) : (List AV → Prop) → Prop :=
  List.rec (motive := fun _ => (List AV → Prop) → Prop) (fun K => K []) (fun v _ ih K => forceA v fun v => ih fun r => K (v :: r)) l
theorem forceM_eq (l : List AV) : ∀ K : List AV → Prop, forceM l K = K l := by
  induction l with
  | nil => intro K; rfl
  | cons v r ih => intro K; show (forceA v fun v => forceM r fun r => K (v :: r)) = _; rw [forceA_eq]; exact ih _
theorem forceMI {l : List AV} {K : List AV → Prop} (h : K l) : forceM l K := by rw [forceM_eq]; exact h
noncomputable def forceW (v : AV) (K : AV → Prop) : Prop :=
  forceA v fun v => match v with
    | .agg l => forceM l fun l => K (.agg l)
    | .tup l => forceM l fun l => K (.tup l)
    | .iface t v => forceA v fun v => K (.iface t v)
    | .cptr v => forceA v fun v => K (.cptr v)
    | .fn f l => forceM l fun l => K (.fn f l)
    | .bfn f l => forceM l fun l => K (.bfn f l)
    | v => K v
theorem forceW_eq (v : AV) (K : AV → Prop) : forceW v K = K v := by
  unfold forceW
  rw [forceA_eq]
  cases v <;> simp only [forceM_eq, forceA_eq]
noncomputable def forceC (c : Chunk) (K : Chunk → Prop) : Prop :=
  match c with
  | .obj l => forceM l fun l => K (.obj l)
  | .rowI k l => K (.rowI k l)
  | .rowB l => K (.rowB l)
  | .fn n f => K (.fn n f)
  | .blk n k g => K (.blk n k g)
  | .map l clk => K (.map l clk)
theorem forceC_eq (c : Chunk) (K : Chunk → Prop) : forceC c K = K c := by
  cases c <;> simp only [forceC, forceM_eq]
noncomputable def forceE (f : Eff) (K : Eff → Prop) : Prop :=
  match f with
  | .no => K .no
  | .new c => forceC c fun c => K (.new c)
  | .set h c => forceN h fun h => forceC c fun c => K (.set h c)
  | .app h c => forceN h fun h => K (.app h c)
theorem forceE_eq (f : Eff) (K : Eff → Prop) : forceE f K = K f := by
  cases f <;> simp only [forceE, forceC_eq, forceN_eq]

noncomputable def opF (get : Nat → Option Chunk) (nx : Nat) (e : Env) (o : AOp) (K : Res → Prop) : Prop :=
  match o with
  | .store sz x y => forceA (x.ev e) fun vx => forceW (y.ev e) fun vy => K (storeA get sz vx vy)
  | o => K (opD get nx (AOpd.ev e) o)
theorem opF_eq (get : Nat → Option Chunk) (nx : Nat) (e : Env) (o : AOp) (K : Res → Prop) : opF get nx e o K = K (opD get nx (AOpd.ev e) o) := by
  cases o <;> simp only [opF, forceA_eq, forceW_eq] <;> rfl

noncomputable def insF (s : St) (get : Nat → Option Chunk) (e : Env) (i : AIns) (K : AV → Eff → Prop) (C : Nat → List AV → Prop) : Prop :=
  opF get s.next e i.op fun r => match r with
  | .ok c v eff => bif c then
      forceE eff fun eff => forceW v fun v => bif i.split then (match v with
        | .bool b => bif b then K (.bool true) eff else K (.bool false) eff
        | _ => False) else K v eff
      else False
  | .call f args => forceM args fun args => C f args
  | .bad => False
theorem insF_eq (s : St) (get : Nat → Option Chunk) (e : Env) (i : AIns) (K : AV → Eff → Prop) (C : Nat → List AV → Prop) : insF s get e i K C = insW s get e i K C := by
  unfold insF insW
  rw [opF_eq]
  cases opD get s.next (AOpd.ev e) i.op with
  | ok c v eff => simp only [forceE_eq, forceW_eq, forceV_eq]; rfl
  | call f args => simp only [forceM_eq]
  | bad => rfl
def openS (s : St) (F : Nat → Mem → Prop) : Prop := match s with
  | ⟨n, m⟩ => F n m
theorem openS_eq (s : St) (F : Nat → Mem → Prop) : openS s F = F s.next s.m := rfl

noncomputable def regF (P : Program) (l : List AIns) : Env → St → (Env → St → Prop) → Prop :=
  List.rec (motive := fun _ => Env → St → (Env → St → Prop) → Prop) (fun e s K => K e s)
    (fun i _ ih e s K => guardW e i
      (insF s s.get e i
        (fun v eff => putW e i.dst v fun e => appW s eff fun s => ih e s K)
        (fun f args => Tr P f args s fun v s => forceW v fun v => putW e i.dst v fun e => ih e s K))
      (putW e i.dst (.tup []) fun e => ih e s K)) l
theorem regF_eq (P : Program) (l : List AIns) : regF P l = regW P l := by
  induction l with
  | nil => rfl
  | cons i r ih =>
    funext e s K
    show guardW e i (insF s s.get e i (fun v eff => putW e i.dst v fun e => appW s eff fun s => regF P r e s K) (fun f args => Tr P f args s fun v s => forceW v fun v => putW e i.dst v fun e => regF P r e s K)) (putW e i.dst (.tup []) fun e => regF P r e s K) = _
    rw [regW_cons, ih]
    simp only [insF_eq, forceW_eq, forceV_eq]

noncomputable def absorbF (ab : List Nat) (pd : Pend) : Mem → (Mem → Pend → Prop) → Prop :=
  List.rec (motive := fun _ => Mem → (Mem → Pend → Prop) → Prop) (fun m K => K m [])
    (fun p _ ih m K => match p with
      | (i, h, c) => ih m fun m r => bif memN ab i then K ((h, some c) :: m) r else K m ((i, h, c) :: r)) pd
theorem absorbF_eq (ab : List Nat) : ∀ (pd : Pend) (m : Mem) (K : Mem → Pend → Prop), absorbF ab pd m K = K (absorb ab pd m).1 (absorb ab pd m).2 := by
  intro pd
  induction pd with
  | nil => intro m K; rfl
  | cons p r ih =>
    intro m K
    obtain ⟨i, h, c⟩ := p
    show (absorbF ab r m fun m r => bif memN ab i then K ((h, some c) :: m) r else K m ((i, h, c) :: r)) = _
    rw [ih]
    simp only [absorb]
    cases memN ab i <;> rfl
noncomputable def flushF (pd : Pend) : Mem → (Mem → Prop) → Prop :=
  List.rec (motive := fun _ => Mem → (Mem → Prop) → Prop) (fun m K => K m)
    (fun p _ ih m K => match p with
      | (i, h, c) => ih m fun m => K ((h, some c) :: m)) pd
theorem flushF_eq : ∀ (pd : Pend) (m : Mem) (K : Mem → Prop), flushF pd m K = K (flush pd m) := by
  intro pd
  induction pd with
  | nil => intro m K; rfl
  | cons p r ih =>
    intro m K
    obtain ⟨i, h, c⟩ := p
    show (flushF r m fun m => K ((h, some c) :: m)) = _
    rw [ih]; rfl

noncomputable def drawF (P : Program) (l : List AStep) : Env → St → Pend → (Env → St → Prop) → Prop :=
  List.rec (motive := fun _ => Env → St → Pend → (Env → St → Prop) → Prop) (fun e s p K => openS s fun n m => flushF p m fun m => K e ⟨n, m⟩)
    (fun x _ ih e s p K => openS s fun n m => bif x.e then
      absorbF x.ab p m fun m p => guardW e x.ins
          (insF ⟨n, m⟩ (St.get ⟨n, m⟩) e x.ins
            (fun v eff => appW ⟨n, m⟩ eff fun s' => watchW e (getP ⟨n, m⟩ p) (getP s' p) x.wt (putW e x.ins.dst v fun e => ih e s' p K))
            (fun f args => Tr P f args ⟨n, m⟩ fun v s' => watchW e (getP ⟨n, m⟩ p) (getP s' p) x.wt (forceW v fun v => putW e x.ins.dst v fun e => ih e s' p K)))
          (putW e x.ins.dst (.tup []) fun e => ih e ⟨n, m⟩ p K)
    else guardW e x.ins
      (insF ⟨n, m⟩ (getP ⟨n, m⟩ p) e x.ins
        (fun v eff => putW e x.ins.dst v fun e => match eff with
          | .no => ih e ⟨n, m⟩ p K
          | .new c => ih e ⟨n + 1, m⟩ ((x.i, n, c) :: p) K
          | _ => False)
        (fun _ _ => False))
      (putW e x.ins.dst (.tup []) fun e => ih e ⟨n, m⟩ p K)) l
theorem drawF_eq (P : Program) (l : List AStep) : drawF P l = drawW P l := by
  induction l with
  | nil =>
    funext e s p K
    show (openS s fun n m => flushF p m fun m => K e ⟨n, m⟩) = _
    rw [openS_eq, flushF_eq]; rfl
  | cons x r ih =>
    funext e s p K
    obtain ⟨n, m⟩ := s
    show (bif x.e then
      absorbF x.ab p m fun m p => guardW e x.ins
          (insF ⟨n, m⟩ (St.get ⟨n, m⟩) e x.ins
            (fun v eff => appW ⟨n, m⟩ eff fun s' => watchW e (getP ⟨n, m⟩ p) (getP s' p) x.wt (putW e x.ins.dst v fun e => drawF P r e s' p K))
            (fun f args => Tr P f args ⟨n, m⟩ fun v s' => watchW e (getP ⟨n, m⟩ p) (getP s' p) x.wt (forceW v fun v => putW e x.ins.dst v fun e => drawF P r e s' p K)))
          (putW e x.ins.dst (.tup []) fun e => drawF P r e ⟨n, m⟩ p K)
    else guardW e x.ins
      (insF ⟨n, m⟩ (getP ⟨n, m⟩ p) e x.ins
        (fun v eff => putW e x.ins.dst v fun e => match eff with
          | .no => drawF P r e ⟨n, m⟩ p K
          | .new c => drawF P r e ⟨n + 1, m⟩ ((x.i, n, c) :: p) K
          | _ => False)
        (fun _ _ => False))
      (putW e x.ins.dst (.tup []) fun e => drawF P r e ⟨n, m⟩ p K)) = (bif x.e then
      match absorb x.ab p m with
      | (m, p) => guardW e x.ins
          (insW ⟨n, m⟩ (St.get ⟨n, m⟩) e x.ins
            (fun v eff => appW ⟨n, m⟩ eff fun s' => watchW e (getP ⟨n, m⟩ p) (getP s' p) x.wt (putW e x.ins.dst v fun e => drawW P r e s' p K))
            (fun f args => Tr P f args ⟨n, m⟩ fun v s' => watchW e (getP ⟨n, m⟩ p) (getP s' p) x.wt (forceV v fun v => putW e x.ins.dst v fun e => drawW P r e s' p K)))
          (putW e x.ins.dst (.tup []) fun e => drawW P r e ⟨n, m⟩ p K)
    else guardW e x.ins
      (insW ⟨n, m⟩ (getP ⟨n, m⟩ p) e x.ins
        (fun v eff => putW e x.ins.dst v fun e => match eff with
          | .no => drawW P r e ⟨n, m⟩ p K
          | .new c => drawW P r e ⟨n + 1, m⟩ ((x.i, n, c) :: p) K
          | _ => False)
        (fun _ _ => False))
      (putW e x.ins.dst (.tup []) fun e => drawW P r e ⟨n, m⟩ p K))
    rw [ih]
    simp only [absorbF_eq, insF_eq, forceW_eq, forceV_eq]

noncomputable def wpF (P : Program) (n0 : Nat) (c : ACode) : Env → St → (Ex → Env → St → Prop) → Prop :=
  ACode.rec (motive := fun _ => Env → St → (Ex → Env → St → Prop) → Prop)
    (fun e s K => K .normal e s)
    (fun l e s K => regF P l e s fun e s => K .normal e s)
    (fun l e s K => drawF P l e s [] fun e s => K .normal e s)
    (fun _ _ iha ihb e s K => iha e s fun x e s => match x with
      | .normal => ihb e s K
      | .exit j => K (.exit j) e s
      | .ret => K .ret e s)
    (fun c _ _ iha ihb e s K => match c.ev e with
      | .bool t => bif t then iha e s K else ihb e s K
      | _ => False)
    (fun id _ iha e s K => iha e s fun x e s => match x with
      | .normal => K .normal e s
      | .exit j => bif Nat.beq j id then K .normal e s else K (.exit j) e s
      | .ret => K .ret e s)
    (fun _ iha e s K => LoopW n0 iha e s K)
    (fun id e s K => K (.exit id) e s)
    (fun e s K => K .ret e s) c
theorem wpF_eq (P : Program) (n0 : Nat) (c : ACode) : wpF P n0 c = wpA P n0 c := by
  induction c with
  | skip => rfl
  | reg l => funext e s K; show regF P l e s _ = _; rw [regF_eq]; rfl
  | draw l => funext e s K; show drawF P l e s [] _ = _; rw [drawF_eq]; rfl
  | seq a b iha ihb =>
    funext e s K
    show wpF P n0 a e s _ = wpA P n0 a e s _
    rw [iha]
    refine congrArg _ ?_
    funext x e s
    cases x
    · show wpF P n0 b e s K = wpA P n0 b e s K; rw [ihb]
    · rfl
    · rfl
  | cond c a b iha ihb =>
    funext e s K
    show (match c.ev e with | .bool t => bif t then wpF P n0 a e s K else wpF P n0 b e s K | _ => False) = (match c.ev e with | .bool t => bif t then wpA P n0 a e s K else wpA P n0 b e s K | _ => False)
    rw [iha, ihb]
  | block id a iha => funext e s K; show wpF P n0 a e s _ = wpA P n0 a e s _; rw [iha]; rfl
  | loop a iha => funext e s K; show LoopW n0 (wpF P n0 a) e s K = LoopW n0 (wpA P n0 a) e s K; rw [iha]
  | exit id => rfl
  | ret => rfl

noncomputable def resF (e : Env) (s : St) (l : List ARes) : (List AV → Prop) → Prop :=
  List.rec (motive := fun _ => (List AV → Prop) → Prop) (fun K => K [])
    (fun r _ ih K => match r with
      | .t n => forceW (e.get n) fun v => ih fun l => K (v :: l)
      | .cell n agg sz => match e.get n with
        | .ptr h off => match s.get h with
          | some c => bif (c.ld agg off sz).1 then forceW (c.ld agg off sz).2 fun v => ih fun l => K (v :: l) else False
          | none => False
        | _ => False) l
theorem resF_eq (e : Env) (s : St) (l : List ARes) : resF e s l = resW e s l := by
  induction l with
  | nil => rfl
  | cons r l ih =>
    funext K
    cases r with
    | t n =>
      show (forceW (e.get n) fun v => resF e s l fun l => K (v :: l)) = (forceV (e.get n) fun v => resW e s l fun l => K (v :: l))
      rw [forceW_eq, forceV_eq, ih]
    | cell n agg sz =>
      show (match e.get n with
        | .ptr h off => match s.get h with
          | some c => bif (c.ld agg off sz).1 then forceW (c.ld agg off sz).2 fun v => resF e s l fun l => K (v :: l) else False
          | none => False
        | _ => False) = (match e.get n with
        | .ptr h off => match s.get h with
          | some c => bif (c.ld agg off sz).1 then forceV (c.ld agg off sz).2 fun v => resW e s l fun l => K (v :: l) else False
          | none => False
        | _ => False)
      simp only [forceW_eq, forceV_eq, ih]
/-- the verification condition of a function -/
noncomputable def fnF (P : Program) (c : ACode) (rs : List ARes) (args : List AV) (s : St) (K : AV → St → Prop) : Prop :=
  wpF P s.next c (argsE 0 args) s fun x e s => match x with
    | .exit _ => False
    | _ => resF e s rs (retW K s)
theorem fnF_eq (P : Program) (c : ACode) (rs : List ARes) (args : List AV) (s : St) (K : AV → St → Prop) : fnF P c rs args s K = fnW P c rs args s K := by
  unfold fnF fnW
  rw [wpF_eq]
  simp only [resF_eq]
  rfl
end Go.Ab
set_option linter.unusedVariables false
set_option linter.unusedSimpArgs false
set_option autoImplicit false
namespace Go.Ab

def firstReg : List AIns → Option Nat
  | [] => none
  | i :: r => match i.dst with
    | some d => some d
    | none => firstReg r
def firstDraw : List AStep → Option Nat
  | [] => none
  | i :: r => match i.ins.dst with
    | some d => some d
    | none => firstDraw r
/-- the first slot that a piece of code writes -/
def firstDst : ACode → Option Nat
  | .reg l => firstReg l
  | .draw l => firstDraw l
  | .seq a b => match firstDst a with
    | some d => some d
    | none => firstDst b
  | .block _ a => firstDst a
  | .loop a => firstDst a
  | _ => none
def atJoin (z : List Nat) (c : ACode) : Bool :=
  match firstDst c with
  | some d => memN z d
  | none => false
/-- ways that come together: what is known there -/
def JoinW (n0 : Nat) (A B : Env → St → (Ex → Env → St → Prop) → Prop) (e : Env) (s : St) (K : Ex → Env → St → Prop) : Prop :=
  ∃ (α : Type) (E : α → Env) (S : α → St), (A e s fun x e s => match x with
      | .normal => ∃ x, SubW n0 e s (E x) (S x)
      | .exit j => K (.exit j) e s
      | .ret => K .ret e s) ∧ ∀ x, B (E x) (S x) K
theorem joinI {n0 : Nat} {A B : Env → St → (Ex → Env → St → Prop) → Prop} {e : Env} {s : St} {K : Ex → Env → St → Prop} {α : Type} (E : α → Env) (S : α → St)
    (ha : A e s fun x e s => match x with
      | .normal => ∃ x, SubW n0 e s (E x) (S x)
      | .exit j => K (.exit j) e s
      | .ret => K .ret e s) (hb : ∀ x, B (E x) (S x) K) : JoinW n0 A B e s K := ⟨α, E, S, ha, hb⟩

/-! ### rows that are values from here on -/
def frzC (h : Nat) (c : Chunk) : Chunk → Chunk
  | .obj l => .obj (frzL h c l)
  | .map l k => .map (l.map fun x => (x.1.frz h c, x.2.1.frz h c, x.2.2)) k
  | d => d
noncomputable def envF (h : Nat) (c : Chunk) (e : Env) : (Env → Prop) → Prop :=
  List.rec (motive := fun _ => (Env → Prop) → Prop) (fun K => K []) (fun p _ ih K => match p with
    | (u, v) => forceA (v.frz h c) fun v => ih fun r => K ((u, v) :: r)) e
def frzE (h : Nat) (c : Chunk) (e : Env) : Env := e.map fun p => (p.1, p.2.frz h c)
theorem envF_eq (h : Nat) (c : Chunk) : ∀ (e : Env) (K : Env → Prop), envF h c e K = K (frzE h c e) := by
  intro e
  induction e with
  | nil => intro K; rfl
  | cons p r ih =>
    intro K
    obtain ⟨u, v⟩ := p
    show (forceA (v.frz h c) fun v => envF h c r fun r => K ((u, v) :: r)) = _
    rw [forceA_eq, ih]; rfl
noncomputable def memF (h : Nat) (c : Chunk) (m : Mem) : (Mem → Prop) → Prop :=
  List.rec (motive := fun _ => (Mem → Prop) → Prop) (fun K => K []) (fun p _ ih K => match p with
    | (u, some d) => forceC (frzC h c d) fun d => ih fun r => K ((u, some d) :: r)
    | (u, none) => ih fun r => K ((u, none) :: r)) m
def frzMem (h : Nat) (c : Chunk) (m : Mem) : Mem := m.map fun p => (p.1, p.2.map (frzC h c))
theorem memF_eq (h : Nat) (c : Chunk) : ∀ (m : Mem) (K : Mem → Prop), memF h c m K = K (frzMem h c m) := by
  intro m
  induction m with
  | nil => intro K; rfl
  | cons p r ih =>
    intro K
    obtain ⟨u, v⟩ := p
    cases v with
    | none =>
      show (memF h c r fun r => K ((u, none) :: r)) = _
      rw [ih]; rfl
    | some d =>
      show (forceC (frzC h c d) fun d => memF h c r fun r => K ((u, some d) :: r)) = _
      rw [forceC_eq, ih]; rfl
theorem frzE_get (h : Nat) (c : Chunk) : ∀ (e : Env) (u : Nat), (frzE h c e).get u = (e.get u).frz h c
  | [], u => rfl
  | (d, v) :: r, u => by
    simp only [frzE, List.map_cons, Env.get_cons]
    by_cases hd : d = u
    · simp [hd]
    · rw [if_neg hd, if_neg hd]; exact frzE_get h c r u
theorem frzMem_get (h : Nat) (c : Chunk) : ∀ (m : Mem) (u : Nat), (frzMem h c m).get u = (m.get u).map (frzC h c)
  | [], u => rfl
  | (d, v) :: r, u => by
    simp only [frzMem, List.map_cons, Mem.get_cons]
    by_cases hd : d = u
    · simp [hd]
    · rw [if_neg hd, if_neg hd]; exact frzMem_get h c r u
theorem frzC_size (h : Nat) (c d : Chunk) : (frzC h c d).size = d.size := by
  cases d <;> simp [frzC, Chunk.size, frzL_length]
theorem frz_crel {ι : Iota} {s : St} {w : World} {M : Nat → Prop} {c : Chunk} {h : Nat} (hR : Rep ι s w M) (hg : s.get h = some c) {d : Chunk} {b base : Nat} (hd : CRel ι w M d b base) : CRel ι w (subM ι h M) (frzC h c d) b base := by
  by_cases hm : ∃ l k, d = .map l k
  · obtain ⟨l, k, rfl⟩ := hm
    obtain ⟨h0, es, h1, h2, h3⟩ := hd
    refine ⟨h0, es, h1, by simpa using h2, fun j x hj => ?_⟩
    rw [List.getElem?_map] at hj
    obtain ⟨y, hy, rfl⟩ := Option.map_eq_some_iff.1 hj
    obtain ⟨e, q1, q2, q3, q4⟩ := h3 j y hy
    exact ⟨e, q1, frz_rel hR hg _ _ q2, frz_rel hR hg _ _ q3, q4⟩
  have hnm : ∀ l k, d ≠ .map l k := fun l k e => hm ⟨l, k, e⟩
  have hnr : ∀ l k, frzC h c d ≠ .map l k := fun l k e => by cases d <;> first | (exact absurd rfl (hnm _ _)) | (simp [frzC] at e)
  rw [CRel.not_map hnm] at hd
  rw [CRel.not_map hnr]
  obtain ⟨cs, T, fr, h1, h2, h3, h4⟩ := hd
  refine ⟨cs, T, fr, h1, h2, by rw [frzC_size]; exact h3, fun j hj => ?_⟩
  rw [frzC_size] at hj
  have hv := h4 j hj
  cases d with
  | obj l =>
    show VRel ι w _ ((frzL h c l).getD j .undef) _
    have hj' : j < l.length := hj
    rw [frzL_getD h c l j hj']
    exact frz_rel hR hg _ _ hv
  | rowI k l => exact (frz_rel hR hg _ _ hv : VRel ι w _ ((Chunk.get (.rowI k l) j).frz h c) _)
  | rowB l => exact (frz_rel hR hg _ _ hv : VRel ι w _ ((Chunk.get (.rowB l) j).frz h c) _)
  | blk n k g => exact (frz_rel hR hg _ _ hv : VRel ι w _ ((Chunk.get (.blk n k g) j).frz h c) _)
  | fn n f => exact VRel.mono (Imm.subM h) (fun _ _ hp => hp) hv
  | map l k => exact absurd rfl (hnm l k)
/-- the state with a row that is a value from now on -/
def St.frz (s : St) (h : Nat) (c : Chunk) : St := ⟨s.next, (h, none) :: frzMem h c s.m⟩
theorem Rep.frz {ι : Iota} {s : St} {w : World} {M : Nat → Prop} {c : Chunk} {h : Nat} (hR : Rep ι s w M) (hg : s.get h = some c) : Rep ι (s.frz h c) w (subM ι h M) := by
  have hF := hR.freeze hg
  have get1 : ∀ k d, (s.frz h c).get k = some d → k ≠ h ∧ ∃ d0, s.get k = some d0 ∧ d = frzC h c d0 := by
    intro k d hk
    simp only [St.frz, St.get_cons] at hk
    split at hk
    · cases hk
    · rename_i hne
      refine ⟨fun e => hne e.symm, ?_⟩
      have : ((frzMem h c s.m).get k) = some d := hk
      rw [frzMem_get] at this
      obtain ⟨d0, k1, k2⟩ := Option.map_eq_some_iff.1 this
      exact ⟨d0, k1, k2.symm⟩
  have drop : ∀ k d0, k ≠ h → s.get k = some d0 → (s.drop h).get k = some d0 := by
    intro k d0 hne hk
    show St.get ⟨s.next, (h, none) :: s.m⟩ k = _
    rw [St.get_cons, if_neg (fun e => hne e.symm)]
    exact hk
  refine ⟨hR.fresh, fun k d hk => ?_, fun k k' d d' p p' hk hk' hne hp hp' => ?_, hF.lt, hF.glob⟩
  · obtain ⟨hne, d0, k1, rfl⟩ := get1 k d hk
    rw [frzC_size]
    rcases hF.own k d0 (drop k d0 hne k1) with q | ⟨b, base, q1, q2, q3⟩
    · exact .inl q
    · rcases hR.own k d0 k1 with ⟨q4, _⟩ | ⟨b', base', q4, q5, q6⟩
      · rw [q1] at q4; cases q4
      · rw [q1] at q4
        simp only [Option.some.injEq, Prod.mk.injEq] at q4
        obtain ⟨rfl, rfl⟩ := q4
        exact .inr ⟨b, base, q1, q2, frz_crel hR hg q6⟩
  · obtain ⟨_, d0, k1, _⟩ := get1 k d hk
    obtain ⟨_, d1, k2, _⟩ := get1 k' d' hk'
    exact hR.inj k k' d0 d1 p p' k1 k2 hne hp hp'
theorem Go.frz {ι : Iota} {s : St} {w : World} {M : Nat → Prop} {c : Chunk} {h : Nat} (hR : Rep ι s w M) (hg : s.get h = some c) {n0 : Nat} (hn : n0 ≤ s.next) : Go n0 ι s w M ι (s.frz h c) w (subM ι h M) := by
  have hG := Go.freeze (ι := ι) (w := w) (M := M) hg hn
  refine ⟨hG.size, hG.tape, hG.os, hG.output, hG.block, hG.shape, hG.back, hG.keep, fun b hb ho => ?_, hn, hG.ext⟩
  obtain ⟨k, d, base, k1, k2⟩ := ho
  simp only [St.frz, St.get_cons] at k1
  split at k1
  · cases k1
  · have : ((frzMem h c s.m).get k) = some d := k1
    rw [frzMem_get] at this
    obtain ⟨d0, k3, _⟩ := Option.map_eq_some_iff.1 this
    exact ⟨k, d0, base, k3, k2⟩
/-- the row in a slot is a value from now on -/
noncomputable def frzW (d : Nat) (e : Env) (s : St) (K : Env → St → Prop) : Prop :=
  match e.get d with
  | .sl _ h _ _ => match s.get h with
    | some c => envF h c e fun e => memF h c s.m fun m => openS s fun n _ => K e ⟨n, (h, none) :: m⟩
    | none => K e s
  | _ => K e s
noncomputable def frzWs (l : List Nat) : Env → St → (Env → St → Prop) → Prop :=
  List.rec (motive := fun _ => Env → St → (Env → St → Prop) → Prop) (fun e s K => K e s) (fun d _ ih e s K => frzW d e s fun e s => ih e s K) l
theorem frzWs_cons (d : Nat) (l : List Nat) (e : Env) (s : St) (K : Env → St → Prop) : frzWs (d :: l) e s K = frzW d e s fun e s => frzWs l e s K := rfl
def hits (fz : List Nat) (l : List AIns) : List Nat := fz.filter fun d => l.any fun i => match i.dst with
  | some d' => Nat.beq d' d
  | none => false

section
variable {P : Program} {F : From}
theorem frzW_sound (hds : F.ds = []) {d : Nat} {e : Env} {s : St} {act : Act} {ι : Iota} {w : World} {M : Nat → Prop} {K : Env → St → Prop} (hI : Inv F e s act ι w M) (h : frzW d e s K) : ∃ e' s' M', Inv F e' s' act ι w M' ∧ K e' s' := by
  unfold frzW at h
  split at h
  · rename_i es h0 off n he
    split at h
    · rename_i c hg
      rw [envF_eq, memF_eq, openS_eq] at h
      refine ⟨_, _, subM ι h0 M, ⟨hI.rep.frz hg, fun u => ?_, hI.size, hI.dfr.nil_any hds, hI.go.trans (Go.frz hI.rep hg hI.go.next) F.lt⟩, h⟩
      rw [frzE_get]
      exact frz_rel hI.rep hg _ _ (hI.env u)
    · exact ⟨e, s, M, hI, h⟩
  · exact ⟨e, s, M, hI, h⟩
theorem frzWs_sound (hds : F.ds = []) {act : Act} {ι : Iota} {w : World} {K : Env → St → Prop} : ∀ (l : List Nat) {e : Env} {s : St} {M : Nat → Prop}, Inv F e s act ι w M → frzWs l e s K → ∃ e' s' M', Inv F e' s' act ι w M' ∧ K e' s'
  | [], e, s, M, hI, h => ⟨e, s, M, hI, h⟩
  | d :: l, e, s, M, hI, h => by
    rw [frzWs_cons] at h
    obtain ⟨e', s', M', hI', h'⟩ := frzW_sound hds hI h
    exact frzWs_sound hds l hI' h'

noncomputable def wpZ (P : Program) (z fz : List Nat) (n0 : Nat) (c : ACode) : Env → St → (Ex → Env → St → Prop) → Prop :=
  ACode.rec (motive := fun _ => Env → St → (Ex → Env → St → Prop) → Prop)
    (fun e s K => K .normal e s)
    (fun l e s K => regF P l e s fun e s => frzWs (hits fz l) e s fun e s => K .normal e s)
    (fun l e s K => drawF P l e s [] fun e s => K .normal e s)
    (fun _ b iha ihb e s K => bif atJoin z b then JoinW n0 iha ihb e s K else iha e s fun x e s => match x with
      | .normal => ihb e s K
      | .exit j => K (.exit j) e s
      | .ret => K .ret e s)
    (fun c _ _ iha ihb e s K => match c.ev e with
      | .bool t => bif t then iha e s K else ihb e s K
      | _ => False)
    (fun id _ iha e s K => iha e s fun x e s => match x with
      | .normal => K .normal e s
      | .exit j => bif Nat.beq j id then K .normal e s else K (.exit j) e s
      | .ret => K .ret e s)
    (fun _ iha e s K => LoopW n0 iha e s K)
    (fun id e s K => K (.exit id) e s)
    (fun e s K => K .ret e s) c

theorem wpZ_sound (hds : F.ds = []) (hD : DrawOk P) (z fz : List Nat) : ∀ (c : Code) (a : ACode), comp P c = some a → dstOk F.N a = true →
    ∀ {e s act ι w M} (K : Ex → Env → St → Prop) (Q : Exit → Act → World → Prop), Inv F e s act ι w M → wpZ P z fz F.n0 a e s K →
      (∀ x e' s' act' ι' w' M', Inv F e' s' act' ι' w' M' → K x e' s' → Q x.out act' w') → c.wp P Q act w := by
  intro c
  induction c with
  | skip =>
    intro a hc hd e s act ι w M K Q hI h hk
    simp only [comp, Option.some.injEq] at hc
    subst hc
    exact wp_skip (hk .normal _ _ _ _ _ _ hI h)
  | region id ops draw =>
    intro a hc hd e s act ι w M K Q hI h hk
    simp only [comp] at hc
    have hc' := hc
    unfold compReg at hc
    split at hc
    · rename_i l hl
      cases draw with
      | false =>
        simp only [cond_false, Option.some.injEq] at hc
        subst hc
        simp only [dstOk] at hd
        refine wp_region_list ?_
        have h' : regF P l e s fun e s => frzWs (hits fz l) e s fun e s => K .normal e s := h
        rw [regF_eq] at h'
        have := regW_sound (Q := Q) (K := fun e s => frzWs (hits fz l) e s fun e s => K .normal e s) ops.toList 0 l hl hd hI h' fun e' s' act' ι' w' M' hI' hK => by
          obtain ⟨e2, s2, M2, hI2, hK2⟩ := frzWs_sound hds _ hI' hK
          exact hk .normal _ _ _ _ _ _ hI2 hK2
        simpa using this
      | true =>
        simp only [cond_true] at hc
        cases hp : planOk P ops.toList l (ancs ops.toList []) (plan (ancs ops.toList []) l l.length [] 0) with
        | true =>
          simp only [hp, cond_true, Option.some.injEq] at hc
          subst hc
          have h' : drawF P _ e s [] fun e s => K .normal e s := h
          rw [drawF_eq] at h'
          exact hD F id ops _ hc' hd (fun e s => K .normal e s) Q hI h' fun e' s' act' ι' w' M' hI' hK => hk .normal _ _ _ _ _ _ hI' hK
        | false => simp [hp] at hc
    · simp at hc
  | seq x y ihx ihy =>
    intro a hc hd e s act ι w M K Q hI h hk
    simp only [comp] at hc
    split at hc
    · rename_i a' b' ha hb
      simp only [Option.some.injEq] at hc
      subst hc
      simp only [dstOk, Bool.and_eq_true] at hd
      have h' : bif atJoin z b' then JoinW F.n0 (wpZ P z fz F.n0 a') (wpZ P z fz F.n0 b') e s K else wpZ P z fz F.n0 a' e s fun x e s => match x with
        | .normal => wpZ P z fz F.n0 b' e s K
        | .exit j => K (.exit j) e s
        | .ret => K .ret e s := h
      cases hj : atJoin z b' with
      | true =>
        rw [hj] at h'
        obtain ⟨α, E, S, h1, h2⟩ := h'
        refine wp_seq (ihx a' ha hd.1 _ _ hI h1 fun ex e' s' act' ι' w' M' hI' hK => ?_)
        cases ex with
        | normal =>
          obtain ⟨x', hs⟩ := hK
          obtain ⟨ι2, hI2⟩ := sub_sound hds hI' hs
          exact ihy b' hb hd.2 _ _ hI2 (h2 x') hk
        | exit j => exact hk _ _ _ _ _ _ _ hI' hK
        | ret => exact hk _ _ _ _ _ _ _ hI' hK
      | false =>
        rw [hj] at h'
        refine wp_seq (ihx a' ha hd.1 _ _ hI h' fun ex e' s' act' ι' w' M' hI' hK => ?_)
        cases ex with
        | normal => exact ihy b' hb hd.2 _ _ hI' hK hk
        | exit j => exact hk _ _ _ _ _ _ _ hI' hK
        | ret => exact hk _ _ _ _ _ _ _ hI' hK
    · simp at hc
  | cond cx x y ihx ihy =>
    intro a hc hd e s act ι w M K Q hI h hk
    simp only [comp] at hc
    split at hc
    · rename_i c' a' b' hcc ha hb
      simp only [Option.some.injEq] at hc
      subst hc
      simp only [dstOk, Bool.and_eq_true] at hd
      have h : (match c'.ev e with
        | .bool t => bif t then wpZ P z fz F.n0 a' e s K else wpZ P z fz F.n0 b' e s K
        | _ => False) := h
      have hv := hI.env.orel hI.rep.glob _ _ hcc
      cases hb' : c'.ev e <;> simp only [hb'] at h
      rename_i t
      rw [hb'] at hv
      refine wp_cond hv.bool_inv ?_
      cases t
      · exact ihy b' hb hd.2 _ _ hI h hk
      · exact ihx a' ha hd.1 _ _ hI h hk
    · simp at hc
  | block id x ih =>
    intro a hc hd e s act ι w M K Q hI h hk
    simp only [comp] at hc
    obtain ⟨a', ha, rfl⟩ := map_some hc
    refine wp_block (ih a' ha hd (fun x e s => match x with
      | .normal => K .normal e s
      | .exit j => bif Nat.beq j id then K .normal e s else K (.exit j) e s
      | .ret => K .ret e s) _ hI h fun ex e' s' act' ι' w' M' hI' hK => ?_)
    cases ex with
    | normal => exact hk .normal _ _ _ _ _ _ hI' hK
    | exit j =>
      simp only [Ex.out, Exit.inBlock]
      by_cases hj : j = id
      · subst hj
        have hb : Nat.beq j j = true := by simp
        simp only [hb, cond_true] at hK
        rw [if_pos rfl]
        exact hk .normal _ _ _ _ _ _ hI' hK
      · have hb : Nat.beq j id = false := by
          rw [Bool.eq_false_iff]
          exact fun e => hj (Nat.eq_of_beq_eq_true e)
        simp only [hb, cond_false] at hK
        rw [if_neg hj]
        exact hk (.exit j) _ _ _ _ _ _ hI' hK
    | ret => exact hk .ret _ _ _ _ _ _ hI' hK
  | loop x ih =>
    intro a hc hd e s act ι w M K Q hI h hk
    simp only [comp] at hc
    obtain ⟨a', ha, rfl⟩ := map_some hc
    have h : LoopW F.n0 (wpZ P z fz F.n0 a') e s K := h
    unfold LoopW at h
    obtain ⟨α, E, S, μ, x0, h0, hr⟩ := h
    refine wp_loop_ghost (fun x act w => ∃ ι M, Inv F (E x) (S x) act ι w M) μ x0 ?_ fun x act w hx => ?_
    · obtain ⟨ι', hI'⟩ := sub_sound hds hI h0
      exact ⟨ι', M, hI'⟩
    · obtain ⟨ι1, M1, hI1⟩ := hx
      refine ih a' ha hd _ _ hI1 (hr x) fun ex e' s' act' ι' w' M' hI' hK => ?_
      cases ex with
      | normal =>
        obtain ⟨x', hs, hm⟩ := hK
        obtain ⟨ι2, hI2⟩ := sub_sound hds hI' hs
        exact ⟨x', ⟨ι2, M', hI2⟩, hm⟩
      | exit j => exact hk _ _ _ _ _ _ _ hI' hK
      | ret => exact hk _ _ _ _ _ _ _ hI' hK
  | exit id =>
    intro a hc hd e s act ι w M K Q hI h hk
    simp only [comp, Option.some.injEq] at hc
    subst hc
    exact wp_exit (hk (.exit id) _ _ _ _ _ _ hI h)
  | ret =>
    intro a hc hd e s act ι w M K Q hI h hk
    simp only [comp, Option.some.injEq] at hc
    subst hc
    exact wp_ret (hk .ret _ _ _ _ _ _ hI h)
  | rangeFunc f ps asg body _ _ => (intro a hc; simp [comp] at hc)
  | scope body ih =>
    intro a hc hd e s act ι w M K Q hI h hk
    refine wp_scope_straight (ih a hc hd _ _ hI h fun ex e' s' act' ι' w' M' hI' hK => ?_)
    cases ex <;> exact hk _ _ _ _ _ _ _ hI' hK
  | label l =>
    intro a hc hd e s act ι w M K Q hI h hk
    simp only [comp, Option.some.injEq] at hc
    subst hc
    exact wp_label (hk .normal _ _ _ _ _ _ hI h)
  | goto l => intro a hc; simp [comp] at hc
  | refuse why => intro a hc; simp [comp] at hc

noncomputable def fnZ (P : Program) (z fz : List Nat) (c : ACode) (rs : List ARes) (args : List AV) (s : St) (K : AV → St → Prop) : Prop :=
  wpZ P z fz s.next c (argsE 0 args) s fun x e s => match x with
    | .exit _ => False
    | _ => resF e s rs (retW K s)
/-- a function does what its verification condition says -/
theorem fnZ_sound (hD : DrawOk P) (z fz : List Nat) {f : Nat} {fn : Func} {a : ACode} {rs : List ARes} {args : List AV} {s : St} {K : AV → St → Prop} (hf : P.funcs[f]? = some fn) (hb : hasBody P f = true) (hc : compF P fn = some (a, rs)) (h : fnZ P z fz a rs args s K) : Tr P f args s K := by
  unfold compF at hc
  split at hc
  · rename_i c hbody
    split at hc
    · rename_i a' rs' ha hrs
      split at hc
      · rename_i hd
        simp only [Option.some.injEq, Prod.mk.injEq] at hc
        obtain ⟨rfl, rfl⟩ := hc
        unfold Tr
        refine ⟨hb, fun ι w M Vs hR hV => calls_of_wp hf hbody ?_⟩
        let F : From := ⟨P, [], ι, s, w, M, hR.lt, s.next, fn.ntmps⟩
        have hI : Inv F (argsE 0 args) s { tmps := Vs ++ Array.replicate (fn.ntmps - Vs.size) undef, defers := [] } ι w M :=
          ⟨hR, args_erel hV, by simp [F]; omega, trivial, Go.refl ι s w M (Nat.le_refl _)⟩
        refine wpZ_sound (F := F) rfl hD z fz c a' ha hd _ _ hI h fun x e' s' act' ι' w' M' hI' hK => ?_
        have fin : resF e' s' rs' (retW K s') → act'.defers = [] ∧ ∃ v, (results fn act'.tmps).run P w' = .ok v w' ∧ ∃ V ι' M' v' s', Ending.returned v = .returned V ∧ K v' s' ∧ VRel ι' w' M' v' V ∧ Rep ι' s' w' M' ∧ Go s.next ι s w M ι' s' w' M' := by
          intro hres
          rw [resF_eq] at hres
          refine ⟨hI'.dfr.nil_inv rfl, ?_⟩
          obtain ⟨l, vs, h1, h2, h3⟩ := res_sound (P := P) hI' _ _ hrs _ hres
          obtain ⟨v, h4, h5⟩ := ret_rel h2 h3
          refine ⟨_, ?_, _, ι', M', v, s', rfl, h5, h4, hI'.rep, hI'.go⟩
          rw [results_eq, Array.mapM_eq_mapM_toList]
          simp only [Sem.run_bind, map_eq_pure_bind]
          rw [h1]
          simp only [Result.andThen_ok, Sem.run_pure]
        cases x with
        | normal => exact fin hK
        | exit j => exact hK.elim
        | ret => exact fin hK
      · simp at hc
    · simp at hc
  · simp at hc
end
attribute [irreducible] JoinW
end Go.Ab
set_option linter.unusedVariables false
set_option linter.unusedSimpArgs false
namespace Go.Proofs.YtaafinlbepaboaaGreatDoor
open Go.Ab
theorem condS {c : Bool} {A B : Prop} (h1 : c = true → A) (h2 : c = false → B) : cond c A B := by cases c; exact h2 rfl; exact h1 rfl
theorem condF {c : Bool} {A B : Prop} (h2 : c = false → B) (h1 : c = true → A) : cond c A B := condS h1 h2
theorem condT {c : Bool} {A : Prop} (h : c = true) (k : A) : cond c A False := by subst h; exact k
theorem condY {c : Bool} {A B : Prop} (h : c = true) (k : A) : cond c A B := by subst h; exact k
theorem condN {c : Bool} {A B : Prop} (h : c = false) (k : B) : cond c A B := by subst h; exact k
theorem loopI {n0 : Nat} {B : Env → St → (Ex → Env → St → Prop) → Prop} {e : Env} {s : St} {K : Ex → Env → St → Prop} {α : Type} (E : α → Env) (S : α → St) (μ : α → Nat) (x0 : α) (h0 : SubW n0 e s (E x0) (S x0))
    (hr : ∀ x, B (E x) (S x) fun ex e s => match ex with
      | .normal => ∃ x', SubW n0 e s (E x') (S x') ∧ μ x' < μ x
      | .exit j => K (.exit j) e s
      | .ret => K .ret e s) : LoopW n0 B e s K := by unfold LoopW; exact ⟨α, E, S, μ, x0, h0, hr⟩
theorem mixed : Tryz.prog.follows .mixedOrders = true := by kernel_rfl
theorem trOf {f : Nat} {fn : Func} {a : ACode} {rs : List ARes} {args : List AV} {s : St} {K : AV → St → Prop} (hf : Tryz.prog.funcs[f]? = some fn) (hb : hasBody Tryz.prog f = true) (hc : compF Tryz.prog fn = some (a, rs)) (h : fnW Tryz.prog a rs args s K) : Tr Tryz.prog f args s K := fn_sound (drawOk mixed) hf hb hc h
theorem trF {f : Nat} {fn : Func} {a : ACode} {rs : List ARes} {args : List AV} {s : St} {K : AV → St → Prop} (hf : Tryz.prog.funcs[f]? = some fn) (hb : hasBody Tryz.prog f = true) (hc : compF Tryz.prog fn = some (a, rs)) (h : fnF Tryz.prog a rs args s K) : Tr Tryz.prog f args s K := trOf hf hb hc (fnF_eq _ _ _ _ _ _ ▸ h)
theorem trZ (z fz : List Nat) {f : Nat} {fn : Func} {a : ACode} {rs : List ARes} {args : List AV} {s : St} {K : AV → St → Prop} (hf : Tryz.prog.funcs[f]? = some fn) (hb : hasBody Tryz.prog f = true) (hc : compF Tryz.prog fn = some (a, rs)) (h : fnZ Tryz.prog z fz a rs args s K) : Tr Tryz.prog f args s K := fnZ_sound (drawOk mixed) z fz hf hb hc h
end Go.Proofs.YtaafinlbepaboaaGreatDoor
set_option linter.unusedVariables false
set_option linter.unusedSimpArgs false
namespace Go.Ab
mutual
/-- a value without handles keeps its form under every renaming -/
theorem ren_pure {ρ ρ' : Nat → Option Nat} : ∀ (v : AV), v.hok 0 ρ = true → v.ren ρ' = v
  | .ptr h o, hv => by simp [AV.hok, Nat.blt] at hv
  | .mp h, hv => by simp [AV.hok, Nat.blt] at hv
  | .bfn f l, hv => by simp only [AV.hok] at hv; simp only [AV.ren, renL_pure l hv]
  | .sl e h o n, hv => by simp [AV.hok, Nat.blt] at hv
  | .agg l, hv => by simp only [AV.hok] at hv; simp only [AV.ren, renL_pure l hv]
  | .tup l, hv => by simp only [AV.hok] at hv; simp only [AV.ren, renL_pure l hv]
  | .iface t v, hv => by simp only [AV.hok] at hv; simp only [AV.ren, ren_pure v hv]
  | .fn f l, hv => by simp only [AV.hok] at hv; simp only [AV.ren, renL_pure l hv]
  | .undef, _ => rfl
  | .aggI .., _ => rfl
  | .bool _, _ => rfl
  | .int _ _, _ => rfl
  | .str _, _ => rfl
  | .nilp, _ => rfl
  | .nils, _ => rfl
  | .nili, _ => rfl
  | .nilf, _ => rfl
  | .nilm, _ => rfl
  | .cptr _, _ => rfl
  | .roI _ _, _ => rfl
  | .roB _, _ => rfl
  | .ro _ _, _ => rfl
  | .raw _, _ => rfl
  | .sy k e, hv => by simp only [AV.hok] at hv; simp only [AV.ren, SE.ren_pure hv]
termination_by structural v => v
theorem renL_pure {ρ ρ' : Nat → Option Nat} : ∀ (l : List AV), hokL 0 ρ l = true → renL ρ' l = l
  | [], _ => rfl
  | v :: r, h => by simp only [hokL, Bool.and_eq_true] at h; simp only [renL, ren_pure v h.1, renL_pure r h.2]
termination_by structural l => l
end
mutual
theorem hok_mono {ρ ρ' : Nat → Option Nat} {n : Nat} : ∀ (v : AV), v.hok 0 ρ = true → v.hok n ρ' = true
  | .ptr h o, hv => by simp [AV.hok, Nat.blt] at hv
  | .mp h, hv => by simp [AV.hok, Nat.blt] at hv
  | .bfn f l, hv => by simp only [AV.hok] at hv; simp only [AV.hok, hokL_mono l hv]
  | .sl e h o n, hv => by simp [AV.hok, Nat.blt] at hv
  | .agg l, hv => by simp only [AV.hok] at hv; simp only [AV.hok, hokL_mono l hv]
  | .tup l, hv => by simp only [AV.hok] at hv; simp only [AV.hok, hokL_mono l hv]
  | .iface t v, hv => by simp only [AV.hok] at hv; simp only [AV.hok, hok_mono v hv]
  | .fn f l, hv => by simp only [AV.hok] at hv; simp only [AV.hok, hokL_mono l hv]
  | .undef, _ => rfl
  | .aggI .., _ => rfl
  | .bool _, _ => rfl
  | .int _ _, _ => rfl
  | .str _, _ => rfl
  | .nilp, _ => rfl
  | .nils, _ => rfl
  | .nili, _ => rfl
  | .nilf, _ => rfl
  | .nilm, _ => rfl
  | .cptr _, _ => rfl
  | .roI _ _, _ => rfl
  | .roB _, _ => rfl
  | .ro _ _, _ => rfl
  | .raw _, _ => rfl
  | .sy k e, hv => by simp only [AV.hok] at hv; exact SE.hok_mono (Nat.zero_le _) hv
termination_by structural v => v
theorem hokL_mono {ρ ρ' : Nat → Option Nat} {n : Nat} : ∀ (l : List AV), hokL 0 ρ l = true → hokL n ρ' l = true
  | [], _ => rfl
  | v :: r, h => by simp only [hokL, Bool.and_eq_true] at h; simp only [hokL, hok_mono v h.1, hokL_mono r h.2, Bool.and_self]
termination_by structural l => l
end
variable {P : Program}
def nor : Nat → Option Nat := fun _ => none
/-- a pure function's contract -/
def Ev (P : Program) (f : Nat) (args : List AV) (v : AV) : Prop := hokL 0 nor (v :: args) = true ∧ Tr P f args ⟨0, []⟩ fun v' s => v' = v ∧ s = ⟨0, []⟩
theorem Ev.call {f : Nat} {args : List AV} {v : AV} {s : St} {K : AV → St → Prop} (h : Ev P f args v) (k : K v s) : Tr P f args s K := by
  obtain ⟨hh, ht⟩ := h
  simp only [hokL, Bool.and_eq_true] at hh
  refine Tr.call [] ht (renL_pure args hh.2).symm (hokL_mono args hh.2) trivial rfl fun v0 s0 ⟨hv, hs⟩ => ?_
  subst hv; subst hs
  rw [ren_pure v0 hh.1]
  cases s
  exact k
/-- a contract whose result does not depend on the state -/
theorem Ev.of {f : Nat} {args : List AV} {v : AV} (h0 : hokL 0 nor (v :: args) = true) (h : Tr P f args ⟨0, []⟩ fun v' s => ∃ v1 s1, Frz v' s v1 s1 ∧ Le v1 v) : Ev P f args v := by
  refine ⟨h0, ?_⟩
  simp only [hokL, Bool.and_eq_true] at h0
  refine Tr.norm (K := fun v' s => v' = v) (Tr.leRes (Tr.freeze h (K' := fun v' s => Le v' v) fun v' s h => ?_) fun v' s h => ?_) fun v' s h => ?_
  · obtain ⟨v1, s1, h1, h2⟩ := h; exact ⟨v1, s1, h1, h2⟩
  · exact ⟨v, h, rfl⟩
  · subst h
    refine ⟨_, _, ?_, rfl, rfl⟩
    refine ⟨[], rfl, rfl, rfl, ⟨⟨?_, hok_mono v' h0.1⟩, trivial⟩, trivial⟩
    show Env.get [(0, v')] 0 = _
    rw [ren_pure v' h0.1]; rfl
theorem Ev.ofTr {f : Nat} {args : List AV} {v : AV} (h0 : hokL 0 nor (v :: args) = true) (h : Tr P f args ⟨0, []⟩ fun v' s => v' = v ∧ s = ⟨0, []⟩) : Ev P f args v := ⟨h0, h⟩
/-- a function that lays more behind a row -/
theorem rowCall {f h len : Nat} {l l' : List Int} {xs : List AV} {s : St} {K : AV → St → Prop}
    (hT : Tr P f (.sl 1 0 0 l.length :: xs) ⟨1, [(0, some (.rowI .u8 l))]⟩ fun v s => v = .sl 1 1 0 l'.length ∧ s = ⟨2, [(1, some (.rowI .u8 l'))]⟩)
    (hx : hokL 0 nor xs = true) (hg : s.get h = some (.rowI .u8 l)) (hl : len = l.length)
    (k : openS s fun n m => K (.sl 1 n 0 l'.length) ⟨n + 1, (n, some (.rowI .u8 l')) :: (h, none) :: m⟩) : Tr P f (.sl 1 h 0 len :: xs) s K := by
  subst hl
  refine Tr.call [(0, some h)] hT ?_ ?_ ?_ rfl fun v0 s0 ⟨hv, hs⟩ => ?_
  · simp only [renL, renL_pure xs hx]; rfl
  · simp only [hokL, hokL_mono xs hx]; rfl
  · exact ⟨⟨trivial, rfl, hg⟩, trivial⟩
  · subst hv; subst hs
    exact k
/-- results of which the first is a row of bytes, the others without handles -/
def Ret1 (row : List Int) (rest : List AV) (v : AV) (s : St) : Prop := v = .tup (.sl 1 0 0 row.length :: rest) ∧ s = ⟨1, [(0, some (.rowI .u8 row))]⟩
theorem Ret1.of {f : Nat} {args : List AV} {row : List Int} {rest : List AV} (h0 : hokL 0 nor rest = true)
    (h : Tr P f args ⟨0, []⟩ fun v s => ∃ v', Le v v' ∧ ((∃ h, v' = .tup (.sl 1 h 0 row.length :: rest) ∧ s.get h = some (.rowI .u8 row)) ∨ (row = [] ∧ v' = .tup (.nils :: rest)))) :
    Tr P f args ⟨0, []⟩ (Ret1 row rest) := by
  refine Tr.norm (K := fun v' s => (∃ h, v' = .tup (.sl 1 h 0 row.length :: rest) ∧ s.get h = some (.rowI .u8 row)) ∨ (row = [] ∧ v' = .tup (.nils :: rest))) (Tr.leRes h fun v s h => h) fun v s h => ?_
  refine ⟨.tup (.sl 1 0 0 row.length :: rest), ⟨1, [(0, some (.rowI .u8 row))]⟩, ?_, rfl, rfl⟩
  rcases h with ⟨h, rfl, hg⟩ | ⟨hr, rfl⟩
  · refine ⟨[(0, some h)], rfl, rfl, rfl, ⟨⟨?_, ?_⟩, trivial⟩, ⟨⟨trivial, rfl, hg⟩, trivial⟩⟩
    · show AV.tup _ = _
      simp only [AV.ren, renL, renL_pure rest h0]; rfl
    · simp only [AV.hok, hokL, hokL_mono rest h0]; rfl
  · subst hr
    refine ⟨[(0, none)], rfl, rfl, rfl, ⟨⟨?_, ?_⟩, trivial⟩, ⟨⟨trivial, rfl, rfl⟩, trivial⟩⟩
    · show AV.tup _ = _
      simp only [AV.ren, renL, renL_pure rest h0]; rfl
    · simp only [AV.hok, hokL, hokL_mono rest h0]; rfl
mutual
theorem frz_pure {h : Nat} {c : Chunk} : ∀ (v : AV), v.hok 0 nor = true → v.frz h c = v
  | .sl e h o n, hv => by simp [AV.hok, Nat.blt] at hv
  | .agg l, hv => by simp only [AV.hok] at hv; simp only [AV.frz, frzL_pure l hv]
  | .tup l, hv => by simp only [AV.hok] at hv; simp only [AV.frz, frzL_pure l hv]
  | .iface t v, hv => by simp only [AV.hok] at hv; simp only [AV.frz, frz_pure v hv]
  | .fn f l, hv => by simp only [AV.hok] at hv; simp only [AV.frz, frzL_pure l hv]
  | .bfn f l, hv => by simp only [AV.hok] at hv; simp only [AV.frz, frzL_pure l hv]
  | .mp _, _ => rfl
  | .ptr _ _, _ => rfl
  | .undef, _ => rfl
  | .aggI .., _ => rfl
  | .bool _, _ => rfl
  | .int _ _, _ => rfl
  | .str _, _ => rfl
  | .nilp, _ => rfl
  | .nils, _ => rfl
  | .nili, _ => rfl
  | .nilf, _ => rfl
  | .nilm, _ => rfl
  | .cptr _, _ => rfl
  | .roI _ _, _ => rfl
  | .roB _, _ => rfl
  | .ro _ _, _ => rfl
  | .raw _, _ => rfl
  | .sy _ _, _ => rfl
termination_by structural v => v
theorem frzL_pure {h : Nat} {c : Chunk} : ∀ (l : List AV), hokL 0 nor l = true → frzL h c l = l
  | [], _ => rfl
  | v :: r, h => by simp only [hokL, Bool.and_eq_true] at h; simp only [frzL, frz_pure v h.1, frzL_pure r h.2]
termination_by structural l => l
end
theorem ble_self (n : Nat) : Nat.ble n n = true := Nat.ble_self_eq_true n
theorem beq_self (n : Nat) : Nat.beq n n = true := Nat.beq_refl n
theorem frzS_all (k : IntKind) (row : List Int) (n : Nat) (h : n = row.length) : frzS (.rowI k row) 1 0 n = some (.roI k row) := by
  subst h
  simp [frzS, ble_self]
theorem frzS_allB (row : List Bool) (n : Nat) (h : n = row.length) : frzS (.rowB row) 1 0 n = some (.roB row) := by
  subst h
  simp [frzS, ble_self]
theorem frz_row (h : Nat) (k : IntKind) (row : List Int) (n : Nat) (hn : n = row.length) : (AV.sl 1 h 0 n).frz h (.rowI k row) = .roI k row := by
  simp only [AV.frz, beq_self, cond_true, frzS_all k row n hn]
theorem frz_rowB (h : Nat) (row : List Bool) (n : Nat) (hn : n = row.length) : (AV.sl 1 h 0 n).frz h (.rowB row) = .roB row := by
  simp only [AV.frz, beq_self, cond_true, frzS_allB row n hn]
/-- its row as a value -/
theorem Ret1.ev {f : Nat} {args : List AV} {row : List Int} {rest : List AV} (h0 : hokL 0 nor (args ++ rest) = true) (h : Tr P f args ⟨0, []⟩ (Ret1 row rest)) : Ev P f args (.tup (.roI .u8 row :: rest)) := by
  have h1 : hokL 0 nor args = true ∧ hokL 0 nor rest = true := by
    generalize args = l at h0
    clear h
    induction l with
    | nil => exact ⟨rfl, h0⟩
    | cons v r ih =>
      simp only [List.cons_append, hokL, Bool.and_eq_true] at h0 ⊢
      exact ⟨⟨h0.1, (ih h0.2).1⟩, (ih h0.2).2⟩
  refine Ev.of (by simp only [hokL, AV.hok, h1.1, h1.2, Bool.and_self]) (h.mono fun v s ⟨hv, hs⟩ => ?_)
  subst hv; subst hs
  refine ⟨_, _, .step _ _ 0 (.rowI .u8 row) _ _ rfl (.refl _ _), ?_⟩
  show Le (AV.tup (frzL 0 (.rowI .u8 row) (_ :: _))) _
  rw [frzL, frz_row 0 .u8 row _ rfl, frzL_pure rest h1.2]
  exact Le.refl _
/-- a row of numbers, as a value -/
theorem Ev.row {f : Nat} {args : List AV} {k : IntKind} {row : List Int} (h0 : hokL 0 nor args = true) (h : Tr P f args ⟨0, []⟩ fun v s => v = .sl 1 0 0 row.length ∧ s = ⟨1, [(0, some (.rowI k row))]⟩) : Ev P f args (.roI k row) := by
  refine Ev.of (by simp only [hokL, AV.hok, h0, Bool.and_self]) (h.mono fun v s ⟨hv, hs⟩ => ?_)
  subst hv; subst hs
  refine ⟨_, _, .step _ _ 0 (.rowI k row) _ _ rfl (.refl _ _), ?_⟩
  rw [frz_row 0 k row _ rfl]
  exact Le.refl _
theorem Ev.rowB {f : Nat} {args : List AV} {row : List Bool} (h0 : hokL 0 nor args = true) (h : Tr P f args ⟨0, []⟩ fun v s => v = .sl 1 0 0 row.length ∧ s = ⟨1, [(0, some (.rowB row))]⟩) : Ev P f args (.roB row) := by
  refine Ev.of (by simp only [hokL, AV.hok, h0, Bool.and_self]) (h.mono fun v s ⟨hv, hs⟩ => ?_)
  subst hv; subst hs
  refine ⟨_, _, .step _ _ 0 (.rowB row) _ _ rfl (.refl _ _), ?_⟩
  rw [frz_rowB 0 row _ rfl]
  exact Le.refl _
theorem Ret1.call {f : Nat} {args : List AV} {row : List Int} {rest : List AV} {s : St} {K : AV → St → Prop} (h : Tr P f args ⟨0, []⟩ (Ret1 row rest)) (h0 : hokL 0 nor args = true) (h1 : hokL 0 nor rest = true)
    (k : openS s fun n m => K (.tup (.sl 1 n 0 row.length :: rest)) ⟨n + 1, (n, some (.rowI .u8 row)) :: m⟩) : Tr P f args s K := by
  refine Tr.call [] h (renL_pure args h0).symm (hokL_mono args h0) trivial rfl fun v0 s0 ⟨hv, hs⟩ => ?_
  subst hv; subst hs
  rw [openS_eq] at k
  have : (AV.tup (.sl 1 0 0 row.length :: rest)).ren (back (rnm []) 0 s.next) = .tup (.sl 1 s.next 0 row.length :: rest) := by
    simp only [AV.ren, renL, renL_pure rest h1]; rfl
  rw [this]
  exact k
/-- a function that lays more behind a row, given another row that nobody writes any more -/
theorem rowCall2 {f h h2 len n : Nat} {l l' m : List Int} {kk : IntKind} {s : St} {K : AV → St → Prop}
    (hT : Tr P f [.sl 1 0 0 l.length, .roI kk m] ⟨1, [(0, some (.rowI .u8 l))]⟩ fun v s => v = .sl 1 1 0 l'.length ∧ s = ⟨2, [(1, some (.rowI .u8 l'))]⟩)
    (hg2 : s.get h2 = some (.rowI kk m)) (hg : s.get h = some (.rowI .u8 l)) (hne : Nat.beq h h2 = false) (hn : n = m.length) (hl : len = l.length)
    (k : openS s fun n t => K (.sl 1 n 0 l'.length) ⟨n + 1, (n, some (.rowI .u8 l')) :: (h, none) :: (h2, none) :: t⟩) : Tr P f [.sl 1 h 0 len, .sl 1 h2 0 n] s K := by
  refine Tr.lend h2 hg2 ?_
  have : frzL h2 (.rowI kk m) [.sl 1 h 0 len, .sl 1 h2 0 n] = [.sl 1 h 0 len, .roI kk m] := by
    simp only [frzL, frz_row h2 kk m n hn]
    simp [AV.frz, hne]
  rw [this]
  refine rowCall hT rfl ?_ hl k
  have hh : h2 ≠ h := fun e => by subst e; rw [beq_self] at hne; cases hne
  show St.get ⟨s.next, (h2, none) :: s.m⟩ h = _
  rw [St.get_cons, if_neg hh]
  exact hg
/-- an argument that is a row that nobody writes any more -/
theorem lend1 {f h n : Nat} {c : Chunk} {v : AV} {xs ys : List AV} {s : St} {K : AV → St → Prop} (hg : s.get h = some c) (hc : frzL h c xs = ys) (ht : Tr P f ys (s.drop h) K) : Tr P f xs s K := Tr.lend h hg (hc ▸ ht)
/-- a result, its rows as values -/
def FrzK (v2 v : AV) (s : St) : Prop := ∃ v1 s1, Frz v s v1 s1 ∧ Le v1 v2
theorem FrzK.le {v2 v : AV} {s : St} (h : Le v v2) : FrzK v2 v s := ⟨v, s, .refl _ _, h⟩
theorem FrzK.step {v2 v : AV} {s : St} (h : Nat) {c : Chunk} (hg : s.get h = some c) (ht : FrzK v2 (v.frz h c) (s.drop h)) : FrzK v2 v s := by
  obtain ⟨v1, s1, h1, h2⟩ := ht
  exact ⟨v1, s1, .step _ _ h c _ _ hg h1, h2⟩
theorem FrzK.ev {P : Program} {f : Nat} {args : List AV} {v : AV} (h0 : hokL 0 nor (v :: args) = true) (h : Tr P f args ⟨0, []⟩ (FrzK v)) : Ev P f args v := Ev.of h0 h
attribute [irreducible] FrzK
end Go.Ab
set_option linter.unusedVariables false
set_option linter.unusedSimpArgs false
set_option autoImplicit false
namespace Go.Ab
def LeC (c c' : Chunk) : Prop := c' = c ∨ (c.isMap = false ∧ c'.isMap = false ∧ c'.size = c.size ∧ ∀ j, j < c.size → Le (c.get j) (c'.get j))
theorem LeC.refl (c : Chunk) : LeC c c := .inl rfl
theorem LeC.size {c c' : Chunk} (h : LeC c c') : c'.size = c.size := by
  rcases h with rfl | ⟨_, _, h, _⟩
  · rfl
  · exact h
theorem crel_le {ι : Iota} {w : World} {M : Nat → Prop} {c c' : Chunk} {b base : Nat} (hl : LeC c c') (h : CRel ι w M c b base) : CRel ι w M c' b base := by
  rcases hl with rfl | ⟨m1, m2, hz, hle⟩
  · exact h
  rw [CRel.not_map (fun l k e => by subst e; cases m1)] at h
  rw [CRel.not_map (fun l k e => by subst e; cases m2)]
  obtain ⟨cs, T, fr, e1, e2, e3, e4⟩ := h
  exact ⟨cs, T, fr, e1, e2, by rw [hz]; exact e3, fun j hj => hle j (by rw [← hz]; exact hj) _ _ _ _ (e4 j (by rw [← hz]; exact hj))⟩
theorem LeL.at : ∀ {l l' : List AV}, LeL l l' → l'.length = l.length ∧ ∀ j, Le (l.getD j .undef) (l'.getD j .undef)
  | [], [], _ => ⟨rfl, fun _ => Le.refl _⟩
  | [], _ :: _, h => h.elim
  | _ :: _, [], h => h.elim
  | a :: l, b :: l', h => by
    obtain ⟨h1, h2⟩ := LeL.at h.2
    refine ⟨by simp [h1], fun j => ?_⟩
    cases j with
    | zero => exact h.1
    | succ j => exact h2 j
theorem LeC.obj {l l' : List AV} (h : LeL l l') : LeC (.obj l) (.obj l') := .inr ⟨rfl, rfl, h.at.1, fun j _ => h.at.2 j⟩
def LeSt (s s' : St) : Prop := s'.next = s.next ∧ ∀ h c', s'.get h = some c' → ∃ c, s.get h = some c ∧ LeC c c'
section
variable {ι : Iota} {s s' : St} {w : World} {M : Nat → Prop}
theorem Rep.le (hR : Rep ι s w M) (hl : LeSt s s') : Rep ι s' w M := by
  refine ⟨fun h hh => hR.fresh h (by rw [← hl.1]; exact hh), fun k c' hc => ?_, fun k k' c1 c2 p p' hc hc' hne hp hp' => ?_, hR.lt, hR.glob⟩
  · obtain ⟨c, hg, hle⟩ := hl.2 k c' hc
    rcases hR.own k c hg with ⟨k1, k2⟩ | ⟨b, base, k1, k2, k3⟩
    · exact .inl ⟨k1, by rw [hle.size, k2]⟩
    · exact .inr ⟨b, base, k1, k2, crel_le hle k3⟩
  · obtain ⟨d1, g1, _⟩ := hl.2 k c1 hc
    obtain ⟨d2, g2, _⟩ := hl.2 k' c2 hc'
    exact hR.inj k k' d1 d2 p p' g1 g2 hne hp hp'
theorem Go.le (hl : LeSt s s') {n0 : Nat} (hn : n0 ≤ s.next) : Go n0 ι s w M ι s' w M :=
  ⟨Nat.le_refl _, rfl, rfl, rfl, fun _ _ _ => rfl, fun _ _ => rfl, fun _ _ h => h, fun _ h _ => h, fun b _ ho => by
    obtain ⟨k, c', base, k1, k2⟩ := ho
    obtain ⟨c, hg, _⟩ := hl.2 k c' k1
    exact ⟨k, c, base, hg, k2⟩, by rw [hl.1]; exact hn, fun _ _ => rfl⟩
/-- a row that nobody writes any more, wherever it is seen -/
def FrzSt (h : Nat) (c : Chunk) (s s' : St) : Prop := s.get h = some c ∧ s'.next = s.next ∧ ∀ k c', s'.get k = some c' → k ≠ h ∧ ∃ c1, s.get k = some c1 ∧ LeC (frzC h c c1) c'
theorem Rep.frzSt {h : Nat} {c : Chunk} (hR : Rep ι s w M) (hl : FrzSt h c s s') : Rep ι s' w (subM ι h M) := by
  obtain ⟨hg, hn, hl⟩ := hl
  refine ⟨fun k hh => hR.fresh k (by rw [← hn]; exact hh), fun k c' hc => ?_, fun k k' c1 c2 p p' hc hc' hne hp hp' => ?_, fun b hb => hR.lt b hb.1, hR.glob.sub fun b hb => hb.1⟩
  · obtain ⟨hne, c1, g1, hle⟩ := hl k c' hc
    rcases hR.own k c1 g1 with ⟨k1, k2⟩ | ⟨b, base, k1, k2, k3⟩
    · exact .inl ⟨k1, by rw [hle.size, frzC_size, k2]⟩
    · exact .inr ⟨b, base, k1, ⟨k2, fun base' hb => hR.inj k h c1 c _ _ g1 hg hne k1 hb rfl⟩, crel_le hle (frz_crel hR hg k3)⟩
  · obtain ⟨_, d1, g1, _⟩ := hl k c1 hc
    obtain ⟨_, d2, g2, _⟩ := hl k' c2 hc'
    exact hR.inj k k' d1 d2 p p' g1 g2 hne hp hp'
theorem Go.frzSt {h : Nat} {c : Chunk} (hl : FrzSt h c s s') {n0 : Nat} (hn : n0 ≤ s.next) : Go n0 ι s w M ι s' w (subM ι h M) :=
  ⟨Nat.le_refl _, rfl, rfl, rfl, fun _ _ _ => rfl, fun _ _ => rfl, fun _ _ hm => hm.1, fun b hm ho => ⟨hm, fun base hb => ho ⟨h, c, base, hl.1, hb⟩⟩, fun b _ ho => by
    obtain ⟨k, c', base, k1, k2⟩ := ho
    obtain ⟨_, c1, g1, _⟩ := hl.2.2 k c' k1
    exact ⟨k, c1, base, g1, k2⟩, by rw [hl.2.1]; exact hn, fun _ _ => rfl⟩
end
section
variable {P : Program}
/-- a result's memory, known less well -/
theorem Tr.leSt {f : Nat} {args : List AV} {s : St} {K K' : AV → St → Prop} (ht : Tr P f args s K) (hk : ∀ v s', K v s' → ∃ s2, LeSt s' s2 ∧ K' v s2) : Tr P f args s K' := by
  unfold Tr at *
  obtain ⟨hb, ht⟩ := ht
  refine ⟨hb, fun ι w M Vs hR hV => Calls.mono (ht ι w M Vs hR hV) fun en w' he => ?_⟩
  obtain ⟨V, ι', M', v, s', rfl, hK, h1, h2, h3⟩ := he
  obtain ⟨s2, hl, hK2⟩ := hk v s' hK
  exact ⟨V, ι', M', v, s2, rfl, hK2, h1, h2.le hl, h3.trans (Go.le hl h3.next) hR.lt⟩
/-- a row frozen wherever it is seen -/
theorem Tr.frzSt {f : Nat} {args : List AV} {s : St} {K K' : AV → St → Prop} (ht : Tr P f args s K) (hk : ∀ v s', K v s' → ∃ h c s2, FrzSt h c s' s2 ∧ K' (v.frz h c) s2) : Tr P f args s K' := by
  unfold Tr at *
  obtain ⟨hb, ht⟩ := ht
  refine ⟨hb, fun ι w M Vs hR hV => Calls.mono (ht ι w M Vs hR hV) fun en w' he => ?_⟩
  obtain ⟨V, ι', M', v, s', rfl, hK, h1, h2, h3⟩ := he
  obtain ⟨h, c, s2, hl, hK2⟩ := hk v s' hK
  exact ⟨V, ι', _, v.frz h c, s2, rfl, hK2, frz_rel h2 hl.1 v V h1, h2.frzSt hl, h3.trans (Go.frzSt hl h3.next) hR.lt⟩
end
end Go.Ab
set_option linter.unusedVariables false
set_option linter.unusedSimpArgs false
set_option autoImplicit false
namespace Go.Ab

section
variable {P : Program}

theorem callF_tr {T : Nat → Nat} {O D : CallX} {n f : Nat} {args : List AV} {t t' : XS} {v : AV} (hm : P.follows .mixedOrders = true) (hO : CallOk P O) (hD : CallOkD P D) (h : callF P T O D n f args t = some (v, t')) {s : St} (hs : eqS t s) :
    Tr P f args s fun v' s' => v' = v ∧ eqS t' s' :=
  callX_sound T hm hO hD n f args t v t' (by rw [← call_eq]; exact h) s hs
theorem eqS_nil : eqS ⟨0, .l⟩ ⟨0, []⟩ := ⟨rfl, fun h => by show none = _; simp only [XS.get, PT.get, PT.getP_l]⟩

/-- no calls are known otherwise -/
def noX : CallX := fun _ _ _ => none
theorem noX_ok : CallOk P noX := fun _ _ _ _ _ h => by cases h
theorem noX_okD : CallOkD P noX := fun _ _ _ _ _ h => by cases h

/-- texts: a call of one text that yields a row of texts -/
def isStrA : AV → Bool
  | .str _ => true
  | _ => false
/-- does a call yield this row? -/
noncomputable def rowIs (r : Option (AV × XS)) (l : List AV) : Bool :=
  match r with
  | some (.sl 1 0 0 n, ⟨1, m⟩) => (match m.get none 0 with
    | some c => Nat.beq n l.length && Nat.beq c.size n && !c.isMap && l.all isStrA && (List.range n).all fun j => eqA' (c.get j) (l.getD j .undef)
    | none => false)
  | _ => false
theorem ren_str {ρ : Nat → Option Nat} : ∀ (l : List AV), l.all isStrA = true → renL ρ l = l
  | [], _ => rfl
  | .str s :: r, h => by
    simp only [List.all_cons, Bool.and_eq_true] at h
    rw [renL, ren_str r h.2]
    simp only [AV.ren]
  | .undef :: r, h => by simp [isStrA] at h
  | .bool _ :: r, h => by simp [isStrA] at h
  | .int _ _ :: r, h => by simp [isStrA] at h
  | .nilp :: r, h => by simp [isStrA] at h
  | .nils :: r, h => by simp [isStrA] at h
  | .nili :: r, h => by simp [isStrA] at h
  | .nilf :: r, h => by simp [isStrA] at h
  | .nilm :: r, h => by simp [isStrA] at h
  | .ptr _ _ :: r, h => by simp [isStrA] at h
  | .cptr _ :: r, h => by simp [isStrA] at h
  | .sl _ _ _ _ :: r, h => by simp [isStrA] at h
  | .roI _ _ :: r, h => by simp [isStrA] at h
  | .roB _ :: r, h => by simp [isStrA] at h
  | .ro _ _ :: r, h => by simp [isStrA] at h
  | .agg _ :: r, h => by simp [isStrA] at h
  | .aggI _ _ _ :: r, h => by simp [isStrA] at h
  | .tup _ :: r, h => by simp [isStrA] at h
  | .iface _ _ :: r, h => by simp [isStrA] at h
  | .fn _ _ :: r, h => by simp [isStrA] at h
  | .mp _ :: r, h => by simp [isStrA] at h
  | .bfn _ _ :: r, h => by simp [isStrA] at h
  | .raw _ :: r, h => by simp [isStrA] at h
  | .sy _ _ :: r, h => by simp [isStrA] at h
theorem row_tr {f : Nat} {c : Str} {l : List AV} {r : Option (AV × XS)} (hr : rowIs r l = true) (h : ∀ v t, r = some (v, t) → Tr P f [.str c] ⟨0, []⟩ fun v' s' => v' = v ∧ eqS t s') (s : St) :
    Tr P f [.str c] s fun v s' => v = .sl 1 s.next 0 l.length ∧ s'.next = s.next + 1 ∧ ∀ k, s'.get k = if k = s.next then some (.obj l) else s.get k := by
  unfold rowIs at hr
  split at hr
  · rename_i n m
    split at hr
    · rename_i ch hg
      simp only [Bool.and_eq_true, Bool.not_eq_true', List.all_eq_true, List.mem_range] at hr
      obtain ⟨⟨⟨⟨h1, h2⟩, h3⟩, h4⟩, h5⟩ := hr
      have h1 := Nat.eq_of_beq_eq_true h1
      have h2 := Nat.eq_of_beq_eq_true h2
      subst h1
      have hT := h _ _ rfl
      -- the row's cells, one by one
      have hle : LeC ch (.obj l) := .inr ⟨h3, rfl, h2.symm, fun j hj => by
        have := eqA'_sound _ _ (h5 j (by omega))
        show Le (ch.get j) (l.getD j .undef)
        rw [this]
        exact .refl _⟩
      have hT2 : Tr P f [.str c] ⟨0, []⟩ fun v' s' => v' = .sl 1 0 0 l.length ∧ s' = ⟨1, [(0, some (.obj l))]⟩ := by
        refine Tr.leSt hT fun v s' hv => ?_
        obtain ⟨rfl, hs⟩ := hv
        refine ⟨⟨1, [(0, some (.obj l))]⟩, ⟨hs.1.symm, fun k c' hk => ?_⟩, rfl, rfl⟩
        rw [St.get_cons] at hk
        split at hk
        · rename_i he
          subst he
          cases hk
          exact ⟨ch, by rw [hs.2]; exact hg, hle⟩
        · cases hk
      refine Tr.call (rn := []) hT2 rfl rfl trivial rfl fun v0 s0' hv => ?_
      obtain ⟨rfl, rfl⟩ := hv
      refine ⟨rfl, by simp [backSt], fun k => ?_⟩
      have hren : renL (back (rnm []) 0 s.next) l = l := ren_str l (by simpa [List.all_eq_true] using h4)
      show St.get ⟨_, (s.next, some (.obj (renL (back (rnm []) 0 s.next) l))) :: s.m⟩ k = _
      rw [hren, St.get_cons]
      by_cases hk : s.next = k
      · subst hk; simp
      · rw [if_neg hk, if_neg fun e => hk e.symm]; rfl
    · cases hr
  · cases hr

/-- a table of rows -/
def strE (a b : Str) : Bool := Nat.beq a.len b.len && Nat.beq a.n b.n
theorem strE_sound {a b : Str} (h : strE a b = true) : a = b := by
  obtain ⟨a, m⟩ := a
  obtain ⟨b, n⟩ := b
  simp only [strE, Bool.and_eq_true] at h
  rw [Nat.eq_of_beq_eq_true h.1, Nat.eq_of_beq_eq_true h.2]
def fldL (s : Str) : List (Str × List AV) → Option (List AV)
  | [] => none
  | p :: r => bif strE p.1 s then some p.2 else fldL s r
theorem fldL_mem {s : Str} {l : List AV} : ∀ {t : List (Str × List AV)}, fldL s t = some l → (s, l) ∈ t
  | [], h => by cases h
  | p :: r, h => by
    unfold fldL at h
    cases hb : strE p.1 s with
    | true =>
      simp only [hb, cond_true, Option.some.injEq] at h
      have := strE_sound hb
      subst h
      subst this
      exact List.mem_cons_self
    | false =>
      simp only [hb, cond_false] at h
      exact List.mem_cons_of_mem _ (fldL_mem h)
/-- calls of one function that are known by a table -/
noncomputable def tabX (f : Nat) (t : List (Str × List AV)) : CallX := fun g args s => bif Nat.beq g f then (match args with
  | [.str b] => (match fldL b t with
    | some l => bif Nat.blt s.next bigN then some (.sl 1 s.next 0 l.length, ⟨Nat.succ s.next, PT.set none s.m s.next (some (.obj l))⟩) else none
    | none => none)
  | _ => none) else none
theorem tabX_ok {f : Nat} {t : List (Str × List AV)} (h : ∀ p ∈ t, ∀ s : St, Tr P f [.str p.1] s fun v s' => v = .sl 1 s.next 0 p.2.length ∧ s'.next = s.next + 1 ∧ ∀ k, s'.get k = if k = s.next then some (.obj p.2) else s.get k) : CallOk P (tabX f t) := by
  intro g args x v x' hx s hs
  unfold tabX at hx
  cases hb : Nat.beq g f with
  | false => simp [hb] at hx
  | true =>
    have := Nat.eq_of_beq_eq_true hb
    subst this
    simp only [hb, cond_true] at hx
    split at hx
    · rename_i b
      split at hx
      · rename_i l hl
        cases hlt : Nat.blt x.next bigN with
        | false => simp [hlt] at hx
        | true =>
          simp only [hlt, cond_true, Option.some.injEq, Prod.mk.injEq] at hx
          obtain ⟨rfl, rfl⟩ := hx
          have hp := h _ (fldL_mem hl) s
          refine hp.mono fun v' s' hv => ?_
          obtain ⟨rfl, h2, h3⟩ := hv
          refine ⟨by rw [hs.1], by rw [h2, hs.1], fun k => ?_⟩
          rw [h3 k]
          show _ = (PT.set none x.m x.next (some (.obj l))).get none k
          rw [PT.get_set20 hlt, hs.1]
          split
          · rfl
          · exact hs.2 k
      · cases hx
    · cases hx

/-! a call from the empty memory, its result printed, as an oracle for the same call in any memory -/
def eqIs : List Int → List Int → Bool
  | [], [] => true
  | a :: l, b :: r => decide (a = b) && eqIs l r
  | _, _ => false
theorem eqIs_sound : ∀ {l r : List Int}, eqIs l r = true → l = r
  | [], [], _ => rfl
  | a :: l, b :: r, h => by
    simp only [eqIs, Bool.and_eq_true, decide_eq_true_eq] at h
    rw [h.1, eqIs_sound h.2]
/-- the same, or nothing is said -/
def leA (a b : AV) : Bool := match b with
  | .undef => true
  | b => eqA' a b
theorem leA_sound {a b : AV} (h : leA a b = true) : Le a b := by
  unfold leA at h
  split at h
  · exact fun ι w M V _ => .undef V
  · rw [eqA'_sound _ _ h]; exact .refl _
def leAs : List AV → List AV → Bool
  | [], [] => true
  | a :: l, b :: r => leA a b && leAs l r
  | _, _ => false
theorem leAs_sound : ∀ {l r : List AV}, leAs l r = true → LeL l r
  | [], [], _ => trivial
  | a :: l, b :: r, h => by
    simp only [leAs, Bool.and_eq_true] at h
    exact ⟨leA_sound h.1, leAs_sound h.2⟩
def cmpL (c : Chunk) : List AV → Nat → Bool
  | [], _ => true
  | x :: r, i => leA (c.get i) x && cmpL c r (Nat.succ i)
theorem cmpL_sound {c : Chunk} : ∀ {l : List AV} {i : Nat}, cmpL c l i = true → ∀ j, j < l.length → Le (c.get (i + j)) (l.getD j .undef)
  | [], _, _, j, hj => by simp at hj
  | x :: r, i, h, j, hj => by
    simp only [cmpL, Bool.and_eq_true] at h
    cases j with
    | zero => exact leA_sound h.1
    | succ j =>
      have := cmpL_sound h.2 j (by simpa using hj)
      rw [show i + (j + 1) = Nat.succ i + j by omega]
      exact this
def chEq (c c' : Chunk) : Bool :=
  match c, c' with
  | .obj l, .obj l' => leAs l l'
  | .rowI k l, .rowI k' l' => decide (k = k') && eqIs l l'
  | .rowB l, .rowB l' => decide (l = l')
  | .map l k, .map l' k' => eqC (.map l k) (.map l' k')
  | .fn n g, .obj l' => Nat.beq n l'.length && cmpL (.fn n g) l' 0
  | .blk n k g, .obj l' => Nat.beq n l'.length && cmpL (.blk n k g) l' 0
  | .rowI k l, .obj l' => Nat.beq l.length l'.length && cmpL (.rowI k l) l' 0
  | .obj l, .rowI k l' => Nat.beq l.length l'.length && cmpL (.obj l) (l'.map fun n => .int k n) 0
  | _, _ => false
theorem chEq_sound {c c' : Chunk} (h : chEq c c' = true) : LeC c c' := by
  have key : ∀ (l' : List AV) (hm : c.isMap = false) (hs : c.size = l'.length), cmpL c l' 0 = true → LeC c (.obj l') := fun l' hm hs h => by
    refine .inr ⟨hm, rfl, hs.symm, fun j hj => ?_⟩
    have := cmpL_sound h j (by omega)
    rw [Nat.zero_add] at this
    exact this
  unfold chEq at h
  split at h
  · exact LeC.obj (leAs_sound h)
  · simp only [Bool.and_eq_true, decide_eq_true_eq] at h
    rw [h.1, eqIs_sound h.2]; exact .refl _
  · simp only [decide_eq_true_eq] at h
    rw [h]; exact .refl _
  · exact .inl (eqC_sound h).symm
  · simp only [Bool.and_eq_true] at h
    exact key _ rfl (Nat.eq_of_beq_eq_true h.1) h.2
  · simp only [Bool.and_eq_true] at h
    exact key _ rfl (Nat.eq_of_beq_eq_true h.1) h.2
  · simp only [Bool.and_eq_true] at h
    exact key _ rfl (Nat.eq_of_beq_eq_true h.1) h.2
  · rename_i l k l'
    simp only [Bool.and_eq_true] at h
    have hl := Nat.eq_of_beq_eq_true h.1
    refine .inr ⟨rfl, rfl, hl.symm, fun j hj => ?_⟩
    have hj' : j < l'.length := by simp only [Chunk.size] at hj; omega
    have := cmpL_sound h.2 j (by simpa using hj')
    rw [Nat.zero_add, mapI_get hj'] at this
    exact this
  · cases h
noncomputable def resIs (r : Option (AV × XS)) (v : AV) (n : Nat) (l : List (Nat × Chunk)) : Bool :=
  match r with
  | some (v', ⟨n', m⟩) => eqA' v' v && Nat.beq n' n && l.all fun p => match m.get none p.1 with
    | some c => chEq c p.2
    | none => false
  | none => false
def shN (N : Nat) : Nat → Option Nat := fun h => some (N + h)
def lookM (N : Nat) : List (Nat × Chunk) → Nat → Option Chunk
  | [], _ => none
  | p :: r, k => if N + p.1 = k then some (p.2.ren (shN N)) else lookM N r k
theorem back_sh (N : Nat) : back (rnm []) 0 N = shN N := by
  funext h
  have : Nat.blt h 0 = false := by simp [Nat.blt, Nat.ble]
  simp [back, shN, this]
theorem stage_tr {f : Nat} {args : List AV} {r : Option (AV × XS)} {v : AV} {n : Nat} {l : List (Nat × Chunk)} (hr : resIs r v n l = true) (ha : renL (rnm []) args = args) (hok : hokL 0 (rnm []) args = true)
    (h : ∀ v t, r = some (v, t) → Tr P f args ⟨0, []⟩ fun v' s' => v' = v ∧ eqS t s') (s : St) :
    Tr P f args s fun v' s' => v' = v.ren (shN s.next) ∧ s'.next = s.next + n ∧ ∀ k, s'.get k = match lookM s.next l k with
      | some c => some c
      | none => s.get k := by
  unfold resIs at hr
  split at hr
  · rename_i v' n' m
    simp only [Bool.and_eq_true, List.all_eq_true] at hr
    obtain ⟨⟨h1, h2⟩, h3⟩ := hr
    have h1 := eqA'_sound _ _ h1
    have h2 := Nat.eq_of_beq_eq_true h2
    subst h1
    subst h2
    have hT2 : Tr P f args ⟨0, []⟩ fun v1 s' => v1 = v' ∧ s' = ⟨n', l.map fun p => (p.1, some p.2)⟩ := by
      refine Tr.leSt (h _ _ rfl) fun v s' hv => ?_
      obtain ⟨rfl, hs⟩ := hv
      refine ⟨_, ⟨hs.1.symm, fun k c' hk => ?_⟩, rfl, rfl⟩
      have hm := mem_get _ _ _ hk
      simp only [List.mem_map] at hm
      obtain ⟨p, hp, he⟩ := hm
      cases he
      have := h3 p hp
      rw [hs.2]
      show ∃ c, m.get none p.1 = some c ∧ _
      split at this
      · rename_i c hc
        exact ⟨c, hc, chEq_sound this⟩
      · cases this
    refine Tr.call (rn := []) hT2 ha.symm hok trivial rfl fun v0 s0' hv => ?_
    obtain ⟨rfl, rfl⟩ := hv
    refine ⟨by show v0.ren (back (rnm []) 0 s.next) = _; rw [back_sh], by simp [backSt], fun k => ?_⟩
    show St.get ⟨_, memRen (back (rnm []) 0 s.next) (l.map fun p => (p.1, some p.2)) ++ s.m⟩ k = _
    rw [back_sh]
    clear h3 hT2 h
    induction l with
    | nil => rfl
    | cons p l ih =>
      show St.get ⟨_, (s.next + p.1, some (p.2.ren (shN s.next))) :: _⟩ k = _
      rw [St.get_cons]
      unfold lookM
      split
      · rfl
      · exact ih
  · cases hr
section
variable {β : Type}
noncomputable def layN (N : Nat) (l : List (Nat × Chunk)) : PT (Option Chunk) → (PT (Option Chunk) → β) → β :=
  List.rec (motive := fun _ => PT (Option Chunk) → (PT (Option Chunk) → β) → β) (fun m K => K m) (fun p _ ih m K => ih m fun m => qC (p.2.ren (shN N)) fun c => (PT.set none m (N + p.1) (some c)).go K) l
end
noncomputable def layM (N : Nat) : List (Nat × Chunk) → PT (Option Chunk) → PT (Option Chunk)
  | [], m => m
  | p :: r, m => PT.set none (layM N r m) (N + p.1) (some (p.2.ren (shN N)))
theorem layN_eq {β : Type} (N : Nat) : ∀ (l : List (Nat × Chunk)) (m : PT (Option Chunk)) (K : PT (Option Chunk) → β), layN N l m K = K (layM N l m)
  | [], m, K => rfl
  | p :: r, m, K => by
    show layN N r m (fun m => qC (p.2.ren (shN N)) fun c => (PT.set none m (N + p.1) (some c)).go K) = _
    rw [layN_eq N r, qC_eq, PT.go_eq]
    rfl
theorem layM_get {N : Nat} : ∀ {l : List (Nat × Chunk)} {m : PT (Option Chunk)}, (∀ p ∈ l, Nat.blt (N + p.1) bigN = true) → ∀ k, (layM N l m).get none k = match lookM N l k with
      | some c => some c
      | none => m.get none k
  | [], m, h, k => rfl
  | p :: r, m, h, k => by
    unfold layM lookM
    rw [PT.get_set20 (h p (by simp))]
    by_cases he : N + p.1 = k
    · subst he; simp
    · rw [if_neg he, if_neg fun e => he e.symm]
      exact layM_get (fun q hq => h q (by simp [hq])) k
/-- the same texts (and other values)? -/
def eqB : List AV → List AV → Bool
  | [], [] => true
  | a :: l, b :: r => eqA' a b && eqB l r
  | _, _ => false
theorem eqB_sound : ∀ {l r : List AV}, eqB l r = true → l = r
  | [], [], _ => rfl
  | a :: l, b :: r, h => by
    simp only [eqB, Bool.and_eq_true] at h
    rw [eqA'_sound _ _ h.1, eqB_sound h.2]
noncomputable def entX (f : Nat) (args : List AV) (v : AV) (n : Nat) (l : List (Nat × Chunk)) : CallX := fun g ar s =>
  bif Nat.beq g f && (eqB ar args && Nat.ble (s.next + n) bigN) then qN (s.next + n) fun n' => qV (v.ren (shN s.next)) fun v => layN s.next l s.m fun m => some (v, ⟨n', m⟩) else none
theorem entX_ok {f : Nat} {args : List AV} {v : AV} {n : Nat} {l : List (Nat × Chunk)} (hl : (l.all fun p => Nat.blt p.1 n) = true)
    (h : ∀ s : St, Tr P f args s fun v' s' => v' = v.ren (shN s.next) ∧ s'.next = s.next + n ∧ ∀ k, s'.get k = match lookM s.next l k with
      | some c => some c
      | none => s.get k) : CallOk P (entX f args v n l) := by
  intro g ar x y x' hx s hs
  unfold entX at hx
  cases hb : (Nat.beq g f && (eqB ar args && Nat.ble (x.next + n) bigN)) with
  | false => rw [hb] at hx; cases hx
  | true =>
    rw [hb] at hx
    simp only [cond_true, qN_eq, qV_eq, layN_eq, Option.some.injEq, Prod.mk.injEq] at hx
    obtain ⟨rfl, rfl⟩ := hx
    simp only [Bool.and_eq_true] at hb
    obtain ⟨h1, h2, h3⟩ := hb
    have h1 := Nat.eq_of_beq_eq_true h1
    have h2 := eqB_sound h2
    have h3 := Nat.le_of_ble_eq_true h3
    subst h1
    subst h2
    refine (h s).mono fun v' s' hv => ?_
    obtain ⟨rfl, k2, k3⟩ := hv
    refine ⟨by rw [hs.1], by rw [k2, hs.1], fun k => ?_⟩
    rw [k3 k]
    show _ = (layM x.next l x.m).get none k
    rw [layM_get (fun p hp => ?_), hs.1]
    · split
      · rfl
      · exact hs.2 k
    · have := List.all_eq_true.1 hl p hp
      simp only [Nat.blt_eq] at this ⊢
      omega
/-- one table, then another -/
noncomputable def orX (A B : CallX) : CallX := fun f a s => Option.casesOn (motive := fun _ => Option (AV × XS)) (A f a s) (B f a s) fun r => some r
theorem orX_ok {A B : CallX} (hA : CallOk P A) (hB : CallOk P B) : CallOk P (orX A B) := by
  intro f a t v t' h s hs
  unfold orX at h
  cases hr : A f a t with
  | none => rw [hr] at h; exact hB f a t v t' h s hs
  | some r =>
    rw [hr] at h
    simp only [Option.some.injEq] at h
    subst h
    exact hA f a t v t' hr s hs
end
end Go.Ab
set_option linter.unusedVariables false
set_option linter.unusedSimpArgs false
set_option autoImplicit false
namespace Go.Ab
section
variable {P : Program}

theorem rec_tr {f : Nat} {fn : Func} {args : List AV} {s : St} {i0 i1 i2 ib r c r' ty ty' : Nat} {X : Code} {p1 p2 p3 : String} {t1 t2 t3 : Nat}
    (hf : P.funcs[f]? = some fn)
    (hb : fn.body = some (.seq (.region i0 #[{ dst := some r, op := .call { callee := .builtin .recover, args := #[], argTypes := #[] }, type := t1, pos := p1, after := #[], guard := none }] false)
      (.block ib (.seq (.region i1 #[{ dst := some c, op := .binOp .eql ty (.tmp r) (.const .nilIface) ty', type := t2, pos := p2, after := #[], guard := none }] false)
        (.cond (.tmp c) (.region i2 #[{ dst := some r', op := .assign (.tmp r), type := t3, pos := p3, after := #[], guard := none }] false) X)))))
    (hr : fn.results = #[]) (hB : hasBody P f = true) (h1 : r < fn.ntmps) (h2 : c < fn.ntmps) (hrc : r ≠ c)
    (hq1 : ∀ w, Sem.run P (eqGuard .eql ty (.tmp r) (.const .nilIface) .nilIface .nilIface) w = .ok () w) (hq2 : ∀ w, Sem.run P (binOp .eql ty .nilIface .nilIface) w = .ok (.bool true) w) : TrD P f args s fun s' => s' = s := by
  refine ⟨hB, fun ι w M Vs hR hV => ?_⟩
  refine callsD_of_wpS hf hb fun c₀ cs hm => ?_
  refine wpS_seq (wpS_region ?_)
  have hrec : recoverD (c₀ :: cs) = none := by simp [recoverD, hm]
  simp [wpOpsS, Region.wanted, execOp, hrec, Act.put, Exit.thenS]
  refine wpS_of_wp (wp_block (wp_seq (wp_region_list ?_)))
  have hl : ∀ (Q : Exit → Act → World → Prop) (a : Act) (o : Oper) (v : Value), o.guard = none → (execOp a.eval o).run P w = .ok (.value v) w → Q .normal (a.put o.dst v) w → wpList P #[o] Q #[o].toList a w := by
    intro Q a o v hg he hk
    show wpList P #[o] Q [o] a w
    rw [wpList, if_pos (by simp [Region.wanted, hg])]
    left
    unfold Oper.wp
    rw [he]
    exact hk
  have hge : ∀ (Vs : Array Value) (n : Nat), n < fn.ntmps → n < (Vs ++ Array.replicate (fn.ntmps - Vs.size) undef).size := by
    intro Vs n h; simp; omega
  refine hl _ _ _ (.bool true) rfl ?_ ?_
  · have := hge Vs r h1
    simp only [Array.size_append, Array.size_replicate] at this
    simp [execOp, Act.eval, this, hq1, hq2]
  refine wp_cond (t := true) ?_ (wp_region_list (hl _ _ _ .nilIface rfl ?_ ?_))
  · have := hge Vs c h2
    simp [Act.eval, Act.put]
    intro h
    simp at this
    omega
  · have := hge Vs r h1
    simp only [Array.size_append, Array.size_replicate] at this
    simp [execOp, Act.eval, Act.put, Array.getElem?_setIfInBounds, hrc, hrc.symm, this]
  · simp only [Exit.inBlock, bodyPostS, Act.put]
    refine ⟨trivial, .returning, by rw [← hm], ?_⟩
    refine ⟨.tuple #[], ?_, ?_⟩
    · rw [results_eq, hr]
      simp
    · exact ⟨⟨_, rfl⟩, rfl, ι, M, hR, Go.refl ι s w M (Nat.le_refl _)⟩
end
theorem TrD.mono {P : Program} {f : Nat} {args : List AV} {s : St} {K K' : St → Prop} (h : TrD P f args s K) (hk : ∀ s, K s → K' s) : TrD P f args s K' :=
  ⟨h.1, fun ι w M Vs hR hV => CallsD.mono (h.2 ι w M Vs hR hV) fun e u w' hh => let ⟨V, ι', M', s', h1, h2, h3, h4⟩ := hh; ⟨V, ι', M', s', h1, h2, hk _ h3, h4⟩⟩
def restOf (fn : Func) : Code := match fn.body with
  | some (.seq _ (.block _ (.seq _ (.cond _ _ X)))) => X
  | _ => .skip
end Go.Ab
namespace Go.Proofs.YtaafinlbepaboaaGreatDoor
open Go.Ab Go.Proofs
theorem d41 {args : List AV} {s : St} : TrD Tryz.prog 41 args s fun s' => s' = s :=
  rec_tr (fn := Tryz.f41) (X := restOf Tryz.f41) (i0 := 0) (i1 := 3) (i2 := 4) (ib := 0) (r := 6) (c := 8) (r' := 3) (ty := 20) (ty' := 20) (t1 := 20) (t2 := 4) (t3 := 20) (p1 := "plc.go:172") (p2 := "plc.go:172") (p3 := "plc.go:172")
    (by kernel_rfl) (by kernel_rfl) (by kernel_rfl) (by kernel_rfl) (by decide) (by decide) (by decide) (fun w => by kernel_rfl) (fun w => by kernel_rfl)
theorem d241 {args : List AV} {s : St} : TrD Tryz.prog 241 args s fun s' => s' = s :=
  rec_tr (fn := Tryz.f241) (X := restOf Tryz.f241) (i0 := 0) (i1 := 3) (i2 := 4) (ib := 0) (r := 4) (c := 6) (r' := 1) (ty := 20) (ty' := 20) (t1 := 20) (t2 := 4) (t3 := 20) (p1 := "parse.go:26") (p2 := "parse.go:26") (p3 := "parse.go:26")
    (by kernel_rfl) (by kernel_rfl) (by kernel_rfl) (by kernel_rfl) (by decide) (by decide) (by decide) (fun w => by kernel_rfl) (fun w => by kernel_rfl)
theorem d296 {args : List AV} {s : St} : TrD Tryz.prog 296 args s fun s' => s' = s :=
  rec_tr (fn := Tryz.f296) (X := restOf Tryz.f296) (i0 := 0) (i1 := 3) (i2 := 4) (ib := 0) (r := 4) (c := 6) (r' := 1) (ty := 20) (ty' := 20) (t1 := 20) (t2 := 4) (t3 := 20) (p1 := "check.go:23") (p2 := "check.go:23") (p3 := "check.go:23")
    (by kernel_rfl) (by kernel_rfl) (by kernel_rfl) (by kernel_rfl) (by decide) (by decide) (by decide) (fun w => by kernel_rfl) (fun w => by kernel_rfl)
/-- the deferred functions that look for a panic -/
def D0 : CallX := fun f _ s => bif Nat.beq f 41 || Nat.beq f 241 || Nat.beq f 296 then some (.tup [], s) else none
theorem D0_ok : CallOkD Tryz.prog D0 := by
  intro f args t v t' h s hs
  unfold D0 at h
  cases hb : (Nat.beq f 41 || Nat.beq f 241 || Nat.beq f 296) with
  | false => rw [hb] at h; cases h
  | true =>
    rw [hb] at h
    simp only [cond_true, Option.some.injEq, Prod.mk.injEq] at h
    obtain ⟨-, rfl⟩ := h
    simp only [Bool.or_eq_true] at hb
    rcases hb with (hb | hb) | hb <;> (have := Nat.eq_of_beq_eq_true hb; subst this)
    · exact d41.mono fun s' h => h ▸ hs
    · exact d241.mono fun s' h => h ▸ hs
    · exact d296.mono fun s' h => h ▸ hs
end Go.Proofs.YtaafinlbepaboaaGreatDoor
set_option linter.unusedVariables false
set_option linter.unusedSimpArgs false
set_option autoImplicit false
namespace Go.Ab

section
variable {P : Program}
abbrev bk (n0 N : Nat) : Nat → Option Nat := back (rnm []) n0 N
def memL (l : List (Nat × Chunk)) : Mem := l.map fun p => (p.1, some p.2)
noncomputable def preM : List (Nat × Chunk) → PT (Option Chunk) → PT (Option Chunk)
  | [], m => m
  | p :: r, m => PT.set none (preM r m) p.1 (some p.2)
section
variable {β : Type}
noncomputable def preN (l : List (Nat × Chunk)) : PT (Option Chunk) → (PT (Option Chunk) → β) → β :=
  List.rec (motive := fun _ => PT (Option Chunk) → (PT (Option Chunk) → β) → β) (fun m K => K m) (fun p _ ih m K => ih m fun m => qC p.2 fun c => (PT.set none m p.1 (some c)).go K) l
theorem preN_eq : ∀ (l : List (Nat × Chunk)) (m : PT (Option Chunk)) (K : PT (Option Chunk) → β), preN l m K = K (preM l m)
  | [], m, K => rfl
  | p :: r, m, K => by
    show preN r m (fun m => qC p.2 fun c => (PT.set none m p.1 (some c)).go K) = _
    rw [preN_eq r, qC_eq, PT.go_eq]
    rfl
end
theorem preM_eqS {n : Nat} : ∀ {l : List (Nat × Chunk)}, (l.all fun p => Nat.blt p.1 bigN) = true → eqS ⟨n, preM l .l⟩ ⟨n, memL l⟩
  | [], _ => ⟨rfl, fun h => by show none = _; simp only [preM, XS.get, PT.get, PT.getP_l]⟩
  | p :: r, h => by
    simp only [List.all_cons, Bool.and_eq_true] at h
    refine ⟨rfl, fun k => ?_⟩
    have ih := (preM_eqS (n := n) h.2).2 k
    show St.get ⟨n, (p.1, some p.2) :: memL r⟩ k = (PT.set none (preM r .l) p.1 (some p.2)).get none k
    rw [St.get_cons, PT.get_set20 h.1]
    by_cases he : p.1 = k
    · subst he; simp
    · rw [if_neg he, if_neg fun e => he e.symm]; exact ih
/-- are all handles known, and does the empty renaming change nothing? -/
def hokC (n : Nat) : Chunk → Bool
  | .obj l => hokL n (rnm []) l
  | .rowI _ _ => true
  | .rowB _ => true
  | .map l _ => l.all fun x => x.1.hok n (rnm []) && x.2.1.hok n (rnm [])
  | _ => false
def preOk (n0 : Nat) (l : List (Nat × Chunk)) : Bool := l.all fun p => Nat.blt p.1 n0 && (hokC n0 p.2 && eqC (p.2.ren (rnm [])) p.2)
theorem preOk_sub {n0 : Nat} {s : St} : ∀ {l : List (Nat × Chunk)}, preOk n0 l = true → (∀ p ∈ l, s.get p.1 = some p.2) → memSub (rnm []) n0 s (memL l)
  | [], _, _ => trivial
  | p :: r, h, hs => by
    simp only [preOk, List.all_cons, Bool.and_eq_true] at h
    obtain ⟨⟨h1, h2, h3⟩, h4⟩ := h
    refine ⟨⟨?_, h1, ?_⟩, preOk_sub (by simpa only [preOk] using h4) fun q hq => hs q (by simp [hq])⟩
    · obtain ⟨k, c⟩ := p
      cases c <;> simp only [hokC, Bool.false_eq_true, List.all_eq_true, Bool.and_eq_true] at h2 <;> first | exact h2 | trivial
    · show s.get p.1 = some (p.2.ren (rnm []))
      rw [eqC_sound h3]
      exact hs p (by simp)
def lookB (n0 N : Nat) : List (Nat × Chunk) → Nat → Option Chunk
  | [], _ => none
  | p :: r, k => if (bif Nat.blt p.1 n0 then p.1 else N + (p.1 - n0)) = k then some (p.2.ren (bk n0 N)) else lookB n0 N r k
theorem liveOf_memL : ∀ (l : List (Nat × Chunk)), liveOf (rnm []) (memL l) = l.map (·.1)
  | [] => rfl
  | p :: r => by
    show p.1 :: liveOf (rnm []) (memL r) = _
    rw [liveOf_memL r]; rfl
theorem memRen_cons {ρ : Nat → Option Nat} {a b : Nat} {c : Chunk} {M : Mem} (h : ρ a = some b) : memRen ρ ((a, some c) :: M) = (b, some (c.ren ρ)) :: memRen ρ M := by
  simp only [memRen, h, Option.map_some]
theorem dropL_get' : ∀ (l : List Nat) (n : Nat) (m : Mem) (k : Nat), St.get ⟨n, dropL l m⟩ k = if k ∈ l then none else St.get ⟨n, m⟩ k
  | [], n, m, k => by simp [dropL]
  | a :: r, n, m, k => by
    show St.get ⟨n, (a, none) :: dropL r m⟩ k = _
    rw [St.get_cons, dropL_get' r]
    by_cases h : a = k
    · subst h; simp
    · have h' : ¬ k = a := fun e => h e.symm
      simp only [if_neg h, List.mem_cons, h', false_or]
theorem stageS_tr {f n0 : Nat} {args : List AV} {pre post : List (Nat × Chunk)} {r : Option (AV × XS)} {v : AV} {n : Nat} (hr : resIs r v n post = true) (ha : renL (rnm []) args = args) (hok : hokL n0 (rnm []) args = true)
    (hp : preOk n0 pre = true) (hd : nodupN (pre.map (·.1)) = true)
    (h : ∀ v t, r = some (v, t) → Tr P f args ⟨n0, memL pre⟩ fun v' s' => v' = v ∧ eqS t s') (s : St) (hs : ∀ p ∈ pre, s.get p.1 = some p.2) :
    Tr P f args s fun v' s' => v' = v.ren (bk n0 s.next) ∧ s'.next = s.next + (n - n0) ∧ ∀ k, s'.get k = match lookB n0 s.next post k with
      | some c => some c
      | none => if k ∈ pre.map (·.1) then none else s.get k := by
  unfold resIs at hr
  split at hr
  · rename_i v' n' m
    simp only [Bool.and_eq_true, List.all_eq_true] at hr
    obtain ⟨⟨h1, h2⟩, h3⟩ := hr
    have h1 := eqA'_sound _ _ h1
    have h2 := Nat.eq_of_beq_eq_true h2
    subst h1
    subst h2
    have hT2 : Tr P f args ⟨n0, memL pre⟩ fun v1 s' => v1 = v' ∧ s' = ⟨n', memL post⟩ := by
      refine Tr.leSt (h _ _ rfl) fun v s' hv => ?_
      obtain ⟨rfl, hs⟩ := hv
      refine ⟨_, ⟨hs.1.symm, fun k c' hk => ?_⟩, rfl, rfl⟩
      have hm := mem_get _ _ _ hk
      simp only [memL, List.mem_map] at hm
      obtain ⟨p, hp, he⟩ := hm
      cases he
      have := h3 p hp
      rw [hs.2]
      show ∃ c, m.get none p.1 = some c ∧ _
      split at this
      · rename_i c hc
        exact ⟨c, hc, chEq_sound this⟩
      · cases this
    refine Tr.call (rn := []) hT2 ha.symm hok (preOk_sub hp hs) (by rw [liveOf_memL]; exact hd) fun v0 s0' hv => ?_
    obtain ⟨rfl, rfl⟩ := hv
    refine ⟨rfl, rfl, fun k => ?_⟩
    show St.get ⟨_, memRen (bk n0 s.next) (memL post) ++ dropL (liveOf (rnm []) (memL pre)) s.m⟩ k = _
    rw [liveOf_memL]
    clear h3 hT2 h
    induction post with
    | nil => exact dropL_get' _ _ _ _
    | cons p l ih =>
      unfold lookB
      have hb : bk n0 s.next p.1 = some (bif Nat.blt p.1 n0 then p.1 else s.next + (p.1 - n0)) := by
        show back (rnm []) n0 s.next p.1 = _
        unfold back
        cases Nat.blt p.1 n0 <;> rfl
      have hm : memRen (bk n0 s.next) (memL (p :: l)) = ((bif Nat.blt p.1 n0 then p.1 else s.next + (p.1 - n0)), some (p.2.ren (bk n0 s.next))) :: memRen (bk n0 s.next) (memL l) := by
        exact memRen_cons hb
      rw [hm]
      show St.get ⟨_, _ :: _⟩ k = _
      rw [St.get_cons]
      split
      · rfl
      · exact ih
  · cases hr
section
variable {β : Type}
/-- chunks go -/
noncomputable def dropN (l : List (Nat × Chunk)) : PT (Option Chunk) → (PT (Option Chunk) → β) → β :=
  List.rec (motive := fun _ => PT (Option Chunk) → (PT (Option Chunk) → β) → β) (fun m K => K m) (fun p _ ih m K => ih m fun m => (PT.set none m p.1 none).go K) l
noncomputable def layB (n0 N : Nat) (l : List (Nat × Chunk)) : PT (Option Chunk) → (PT (Option Chunk) → β) → β :=
  List.rec (motive := fun _ => PT (Option Chunk) → (PT (Option Chunk) → β) → β) (fun m K => K m) (fun p _ ih m K => ih m fun m => qC (p.2.ren (bk n0 N)) fun c => (PT.set none m (bif Nat.blt p.1 n0 then p.1 else N + (p.1 - n0)) (some c)).go K) l
end
noncomputable def dropM : List (Nat × Chunk) → PT (Option Chunk) → PT (Option Chunk)
  | [], m => m
  | p :: r, m => PT.set none (dropM r m) p.1 none
noncomputable def layBM (n0 N : Nat) : List (Nat × Chunk) → PT (Option Chunk) → PT (Option Chunk)
  | [], m => m
  | p :: r, m => PT.set none (layBM n0 N r m) (bif Nat.blt p.1 n0 then p.1 else N + (p.1 - n0)) (some (p.2.ren (bk n0 N)))
theorem dropN_eq {β : Type} : ∀ (l : List (Nat × Chunk)) (m : PT (Option Chunk)) (K : PT (Option Chunk) → β), dropN l m K = K (dropM l m)
  | [], m, K => rfl
  | p :: r, m, K => by
    show dropN r m (fun m => (PT.set none m p.1 none).go K) = _
    rw [dropN_eq r, PT.go_eq]
    rfl
theorem layB_eq {β : Type} (n0 N : Nat) : ∀ (l : List (Nat × Chunk)) (m : PT (Option Chunk)) (K : PT (Option Chunk) → β), layB n0 N l m K = K (layBM n0 N l m)
  | [], m, K => rfl
  | p :: r, m, K => by
    show layB n0 N r m (fun m => qC (p.2.ren (bk n0 N)) fun c => (PT.set none m (bif Nat.blt p.1 n0 then p.1 else N + (p.1 - n0)) (some c)).go K) = _
    rw [layB_eq n0 N r, qC_eq, PT.go_eq]
    rfl
theorem dropM_get : ∀ {l : List (Nat × Chunk)} {m : PT (Option Chunk)}, (∀ p ∈ l, Nat.blt p.1 bigN = true) → ∀ k, (dropM l m).get none k = if k ∈ l.map (·.1) then none else m.get none k
  | [], m, h, k => by simp [dropM]
  | p :: r, m, h, k => by
    unfold dropM
    rw [PT.get_set20 (h p (by simp)), dropM_get (fun q hq => h q (by simp [hq]))]
    simp only [List.map_cons, List.mem_cons]
    by_cases he : k = p.1
    · simp [he]
    · simp only [he, if_false, false_or]
theorem layBM_get {n0 N : Nat} : ∀ {l : List (Nat × Chunk)} {m : PT (Option Chunk)}, (∀ p ∈ l, Nat.blt (bif Nat.blt p.1 n0 then p.1 else N + (p.1 - n0)) bigN = true) → ∀ k, (layBM n0 N l m).get none k = match lookB n0 N l k with
      | some c => some c
      | none => m.get none k
  | [], m, h, k => rfl
  | p :: r, m, h, k => by
    unfold layBM lookB
    rw [PT.get_set20 (h p (by simp))]
    by_cases he : (bif Nat.blt p.1 n0 then p.1 else N + (p.1 - n0)) = k
    · rw [if_pos he, if_pos he.symm]
    · rw [if_neg he, if_neg fun e => he e.symm]
      exact layBM_get (fun q hq => h q (by simp [hq])) k
/-- is this known? -/
noncomputable def sees (pre : List (Nat × Chunk)) (m : PT (Option Chunk)) : Bool := pre.all fun p => match m.get none p.1 with
  | some c => eqC c p.2
  | none => false
noncomputable def entS (f n0 : Nat) (args : List AV) (pre : List (Nat × Chunk)) (v : AV) (n : Nat) (post : List (Nat × Chunk)) : CallX := fun g ar s =>
  bif Nat.beq g f && (eqB ar args && (Nat.ble (s.next + n) bigN && sees pre s.m)) then qN (s.next + (n - n0)) fun n' => qV (v.ren (bk n0 s.next)) fun v => dropN pre s.m fun m => layB n0 s.next post m fun m => some (v, ⟨n', m⟩) else none
theorem entS_ok {f n0 : Nat} {args : List AV} {pre post : List (Nat × Chunk)} {v : AV} {n : Nat} (hl : (post.all fun p => Nat.blt p.1 n) = true) (hl2 : (pre.all fun p => Nat.blt p.1 n) = true)
    (h : ∀ s : St, (∀ p ∈ pre, s.get p.1 = some p.2) → Tr P f args s fun v' s' => v' = v.ren (bk n0 s.next) ∧ s'.next = s.next + (n - n0) ∧ ∀ k, s'.get k = match lookB n0 s.next post k with
      | some c => some c
      | none => if k ∈ pre.map (·.1) then none else s.get k) : CallOk P (entS f n0 args pre v n post) := by
  intro g ar x y x' hx s hs
  unfold entS at hx
  cases hb : (Nat.beq g f && (eqB ar args && (Nat.ble (x.next + n) bigN && sees pre x.m))) with
  | false => rw [hb] at hx; cases hx
  | true =>
    rw [hb] at hx
    simp only [cond_true, qN_eq, qV_eq, dropN_eq, layB_eq, Option.some.injEq, Prod.mk.injEq] at hx
    obtain ⟨rfl, rfl⟩ := hx
    simp only [Bool.and_eq_true] at hb
    obtain ⟨h1, h2, h3, h4⟩ := hb
    have h1 := Nat.eq_of_beq_eq_true h1
    have h2 := eqB_sound h2
    have h3 := Nat.le_of_ble_eq_true h3
    subst h1
    subst h2
    refine (h s fun p hp => ?_).mono fun v' s' hv => ?_
    · have := List.all_eq_true.1 h4 p hp
      rw [hs.2]
      show x.m.get none p.1 = _
      split at this
      · rename_i c hc
        rw [hc, eqC_sound this]
      · cases this
    obtain ⟨rfl, k2, k3⟩ := hv
    refine ⟨by rw [hs.1], by rw [k2, hs.1], fun k => ?_⟩
    rw [k3 k]
    show _ = (layBM n0 x.next post (dropM pre x.m)).get none k
    rw [layBM_get (fun p hp => ?_), hs.1, dropM_get fun p hp => ?_]
    · split
      · rfl
      · split
        · rfl
        · exact hs.2 k
    · have := List.all_eq_true.1 hl2 p hp
      simp only [Nat.blt_eq] at this ⊢
      omega
    · have := List.all_eq_true.1 hl p hp
      simp only [Nat.blt_eq] at this ⊢
      cases hb : Nat.blt p.1 n0 with
      | true => simp only [cond_true]; omega
      | false => simp only [cond_false]; omega
end
end Go.Ab
set_option linter.unusedVariables false
set_option linter.unusedSimpArgs false
set_option autoImplicit false
namespace Go.Ab

section
variable {P : Program}
/-- plain: no handle -/
def isP : AV → Bool
  | .bool _ => true
  | .int _ _ => true
  | .str _ => true
  | .nili => true
  | .nils => true
  | .nilp => true
  | _ => false
def isPT : AV → Bool
  | .tup l => l.all isP
  | v => isP v
theorem isP_ren {ρ : Nat → Option Nat} {v : AV} (h : isP v = true) : v.ren ρ = v := by
  cases v <;> simp only [isP, Bool.false_eq_true] at h <;> simp only [AV.ren]
theorem isPL_ren {ρ : Nat → Option Nat} : ∀ {l : List AV}, l.all isP = true → renL ρ l = l
  | [], _ => rfl
  | v :: r, h => by
    simp only [List.all_cons, Bool.and_eq_true] at h
    rw [renL, isP_ren h.1, isPL_ren h.2]
theorem isPT_ren {ρ : Nat → Option Nat} {v : AV} (h : isPT v = true) : v.ren ρ = v := by
  cases v with
  | tup l => rw [AV.ren, isPL_ren (by exact h)]
  | _ => exact isP_ren h
theorem isP_hok {n : Nat} {ρ : Nat → Option Nat} : ∀ {l : List AV}, l.all isP = true → hokL n ρ l = true
  | [], _ => rfl
  | v :: r, h => by
    simp only [List.all_cons, Bool.and_eq_true] at h
    rw [hokL, isP_hok h.2, Bool.and_true]
    have h := h.1
    cases v <;> simp only [isP, Bool.false_eq_true] at h <;> simp only [AV.hok]
abbrev TabT := List (List AV × AV × Nat)
/-- does a machine agree with a table? -/
noncomputable def tabIs (C : CallX) (f : Nat) (t : TabT) : Bool := t.all fun p => p.1.all isP && (isPT p.2.1 && resIs (C f p.1 ⟨0, .l⟩) p.2.1 p.2.2 [])
def findT (ar : List AV) : TabT → Option (AV × Nat)
  | [] => none
  | p :: r => bif eqB ar p.1 then some p.2 else findT ar r
theorem findT_mem {ar : List AV} {x : AV × Nat} : ∀ {t : TabT}, findT ar t = some x → (ar, x) ∈ t
  | [], h => by cases h
  | p :: r, h => by
    unfold findT at h
    cases hb : eqB ar p.1 with
    | true =>
      simp only [hb, cond_true, Option.some.injEq] at h
      have := eqB_sound hb
      subst h
      subst this
      exact List.mem_cons_self
    | false =>
      simp only [hb, cond_false] at h
      exact List.mem_cons_of_mem _ (findT_mem h)
noncomputable def tabE (f : Nat) (t : TabT) : CallX := fun g ar s => bif Nat.beq g f then (match findT ar t with
  | some x => qN (s.next + x.2) fun n' => some (x.1, ⟨n', s.m⟩)
  | none => none) else none
theorem tabE_ok {C : CallX} {f : Nat} {t : TabT} (hC : CallOk P C) (h : tabIs C f t = true) : CallOk P (tabE f t) := by
  intro g ar x y x' hx s hs
  unfold tabE at hx
  cases hb : Nat.beq g f with
  | false => rw [hb] at hx; cases hx
  | true =>
    have := Nat.eq_of_beq_eq_true hb
    subst this
    rw [hb] at hx
    simp only [cond_true] at hx
    split at hx
    · rename_i z hz
      simp only [qN_eq, Option.some.injEq, Prod.mk.injEq] at hx
      obtain ⟨rfl, rfl⟩ := hx
      have hm := List.all_eq_true.1 h _ (findT_mem hz)
      simp only [Bool.and_eq_true] at hm
      obtain ⟨h1, h2, h3⟩ := hm
      refine (stage_tr h3 (isPL_ren h1) (isP_hok h1) (fun v t ht => hC _ _ _ _ _ ht _ eqS_nil) s).mono fun v' s' hv => ?_
      obtain ⟨rfl, k2, k3⟩ := hv
      refine ⟨isPT_ren h2, by rw [k2, hs.1], fun k => ?_⟩
      rw [k3 k]
      exact hs.2 k
    · cases hx
end
end Go.Ab
set_option linter.unusedVariables false
set_option linter.unusedSimpArgs false
set_option autoImplicit false
namespace Go.Ab

/-- handles and the numbers that they stand for -/
abbrev Gh := List (Nat × Int)
def Gh.val : Gh → Nat → Int
  | [], _ => 0
  | p :: r, h => bif Nat.beq p.1 h then p.2 else Gh.val r h
def Gh.has : Gh → Nat → Bool
  | [], _ => false
  | p :: r, h => Nat.beq p.1 h || Gh.has r h
def SE.okg (G : Gh) : SE → Bool
  | .x h => G.has h
  | .c _ => true
  | .bin _ _ a b => a.okg G && b.okg G
  | .wr _ a => a.okg G
mutual
/-- a value with the numbers in their places -/
def AV.val (g : Nat → Int) : AV → AV
  | .sy k e => .int k (e.ev g)
  | .agg l => .agg (valL g l)
  | .tup l => .tup (valL g l)
  | .iface t v => .iface t (AV.val g v)
  | .fn f l => .fn f (valL g l)
  | .bfn f l => .bfn f (valL g l)
  | .mp h => .mp h
  | .ptr h o => .ptr h o
  | .sl e h o n => .sl e h o n
  | .undef => .undef
  | .aggI n k g => .aggI n k g
  | .bool b => .bool b
  | .int k n => .int k n
  | .str s => .str s
  | .nilp => .nilp
  | .nils => .nils
  | .nili => .nili
  | .nilf => .nilf
  | .nilm => .nilm
  | .cptr v => .cptr v
  | .roI k l => .roI k l
  | .roB l => .roB l
  | .ro e l => .ro e l
  | .raw v => .raw v
termination_by structural v => v
def valL (g : Nat → Int) : List AV → List AV
  | [] => []
  | v :: r => AV.val g v :: valL g r
termination_by structural l => l
end
mutual
/-- these handles stand for numbers alone -/
def AV.okg (G : Gh) : AV → Bool
  | .sy _ e => e.okg G
  | .agg l => okgL G l
  | .tup l => okgL G l
  | .iface _ v => AV.okg G v
  | .fn _ l => okgL G l
  | .bfn _ l => okgL G l
  | .mp h => !G.has h
  | .ptr h _ => !G.has h
  | .sl _ h _ _ => !G.has h
  | .undef => true
  | .aggI .. => true
  | .bool _ => true
  | .int _ _ => true
  | .str _ => true
  | .nilp => true
  | .nils => true
  | .nili => true
  | .nilf => true
  | .nilm => true
  | .cptr _ => true
  | .roI _ _ => true
  | .roB _ => true
  | .ro _ _ => true
  | .raw _ => true
termination_by structural v => v
def okgL (G : Gh) : List AV → Bool
  | [] => true
  | v :: r => AV.okg G v && okgL G r
termination_by structural l => l
end
def Chunk.val (g : Nat → Int) : Chunk → Chunk
  | .obj l => .obj (valL g l)
  | .fn n f => .fn n fun j => (f j).val g
  | .rowI k l => .rowI k l
  | .rowB l => .rowB l
  | .blk n k g => .blk n k g
  | .map l clk => .map (l.map fun x => (x.1.val g, x.2.1.val g, x.2.2)) clk
def Chunk.okg (G : Gh) : Chunk → Prop
  | .obj l => okgL G l = true
  | .fn m f => ∀ j, j < m → (f j).okg G = true
  | .rowI _ _ => True
  | .rowB _ => True
  | .blk .. => True
  | .map l _ => ∀ x ∈ l, x.1.okg G = true ∧ x.2.1.okg G = true
def St.val (g : Nat → Int) (s : St) : St := ⟨s.next, s.m.map fun p => (p.1, p.2.map (Chunk.val g))⟩
def St.okg (G : Gh) (s : St) : Prop := ∀ h c, s.get h = some c → G.has h = false ∧ c.okg G
theorem St.val_get (g : Nat → Int) (s : St) (h : Nat) : (s.val g).get h = (s.get h).map (Chunk.val g) := by
  obtain ⟨n, m⟩ := s
  show Mem.get (m.map fun p => (p.1, p.2.map (Chunk.val g))) h = (Mem.get m h).map (Chunk.val g)
  induction m with
  | nil => rfl
  | cons p r ih =>
    obtain ⟨k, c⟩ := p
    rw [List.map_cons, Mem.get_cons, Mem.get_cons]
    by_cases he : k = h
    · rw [if_pos he, if_pos he]
    · rw [if_neg he, if_neg he]; exact ih
theorem valL_length (g : Nat → Int) : ∀ l : List AV, (valL g l).length = l.length
  | [] => rfl
  | v :: r => by simp [valL, valL_length g r]
theorem valL_getD (g : Nat → Int) : ∀ (l : List AV) (j : Nat), j < l.length → (valL g l).getD j .undef = (l.getD j .undef).val g
  | [], j, h => by simp at h
  | v :: r, 0, h => by simp [valL]
  | v :: r, j + 1, h => by simpa [valL] using valL_getD g r j (by simpa using h)
theorem okgL_getD {G : Gh} : ∀ (l : List AV) (j : Nat), j < l.length → okgL G l = true → (l.getD j .undef).okg G = true
  | [], j, h, _ => by simp at h
  | v :: r, 0, h, k => by simp only [okgL, Bool.and_eq_true] at k; simpa using k.1
  | v :: r, j + 1, h, k => by
    simp only [okgL, Bool.and_eq_true] at k
    simpa using okgL_getD r j (by simpa using h) k.2
theorem Chunk.val_size (g : Nat → Int) (c : Chunk) : (c.val g).size = c.size := by cases c <;> simp [Chunk.val, Chunk.size, valL_length]
/-- a number as a block's place -/
def enc (n : Int) : Nat × Nat := (n.toNat, (-n).toNat)
theorem enc_eq (n : Int) : ((enc n).1 : Int) - (enc n).2 = n := by simp only [enc]; omega
theorem SE.okg_ev {G : Gh} {ι : IotaT} (hg : ∀ h, G.has h = true → ι h = some (some (enc (G.val h)))) : ∀ {e : SE}, e.okg G = true → e.ok ι ∧ e.ev (ival ι) = e.ev G.val
  | .x h, hk => ⟨⟨_, hg h hk⟩, by simp only [SE.ev, ival, hg h hk, enc_eq]⟩
  | .c n, _ => ⟨trivial, rfl⟩
  | .bin op k a b, hk => by
    simp only [SE.okg, Bool.and_eq_true] at hk
    obtain ⟨h1, h2⟩ := SE.okg_ev hg hk.1
    obtain ⟨h3, h4⟩ := SE.okg_ev hg hk.2
    exact ⟨⟨h1, h3⟩, by simp only [SE.ev, h2, h4]⟩
  | .wr k a, hk => by
    simp only [SE.okg] at hk
    obtain ⟨h1, h2⟩ := SE.okg_ev hg hk
    exact ⟨h1, by simp only [SE.ev, h2]⟩

section
variable {P : Program} {ι ι' : Iota} {w : World} {M : Nat → Prop} {G : Gh}
mutual
theorem val_in (hg : ∀ h, G.has h = true → ι' h = some (some (enc (G.val h)))) (hx : ∀ h, G.has h = false → ι' h = ι h) : ∀ (v : AV) (V : Value), v.okg G = true → VRel ι w M (v.val G.val) V → VRel ι' w M v V
  | .ptr h o, V, hk, hr => by
    simp only [AV.okg, Bool.not_eq_true'] at hk
    simp only [AV.val] at hr
    obtain ⟨b, base, h4, rfl⟩ := hr.ptr_inv
    exact .ptr h o b base (by rw [hx h hk]; exact h4)
  | .mp h, V, hk, hr => by
    simp only [AV.okg, Bool.not_eq_true'] at hk
    simp only [AV.val] at hr
    obtain ⟨b, h4, rfl⟩ := hr.mp_inv
    exact .mp h b (by rw [hx h hk]; exact h4)
  | .sl e h o m, V, hk, hr => by
    simp only [AV.okg, Bool.not_eq_true'] at hk
    simp only [AV.val] at hr
    rcases hr.sl_inv with ⟨b, base, oo, cap, T, N, h4, h5, h6, h7, h8, rfl⟩ | ⟨h4, rfl, rfl⟩
    · exact .sl e h o m b base oo cap T N (by rw [hx h hk]; exact h4) h5 h6 h7 h8
    · exact .slv e h o (by rw [hx h hk]; exact h4)
  | .iface t v, V, hk, hr => by
    simp only [AV.okg] at hk
    simp only [AV.val] at hr
    obtain ⟨V', rfl, h1⟩ := hr.iface_inv
    exact .iface t _ V' (val_in hg hx v V' hk h1)
  | .sy k e, V, hk, hr => by
    simp only [AV.okg] at hk
    simp only [AV.val] at hr
    obtain rfl := hr.int_inv
    obtain ⟨h1, h2⟩ := SE.okg_ev hg hk
    exact .sy k e _ h1 h2
  | .agg l, V, hk, hr => by
    simp only [AV.okg] at hk
    simp only [AV.val] at hr
    obtain ⟨cs, rfl, h1, h2⟩ := hr.agg_inv
    rw [valL_length] at h1 h2
    exact .agg l cs h1 fun j hj => val_inL hg hx l hk j hj _ (by rw [← valL_getD G.val l j hj]; exact h2 j hj)
  | .tup l, V, hk, hr => by
    simp only [AV.okg] at hk
    simp only [AV.val] at hr
    obtain ⟨cs, rfl, h1, h2⟩ := hr.tup_inv
    rw [valL_length] at h1 h2
    exact .tup l cs h1 fun j hj => val_inL hg hx l hk j hj _ (by rw [← valL_getD G.val l j hj]; exact h2 j hj)
  | .fn f l, V, hk, hr => by
    simp only [AV.okg] at hk
    simp only [AV.val] at hr
    obtain ⟨cs, rfl, h1, h2⟩ := hr.fn_inv
    rw [valL_length] at h1 h2
    exact .fn f l cs h1 fun j hj => val_inL hg hx l hk j hj _ (by rw [← valL_getD G.val l j hj]; exact h2 j hj)
  | .bfn f l, V, hk, hr => by
    simp only [AV.okg] at hk
    simp only [AV.val] at hr
    obtain ⟨cs, rfl, h1, h2⟩ := hr.bfn_inv
    rw [valL_length] at h1 h2
    exact .bfn f l cs h1 fun j hj => val_inL hg hx l hk j hj _ (by rw [← valL_getD G.val l j hj]; exact h2 j hj)
  | .undef, V, hk, hr => .undef V
  | .aggI n k g, V, hk, hr => VRel.same (v := .aggI n k g) hr (by simp) (by simp) (by simp) (by simp) (by simp) (by simp) (by simp) (by simp)
  | .bool b, V, hk, hr => VRel.same (v := .bool b) hr (by simp) (by simp) (by simp) (by simp) (by simp) (by simp) (by simp) (by simp)
  | .int k m, V, hk, hr => VRel.same (v := .int k m) hr (by simp) (by simp) (by simp) (by simp) (by simp) (by simp) (by simp) (by simp)
  | .str x, V, hk, hr => VRel.same (v := .str x) hr (by simp) (by simp) (by simp) (by simp) (by simp) (by simp) (by simp) (by simp)
  | .nilp, V, hk, hr => VRel.same (v := .nilp) hr (by simp) (by simp) (by simp) (by simp) (by simp) (by simp) (by simp) (by simp)
  | .nils, V, hk, hr => VRel.same (v := .nils) hr (by simp) (by simp) (by simp) (by simp) (by simp) (by simp) (by simp) (by simp)
  | .nili, V, hk, hr => VRel.same (v := .nili) hr (by simp) (by simp) (by simp) (by simp) (by simp) (by simp) (by simp) (by simp)
  | .nilf, V, hk, hr => VRel.same (v := .nilf) hr (by simp) (by simp) (by simp) (by simp) (by simp) (by simp) (by simp) (by simp)
  | .nilm, V, hk, hr => VRel.same (v := .nilm) hr (by simp) (by simp) (by simp) (by simp) (by simp) (by simp) (by simp) (by simp)
  | .cptr v, V, hk, hr => VRel.same (v := .cptr v) hr (by simp) (by simp) (by simp) (by simp) (by simp) (by simp) (by simp) (by simp)
  | .roI k l, V, hk, hr => VRel.same (v := .roI k l) hr (by simp) (by simp) (by simp) (by simp) (by simp) (by simp) (by simp) (by simp)
  | .roB l, V, hk, hr => VRel.same (v := .roB l) hr (by simp) (by simp) (by simp) (by simp) (by simp) (by simp) (by simp) (by simp)
  | .ro e l, V, hk, hr => VRel.same (v := .ro e l) hr (by simp) (by simp) (by simp) (by simp) (by simp) (by simp) (by simp) (by simp)
  | .raw x, V, hk, hr => VRel.same (v := .raw x) hr (by simp) (by simp) (by simp) (by simp) (by simp) (by simp) (by simp) (by simp)
termination_by structural v => v
theorem val_inL (hg : ∀ h, G.has h = true → ι' h = some (some (enc (G.val h)))) (hx : ∀ h, G.has h = false → ι' h = ι h) : ∀ (l : List AV), okgL G l = true → ∀ j, j < l.length → ∀ V, VRel ι w M ((l.getD j .undef).val G.val) V → VRel ι' w M (l.getD j .undef) V
  | [], hk, j, hj, V, hr => by simp at hj
  | v :: r, hk, 0, hj, V, hr => by
    simp only [okgL, Bool.and_eq_true] at hk
    exact val_in hg hx v V hk.1 (by simpa using hr)
  | v :: r, hk, j + 1, hj, V, hr => by
    simp only [okgL, Bool.and_eq_true] at hk
    simpa using val_inL hg hx r hk.2 j (by simpa using hj) V (by simpa using hr)
termination_by structural l => l
end
mutual
theorem val_out (hg : ∀ h, G.has h = true → ι h = some (some (enc (G.val h)))) (hx : ∀ h, G.has h = false → ι' h = ι h) : ∀ (v : AV) (V : Value), v.okg G = true → VRel ι w M v V → VRel ι' w M (v.val G.val) V
  | .ptr h o, V, hk, hr => by
    simp only [AV.okg, Bool.not_eq_true'] at hk
    simp only [AV.val]
    obtain ⟨b, base, h4, rfl⟩ := hr.ptr_inv
    exact .ptr h o b base (by rw [hx h hk]; exact h4)
  | .mp h, V, hk, hr => by
    simp only [AV.okg, Bool.not_eq_true'] at hk
    simp only [AV.val]
    obtain ⟨b, h4, rfl⟩ := hr.mp_inv
    exact .mp h b (by rw [hx h hk]; exact h4)
  | .sl e h o m, V, hk, hr => by
    simp only [AV.okg, Bool.not_eq_true'] at hk
    simp only [AV.val]
    rcases hr.sl_inv with ⟨b, base, oo, cap, T, N, h4, h5, h6, h7, h8, rfl⟩ | ⟨h4, rfl, rfl⟩
    · exact .sl e h o m b base oo cap T N (by rw [hx h hk]; exact h4) h5 h6 h7 h8
    · exact .slv e h o (by rw [hx h hk]; exact h4)
  | .iface t v, V, hk, hr => by
    simp only [AV.okg] at hk
    simp only [AV.val]
    obtain ⟨V', rfl, h1⟩ := hr.iface_inv
    exact .iface t _ V' (val_out hg hx v V' hk h1)
  | .sy k e, V, hk, hr => by
    simp only [AV.okg] at hk
    simp only [AV.val]
    obtain ⟨_, rfl⟩ := hr.sy_inv
    obtain ⟨h1, h2⟩ := SE.okg_ev hg hk
    rw [h2]
    exact .g _ _ (.int _ _)
  | .agg l, V, hk, hr => by
    simp only [AV.okg] at hk
    simp only [AV.val]
    obtain ⟨cs, rfl, h1, h2⟩ := hr.agg_inv
    exact .agg _ cs (by rw [valL_length]; exact h1) fun j hj => by
      rw [valL_length] at hj
      rw [valL_getD G.val l j hj]
      exact val_outL hg hx l hk j hj _ (h2 j hj)
  | .tup l, V, hk, hr => by
    simp only [AV.okg] at hk
    simp only [AV.val]
    obtain ⟨cs, rfl, h1, h2⟩ := hr.tup_inv
    exact .tup _ cs (by rw [valL_length]; exact h1) fun j hj => by
      rw [valL_length] at hj
      rw [valL_getD G.val l j hj]
      exact val_outL hg hx l hk j hj _ (h2 j hj)
  | .fn f l, V, hk, hr => by
    simp only [AV.okg] at hk
    simp only [AV.val]
    obtain ⟨cs, rfl, h1, h2⟩ := hr.fn_inv
    exact .fn f _ cs (by rw [valL_length]; exact h1) fun j hj => by
      rw [valL_length] at hj
      rw [valL_getD G.val l j hj]
      exact val_outL hg hx l hk j hj _ (h2 j hj)
  | .bfn f l, V, hk, hr => by
    simp only [AV.okg] at hk
    simp only [AV.val]
    obtain ⟨cs, rfl, h1, h2⟩ := hr.bfn_inv
    exact .bfn f _ cs (by rw [valL_length]; exact h1) fun j hj => by
      rw [valL_length] at hj
      rw [valL_getD G.val l j hj]
      exact val_outL hg hx l hk j hj _ (h2 j hj)
  | .undef, V, hk, hr => .undef V
  | .aggI n k g, V, hk, hr => VRel.same (v := .aggI n k g) hr (by simp) (by simp) (by simp) (by simp) (by simp) (by simp) (by simp) (by simp)
  | .bool b, V, hk, hr => VRel.same (v := .bool b) hr (by simp) (by simp) (by simp) (by simp) (by simp) (by simp) (by simp) (by simp)
  | .int k m, V, hk, hr => VRel.same (v := .int k m) hr (by simp) (by simp) (by simp) (by simp) (by simp) (by simp) (by simp) (by simp)
  | .str x, V, hk, hr => VRel.same (v := .str x) hr (by simp) (by simp) (by simp) (by simp) (by simp) (by simp) (by simp) (by simp)
  | .nilp, V, hk, hr => VRel.same (v := .nilp) hr (by simp) (by simp) (by simp) (by simp) (by simp) (by simp) (by simp) (by simp)
  | .nils, V, hk, hr => VRel.same (v := .nils) hr (by simp) (by simp) (by simp) (by simp) (by simp) (by simp) (by simp) (by simp)
  | .nili, V, hk, hr => VRel.same (v := .nili) hr (by simp) (by simp) (by simp) (by simp) (by simp) (by simp) (by simp) (by simp)
  | .nilf, V, hk, hr => VRel.same (v := .nilf) hr (by simp) (by simp) (by simp) (by simp) (by simp) (by simp) (by simp) (by simp)
  | .nilm, V, hk, hr => VRel.same (v := .nilm) hr (by simp) (by simp) (by simp) (by simp) (by simp) (by simp) (by simp) (by simp)
  | .cptr v, V, hk, hr => VRel.same (v := .cptr v) hr (by simp) (by simp) (by simp) (by simp) (by simp) (by simp) (by simp) (by simp)
  | .roI k l, V, hk, hr => VRel.same (v := .roI k l) hr (by simp) (by simp) (by simp) (by simp) (by simp) (by simp) (by simp) (by simp)
  | .roB l, V, hk, hr => VRel.same (v := .roB l) hr (by simp) (by simp) (by simp) (by simp) (by simp) (by simp) (by simp) (by simp)
  | .ro e l, V, hk, hr => VRel.same (v := .ro e l) hr (by simp) (by simp) (by simp) (by simp) (by simp) (by simp) (by simp) (by simp)
  | .raw x, V, hk, hr => VRel.same (v := .raw x) hr (by simp) (by simp) (by simp) (by simp) (by simp) (by simp) (by simp) (by simp)
termination_by structural v => v
theorem val_outL (hg : ∀ h, G.has h = true → ι h = some (some (enc (G.val h)))) (hx : ∀ h, G.has h = false → ι' h = ι h) : ∀ (l : List AV), okgL G l = true → ∀ j, j < l.length → ∀ V, VRel ι w M (l.getD j .undef) V → VRel ι' w M ((l.getD j .undef).val G.val) V
  | [], hk, j, hj, V, hr => by simp at hj
  | v :: r, hk, 0, hj, V, hr => by
    simp only [okgL, Bool.and_eq_true] at hk
    exact val_out hg hx v V hk.1 (by simpa using hr)
  | v :: r, hk, j + 1, hj, V, hr => by
    simp only [okgL, Bool.and_eq_true] at hk
    simpa using val_outL hg hx r hk.2 j (by simpa using hj) V (by simpa using hr)
termination_by structural l => l
end
theorem crel_in (hg : ∀ h, G.has h = true → ι' h = some (some (enc (G.val h)))) (hx : ∀ h, G.has h = false → ι' h = ι h) {c : Chunk} {b base : Nat} (hk : c.okg G) (h : CRel ι w M (c.val G.val) b base) : CRel ι' w M c b base := by
  by_cases hm : ∃ l k, c = .map l k
  · obtain ⟨l, k, rfl⟩ := hm
    obtain ⟨h0, es, h1, h2, h3⟩ := h
    refine ⟨h0, es, h1, by simpa [Chunk.val] using h2, fun j x hj => ?_⟩
    obtain ⟨e, q1, q2, q3, q4⟩ := h3 j (x.1.val G.val, x.2.1.val G.val, x.2.2) (by simp [hj])
    obtain ⟨k1, k2⟩ := hk x (List.mem_of_getElem? hj)
    exact ⟨e, q1, val_in hg hx _ _ k1 q2, val_in hg hx _ _ k2 q3, q4⟩
  have hnm : ∀ l k, c ≠ .map l k := fun l k e => hm ⟨l, k, e⟩
  have hnr : ∀ l k, c.val G.val ≠ .map l k := fun l k e => by cases c <;> first | (exact absurd rfl (hnm _ _)) | (simp [Chunk.val] at e)
  rw [CRel.not_map hnr] at h
  rw [CRel.not_map hnm]
  obtain ⟨cs, T, fr, h1, h2, h3, h4⟩ := h
  rw [Chunk.val_size] at h3 h4
  refine ⟨cs, T, fr, h1, h2, h3, fun j hj => ?_⟩
  have := h4 j hj
  cases c with
  | obj l =>
    simp only [Chunk.val, Chunk.get, Chunk.size, Chunk.okg] at *
    rw [valL_getD G.val l j hj] at this
    exact val_inL hg hx l hk j hj _ this
  | fn m f =>
    simp only [Chunk.val, Chunk.get, Chunk.size, Chunk.okg] at *
    exact val_in hg hx _ _ (hk j hj) this
  | rowI k l => exact this.same (by simp [Chunk.val, Chunk.get]) (by simp [Chunk.val, Chunk.get]) (by simp [Chunk.val, Chunk.get]) (by simp [Chunk.val, Chunk.get]) (by simp [Chunk.val, Chunk.get]) (by simp [Chunk.val, Chunk.get]) (by simp [Chunk.val, Chunk.get]) (by simp [Chunk.val, Chunk.get]) (by simp [Chunk.val, Chunk.get])
  | rowB l => exact this.same (by simp [Chunk.val, Chunk.get]) (by simp [Chunk.val, Chunk.get]) (by simp [Chunk.val, Chunk.get]) (by simp [Chunk.val, Chunk.get]) (by simp [Chunk.val, Chunk.get]) (by simp [Chunk.val, Chunk.get]) (by simp [Chunk.val, Chunk.get]) (by simp [Chunk.val, Chunk.get]) (by simp [Chunk.val, Chunk.get])
  | blk n k g => exact this.same (by simp [Chunk.val, Chunk.get]) (by simp [Chunk.val, Chunk.get]) (by simp [Chunk.val, Chunk.get]) (by simp [Chunk.val, Chunk.get]) (by simp [Chunk.val, Chunk.get]) (by simp [Chunk.val, Chunk.get]) (by simp [Chunk.val, Chunk.get]) (by simp [Chunk.val, Chunk.get]) (by simp [Chunk.val, Chunk.get])
  | map l k => exact absurd rfl (hnm l k)
theorem crel_out (hg : ∀ h, G.has h = true → ι h = some (some (enc (G.val h)))) (hx : ∀ h, G.has h = false → ι' h = ι h) {c : Chunk} {b base : Nat} (hk : c.okg G) (h : CRel ι w M c b base) : CRel ι' w M (c.val G.val) b base := by
  by_cases hm : ∃ l k, c = .map l k
  · obtain ⟨l, k, rfl⟩ := hm
    obtain ⟨h0, es, h1, h2, h3⟩ := h
    refine ⟨h0, es, h1, by simpa [Chunk.val] using h2, fun j x hj => ?_⟩
    rw [List.getElem?_map] at hj
    obtain ⟨y, hy, rfl⟩ := Option.map_eq_some_iff.1 hj
    obtain ⟨e, q1, q2, q3, q4⟩ := h3 j y hy
    obtain ⟨k1, k2⟩ := hk y (List.mem_of_getElem? hy)
    exact ⟨e, q1, val_out hg hx _ _ k1 q2, val_out hg hx _ _ k2 q3, q4⟩
  have hnm : ∀ l k, c ≠ .map l k := fun l k e => hm ⟨l, k, e⟩
  have hnr : ∀ l k, c.val G.val ≠ .map l k := fun l k e => by cases c <;> first | (exact absurd rfl (hnm _ _)) | (simp [Chunk.val] at e)
  rw [CRel.not_map hnm] at h
  rw [CRel.not_map hnr]
  obtain ⟨cs, T, fr, h1, h2, h3, h4⟩ := h
  refine ⟨cs, T, fr, h1, h2, by rw [Chunk.val_size]; exact h3, fun j hj => ?_⟩
  rw [Chunk.val_size] at hj
  have := h4 j hj
  cases c with
  | obj l =>
    simp only [Chunk.val, Chunk.get, Chunk.size, Chunk.okg] at *
    rw [valL_getD G.val l j hj]
    exact val_outL hg hx l hk j hj _ this
  | fn m f =>
    simp only [Chunk.val, Chunk.get, Chunk.size, Chunk.okg] at *
    exact val_out hg hx _ _ (hk j hj) this
  | rowI k l => exact this.same (by simp [Chunk.val, Chunk.get]) (by simp [Chunk.val, Chunk.get]) (by simp [Chunk.val, Chunk.get]) (by simp [Chunk.val, Chunk.get]) (by simp [Chunk.val, Chunk.get]) (by simp [Chunk.val, Chunk.get]) (by simp [Chunk.val, Chunk.get]) (by simp [Chunk.val, Chunk.get]) (by simp [Chunk.val, Chunk.get])
  | rowB l => exact this.same (by simp [Chunk.val, Chunk.get]) (by simp [Chunk.val, Chunk.get]) (by simp [Chunk.val, Chunk.get]) (by simp [Chunk.val, Chunk.get]) (by simp [Chunk.val, Chunk.get]) (by simp [Chunk.val, Chunk.get]) (by simp [Chunk.val, Chunk.get]) (by simp [Chunk.val, Chunk.get]) (by simp [Chunk.val, Chunk.get])
  | blk n k g => exact this.same (by simp [Chunk.val, Chunk.get]) (by simp [Chunk.val, Chunk.get]) (by simp [Chunk.val, Chunk.get]) (by simp [Chunk.val, Chunk.get]) (by simp [Chunk.val, Chunk.get]) (by simp [Chunk.val, Chunk.get]) (by simp [Chunk.val, Chunk.get]) (by simp [Chunk.val, Chunk.get]) (by simp [Chunk.val, Chunk.get])
  | map l k => exact absurd rfl (hnm l k)

/-- A contract with handles that stand for numbers holds with any numbers. -/
theorem Tr.val {f : Nat} {args : List AV} {s : St} {K K' : AV → St → Prop} (G : Gh) (h : Tr P f args s K) (hG : ∀ h, G.has h = true → h < s.next) (ha : okgL G args = true) (hs : s.okg G)
    (hK : ∀ v s', K v s' → v.okg G = true ∧ s'.okg G ∧ K' (v.val G.val) (s'.val G.val)) : Tr P f (valL G.val args) (s.val G.val) K' := by
  unfold Tr at *
  obtain ⟨hb, h⟩ := h
  refine ⟨hb, fun ι w M Vs hR hV => ?_⟩
  let ι0 : Iota := fun k => if G.has k = true then some (some (enc (G.val k))) else ι k
  have hg0 : ∀ k, G.has k = true → ι0 k = some (some (enc (G.val k))) := fun k hk => by simp [ι0, hk]
  have hx0 : ∀ k, G.has k = false → ι0 k = ι k := fun k hk => by simp [ι0, hk]
  have hown : ∀ b, Own ι0 s b ↔ Own ι (s.val G.val) b := fun b => by
    constructor
    · rintro ⟨k, c, base, k1, k2⟩
      obtain ⟨q1, _⟩ := hs k c k1
      exact ⟨k, c.val G.val, base, by rw [St.val_get, k1]; rfl, by rw [← hx0 k q1]; exact k2⟩
    · rintro ⟨k, c, base, k1, k2⟩
      rw [St.val_get] at k1
      obtain ⟨c0, k3, rfl⟩ := Option.map_eq_some_iff.1 k1
      obtain ⟨q1, _⟩ := hs k c0 k3
      exact ⟨k, c0, base, k3, by rw [hx0 k q1]; exact k2⟩
  have hR0 : Rep ι0 s w M := by
    refine ⟨fun k hk => ?_, fun k c hc => ?_, fun k k' c c' p p' hc hc' hne hp hp' => ?_, hR.lt, hR.glob⟩
    · cases hh : G.has k with
      | true => have := hG k hh; omega
      | false => rw [hx0 k hh]; exact hR.fresh k hk
    · obtain ⟨q1, q2⟩ := hs k c hc
      rw [hx0 k q1]
      rcases hR.own k (c.val G.val) (by rw [St.val_get, hc]; rfl) with ⟨r1, r2⟩ | ⟨b, base, r1, r2, r3⟩
      · exact .inl ⟨r1, by rw [Chunk.val_size] at r2; exact r2⟩
      · exact .inr ⟨b, base, r1, r2, crel_in hg0 hx0 q2 r3⟩
    · obtain ⟨q1, _⟩ := hs k c hc
      obtain ⟨q2, _⟩ := hs k' c' hc'
      rw [hx0 k q1] at hp
      rw [hx0 k' q2] at hp'
      exact hR.inj k k' (c.val G.val) (c'.val G.val) p p' (by rw [St.val_get, hc]; rfl) (by rw [St.val_get, hc']; rfl) hne hp hp'
  have hV0 : VRels ι0 w M args Vs := by
    obtain ⟨k1, k2⟩ := hV
    rw [valL_length] at k1 k2
    exact ⟨k1, fun j hj => val_inL hg0 hx0 args ha j hj _ (by rw [← valL_getD G.val args j hj]; exact k2 j hj)⟩
  refine Calls.mono (h ι0 w M Vs hR0 hV0) fun en w1 he => ?_
  obtain ⟨V, ι1, M1, v, s', rfl, hK0, h1, h2, h3⟩ := he
  obtain ⟨o1, o2, o3⟩ := hK v s' hK0
  have hg1 : ∀ k, G.has k = true → ι1 k = some (some (enc (G.val k))) := fun k hk => by rw [h3.ext k (hG k hk)]; exact hg0 k hk
  let ι2 : Iota := fun k => if G.has k = true then ι k else ι1 k
  have hx2 : ∀ k, G.has k = false → ι2 k = ι1 k := fun k hk => by simp [ι2, hk]
  have hy2 : ∀ k, G.has k = true → ι2 k = ι k := fun k hk => by simp [ι2, hk]
  have hown2 : ∀ b, Own ι2 (s'.val G.val) b → Own ι1 s' b := by
    rintro b ⟨k, c, base, k1, k2⟩
    rw [St.val_get] at k1
    obtain ⟨c0, k3, rfl⟩ := Option.map_eq_some_iff.1 k1
    obtain ⟨q1, _⟩ := o2 k c0 k3
    exact ⟨k, c0, base, k3, by rw [← hx2 k q1]; exact k2⟩
  refine ⟨V, ι2, M1, _, _, rfl, o3, val_out hg1 hx2 v V o1 h1, ⟨fun k hk => ?_, fun k c hc => ?_, fun k k' c c' p p' hc hc' hne hp hp' => ?_, h2.lt, h2.glob⟩,
    ⟨h3.size, h3.tape, h3.os, h3.output, fun b hb ho => h3.block b hb fun q => ho ((hown b).1 q), h3.shape, h3.back, fun b hM ho => h3.keep b hM fun q => ho ((hown b).1 q), fun b hb ho => (hown b).1 (h3.own b hb (hown2 b ho)), h3.next, fun k hk => ?_⟩⟩
  · have hk : s'.next ≤ k := hk
    have hn := h3.next
    cases hh : G.has k with
    | true => have := hG k hh; omega
    | false => rw [hx2 k hh]; exact h2.fresh k hk
  · rw [St.val_get] at hc
    obtain ⟨c0, k3, rfl⟩ := Option.map_eq_some_iff.1 hc
    obtain ⟨q1, q2⟩ := o2 k c0 k3
    rw [hx2 k q1]
    rcases h2.own k c0 k3 with ⟨r1, r2⟩ | ⟨b, base, r1, r2, r3⟩
    · exact .inl ⟨r1, by rw [Chunk.val_size]; exact r2⟩
    · exact .inr ⟨b, base, r1, r2, crel_out hg1 hx2 q2 r3⟩
  · rw [St.val_get] at hc hc'
    obtain ⟨c0, k3, rfl⟩ := Option.map_eq_some_iff.1 hc
    obtain ⟨c1, k4, rfl⟩ := Option.map_eq_some_iff.1 hc'
    obtain ⟨q1, _⟩ := o2 k c0 k3
    obtain ⟨q2, _⟩ := o2 k' c1 k4
    rw [hx2 k q1] at hp
    rw [hx2 k' q2] at hp'
    exact h2.inj k k' c0 c1 p p' k3 k4 hne hp hp'
  · have hk : k < s.next := hk
    cases hh : G.has k with
    | true => exact hy2 k hh
    | false => rw [hx2 k hh, h3.ext k hk]; exact hx0 k hh
end
end Go.Ab
set_option linter.unusedVariables false
set_option linter.unusedSimpArgs false
set_option autoImplicit false
namespace Go.Ab

section
variable {P : Program}
/-- a run from a known state, seen in all of it -/
theorem stage0_tr {T : Nat → Nat} {O D : CallX} {d f n0 : Nat} {args : List AV} {pre post : List (Nat × Chunk)} {v : AV} {n : Nat} (hm : P.follows .mixedOrders = true) (hO : CallOk P O) (hD : CallOkD P D)
    (hr : resIs (preN pre .l fun m => callF P T O D d f args ⟨n0, m⟩) v n post = true) (hb : (pre.all fun p => Nat.blt p.1 bigN) = true) :
    Tr P f args ⟨n0, memL pre⟩ fun v' s' => v' = v ∧ s' = ⟨n, memL post⟩ := by
  rw [preN_eq] at hr
  unfold resIs at hr
  split at hr
  · rename_i v' n' m hrun
    simp only [Bool.and_eq_true, List.all_eq_true] at hr
    obtain ⟨⟨h1, h2⟩, h3⟩ := hr
    have h1 := eqA'_sound _ _ h1
    have h2 := Nat.eq_of_beq_eq_true h2
    subst h1
    subst h2
    refine Tr.leSt (callF_tr hm hO hD hrun (preM_eqS hb)) fun v s' hv => ?_
    obtain ⟨rfl, hs⟩ := hv
    refine ⟨_, ⟨hs.1.symm, fun k c' hk => ?_⟩, rfl, rfl⟩
    have hmem := mem_get _ _ _ hk
    simp only [memL, List.mem_map] at hmem
    obtain ⟨p, hp, he⟩ := hmem
    cases he
    have := h3 p hp
    rw [hs.2]
    show ∃ c, m.get none p.1 = some c ∧ _
    split at this
    · rename_i c hc
      exact ⟨c, hc, chEq_sound this⟩
    · cases this
  · cases hr

/-! with numbers given -/
def okgC (G : Gh) : Chunk → Bool
  | .obj l => okgL G l
  | .rowI _ _ => true
  | .rowB _ => true
  | .map l _ => l.all fun x => x.1.okg G && x.2.1.okg G
  | _ => false
theorem okgC_sound {G : Gh} {c : Chunk} (h : okgC G c = true) : c.okg G := by
  cases c <;> simp only [okgC, Bool.false_eq_true, List.all_eq_true, Bool.and_eq_true] at h <;> first | exact h | trivial
def okgM (G : Gh) (l : List (Nat × Chunk)) : Bool := l.all fun p => !G.has p.1 && okgC G p.2
theorem okgM_sound {G : Gh} {n : Nat} {l : List (Nat × Chunk)} (h : okgM G l = true) : St.okg G ⟨n, memL l⟩ := by
  intro k c hg
  have hm := mem_get _ _ _ hg
  simp only [memL, List.mem_map] at hm
  obtain ⟨p, hp, he⟩ := hm
  cases he
  have := List.all_eq_true.1 h p hp
  simp only [Bool.and_eq_true, Bool.not_eq_true'] at this
  exact ⟨this.1, okgC_sound this.2⟩
def valM (g : Nat → Int) (l : List (Nat × Chunk)) : List (Nat × Chunk) := l.map fun p => (p.1, p.2.val g)
theorem val_memL (g : Nat → Int) (n : Nat) (l : List (Nat × Chunk)) : St.val g ⟨n, memL l⟩ = ⟨n, memL (valM g l)⟩ := by
  show (⟨n, (memL l).map fun p => (p.1, p.2.map (Chunk.val g))⟩ : St) = _
  congr 1
  simp only [memL, valM, List.map_map]
  rfl
/-- the ghosts 0, 1, .. stand for these numbers -/
def ghN : Nat → List Int → Gh
  | _, [] => []
  | i, n :: r => (i, n) :: ghN (i + 1) r
theorem ghN_has : ∀ (l : List Int) (i h : Nat), (ghN i l).has h = decide (i ≤ h ∧ h < i + l.length)
  | [], i, h => by
    show false = _
    symm
    rw [decide_eq_false_iff_not]
    simp only [List.length_nil]
    omega
  | n :: r, i, h => by
    show (Nat.beq i h || (ghN (i + 1) r).has h) = _
    rw [ghN_has r, Bool.eq_iff_iff]
    simp only [Bool.or_eq_true, decide_eq_true_eq, List.length_cons]
    constructor
    · rintro (h1 | h1)
      · have := Nat.eq_of_beq_eq_true h1; omega
      · omega
    · intro h1
      by_cases he : i = h
      · subst he; exact .inl (Nat.beq_refl _)
      · exact .inr (by omega)
theorem okg_congr {G G' : Gh} (h : ∀ k, G.has k = G'.has k) : ∀ (e : SE), e.okg G = e.okg G'
  | .x k => h k
  | .c _ => rfl
  | .bin _ _ a b => by simp only [SE.okg, okg_congr h a, okg_congr h b]
  | .wr _ a => by simp only [SE.okg, okg_congr h a]
mutual
theorem okgA_congr {G G' : Gh} (h : ∀ k, G.has k = G'.has k) : ∀ (v : AV), v.okg G = v.okg G'
  | .sy _ e => okg_congr h e
  | .agg l => okgL_congr h l
  | .tup l => okgL_congr h l
  | .iface _ v => okgA_congr h v
  | .fn _ l => okgL_congr h l
  | .bfn _ l => okgL_congr h l
  | .mp k => by simp only [AV.okg, h]
  | .ptr k _ => by simp only [AV.okg, h]
  | .sl _ k _ _ => by simp only [AV.okg, h]
  | .undef => rfl
  | .aggI .. => rfl
  | .bool _ => rfl
  | .int _ _ => rfl
  | .str _ => rfl
  | .nilp => rfl
  | .nils => rfl
  | .nili => rfl
  | .nilf => rfl
  | .nilm => rfl
  | .cptr _ => rfl
  | .roI _ _ => rfl
  | .roB _ => rfl
  | .ro _ _ => rfl
  | .raw _ => rfl
termination_by structural v => v
theorem okgL_congr {G G' : Gh} (h : ∀ k, G.has k = G'.has k) : ∀ (l : List AV), okgL G l = okgL G' l
  | [] => rfl
  | v :: r => by simp only [okgL, okgA_congr h v, okgL_congr h r]
termination_by structural l => l
end
theorem okgM_congr {G G' : Gh} (h : ∀ k, G.has k = G'.has k) (l : List (Nat × Chunk)) : okgM G l = okgM G' l := by
  unfold okgM
  congr 1
  funext p
  have hc : okgC G p.2 = okgC G' p.2 := by
    cases p.2 <;> simp only [okgC, okgL_congr h, okgA_congr h]
  rw [h, hc]
/-- a run from a known state whose numbers aren't known: with any numbers (ghosts 0, 1, ..) -/
theorem stageG_tr {f n0 : Nat} {args : List AV} {pre post : List (Nat × Chunk)} {v : AV} {n : Nat} (l : List Int) (z : List Int) (hz : z.length = l.length)
    (h : Tr P f args ⟨n0, memL pre⟩ fun v' s' => v' = v ∧ s' = ⟨n, memL post⟩)
    (h0 : Nat.ble z.length n0 = true) (ha : okgL (ghN 0 z) args = true) (hp : okgM (ghN 0 z) pre = true) (hv : v.okg (ghN 0 z) = true) (hq : okgM (ghN 0 z) post = true) :
    Tr P f (valL (ghN 0 l).val args) ⟨n0, memL (valM (ghN 0 l).val pre)⟩ fun v' s' => v' = v.val (ghN 0 l).val ∧ s' = ⟨n, memL (valM (ghN 0 l).val post)⟩ := by
  have hh : ∀ k, (ghN 0 z).has k = (ghN 0 l).has k := fun k => by rw [ghN_has, ghN_has, hz]
  rw [okgL_congr hh] at ha
  rw [okgM_congr hh] at hp hq
  rw [okgA_congr hh] at hv
  rw [← val_memL, ← val_memL]
  refine Tr.val (ghN 0 l) h (fun k hk => ?_) ha (okgM_sound hp) fun v' s' hv' => ?_
  · rw [ghN_has] at hk
    simp only [decide_eq_true_eq] at hk
    have := Nat.le_of_ble_eq_true h0
    show k < n0
    omega
  · obtain ⟨rfl, rfl⟩ := hv'
    exact ⟨hv, okgM_sound hq, rfl, rfl⟩
end

/-! what wrapping comes to -/
theorem wrapI64 (x : Int) (h1 : -9223372036854775808 ≤ x) (h2 : x < 9223372036854775808) : IntKind.wrap .i64 x = x := by
  show (if (true && decide (x % 2 ^ 64 ≥ 2 ^ 63)) = true then x % 2 ^ 64 - 2 ^ 64 else x % 2 ^ 64) = x
  by_cases h : x % 2 ^ 64 ≥ 2 ^ 63
  · rw [if_pos (by simpa using h)]; omega
  · rw [if_neg (by simpa using h)]; omega
theorem wrapU64 (x : Int) (h1 : 0 ≤ x) (h2 : x < 18446744073709551616) : IntKind.wrap .u64 x = x := by
  show (if (false && decide (x % 2 ^ 64 ≥ 2 ^ 63)) = true then x % 2 ^ 64 - 2 ^ 64 else x % 2 ^ 64) = x
  rw [if_neg (by simp)]
  omega
theorem sh48 (x : Int) (h1 : -32768 ≤ x) (h2 : x < 32768) : sop .shr .i64 (sop .shl .i64 x 48) 48 = x := by
  have e1 : sop .shl .i64 x 48 = x * 2 ^ 48 := wrapI64 (x * 2 ^ 48) (by omega) (by omega)
  rw [e1]
  show (x * 2 ^ 48).fdiv (2 ^ 48) = x
  rw [Int.fdiv_eq_ediv_of_nonneg _ (by decide)]
  omega
theorem addU64 (x y : Int) (h1 : 0 ≤ x + y) (h2 : x + y < 18446744073709551616) : sop .add .u64 x y = x + y := wrapU64 _ h1 h2
theorem addI64 (x y : Int) (h1 : -9223372036854775808 ≤ x + y) (h2 : x + y < 9223372036854775808) : sop .add .i64 x y = x + y := wrapI64 _ h1 h2
end Go.Ab
