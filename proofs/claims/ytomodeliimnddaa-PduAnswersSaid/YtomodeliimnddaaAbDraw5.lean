/- The engine's soundness: regions whose order is open: what changes memory; every order. -/
import Derived.Test.YtomodeliimnddaaAbDraw4
set_option linter.unusedVariables false
set_option linter.unusedSimpArgs false
set_option autoImplicit false
namespace Go.Ab

section
variable {P : Program} {F : From} {ops : List Oper} {anc : List Nat} {ins : List AIns} {p : List AStep} {K : Env → St → Prop} {D D' : Nat → Bool} {pre rest : List AStep} {e0 e E : Env} {s T : St} {pd : Pend} {act : Act} {ι : Iota} {w : World} {M : Nat → Prop}

/-- the blocks that are there already -/
def doneL (D : Nat → Bool) : Pend → Mem
  | [] => []
  | q :: r => bif D q.1 then (q.2.1, some q.2.2) :: doneL D r else doneL D r
theorem doneL_get (D : Nat → Bool) : ∀ (pd : Pend), PNd pd → ∀ h c, (doneL D pd).get h = some c ↔ ∃ i, (i, h, c) ∈ pd ∧ D i = true
  | [], _, h, c => by simp [doneL, Mem.get]
  | q :: r, hn, h, c => by
    obtain ⟨h1, h2⟩ := List.pairwise_cons.1 hn
    have ih := doneL_get D r h2 h c
    simp only [doneL]
    cases hd : D q.1 with
    | true =>
      simp only [cond_true, Mem.get_cons]
      by_cases he : q.2.1 = h
      · rw [if_pos he]
        simp only [Option.some.injEq]
        constructor
        · intro hc; exact ⟨q.1, by rw [← he, ← hc]; simp, hd⟩
        · rintro ⟨i, hi, _⟩
          rcases List.mem_cons.1 hi with k | k
          · rw [← k]
          · exact absurd he (h1 _ k)
      · rw [if_neg he, ih]
        constructor
        · rintro ⟨i, hi, k⟩; exact ⟨i, List.mem_cons_of_mem _ hi, k⟩
        · rintro ⟨i, hi, k⟩
          rcases List.mem_cons.1 hi with k' | k'
          · exact absurd (by rw [← k']) he
          · exact ⟨i, k', k⟩
    | false =>
      simp only [cond_false]
      rw [ih]
      constructor
      · rintro ⟨i, hi, k⟩; exact ⟨i, List.mem_cons_of_mem _ hi, k⟩
      · rintro ⟨i, hi, k⟩
        rcases List.mem_cons.1 hi with k' | k'
        · rw [← k'] at hd; simp only at hd; rw [hd] at k; cases k
        · exact ⟨i, k', k⟩
theorem doneL_append (D : Nat → Bool) (m : Mem) : ∀ (pd : Pend) h, (doneL D pd ++ m).get h = match (doneL D pd).get h with
    | some c => some c
    | none => m.get h
  | [], h => rfl
  | q :: r, h => by
    have ih := doneL_append D m r h
    simp only [doneL]
    cases hd : D q.1 with
    | true =>
      simp only [cond_true, List.cons_append, Mem.get_cons]
      by_cases he : q.2.1 = h
      · rw [if_pos he, if_pos he]
      · rw [if_neg he, if_neg he]; exact ih
    | false => exact ih

/-- what a step that changes memory comes to -/
theorem J.execE (hp : PlanF P ops anc ins p) {x : AStep} {r : List AStep} {v : AV} {V : Value} {s' : St} {m : Mem} {pd' : Pend} {ι' : Iota} {w' : World} {M' : Nat → Prop} (h : J P F anc ins p K D pre (x :: r) e0 e E s T pd act ι w M)
    (hxe : x.e = true) (hanc : ∀ j, (anc.getD x.i 0).testBit j = true → D j = true) (hD' : ∀ j, D' j = true ↔ j = x.i ∨ D j = true) (hslot : slotIn F.N x.ins.dst = true)
    (hab : absorb x.ab pd s.m = (m, pd')) (hW : drawW P r (putE e x.ins.dst v) s' pd' K) (hV : VRel ι' w' M' v V) (hR : Rep ι' s' w' M') (hgo : Go s.next ι ⟨s.next, m⟩ w M ι' s' w' M')
    (hext : ∀ h p, ι h = some p → ι' h = some p) (hi : Imm w M w' M')
    (hwatch : ∀ o ∈ x.wt, ∀ k, addrA (AOpd.ev e o) = some k → getP ⟨s.next, m⟩ pd' k = getP s' pd' k) :
    ∃ T', J P F anc ins p K D' (pre ++ [x]) r e0 (putE e x.ins.dst v) (putE E x.ins.dst v) s' T' pd' (act.put x.ins.dst V) ι' w' M' := by
  have hxi : x.i ∉ pre.map (·.i) := (hp.order pre x r h.split).2.1
  have hxp : x ∈ p := by rw [h.split]; simp
  have hpre : ∀ x ∈ pre, x ∈ p := fun x hx => by rw [h.split]; simp [hx]
  have hxins := hp.at hxp
  have hxD : D x.i = false := by
    cases hd : D x.i with
    | false => rfl
    | true => exact absurd (h.dpre _ hd) hxi
  have hst := (hp.steps pre x r h.split).2
  have hxab : ∀ j, memN x.ab j = true → (anc.getD x.i 0).testBit j = true := fun j hj => by
    rw [memN_iff] at hj
    rw [hst] at hj
    unfold stepOf at hj
    cases hE : x.ins.op.isE with
    | false => simp [hE] at hj
    | true =>
      simp only [hE, cond_true, List.mem_filter, Bool.and_eq_true] at hj
      exact hj.2.1
  have hxwt : ∀ z ∈ pre, (anc.getD x.i 0).testBit z.i = false → ∀ o, z.ins.op.looks = some o → o ∈ x.wt := fun z hz hzb o ho => by
    rw [hst]
    have hE : x.ins.op.isE = true := by
      have h2 := (stepOf_i anc ins (pre.map (·.i)) x.i x.ins).2.2
      rw [← hst, hxe] at h2
      exact h2.symm
    unfold stepOf
    simp only [hE, cond_true, List.mem_filterMap]
    exact ⟨z.i, List.mem_map_of_mem hz, by simp only [hzb, cond_false, hp.at (hpre z hz)]; exact ho⟩
  have hrest : pd' = pd.filter fun q => !memN x.ab q.1 := by have := absorb_rest x.ab pd s.m; rw [hab] at this; exact this
  have hmget : ∀ k c, (St.mk s.next m).get k = some c ↔ s.get k = some c ∨ ∃ i, (i, k, c) ∈ pd ∧ memN x.ab i = true := fun k c => by
    have := absorb_get x.ab pd s.m h.pnd h.pnone k c
    rw [hab] at this
    exact this
  have hmem' : ∀ q, q ∈ pd' ↔ q ∈ pd ∧ memN x.ab q.1 = false := fun q => by rw [hrest]; simp
  have hmT : ∀ k c, (St.mk s.next m).get k = some c → T.get k = some c := fun k c hc => by
    rw [h.tget]
    rcases (hmget k c).1 hc with q | ⟨i, q, q'⟩
    · exact .inl q
    · exact .inr ⟨i, q, hanc i (hxab i q')⟩
  have hnd' : PNd pd' := by rw [hrest]; exact h.pnd.sublist List.filter_sublist
  have hm0 : ∀ q ∈ pd', (St.mk s.next m).get q.2.1 = none := fun q hq => by
    cases hg : (St.mk s.next m).get q.2.1 with
    | none => rfl
    | some c =>
      obtain ⟨q1, q2⟩ := (hmem' q).1 hq
      rcases (hmget _ c).1 hg with k | ⟨i, k, k'⟩
      · rw [h.pnone q q1] at k; cases k
      · have := PNd.inj h.pnd q1 k rfl
        rw [this, k'] at q2; cases q2
  have hext' : ∀ k, k < s.next → ι' k = ι k := hgo.ext
  have hnx : s.next ≤ s'.next := hgo.next
  have hdisj : ∀ q ∈ pd', s'.get q.2.1 = none := fun q hq => by
    obtain ⟨q1, q2⟩ := (hmem' q).1 hq
    cases hg : s'.get q.2.1 with
    | none => rfl
    | some c =>
      exfalso
      have hlt := (h.plt q q1).1
      cases hd : D q.1 with
      | false =>
        have h0 := h.pun q q1 hd
        rcases hR.own _ c hg with ⟨k, _⟩ | ⟨b, base, k, _⟩ <;> rw [hext' _ hlt, h0] at k <;> cases k
      | true =>
        obtain ⟨⟨b, base⟩, hpp⟩ := h.pdn q q1 hd
        have hTg : T.get q.2.1 = some q.2.2 := (h.tget _ _).2 (.inr ⟨q.1, q1, hd⟩)
        have hMb := h.rep.ownM ⟨_, _, _, hTg, hpp⟩
        have hOwn : Own ι ⟨s.next, m⟩ b := hgo.own b (h.rep.lt b hMb) ⟨_, c, base, hg, (hext' _ hlt).trans hpp⟩
        obtain ⟨j, c', base', k1, k2⟩ := hOwn
        have hne : q.2.1 ≠ j := fun e => by rw [← e, hm0 q hq] at k1; cases k1
        exact h.rep.inj _ j _ c' _ _ hTg (hmT j c' k1) hne hpp k2 rfl
  have hFr : ∀ k c, (doneL D pd').get k = some c → T.get k = some c ∧ (St.mk s.next m).get k = none := fun k c hc => by
    obtain ⟨i, q, q'⟩ := (doneL_get D pd' hnd' k c).1 hc
    exact ⟨(h.tget k c).2 (.inr ⟨i, ((hmem' _).1 q).1, q'⟩), hm0 _ q⟩
  obtain ⟨f1, f2, f3⟩ := frame (doneL D pd') h.rep hmT h.tnext.symm hR hgo hext hi hFr
  have hDpd : ∀ q ∈ pd', (D' q.1 = true ↔ D q.1 = true) := fun q hq => by
    rw [hD']
    constructor
    · rintro (k | k)
      · exact absurd (by rw [← k]; exact h.ppre q ((hmem' q).1 hq).1) hxi
      · exact k
    · exact .inr
  have hD : ∀ j, D' j = false → D j = false ∧ j ≠ x.i := fun j hj => by
    constructor
    · cases hd : D j with
      | false => rfl
      | true => rw [(hD' j).2 (.inr hd)] at hj; cases hj
    · intro e; rw [(hD' j).2 (.inl e)] at hj; cases hj
  have hnd : ∀ z ∈ pre, ∀ d, z.ins.dst = some d → x.ins.dst ≠ some d := fun z hz d h1 h2 => by
    have := hp.slot1 _ _ _ _ d (hp.at (hpre z hz)) hxins h1 h2
    exact hxi (this ▸ List.mem_map_of_mem hz)
  refine ⟨⟨s'.next, doneL D pd' ++ s'.m⟩, by rw [h.split]; simp, fun i hi => ?_, fun i j hi hj => ?_, fun z hz he => ?_, hW, f1, fun k c => ?_, rfl, hnd', hdisj, fun q hq => ?_, fun q hq hd => ?_, fun q hq hd => ?_, fun q hq => ?_, (h.env.mono hi hext).put hV hslot h.size, fun z hz u hd hu => ?_, fun u hu => ?_, fun u hu => ?_, fun z hz hd => ?_, by rw [put_size]; exact h.size, by rw [put_defers]; exact h.dfr, h.go.trans (f2.weak (by have := h.go.next; rw [h.tnext] at this; exact this)) F.lt⟩
  · simp only [List.map_append, List.mem_append, List.map_cons, List.map_nil, List.mem_singleton]
    rcases (hD' i).1 hi with k | k
    · exact .inr k
    · exact .inl (h.dpre i k)
  · rcases (hD' i).1 hi with rfl | k
    · exact (hD' j).2 (.inr (hanc j hj))
    · exact (hD' j).2 (.inr (h.dcl i j k hj))
  · rcases List.mem_append.1 hz with hz | hz
    · exact (hD' _).2 (.inr (h.eDone z hz he))
    · simp only [List.mem_singleton] at hz; subst hz; exact (hD' _).2 (.inl rfl)
  · show (doneL D pd' ++ s'.m).get k = some c ↔ _
    rw [doneL_append]
    cases hg : (doneL D pd').get k with
    | some c1 =>
      obtain ⟨i, q, q'⟩ := (doneL_get D pd' hnd' k c1).1 hg
      simp only [Option.some.injEq]
      constructor
      · rintro rfl; exact .inr ⟨i, q, (hDpd _ q).2 q'⟩
      · rintro (k' | ⟨i', q1, _⟩)
        · have := hdisj _ q; simp only at this; rw [this] at k'; cases k'
        · have := PNd.inj hnd' q q1 rfl
          simp only [Prod.mk.injEq] at this
          exact this.2.2
    | none =>
      simp only
      constructor
      · intro hc; exact .inl hc
      · rintro (k' | ⟨i', q1, q2⟩)
        · exact k'
        · have := (doneL_get D pd' hnd' k c).2 ⟨i', q1, (hDpd _ q1).1 q2⟩
          rw [hg] at this; cases this
  · have := h.plt q ((hmem' q).1 hq).1
    exact ⟨by omega, this.2⟩
  · obtain ⟨q1, _⟩ := (hmem' q).1 hq
    rw [hext' _ (h.plt q q1).1]
    exact h.pun q q1 (hD _ hd).1
  · obtain ⟨q1, _⟩ := (hmem' q).1 hq
    rw [hext' _ (h.plt q q1).1]
    exact h.pdn q q1 ((hDpd q hq).1 hd)
  · simp only [List.map_append, List.mem_append]
    exact .inl (h.ppre q ((hmem' q).1 hq).1)
  · rcases List.mem_append.1 hz with hz | hz
    · rw [putE_get, if_neg (hnd z hz u hu)]
      exact h.eE1 z hz u (hD _ hd).1 hu
    · simp only [List.mem_singleton] at hz; subst hz
      exact absurd rfl (hD _ hd).2
  · rw [putE_get, putE_get]
    split
    · rfl
    · refine h.eE2 u fun z hz hzd hzu => hu z (by simp [hz]) ?_ hzu
      cases hd : D' z.i with
      | false => rfl
      | true =>
        rcases (hD' _).1 hd with k | k
        · exact absurd (k ▸ List.mem_map_of_mem hz) hxi
        · rw [hzd] at k; cases k
  · rw [putE_get, if_neg (hu x (by simp))]
    exact h.e00 u fun z hz => hu z (by simp [hz])
  · rcases List.mem_append.1 hz with hz | hz
    · have hzd := (hD _ hd).1
      have hzb : (anc.getD x.i 0).testBit z.i = false := by
        cases hb : (anc.getD x.i 0).testBit z.i with
        | false => rfl
        | true => rw [hanc _ hb] at hzd; cases hzd
      refine (h.recs z hz hzd).mono (fun u k y k1 k2 k3 => ?_) (fun d hd' => ?_) (fun o ho => ?_) (fun o k c ho ha hc => ?_) fun q hq => ?_
      · rw [putE_get, if_neg]
        intro hxu
        have := hp.slot1 _ _ _ _ u k1 hxins k2 hxu
        subst this
        exact hxi (hp.before h.split hz k3)
      · rw [putE_get, if_neg (hnd z hz d hd')]
      · obtain ⟨u, rfl⟩ := hp.slot4 _ _ _ (hp.at (hpre z hz)) ho
        show (putE e x.ins.dst v).get u = e.get u
        rw [putE_get, if_neg]
        intro hxu
        exact hxi (hp.before h.split hz (hp.slot3 _ _ _ _ u hxins (hp.at (hpre z hz)) hxu ho))
      · rw [← hwatch o (hxwt z hz hzb o ho) k ha]
        rw [getP_iff hnd' hm0, hmget]
        rw [getP_iff h.pnd h.pnone] at hc
        rcases hc with hc | ⟨i, hc⟩
        · exact .inl (.inl hc)
        · cases hm : memN x.ab i with
          | true => exact .inl (.inr ⟨i, hc, hm⟩)
          | false => exact .inr ⟨i, (hmem' _).2 ⟨hc, hm⟩⟩
      · rw [hmem']
        constructor
        · exact fun k => k.1
        · intro k
          refine ⟨k, ?_⟩
          cases hm : memN x.ab q.1 with
          | false => rfl
          | true =>
            have := hxab _ hm
            rw [hq, hzb] at this; cases this
    · simp only [List.mem_singleton] at hz; subst hz
      exact absurd rfl (hD _ hd).2

/-- a step that changes memory, or calls -/
theorem exec_eff (hp : PlanF P ops anc ins p) {x : AStep} {r : List AStep} {Q : Exit → Act → World → Prop} {next : Act → World → Prop} (h : J P F anc ins p K D pre (x :: r) e0 e E s T pd act ι w M)
    (hxe : x.e = true) (hanc : ∀ j, (anc.getD x.i 0).testBit j = true → D j = true) (hD' : ∀ j, D' j = true ↔ j = x.i ∨ D j = true) (hslot : slotIn F.N x.ins.dst = true)
    (hk : ∀ e' E' s' T' pd' act' ι' w' M', J P F anc ins p K D' (pre ++ [x]) r e0 e' E' s' T' pd' act' ι' w' M' → next act' w') : wpOp P ops.toArray Q x.i next act w := by
  have hxi : x.i ∉ pre.map (·.i) := (hp.order pre x r h.split).2.1
  have hxp : x ∈ p := by rw [h.split]; simp
  have hpre : ∀ x ∈ pre, x ∈ p := fun x hx => by rw [h.split]; simp [hx]
  have hxins := hp.at hxp
  obtain ⟨o, ho, hio⟩ := hp.insOk _ _ hxins
  obtain ⟨hop, hdst⟩ := insOf_op hio
  have hE : ∀ u ∈ x.ins.reads, e.get u = E.get u := fun u hu => by
    refine (h.eE2 u fun z hz hzd hzu => ?_).symm
    rcases (hp.slot2 _ _ _ _ u (hp.at (hpre z hz)) hxins hzu hu).2 with k | k
    · rw [hanc _ k] at hzd; cases hzd
    · exact hxi (hp.before h.split hz k)
  have hst := (hp.steps pre x r h.split).2
  have hW := h.W
  rw [drawW_cons, hxe, cond_true] at hW
  cases hab : absorb x.ab pd s.m with
  | mk m pd' =>
  simp only [hab] at hW
  have hxab : ∀ j, memN x.ab j = true → (anc.getD x.i 0).testBit j = true := fun j hj => by
    rw [memN_iff] at hj
    rw [hst] at hj
    unfold stepOf at hj
    cases hE : x.ins.op.isE with
    | false => simp [hE] at hj
    | true =>
      simp only [hE, cond_true, List.mem_filter, Bool.and_eq_true] at hj
      exact hj.2.1
  have hmT : ∀ k c, (St.mk s.next m).get k = some c → T.get k = some c := fun k c hc => by
    rw [h.tget]
    have := absorb_get x.ab pd s.m h.pnd h.pnone k c
    rw [hab] at this
    rcases this.1 hc with q | ⟨i, q, q'⟩
    · exact .inl q
    · exact .inr ⟨i, q, hanc i (hxab i q')⟩
  have hRm : Rep ι ⟨s.next, m⟩ w M := h.rep.sub hmT h.tnext.symm
  have hgetO : ops.toArray[x.i]? = some o := by simpa using ho
  unfold wpOp
  rw [hgetO]
  simp only
  rcases guardW_spec hW with ⟨hg, hW⟩ | ⟨hg, hW⟩
  · rw [guardOk_congr hE] at hg
    rcases guard_sound hio h.env (guardW_of hg) with ⟨hw, _⟩ | ⟨_, hc⟩
    case inr => cases hc
    rw [if_pos hw]
    refine .inl ?_
    unfold Oper.wp
    rcases insW_spec hW with ⟨v, eff, hd, hW⟩ | ⟨f, args, hd, hW⟩
    · rw [appW_eq] at hW
      obtain ⟨hwt, hW⟩ := watch_spec _ _ hW
      rw [putW_eq] at hW
      rw [opD_congr _ (ev_congr hE)] at hd
      obtain ⟨V, ι', w', M', hrun, h1, h2, h3, h4, h5⟩ := op_does (n0 := s.next) hop hRm h.env (Nat.le_refl _) hd
      obtain ⟨T', hJ⟩ := h.execE hp hxe hanc hD' hslot hab hW h1 h2 h3 h4 h5 hwt
      rw [hdst] at hJ
      rcases hrun with hrun | ⟨hrun, rfl⟩
      · rw [hrun, Oper.upon_value]; exact hk _ _ _ _ _ _ _ _ _ hJ
      · rw [hrun, Oper.upon_skip]; exact hk _ _ _ _ _ _ _ _ _ hJ
    · unfold Tr at hW
      obtain ⟨hb, hW⟩ := hW
      rw [opD_congr _ (ev_congr hE)] at hd
      obtain ⟨Vs, hrun, hVs⟩ := op_calls hop hRm h.env hd hb
      rw [hrun, Oper.upon_enter]
      refine Calls.mono (hW ι w M Vs hRm hVs) fun en w' he => ?_
      obtain ⟨V, ι', M', v, s', rfl, hK, h1, h2, h3⟩ := he
      obtain ⟨hwt, hK⟩ := watch_spec _ _ hK
      rw [forceV_eq, putW_eq] at hK
      obtain ⟨T', hJ⟩ := h.execE hp hxe hanc hD' hslot hab hK h1 h2 h3 (Rep.ext_all (n0 := 0) hRm h3) (GoImm h3 fun b hb => hRm.ownM hb) hwt
      rw [hdst] at hJ
      exact hk _ _ _ _ _ _ _ _ _ hJ
  · rw [guardOk_congr hE] at hg
    rcases guard_sound hio h.env (guardW_of hg) with ⟨_, hc⟩ | ⟨hw, _⟩
    · cases hc
    · rw [if_neg (by simp [hw])]
      rw [putW_eq] at hW
      obtain ⟨T', hJ⟩ := h.execE hp hxe hanc hD' hslot hab hW VRel.skip hRm (Go.refl _ _ _ _ (Nat.le_refl _)) (fun _ _ h => h) (Imm.refl _ _) (fun _ _ _ _ => rfl)
      rw [hdst] at hJ
      exact hk _ _ _ _ _ _ _ _ _ hJ

theorem count_lt {f f' : Nat → Bool} : ∀ (l : List Nat) (i : Nat), i ∈ l → (∀ j, f' j = true → f j = true) → f i = true → f' i = false → (l.filter f').length < (l.filter f).length
  | [], i, h, _, _, _ => by simp at h
  | a :: r, i, h, hm, h1, h2 => by
    have hle : (r.filter f').length ≤ (r.filter f).length := by
      have : ∀ l : List Nat, (l.filter f').length ≤ (l.filter f).length := by
        intro l
        induction l with
        | nil => simp
        | cons b q ih =>
          simp only [List.filter_cons]
          cases hb' : f' b with
          | true => simp [hm b hb', ih]
          | false =>
            cases hb : f b with
            | true => simp; omega
            | false => simp; exact ih
      exact this r
    simp only [List.filter_cons]
    rcases List.mem_cons.1 h with rfl | h
    · simp [h1, h2]; omega
    · have ih := count_lt r i h hm h1 h2
      cases ha' : f' a with
      | true => simp [hm a ha', ih]
      | false =>
        cases ha : f a with
        | true => simp; omega
        | false => simpa using ih

theorem draw_run {Q : Exit → Act → World → Prop} (hp : PlanF P ops anc ins p) (hslots : ∀ x ∈ p, slotIn F.N x.ins.dst = true)
    (hQ : ∀ e' s' act' ι' w' M', Inv F e' s' act' ι' w' M' → K e' s' → Q .normal act' w') :
    ∀ (fuel : Nat) (listed : Array Bool), listed.size = ops.length → ((List.range ops.length).filter fun i => !listed.getD i false).length ≤ fuel →
      ∀ {pre rest e E s T pd act ι w M}, J P F anc ins p K (fun i => listed.getD i false) pre rest e0 e E s T pd act ι w M → (rest = [] ∨ ∃ y r, rest = y :: r ∧ y.e = true) →
      wpAny P .any ops.toArray Q fuel listed act w := by
  -- all are done
  have fin : ∀ (listed : Array Bool), listed.size = ops.length → Region.ready .any ops.toArray listed = [] →
      ∀ {pre rest e E s T pd act ι w M}, J P F anc ins p K (fun i => listed.getD i false) pre rest e0 e E s T pd act ι w M → Q .normal act w := by
    intro listed hsz hr pre rest e E s T pd act ι w M h
    have hall : ∀ (l a : List AStep), p = a ++ l → (∀ z ∈ a, listed.getD z.i false = true) → ∀ z ∈ p, listed.getD z.i false = true := by
      intro l
      induction l with
      | nil => intro a ha hd z hz; rw [ha] at hz; exact hd z (by simpa using hz)
      | cons y r ih =>
        intro a ha hd
        refine ih (a ++ [y]) (by rw [ha]; simp) fun z hz => ?_
        rcases List.mem_append.1 hz with hz | hz
        · exact hd z hz
        · simp only [List.mem_singleton] at hz
          subst hz
          have hzp : z ∈ p := by rw [ha]; simp
          obtain ⟨o, ho, hio⟩ := hp.insOk _ _ (hp.at hzp)
          have hlt : z.i < ops.length := (List.getElem?_eq_some_iff.1 ho).1
          cases hl : listed.getD z.i false with
          | true => rfl
          | false =>
            exfalso
            have hmem : z.i ∈ Region.ready .any ops.toArray listed := by
              rw [mem_ready]
              refine ⟨?_, o, by simpa using ho, fun ed hed hb => ?_⟩
              · have hlt' : z.i < listed.size := by omega
                simp only [Array.getD, hlt', dif_pos] at hl ⊢
                exact hl
              · have hdep : ed.on ∈ depsOf o := by
                  unfold depsOf
                  exact List.mem_map_of_mem (List.mem_filter.2 ⟨by simpa using hed, hb⟩)
                have hbit : (anc.getD z.i 0).testBit ed.on = true := by
                  rw [hp.deps _ o ho, orAll_bit]
                  exact ⟨_, hdep, .inl rfl⟩
                have hin := (hp.order a z r ha).1 _ hbit
                obtain ⟨y', hy', hyi⟩ := List.mem_map.1 hin
                rw [← hyi]
                exact hd y' hy'
            rw [hr] at hmem
            simp at hmem
    have hdone := hall p [] (by simp) (by simp)
    have hrest : rest = [] := by
      cases hrr : rest with
      | nil => rfl
      | cons y r =>
        have hs := h.split
        rw [hrr] at hs
        have := hdone y (by rw [hs]; simp)
        exact absurd (h.dpre _ this) (hp.order pre y r hs).2.1
    subst hrest
    have hW := h.W
    rw [drawW_nil] at hW
    have hpp : pre = p := by rw [h.split]; simp
    have hsub : ∀ k c, (St.mk s.next (flush pd s.m)).get k = some c → T.get k = some c := fun k c hc => by
      rw [h.tget]
      rcases flush_get pd s.m k c hc with q | ⟨i, q⟩
      · exact .inl q
      · refine .inr ⟨i, q, ?_⟩
        obtain ⟨y, hy, hyi⟩ := List.mem_map.1 (h.ppre _ q)
        have := hdone y (hpp ▸ hy)
        rw [hyi] at this
        exact this
    refine hQ _ _ _ ι w M ⟨h.rep.sub hsub h.tnext.symm, fun u => ?_, h.size, h.dfr, h.go.sub hsub (by rw [h.tnext]; exact Nat.le_refl _)⟩ hW
    rw [← h.eE2 u fun z hz hzd => by rw [hdone z (hpp ▸ hz)] at hzd; cases hzd]
    exact h.env u
  intro fuel
  induction fuel with
  | zero =>
    intro listed hsz hc pre rest e E s T pd act ι w M h _
    have hr : Region.ready .any ops.toArray listed = [] := by
      cases hrd : Region.ready .any ops.toArray listed with
      | nil => rfl
      | cons i q =>
        exfalso
        have hi : i ∈ Region.ready .any ops.toArray listed := by rw [hrd]; simp
        obtain ⟨h1, o, h2, _⟩ := mem_ready.1 hi
        have hlt : i < ops.length := by
          have := (Array.getElem?_eq_some_iff.1 h2).1
          simpa using this
        have hl : listed.getD i false = false := by
          have hlt' : i < listed.size := by omega
          simp only [Array.getD, hlt', dif_pos] at h1 ⊢
          exact h1
        have : i ∈ (List.range ops.length).filter fun i => !listed.getD i false := List.mem_filter.2 ⟨List.mem_range.2 hlt, by simp only [hl]; rfl⟩
        have := List.length_pos_of_mem this
        omega
    exact ⟨hr, fin listed hsz hr h⟩
  | succ fuel ih =>
    intro listed hsz hc pre rest e E s T pd act ι w M h hrest
    refine ⟨fun hr => fin listed hsz hr h, fun i hi => ?_⟩
    obtain ⟨h1, o, h2, h3⟩ := mem_ready.1 hi
    have ho : ops[i]? = some o := by simpa using h2
    have hlt : i < ops.length := (List.getElem?_eq_some_iff.1 ho).1
    have hlt' : i < listed.size := by omega
    have hl : listed.getD i false = false := by
      simp only [Array.getD, hlt', dif_pos] at h1 ⊢
      exact h1
    obtain ⟨x, hxp, rfl⟩ := hp.cover i hlt
    have hanc : ∀ j, (anc.getD x.i 0).testBit j = true → listed.getD j false = true := fun j hj => by
      rw [hp.deps _ o ho, orAll_bit] at hj
      obtain ⟨d, hd, hj⟩ := hj
      have hdd : listed.getD d false = true := by
        unfold depsOf at hd
        obtain ⟨ed, hed, rfl⟩ := List.mem_map.1 hd
        obtain ⟨q1, q2⟩ := List.mem_filter.1 hed
        exact h3 ed (by simpa using q1) q2
      rcases hj with rfl | hj
      · exact hdd
      · exact h.dcl d j hdd hj
    have hset : ∀ j, (listed.setIfInBounds x.i true).getD j false = true ↔ j = x.i ∨ listed.getD j false = true := fun j => by
      by_cases hj : j = x.i
      · subst hj
        simp [Array.getD, hlt']
      · have : (listed.setIfInBounds x.i true).getD j false = listed.getD j false := by
          simp only [Array.getD_eq_getD_getElem?, Array.getElem?_setIfInBounds_ne (fun e => hj e.symm)]
        rw [this]
        simp [hj]
    have hcnt : ((List.range ops.length).filter fun i => !(listed.setIfInBounds x.i true).getD i false).length ≤ fuel := by
      have := count_lt (f := fun i => !listed.getD i false) (f' := fun i => !(listed.setIfInBounds x.i true).getD i false) (List.range ops.length) x.i (List.mem_range.2 hlt) (fun j hj => by
        simp only [Bool.not_eq_true'] at hj ⊢
        cases hjj : listed.getD j false with
        | false => rfl
        | true => rw [(hset j).2 (.inr hjj)] at hj; cases hj) (by simp only [hl]; rfl) (by simp only [(hset x.i).2 (.inl rfl)]; rfl)
      omega
    have hsz' : (listed.setIfInBounds x.i true).size = ops.length := by simp [hsz]
    have next : ∀ {pre rest e E s T pd act ι w M}, J P F anc ins p K (fun i => (listed.setIfInBounds x.i true).getD i false) pre rest e0 e E s T pd act ι w M → wpAny P .any ops.toArray Q fuel (listed.setIfInBounds x.i true) act w := by
      intro pre rest e E s T pd act ι w M hJ
      obtain ⟨pre', rest', e', s', T', pd', hJ', hr'⟩ := advance hp rest pre hJ
      exact ih _ hsz' hcnt hJ' hr'
    -- in the plan's past, or next
    have hx : x ∈ pre ∨ x ∈ rest := by
      have := hxp
      rw [h.split] at this
      exact List.mem_append.1 this
    rcases hx with hx | hx
    · exact exec_plain hp h hx hl hanc hset (hslots x hxp) fun E' T' act' ι' w' M' hJ => next hJ
    · rcases hrest with hr | ⟨y, r, hr, hye⟩
      · rw [hr] at hx; simp at hx
      · subst hr
        rcases List.mem_cons.1 hx with rfl | hx
        · exact exec_eff hp h hye hanc hset (hslots x hxp) fun e' E' s' T' pd' act' ι' w' M' hJ => next hJ
        · exfalso
          have hb := (hp.order pre y r h.split).2.2 hye x hx
          have := h.dpre _ (hanc _ hb)
          exact (hp.order pre y r h.split).2.1 this

end

theorem drawOk {P : Program} (hm : P.follows .mixedOrders = true) : DrawOk P := by
  intro F id ops p hc hd e s act ι w M K Q hI hW hQ
  unfold compReg at hc
  split at hc
  · rename_i l hl
    simp only [cond_true] at hc
    cases hpk : planOk P ops.toList l (ancs ops.toList []) (plan (ancs ops.toList []) l l.length [] 0) with
    | false => simp [hpk] at hc
    | true =>
      simp only [hpk, cond_true, Option.some.injEq, ACode.draw.injEq] at hc
      have hp := planF hl (p := p) hc.symm (by rw [← hc]; exact hpk)
      have hslots : ∀ x ∈ p, slotIn F.N x.ins.dst = true := by
        simp only [dstOk, List.all_eq_true] at hd
        exact hd
      refine wp_region_any hm ?_
      have hI' : Inv F e s act ι w.drew M := ⟨hI.rep.drew, hI.env.mono .drew (fun _ _ h => h), hI.size, hI.dfr, hI.go.trans (Go.drew hI.go.next) F.lt⟩
      have hfalse : ∀ i, (Array.replicate ops.size false).getD i false = false := fun i => by
        by_cases hi : i < ops.size <;> simp [Array.getD, hi]
      have hJ : J P F (ancs ops.toList []) l p K (fun i => (Array.replicate ops.size false).getD i false) [] p e e e s s [] act ι w.drew M := by
        refine ⟨rfl, fun i hi => ?_, fun i j hi => ?_, fun x hx => by simp at hx, hW, hI'.rep, fun h c => by simp, rfl, List.Pairwise.nil, fun q hq => by simp at hq, fun q hq => by simp at hq, fun q hq => by simp at hq, fun q hq => by simp at hq, fun q hq => by simp at hq, hI'.env, fun x hx => by simp at hx, fun _ _ => rfl, fun _ _ => rfl, fun x hx => by simp at hx, hI'.size, hI'.dfr, hI'.go⟩
        · rw [hfalse] at hi; cases hi
        · rw [hfalse] at hi; cases hi
      obtain ⟨pre', rest', e', s', T', pd', hJ', hr'⟩ := advance hp p [] hJ
      have hrun := draw_run (Q := Q) hp hslots hQ ops.size (Array.replicate ops.size false) (by simp) (by
        refine Nat.le_trans (List.length_filter_le _ _) ?_
        simp) hJ' hr'
      simpa using hrun
  · simp at hc
end Go.Ab
