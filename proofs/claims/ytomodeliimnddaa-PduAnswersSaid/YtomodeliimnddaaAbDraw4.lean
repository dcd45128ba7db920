/- The engine's soundness: regions whose order is open: the program catches up. -/
import Derived.Test.YtomodeliimnddaaAbDraw3
set_option linter.unusedVariables false
set_option linter.unusedSimpArgs false
set_option autoImplicit false
namespace Go.Ab

section
variable {P : Program} {F : From} {ops : List Oper} {anc : List Nat} {ins : List AIns} {p : List AStep} {K : Env → St → Prop} {D D' : Nat → Bool} {pre rest : List AStep} {e0 e E : Env} {s T : St} {pd : Pend} {act : Act} {ι : Iota} {w : World} {M : Nat → Prop}

theorem PNd.inj : ∀ {pd : Pend}, PNd pd → ∀ {q q' : Nat × Nat × Chunk}, q ∈ pd → q' ∈ pd → q.2.1 = q'.2.1 → q = q'
  | [], _, q, q', h, _, _ => by simp at h
  | a :: r, hn, q, q', h, h', he => by
    obtain ⟨h1, h2⟩ := List.pairwise_cons.1 hn
    rcases List.mem_cons.1 h with rfl | k <;> rcases List.mem_cons.1 h' with rfl | k'
    · rfl
    · exact absurd he (h1 _ k')
    · exact absurd he.symm (h1 _ k)
    · exact PNd.inj h2 k k' he
theorem addr_some {v : AV} {V : Value} {h : Nat} (hv : VRel ι w M v V) (ha : addrA v = some h) : ∃ p, ι h = some p := by
  cases v <;> simp only [addrA, Option.some.injEq, reduceCtorEq] at ha <;> subst ha
  · obtain ⟨b, base, hi, _⟩ := hv.ptr_inv; exact ⟨_, hi⟩
  · rcases hv.sl_inv with ⟨b, base, _, _, _, _, hi, _⟩ | ⟨hi, _⟩ <;> exact ⟨_, hi⟩

/-- the program does one step that the plan has done -/
theorem J.exec (hp : PlanF P ops anc ins p) {x : AStep} {v : AV} {V : Value} {T' : St} {ι' : Iota} {w' : World} {M' : Nat → Prop} (h : J P F anc ins p K D pre rest e0 e E s T pd act ι w M) (hx : x ∈ pre) (hxD : D x.i = false)
    (hanc : ∀ j, (anc.getD x.i 0).testBit j = true → D j = true) (hD' : ∀ j, D' j = true ↔ j = x.i ∨ D j = true) (hslot : slotIn F.N x.ins.dst = true)
    (hv : ∀ d, x.ins.dst = some d → e.get d = v) (hV : VRel ι' w' M' v V) (hR : Rep ι' T' w' M') (hT : ∀ h c, T'.get h = some c ↔ s.get h = some c ∨ ∃ i, (i, h, c) ∈ pd ∧ D' i = true) (hTn : T'.next = s.next)
    (hgo : Go F.n0 ι T w M ι' T' w' M') (hext : ∀ h p, ι h = some p → ι' h = some p) (hi : Imm w M w' M') (hpun : ∀ q ∈ pd, D' q.1 = false → ι' q.2.1 = none) (hpdn : ∀ q ∈ pd, q.1 = x.i → ∃ p, ι' q.2.1 = some (some p)) :
    J P F anc ins p K D' pre rest e0 e (putE E x.ins.dst v) s T' pd (act.put x.ins.dst V) ι' w' M' := by
  have hpre : ∀ x ∈ pre, x ∈ p := fun x hx => by rw [h.split]; simp [hx]
  have hD : ∀ j, D' j = false → D j = false ∧ j ≠ x.i := fun j hj => by
    constructor
    · cases hd : D j with
      | false => rfl
      | true => rw [(hD' j).2 (.inr hd)] at hj; cases hj
    · intro e; rw [(hD' j).2 (.inl e)] at hj; cases hj
  refine ⟨h.split, fun i hi => ?_, fun i j hi hj => ?_, fun z hz he => (hD' _).2 (.inr (h.eDone z hz he)), h.W, hR, hT, hTn, h.pnd, h.pnone, h.plt, hpun, fun q hq hd => ?_, h.ppre, (h.env.mono hi hext).put hV hslot h.size, fun z hz u hd hu => ?_, fun u hu => ?_, h.e00, fun z hz hd => h.recs z hz (hD _ hd).1, by rw [put_size]; exact h.size, by rw [put_defers]; exact h.dfr, h.go.trans hgo F.lt⟩
  · rcases (hD' i).1 hi with rfl | k
    · exact List.mem_map_of_mem hx
    · exact h.dpre i k
  · rcases (hD' i).1 hi with rfl | k
    · exact (hD' j).2 (.inr (hanc j hj))
    · exact (hD' j).2 (.inr (h.dcl i j k hj))
  · rcases (hD' _).1 hd with k | k
    · exact hpdn q hq k
    · obtain ⟨p, hp⟩ := h.pdn q hq k
      exact ⟨p, hext _ _ hp⟩
  · obtain ⟨k1, k2⟩ := hD _ hd
    rw [putE_get, if_neg]
    · exact h.eE1 z hz u k1 hu
    · intro hxu
      exact k2 (hp.slot1 _ _ _ _ u (hp.at (hpre z hz)) (hp.at (hpre x hx)) hu hxu)
  · rw [putE_get]
    split
    · rename_i hxu; exact (hv u hxu).symm
    · rename_i hxu
      refine h.eE2 u fun z hz hzd hzu => ?_
      by_cases hzx : z.i = x.i
      · exact hxu (by rw [← hp.mem_i (hpre z hz) (hpre x hx) hzx]; exact hzu)
      · refine hu z hz ?_ hzu
        cases hd : D' z.i with
        | false => rfl
        | true =>
          rcases (hD' _).1 hd with k | k
          · exact absurd k hzx
          · rw [hzd] at k; cases k

/-- a step that changes nothing that was there -/
theorem exec_plain (hp : PlanF P ops anc ins p) {x : AStep} {Q : Exit → Act → World → Prop} {next : Act → World → Prop} (h : J P F anc ins p K D pre rest e0 e E s T pd act ι w M) (hx : x ∈ pre) (hxD : D x.i = false)
    (hanc : ∀ j, (anc.getD x.i 0).testBit j = true → D j = true) (hD' : ∀ j, D' j = true ↔ j = x.i ∨ D j = true) (hslot : slotIn F.N x.ins.dst = true)
    (hk : ∀ E' T' act' ι' w' M', J P F anc ins p K D' pre rest e0 e E' s T' pd act' ι' w' M' → next act' w') : wpOp P ops.toArray Q x.i next act w := by
  have hpre : ∀ x ∈ pre, x ∈ p := fun x hx => by rw [h.split]; simp [hx]
  have hxins := hp.at (hpre x hx)
  obtain ⟨o, ho, hio⟩ := hp.insOk _ _ hxins
  obtain ⟨hop, hdst⟩ := insOf_op hio
  have hxe : x.ins.op.isE = false := by
    obtain ⟨a, b, hab⟩ := List.append_of_mem (hpre x hx)
    have h1 := (hp.steps a x b hab).2
    have h2 := (stepOf_i anc ins (a.map (·.i)) x.i x.ins).2.2
    rw [← h1] at h2
    cases he : x.e with
    | false => rw [← h2, he]
    | true => rw [h.eDone x hx he] at hxD; cases hxD
  obtain ⟨ei, gi, ni, r, k1, k2, k3⟩ := h.recs x hx hxD
  have hE : ∀ u ∈ x.ins.reads, ei.get u = E.get u := fun u hu => by
    by_cases hw : ∃ (k : Nat) (y : AIns), ins[k]? = some y ∧ y.dst = some u ∧ (anc.getD x.i 0).testBit k = true
    · rw [(k1 u hu).1 hw]
      obtain ⟨k, y, q1, q2, q3⟩ := hw
      refine (h.eE2 u fun z hz hzd hzu => ?_).symm
      have := hp.slot1 _ _ _ _ u (hp.at (hpre z hz)) q1 hzu q2
      rw [this, hanc k q3] at hzd
      cases hzd
    · rw [(k1 u hu).2 hw]
      by_cases hex : ∃ z ∈ pre, D z.i = false ∧ z.ins.dst = some u
      · obtain ⟨z, hz, hzd, hzu⟩ := hex
        exact (h.eE1 z hz u hzd hzu).symm
      · rw [h.eE2 u fun z hz hzd hzu => hex ⟨z, hz, hzd, hzu⟩]
        refine (h.e00 u fun z hz hzu => ?_).symm
        rcases (hp.slot2 _ _ _ _ u (hp.at (hpre z hz)) hxins hzu hu).2 with k | k
        · exact hw ⟨z.i, z.ins, hp.at (hpre z hz), hzu, k⟩
        · cases hzd : D z.i with
          | false => exact hex ⟨z, hz, hzd, hzu⟩
          | true => rw [h.dcl _ _ hzd k] at hxD; cases hxD
  have hTm : ∀ k c, T.get k = some c ↔ s.get k = some c ∨ ∃ i, (i, k, c) ∈ pd ∧ D i = true := h.tget
  -- the same blocks
  have hsame : (∀ q ∈ pd, q.1 ≠ x.i) → ∀ k c, T.get k = some c ↔ s.get k = some c ∨ ∃ i, (i, k, c) ∈ pd ∧ D' i = true := fun hno k c => by
    rw [hTm]
    constructor
    · rintro (q | ⟨i, q1, q2⟩)
      · exact .inl q
      · exact .inr ⟨i, q1, (hD' i).2 (.inr q2)⟩
    · rintro (q | ⟨i, q1, q2⟩)
      · exact .inl q
      · rcases (hD' i).1 q2 with q | q
        · exact absurd q (hno _ q1)
        · exact .inr ⟨i, q1, q⟩
  have hund : ∀ j, D' j = false → D j = false := fun j hj => by
    cases hd : D j with
    | false => rfl
    | true => rw [(hD' j).2 (.inr hd)] at hj; cases hj
  have stay : ∀ (v : AV) (V : Value), (∀ d, x.ins.dst = some d → e.get d = v) → VRel ι w M v V → (∀ q ∈ pd, q.1 ≠ x.i) → next (act.put x.ins.dst V) w := fun v V hv hV hno =>
    hk _ T _ ι w M (h.exec hp hx hxD hanc hD' hslot hv hV h.rep (hsame hno) h.tnext (Go.refl _ _ _ _ h.go.next) (fun _ _ h => h) (Imm.refl _ _) (fun q hq hd => h.pun q hq (hund _ hd)) fun q hq hqi => absurd hqi (hno q hq))
  have hgetO : ops.toArray[x.i]? = some o := by simpa using ho
  unfold wpOp
  rw [hgetO]
  simp only
  rcases k3 with ⟨q1, q2, q3⟩ | ⟨q1, v, eff, q2, q3, q4, q5, q6⟩
  · rw [guardOk_congr hE] at q1
    rcases guard_sound hio h.env (guardW_of q1) with ⟨_, hc⟩ | ⟨hw, _⟩
    · cases hc
    · rw [if_neg (by simp [hw])]
      rw [← hdst]
      refine stay (.tup []) undef q2 VRel.skip fun q hq hqi => ?_
      have := k2 q hq hqi
      rw [q3] at this
      cases this
  · rw [guardOk_congr hE] at q1
    rcases guard_sound hio h.env (guardW_of q1) with ⟨hw, _⟩ | ⟨_, hc⟩
    case inr => cases hc
    rw [if_pos hw]
    refine .inl ?_
    have hev := ev_congr hE
    rw [opD_congr _ hev] at q2
    have hlk : ∀ o' k c, x.ins.op.looks = some o' → addrA (AOpd.ev E o') = some k → gi k = some c → T.get k = some c := fun o' k c hlo ha hc => by
      obtain ⟨u, rfl⟩ := hp.slot4 _ _ _ hxins hlo
      obtain ⟨_, hq⟩ := opD_get (g' := gi) _ hxe (fun _ _ _ _ _ h => h) q2
      have hmem := (hq _ k hlo ha).1
      have ha' : addrA (AOpd.ev ei (.t u)) = some k := by rw [hev _ hmem]; exact ha
      have := q5 _ k c hlo ha' hc
      rw [getP_iff h.pnd h.pnone] at this
      rw [hTm]
      rcases this with q | ⟨i, q⟩
      · exact .inl q
      · refine .inr ⟨i, q, ?_⟩
        cases hd : D i with
        | true => rfl
        | false =>
          obtain ⟨pp, hpp⟩ := addr_some (h.env u) ha
          have := h.pun _ q hd
          simp only at this
          rw [this] at hpp
          cases hpp
    obtain ⟨q2', _⟩ := opD_get (g' := T.get) _ hxe hlk q2
    unfold Oper.wp
    cases hA : x.ins.op.isA with
    | false =>
      obtain ⟨⟨V, hrun, hV⟩, rfl⟩ := op_pure hop hxe hA h.env.orel h.rep.hget q2'
      rw [hrun, Oper.upon_value, ← hdst]
      refine stay v V q3 hV fun q hq hqi => ?_
      rcases q6 with ⟨_, q6⟩ | ⟨c, q6, _⟩
      · have := k2 q hq hqi; rw [q6] at this; cases this
      · cases q6
    | true =>
      obtain ⟨c, rfl, V, cs, ty, hrun, m1, m2, m3⟩ := op_make hop hA h.env.orel q2'
      rcases q6 with ⟨q6, _⟩ | ⟨c', q6, q7, q8⟩
      · cases q6
      · simp only [Eff.new.injEq] at q6
        subst q6
        have hni : ι ni = none := h.pun _ q8 hxD
        obtain ⟨hlt, hge⟩ := h.plt _ q8
        simp only at hlt hge
        have hTg : T.get ni = none := by
          cases hg : T.get ni with
          | none => rfl
          | some c1 =>
            rcases (hTm _ _).1 hg with q | ⟨i, q, q'⟩
            · have := h.pnone _ q8; simp only at this; rw [this] at q; cases q
            · have := PNd.inj h.pnd q8 q rfl
              simp only [Prod.mk.injEq] at this
              rw [← this.1, hxD] at q'; cases q'
        rw [hrun, Oper.upon_value, ← hdst]
        have hx' := ι.set_ext ni (some (w.heap.size, 0)) hni
        have hI := Imm.alloc (w := w) (M := M) (.cells cs ty)
        have hR2 := Rep.alloc (cs := cs) (T := ty) (h := ni) h.rep hni (by rw [h.tnext]; exact hlt) hTg
        have hR3 : Rep (ι.set ni (some (w.heap.size, 0))) ⟨T.next, (ni, some c) :: T.m⟩ (w.alloc (.cells cs ty)) (addM M w.heap.size) := by
          refine hR2.put (.inr ⟨w.heap.size, 0, ι.set_same _ _, .inr rfl, ⟨cs, ty, (0, 0), heap_alloc_new w _, fun i _ => by omega, by omega, fun j hj => ?_⟩, fun j c' pp hne hc' hpp => ?_⟩)
          · rw [Nat.zero_add]
            exact (m2 j hj).mono hI hx'
          · rw [ι.set_other _ _ _ hne] at hpp
            have hM := h.rep.ownM ⟨j, c', pp.2, hc', hpp⟩
            have := h.rep.lt _ hM
            omega
        have hgo := Go.alloc (n0 := F.n0) (h := ni) (o := .cells cs ty) (p := some (w.heap.size, 0)) (ι := ι) (s := T) (w := w) (M := M) h.go.next hge hTg hni
        refine hk _ _ _ _ _ _ (h.exec hp hx hxD hanc hD' hslot q3 (m3 (ι.set ni (some (w.heap.size, 0))) _ (ι.set_same _ _)) hR3 (fun k c1 => ?_) h.tnext ⟨hgo.size, hgo.tape, hgo.os, hgo.output, hgo.block, hgo.shape, hgo.back, hgo.keep, fun b hb hown => ?_, hgo.next, hgo.ext⟩ hx' hI (fun q hq hd => ?_) fun q hq hqi => ?_)
        · rw [St.get_cons]
          by_cases hk' : ni = k
          · subst hk'
            rw [if_pos rfl]
            constructor
            · intro hc; cases hc; exact .inr ⟨x.i, q8, (hD' _).2 (.inl rfl)⟩
            · rintro (q | ⟨i, q, _⟩)
              · have := h.pnone _ q8; simp only at this; rw [this] at q; cases q
              · have := PNd.inj h.pnd q8 q rfl
                simp only [Prod.mk.injEq] at this
                rw [this.2.2]
          · rw [if_neg hk']
            show T.get k = some c1 ↔ _
            rw [hTm]
            constructor
            · rintro (q | ⟨i, q, q'⟩)
              · exact .inl q
              · exact .inr ⟨i, q, (hD' i).2 (.inr q')⟩
            · rintro (q | ⟨i, q, q'⟩)
              · exact .inl q
              · rcases (hD' i).1 q' with q'' | q''
                · have := k2 _ q q''
                  rw [q7] at this
                  simp only [Option.some.injEq, Prod.mk.injEq] at this
                  exact absurd this.1 hk'
                · exact .inr ⟨i, q, q''⟩
        · obtain ⟨j, c', base, h1, h2⟩ := hown
          rw [St.get_cons] at h1
          split at h1
          · rename_i he
            subst he
            rw [ι.set_same] at h2
            simp only [Option.some.injEq, Prod.mk.injEq] at h2
            omega
          · rename_i he
            rw [ι.set_other _ _ _ (fun e => he e.symm)] at h2
            exact ⟨j, c', base, h1, h2⟩
        · have hne : q.2.1 ≠ ni := fun e => by
            have := PNd.inj h.pnd hq q8 e
            rw [this] at hd
            rw [(hD' _).2 (.inl rfl)] at hd
            cases hd
          rw [ι.set_other _ _ _ hne]
          exact h.pun q hq (hund _ hd)
        · have := k2 q hq hqi
          rw [q7] at this
          simp only [Option.some.injEq] at this
          rw [← this]
          exact ⟨_, ι.set_same _ _⟩

end
end Go.Ab
