/- The engine's soundness: regions whose order is open: what holds in between; the plan goes on ahead. -/
import Derived.Test.YtomodeliimnddaaAbDraw2
set_option linter.unusedVariables false
set_option linter.unusedSimpArgs false
set_option autoImplicit false
namespace Go.Ab

def guardOk (e : Env) (i : AIns) : Option Bool :=
  match i.guard with
  | none => some true
  | some g => match e.get g.1 with
    | .bool b => some (b == g.2)
    | .tup _ => some false
    | _ => none
theorem guardW_spec {e : Env} {i : AIns} {yes no : Prop} (h : guardW e i yes no) : (guardOk e i = some true ∧ yes) ∨ (guardOk e i = some false ∧ no) := by
  unfold guardW at h
  unfold guardOk
  split at h
  · rename_i hg; exact .inl ⟨by simp [hg], h⟩
  · rename_i g hg
    split at h
    · rename_i b hb
      simp only [hg, hb]
      obtain ⟨gi, want⟩ := g
      cases b <;> cases want <;> simp only [cond_true, cond_false] at h
      · exact .inl ⟨rfl, h⟩
      · exact .inr ⟨rfl, h⟩
      · exact .inr ⟨rfl, h⟩
      · exact .inl ⟨rfl, h⟩
    · rename_i l hb
      simp only [hg, hb]
      exact .inr ⟨trivial, h⟩
    · exact h.elim
theorem guardW_of {e : Env} {i : AIns} {b : Bool} (h : guardOk e i = some b) : guardW e i (b = true) (b = false) := by
  unfold guardOk at h
  unfold guardW
  split at h
  · rename_i hg; simp only [Option.some.injEq] at h; simp [hg, h]
  · rename_i g hg
    split at h
    · rename_i t ht
      simp only [Option.some.injEq] at h
      simp only [hg, ht]
      obtain ⟨gi, want⟩ := g
      cases t <;> cases want <;> simp_all
    · rename_i l ht
      simp only [Option.some.injEq] at h
      simp only [hg, ht]
      simp_all
    · simp at h
theorem guardOk_congr {e e' : Env} {i : AIns} (h : ∀ u ∈ i.reads, e.get u = e'.get u) : guardOk e i = guardOk e' i := by
  unfold guardOk
  cases hg : i.guard with
  | none => rfl
  | some g =>
    simp only
    rw [h g.1 (by simp [AIns.reads, hg])]
theorem ev_congr {e e' : Env} {i : AIns} (h : ∀ u ∈ i.reads, e.get u = e'.get u) : ∀ x ∈ i.op.opds, AOpd.ev e x = AOpd.ev e' x := by
  intro x hx
  cases x with
  | t n =>
    refine h n ?_
    simp only [AIns.reads, List.mem_append, slotsOf, List.mem_filterMap]
    exact .inl ⟨.t n, hx, rfl⟩
  | c v => rfl
  | f n => rfl
theorem insW_spec {s : St} {get : Nat → Option Chunk} {e : Env} {i : AIns} {K : AV → Eff → Prop} {C : Nat → List AV → Prop} (h : insW s get e i K C) :
    (∃ v eff, opD get s.next (AOpd.ev e) i.op = .ok true v eff ∧ K v eff) ∨ (∃ f args, opD get s.next (AOpd.ev e) i.op = .call f args ∧ C f args) := by
  unfold insW at h
  split at h
  · rename_i c v eff hd
    cases c with
    | false => simp at h
    | true =>
      simp only [cond_true, forceV_eq] at h
      refine .inl ⟨v, eff, hd, ?_⟩
      cases hs : i.split with
      | false => simp only [hs, cond_false] at h; exact h
      | true =>
        simp only [hs, cond_true] at h
        cases v <;> simp only [] at h
        rename_i b
        cases b <;> exact h
  · rename_i f args hd
    exact .inr ⟨f, args, hd, h⟩
  · exact h.elim

section
variable {P : Program}

/-- a step that the plan has done, and the program hasn't -/
def Rec (anc : List Nat) (ins : List AIns) (e0 e : Env) (s : St) (pd : Pend) (x : AStep) : Prop :=
  ∃ (ei : Env) (gi : Nat → Option Chunk) (ni : Nat) (r : Option (Nat × Chunk)),
    (∀ u ∈ x.ins.reads, ((∃ (k : Nat) (y : AIns), ins[k]? = some y ∧ y.dst = some u ∧ (anc.getD x.i 0).testBit k = true) → ei.get u = e.get u) ∧
      ((¬ ∃ (k : Nat) (y : AIns), ins[k]? = some y ∧ y.dst = some u ∧ (anc.getD x.i 0).testBit k = true) → ei.get u = e0.get u)) ∧
    (∀ q ∈ pd, q.1 = x.i → r = some q.2) ∧
    ((guardOk ei x.ins = some false ∧ (∀ d, x.ins.dst = some d → e.get d = .tup []) ∧ r = none) ∨
     (guardOk ei x.ins = some true ∧ ∃ v eff, opD gi ni (AOpd.ev ei) x.ins.op = .ok true v eff ∧ (∀ d, x.ins.dst = some d → e.get d = v) ∧
       (∀ o, x.ins.op.looks = some o → AOpd.ev ei o = AOpd.ev e o) ∧
       (∀ o h c, x.ins.op.looks = some o → addrA (AOpd.ev ei o) = some h → gi h = some c → getP s pd h = some c) ∧
       ((eff = .no ∧ r = none) ∨ ∃ c, eff = .new c ∧ r = some (ni, c) ∧ (x.i, ni, c) ∈ pd)))

theorem Rec.mono {anc : List Nat} {ins : List AIns} {e0 e e' : Env} {s s' : St} {pd pd' : Pend} {x : AStep} (h : Rec anc ins e0 e s pd x)
    (h1 : ∀ (u k : Nat) (y : AIns), ins[k]? = some y → y.dst = some u → (anc.getD x.i 0).testBit k = true → e'.get u = e.get u) (h2 : ∀ d, x.ins.dst = some d → e'.get d = e.get d)
    (h3 : ∀ o, x.ins.op.looks = some o → AOpd.ev e' o = AOpd.ev e o) (h4 : ∀ o h c, x.ins.op.looks = some o → addrA (AOpd.ev e o) = some h → getP s pd h = some c → getP s' pd' h = some c)
    (h5 : ∀ q, q.1 = x.i → (q ∈ pd' ↔ q ∈ pd)) : Rec anc ins e0 e' s' pd' x := by
  obtain ⟨ei, gi, ni, r, k1, k2, k3⟩ := h
  refine ⟨ei, gi, ni, r, fun u hu => ⟨fun hw => ?_, (k1 u hu).2⟩, fun q hq hi => k2 q ((h5 q hi).1 hq) hi, ?_⟩
  · rw [(k1 u hu).1 hw]
    obtain ⟨k, y, q1, q2, q3⟩ := hw
    exact (h1 u k y q1 q2 q3).symm
  · rcases k3 with ⟨q1, q2, q3⟩ | ⟨q1, v, eff, q2, q3, q4, q5, q6⟩
    · exact .inl ⟨q1, fun d hd => (h2 d hd).trans (q2 d hd), q3⟩
    · refine .inr ⟨q1, v, eff, q2, fun d hd => (h2 d hd).trans (q3 d hd), fun o ho => (q4 o ho).trans (h3 o ho).symm, fun o h c ho ha hc => h4 o h c ho (by rw [← q4 o ho]; exact ha) (q5 o h c ho ha hc), ?_⟩
      rcases q6 with q6 | ⟨c, q6, q7, q8⟩
      · exact .inl q6
      · exact .inr ⟨c, q6, q7, (h5 _ rfl).2 q8⟩

/-- in between -/
structure J (P : Program) (F : From) (anc : List Nat) (ins : List AIns) (p : List AStep) (K : Env → St → Prop) (D : Nat → Bool) (pre rest : List AStep) (e0 e E : Env) (s T : St) (pd : Pend) (act : Act) (ι : Iota) (w : World) (M : Nat → Prop) : Prop where
  split : p = pre ++ rest
  dpre : ∀ i, D i = true → i ∈ pre.map (·.i)
  dcl : ∀ i j, D i = true → (anc.getD i 0).testBit j = true → D j = true
  eDone : ∀ x ∈ pre, x.e = true → D x.i = true
  W : drawW P rest e s pd K
  rep : Rep ι T w M
  tget : ∀ h c, T.get h = some c ↔ s.get h = some c ∨ ∃ i, (i, h, c) ∈ pd ∧ D i = true
  tnext : T.next = s.next
  pnd : PNd pd
  pnone : ∀ q ∈ pd, s.get q.2.1 = none
  plt : ∀ q ∈ pd, q.2.1 < s.next ∧ F.n0 ≤ q.2.1
  pun : ∀ q ∈ pd, D q.1 = false → ι q.2.1 = none
  pdn : ∀ q ∈ pd, D q.1 = true → ∃ p, ι q.2.1 = some (some p)
  ppre : ∀ q ∈ pd, q.1 ∈ pre.map (·.i)
  env : ERel ι w M E act
  eE1 : ∀ x ∈ pre, ∀ u, D x.i = false → x.ins.dst = some u → E.get u = e0.get u
  eE2 : ∀ u, (∀ x ∈ pre, D x.i = false → x.ins.dst ≠ some u) → E.get u = e.get u
  e00 : ∀ u, (∀ x ∈ pre, x.ins.dst ≠ some u) → e.get u = e0.get u
  recs : ∀ x ∈ pre, D x.i = false → Rec anc ins e0 e s pd x
  size : F.N ≤ act.tmps.size
  dfr : act.defers = []
  go : Go F.n0 F.ι F.s F.w F.M ι T w M

variable {F : From} {ops : List Oper} {anc : List Nat} {ins : List AIns} {p : List AStep} {K : Env → St → Prop} {D : Nat → Bool} {pre rest : List AStep} {e0 e E : Env} {s T : St} {pd : Pend} {act : Act} {ι : Iota} {w : World} {M : Nat → Prop}

theorem drawW_nil (e : Env) (s : St) (pd : Pend) : drawW P [] e s pd K = K e ⟨s.next, flush pd s.m⟩ := rfl
theorem drawW_cons (x : AStep) (r : List AStep) (e : Env) (s : St) (p : Pend) : drawW P (x :: r) e s p K = bif x.e then
      match absorb x.ab p s.m with
      | (m, p) => guardW e x.ins
          (insW ⟨s.next, m⟩ (St.get ⟨s.next, m⟩) e x.ins
            (fun v eff => appW ⟨s.next, m⟩ eff fun s' => watchW e (getP ⟨s.next, m⟩ p) (getP s' p) x.wt (putW e x.ins.dst v fun e => drawW P r e s' p K))
            (fun f args => Tr P f args ⟨s.next, m⟩ fun v s' => watchW e (getP ⟨s.next, m⟩ p) (getP s' p) x.wt (forceV v fun v => putW e x.ins.dst v fun e => drawW P r e s' p K)))
          (putW e x.ins.dst (.tup []) fun e => drawW P r e ⟨s.next, m⟩ p K)
    else guardW e x.ins
      (insW s (getP s p) e x.ins
        (fun v eff => putW e x.ins.dst v fun e => match eff with
          | .no => drawW P r e s p K
          | .new c => drawW P r e ⟨s.next + 1, s.m⟩ ((x.i, s.next, c) :: p) K
          | _ => False)
        (fun _ _ => False))
      (putW e x.ins.dst (.tup []) fun e => drawW P r e s p K) := rfl

theorem putE_get (e : Env) (d : Option Nat) (v : AV) (u : Nat) : (putE e d v).get u = if d = some u then v else e.get u := by
  cases d with
  | none => simp [putE]
  | some d =>
    simp only [putE, Env.get_cons, Option.some.injEq]

theorem PlanF.at (hp : PlanF P ops anc ins p) {x : AStep} (hx : x ∈ p) : ins[x.i]? = some x.ins := by
  obtain ⟨a, b, h⟩ := List.append_of_mem hx
  exact (hp.steps a x b h).1
theorem PlanF.before (hp : PlanF P ops anc ins p) (hs : p = pre ++ rest) {x : AStep} (hx : x ∈ pre) {j : Nat} (hj : (anc.getD x.i 0).testBit j = true) : j ∈ pre.map (·.i) := by
  obtain ⟨a, b, h⟩ := List.append_of_mem hx
  have := (hp.order a x (b ++ rest) (by rw [hs, h]; simp)).1 j hj
  rw [h]
  simp only [List.map_append, List.mem_append]
  exact .inl this
theorem PlanF.mem_i (hp : PlanF P ops anc ins p) {x y : AStep} (hx : x ∈ p) (hy : y ∈ p) (h : x.i = y.i) : x.ins = y.ins := by
  have h1 := hp.at hx
  have h2 := hp.at hy
  rw [h, h2] at h1
  simpa using h1.symm

/-- one step of the plan, ahead of the program -/
theorem adv_core (hp : PlanF P ops anc ins p) {y : AStep} {v : AV} {s' : St} {pd' : Pend} (h : J P F anc ins p K D pre (y :: rest) e0 e E s T pd act ι w M) (hye : y.e = false)
    (hW : drawW P rest (putE e y.ins.dst v) s' pd' K) (hs : (pd' = pd ∧ s' = s) ∨ ∃ c, pd' = (y.i, s.next, c) :: pd ∧ s' = ⟨s.next + 1, s.m⟩)
    (hrec : Rec anc ins e0 (putE e y.ins.dst v) s' pd' y) :
    J P F anc ins p K D (pre ++ [y]) rest e0 (putE e y.ins.dst v) E s' ⟨s'.next, T.m⟩ pd' act ι w M := by
  have hyi : y.i ∉ pre.map (·.i) := (hp.order pre y rest h.split).2.1
  have hyD : D y.i = false := by
    cases hd : D y.i with
    | false => rfl
    | true => exact absurd (h.dpre _ hd) hyi
  have hyp : y ∈ p := by rw [h.split]; simp
  have hpre : ∀ x ∈ pre, x ∈ p := fun x hx => by rw [h.split]; simp [hx]
  have hyins := hp.at hyp
  have hnd : ∀ x ∈ pre, ∀ d, x.ins.dst = some d → y.ins.dst ≠ some d := fun x hx d h1 h2 => by
    have := hp.slot1 _ _ _ _ d (hp.at (hpre x hx)) hyins h1 h2
    exact hyi (this ▸ List.mem_map_of_mem hx)
  have hnext : s.next ≤ s'.next := by
    rcases hs with ⟨_, rfl⟩ | ⟨c, _, rfl⟩
    · exact Nat.le_refl _
    · simp
  have hget : ∀ k, s'.get k = s.get k := fun k => by
    rcases hs with ⟨_, rfl⟩ | ⟨c, _, rfl⟩ <;> rfl
  have hpd : ∀ q, q ∈ pd' → q ∈ pd ∨ (q.1 = y.i ∧ q.2.1 = s.next ∧ s.next < s'.next) := fun q hq => by
    rcases hs with ⟨rfl, _⟩ | ⟨c, rfl, rfl⟩
    · exact .inl hq
    · rcases List.mem_cons.1 hq with rfl | hq
      · exact .inr ⟨rfl, rfl, by simp⟩
      · exact .inl hq
  have hpd' : ∀ q, q ∈ pd → q ∈ pd' := fun q hq => by
    rcases hs with ⟨rfl, _⟩ | ⟨c, rfl, rfl⟩
    · exact hq
    · exact List.mem_cons_of_mem _ hq
  have hsn : s.get s.next = none := by
    cases hg : s.get s.next with
    | none => rfl
    | some c =>
      have := (h.tget s.next c).2 (.inl hg)
      have := h.rep.none_of_get this
      rw [h.tnext] at this
      omega
  have hpn : PNd pd' := by
    rcases hs with ⟨rfl, _⟩ | ⟨c, rfl, _⟩
    · exact h.pnd
    · exact List.pairwise_cons.2 ⟨fun q hq e => by have := (h.plt q hq).1; simp only at e; omega, h.pnd⟩
  have hpno : ∀ q ∈ pd', s'.get q.2.1 = none := fun q hq => by
    rw [hget]
    rcases hpd q hq with k | ⟨_, k, _⟩
    · exact h.pnone q k
    · rw [k]; exact hsn
  have hgetP : ∀ k c, getP s pd k = some c → getP s' pd' k = some c := fun k c hc => by
    rw [getP_iff hpn hpno]
    rw [getP_iff h.pnd h.pnone] at hc
    rcases hc with hc | ⟨i, hi⟩
    · exact .inl (by rw [hget]; exact hc)
    · exact .inr ⟨i, hpd' _ hi⟩
  refine ⟨by rw [h.split]; simp, fun i hi => ?_, h.dcl, fun x hx he => ?_, hW, (h.rep.next (n := s'.next) (by rw [h.tnext]; exact hnext)), fun k c => ?_, rfl, hpn, hpno, fun q hq => ?_, fun q hq hd => ?_, fun q hq hd => ?_, fun q hq => ?_, h.env, fun x hx u hd hu => ?_, fun u hu => ?_, fun u hu => ?_, fun x hx hd => ?_, h.size, h.dfr, h.go.sub (fun _ _ h => h) (by rw [h.tnext]; exact hnext)⟩
  · simp only [List.map_append, List.mem_append]; exact .inl (h.dpre i hi)
  · rcases List.mem_append.1 hx with hx | hx
    · exact h.eDone x hx he
    · simp only [List.mem_singleton] at hx; subst hx; rw [hye] at he; cases he
  · show T.get k = some c ↔ _
    rw [h.tget, hget]
    constructor
    · rintro (k1 | ⟨i, k1, k2⟩)
      · exact .inl k1
      · exact .inr ⟨i, hpd' _ k1, k2⟩
    · rintro (k1 | ⟨i, k1, k2⟩)
      · exact .inl k1
      · rcases hpd _ k1 with k3 | ⟨k3, _⟩
        · exact .inr ⟨i, k3, k2⟩
        · simp only at k3; subst k3; rw [hyD] at k2; cases k2
  · rcases hpd q hq with k | ⟨_, k, k'⟩
    · have := h.plt q k; exact ⟨by omega, this.2⟩
    · rw [k]
      have := h.go.next
      rw [h.tnext] at this
      exact ⟨k', this⟩
  · rcases hpd q hq with k | ⟨_, k, _⟩
    · exact h.pun q k hd
    · rw [k]; exact h.rep.fresh _ (by rw [h.tnext]; exact Nat.le_refl _)
  · rcases hpd q hq with k | ⟨k, _⟩
    · exact h.pdn q k hd
    · rw [k, hyD] at hd; cases hd
  · simp only [List.map_append, List.mem_append, List.map_cons, List.map_nil, List.mem_singleton]
    rcases hpd q hq with k | ⟨k, _⟩
    · exact .inl (h.ppre q k)
    · exact .inr k
  · rcases List.mem_append.1 hx with hx | hx
    · exact h.eE1 x hx u hd hu
    · simp only [List.mem_singleton] at hx; subst hx
      rw [h.eE2 u fun z hz _ hzu => hnd z hz u hzu hu]
      exact h.e00 u fun z hz hzu => hnd z hz u hzu hu
  · rw [putE_get, if_neg (hu y (by simp) hyD)]
    exact h.eE2 u fun z hz hd => hu z (by simp [hz]) hd
  · rw [putE_get, if_neg (hu y (by simp))]
    exact h.e00 u fun z hz => hu z (by simp [hz])
  · rcases List.mem_append.1 hx with hx | hx
    · refine (h.recs x hx hd).mono (fun u k z k1 k2 k3 => ?_) (fun d hd' => ?_) (fun o ho => ?_) (fun o k c _ _ hc => hgetP k c hc) fun q hq => ?_
      · rw [putE_get, if_neg]
        intro hyu
        have := hp.slot1 _ _ _ _ u k1 hyins k2 hyu
        subst this
        exact hyi (hp.before h.split hx k3)
      · rw [putE_get, if_neg (hnd x hx d hd')]
      · cases o with
        | t u =>
          show (putE e y.ins.dst v).get u = e.get u
          rw [putE_get, if_neg]
          intro hyu
          exact hyi (hp.before h.split hx (hp.slot3 _ _ _ _ u hyins (hp.at (hpre x hx)) hyu ho))
        | c v => rfl
        | f n => rfl
      · constructor
        · intro hq'
          rcases hpd q hq' with k | ⟨k, _⟩
          · exact k
          · exact absurd (by rw [← k, hq]; exact List.mem_map_of_mem hx) hyi
        · exact hpd' q
    · simp only [List.mem_singleton] at hx; subst hx; exact hrec

theorem advance1 (hp : PlanF P ops anc ins p) {y : AStep} (h : J P F anc ins p K D pre (y :: rest) e0 e E s T pd act ι w M) (hye : y.e = false) :
    ∃ e' s' T' pd', J P F anc ins p K D (pre ++ [y]) rest e0 e' E s' T' pd' act ι w M := by
  have hyi : y.i ∉ pre.map (·.i) := (hp.order pre y rest h.split).2.1
  have hyp : y ∈ p := by rw [h.split]; simp
  have hpre : ∀ x ∈ pre, x ∈ p := fun x hx => by rw [h.split]; simp [hx]
  have hyins := hp.at hyp
  -- what it reads
  have hreads : ∀ u ∈ y.ins.reads, (¬ ∃ (k : Nat) (z : AIns), ins[k]? = some z ∧ z.dst = some u ∧ (anc.getD y.i 0).testBit k = true) → e.get u = e0.get u := fun u hu hno => by
    refine h.e00 u fun x hx hxu => ?_
    rcases (hp.slot2 _ _ _ _ u (hp.at (hpre x hx)) hyins hxu hu).2 with k | k
    · exact hno ⟨x.i, x.ins, hp.at (hpre x hx), hxu, k⟩
    · exact hyi (hp.before h.split hx k)
  have hself : ∀ u ∈ y.ins.reads, y.ins.dst ≠ some u := fun u hu hd => (hp.slot2 _ _ _ _ u hyins hyins hd hu).1 rfl
  have hanc : ∀ (v : AV), ∀ u ∈ y.ins.reads, e.get u = (putE e y.ins.dst v).get u := fun v u hu => by rw [putE_get, if_neg (hself u hu)]
  have hnopd : ∀ q ∈ pd, q.1 ≠ y.i := fun q hq hqi => hyi (hqi ▸ h.ppre q hq)
  have hevs : ∀ (v : AV) (x : AOpd), x ∈ y.ins.op.opds → AOpd.ev e x = AOpd.ev (putE e y.ins.dst v) x := fun v => ev_congr (hanc v)
  have hlook : ∀ (a : AOp) o, a.looks = some o → o ∈ a.opds := fun a o ho => by
    cases a with
    | load ag n x => simp only [AOp.looks, Option.some.injEq] at ho; subst ho; simp [AOp.opds]
    | conv k x =>
      cases k with
      | toStr => simp only [AOp.looks, Option.some.injEq] at ho; subst ho; simp [AOp.opds]
      | same => simp [AOp.looks] at ho
      | int k => simp [AOp.looks] at ho
    | slice sk x lo hi =>
      cases sk with
      | arr n es => simp only [AOp.looks, Option.some.injEq] at ho; subst ho; simp [AOp.opds]
      | sl es => simp [AOp.looks] at ho
      | str => simp [AOp.looks] at ho
    | _ => simp [AOp.looks] at ho
  have hW := h.W
  rw [drawW_cons, hye, cond_false] at hW
  rcases guardW_spec hW with ⟨hg, hW⟩ | ⟨hg, hW⟩
  · rcases insW_spec hW with ⟨v, eff, hd, hW⟩ | ⟨f, args, _, hW⟩
    · rw [putW_eq] at hW
      have key : ∀ (s' : St) (pd' : Pend) (r : Option (Nat × Chunk)), drawW P rest (putE e y.ins.dst v) s' pd' K → ((pd' = pd ∧ s' = s) ∨ ∃ c, pd' = (y.i, s.next, c) :: pd ∧ s' = ⟨s.next + 1, s.m⟩) →
          (∀ k c, getP s pd k = some c → getP s' pd' k = some c) → (∀ q ∈ pd', q.1 = y.i → r = some q.2) → ((eff = .no ∧ r = none) ∨ ∃ c, eff = .new c ∧ r = some (s.next, c) ∧ (y.i, s.next, c) ∈ pd') →
          ∃ e' s' T' pd', J P F anc ins p K D (pre ++ [y]) rest e0 e' E s' T' pd' act ι w M := by
        intro s' pd' r hW' hs hgP hr heff
        refine ⟨_, _, _, _, adv_core hp h hye hW' hs ⟨e, getP s pd, s.next, r, fun u hu => ⟨fun _ => hanc v u hu, hreads u hu⟩, hr, .inr ⟨hg, v, eff, hd, fun d hd' => by rw [putE_get, if_pos hd'], fun o ho => hevs v o (hlook _ o ho), fun o k c _ _ hc => hgP k c hc, heff⟩⟩⟩
      cases eff with
      | no => exact key s pd none hW (.inl ⟨rfl, rfl⟩) (fun _ _ h => h) (fun q hq hqi => absurd hqi (hnopd q hq)) (.inl ⟨rfl, rfl⟩)
      | new c =>
        refine key _ _ (some (s.next, c)) hW (.inr ⟨c, rfl, rfl⟩) (fun k c' hc => ?_) (fun q hq hqi => ?_) (.inr ⟨c, rfl, rfl, by simp⟩)
        · unfold getP at hc ⊢
          have hgg : (St.mk (s.next + 1) s.m).get k = s.get k := rfl
          rw [hgg]
          cases hk : s.get k with
          | some c1 => rw [hk] at hc; exact hc
          | none =>
            rw [hk] at hc
            simp only at hc ⊢
            obtain ⟨i, hi⟩ := (Pend.get_iff pd h.pnd k c').1 hc
            have := (h.plt _ hi).1
            simp only at this
            simp only [Pend.get]
            have hb : Nat.beq s.next k = false := by
              rw [Bool.eq_false_iff]; intro hb; have := Nat.eq_of_beq_eq_true hb; omega
            rw [hb]
            exact hc
        · rcases List.mem_cons.1 hq with rfl | hq
          · rfl
          · exact absurd hqi (hnopd q hq)
      | set k c => exact hW.elim
      | app k c => exact hW.elim
    · exact hW.elim
  · rw [putW_eq] at hW
    exact ⟨_, _, _, _, adv_core hp h hye hW (.inl ⟨rfl, rfl⟩) ⟨e, getP s pd, s.next, none, fun u hu => ⟨fun _ => hanc _ u hu, hreads u hu⟩, fun q hq hqi => absurd hqi (hnopd q hq), .inl ⟨hg, fun d hd' => by rw [putE_get, if_pos hd'], rfl⟩⟩⟩

/-- as far as the plan goes alone -/
theorem advance (hp : PlanF P ops anc ins p) : ∀ (rest pre : List AStep) {e s T pd}, J P F anc ins p K D pre rest e0 e E s T pd act ι w M →
    ∃ pre' rest' e' s' T' pd', J P F anc ins p K D pre' rest' e0 e' E s' T' pd' act ι w M ∧ (rest' = [] ∨ ∃ y r, rest' = y :: r ∧ y.e = true)
  | [], pre, e, s, T, pd, h => ⟨pre, [], e, s, T, pd, h, .inl rfl⟩
  | y :: r, pre, e, s, T, pd, h => by
    cases hy : y.e with
    | true => exact ⟨pre, y :: r, e, s, T, pd, h, .inr ⟨y, r, rfl, hy⟩⟩
    | false =>
      obtain ⟨e', s', T', pd', h'⟩ := advance1 hp h hy
      exact advance hp r (pre ++ [y]) h'

end
end Go.Ab
