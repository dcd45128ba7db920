/- The engine: verification conditions with places where ways come together, and rows that are values from a place on. -/
import Derived.Test.YtomodeliimnddaaAbFast
set_option linter.unusedVariables false
set_option linter.unusedSimpArgs false
set_option autoImplicit false
namespace Go.Ab

def firstReg : List AIns → Option Nat
  | [] => none
  | i :: r => match i.dst with
    | some d => some d
    | none => firstReg r
def firstDraw : List AStep → Option Nat
  | [] => none
  | i :: r => match i.ins.dst with
    | some d => some d
    | none => firstDraw r
/-- the first slot that a piece of code writes -/
def firstDst : ACode → Option Nat
  | .reg l => firstReg l
  | .draw l => firstDraw l
  | .seq a b => match firstDst a with
    | some d => some d
    | none => firstDst b
  | .block _ a => firstDst a
  | .loop a => firstDst a
  | _ => none
def atJoin (z : List Nat) (c : ACode) : Bool :=
  match firstDst c with
  | some d => memN z d
  | none => false
/-- ways that come together: what is known there -/
def JoinW (n0 : Nat) (A B : Env → St → (Ex → Env → St → Prop) → Prop) (e : Env) (s : St) (K : Ex → Env → St → Prop) : Prop :=
  ∃ (α : Type) (E : α → Env) (S : α → St), (A e s fun x e s => match x with
      | .normal => ∃ x, SubW n0 e s (E x) (S x)
      | .exit j => K (.exit j) e s
      | .ret => K .ret e s) ∧ ∀ x, B (E x) (S x) K
theorem joinI {n0 : Nat} {A B : Env → St → (Ex → Env → St → Prop) → Prop} {e : Env} {s : St} {K : Ex → Env → St → Prop} {α : Type} (E : α → Env) (S : α → St)
    (ha : A e s fun x e s => match x with
      | .normal => ∃ x, SubW n0 e s (E x) (S x)
      | .exit j => K (.exit j) e s
      | .ret => K .ret e s) (hb : ∀ x, B (E x) (S x) K) : JoinW n0 A B e s K := ⟨α, E, S, ha, hb⟩

/-! ### rows that are values from here on -/
def frzC (h : Nat) (c : Chunk) : Chunk → Chunk
  | .obj l => .obj (frzL h c l)
  | d => d
noncomputable def envF (h : Nat) (c : Chunk) (e : Env) : (Env → Prop) → Prop :=
  List.rec (motive := fun _ => (Env → Prop) → Prop) (fun K => K []) (fun p _ ih K => match p with
    | (u, v) => forceA (v.frz h c) fun v => ih fun r => K ((u, v) :: r)) e
def frzE (h : Nat) (c : Chunk) (e : Env) : Env := e.map fun p => (p.1, p.2.frz h c)
theorem envF_eq (h : Nat) (c : Chunk) : ∀ (e : Env) (K : Env → Prop), envF h c e K = K (frzE h c e) := by
  intro e
  induction e with
  | nil => intro K; rfl
  | cons p r ih =>
    intro K
    obtain ⟨u, v⟩ := p
    show (forceA (v.frz h c) fun v => envF h c r fun r => K ((u, v) :: r)) = _
    rw [forceA_eq, ih]; rfl
noncomputable def memF (h : Nat) (c : Chunk) (m : Mem) : (Mem → Prop) → Prop :=
  List.rec (motive := fun _ => (Mem → Prop) → Prop) (fun K => K []) (fun p _ ih K => match p with
    | (u, some d) => forceC (frzC h c d) fun d => ih fun r => K ((u, some d) :: r)
    | (u, none) => ih fun r => K ((u, none) :: r)) m
def frzMem (h : Nat) (c : Chunk) (m : Mem) : Mem := m.map fun p => (p.1, p.2.map (frzC h c))
theorem memF_eq (h : Nat) (c : Chunk) : ∀ (m : Mem) (K : Mem → Prop), memF h c m K = K (frzMem h c m) := by
  intro m
  induction m with
  | nil => intro K; rfl
  | cons p r ih =>
    intro K
    obtain ⟨u, v⟩ := p
    cases v with
    | none =>
      show (memF h c r fun r => K ((u, none) :: r)) = _
      rw [ih]; rfl
    | some d =>
      show (forceC (frzC h c d) fun d => memF h c r fun r => K ((u, some d) :: r)) = _
      rw [forceC_eq, ih]; rfl
theorem frzE_get (h : Nat) (c : Chunk) : ∀ (e : Env) (u : Nat), (frzE h c e).get u = (e.get u).frz h c
  | [], u => rfl
  | (d, v) :: r, u => by
    simp only [frzE, List.map_cons, Env.get_cons]
    by_cases hd : d = u
    · simp [hd]
    · rw [if_neg hd, if_neg hd]; exact frzE_get h c r u
theorem frzMem_get (h : Nat) (c : Chunk) : ∀ (m : Mem) (u : Nat), (frzMem h c m).get u = (m.get u).map (frzC h c)
  | [], u => rfl
  | (d, v) :: r, u => by
    simp only [frzMem, List.map_cons, Mem.get_cons]
    by_cases hd : d = u
    · simp [hd]
    · rw [if_neg hd, if_neg hd]; exact frzMem_get h c r u
theorem frzC_size (h : Nat) (c d : Chunk) : (frzC h c d).size = d.size := by
  cases d <;> simp [frzC, Chunk.size, frzL_length]
theorem frz_crel {ι : Iota} {s : St} {w : World} {M : Nat → Prop} {c : Chunk} {h : Nat} (hR : Rep ι s w M) (hg : s.get h = some c) {d : Chunk} {b base : Nat} (hd : CRel ι w M d b base) : CRel ι w (subM ι h M) (frzC h c d) b base := by
  obtain ⟨cs, T, fr, h1, h2, h3, h4⟩ := hd
  refine ⟨cs, T, fr, h1, h2, by rw [frzC_size]; exact h3, fun j hj => ?_⟩
  rw [frzC_size] at hj
  have hv := h4 j hj
  cases d with
  | obj l =>
    show VRel ι w _ ((frzL h c l).getD j .undef) _
    have hj' : j < l.length := hj
    rw [frzL_getD h c l j hj']
    exact frz_rel hR hg _ _ hv
  | rowI k l => exact (frz_rel hR hg _ _ hv : VRel ι w _ ((Chunk.get (.rowI k l) j).frz h c) _)
  | rowB l => exact (frz_rel hR hg _ _ hv : VRel ι w _ ((Chunk.get (.rowB l) j).frz h c) _)
  | fn n f => exact VRel.mono (Imm.subM h) (fun _ _ hp => hp) hv
/-- the state with a row that is a value from now on -/
def St.frz (s : St) (h : Nat) (c : Chunk) : St := ⟨s.next, (h, none) :: frzMem h c s.m⟩
theorem Rep.frz {ι : Iota} {s : St} {w : World} {M : Nat → Prop} {c : Chunk} {h : Nat} (hR : Rep ι s w M) (hg : s.get h = some c) : Rep ι (s.frz h c) w (subM ι h M) := by
  have hF := hR.freeze hg
  have get1 : ∀ k d, (s.frz h c).get k = some d → k ≠ h ∧ ∃ d0, s.get k = some d0 ∧ d = frzC h c d0 := by
    intro k d hk
    simp only [St.frz, St.get_cons] at hk
    split at hk
    · cases hk
    · rename_i hne
      refine ⟨fun e => hne e.symm, ?_⟩
      have : ((frzMem h c s.m).get k) = some d := hk
      rw [frzMem_get] at this
      obtain ⟨d0, k1, k2⟩ := Option.map_eq_some_iff.1 this
      exact ⟨d0, k1, k2.symm⟩
  have drop : ∀ k d0, k ≠ h → s.get k = some d0 → (s.drop h).get k = some d0 := by
    intro k d0 hne hk
    show St.get ⟨s.next, (h, none) :: s.m⟩ k = _
    rw [St.get_cons, if_neg (fun e => hne e.symm)]
    exact hk
  refine ⟨hR.fresh, fun k d hk => ?_, fun k k' d d' p p' hk hk' hne hp hp' => ?_, hF.lt⟩
  · obtain ⟨hne, d0, k1, rfl⟩ := get1 k d hk
    rw [frzC_size]
    rcases hF.own k d0 (drop k d0 hne k1) with q | ⟨b, base, q1, q2, q3⟩
    · exact .inl q
    · rcases hR.own k d0 k1 with ⟨q4, _⟩ | ⟨b', base', q4, q5, q6⟩
      · rw [q1] at q4; cases q4
      · rw [q1] at q4
        simp only [Option.some.injEq, Prod.mk.injEq] at q4
        obtain ⟨rfl, rfl⟩ := q4
        exact .inr ⟨b, base, q1, q2, frz_crel hR hg q6⟩
  · obtain ⟨_, d0, k1, _⟩ := get1 k d hk
    obtain ⟨_, d1, k2, _⟩ := get1 k' d' hk'
    exact hR.inj k k' d0 d1 p p' k1 k2 hne hp hp'
theorem Go.frz {ι : Iota} {s : St} {w : World} {M : Nat → Prop} {c : Chunk} {h : Nat} (hR : Rep ι s w M) (hg : s.get h = some c) {n0 : Nat} (hn : n0 ≤ s.next) : Go n0 ι s w M ι (s.frz h c) w (subM ι h M) := by
  have hG := Go.freeze (ι := ι) (w := w) (M := M) hg hn
  refine ⟨hG.size, hG.tape, hG.os, hG.output, hG.block, hG.shape, hG.back, hG.keep, fun b hb ho => ?_, hn, hG.ext⟩
  obtain ⟨k, d, base, k1, k2⟩ := ho
  simp only [St.frz, St.get_cons] at k1
  split at k1
  · cases k1
  · have : ((frzMem h c s.m).get k) = some d := k1
    rw [frzMem_get] at this
    obtain ⟨d0, k3, _⟩ := Option.map_eq_some_iff.1 this
    exact ⟨k, d0, base, k3, k2⟩
/-- the row in a slot is a value from now on -/
noncomputable def frzW (d : Nat) (e : Env) (s : St) (K : Env → St → Prop) : Prop :=
  match e.get d with
  | .sl _ h _ _ => match s.get h with
    | some c => envF h c e fun e => memF h c s.m fun m => openS s fun n _ => K e ⟨n, (h, none) :: m⟩
    | none => K e s
  | _ => K e s
noncomputable def frzWs (l : List Nat) : Env → St → (Env → St → Prop) → Prop :=
  List.rec (motive := fun _ => Env → St → (Env → St → Prop) → Prop) (fun e s K => K e s) (fun d _ ih e s K => frzW d e s fun e s => ih e s K) l
theorem frzWs_cons (d : Nat) (l : List Nat) (e : Env) (s : St) (K : Env → St → Prop) : frzWs (d :: l) e s K = frzW d e s fun e s => frzWs l e s K := rfl
def hits (fz : List Nat) (l : List AIns) : List Nat := fz.filter fun d => l.any fun i => match i.dst with
  | some d' => Nat.beq d' d
  | none => false

section
variable {P : Program} {F : From}
theorem frzW_sound {d : Nat} {e : Env} {s : St} {act : Act} {ι : Iota} {w : World} {M : Nat → Prop} {K : Env → St → Prop} (hI : Inv F e s act ι w M) (h : frzW d e s K) : ∃ e' s' M', Inv F e' s' act ι w M' ∧ K e' s' := by
  unfold frzW at h
  split at h
  · rename_i es h0 off n he
    split at h
    · rename_i c hg
      rw [envF_eq, memF_eq, openS_eq] at h
      refine ⟨_, _, subM ι h0 M, ⟨hI.rep.frz hg, fun u => ?_, hI.size, hI.dfr, hI.go.trans (Go.frz hI.rep hg hI.go.next) F.lt⟩, h⟩
      rw [frzE_get]
      exact frz_rel hI.rep hg _ _ (hI.env u)
    · exact ⟨e, s, M, hI, h⟩
  · exact ⟨e, s, M, hI, h⟩
theorem frzWs_sound {act : Act} {ι : Iota} {w : World} {K : Env → St → Prop} : ∀ (l : List Nat) {e : Env} {s : St} {M : Nat → Prop}, Inv F e s act ι w M → frzWs l e s K → ∃ e' s' M', Inv F e' s' act ι w M' ∧ K e' s'
  | [], e, s, M, hI, h => ⟨e, s, M, hI, h⟩
  | d :: l, e, s, M, hI, h => by
    rw [frzWs_cons] at h
    obtain ⟨e', s', M', hI', h'⟩ := frzW_sound hI h
    exact frzWs_sound l hI' h'

noncomputable def wpZ (P : Program) (z fz : List Nat) (n0 : Nat) (c : ACode) : Env → St → (Ex → Env → St → Prop) → Prop :=
  ACode.rec (motive := fun _ => Env → St → (Ex → Env → St → Prop) → Prop)
    (fun e s K => K .normal e s)
    (fun l e s K => regF P l e s fun e s => frzWs (hits fz l) e s fun e s => K .normal e s)
    (fun l e s K => drawF P l e s [] fun e s => K .normal e s)
    (fun _ b iha ihb e s K => bif atJoin z b then JoinW n0 iha ihb e s K else iha e s fun x e s => match x with
      | .normal => ihb e s K
      | .exit j => K (.exit j) e s
      | .ret => K .ret e s)
    (fun c _ _ iha ihb e s K => match c.ev e with
      | .bool t => bif t then iha e s K else ihb e s K
      | _ => False)
    (fun id _ iha e s K => iha e s fun x e s => match x with
      | .normal => K .normal e s
      | .exit j => bif Nat.beq j id then K .normal e s else K (.exit j) e s
      | .ret => K .ret e s)
    (fun _ iha e s K => LoopW n0 iha e s K)
    (fun id e s K => K (.exit id) e s)
    (fun e s K => K .ret e s) c

theorem wpZ_sound (hD : DrawOk P) (z fz : List Nat) : ∀ (c : Code) (a : ACode), comp P c = some a → dstOk F.N a = true →
    ∀ {e s act ι w M} (K : Ex → Env → St → Prop) (Q : Exit → Act → World → Prop), Inv F e s act ι w M → wpZ P z fz F.n0 a e s K →
      (∀ x e' s' act' ι' w' M', Inv F e' s' act' ι' w' M' → K x e' s' → Q x.out act' w') → c.wp P Q act w := by
  intro c
  induction c with
  | skip =>
    intro a hc hd e s act ι w M K Q hI h hk
    simp only [comp, Option.some.injEq] at hc
    subst hc
    exact wp_skip (hk .normal _ _ _ _ _ _ hI h)
  | region id ops draw =>
    intro a hc hd e s act ι w M K Q hI h hk
    simp only [comp] at hc
    have hc' := hc
    unfold compReg at hc
    split at hc
    · rename_i l hl
      cases draw with
      | false =>
        simp only [cond_false, Option.some.injEq] at hc
        subst hc
        simp only [dstOk] at hd
        refine wp_region_list ?_
        have h' : regF P l e s fun e s => frzWs (hits fz l) e s fun e s => K .normal e s := h
        rw [regF_eq] at h'
        have := regW_sound (Q := Q) (K := fun e s => frzWs (hits fz l) e s fun e s => K .normal e s) ops.toList 0 l hl hd hI h' fun e' s' act' ι' w' M' hI' hK => by
          obtain ⟨e2, s2, M2, hI2, hK2⟩ := frzWs_sound _ hI' hK
          exact hk .normal _ _ _ _ _ _ hI2 hK2
        simpa using this
      | true =>
        simp only [cond_true] at hc
        cases hp : planOk P ops.toList l (ancs ops.toList []) (plan (ancs ops.toList []) l l.length [] 0) with
        | true =>
          simp only [hp, cond_true, Option.some.injEq] at hc
          subst hc
          have h' : drawF P _ e s [] fun e s => K .normal e s := h
          rw [drawF_eq] at h'
          exact hD F id ops _ hc' hd (fun e s => K .normal e s) Q hI h' fun e' s' act' ι' w' M' hI' hK => hk .normal _ _ _ _ _ _ hI' hK
        | false => simp [hp] at hc
    · simp at hc
  | seq x y ihx ihy =>
    intro a hc hd e s act ι w M K Q hI h hk
    simp only [comp] at hc
    split at hc
    · rename_i a' b' ha hb
      simp only [Option.some.injEq] at hc
      subst hc
      simp only [dstOk, Bool.and_eq_true] at hd
      have h' : bif atJoin z b' then JoinW F.n0 (wpZ P z fz F.n0 a') (wpZ P z fz F.n0 b') e s K else wpZ P z fz F.n0 a' e s fun x e s => match x with
        | .normal => wpZ P z fz F.n0 b' e s K
        | .exit j => K (.exit j) e s
        | .ret => K .ret e s := h
      cases hj : atJoin z b' with
      | true =>
        rw [hj] at h'
        obtain ⟨α, E, S, h1, h2⟩ := h'
        refine wp_seq (ihx a' ha hd.1 _ _ hI h1 fun ex e' s' act' ι' w' M' hI' hK => ?_)
        cases ex with
        | normal =>
          obtain ⟨x', hs⟩ := hK
          obtain ⟨ι2, hI2⟩ := sub_sound hI' hs
          exact ihy b' hb hd.2 _ _ hI2 (h2 x') hk
        | exit j => exact hk _ _ _ _ _ _ _ hI' hK
        | ret => exact hk _ _ _ _ _ _ _ hI' hK
      | false =>
        rw [hj] at h'
        refine wp_seq (ihx a' ha hd.1 _ _ hI h' fun ex e' s' act' ι' w' M' hI' hK => ?_)
        cases ex with
        | normal => exact ihy b' hb hd.2 _ _ hI' hK hk
        | exit j => exact hk _ _ _ _ _ _ _ hI' hK
        | ret => exact hk _ _ _ _ _ _ _ hI' hK
    · simp at hc
  | cond cx x y ihx ihy =>
    intro a hc hd e s act ι w M K Q hI h hk
    simp only [comp] at hc
    split at hc
    · rename_i c' a' b' hcc ha hb
      simp only [Option.some.injEq] at hc
      subst hc
      simp only [dstOk, Bool.and_eq_true] at hd
      have h : (match c'.ev e with
        | .bool t => bif t then wpZ P z fz F.n0 a' e s K else wpZ P z fz F.n0 b' e s K
        | _ => False) := h
      have hv := hI.env.orel _ _ hcc
      cases hb' : c'.ev e <;> simp only [hb'] at h
      rename_i t
      rw [hb'] at hv
      refine wp_cond hv.bool_inv ?_
      cases t
      · exact ihy b' hb hd.2 _ _ hI h hk
      · exact ihx a' ha hd.1 _ _ hI h hk
    · simp at hc
  | block id x ih =>
    intro a hc hd e s act ι w M K Q hI h hk
    simp only [comp] at hc
    obtain ⟨a', ha, rfl⟩ := map_some hc
    refine wp_block (ih a' ha hd (fun x e s => match x with
      | .normal => K .normal e s
      | .exit j => bif Nat.beq j id then K .normal e s else K (.exit j) e s
      | .ret => K .ret e s) _ hI h fun ex e' s' act' ι' w' M' hI' hK => ?_)
    cases ex with
    | normal => exact hk .normal _ _ _ _ _ _ hI' hK
    | exit j =>
      simp only [Ex.out, Exit.inBlock]
      by_cases hj : j = id
      · subst hj
        have hb : Nat.beq j j = true := by simp
        simp only [hb, cond_true] at hK
        rw [if_pos rfl]
        exact hk .normal _ _ _ _ _ _ hI' hK
      · have hb : Nat.beq j id = false := by
          rw [Bool.eq_false_iff]
          exact fun e => hj (Nat.eq_of_beq_eq_true e)
        simp only [hb, cond_false] at hK
        rw [if_neg hj]
        exact hk (.exit j) _ _ _ _ _ _ hI' hK
    | ret => exact hk .ret _ _ _ _ _ _ hI' hK
  | loop x ih =>
    intro a hc hd e s act ι w M K Q hI h hk
    simp only [comp] at hc
    obtain ⟨a', ha, rfl⟩ := map_some hc
    have h : LoopW F.n0 (wpZ P z fz F.n0 a') e s K := h
    unfold LoopW at h
    obtain ⟨α, E, S, μ, x0, h0, hr⟩ := h
    refine wp_loop_ghost (fun x act w => ∃ ι M, Inv F (E x) (S x) act ι w M) μ x0 ?_ fun x act w hx => ?_
    · obtain ⟨ι', hI'⟩ := sub_sound hI h0
      exact ⟨ι', M, hI'⟩
    · obtain ⟨ι1, M1, hI1⟩ := hx
      refine ih a' ha hd _ _ hI1 (hr x) fun ex e' s' act' ι' w' M' hI' hK => ?_
      cases ex with
      | normal =>
        obtain ⟨x', hs, hm⟩ := hK
        obtain ⟨ι2, hI2⟩ := sub_sound hI' hs
        exact ⟨x', ⟨ι2, M', hI2⟩, hm⟩
      | exit j => exact hk _ _ _ _ _ _ _ hI' hK
      | ret => exact hk _ _ _ _ _ _ _ hI' hK
  | exit id =>
    intro a hc hd e s act ι w M K Q hI h hk
    simp only [comp, Option.some.injEq] at hc
    subst hc
    exact wp_exit (hk (.exit id) _ _ _ _ _ _ hI h)
  | ret =>
    intro a hc hd e s act ι w M K Q hI h hk
    simp only [comp, Option.some.injEq] at hc
    subst hc
    exact wp_ret (hk .ret _ _ _ _ _ _ hI h)
  | rangeFunc f ps as body _ _ => intro a hc; simp [comp] at hc
  | scope body _ => intro a hc; simp [comp] at hc
  | label l => intro a hc; simp [comp] at hc
  | goto l => intro a hc; simp [comp] at hc
  | refuse why => intro a hc; simp [comp] at hc

noncomputable def fnZ (P : Program) (z fz : List Nat) (c : ACode) (rs : List ARes) (args : List AV) (s : St) (K : AV → St → Prop) : Prop :=
  wpZ P z fz s.next c (argsE 0 args) s fun x e s => match x with
    | .exit _ => False
    | _ => resF e s rs (retW K s)
/-- a function does what its verification condition says -/
theorem fnZ_sound (hD : DrawOk P) (z fz : List Nat) {f : Nat} {fn : Func} {a : ACode} {rs : List ARes} {args : List AV} {s : St} {K : AV → St → Prop} (hf : P.funcs[f]? = some fn) (hb : hasBody P f = true) (hc : compF P fn = some (a, rs)) (h : fnZ P z fz a rs args s K) : Tr P f args s K := by
  unfold compF at hc
  split at hc
  · rename_i c hbody
    split at hc
    · rename_i a' rs' ha hrs
      split at hc
      · rename_i hd
        simp only [Option.some.injEq, Prod.mk.injEq] at hc
        obtain ⟨rfl, rfl⟩ := hc
        unfold Tr
        refine ⟨hb, fun ι w M Vs hR hV => calls_of_wp hf hbody ?_⟩
        let F : From := ⟨ι, s, w, M, hR.lt, s.next, fn.ntmps⟩
        have hI : Inv F (argsE 0 args) s { tmps := Vs ++ Array.replicate (fn.ntmps - Vs.size) undef, defers := [] } ι w M :=
          ⟨hR, args_erel hV, by simp [F]; omega, rfl, Go.refl ι s w M (Nat.le_refl _)⟩
        refine wpZ_sound (F := F) hD z fz c a' ha hd _ _ hI h fun x e' s' act' ι' w' M' hI' hK => ?_
        have fin : resF e' s' rs' (retW K s') → act'.defers = [] ∧ ∃ v, (results fn act'.tmps).run P w' = .ok v w' ∧ ∃ V ι' M' v' s', Ending.returned v = .returned V ∧ K v' s' ∧ VRel ι' w' M' v' V ∧ Rep ι' s' w' M' ∧ Go s.next ι s w M ι' s' w' M' := by
          intro hres
          rw [resF_eq] at hres
          refine ⟨hI'.dfr, ?_⟩
          obtain ⟨l, vs, h1, h2, h3⟩ := res_sound (P := P) hI' _ _ hrs _ hres
          obtain ⟨v, h4, h5⟩ := ret_rel h2 h3
          refine ⟨_, ?_, _, ι', M', v, s', rfl, h5, h4, hI'.rep, hI'.go⟩
          rw [results_eq, Array.mapM_eq_mapM_toList]
          simp only [Sem.run_bind, map_eq_pure_bind]
          rw [h1]
          simp only [Result.andThen_ok, Sem.run_pure]
        cases x with
        | normal => exact fin hK
        | exit j => exact hK.elim
        | ret => exact fin hK
      · simp at hc
    · simp at hc
  · simp at hc
end
attribute [irreducible] JoinW
end Go.Ab
