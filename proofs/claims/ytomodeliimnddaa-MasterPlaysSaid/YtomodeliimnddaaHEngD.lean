/- Tools for contracts. Contracts of pure functions, and of functions that append to a row; how they are used. Calls of pure functions that look at rows which stay mutable: what they are given is seen as a value for the time of the call. Contracts: pdu, the small ones. Contracts: rows that are alike. Contracts: bits packed into bytes. Contracts: requests that are alike. Contracts: bytes read as numbers. Contracts: bits taken out of bytes. Contracts: runghelp, the small ones. -/
import Derived.Test.YtomodeliimnddaaProg
import Derived.KernelRfl
import Derived.Test.YtomodeliimnddaaHEngC
set_option linter.unusedVariables false
set_option linter.unusedSimpArgs false
namespace Go.Proofs.Ytomodeliimnddaa
open Go.Ab
theorem condS {c : Bool} {A B : Prop} (h1 : c = true → A) (h2 : c = false → B) : cond c A B := by cases c; exact h2 rfl; exact h1 rfl
theorem condF {c : Bool} {A B : Prop} (h2 : c = false → B) (h1 : c = true → A) : cond c A B := condS h1 h2
theorem condT {c : Bool} {A : Prop} (h : c = true) (k : A) : cond c A False := by subst h; exact k
theorem condY {c : Bool} {A B : Prop} (h : c = true) (k : A) : cond c A B := by subst h; exact k
theorem condN {c : Bool} {A B : Prop} (h : c = false) (k : B) : cond c A B := by subst h; exact k
theorem loopI {n0 : Nat} {B : Env → St → (Ex → Env → St → Prop) → Prop} {e : Env} {s : St} {K : Ex → Env → St → Prop} {α : Type} (E : α → Env) (S : α → St) (μ : α → Nat) (x0 : α) (h0 : SubW n0 e s (E x0) (S x0))
    (hr : ∀ x, B (E x) (S x) fun ex e s => match ex with
      | .normal => ∃ x', SubW n0 e s (E x') (S x') ∧ μ x' < μ x
      | .exit j => K (.exit j) e s
      | .ret => K .ret e s) : LoopW n0 B e s K := by unfold LoopW; exact ⟨α, E, S, μ, x0, h0, hr⟩
theorem mixed : Try.prog.follows .mixedOrders = true := by kernel_rfl
theorem trOf {f : Nat} {fn : Func} {a : ACode} {rs : List ARes} {args : List AV} {s : St} {K : AV → St → Prop} (hf : Try.prog.funcs[f]? = some fn) (hb : hasBody Try.prog f = true) (hc : compF Try.prog fn = some (a, rs)) (h : fnW Try.prog a rs args s K) : Tr Try.prog f args s K := fn_sound (drawOk mixed) hf hb hc h
theorem trF {f : Nat} {fn : Func} {a : ACode} {rs : List ARes} {args : List AV} {s : St} {K : AV → St → Prop} (hf : Try.prog.funcs[f]? = some fn) (hb : hasBody Try.prog f = true) (hc : compF Try.prog fn = some (a, rs)) (h : fnF Try.prog a rs args s K) : Tr Try.prog f args s K := trOf hf hb hc (fnF_eq _ _ _ _ _ _ ▸ h)
theorem trZ (z fz : List Nat) {f : Nat} {fn : Func} {a : ACode} {rs : List ARes} {args : List AV} {s : St} {K : AV → St → Prop} (hf : Try.prog.funcs[f]? = some fn) (hb : hasBody Try.prog f = true) (hc : compF Try.prog fn = some (a, rs)) (h : fnZ Try.prog z fz a rs args s K) : Tr Try.prog f args s K := fnZ_sound (drawOk mixed) z fz hf hb hc h
end Go.Proofs.Ytomodeliimnddaa
set_option linter.unusedVariables false
set_option linter.unusedSimpArgs false
namespace Go.Ab
mutual
/-- a value without handles keeps its form under every renaming -/
theorem ren_pure {ρ ρ' : Nat → Option Nat} : ∀ (v : AV), v.hok 0 ρ = true → v.ren ρ' = v
  | .ptr h o, hv => by simp [AV.hok, Nat.blt] at hv
  | .sl e h o n, hv => by simp [AV.hok, Nat.blt] at hv
  | .agg l, hv => by simp only [AV.hok] at hv; simp only [AV.ren, renL_pure l hv]
  | .tup l, hv => by simp only [AV.hok] at hv; simp only [AV.ren, renL_pure l hv]
  | .iface t v, hv => by simp only [AV.hok] at hv; simp only [AV.ren, ren_pure v hv]
  | .fn f l, hv => by simp only [AV.hok] at hv; simp only [AV.ren, renL_pure l hv]
  | .undef, _ => rfl
  | .aggI .., _ => rfl
  | .bool _, _ => rfl
  | .int _ _, _ => rfl
  | .str _, _ => rfl
  | .nilp, _ => rfl
  | .nils, _ => rfl
  | .nili, _ => rfl
  | .nilf, _ => rfl
  | .nilm, _ => rfl
  | .cptr _, _ => rfl
  | .roI _ _, _ => rfl
  | .roB _, _ => rfl
  | .ro _ _, _ => rfl
  | .raw _, _ => rfl
termination_by structural v => v
theorem renL_pure {ρ ρ' : Nat → Option Nat} : ∀ (l : List AV), hokL 0 ρ l = true → renL ρ' l = l
  | [], _ => rfl
  | v :: r, h => by simp only [hokL, Bool.and_eq_true] at h; simp only [renL, ren_pure v h.1, renL_pure r h.2]
termination_by structural l => l
end
mutual
theorem hok_mono {ρ ρ' : Nat → Option Nat} {n : Nat} : ∀ (v : AV), v.hok 0 ρ = true → v.hok n ρ' = true
  | .ptr h o, hv => by simp [AV.hok, Nat.blt] at hv
  | .sl e h o n, hv => by simp [AV.hok, Nat.blt] at hv
  | .agg l, hv => by simp only [AV.hok] at hv; simp only [AV.hok, hokL_mono l hv]
  | .tup l, hv => by simp only [AV.hok] at hv; simp only [AV.hok, hokL_mono l hv]
  | .iface t v, hv => by simp only [AV.hok] at hv; simp only [AV.hok, hok_mono v hv]
  | .fn f l, hv => by simp only [AV.hok] at hv; simp only [AV.hok, hokL_mono l hv]
  | .undef, _ => rfl
  | .aggI .., _ => rfl
  | .bool _, _ => rfl
  | .int _ _, _ => rfl
  | .str _, _ => rfl
  | .nilp, _ => rfl
  | .nils, _ => rfl
  | .nili, _ => rfl
  | .nilf, _ => rfl
  | .nilm, _ => rfl
  | .cptr _, _ => rfl
  | .roI _ _, _ => rfl
  | .roB _, _ => rfl
  | .ro _ _, _ => rfl
  | .raw _, _ => rfl
termination_by structural v => v
theorem hokL_mono {ρ ρ' : Nat → Option Nat} {n : Nat} : ∀ (l : List AV), hokL 0 ρ l = true → hokL n ρ' l = true
  | [], _ => rfl
  | v :: r, h => by simp only [hokL, Bool.and_eq_true] at h; simp only [hokL, hok_mono v h.1, hokL_mono r h.2, Bool.and_self]
termination_by structural l => l
end
variable {P : Program}
def nor : Nat → Option Nat := fun _ => none
def Ev (P : Program) (f : Nat) (args : List AV) (v : AV) : Prop := hokL 0 nor (v :: args) = true ∧ Tr P f args ⟨0, []⟩ fun v' s => v' = v ∧ s = ⟨0, []⟩
theorem Ev.call {f : Nat} {args : List AV} {v : AV} {s : St} {K : AV → St → Prop} (h : Ev P f args v) (k : K v s) : Tr P f args s K := by
  obtain ⟨hh, ht⟩ := h
  simp only [hokL, Bool.and_eq_true] at hh
  refine Tr.call [] ht (renL_pure args hh.2).symm (hokL_mono args hh.2) trivial rfl fun v0 s0 ⟨hv, hs⟩ => ?_
  subst hv; subst hs
  rw [ren_pure v0 hh.1]
  cases s
  exact k
theorem Ev.of {f : Nat} {args : List AV} {v : AV} (h0 : hokL 0 nor (v :: args) = true) (h : Tr P f args ⟨0, []⟩ fun v' s => ∃ v1 s1, Frz v' s v1 s1 ∧ Le v1 v) : Ev P f args v := by
  refine ⟨h0, ?_⟩
  simp only [hokL, Bool.and_eq_true] at h0
  refine Tr.norm (K := fun v' s => v' = v) (Tr.leRes (Tr.freeze h (K' := fun v' s => Le v' v) fun v' s h => ?_) fun v' s h => ?_) fun v' s h => ?_
  · obtain ⟨v1, s1, h1, h2⟩ := h; exact ⟨v1, s1, h1, h2⟩
  · exact ⟨v, h, rfl⟩
  · subst h
    refine ⟨_, _, ?_, rfl, rfl⟩
    refine ⟨[], rfl, rfl, rfl, ⟨⟨?_, hok_mono v' h0.1⟩, trivial⟩, trivial⟩
    show Env.get [(0, v')] 0 = _
    rw [ren_pure v' h0.1]; rfl
theorem rowCall {f h len : Nat} {l l' : List Int} {xs : List AV} {s : St} {K : AV → St → Prop}
    (hT : Tr P f (.sl 1 0 0 l.length :: xs) ⟨1, [(0, some (.rowI .u8 l))]⟩ fun v s => v = .sl 1 1 0 l'.length ∧ s = ⟨2, [(1, some (.rowI .u8 l'))]⟩)
    (hx : hokL 0 nor xs = true) (hg : s.get h = some (.rowI .u8 l)) (hl : len = l.length)
    (k : openS s fun n m => K (.sl 1 n 0 l'.length) ⟨n + 1, (n, some (.rowI .u8 l')) :: (h, none) :: m⟩) : Tr P f (.sl 1 h 0 len :: xs) s K := by
  subst hl
  refine Tr.call [(0, some h)] hT ?_ ?_ ?_ rfl fun v0 s0 ⟨hv, hs⟩ => ?_
  · simp only [renL, renL_pure xs hx]; rfl
  · simp only [hokL, hokL_mono xs hx]; rfl
  · exact ⟨⟨trivial, rfl, hg⟩, trivial⟩
  · subst hv; subst hs
    exact k
def Ret1 (row : List Int) (rest : List AV) (v : AV) (s : St) : Prop := v = .tup (.sl 1 0 0 row.length :: rest) ∧ s = ⟨1, [(0, some (.rowI .u8 row))]⟩
theorem Ret1.of {f : Nat} {args : List AV} {row : List Int} {rest : List AV} (h0 : hokL 0 nor rest = true)
    (h : Tr P f args ⟨0, []⟩ fun v s => ∃ v', Le v v' ∧ ((∃ h, v' = .tup (.sl 1 h 0 row.length :: rest) ∧ s.get h = some (.rowI .u8 row)) ∨ (row = [] ∧ v' = .tup (.nils :: rest)))) :
    Tr P f args ⟨0, []⟩ (Ret1 row rest) := by
  refine Tr.norm (K := fun v' s => (∃ h, v' = .tup (.sl 1 h 0 row.length :: rest) ∧ s.get h = some (.rowI .u8 row)) ∨ (row = [] ∧ v' = .tup (.nils :: rest))) (Tr.leRes h fun v s h => h) fun v s h => ?_
  refine ⟨.tup (.sl 1 0 0 row.length :: rest), ⟨1, [(0, some (.rowI .u8 row))]⟩, ?_, rfl, rfl⟩
  rcases h with ⟨h, rfl, hg⟩ | ⟨hr, rfl⟩
  · refine ⟨[(0, some h)], rfl, rfl, rfl, ⟨⟨?_, ?_⟩, trivial⟩, ⟨⟨trivial, rfl, hg⟩, trivial⟩⟩
    · show AV.tup _ = _
      simp only [AV.ren, renL, renL_pure rest h0]; rfl
    · simp only [AV.hok, hokL, hokL_mono rest h0]; rfl
  · subst hr
    refine ⟨[(0, none)], rfl, rfl, rfl, ⟨⟨?_, ?_⟩, trivial⟩, ⟨⟨trivial, rfl, rfl⟩, trivial⟩⟩
    · show AV.tup _ = _
      simp only [AV.ren, renL, renL_pure rest h0]; rfl
    · simp only [AV.hok, hokL, hokL_mono rest h0]; rfl
mutual
theorem frz_pure {h : Nat} {c : Chunk} : ∀ (v : AV), v.hok 0 nor = true → v.frz h c = v
  | .sl e h o n, hv => by simp [AV.hok, Nat.blt] at hv
  | .agg l, hv => by simp only [AV.hok] at hv; simp only [AV.frz, frzL_pure l hv]
  | .tup l, hv => by simp only [AV.hok] at hv; simp only [AV.frz, frzL_pure l hv]
  | .iface t v, hv => by simp only [AV.hok] at hv; simp only [AV.frz, frz_pure v hv]
  | .fn f l, hv => by simp only [AV.hok] at hv; simp only [AV.frz, frzL_pure l hv]
  | .ptr _ _, _ => rfl
  | .undef, _ => rfl
  | .aggI .., _ => rfl
  | .bool _, _ => rfl
  | .int _ _, _ => rfl
  | .str _, _ => rfl
  | .nilp, _ => rfl
  | .nils, _ => rfl
  | .nili, _ => rfl
  | .nilf, _ => rfl
  | .nilm, _ => rfl
  | .cptr _, _ => rfl
  | .roI _ _, _ => rfl
  | .roB _, _ => rfl
  | .ro _ _, _ => rfl
  | .raw _, _ => rfl
termination_by structural v => v
theorem frzL_pure {h : Nat} {c : Chunk} : ∀ (l : List AV), hokL 0 nor l = true → frzL h c l = l
  | [], _ => rfl
  | v :: r, h => by simp only [hokL, Bool.and_eq_true] at h; simp only [frzL, frz_pure v h.1, frzL_pure r h.2]
termination_by structural l => l
end
theorem ble_self (n : Nat) : Nat.ble n n = true := Nat.ble_self_eq_true n
theorem beq_self (n : Nat) : Nat.beq n n = true := Nat.beq_refl n
theorem frzS_all (k : IntKind) (row : List Int) (n : Nat) (h : n = row.length) : frzS (.rowI k row) 1 0 n = some (.roI k row) := by
  subst h
  simp [frzS, ble_self]
theorem frzS_allB (row : List Bool) (n : Nat) (h : n = row.length) : frzS (.rowB row) 1 0 n = some (.roB row) := by
  subst h
  simp [frzS, ble_self]
theorem frz_row (h : Nat) (k : IntKind) (row : List Int) (n : Nat) (hn : n = row.length) : (AV.sl 1 h 0 n).frz h (.rowI k row) = .roI k row := by
  simp only [AV.frz, beq_self, cond_true, frzS_all k row n hn]
theorem frz_rowB (h : Nat) (row : List Bool) (n : Nat) (hn : n = row.length) : (AV.sl 1 h 0 n).frz h (.rowB row) = .roB row := by
  simp only [AV.frz, beq_self, cond_true, frzS_allB row n hn]
theorem Ret1.ev {f : Nat} {args : List AV} {row : List Int} {rest : List AV} (h0 : hokL 0 nor (args ++ rest) = true) (h : Tr P f args ⟨0, []⟩ (Ret1 row rest)) : Ev P f args (.tup (.roI .u8 row :: rest)) := by
  have h1 : hokL 0 nor args = true ∧ hokL 0 nor rest = true := by
    generalize args = l at h0
    clear h
    induction l with
    | nil => exact ⟨rfl, h0⟩
    | cons v r ih =>
      simp only [List.cons_append, hokL, Bool.and_eq_true] at h0 ⊢
      exact ⟨⟨h0.1, (ih h0.2).1⟩, (ih h0.2).2⟩
  refine Ev.of (by simp only [hokL, AV.hok, h1.1, h1.2, Bool.and_self]) (h.mono fun v s ⟨hv, hs⟩ => ?_)
  subst hv; subst hs
  refine ⟨_, _, .step _ _ 0 (.rowI .u8 row) _ _ rfl (.refl _ _), ?_⟩
  show Le (AV.tup (frzL 0 (.rowI .u8 row) (_ :: _))) _
  rw [frzL, frz_row 0 .u8 row _ rfl, frzL_pure rest h1.2]
  exact Le.refl _
theorem Ev.row {f : Nat} {args : List AV} {k : IntKind} {row : List Int} (h0 : hokL 0 nor args = true) (h : Tr P f args ⟨0, []⟩ fun v s => v = .sl 1 0 0 row.length ∧ s = ⟨1, [(0, some (.rowI k row))]⟩) : Ev P f args (.roI k row) := by
  refine Ev.of (by simp only [hokL, AV.hok, h0, Bool.and_self]) (h.mono fun v s ⟨hv, hs⟩ => ?_)
  subst hv; subst hs
  refine ⟨_, _, .step _ _ 0 (.rowI k row) _ _ rfl (.refl _ _), ?_⟩
  rw [frz_row 0 k row _ rfl]
  exact Le.refl _
theorem Ev.rowB {f : Nat} {args : List AV} {row : List Bool} (h0 : hokL 0 nor args = true) (h : Tr P f args ⟨0, []⟩ fun v s => v = .sl 1 0 0 row.length ∧ s = ⟨1, [(0, some (.rowB row))]⟩) : Ev P f args (.roB row) := by
  refine Ev.of (by simp only [hokL, AV.hok, h0, Bool.and_self]) (h.mono fun v s ⟨hv, hs⟩ => ?_)
  subst hv; subst hs
  refine ⟨_, _, .step _ _ 0 (.rowB row) _ _ rfl (.refl _ _), ?_⟩
  rw [frz_rowB 0 row _ rfl]
  exact Le.refl _
theorem Ret1.call {f : Nat} {args : List AV} {row : List Int} {rest : List AV} {s : St} {K : AV → St → Prop} (h : Tr P f args ⟨0, []⟩ (Ret1 row rest)) (h0 : hokL 0 nor args = true) (h1 : hokL 0 nor rest = true)
    (k : openS s fun n m => K (.tup (.sl 1 n 0 row.length :: rest)) ⟨n + 1, (n, some (.rowI .u8 row)) :: m⟩) : Tr P f args s K := by
  refine Tr.call [] h (renL_pure args h0).symm (hokL_mono args h0) trivial rfl fun v0 s0 ⟨hv, hs⟩ => ?_
  subst hv; subst hs
  rw [openS_eq] at k
  have : (AV.tup (.sl 1 0 0 row.length :: rest)).ren (back (rnm []) 0 s.next) = .tup (.sl 1 s.next 0 row.length :: rest) := by
    simp only [AV.ren, renL, renL_pure rest h1]; rfl
  rw [this]
  exact k
theorem rowCall2 {f h h2 len n : Nat} {l l' m : List Int} {kk : IntKind} {s : St} {K : AV → St → Prop}
    (hT : Tr P f [.sl 1 0 0 l.length, .roI kk m] ⟨1, [(0, some (.rowI .u8 l))]⟩ fun v s => v = .sl 1 1 0 l'.length ∧ s = ⟨2, [(1, some (.rowI .u8 l'))]⟩)
    (hg2 : s.get h2 = some (.rowI kk m)) (hg : s.get h = some (.rowI .u8 l)) (hne : Nat.beq h h2 = false) (hn : n = m.length) (hl : len = l.length)
    (k : openS s fun n t => K (.sl 1 n 0 l'.length) ⟨n + 1, (n, some (.rowI .u8 l')) :: (h, none) :: (h2, none) :: t⟩) : Tr P f [.sl 1 h 0 len, .sl 1 h2 0 n] s K := by
  refine Tr.lend h2 hg2 ?_
  have : frzL h2 (.rowI kk m) [.sl 1 h 0 len, .sl 1 h2 0 n] = [.sl 1 h 0 len, .roI kk m] := by
    simp only [frzL, frz_row h2 kk m n hn]
    simp [AV.frz, hne]
  rw [this]
  refine rowCall hT rfl ?_ hl k
  have hh : h2 ≠ h := fun e => by subst e; rw [beq_self] at hne; cases hne
  show St.get ⟨s.next, (h2, none) :: s.m⟩ h = _
  rw [St.get_cons, if_neg hh]
  exact hg
def FrzK (v2 v : AV) (s : St) : Prop := ∃ v1 s1, Frz v s v1 s1 ∧ Le v1 v2
theorem FrzK.le {v2 v : AV} {s : St} (h : Le v v2) : FrzK v2 v s := ⟨v, s, .refl _ _, h⟩
theorem FrzK.step {v2 v : AV} {s : St} (h : Nat) {c : Chunk} (hg : s.get h = some c) (ht : FrzK v2 (v.frz h c) (s.drop h)) : FrzK v2 v s := by
  obtain ⟨v1, s1, h1, h2⟩ := ht
  exact ⟨v1, s1, .step _ _ h c _ _ hg h1, h2⟩
theorem FrzK.ev {P : Program} {f : Nat} {args : List AV} {v : AV} (h0 : hokL 0 nor (v :: args) = true) (h : Tr P f args ⟨0, []⟩ (FrzK v)) : Ev P f args v := Ev.of h0 h
attribute [irreducible] FrzK
end Go.Ab
set_option linter.unusedVariables false
set_option linter.unusedSimpArgs false
namespace Go.Ab
def flat1 : AV → Bool
  | .bool _ | .int _ _ | .str _ | .nilp | .nils | .nili | .nilf | .nilm => true
  | _ => false
def flatA : AV → Bool
  | .tup l => l.all flat1
  | v => flat1 v
def cell1 : AV → Bool
  | .bool _ | .int _ _ | .str _ | .nilp | .nils | .nili | .nilf | .nilm | .roI _ _ | .roB _ | .ro _ _ => true
  | _ => false
theorem cell1_rel {ι : Iota} {w : World} {M : Nat → Prop} {v : AV} {V : Value} (hv : cell1 v = true) (h : VRel ι w M v V) : GRel w M v V := by
  cases h with
  | g _ _ h => exact h
  | _ => simp [cell1] at hv
inductive See (get : Nat → Option Chunk) : AV → AV → Prop
  | same (v : AV) (h : v.hok 0 nor = true) : See get v v
  | row (h o n : Nat) (c : Chunk) (v : AV) (hg : get h = some c) (hf : frzS c 1 o n = some v) (hv : v.hok 0 nor = true) : See get (.sl 1 h o n) v
  | blk (h o n N : Nat) (k : Nat → IntKind) (g : Nat → Int) (kk : IntKind) (hg : get h = some (.blk N k g)) (hle : o + n ≤ N) (hk : ∀ j, j < n → k (o + j) = kk) : See get (.sl 1 h o n) (.roI kk ((List.range n).map fun j => g (o + j)))
  | obj (es h n : Nat) (l L : List AV) (hg : get h = some (.obj l)) (hL : L.length = n) (he : ∀ i, i < n → (L.getD i .undef).flat.length = es) (hc : ∀ j, j < n * es → l.getD j .undef = (L.getD (j / es) .undef).flat.getD (j % es) .undef)
      (h1 : ∀ j, j < n * es → cell1 (l.getD j .undef) = true) (hle : n * es ≤ l.length) : See get (.sl es h 0 n) (.ro es L)
  | agg (l l' : List AV) (hl : l.length = l'.length) (hs : ∀ j, j < l.length → See get (l.getD j .undef) (l'.getD j .undef)) : See get (.agg l) (.agg l')
  | tup (l l' : List AV) (hl : l.length = l'.length) (hs : ∀ j, j < l.length → See get (l.getD j .undef) (l'.getD j .undef)) : See get (.tup l) (.tup l')
  | le (v v' v'' : AV) (hs : See get v v') (hl : Le v' v'') : See get v v''
def SeeL (get : Nat → Option Chunk) : List AV → List AV → Prop
  | [], [] => True
  | v :: r, v' :: r' => See get v v' ∧ SeeL get r r'
  | _, _ => False
theorem SeeL.get {g : Nat → Option Chunk} : ∀ {l l' : List AV}, SeeL g l l' → l.length = l'.length ∧ ∀ j, j < l.length → See g (l.getD j .undef) (l'.getD j .undef)
  | [], [], _ => ⟨rfl, fun j hj => by simp at hj⟩
  | v :: r, v' :: r', h => by
    obtain ⟨h1, h2⟩ := SeeL.get h.2
    refine ⟨by simp [h1], fun j hj => ?_⟩
    cases j with
    | zero => simpa using h.1
    | succ j => simpa using h2 j (by simpa using hj)
  | [], _ :: _, h => h.elim
  | _ :: _, [], h => h.elim
theorem See.aggL {g : Nat → Option Chunk} {l l' : List AV} (h : SeeL g l l') : See g (.agg l) (.agg l') := .agg l l' h.get.1 h.get.2
def seeI : Iota := fun _ => none
def seeM : Nat → Prop := fun _ => False
section
variable {P : Program} {ι : Iota} {s : St} {w : World} {M : Nat → Prop}
theorem pure_rel {v : AV} {V : Value} (hv : v.hok 0 nor = true) (h : VRel ι w M v V) : VRel seeI w M v V := by
  have h1 := ren_rel (ι := ι) (w := w) (M := M) (n := 0) (ρ := nor) v V hv (by rw [ren_pure v hv]; exact h)
  have : ι.ren nor 0 = seeI := by
    funext k
    exact Iota.ren_ge (Nat.zero_le _)
  rwa [this] at h1
theorem Imm.seeM : Imm w M w seeM := ⟨Nat.le_refl _, fun b _ _ => ⟨id, rfl⟩, fun _ _ => rfl⟩
theorem See.rel (hR : Rep ι s w M) {v v' : AV} (hs : See s.get v v') : ∀ {V : Value}, VRel ι w M v V → VRel seeI w seeM v' V := by
  induction hs with
  | same v h => intro V hV; exact pure_rel h (hV.mono Imm.seeM (fun _ _ h => h))
  | row h o n c v hg hf hv =>
    intro V hV
    have h1 := frzS_rel hR hg hf hV
    exact pure_rel hv (h1.mono Imm.seeM (fun _ _ h => h))
  | blk h o n N k g kk hg hle hk =>
    intro V hV
    rcases hV.sl_inv with ⟨b, base, oo, cap, T, NN, hi, ho, hl, hsh, hnn, rfl⟩ | ⟨hi, rfl, rfl⟩
    · rcases hR.own h _ hg with ⟨k1, _⟩ | ⟨b', base', k1, k2, hC⟩
      · rw [hi] at k1; cases k1
      · rw [hi] at k1
        simp only [Option.some.injEq, Prod.mk.injEq] at k1
        obtain ⟨rfl, rfl⟩ := k1
        have hlen : ((List.range n).map fun j => g (o + j)).length = n := by simp
        have hget : ∀ j, j < n → ((List.range n).map fun j => g (o + j)).getD j 0 = g (o + j) := fun j hj => by simp [List.getD_eq_getElem?_getD, hj]
        refine .g _ _ ?_
        have := GRel.slice (w := w) (M := seeM) (.roI kk ((List.range n).map fun j => g (o + j))) 1 n (fun j => .int kk (((List.range n).map fun j => g (o + j)).getD j 0)) ⟨b, oo, none⟩ cap (fun j => .int kk (g (o + j)))
          (by simp only [AV.rov, hlen]) (fun _ => ⟨rfl, fun h => h, hR.lt b k2⟩) hl (fun _ _ => rfl) (fun j hj => ?_) (fun j hj => by rw [hget j (by omega)]; exact .int _ _)
        · exact this
        · have hj : j < n := by omega
          have ho' : oo = base + o := by
            rcases ho with h | h
            · exact h
            · omega
          subst ho'
          obtain ⟨W, q1, q2⟩ := hC.cell (j := o + j) (by simp only [Chunk.size]; omega)
          simp only [Chunk.get, hk j hj] at q2
          rw [← q2.int_inv, ← q1, Nat.add_assoc]
    · exact .g _ _ (.sliceNil _ 1 (fun j => .int kk (([] : List Int).getD j 0)) rfl)
  | obj es h n l L hg hL he hc h1 hle =>
    intro V hV
    rcases hV.sl_inv with ⟨b, base, oo, cap, T, NN, hi, ho, hl, hsh, hnn, rfl⟩ | ⟨hi, rfl, rfl⟩
    · rcases hR.own h _ hg with ⟨k1, _⟩ | ⟨b', base', k1, k2, hC⟩
      · rw [hi] at k1; cases k1
      · rw [hi] at k1
        simp only [Option.some.injEq, Prod.mk.injEq] at k1
        obtain ⟨rfl, rfl⟩ := k1
        have hcc : ∀ j, j < n * es → ∃ W, w.cell? ⟨b, oo + j, none⟩ = some W ∧ VRel ι w M (l.getD j .undef) W := fun j hj => by
          have ho' : oo = base := by
            rcases ho with h | h
            · omega
            · have : n = 0 := by omega
              subst this; simp at hj
          subst ho'
          obtain ⟨W, q1, q2⟩ := hC.cell (j := j) (by simp only [Chunk.size]; omega)
          exact ⟨W, q1, q2⟩
        let g : Nat → Value := fun j => if hj : j < n * es then (hcc j hj).choose else default
        refine .g _ _ (.slice (.ro es L) es n (fun j => (L.getD (j / es) .undef).flat.getD (j % es) .undef) ⟨b, oo, none⟩ cap g (by simp only [AV.rov, hL]) (fun _ => ⟨rfl, fun h => h, hR.lt b k2⟩) hl (fun i hi => he i hi) (fun j hj => ?_) fun j hj => ?_)
        · simp only [g, hj, dif_pos]; exact (hcc j hj).choose_spec.1
        · simp only [g, hj, dif_pos]
          show GRel w seeM ((L.getD (j / es) .undef).flat.getD (j % es) .undef) _
          rw [← hc j hj]
          exact (cell1_rel (h1 j hj) (hcc j hj).choose_spec.2).mono Imm.seeM
    · obtain rfl : L = [] := List.length_eq_zero_iff.mp hL
      exact .g _ _ (.sliceNil _ es (fun j => ((([] : List AV).getD (j / es) .undef).flat.getD (j % es) .undef)) rfl)
  | agg l l' hl hs ih =>
    intro V hV
    obtain ⟨cs, rfl, h1, h2⟩ := hV.agg_inv
    exact .agg _ cs (by omega) fun j hj => ih j (by omega) (h2 j (by omega))
  | tup l l' hl hs ih =>
    intro V hV
    obtain ⟨cs, rfl, h1, h2⟩ := hV.tup_inv
    exact .tup _ cs (by omega) fun j hj => ih j (by omega) (h2 j (by omega))
  | le v v' v'' hs hl ih => intro V hV; exact hl _ _ _ _ (ih hV)
theorem flat1_rel {v : AV} {V : Value} {ι' : Iota} {w' : World} {M' : Nat → Prop} (hv : flat1 v = true) (h : VRel ι w M v V) : VRel ι' w' M' v V := by
  cases v <;> simp only [flat1, Bool.false_eq_true] at hv
  case bool => rw [h.bool_inv]; exact .g _ _ (.bool _)
  case int => rw [h.int_inv]; exact .g _ _ (.int _ _)
  case str => rw [h.str_inv]; exact .g _ _ (.str _)
  case nilp => rw [h.nilp_inv]; exact .g _ _ .nilp
  case nils => rw [h.nils_inv]; exact .g _ _ .nils
  case nili => rw [h.nili_inv]; exact .g _ _ .nili
  case nilf => rw [h.nilf_inv]; exact .g _ _ .nilf
  case nilm => rw [h.nilm_inv]; exact .g _ _ .nilm
theorem flatL_rel {l : List AV} {cs : Array Value} {ι' : Iota} {w' : World} {M' : Nat → Prop} (hv : l.all flat1 = true) (h : ∀ j, j < l.length → VRel ι w M (l.getD j .undef) (cs.getD j default)) : ∀ j, j < l.length → VRel ι' w' M' (l.getD j .undef) (cs.getD j default) := fun j hj => by
  refine flat1_rel ?_ (h j hj)
  have := (List.all_eq_true.1 hv) (l[j]) (List.getElem_mem hj)
  simpa [List.getD_eq_getElem?_getD, hj] using this
theorem flat_rel {v : AV} {V : Value} {ι' : Iota} {w' : World} {M' : Nat → Prop} (hv : flatA v = true) (h : VRel ι w M v V) : VRel ι' w' M' v V := by
  by_cases ht : ∃ l, v = .tup l
  · obtain ⟨l, rfl⟩ := ht
    obtain ⟨cs, rfl, h1, h2⟩ := h.tup_inv
    exact .tup _ cs h1 (flatL_rel hv h2)
  · refine flat1_rel ?_ h
    cases v <;> first | exact hv | exact absurd ⟨_, rfl⟩ ht
theorem no_own {b : Nat} : ¬ Own seeI ⟨0, []⟩ b := fun ⟨_, _, _, h, _⟩ => by cases h
theorem repNo : Rep seeI ⟨0, []⟩ w seeM := ⟨fun _ _ => rfl, fun _ _ h => (by cases h), fun _ _ _ _ _ _ h => (by cases h), fun _ h => h.elim⟩
theorem seeArgs (hR : Rep ι s w M) {args args' : List AV} {Vs : Array Value} (hs : SeeL s.get args args') (hV : VRels ι w M args Vs) : VRels seeI w seeM args' Vs := by
  obtain ⟨k1, k2⟩ := hs.get
  exact ⟨by rw [hV.1, k1], fun j hj => (k2 j (by omega)).rel hR (hV.2 j (by omega))⟩
theorem immNo {w1 : World} {ι1 : Iota} {s1 : St} {M1 : Nat → Prop} (hG : Go 0 seeI ⟨0, []⟩ w seeM ι1 s1 w1 M1) : Imm w M w1 M :=
  ⟨hG.size, fun b hb hm => ⟨hm, hG.block b hb no_own⟩, hG.shape⟩
theorem repKeep (hR : Rep ι s w M) {w1 : World} {ι1 : Iota} {s1 : St} {M1 : Nat → Prop} (hG : Go 0 seeI ⟨0, []⟩ w seeM ι1 s1 w1 M1) : Rep ι s w1 M :=
  ⟨hR.fresh, fun h c hg => by
    rcases hR.own h c hg with k | ⟨b, base, k1, k2, k3⟩
    · exact .inl k
    · exact .inr ⟨b, base, k1, k2, k3.mono (immNo hG) (fun _ _ h => h) (hG.block b (hR.lt b k2) no_own)⟩, hR.inj, fun b hb => Nat.lt_of_lt_of_le (hR.lt b hb) hG.size⟩
theorem goKeep {w1 : World} {ι1 : Iota} {s1 : St} {M1 : Nat → Prop} (hG : Go 0 seeI ⟨0, []⟩ w seeM ι1 s1 w1 M1) : Go s.next ι s w M ι s w1 M :=
  ⟨hG.size, hG.tape, hG.os, hG.output, fun b hb _ => hG.block b hb no_own, hG.shape, fun _ _ h => h, fun _ h _ => h, fun _ _ h => h, Nat.le_refl _, fun _ _ => rfl⟩
theorem Ev.look {f : Nat} {args args' : List AV} {v : AV} {K : AV → St → Prop} (h : Ev P f args' v) (hv : flatA v = true) (hs : SeeL s.get args args') (k : K v s) : Tr P f args s K := by
  obtain ⟨_, h⟩ := h
  unfold Tr at *
  obtain ⟨hb, h⟩ := h
  refine ⟨hb, fun ι w M Vs hR hV => Calls.mono (h seeI w seeM Vs repNo (seeArgs hR hs hV)) fun en w1 he => ?_⟩
  obtain ⟨V, ι1, M1, v0, s0, rfl, ⟨rfl, rfl⟩, h1, h2, h3⟩ := he
  exact ⟨V, ι, M, v0, s, rfl, k, flat_rel hv h1, repKeep hR h3, goKeep h3⟩
theorem Ret1.lookF {f : Nat} {args args' : List AV} {row : List Int} {rest : List AV} {K : AV → St → Prop} (h : Tr P f args' ⟨0, []⟩ (Ret1 row rest)) (hv : rest.all flat1 = true) (hs : SeeL s.get args args')
    (k : K (.tup (.roI .u8 row :: rest)) s) : Tr P f args s K := by
  unfold Tr at *
  obtain ⟨hb, h⟩ := h
  refine ⟨hb, fun ι w M Vs hR hV => Calls.mono (h seeI w seeM Vs repNo (seeArgs hR hs hV)) fun en w1 he => ?_⟩
  obtain ⟨V, ι1, M1, v0, s0, rfl, ⟨rfl, rfl⟩, h1, h2, h3⟩ := he
  obtain ⟨cs, rfl, h4, h5⟩ := h1.tup_inv
  have h50 := h5 0 (by simp)
  simp only [List.getD_cons_zero] at h50
  refine ⟨.tuple cs, ι, M, _, s, rfl, k, .tup _ cs (by simpa using h4) fun j hj => ?_, repKeep hR h3, goKeep h3⟩
  cases j with
  | succ j =>
    have h6 := h5 (j + 1) (by simpa using hj)
    simp only [List.getD_cons_succ] at h6 ⊢
    refine flat1_rel ?_ h6
    have hj' : j < rest.length := by simpa using hj
    have := (List.all_eq_true.1 hv) (rest[j]) (List.getElem_mem hj')
    simpa [List.getD_eq_getElem?_getD, hj'] using this
  | zero =>
    simp only [List.getD_cons_zero]
    rcases h50.sl_inv with ⟨b, base, o, cap, T, N, hi, ho, hl, hsh, hnn, hV0⟩ | ⟨hi, hl0, hV0⟩
    · rcases h2.own 0 (.rowI .u8 row) rfl with ⟨k1, _⟩ | ⟨b', base', k1, k2, k3⟩
      · rw [hi] at k1; cases k1
      · rw [hi] at k1
        simp only [Option.some.injEq, Prod.mk.injEq] at k1
        obtain ⟨rfl, rfl⟩ := k1
        have hnew : ¬ b < w.heap.size := fun hlt => h3.back b hlt k2
        rw [hV0]
        refine .g _ _ (.slice _ 1 row.length (fun j => .int .u8 (row.getD j 0)) ⟨b, o, none⟩ cap (fun j => .int .u8 (row.getD j 0)) rfl (fun _ => ⟨rfl, fun hm => hnew (hR.lt b hm), h2.lt b k2⟩) hl (fun _ _ => rfl) (fun j hj => ?_) fun j hj => .int _ _)
        have hj : j < row.length := by omega
        have ho' : o = base := by
          rcases ho with h | h
          · exact h
          · omega
        subst ho'
        obtain ⟨W, q1, q2⟩ := k3.cell (j := j) (by exact hj)
        simp only [Chunk.get] at q2
        rw [q1, q2.int_inv]
    · have : row = [] := List.eq_nil_of_length_eq_zero hl0
      subst this
      rw [hV0]
      exact .g _ _ (.sliceNil _ 1 (fun j => .int .u8 (([] : List Int).getD j 0)) rfl)
theorem See.rowB {g : Nat → Option Chunk} {h o n : Nat} {row : List Bool} (hg : g h = some (.rowB row)) (hle : o + n ≤ row.length) : See g (.sl 1 h o n) (.roB ((row.drop o).take n)) := by
  refine .row h o n _ _ hg ?_ rfl
  have : Nat.ble (o + n) row.length = true := Nat.ble_eq_true_of_le hle
  simp [frzS, this]
theorem See.rowI {g : Nat → Option Chunk} {h o n : Nat} {k : IntKind} {row : List Int} (hg : g h = some (.rowI k row)) (hle : o + n ≤ row.length) : See g (.sl 1 h o n) (.roI k ((row.drop o).take n)) := by
  refine .row h o n _ _ hg ?_ rfl
  have : Nat.ble (o + n) row.length = true := Nat.ble_eq_true_of_le hle
  simp [frzS, this]
theorem Ret1.look {f : Nat} {args args' : List AV} {row : List Int} {rest : List AV} {K : AV → St → Prop} (h : Tr P f args' ⟨0, []⟩ (Ret1 row rest)) (hv : rest.all flat1 = true) (hs : SeeL s.get args args')
    (k : openS s fun n m => K (.tup (.sl 1 n 0 row.length :: rest)) ⟨n + 1, (n, some (.rowI .u8 row)) :: m⟩) : Tr P f args s K := by
  rw [openS_eq] at k
  unfold Tr at *
  obtain ⟨hb, h⟩ := h
  refine ⟨hb, fun ι w M Vs hR hV => Calls.mono (h seeI w seeM Vs repNo (seeArgs hR hs hV)) fun en w1 he => ?_⟩
  obtain ⟨V, ι1, M1, v0, s0, rfl, ⟨rfl, rfl⟩, h1, h2, h3⟩ := he
  obtain ⟨cs, rfl, h4, h5⟩ := h1.tup_inv
  have hn : ι s.next = none := hR.fresh _ (Nat.le_refl _)
  have hg : s.get s.next = none := by
    cases h : s.get s.next with
    | none => rfl
    | some c => exact absurd (hR.none_of_get h) (by omega)
  have hK := repKeep hR h3
  have hGo := goKeep (ι := ι) (s := s) (M := M) h3
  have h50 := h5 0 (by simp)
  simp only [List.getD_cons_zero] at h50
  have rest_ok : ∀ (ι' : Iota) (M' : Nat → Prop), VRel ι' w1 M' (.sl 1 s.next 0 row.length) (cs.getD 0 default) → VRel ι' w1 M' (.tup (.sl 1 s.next 0 row.length :: rest)) (.tuple cs) := fun ι' M' h0 => by
    refine .tup _ cs (by simpa using h4) fun j hj => ?_
    cases j with
    | zero => simpa using h0
    | succ j =>
      have h6 := h5 (j + 1) (by simpa using hj)
      simp only [List.getD_cons_succ] at h6 ⊢
      refine flat1_rel ?_ h6
      have hj' : j < rest.length := by simpa using hj
      have := (List.all_eq_true.1 hv) (rest[j]) (List.getElem_mem hj')
      simpa [List.getD_eq_getElem?_getD, hj'] using this
  rcases h50.sl_inv with ⟨b, base, o, cap, T, N, hi, ho, hl, hsh, hnn, hV0⟩ | ⟨hi, hl0, hV0⟩
  · rcases h2.own 0 (.rowI .u8 row) rfl with ⟨k1, _⟩ | ⟨b', base', k1, k2, k3⟩
    · rw [hi] at k1; cases k1
    · rw [hi] at k1
      simp only [Option.some.injEq, Prod.mk.injEq] at k1
      obtain ⟨rfl, rfl⟩ := k1
      have hnew : ¬ b < w.heap.size := fun hlt => h3.back b hlt k2
      have hlt1 := h2.lt b k2
      let ι' := ι.set s.next (some (b, base))
      have hxt := ι.set_ext s.next (some (b, base)) hn
      have hR1 : Rep ι' ⟨s.next + 1, s.m⟩ w1 (addM M b) := by
        refine ⟨fun j hj => by show ι.set _ _ _ = _; rw [ι.set_other _ _ _ (by simp only at hj; omega)]; exact hR.fresh j (by simp only at hj; omega), fun j c hc => ?_, fun j j' c c' p p' hc hc' hne hp hp' => ?_, fun x hx => ?_⟩
        · have hc : s.get j = some c := hc
          have hne : j ≠ s.next := fun e => by subst e; rw [hg] at hc; cases hc
          show (ι.set _ _ j = _ ∧ _) ∨ _
          have e1 : ι' j = ι j := ι.set_other _ _ _ hne
          rcases hR.own j c hc with q | ⟨b1, base1, q1, q2, q3⟩
          · exact .inl ⟨e1.trans q.1, q.2⟩
          · refine .inr ⟨b1, base1, e1.trans q1, .inl q2, q3.mono ⟨h3.size, fun x hx hm => ⟨fun hm' => ?_, h3.block x hx no_own⟩, h3.shape⟩ hxt (h3.block b1 (hR.lt b1 q2) no_own)⟩
            rcases hm' with hm' | hm'
            · exact hm hm'
            · subst hm'; exact hnew hx
        · have hc : s.get j = some c := hc
          have hc' : s.get j' = some c' := hc'
          have hne1 : j ≠ s.next := fun e => by subst e; rw [hg] at hc; cases hc
          have hne2 : j' ≠ s.next := fun e => by subst e; rw [hg] at hc'; cases hc'
          rw [show ι' j = ι j from ι.set_other _ _ _ hne1] at hp
          rw [show ι' j' = ι j' from ι.set_other _ _ _ hne2] at hp'
          exact hR.inj j j' c c' p p' hc hc' hne hp hp'
        · rcases hx with hx | hx
          · exact Nat.lt_of_lt_of_le (hR.lt x hx) h3.size
          · subst hx; exact hlt1
      refine ⟨.tuple cs, ι', addM M b, _, _, rfl, k, rest_ok _ _ ?_, hR1.put (.inr ⟨b, base, ι.set_same _ _, .inr rfl, ?_, fun j c' p hne hc' hp => ?_⟩), ⟨h3.size, h3.tape, h3.os, h3.output, fun x hx _ => h3.block x hx no_own, h3.shape, fun x hx hm => ?_, fun x hm _ => .inl hm, fun x hx ho => ?_, by simp only; omega, fun j hj => ι.set_other _ _ _ (by omega)⟩⟩
      · rw [hV0]
        exact .sl 1 s.next 0 row.length b base o cap T N (ι.set_same _ _) ho hl hsh hnn
      · obtain ⟨cs', T', fr, q1, q2, q3, q4⟩ := k3
        refine ⟨cs', T', fr, q1, q2, q3, fun j hj => ?_⟩
        have := q4 j hj
        simp only [Chunk.get] at this ⊢
        rw [this.int_inv]
        exact .g _ _ (.int _ _)
      · have hc' : s.get j = some c' := hc'
        have hne2 : j ≠ s.next := hne
        rw [show ι' j = ι j from ι.set_other _ _ _ hne2] at hp
        have hM := hR.ownM ⟨j, c', p.2, hc', hp⟩
        have := hR.lt _ hM
        omega
      · rcases hm with hm | hm
        · exact hm
        · subst hm; exact absurd hx hnew
      · obtain ⟨j, c, base1, q1, q2⟩ := ho
        rw [St.get_cons] at q1
        split at q1
        · rename_i he
          subst he
          rw [show ι' s.next = some (some (b, base)) from ι.set_same _ _] at q2
          simp only [Option.some.injEq, Prod.mk.injEq] at q2
          exact absurd hx (q2.1 ▸ hnew)
        · rename_i he
          rw [show ι' j = ι j from ι.set_other _ _ _ (fun e => he e.symm)] at q2
          exact ⟨j, c, base1, q1, q2⟩
  · have hrow : row = [] := List.eq_nil_of_length_eq_zero hl0
    subst hrow
    have hx := ι.set_ext s.next none hn
    have hH := Rep.handle (p := none) (hK.next (n := s.next + 1) (by omega)) hn (by simp) hg
    refine ⟨.tuple cs, ι.set s.next none, M, _, _, rfl, k, rest_ok _ _ ?_, hH.put (.inl ⟨ι.set_same _ _, rfl⟩), ?_⟩
    · rw [hV0]; exact .slv _ _ _ (ι.set_same _ _)
    · refine ⟨hGo.size, hGo.tape, hGo.os, hGo.output, hGo.block, hGo.shape, hGo.back, hGo.keep, fun x hx ho => ?_, by simp only; omega, fun j hj => ι.set_other _ _ _ (by omega)⟩
      obtain ⟨j, c, base1, q1, q2⟩ := ho
      rw [St.get_cons] at q1
      split at q1
      · rename_i he
        subst he
        rw [ι.set_same] at q2
        cases q2
      · rename_i he
        rw [ι.set_other _ _ _ (fun e => he e.symm)] at q2
        exact ⟨j, c, base1, q1, q2⟩
end
/-! ### calls that make blocks of their own -/
mutual
/-- a value that refers to nothing that was there before -/
def AV.own : AV → Bool
  | .undef => true
  | .bool _ => true
  | .int _ _ => true
  | .str _ => true
  | .nilp => true
  | .nils => true
  | .nili => true
  | .nilf => true
  | .nilm => true
  | .ptr _ _ => true
  | .sl _ _ _ _ => true
  | .aggI .. => true
  | .raw _ => true
  | .agg l => ownL l
  | .tup l => ownL l
  | .iface _ v => AV.own v
  | .fn _ l => ownL l
  | .cptr _ => false
  | .roI _ _ => false
  | .roB _ => false
  | .ro _ _ => false
termination_by structural v => v
def ownL : List AV → Bool
  | [] => true
  | v :: r => AV.own v && ownL r
termination_by structural l => l
end
def Chunk.own : Chunk → Prop
  | .obj l => ownL l = true
  | .fn n f => ∀ j, j < n → (f j).own = true
  | _ => True
def ownS : Mem → Prop
  | [] => True
  | (_, some c) :: r => c.own ∧ ownS r
  | (_, none) :: r => ownS r
section
variable {P : Program} {ι : Iota} {s : St} {w : World} {M M' : Nat → Prop}
mutual
theorem own_rel : ∀ (v : AV) (V : Value), v.own = true → VRel ι w M v V → VRel ι w M' v V
  | .ptr h o, V, _, hr => by
    obtain ⟨b, base, h1, rfl⟩ := hr.ptr_inv
    exact .ptr h o b base h1
  | .sl e h o m, V, _, hr => by
    rcases hr.sl_inv with ⟨b, base, oo, cap, T, N, h4, h5, h6, h7, h8, rfl⟩ | ⟨h4, rfl, rfl⟩
    · exact .sl e h o m b base oo cap T N h4 h5 h6 h7 h8
    · exact .slv e h o h4
  | .agg l, V, hk, hr => by
    obtain ⟨cs, rfl, h1, h2⟩ := hr.agg_inv
    exact .agg l cs h1 fun j hj => ownL_rel l hk j hj _ (h2 j hj)
  | .tup l, V, hk, hr => by
    obtain ⟨cs, rfl, h1, h2⟩ := hr.tup_inv
    exact .tup l cs h1 fun j hj => ownL_rel l hk j hj _ (h2 j hj)
  | .iface t v, V, hk, hr => by
    obtain ⟨V', rfl, h1⟩ := hr.iface_inv
    exact .iface t v V' (own_rel v V' hk h1)
  | .fn f l, V, hk, hr => by
    obtain ⟨cs, rfl, h1, h2⟩ := hr.fn_inv
    exact .fn f l cs h1 fun j hj => ownL_rel l hk j hj _ (h2 j hj)
  | .undef, V, _, hr => .undef V
  | .aggI n k g, V, _, hr => by
    obtain ⟨cs, rfl, h1, h2⟩ := hr.aggI_inv
    exact .g _ _ (.aggI n k g cs h1 h2)
  | .bool b, V, _, hr => flat1_rel (v := .bool b) rfl hr
  | .int k m, V, _, hr => flat1_rel (v := .int k m) rfl hr
  | .str x, V, _, hr => flat1_rel (v := .str x) rfl hr
  | .nilp, V, _, hr => flat1_rel (v := .nilp) rfl hr
  | .nils, V, _, hr => flat1_rel (v := .nils) rfl hr
  | .nili, V, _, hr => flat1_rel (v := .nili) rfl hr
  | .nilf, V, _, hr => flat1_rel (v := .nilf) rfl hr
  | .nilm, V, _, hr => flat1_rel (v := .nilm) rfl hr
  | .raw x, V, _, hr => by rw [hr.raw_inv]; exact .g _ _ (.raw _)
  | .cptr _, V, hk, hr => by cases hk
  | .roI _ _, V, hk, hr => by cases hk
  | .roB _, V, hk, hr => by cases hk
  | .ro _ _, V, hk, hr => by cases hk
termination_by structural v => v
theorem ownL_rel : ∀ (l : List AV), ownL l = true → ∀ j, j < l.length → ∀ V, VRel ι w M (l.getD j .undef) V → VRel ι w M' (l.getD j .undef) V
  | [], hk, j, hj, V, hr => by simp at hj
  | v :: r, hk, 0, hj, V, hr => by
    simp only [ownL, Bool.and_eq_true] at hk
    exact own_rel v V hk.1 (by simpa using hr)
  | v :: r, hk, j + 1, hj, V, hr => by
    simp only [ownL, Bool.and_eq_true] at hk
    simpa using ownL_rel r hk.2 j (by simpa using hj) V (by simpa using hr)
termination_by structural l => l
end
theorem own_crel {c : Chunk} {b base : Nat} (hk : c.own) (h : CRel ι w M c b base) : CRel ι w M' c b base := by
  obtain ⟨cs, T, fr, h1, h2, h3, h4⟩ := h
  refine ⟨cs, T, fr, h1, h2, h3, fun j hj => ?_⟩
  have := h4 j hj
  cases c with
  | obj l => exact ownL_rel l hk j hj _ this
  | fn m f => exact own_rel _ _ (hk j hj) this
  | rowI k l => exact own_rel _ _ rfl this
  | rowB l => exact own_rel _ _ rfl this
  | blk n k g => exact own_rel _ _ rfl this
theorem ownS_get : ∀ (m : Mem), ownS m → ∀ h c, m.get h = some c → c.own
  | [], _, h, c, hg => by simp [Mem.get] at hg
  | (k, d) :: r, hs, h, c, hg => by
    rw [Mem.get_cons] at hg
    cases d with
    | none =>
      split at hg
      · cases hg
      · exact ownS_get r hs h c hg
    | some d =>
      split at hg
      · cases hg; exact hs.1
      · exact ownS_get r hs.2 h c hg
def shift (n h : Nat) : Option Nat := some (n + h)
theorem Tr.look {f : Nat} {args args' : List AV} {K0 K : AV → St → Prop} (h : Tr P f args' ⟨0, []⟩ K0) (hs : SeeL s.get args args')
    (k : ∀ v0 s0, K0 v0 s0 → v0.own = true ∧ ownS s0.m ∧ K (v0.ren (shift s.next)) ⟨s.next + s0.next, memRen (shift s.next) s0.m ++ s.m⟩) : Tr P f args s K := by
  unfold Tr at *
  obtain ⟨hb, h⟩ := h
  refine ⟨hb, fun ι w M Vs hR hV => Calls.mono (h seeI w seeM Vs repNo (seeArgs hR hs hV)) fun en w1 he => ?_⟩
  obtain ⟨V, ι1, M1, v0, s0, rfl, hK, h1, h2, h3⟩ := he
  obtain ⟨k1, k2, k3⟩ := k v0 s0 hK
  have hnew : ∀ b, M1 b → ¬ b < w.heap.size := fun b hb hlt => h3.back b hlt hb
  let ι' : Iota := fun j => if j < s.next then ι j else ι1 (j - s.next)
  let M' : Nat → Prop := fun b => M b ∨ M1 b
  have hlo : ∀ j, j < s.next → ι' j = ι j := fun j hj => by simp [ι', hj]
  have hhi : ∀ j, ι' (s.next + j) = ι1 j := fun j => by
    show (if s.next + j < s.next then ι (s.next + j) else ι1 (s.next + j - s.next)) = ι1 j
    rw [if_neg (by omega), Nat.add_sub_cancel_left]
  have hf : Fwd ι1 ι' (shift s.next) := fun j p hp => by
    show ι' (s.next + j) = some p
    rw [hhi]; exact hp
  have hget : ∀ j c, (St.mk (s.next + s0.next) (memRen (shift s.next) s0.m ++ s.m)).get j = some c → (∃ h0 c0, s0.get h0 = some c0 ∧ j = s.next + h0 ∧ c = c0.ren (shift s.next)) ∨ (s.get j = some c ∧ j < s.next) := fun j c hc => by
    rcases memRen_get _ _ _ _ _ hc with ⟨h0, c0, q1, q2, q3⟩ | q
    · simp only [shift, Option.some.injEq] at q2
      exact .inl ⟨h0, c0, q1, q2.symm, q3⟩
    · exact .inr ⟨q, hR.none_of_get q⟩
  have hI : Imm w M w1 M' := ⟨h3.size, fun b hb hm => ⟨fun hm' => by
    rcases hm' with hm' | hm'
    · exact hm hm'
    · exact hnew b hm' hb, h3.block b hb no_own⟩, h3.shape⟩
  have hx : ∀ j p, ι j = some p → ι' j = some p := fun j p hp => by
    rcases Nat.lt_or_ge j s.next with hl | hl
    · rw [hlo j hl]; exact hp
    · rw [hR.fresh j hl] at hp; cases hp
  refine ⟨V, ι', M', _, _, rfl, k3, ren_fwd hf v0 V (own_rel v0 V k1 h1), ⟨fun j hj => ?_, fun j c hc => ?_, fun j j' c c' p p' hc hc' hne hp hp' => ?_, fun b hb => ?_⟩, ⟨h3.size, h3.tape, h3.os, h3.output, fun b hb _ => h3.block b hb no_own, h3.shape, fun b hb hm => ?_, fun b hm _ => .inl hm, fun b hb ho => ?_, by simp only; omega, fun j hj => hlo j hj⟩⟩
  · simp only at hj
    have : j = s.next + (j - s.next) := by omega
    rw [this, hhi]
    exact h2.fresh _ (by omega)
  · rcases hget j c hc with ⟨h0, c0, q1, rfl, rfl⟩ | ⟨q1, q2⟩
    · rw [hhi]
      rcases h2.own h0 c0 q1 with ⟨r1, r2⟩ | ⟨b, base, r1, r2, r3⟩
      · exact .inl ⟨r1, by rw [Chunk.ren_size]; exact r2⟩
      · exact .inr ⟨b, base, r1, .inr r2, crel_fwd hf (own_crel (ownS_get _ k2 _ _ q1) r3)⟩
    · rw [hlo j q2]
      rcases hR.own j c q1 with r | ⟨b, base, r1, r2, r3⟩
      · exact .inl r
      · exact .inr ⟨b, base, r1, .inl r2, r3.mono hI hx (h3.block b (hR.lt b r2) no_own)⟩
  · rcases hget j c hc with ⟨h0, c0, q1, rfl, _⟩ | ⟨q1, q2⟩ <;> rcases hget j' c' hc' with ⟨h0', c0', q1', rfl, _⟩ | ⟨q1', q2'⟩
    · rw [hhi] at hp hp'
      exact h2.inj h0 h0' c0 c0' p p' q1 q1' (fun e => hne (by rw [e])) hp hp'
    · rw [hhi] at hp
      rw [hlo j' q2'] at hp'
      have m1 : M1 p.1 := h2.ownM ⟨h0, c0, p.2, q1, hp⟩
      have m2 : M p'.1 := hR.ownM ⟨j', c', p'.2, q1', hp'⟩
      intro e
      exact hnew _ m1 (e ▸ hR.lt _ m2)
    · rw [hlo j q2] at hp
      rw [hhi] at hp'
      have m1 : M1 p'.1 := h2.ownM ⟨h0', c0', p'.2, q1', hp'⟩
      have m2 : M p.1 := hR.ownM ⟨j, c, p.2, q1, hp⟩
      intro e
      exact hnew _ m1 (e ▸ hR.lt _ m2)
    · rw [hlo j q2] at hp
      rw [hlo j' q2'] at hp'
      exact hR.inj j j' c c' p p' q1 q1' hne hp hp'
  · rcases hb with hb | hb
    · exact Nat.lt_of_lt_of_le (hR.lt b hb) h3.size
    · exact h2.lt b hb
  · rcases hm with hm | hm
    · exact hm
    · exact absurd hb (hnew b hm)
  · obtain ⟨j, c, base, q1, q2⟩ := ho
    rcases hget j c q1 with ⟨h0, c0, r1, rfl, _⟩ | ⟨r1, r2⟩
    · rw [hhi] at q2
      exact absurd hb (hnew b (h2.ownM ⟨h0, c0, base, r1, q2⟩))
    · rw [hlo j r2] at q2
      exact ⟨j, c, base, r1, q2⟩
end
end Go.Ab
set_option linter.unusedVariables false
set_option linter.unusedSimpArgs false
namespace Go.Proofs.Ytomodeliimnddaa
open Go.Ab
def a146 : ACode := (.seq (.reg [(iO 4 (.mov (.c .nils)))])
 (.seq (.reg [(iM 5 0), (iM 6 1), (iO 7 (.bin .shr .other (.t 6) (.c (.int .u64 8)))), (iO 8 (.conv (.int .u8) (.t 7))), (iM 9 1), (iO 10 (.conv (.int .u8) (.t 9))), (iO 11 (.bslice 1 (.int .u8) [(.int .u8 0), (.int .u8 0)] [(0, 1, (.t 8)), (1, 1, (.t 10))] 2)), (iO 12 (.app 1 1 (.t 5) (.t 11))), (iM 4 12)])
 .ret))
def r146 : List ARes := [.t 4]
theorem c146 : compF Try.prog Try.f146 = some (a146, r146) := by kernel_rfl
def a149 : ACode := (.seq (.reg [(iO 4 (.mov (.c .nils)))])
 (.seq (.seq (.reg [(iM 7 1), (iO 8 (.len false (.t 7))), (iO 9 (.mov (.c (.int .i64 0))))])
 (.block 0 (.loop (.seq (.reg [(iO 10 (.bin .lss .other (.t 9) (.t 8)))])
 (.seq (.cond (.t 10) .skip
 (.exit 0))
 (.seq (.block 1 (.seq (.reg [(iO 11 (.idx 1 none false (.t 7) (.t 9))), (iL 12 11), (iM 6 12)])
 (.reg [(iM 13 0), (iM 14 6), (iO 15 (.call 146 [(.t 13), (.t 14)])), (iM 0 15)])))
 (.reg [(iO 16 (.bin .add .other (.t 9) (.c (.int .i64 1)))), (iM 9 16)])))))))
 (.seq (.reg [(iM 17 0), (iM 4 17)])
 .ret)))
def r149 : List ARes := [.t 4]
theorem c149 : compF Try.prog Try.f149 = some (a149, r149) := by kernel_rfl
theorem b146 : hasBody Try.prog 146 = true := by kernel_rfl
theorem g146 : Try.prog.funcs[146]? = some Try.f146 := by kernel_rfl
def hi8 (x : Int) : Int := IntKind.u8.wrap (x.fdiv (2 ^ 8))
def two8 (x : Int) : List Int := [hi8 x, IntKind.u8.wrap x]
theorem two_tr (l : List Int) (x : Int) (hl : l.length ≤ 100000) : Tr Try.prog 146 [.sl 1 0 0 l.length, .int .u16 x] ⟨1, [(0, some (.rowI .u8 l))]⟩ fun v s => v = .sl 1 1 0 (l.length + 2) ∧ s = ⟨2, [(1, some (.rowI .u8 (l ++ two8 x)))]⟩ := by
  refine Tr.norm (K := fun v s => v = .sl 1 2 0 (l.length + 2) ∧ s = ⟨3, [(2, some (.rowI .u8 (l ++ two8 x))), (0, none), (1, some (.rowI .u8 (two8 x))), (0, some (.rowI .u8 l))]⟩) ?_ fun v s ⟨hv, hs⟩ => ?_
  · refine trOf g146 b146 c146 ?_
    conv => whnf
    refine condT (by simp; omega) ?_
    conv => whnf
    refine ⟨rfl, ?_⟩
    simp [two8, hi8]
    rfl
  · subst hv; subst hs
    refine ⟨_, _, ?_, rfl, rfl⟩
    exact ⟨[(1, some 2)], rfl, rfl, rfl, ⟨⟨rfl, rfl⟩, trivial⟩, ⟨⟨trivial, rfl, rfl⟩, trivial⟩⟩
theorem b149 : hasBody Try.prog 149 = true := by kernel_rfl
theorem g149 : Try.prog.funcs[149]? = some Try.f149 := by kernel_rfl
def twos : List Int → List Int
  | [] => []
  | x :: r => two8 x ++ twos r
theorem twos_length : ∀ m, (twos m).length = 2 * m.length
  | [] => rfl
  | x :: r => by simp [twos, two8, twos_length r]; omega
theorem twos_take (m : List Int) (i : Nat) (h : i < m.length) : twos (m.take (i + 1)) = twos (m.take i) ++ two8 (m.getD i 0) := by
  induction m generalizing i with
  | nil => simp at h
  | cons x r ih =>
    cases i with
    | zero => simp [twos]
    | succ i =>
      have := ih i (by simpa using h)
      simp [twos, this]
theorem regs_tr (l m : List Int) (hl : l.length ≤ 30000) (hm : m.length ≤ 30000) : Tr Try.prog 149 [.sl 1 0 0 l.length, .roI .u16 m] ⟨1, [(0, some (.rowI .u8 l))]⟩ fun v s => v = .sl 1 1 0 (l.length + 2 * m.length) ∧ s = ⟨2, [(1, some (.rowI .u8 (l ++ twos m)))]⟩ := by
  refine trOf g149 b149 c149 ?_
  conv => whnf
  refine loopI (α := {i : Nat // i ≤ m.length}) (fun i => [(0, .sl 1 1 0 (l.length + 2 * i.1)), (7, .roI .u16 m), (8, .int .i64 m.length), (9, .int .i64 i.1)]) (fun i => ⟨2, [(1, some (.rowI .u8 (l ++ twos (m.take i.1))))]⟩) (fun i => m.length - i.1) ⟨0, Nat.zero_le _⟩
    ⟨[(1, some 0)], rfl, rfl, rfl, ⟨⟨rfl, rfl⟩, ⟨rfl, rfl⟩, ⟨rfl, rfl⟩, ⟨rfl, rfl⟩, trivial⟩, ⟨trivial, rfl, by simp [twos, Chunk.ren]; rfl⟩, trivial⟩ fun ⟨i, hi⟩ => ?_
  conv => whnf
  by_cases hlt : i < m.length
  · refine condY (by simpa using hlt) ?_
    conv => whnf
    refine condT (by simp; omega) ?_
    conv => whnf
    have hlen : (l ++ twos (m.take i)).length = l.length + 2 * i := by simp [twos_length]; omega
    refine Tr.call [(0, some 1)] (two_tr (l ++ twos (m.take i)) (m.getD i 0) (by omega)) ?_ ?_ ?_ ?_ fun v s ⟨hv, hs⟩ => ?_
    · rw [hlen]; rfl
    · rfl
    · exact ⟨⟨trivial, rfl, rfl⟩, trivial⟩
    · rfl
    · subst hv; subst hs
      conv => whnf
      refine ⟨⟨i + 1, hlt⟩, ⟨[(1, some 2)], rfl, rfl, rfl, ⟨⟨?_, rfl⟩, ⟨rfl, rfl⟩, ⟨rfl, rfl⟩, ⟨?_, rfl⟩, trivial⟩, ⟨⟨trivial, rfl, ?_⟩, trivial⟩⟩, by show m.length - (i + 1) < m.length - i; omega⟩
      · show AV.sl 1 2 0 ((l ++ twos (m.take i)).length + 2) = AV.sl 1 2 0 (l.length + 2 * (i + 1))
        rw [hlen]; rfl
      · show AV.int .i64 (IntKind.i64.wrap ((i : Int) + 1)) = AV.int .i64 ((i + 1 : Nat) : Int)
        rw [IntWalk.i64_in _ (by omega)]; rfl
      · show some (Chunk.rowI .u8 (l ++ twos (m.take i) ++ two8 (m.getD i 0))) = some (Chunk.rowI .u8 (l ++ twos (m.take (i + 1))))
        rw [twos_take m i hlt, List.append_assoc]
  · refine condN (by simpa using hlt) ?_
    conv => whnf
    have : i = m.length := by omega
    subst this
    exact ⟨rfl, by simp⟩
def a151 : ACode := (.seq (.reg [(iO 2 (.mov (.c (.int .u16 0))))])
 (.seq (.draw [(zS 0 (iM 3 0)), (zS 1 (iO 4 (.idx 1 none false (.t 3) (.c (.int .i64 0))))), (zS 2 (iL 5 4)), (zS 3 (iO 6 (.conv (.int .u16) (.t 5)))), (zS 4 (iO 7 (.bin .shl .other (.t 6) (.c (.int .u64 8))))), (zS 5 (iM 8 0)), (zS 6 (iO 9 (.idx 1 none false (.t 8) (.c (.int .i64 1))))), (zS 7 (iL 10 9)), (zS 8 (iO 11 (.conv (.int .u16) (.t 10)))), (zS 9 (iO 12 (.bin .or .other (.t 7) (.t 11)))), (zS 10 (iM 2 12))])
 .ret))
def r151 : List ARes := [.t 2]
theorem c151 : compF Try.prog Try.f151 = some (a151, r151) := by kernel_rfl
theorem b151 : hasBody Try.prog 151 = true := by kernel_rfl
theorem g151 : Try.prog.funcs[151]? = some Try.f151 := by kernel_rfl
def a148 : ACode := (.seq (.reg [(iO 4 (.mov (.c .nils)))])
 (.seq (.seq (.reg [(iM 5 1)])
 (.cond (.t 5) (.seq (.reg [(iM 6 0), (iO 7 (.call 146 [(.t 6), (.c (.int .u16 65280))])), (iM 4 7)])
 .ret)
 .skip))
 (.seq (.reg [(iM 8 0), (iO 9 (.call 146 [(.t 8), (.c (.int .u16 0))])), (iM 4 9)])
 .ret)))
def r148 : List ARes := [.t 4]
theorem c148 : compF Try.prog Try.f148 = some (a148, r148) := by kernel_rfl
theorem b148 : hasBody Try.prog 148 = true := by kernel_rfl
theorem g148 : Try.prog.funcs[148]? = some Try.f148 := by kernel_rfl
def a150 : ACode := (.seq (.reg [(iO 4 (.mov (.c (.bool false))))])
 (.seq (.reg [(iM 5 0), (iO 6 (.bin .geq .other (.t 5) (.c (.int .i64 1)))), ⟨(some 7), .mov (.t 6), none, true⟩, (iG 8 (.mov (.t 0)) 7 true), (iG 9 (.mov (.t 1)) 7 true), (iG 10 (.bin .leq .other (.t 8) (.t 9)) 7 true), (iO 11 (.pick (.t 7) (.t 10) (.c (.bool false)))), (iM 4 11)])
 .ret))
def r150 : List ARes := [.t 4]
theorem c150 : compF Try.prog Try.f150 = some (a150, r150) := by kernel_rfl
theorem b150 : hasBody Try.prog 150 = true := by kernel_rfl
theorem g150 : Try.prog.funcs[150]? = some Try.f150 := by kernel_rfl
def a147 : ACode := (.seq (.reg [(iO 4 (.mov (.c (.bool false))))])
 (.seq (.reg [(iM 5 0), (iO 6 (.bin .geq .other (.t 5) (.c (.int .u16 1)))), ⟨(some 7), .mov (.t 6), none, true⟩, (iG 8 (.mov (.t 0)) 7 true), (iG 9 (.mov (.t 1)) 7 true), (iG 10 (.bin .leq .other (.t 8) (.t 9)) 7 true), (iO 11 (.pick (.t 7) (.t 10) (.c (.bool false)))), (iM 4 11)])
 .ret))
def r147 : List ARes := [.t 4]
theorem c147 : compF Try.prog Try.f147 = some (a147, r147) := by kernel_rfl
theorem b147 : hasBody Try.prog 147 = true := by kernel_rfl
theorem g147 : Try.prog.funcs[147]? = some Try.f147 := by kernel_rfl
def num16 (a b : Int) : Int := IntKind.u16.wrap (BitVec.ofInt 16 (IntKind.u16.wrap (IntKind.u16.wrap a * 2 ^ 8)) ||| BitVec.ofInt 16 (IntKind.u16.wrap b)).toNat
theorem number_tr (l : List Int) (hl : 2 ≤ l.length) : Tr Try.prog 151 [.roI .u8 l] ⟨0, []⟩ fun v s => v = .int .u16 (num16 (l.getD 0 0) (l.getD 1 0)) ∧ s = ⟨0, []⟩ := by
  refine trOf g151 b151 c151 ?_
  conv => whnf
  refine condT (by simp; omega) ?_
  conv => whnf
  refine condT (by simp; omega) ?_
  conv => whnf
  exact ⟨rfl, rfl⟩
def coilN (b : Bool) : Int := bif b then 65280 else 0
theorem coil_tr (l : List Int) (b : Bool) (hl : l.length ≤ 100000) : Tr Try.prog 148 [.sl 1 0 0 l.length, .bool b] ⟨1, [(0, some (.rowI .u8 l))]⟩ fun v s => v = .sl 1 1 0 (l.length + 2) ∧ s = ⟨2, [(1, some (.rowI .u8 (l ++ two8 (coilN b)))), (0, none), (0, some (.rowI .u8 l))]⟩ := by
  refine trOf g148 b148 c148 ?_
  conv => whnf
  cases b
  · conv => whnf
    refine Tr.call [(0, some 0)] (two_tr l 0 hl) rfl rfl ⟨⟨trivial, rfl, rfl⟩, trivial⟩ rfl fun v s ⟨hv, hs⟩ => ?_
    subst hv; subst hs
    conv => whnf
    exact ⟨rfl, rfl⟩
  · conv => whnf
    refine Tr.call [(0, some 0)] (two_tr l 65280 hl) rfl rfl ⟨⟨trivial, rfl, rfl⟩, trivial⟩ rfl fun v s ⟨hv, hs⟩ => ?_
    subst hv; subst hs
    conv => whnf
    exact ⟨rfl, rfl⟩
def withinB (n m : Int) : Bool := decide (1 ≤ n) && decide (n ≤ m)
theorem within_tr (n m : Int) : Tr Try.prog 150 [.int .i64 n, .int .i64 m] ⟨0, []⟩ fun v s => v = .bool (withinB n m) ∧ s = ⟨0, []⟩ := by
  refine trOf g150 b150 c150 ?_
  conv => whnf
  refine condS (fun h => ?_) (fun h => ?_)
  · conv => whnf
    exact ⟨by simp only [withinB]; simp at h; simp [h], rfl⟩
  · conv => whnf
    exact ⟨by simp only [withinB]; simp at h; simp; omega, rfl⟩
theorem within16_tr (n m : Int) : Tr Try.prog 147 [.int .u16 n, .int .u16 m] ⟨0, []⟩ fun v s => v = .bool (withinB n m) ∧ s = ⟨0, []⟩ := by
  refine trOf g147 b147 c147 ?_
  conv => whnf
  refine condS (fun h => ?_) (fun h => ?_)
  · conv => whnf
    exact ⟨by simp only [withinB]; simp at h; simp [h], rfl⟩
  · conv => whnf
    exact ⟨by simp only [withinB]; simp at h; simp; omega, rfl⟩
end Go.Proofs.Ytomodeliimnddaa
set_option linter.unusedVariables false
set_option linter.unusedSimpArgs false
namespace Go.Proofs.Ytomodeliimnddaa
open Go.Ab
theorem take_succ_eq {α : Type} {l m : List α} {i : Nat} (d : α) (h : l.length = m.length) (hi : i < l.length) (ht : l.take i = m.take i) (he : l.getD i d = m.getD i d) : l.take (i + 1) = m.take (i + 1) := by
  rw [List.take_add_one, List.take_add_one, ht]
  have h1 : l[i]? = m[i]? := by
    simp only [List.getD_eq_getElem?_getD, List.getElem?_eq_getElem hi, List.getElem?_eq_getElem (h ▸ hi), Option.getD_some] at he
    simp [List.getElem?_eq_getElem hi, List.getElem?_eq_getElem (h ▸ hi), he]
  rw [h1]
def a115 : ACode := (.seq (.reg [(iO 4 (.mov (.c (.bool false))))])
 (.seq (.seq (.reg [(iM 6 0), (iO 7 (.len false (.t 6))), (iM 8 1), (iO 9 (.len false (.t 8))), (iO 10 (.bin .neq .other (.t 7) (.t 9)))])
 (.cond (.t 10) (.seq (.reg [(iO 4 (.mov (.c (.bool false))))])
 .ret)
 .skip))
 (.seq (.seq (.reg [(iM 11 0), (iO 12 (.len false (.t 11))), (iO 13 (.mov (.c (.int .i64 0))))])
 (.block 0 (.loop (.seq (.reg [(iO 14 (.bin .lss .other (.t 13) (.t 12)))])
 (.seq (.cond (.t 14) .skip
 (.exit 0))
 (.seq (.block 1 (.seq (.reg [(iM 15 13), (iM 5 15)])
 (.seq (.draw [(zS 0 (iM 16 0)), (zS 1 (iM 17 5)), (zS 2 (iO 18 (.idx 1 none false (.t 16) (.t 17)))), (zS 3 (iL 19 18)), (zS 4 (iM 20 1)), (zS 5 (iM 21 5)), (zS 6 (iO 22 (.idx 1 none false (.t 20) (.t 21)))), (zS 7 (iL 23 22)), (zS 8 (iO 24 (.bin .neq .other (.t 19) (.t 23))))])
 (.cond (.t 24) (.seq (.reg [(iO 4 (.mov (.c (.bool false))))])
 .ret)
 .skip))))
 (.reg [(iO 25 (.bin .add .other (.t 13) (.c (.int .i64 1)))), (iM 13 25)])))))))
 (.seq (.reg [(iO 4 (.mov (.c (.bool true))))])
 .ret))))
def r115 : List ARes := [.t 4]
theorem c115 : compF Try.prog Try.f115 = some (a115, r115) := by kernel_rfl
theorem b115 : hasBody Try.prog 115 = true := by kernel_rfl
theorem g115 : Try.prog.funcs[115]? = some Try.f115 := by kernel_rfl
theorem equal8_tr (l m : List Int) (hl : l.length ≤ 100000) : Tr Try.prog 115 [.roI .u8 l, .roI .u8 m] ⟨0, []⟩ fun v s => v = .bool (l == m) ∧ s = ⟨0, []⟩ := by
  refine trOf g115 b115 c115 ?_
  conv => whnf
  refine condS (fun h => ?_) (fun h => ?_)
  · conv => whnf
    have hne : (l == m) = false := by
      have h : (l.length : Int) ≠ m.length := by simpa using h
      simp only [beq_eq_false_iff_ne, ne_eq]
      intro e; exact h (by rw [e])
    exact ⟨by rw [hne], rfl⟩
  · have hlen : l.length = m.length := by
      have h : (l.length : Int) = m.length := by simpa using h
      omega
    conv => whnf
    refine loopI (α := {i : Nat // i ≤ l.length ∧ l.take i = m.take i}) (fun i => [(0, .roI .u8 l), (1, .roI .u8 m), (12, .int .i64 l.length), (13, .int .i64 i.1)]) (fun i => ⟨0, []⟩) (fun i => l.length - i.1) ⟨0, Nat.zero_le _, by simp⟩
      ⟨[], rfl, rfl, rfl, ⟨⟨rfl, rfl⟩, ⟨rfl, rfl⟩, ⟨rfl, rfl⟩, ⟨rfl, rfl⟩, trivial⟩, trivial⟩ fun ⟨i, hi, ht⟩ => ?_
    conv => whnf
    by_cases hlt : i < l.length
    · refine condY (by simpa using hlt) ?_
      conv => whnf
      refine condT (by simpa using hlt) ?_
      conv => whnf
      refine condT (by simp; omega) ?_
      conv => whnf
      refine condS (fun h => ?_) (fun h => ?_)
      · conv => whnf
        have hne : (l == m) = false := by
          simp only [beq_eq_false_iff_ne, ne_eq]
          intro e
          subst e
          simp at h
        exact ⟨by rw [hne], rfl⟩
      · conv => whnf
        have he : l.getD i 0 = m.getD i 0 := by simpa using h
        refine ⟨⟨i + 1, hlt, take_succ_eq 0 hlen hlt ht he⟩, ⟨[], rfl, rfl, rfl, ⟨⟨rfl, rfl⟩, ⟨rfl, rfl⟩, ⟨rfl, rfl⟩, ⟨?_, rfl⟩, trivial⟩, trivial⟩, by show l.length - (i + 1) < l.length - i; omega⟩
        show AV.int .i64 (IntKind.i64.wrap ((i : Int) + 1)) = AV.int .i64 ((i + 1 : Nat) : Int)
        rw [IntWalk.i64_in _ (by omega)]; rfl
    · refine condN (by simpa using hlt) ?_
      conv => whnf
      have heq : l = m := by
        have h1 : l.take i = l := List.take_of_length_le (by omega)
        have h2 : m.take i = m := List.take_of_length_le (by omega)
        rw [← h1, ← h2]; exact ht
      exact ⟨by rw [heq]; simp, rfl⟩
def a120 : ACode := (.seq (.reg [(iO 4 (.mov (.c (.bool false))))])
 (.seq (.seq (.reg [(iM 6 0), (iO 7 (.len false (.t 6))), (iM 8 1), (iO 9 (.len false (.t 8))), (iO 10 (.bin .neq .other (.t 7) (.t 9)))])
 (.cond (.t 10) (.seq (.reg [(iO 4 (.mov (.c (.bool false))))])
 .ret)
 .skip))
 (.seq (.seq (.reg [(iM 11 0), (iO 12 (.len false (.t 11))), (iO 13 (.mov (.c (.int .i64 0))))])
 (.block 0 (.loop (.seq (.reg [(iO 14 (.bin .lss .other (.t 13) (.t 12)))])
 (.seq (.cond (.t 14) .skip
 (.exit 0))
 (.seq (.block 1 (.seq (.reg [(iM 15 13), (iM 5 15)])
 (.seq (.draw [(zS 0 (iM 16 0)), (zS 1 (iM 17 5)), (zS 2 (iO 18 (.idx 1 none false (.t 16) (.t 17)))), (zS 3 (iL 19 18)), (zS 4 (iM 20 1)), (zS 5 (iM 21 5)), (zS 6 (iO 22 (.idx 1 none false (.t 20) (.t 21)))), (zS 7 (iL 23 22)), (zS 8 (iO 24 (.bin .neq .other (.t 19) (.t 23))))])
 (.cond (.t 24) (.seq (.reg [(iO 4 (.mov (.c (.bool false))))])
 .ret)
 .skip))))
 (.reg [(iO 25 (.bin .add .other (.t 13) (.c (.int .i64 1)))), (iM 13 25)])))))))
 (.seq (.reg [(iO 4 (.mov (.c (.bool true))))])
 .ret))))
def r120 : List ARes := [.t 4]
theorem c120 : compF Try.prog Try.f120 = some (a120, r120) := by kernel_rfl
theorem b120 : hasBody Try.prog 120 = true := by kernel_rfl
theorem g120 : Try.prog.funcs[120]? = some Try.f120 := by kernel_rfl
theorem equal16_tr (l m : List Int) (hl : l.length ≤ 100000) : Tr Try.prog 120 [.roI .u16 l, .roI .u16 m] ⟨0, []⟩ fun v s => v = .bool (l == m) ∧ s = ⟨0, []⟩ := by
  refine trOf g120 b120 c120 ?_
  conv => whnf
  refine condS (fun h => ?_) (fun h => ?_)
  · conv => whnf
    have hne : (l == m) = false := by
      have h : (l.length : Int) ≠ m.length := by simpa using h
      simp only [beq_eq_false_iff_ne, ne_eq]
      intro e; exact h (by rw [e])
    exact ⟨by rw [hne], rfl⟩
  · have hlen : l.length = m.length := by
      have h : (l.length : Int) = m.length := by simpa using h
      omega
    conv => whnf
    refine loopI (α := {i : Nat // i ≤ l.length ∧ l.take i = m.take i}) (fun i => [(0, .roI .u16 l), (1, .roI .u16 m), (12, .int .i64 l.length), (13, .int .i64 i.1)]) (fun i => ⟨0, []⟩) (fun i => l.length - i.1) ⟨0, Nat.zero_le _, by simp⟩
      ⟨[], rfl, rfl, rfl, ⟨⟨rfl, rfl⟩, ⟨rfl, rfl⟩, ⟨rfl, rfl⟩, ⟨rfl, rfl⟩, trivial⟩, trivial⟩ fun ⟨i, hi, ht⟩ => ?_
    conv => whnf
    by_cases hlt : i < l.length
    · refine condY (by simpa using hlt) ?_
      conv => whnf
      refine condT (by simpa using hlt) ?_
      conv => whnf
      refine condT (by simp; omega) ?_
      conv => whnf
      refine condS (fun h => ?_) (fun h => ?_)
      · conv => whnf
        have hne : (l == m) = false := by
          simp only [beq_eq_false_iff_ne, ne_eq]
          intro e
          subst e
          simp at h
        exact ⟨by rw [hne], rfl⟩
      · conv => whnf
        have he : l.getD i 0 = m.getD i 0 := by simpa using h
        refine ⟨⟨i + 1, hlt, take_succ_eq 0 hlen hlt ht he⟩, ⟨[], rfl, rfl, rfl, ⟨⟨rfl, rfl⟩, ⟨rfl, rfl⟩, ⟨rfl, rfl⟩, ⟨?_, rfl⟩, trivial⟩, trivial⟩, by show l.length - (i + 1) < l.length - i; omega⟩
        show AV.int .i64 (IntKind.i64.wrap ((i : Int) + 1)) = AV.int .i64 ((i + 1 : Nat) : Int)
        rw [IntWalk.i64_in _ (by omega)]; rfl
    · refine condN (by simpa using hlt) ?_
      conv => whnf
      have heq : l = m := by
        have h1 : l.take i = l := List.take_of_length_le (by omega)
        have h2 : m.take i = m := List.take_of_length_le (by omega)
        rw [← h1, ← h2]; exact ht
      exact ⟨by rw [heq]; simp, rfl⟩
def a119 : ACode := (.seq (.reg [(iO 4 (.mov (.c (.bool false))))])
 (.seq (.seq (.reg [(iM 6 0), (iO 7 (.len false (.t 6))), (iM 8 1), (iO 9 (.len false (.t 8))), (iO 10 (.bin .neq .other (.t 7) (.t 9)))])
 (.cond (.t 10) (.seq (.reg [(iO 4 (.mov (.c (.bool false))))])
 .ret)
 .skip))
 (.seq (.seq (.reg [(iM 11 0), (iO 12 (.len false (.t 11))), (iO 13 (.mov (.c (.int .i64 0))))])
 (.block 0 (.loop (.seq (.reg [(iO 14 (.bin .lss .other (.t 13) (.t 12)))])
 (.seq (.cond (.t 14) .skip
 (.exit 0))
 (.seq (.block 1 (.seq (.reg [(iM 15 13), (iM 5 15)])
 (.seq (.draw [(zS 0 (iM 16 0)), (zS 1 (iM 17 5)), (zS 2 (iO 18 (.idx 1 none false (.t 16) (.t 17)))), (zS 3 (iL 19 18)), (zS 4 (iM 20 1)), (zS 5 (iM 21 5)), (zS 6 (iO 22 (.idx 1 none false (.t 20) (.t 21)))), (zS 7 (iL 23 22)), (zS 8 (iO 24 (.bin .neq .bool (.t 19) (.t 23))))])
 (.cond (.t 24) (.seq (.reg [(iO 4 (.mov (.c (.bool false))))])
 .ret)
 .skip))))
 (.reg [(iO 25 (.bin .add .other (.t 13) (.c (.int .i64 1)))), (iM 13 25)])))))))
 (.seq (.reg [(iO 4 (.mov (.c (.bool true))))])
 .ret))))
def r119 : List ARes := [.t 4]
theorem c119 : compF Try.prog Try.f119 = some (a119, r119) := by kernel_rfl
theorem b119 : hasBody Try.prog 119 = true := by kernel_rfl
theorem g119 : Try.prog.funcs[119]? = some Try.f119 := by kernel_rfl
theorem equalB_tr (l m : List Bool) (hl : l.length ≤ 100000) : Tr Try.prog 119 [.roB l, .roB m] ⟨0, []⟩ fun v s => v = .bool (l == m) ∧ s = ⟨0, []⟩ := by
  refine trOf g119 b119 c119 ?_
  conv => whnf
  refine condS (fun h => ?_) (fun h => ?_)
  · conv => whnf
    have hne : (l == m) = false := by
      have h : (l.length : Int) ≠ m.length := by simpa using h
      simp only [beq_eq_false_iff_ne, ne_eq]
      intro e; exact h (by rw [e])
    exact ⟨by rw [hne], rfl⟩
  · have hlen : l.length = m.length := by
      have h : (l.length : Int) = m.length := by simpa using h
      omega
    conv => whnf
    refine loopI (α := {i : Nat // i ≤ l.length ∧ l.take i = m.take i}) (fun i => [(0, .roB l), (1, .roB m), (12, .int .i64 l.length), (13, .int .i64 i.1)]) (fun i => ⟨0, []⟩) (fun i => l.length - i.1) ⟨0, Nat.zero_le _, by simp⟩
      ⟨[], rfl, rfl, rfl, ⟨⟨rfl, rfl⟩, ⟨rfl, rfl⟩, ⟨rfl, rfl⟩, ⟨rfl, rfl⟩, trivial⟩, trivial⟩ fun ⟨i, hi, ht⟩ => ?_
    conv => whnf
    by_cases hlt : i < l.length
    · refine condY (by simpa using hlt) ?_
      conv => whnf
      refine condT (by simpa using hlt) ?_
      conv => whnf
      refine condT (by simp; omega) ?_
      conv => whnf
      refine condS (fun h => ?_) (fun h => ?_)
      · conv => whnf
        have hne : (l == m) = false := by
          simp only [beq_eq_false_iff_ne, ne_eq]
          intro e
          subst e
          simp at h
        exact ⟨by rw [hne], rfl⟩
      · conv => whnf
        have he : l.getD i false = m.getD i false := by simpa using h
        refine ⟨⟨i + 1, hlt, take_succ_eq false hlen hlt ht he⟩, ⟨[], rfl, rfl, rfl, ⟨⟨rfl, rfl⟩, ⟨rfl, rfl⟩, ⟨rfl, rfl⟩, ⟨?_, rfl⟩, trivial⟩, trivial⟩, by show l.length - (i + 1) < l.length - i; omega⟩
        show AV.int .i64 (IntKind.i64.wrap ((i : Int) + 1)) = AV.int .i64 ((i + 1 : Nat) : Int)
        rw [IntWalk.i64_in _ (by omega)]; rfl
    · refine condN (by simpa using hlt) ?_
      conv => whnf
      have heq : l = m := by
        have h1 : l.take i = l := List.take_of_length_le (by omega)
        have h2 : m.take i = m := List.take_of_length_le (by omega)
        rw [← h1, ← h2]; exact ht
      exact ⟨by rw [heq]; simp, rfl⟩
def a35 : ACode := (.seq (.reg [(iO 4 (.mov (.c (.bool false))))])
 (.seq (.seq (.reg [(iM 6 0), (iO 7 (.len false (.t 6))), (iM 8 1), (iO 9 (.len false (.t 8))), (iO 10 (.bin .neq .other (.t 7) (.t 9)))])
 (.cond (.t 10) (.seq (.reg [(iO 4 (.mov (.c (.bool false))))])
 .ret)
 .skip))
 (.seq (.seq (.reg [(iO 5 (.mov (.c (.int .i64 0))))])
 (.block 0 (.loop (.seq (.seq (.reg [(iM 11 5), (iM 12 0), (iO 13 (.len false (.t 12))), (iO 14 (.bin .lss .other (.t 11) (.t 13)))])
 (.cond (.t 14) .skip
 (.exit 0)))
 (.seq (.block 1 (.seq (.draw [(zS 0 (iM 17 0)), (zS 1 (iM 18 5)), (zS 2 (iO 19 (.idx 1 none false (.t 17) (.t 18)))), (zS 3 (iL 20 19)), (zS 4 (iM 21 1)), (zS 5 (iM 22 5)), (zS 6 (iO 23 (.idx 1 none false (.t 21) (.t 22)))), (zS 7 (iL 24 23)), (zS 8 (iO 25 (.bin .neq .other (.t 20) (.t 24))))])
 (.cond (.t 25) (.seq (.reg [(iO 4 (.mov (.c (.bool false))))])
 .ret)
 .skip)))
 (.reg [(iM 15 5), (iO 16 (.bin .add .other (.t 15) (.c (.int .i64 1)))), (iM 5 16)]))))))
 (.seq (.reg [(iO 4 (.mov (.c (.bool true))))])
 .ret))))
def r35 : List ARes := [.t 4]
theorem c35 : compF Try.prog Try.f35 = some (a35, r35) := by kernel_rfl
theorem b35 : hasBody Try.prog 35 = true := by kernel_rfl
theorem g35 : Try.prog.funcs[35]? = some Try.f35 := by kernel_rfl
theorem hregs_tr (l m : List Int) (hl : l.length ≤ 100000) : Tr Try.prog 35 [.roI .u16 l, .roI .u16 m] ⟨0, []⟩ fun v s => v = .bool (l == m) ∧ s = ⟨0, []⟩ := by
  refine trOf g35 b35 c35 ?_
  conv => whnf
  refine condS (fun h => ?_) (fun h => ?_)
  · conv => whnf
    have hne : (l == m) = false := by
      have h : (l.length : Int) ≠ m.length := by simpa using h
      simp only [beq_eq_false_iff_ne, ne_eq]
      intro e; exact h (by rw [e])
    exact ⟨by rw [hne], rfl⟩
  · have hlen : l.length = m.length := by
      have h : (l.length : Int) = m.length := by simpa using h
      omega
    conv => whnf
    refine loopI (α := {i : Nat // i ≤ l.length ∧ l.take i = m.take i}) (fun i => [(0, .roI .u16 l), (1, .roI .u16 m), (5, .int .i64 i.1)]) (fun i => ⟨0, []⟩) (fun i => l.length - i.1) ⟨0, Nat.zero_le _, by simp⟩
      ⟨[], rfl, rfl, rfl, ⟨⟨rfl, rfl⟩, ⟨rfl, rfl⟩, ⟨rfl, rfl⟩, trivial⟩, trivial⟩ fun ⟨i, hi, ht⟩ => ?_
    conv => whnf
    by_cases hlt : i < l.length
    · refine condY (by simpa using hlt) ?_
      conv => whnf
      refine condT (by simpa using hlt) ?_
      conv => whnf
      refine condT (by simp; omega) ?_
      conv => whnf
      refine condS (fun h => ?_) (fun h => ?_)
      · conv => whnf
        have hne : (l == m) = false := by
          simp only [beq_eq_false_iff_ne, ne_eq]
          intro e
          subst e
          simp at h
        exact ⟨by rw [hne], rfl⟩
      · conv => whnf
        have he : l.getD i 0 = m.getD i 0 := by simpa using h
        refine ⟨⟨i + 1, hlt, take_succ_eq 0 hlen hlt ht he⟩, ⟨[], rfl, rfl, rfl, ⟨⟨rfl, rfl⟩, ⟨rfl, rfl⟩, ⟨?_, rfl⟩, trivial⟩, trivial⟩, by show l.length - (i + 1) < l.length - i; omega⟩
        show AV.int .i64 (IntKind.i64.wrap ((i : Int) + 1)) = AV.int .i64 ((i + 1 : Nat) : Int)
        rw [IntWalk.i64_in _ (by omega)]; rfl
    · refine condN (by simpa using hlt) ?_
      conv => whnf
      have heq : l = m := by
        have h1 : l.take i = l := List.take_of_length_le (by omega)
        have h2 : m.take i = m := List.take_of_length_le (by omega)
        rw [← h1, ← h2]; exact ht
      exact ⟨by rw [heq]; simp, rfl⟩
end Go.Proofs.Ytomodeliimnddaa
set_option linter.unusedVariables false
set_option linter.unusedSimpArgs false
namespace Go.Proofs.Ytomodeliimnddaa
open Go.Ab
def orBit (a : Int) (i : Nat) : Int := IntKind.u8.wrap (BitVec.ofInt 8 a ||| BitVec.ofInt 8 (IntKind.u8.wrap (1 * 2 ^ min (i % 8) 8))).toNat
def packN (l : List Bool) : Nat → List Int
  | 0 => List.replicate ((l.length + 7) / 8) 0
  | i + 1 => if l.getD i false = true then (packN l i).set (i / 8) (orBit ((packN l i).getD (i / 8) 0) i) else packN l i
theorem packN_length (l : List Bool) : ∀ i, (packN l i).length = (l.length + 7) / 8
  | 0 => by simp [packN]
  | i + 1 => by
    simp only [packN]
    split
    · simp [packN_length l i]
    · exact packN_length l i
theorem w64 {i : Nat} (h : i ≤ 1000000) : IntKind.i64.wrap (i : Int) = i := IntWalk.i64_in _ (by omega)
theorem q64 {i : Nat} (h : i ≤ 1000000) : IntKind.i64.wrap ((i : Int).tdiv 8) = ((i / 8 : Nat) : Int) := by
  show IntKind.i64.wrap ((i / 8 : Nat) : Int) = _
  exact w64 (by omega)
theorem r64' {i : Nat} : (i : Int).tmod 8 = ((i % 8 : Nat) : Int) := rfl
theorem s64 {i : Nat} (h : i < 1000000) : IntKind.i64.wrap ((i : Int) + 1) = ((i + 1 : Nat) : Int) := w64 (i := i + 1) (by omega)
def a61 : ACode := (.seq (.reg [(iO 2 (.mov (.c .nils)))])
 (.seq (.reg [(iM 6 0), (iO 7 (.len false (.t 6))), (iO 8 (.bin .add .other (.t 7) (.c (.int .i64 7)))), (iO 9 (.bin .quo .other (.t 8) (.c (.int .i64 8)))), (iO 10 (.mkslice 1 1 (.int .u8) [(.int .u8 0)] (.t 9))), (iM 3 10)])
 (.seq (.seq (.reg [(iM 11 0), (iO 12 (.len false (.t 11))), (iO 13 (.mov (.c (.int .i64 0))))])
 (.block 0 (.loop (.seq (.reg [(iO 14 (.bin .lss .other (.t 13) (.t 12)))])
 (.seq (.cond (.t 14) .skip
 (.exit 0))
 (.seq (.block 1 (.seq (.reg [(iM 15 13), (iO 16 (.idx 1 none false (.t 11) (.t 13))), (iL 17 16), (iM 4 15), (iM 5 17)])
 (.seq (.reg [(iM 18 5)])
 (.cond (.t 18) (.reg [(iM 19 3), (iM 20 4), (iO 21 (.bin .quo .other (.t 20) (.c (.int .i64 8)))), (iO 22 (.idx 1 none false (.t 19) (.t 21))), (iL 23 22), (iM 24 4), (iO 25 (.bin .rem .other (.t 24) (.c (.int .i64 8)))), (iO 26 (.conv (.int .u64) (.t 25))), (iO 27 (.bin .shl .other (.c (.int .u8 1)) (.t 26))), (iO 28 (.bin .or .other (.t 23) (.t 27))), (iO 29 (.idx 1 none false (.t 19) (.t 21))), ⟨none, .store 1 (.t 29) (.t 28), none, false⟩])
 .skip))))
 (.reg [(iO 30 (.bin .add .other (.t 13) (.c (.int .i64 1)))), (iM 13 30)])))))))
 (.seq (.reg [(iM 31 3), (iM 2 31)])
 .ret))))
def r61 : List ARes := [.t 2]
theorem c61 : compF Try.prog Try.f61 = some (a61, r61) := by kernel_rfl
theorem b61 : hasBody Try.prog 61 = true := by kernel_rfl
theorem g61 : Try.prog.funcs[61]? = some Try.f61 := by kernel_rfl
theorem pack_tr (l : List Bool) (hl : l.length ≤ 100000) : Tr Try.prog 61 [.roB l] ⟨0, []⟩ fun v s => v = .sl 1 0 0 ((l.length + 7) / 8) ∧ s = ⟨1, [(0, some (.rowI .u8 (packN l l.length)))]⟩ := by
  refine trOf g61 b61 c61 ?_
  conv => whnf
  have h0 : IntKind.i64.wrap ((IntKind.i64.wrap ((l.length : Int) + 7)).tdiv 8) = (((l.length + 7) / 8 : Nat) : Int) := by
    rw [show IntKind.i64.wrap ((l.length : Int) + 7) = ((l.length + 7 : Nat) : Int) from w64 (i := l.length + 7) (by omega)]
    exact q64 (by omega)
  refine condT (by rw [h0]; simp; omega) ?_
  conv => whnf
  refine loopI (α := {i : Nat // i ≤ l.length}) (fun i => [(3, .sl 1 0 0 ((l.length + 7) / 8)), (11, .roB l), (12, .int .i64 l.length), (13, .int .i64 i.1)]) (fun i => ⟨1, [(0, some (.rowI .u8 (packN l i.1)))]⟩) (fun i => l.length - i.1) ⟨0, Nat.zero_le _⟩
      ⟨[], rfl, rfl, rfl, ⟨⟨?_, rfl⟩, ⟨rfl, rfl⟩, ⟨rfl, rfl⟩, ⟨rfl, rfl⟩, trivial⟩, ⟨⟨trivial, rfl, ?_⟩, trivial⟩⟩ fun ⟨i, hi⟩ => ?_
  · show AV.sl 1 0 0 (IntKind.i64.wrap ((IntKind.i64.wrap ((l.length : Int) + 7)).tdiv 8)).toNat = AV.sl 1 0 0 ((l.length + 7) / 8)
    rw [h0]; rfl
  · show some (Chunk.rowI .u8 (List.replicate (IntKind.i64.wrap ((IntKind.i64.wrap ((l.length : Int) + 7)).tdiv 8)).toNat 0)) = some (Chunk.rowI .u8 (packN l 0))
    rw [h0]; rfl
  conv => whnf
  by_cases hlt : i < l.length
  · refine condY (by simpa using hlt) ?_
    conv => whnf
    refine condT (by simpa using hlt) ?_
    conv => whnf
    have hq := q64 (i := i) (by omega)
    refine condS (fun h => ?_) (fun h => ?_)
    · have hb : l.getD i false = true := h
      conv => whnf
      refine condT (by simp only [hq]; simp; omega) ?_
      conv => whnf
      refine condT (by simp only [hq, Chunk.ld]; simp [packN_length]; omega) ?_
      conv => whnf
      refine condT (by simp only [hq]; simp; omega) ?_
      conv => whnf
      refine condT (by show decide (0 + (IntKind.i64.wrap ((i : Int).tdiv 8)).toNat * 1 + 1 ≤ (packN l i).length) = true; simp only [hq, packN_length]; simp; omega) ?_
      conv => whnf
      refine ⟨⟨i + 1, hlt⟩, ⟨[], rfl, rfl, rfl, ⟨⟨rfl, rfl⟩, ⟨rfl, rfl⟩, ⟨rfl, rfl⟩, ⟨?_, rfl⟩, trivial⟩, ⟨⟨trivial, rfl, ?_⟩, trivial⟩⟩, by show l.length - (i + 1) < l.length - i; omega⟩
      · show AV.int .i64 (IntKind.i64.wrap ((i : Int) + 1)) = AV.int .i64 ((i + 1 : Nat) : Int)
        rw [s64 (by omega)]
      · refine congrArg (fun r => some (Chunk.rowI .u8 r)) ?_
        show (packN l i).set (0 + (IntKind.i64.wrap ((i : Int).tdiv 8)).toNat * 1) (IntKind.u8.wrap (BitVec.ofInt 8 ((packN l i).getD (0 + (IntKind.i64.wrap ((i : Int).tdiv 8)).toNat * 1) 0) ||| BitVec.ofInt 8 (IntKind.u8.wrap (1 * 2 ^ (min (IntKind.u64.wrap ((i : Int).tmod 8)).toNat 8)))).toNat) = packN l (i + 1)
        have hu : IntKind.u64.wrap ((i : Int).tmod 8) = ((i % 8 : Nat) : Int) := by
          rw [r64']
          exact Int.emod_eq_of_lt (by omega) (by show ((i % 8 : Nat) : Int) < 18446744073709551616; omega)
        simp only [packN, hb, if_true, hq, hu, Int.toNat_natCast, Nat.zero_add, Nat.mul_one, orBit]
    · have hb : l.getD i false = false := h
      conv => whnf
      refine ⟨⟨i + 1, hlt⟩, ⟨[], rfl, rfl, rfl, ⟨⟨rfl, rfl⟩, ⟨rfl, rfl⟩, ⟨rfl, rfl⟩, ⟨?_, rfl⟩, trivial⟩, ⟨⟨trivial, rfl, ?_⟩, trivial⟩⟩, by show l.length - (i + 1) < l.length - i; omega⟩
      · show AV.int .i64 (IntKind.i64.wrap ((i : Int) + 1)) = AV.int .i64 ((i + 1 : Nat) : Int)
        rw [s64 (by omega)]
      · refine congrArg (fun r => some (Chunk.rowI .u8 r)) ?_
        show packN l i = packN l (i + 1)
        simp only [packN, hb, Bool.false_eq_true, if_false]
  · refine condN (by simpa using hlt) ?_
    conv => whnf
    have : i = l.length := by omega
    subst this
    exact ⟨rfl, rfl⟩
def a62 : ACode := (.seq (.reg [(iO 2 (.mov (.c .nils)))])
 (.seq (.reg [(iM 5 0), (iO 6 (.len false (.t 5))), (iO 7 (.bin .add .other (.t 6) (.c (.int .i64 7)))), (iO 8 (.bin .quo .other (.t 7) (.c (.int .i64 8)))), (iO 9 (.mkslice 1 1 (.int .u8) [(.int .u8 0)] (.t 8))), (iM 3 9)])
 (.seq (.seq (.reg [(iO 4 (.mov (.c (.int .i64 0))))])
 (.block 0 (.loop (.seq (.seq (.reg [(iM 10 4), (iM 11 0), (iO 12 (.len false (.t 11))), (iO 13 (.bin .lss .other (.t 10) (.t 12)))])
 (.cond (.t 13) .skip
 (.exit 0)))
 (.seq (.block 1 (.seq (.reg [(iM 16 0), (iM 17 4), (iO 18 (.idx 1 none false (.t 16) (.t 17))), (iL 19 18)])
 (.cond (.t 19) (.draw [(zS 0 (iM 20 3)), (zS 1 (iM 21 4)), (zS 2 (iO 22 (.bin .quo .other (.t 21) (.c (.int .i64 8))))), (zS 3 (iM 23 3)), (zS 4 (iM 24 4)), (zS 5 (iO 25 (.bin .quo .other (.t 24) (.c (.int .i64 8))))), (zS 6 (iO 26 (.idx 1 none false (.t 23) (.t 25)))), (zS 7 (iL 27 26)), (zS 8 (iM 28 4)), (zS 9 (iO 29 (.bin .rem .other (.t 28) (.c (.int .i64 8))))), (zS 10 (iO 30 (.bin .shl .other (.c (.int .u8 1)) (.t 29)))), (zS 11 (iO 31 (.bin .or .other (.t 27) (.t 30)))), (zS 12 (iO 32 (.idx 1 none false (.t 20) (.t 22)))), ⟨13, ⟨none, .store 1 (.t 32) (.t 31), none, false⟩, true, [], []⟩])
 .skip)))
 (.reg [(iM 14 4), (iO 15 (.bin .add .other (.t 14) (.c (.int .i64 1)))), (iM 4 15)]))))))
 (.seq (.reg [(iM 33 3), (iM 2 33)])
 .ret))))
def r62 : List ARes := [.t 2]
theorem c62 : compF Try.prog Try.f62 = some (a62, r62) := by kernel_rfl
theorem b62 : hasBody Try.prog 62 = true := by kernel_rfl
theorem g62 : Try.prog.funcs[62]? = some Try.f62 := by kernel_rfl
theorem rpack_tr (l : List Bool) (hl : l.length ≤ 100000) : Tr Try.prog 62 [.roB l] ⟨0, []⟩ fun v s => v = .sl 1 0 0 ((l.length + 7) / 8) ∧ s = ⟨1, [(0, some (.rowI .u8 (packN l l.length)))]⟩ := by
  refine trOf g62 b62 c62 ?_
  conv => whnf
  have h0 : IntKind.i64.wrap ((IntKind.i64.wrap ((l.length : Int) + 7)).tdiv 8) = (((l.length + 7) / 8 : Nat) : Int) := by
    rw [show IntKind.i64.wrap ((l.length : Int) + 7) = ((l.length + 7 : Nat) : Int) from w64 (i := l.length + 7) (by omega)]
    exact q64 (by omega)
  refine condT (by rw [h0]; simp; omega) ?_
  conv => whnf
  refine loopI (α := {i : Nat // i ≤ l.length}) (fun i => [(0, .roB l), (3, .sl 1 0 0 ((l.length + 7) / 8)), (4, .int .i64 i.1)]) (fun i => ⟨1, [(0, some (.rowI .u8 (packN l i.1)))]⟩) (fun i => l.length - i.1) ⟨0, Nat.zero_le _⟩
      ⟨[], rfl, rfl, rfl, ⟨⟨rfl, rfl⟩, ⟨?_, rfl⟩, ⟨rfl, rfl⟩, trivial⟩, ⟨⟨trivial, rfl, ?_⟩, trivial⟩⟩ fun ⟨i, hi⟩ => ?_
  · show AV.sl 1 0 0 (IntKind.i64.wrap ((IntKind.i64.wrap ((l.length : Int) + 7)).tdiv 8)).toNat = AV.sl 1 0 0 ((l.length + 7) / 8)
    rw [h0]; rfl
  · show some (Chunk.rowI .u8 (List.replicate (IntKind.i64.wrap ((IntKind.i64.wrap ((l.length : Int) + 7)).tdiv 8)).toNat 0)) = some (Chunk.rowI .u8 (packN l 0))
    rw [h0]; rfl
  conv => whnf
  by_cases hlt : i < l.length
  · refine condY (by simpa using hlt) ?_
    conv => whnf
    refine condT (by simpa using hlt) ?_
    conv => whnf
    have hq := q64 (i := i) (by omega)
    refine condS (fun h => ?_) (fun h => ?_)
    · have hb : l.getD i false = true := h
      conv => whnf
      refine condT (by simp only [hq]; simp; omega) ?_
      conv => whnf
      refine condT (by simp only [hq, Chunk.ld]; simp [packN_length]; omega) ?_
      conv => whnf
      refine condT (by simp only [hq]; simp; omega) ?_
      conv => whnf
      refine condT (by show decide (0 + (IntKind.i64.wrap ((i : Int).tdiv 8)).toNat * 1 + 1 ≤ (packN l i).length) = true; simp only [hq, packN_length]; simp; omega) ?_
      conv => whnf
      refine ⟨⟨i + 1, hlt⟩, ⟨[], rfl, rfl, rfl, ⟨⟨rfl, rfl⟩, ⟨rfl, rfl⟩, ⟨?_, rfl⟩, trivial⟩, ⟨⟨trivial, rfl, ?_⟩, trivial⟩⟩, by show l.length - (i + 1) < l.length - i; omega⟩
      · show AV.int .i64 (IntKind.i64.wrap ((i : Int) + 1)) = AV.int .i64 ((i + 1 : Nat) : Int)
        rw [s64 (by omega)]
      · refine congrArg (fun r => some (Chunk.rowI .u8 r)) ?_
        show (packN l i).set (0 + (IntKind.i64.wrap ((i : Int).tdiv 8)).toNat * 1) (IntKind.u8.wrap (BitVec.ofInt 8 ((packN l i).getD (0 + (IntKind.i64.wrap ((i : Int).tdiv 8)).toNat * 1) 0) ||| BitVec.ofInt 8 (IntKind.u8.wrap (1 * 2 ^ (min ((i : Int).tmod 8).toNat 8)))).toNat) = packN l (i + 1)
        simp only [packN, hb, if_true, hq, r64', Int.toNat_natCast, Nat.zero_add, Nat.mul_one, orBit]
    · have hb : l.getD i false = false := h
      conv => whnf
      refine ⟨⟨i + 1, hlt⟩, ⟨[], rfl, rfl, rfl, ⟨⟨rfl, rfl⟩, ⟨rfl, rfl⟩, ⟨?_, rfl⟩, trivial⟩, ⟨⟨trivial, rfl, ?_⟩, trivial⟩⟩, by show l.length - (i + 1) < l.length - i; omega⟩
      · show AV.int .i64 (IntKind.i64.wrap ((i : Int) + 1)) = AV.int .i64 ((i + 1 : Nat) : Int)
        rw [s64 (by omega)]
      · refine congrArg (fun r => some (Chunk.rowI .u8 r)) ?_
        show packN l i = packN l (i + 1)
        simp only [packN, hb, Bool.false_eq_true, if_false]
  · refine condN (by simpa using hlt) ?_
    conv => whnf
    have : i = l.length := by omega
    subst this
    exact ⟨rfl, rfl⟩
end Go.Proofs.Ytomodeliimnddaa
set_option linter.unusedVariables false
set_option linter.unusedSimpArgs false
namespace Go.Proofs.Ytomodeliimnddaa
open Go.Ab
def reqA (f a n a2 : Int) (b r : AV) : AV := .agg [.int .u8 f, .int .u16 a, .int .u16 n, .int .u16 a2, b, r]
def a110 : ACode := (.seq (.reg [(iO 2 (.box (.t 0))), (iO 3 (.box (.t 1))), (iO 4 (.mov (.c (.bool false))))])
 (.seq (.reg [(iF 5 0 2), (iL 6 5), (iF 7 0 3), (iL 8 7), (iO 9 (.bin .eql .other (.t 6) (.t 8))), ⟨(some 10), .mov (.t 9), none, true⟩, (iG 11 (.fld 1 1 false (.t 2)) 10 true), (iG 12 (.load false 1 (.t 11)) 10 true), (iG 13 (.fld 1 1 false (.t 3)) 10 true), (iG 14 (.load false 1 (.t 13)) 10 true), (iG 15 (.bin .eql .other (.t 12) (.t 14)) 10 true), (iO 16 (.pick (.t 10) (.t 15) (.c (.bool false)))), ⟨(some 17), .mov (.t 16), none, true⟩, (iG 18 (.fld 2 1 false (.t 2)) 17 true), (iG 19 (.load false 1 (.t 18)) 17 true), (iG 20 (.fld 2 1 false (.t 3)) 17 true), (iG 21 (.load false 1 (.t 20)) 17 true), (iG 22 (.bin .eql .other (.t 19) (.t 21)) 17 true), (iO 23 (.pick (.t 17) (.t 22) (.c (.bool false)))), ⟨(some 24), .mov (.t 23), none, true⟩, (iG 25 (.fld 3 1 false (.t 2)) 24 true), (iG 26 (.load false 1 (.t 25)) 24 true), (iG 27 (.fld 3 1 false (.t 3)) 24 true), (iG 28 (.load false 1 (.t 27)) 24 true), (iG 29 (.bin .eql .other (.t 26) (.t 28)) 24 true), (iO 30 (.pick (.t 24) (.t 29) (.c (.bool false)))), ⟨(some 31), .mov (.t 30), none, true⟩, (iG 32 (.fld 4 1 false (.t 2)) 31 true), (iG 33 (.load false 1 (.t 32)) 31 true), (iG 34 (.fld 4 1 false (.t 3)) 31 true), (iG 35 (.load false 1 (.t 34)) 31 true), (iG 36 (.call 119 [(.t 33), (.t 35)]) 31 true), (iO 37 (.pick (.t 31) (.t 36) (.c (.bool false)))), ⟨(some 38), .mov (.t 37), none, true⟩, (iG 39 (.fld 5 1 false (.t 2)) 38 true), (iG 40 (.load false 1 (.t 39)) 38 true), (iG 41 (.fld 5 1 false (.t 3)) 38 true), (iG 42 (.load false 1 (.t 41)) 38 true), (iG 43 (.call 120 [(.t 40), (.t 42)]) 38 true), (iO 44 (.pick (.t 38) (.t 43) (.c (.bool false)))), (iM 4 44)])
 .ret))
def r110 : List ARes := [.t 4]
theorem c110 : compF Try.prog Try.f110 = some (a110, r110) := by kernel_rfl
theorem b110 : hasBody Try.prog 110 = true := by kernel_rfl
theorem g110 : Try.prog.funcs[110]? = some Try.f110 := by kernel_rfl
theorem same_tr (f a n a2 f' a' n' a2' : Int) (b b' : List Bool) (r r' : List Int) (hb : b.length ≤ 100000) (hr : r.length ≤ 100000) :
    Tr Try.prog 110 [reqA f a n a2 (.roB b) (.roI .u16 r), reqA f' a' n' a2' (.roB b') (.roI .u16 r')] ⟨0, []⟩ fun v s => v = .bool (f == f' && a == a' && n == n' && a2 == a2' && b == b' && r == r') ∧ s = ⟨0, []⟩ := by
  refine Tr.norm (K := fun v s => v = .bool (f == f' && a == a' && n == n' && a2 == a2' && b == b' && r == r')) ?_ fun v s hv => ?_
  · refine trOf g110 b110 c110 ?_
    conv => whnf
    refine condF (fun h1 => ?_) (fun h1 => ?_)
    · conv => whnf
      simp only [h1, Bool.false_and]
    conv => whnf
    refine condF (fun h2 => ?_) (fun h2 => ?_)
    · conv => whnf
      simp only [h1, h2, Bool.false_and, Bool.true_and]
    conv => whnf
    refine condF (fun h3 => ?_) (fun h3 => ?_)
    · conv => whnf
      simp only [h1, h2, h3, Bool.false_and, Bool.true_and]
    conv => whnf
    refine condF (fun h4 => ?_) (fun h4 => ?_)
    · conv => whnf
      simp only [h1, h2, h3, h4, Bool.false_and, Bool.true_and]
    conv => whnf
    refine Tr.call [] (equalB_tr b b' hb) rfl rfl trivial rfl fun v s ⟨hv, hs⟩ => ?_
    subst hv; subst hs
    conv => whnf
    refine condF (fun h5 => ?_) (fun h5 => ?_)
    · conv => whnf
      simp only [h1, h2, h3, h4, h5, Bool.false_and, Bool.true_and]
    conv => whnf
    refine Tr.call [] (equal16_tr r r' hr) rfl rfl trivial rfl fun v s ⟨hv, hs⟩ => ?_
    subst hv; subst hs
    conv => whnf
    simp only [h1, h2, h3, h4, h5, Bool.true_and]
  · subst hv
    refine ⟨_, _, ?_, rfl, rfl⟩
    exact ⟨[], rfl, rfl, rfl, ⟨⟨rfl, rfl⟩, trivial⟩, trivial⟩
def repA (f x a n : Int) (b r : AV) : AV := .agg [.int .u8 f, .int .u8 x, .int .u16 a, .int .u16 n, b, r]
end Go.Proofs.Ytomodeliimnddaa
set_option linter.unusedVariables false
set_option linter.unusedSimpArgs false
namespace Go.Proofs.Ytomodeliimnddaa
open Go.Ab
def numsN (l : List Int) : Nat → List Int
  | 0 => []
  | i + 1 => numsN l i ++ [num16 (l.getD (2 * i) 0) (l.getD (2 * i + 1) 0)]
theorem numsN_length (l : List Int) : ∀ i, (numsN l i).length = i
  | 0 => rfl
  | i + 1 => by simp [numsN, numsN_length l i]
def a121 : ACode := (.seq (.reg [(iO 2 (.mov (.c .nils)))])
 (.seq (.reg [(iO 3 (.mov (.c .nils)))])
 (.seq (.block 0 (.loop (.seq (.seq (.reg [(iM 4 0), (iO 5 (.len false (.t 4))), (iO 6 (.bin .gtr .other (.t 5) (.c (.int .i64 1))))])
 (.cond (.t 6) .skip
 (.exit 0)))
 (.seq (.block 1 (.reg [(iM 9 3), (iM 10 0), (iO 11 (.call 151 [(.t 10)])), (iO 12 (.bslice 1 (.int .u16) [(.int .u16 0)] [(0, 1, (.t 11))] 1)), (iO 13 (.app 1 2 (.t 9) (.t 12))), (iM 3 13)]))
 (.reg [(iM 7 0), (iO 8 (.slice (.sl 1) (.t 7) (some (.c (.int .i64 2))) none)), (iM 0 8)])))))
 (.seq (.reg [(iM 14 3), (iM 2 14)])
 .ret))))
def r121 : List ARes := [.t 2]
theorem c121 : compF Try.prog Try.f121 = some (a121, r121) := by kernel_rfl
theorem b121 : hasBody Try.prog 121 = true := by kernel_rfl
theorem g121 : Try.prog.funcs[121]? = some Try.f121 := by kernel_rfl
theorem numbers_tr (l : List Int) (hl : l.length ≤ 100000) : Tr Try.prog 121 [.roI .u8 l] ⟨0, []⟩ fun v s => v = .sl 1 0 0 (l.length / 2) ∧ s = ⟨1, [(0, some (.rowI .u16 (numsN l (l.length / 2))))]⟩ := by
  refine trOf g121 b121 c121 ?_
  conv => whnf
  refine loopI (α := {i : Nat // 2 * i ≤ l.length}) (fun i => [(0, .roI .u8 (l.drop (2 * i.1))), (3, .sl 1 0 0 i.1)]) (fun i => ⟨1, [(0, some (.rowI .u16 (numsN l i.1)))]⟩) (fun i => l.length - 2 * i.1) ⟨0, Nat.zero_le _⟩
      ⟨[(0, none)], rfl, rfl, rfl, ⟨⟨rfl, rfl⟩, ⟨rfl, rfl⟩, trivial⟩, ⟨⟨trivial, rfl, rfl⟩, trivial⟩⟩ fun ⟨i, hi⟩ => ?_
  conv => whnf
  refine condS (fun h => ?_) (fun h => ?_)
  · have hlt : 1 < l.length - 2 * i := by
      have h' : (1 : Int) < ((l.length - 2 * i : Nat) : Int) := by simpa using h
      omega
    conv => whnf
    refine Tr.call [] (number_tr (l.drop (2 * i)) (by simp; omega)) rfl rfl trivial rfl fun v s ⟨hv, hs⟩ => ?_
    subst hv; subst hs
    conv => whnf
    refine condT (by simp [numsN_length]; omega) ?_
    conv => whnf
    refine condT (by simp; omega) ?_
    conv => whnf
    refine ⟨⟨i + 1, by omega⟩, ⟨[(0, some 2)], rfl, rfl, rfl, ⟨⟨?_, rfl⟩, ⟨rfl, rfl⟩, trivial⟩, ⟨⟨trivial, rfl, ?_⟩, trivial⟩⟩, by show l.length - 2 * (i + 1) < l.length - 2 * i; omega⟩
    · show AV.roI .u8 (((l.drop (2 * i)).drop 2).take ((l.drop (2 * i)).length - 2)) = AV.roI .u8 (l.drop (2 * (i + 1)))
      rw [List.take_of_length_le (by simp; omega), List.drop_drop, show 2 * i + 2 = 2 * (i + 1) by omega]
    · show some (Chunk.rowI .u16 (((numsN l i).drop 0).take i ++ [num16 ((l.drop (2 * i)).getD 0 0) ((l.drop (2 * i)).getD 1 0)])) = some (Chunk.rowI .u16 (numsN l (i + 1)))
      rw [List.drop_zero, List.take_of_length_le (by rw [numsN_length]; exact Nat.le_refl _)]
      simp [numsN, List.getD_eq_getElem?_getD]
  · have hlt : l.length - 2 * i ≤ 1 := by
      have h' : ¬ (1 : Int) < ((l.length - 2 * i : Nat) : Int) := by
        have := of_decide_eq_false h
        simpa using this
      omega
    conv => whnf
    have : l.length / 2 = i := by omega
    rw [this]
    exact ⟨rfl, rfl⟩
end Go.Proofs.Ytomodeliimnddaa
set_option linter.unusedVariables false
set_option linter.unusedSimpArgs false
namespace Go.Proofs.Ytomodeliimnddaa
open Go.Ab
def bitE (a : Int) (i : Nat) : Bool := IntKind.u8.wrap (BitVec.ofInt 8 (a.fdiv (2 ^ min (i % 8) 8)) &&& BitVec.ofInt 8 1).toNat == 1
def bitAt (l : List Int) (i : Nat) : Bool := decide (i / 8 < l.length) && bitE (l.getD (i / 8) 0) i
def bitsN (l : List Int) (k : Nat) : Nat → List Bool
  | 0 => List.replicate k false
  | i + 1 => (bitsN l k i).set i (bitAt l i)
theorem bitsN_length (l : List Int) (k : Nat) : ∀ i, (bitsN l k i).length = k
  | 0 => by simp [bitsN]
  | i + 1 => by simp [bitsN, bitsN_length l k i]
def bitsK (n : Int) : Nat := (if 2000 < (if 0 > n then 0 else n) then 2000 else (if 0 > n then 0 else n)).toNat
def a64 : ACode := (.seq (.reg [(iO 4 (.mov (.c .nils)))])
 (.seq (.reg [(iM 7 1), (iO 8 (.mx (.t 7) (.c (.int .i64 0)))), (iO 9 (.mn (.t 8) (.c (.int .i64 2000)))), (iO 10 (.mkslice 1 1 .bool [(.bool false)] (.t 9))), (iM 5 10)])
 (.seq (.seq (.reg [(iM 11 5), (iO 12 (.len false (.t 11))), (iO 13 (.mov (.c (.int .i64 0))))])
 (.block 0 (.loop (.seq (.reg [(iO 14 (.bin .lss .other (.t 13) (.t 12)))])
 (.seq (.cond (.t 14) .skip
 (.exit 0))
 (.seq (.block 1 (.seq (.reg [(iM 15 13), (iM 6 15)])
 (.reg [(iM 16 5), (iM 17 6), (iM 18 6), (iO 19 (.bin .quo .other (.t 18) (.c (.int .i64 8)))), (iM 20 0), (iO 21 (.len false (.t 20))), (iO 22 (.bin .lss .other (.t 19) (.t 21))), ⟨(some 23), .mov (.t 22), none, true⟩, (iG 24 (.mov (.t 0)) 23 true), (iG 25 (.mov (.t 6)) 23 true), (iG 26 (.bin .quo .other (.t 25) (.c (.int .i64 8))) 23 true), (iG 27 (.idx 1 none false (.t 24) (.t 26)) 23 true), (iG 28 (.load false 1 (.t 27)) 23 true), (iG 29 (.mov (.t 6)) 23 true), (iG 30 (.bin .rem .other (.t 29) (.c (.int .i64 8))) 23 true), (iG 31 (.conv (.int .u64) (.t 30)) 23 true), (iG 32 (.bin .shr .other (.t 28) (.t 31)) 23 true), (iG 33 (.bin .and .other (.t 32) (.c (.int .u8 1))) 23 true), (iG 34 (.bin .eql .other (.t 33) (.c (.int .u8 1))) 23 true), (iO 35 (.pick (.t 23) (.t 34) (.c (.bool false)))), (iO 36 (.idx 1 none false (.t 16) (.t 17))), ⟨none, .store 1 (.t 36) (.t 35), none, false⟩])))
 (.reg [(iO 37 (.bin .add .other (.t 13) (.c (.int .i64 1)))), (iM 13 37)])))))))
 (.seq (.reg [(iM 38 5), (iM 4 38)])
 .ret))))
def r64 : List ARes := [.t 4]
theorem c64 : compF Try.prog Try.f64 = some (a64, r64) := by kernel_rfl
theorem b64 : hasBody Try.prog 64 = true := by kernel_rfl
theorem g64 : Try.prog.funcs[64]? = some Try.f64 := by kernel_rfl
theorem bits_tr (l : List Int) (n : Int) (hl : l.length ≤ 100000) : Tr Try.prog 64 [.roI .u8 l, .int .i64 n] ⟨0, []⟩ fun v s => v = .sl 1 0 0 (bitsK n) ∧ s = ⟨1, [(0, some (.rowB (bitsN l (bitsK n) (bitsK n))))]⟩ := by
  refine trOf g64 b64 c64 ?_
  conv => whnf
  have hkN : (if 2000 < (if 0 > n then 0 else n) then 2000 else (if 0 > n then 0 else n)) = ((bitsK n : Nat) : Int) := by
    unfold bitsK; split <;> split <;> omega
  have hk2 : bitsK n ≤ 2000 := by unfold bitsK; split <;> split <;> omega
  refine condT (by simp only [hkN]; simp; omega) ?_
  conv => whnf
  refine loopI (α := {i : Nat // i ≤ bitsK n}) (fun i => [(0, .roI .u8 l), (5, .sl 1 0 0 (bitsK n)), (12, .int .i64 (bitsK n)), (13, .int .i64 i.1)]) (fun i => ⟨1, [(0, some (.rowB (bitsN l (bitsK n) i.1)))]⟩) (fun i => bitsK n - i.1) ⟨0, Nat.zero_le _⟩
      ⟨[], rfl, rfl, rfl, ⟨⟨rfl, rfl⟩, ⟨rfl, rfl⟩, ⟨rfl, rfl⟩, ⟨rfl, rfl⟩, trivial⟩, ⟨⟨trivial, rfl, rfl⟩, trivial⟩⟩ fun ⟨i, hi⟩ => ?_
  conv => whnf
  by_cases hlt : i < bitsK n
  · have hq := q64 (i := i) (by omega)
    have hu : IntKind.u64.wrap ((i : Int).tmod 8) = ((i % 8 : Nat) : Int) := by
      rw [r64']
      exact Int.emod_eq_of_lt (by omega) (by show ((i % 8 : Nat) : Int) < 18446744073709551616; omega)
    refine condY (by simpa using hlt) ?_
    conv => whnf
    refine condF (fun h => ?_) (fun h => ?_)
    · have hb : bitAt l i = false := by
        have h' : ¬ (IntKind.i64.wrap ((i : Int).tdiv 8) < (l.length : Int)) := of_decide_eq_false h
        rw [hq] at h'
        have h'' : ¬ (i / 8 < l.length) := by omega
        simp [bitAt, h'']
      conv => whnf
      refine condT (by simp; omega) ?_
      conv => whnf
      refine condT (by show decide (0 + i * 1 + 1 ≤ (bitsN l (bitsK n) i).length) = true; simp [bitsN_length]; omega) ?_
      conv => whnf
      refine ⟨⟨i + 1, hlt⟩, ⟨[], rfl, rfl, rfl, ⟨⟨rfl, rfl⟩, ⟨rfl, rfl⟩, ⟨rfl, rfl⟩, ⟨?_, rfl⟩, trivial⟩, ⟨⟨trivial, rfl, ?_⟩, trivial⟩⟩, by show bitsK n - (i + 1) < bitsK n - i; omega⟩
      · show AV.int .i64 (IntKind.i64.wrap ((i : Int) + 1)) = AV.int .i64 ((i + 1 : Nat) : Int)
        rw [s64 (by omega)]
      · show some (Chunk.rowB ((bitsN l (bitsK n) i).set (0 + i * 1) false)) = some (Chunk.rowB (bitsN l (bitsK n) (i + 1)))
        simp only [bitsN, hb, Nat.zero_add, Nat.mul_one]
    · have h' : IntKind.i64.wrap ((i : Int).tdiv 8) < (l.length : Int) := of_decide_eq_true h
      have hl8 : i / 8 < l.length := by rw [hq] at h'; omega
      conv => whnf
      refine condT (by simp only [hq]; simp; omega) ?_
      conv => whnf
      refine condT (by simp; omega) ?_
      conv => whnf
      refine condT (by show decide (0 + i * 1 + 1 ≤ (bitsN l (bitsK n) i).length) = true; simp [bitsN_length]; omega) ?_
      conv => whnf
      refine ⟨⟨i + 1, hlt⟩, ⟨[], rfl, rfl, rfl, ⟨⟨rfl, rfl⟩, ⟨rfl, rfl⟩, ⟨rfl, rfl⟩, ⟨?_, rfl⟩, trivial⟩, ⟨⟨trivial, rfl, ?_⟩, trivial⟩⟩, by show bitsK n - (i + 1) < bitsK n - i; omega⟩
      · show AV.int .i64 (IntKind.i64.wrap ((i : Int) + 1)) = AV.int .i64 ((i + 1 : Nat) : Int)
        rw [s64 (by omega)]
      · show some (Chunk.rowB ((bitsN l (bitsK n) i).set (0 + i * 1) (IntKind.u8.wrap (BitVec.ofInt 8 ((l.getD (IntKind.i64.wrap ((i : Int).tdiv 8)).toNat 0).fdiv (2 ^ min (IntKind.u64.wrap ((i : Int).tmod 8)).toNat 8)) &&& BitVec.ofInt 8 1).toNat == 1))) = some (Chunk.rowB (bitsN l (bitsK n) (i + 1)))
        simp only [bitsN, bitAt, bitE, hl8, decide_true, Bool.true_and, hq, hu, Int.toNat_natCast, Nat.zero_add, Nat.mul_one]
  · refine condN (by simpa using hlt) ?_
    conv => whnf
    have : i = bitsK n := by omega
    subst this
    exact ⟨rfl, rfl⟩
def bitsA (l : List Int) : Nat → List Bool
  | 0 => []
  | i + 1 => bitsA l i ++ [bitAt l i]
theorem bitsA_length (l : List Int) : ∀ i, (bitsA l i).length = i
  | 0 => rfl
  | i + 1 => by simp [bitsA, bitsA_length l i]
theorem bitsN_eq (l : List Int) (k : Nat) : ∀ i, i ≤ k → bitsN l k i = bitsA l i ++ List.replicate (k - i) false
  | 0, _ => by simp [bitsN, bitsA]
  | i + 1, h => by
    rw [bitsN, bitsN_eq l k i (by omega), bitsA, show k - i = (k - (i + 1)) + 1 by omega, List.replicate_succ, List.set_append]
    simp [bitsA_length]
theorem bitsN_all (l : List Int) (k : Nat) : bitsN l k k = bitsA l k := by rw [bitsN_eq l k k (Nat.le_refl _)]; simp
def a67 : ACode := (.seq (.reg [(iO 4 (.mov (.c .nils)))])
 (.seq (.reg [(iO 5 (.mov (.c .nils)))])
 (.seq (.seq (.reg [(iO 6 (.mov (.c (.int .i64 0))))])
 (.block 0 (.loop (.seq (.seq (.reg [(iM 7 6), (iM 8 1), (iO 9 (.mn (.t 8) (.c (.int .i64 2000)))), (iO 10 (.bin .lss .other (.t 7) (.t 9)))])
 (.cond (.t 10) .skip
 (.exit 0)))
 (.seq (.block 1 (.reg [(iM 13 5), (iM 14 6), (iO 15 (.bin .quo .other (.t 14) (.c (.int .i64 8)))), (iM 16 0), (iO 17 (.len false (.t 16))), (iO 18 (.bin .lss .other (.t 15) (.t 17))), ⟨(some 19), .mov (.t 18), none, true⟩, (iG 20 (.mov (.t 0)) 19 true), (iG 21 (.mov (.t 6)) 19 true), (iG 22 (.bin .quo .other (.t 21) (.c (.int .i64 8))) 19 true), (iG 23 (.idx 1 none false (.t 20) (.t 22)) 19 true), (iG 24 (.load false 1 (.t 23)) 19 true), (iG 25 (.mov (.t 6)) 19 true), (iG 26 (.bin .rem .other (.t 25) (.c (.int .i64 8))) 19 true), (iG 27 (.bin .shr .other (.t 24) (.t 26)) 19 true), (iG 28 (.bin .and .other (.t 27) (.c (.int .u8 1))) 19 true), (iG 29 (.bin .eql .other (.t 28) (.c (.int .u8 1))) 19 true), (iO 30 (.pick (.t 19) (.t 29) (.c (.bool false)))), (iO 31 (.bslice 1 .bool [(.bool false)] [(0, 1, (.t 30))] 1)), (iO 32 (.app 1 1 (.t 13) (.t 31))), (iM 5 32)]))
 (.reg [(iM 11 6), (iO 12 (.bin .add .other (.t 11) (.c (.int .i64 1)))), (iM 6 12)]))))))
 (.seq (.reg [(iM 33 5), (iM 4 33)])
 .ret))))
def r67 : List ARes := [.t 4]
theorem c67 : compF Try.prog Try.f67 = some (a67, r67) := by kernel_rfl
theorem b67 : hasBody Try.prog 67 = true := by kernel_rfl
theorem g67 : Try.prog.funcs[67]? = some Try.f67 := by kernel_rfl
theorem rbits_tr (l : List Int) (n : Int) (hl : l.length ≤ 100000) : Tr Try.prog 67 [.roI .u8 l, .int .i64 n] ⟨0, []⟩ fun v s => v = .sl 1 0 0 (bitsK n) ∧ s = ⟨1, [(0, some (.rowB (bitsA l (bitsK n))))]⟩ := by
  have hk2 : bitsK n ≤ 2000 := by unfold bitsK; split <;> split <;> omega
  have hc : ∀ i : Nat, i ≤ bitsK n → ((i : Int) < (if 2000 < n then 2000 else n) ↔ i < bitsK n) := by
    intro i hi
    unfold bitsK at *
    split <;> split <;> (try split) <;> omega
  refine trOf g67 b67 c67 ?_
  conv => whnf
  refine loopI (α := {i : Nat // i ≤ bitsK n}) (fun i => [(0, .roI .u8 l), (1, .int .i64 n), (5, .sl 1 0 0 i.1), (6, .int .i64 i.1)]) (fun i => ⟨1, [(0, some (.rowB (bitsA l i.1)))]⟩) (fun i => bitsK n - i.1) ⟨0, Nat.zero_le _⟩
      ⟨[(0, none)], rfl, rfl, rfl, ⟨⟨rfl, rfl⟩, ⟨rfl, rfl⟩, ⟨rfl, rfl⟩, ⟨rfl, rfl⟩, trivial⟩, ⟨⟨trivial, rfl, rfl⟩, trivial⟩⟩ fun ⟨i, hi⟩ => ?_
  conv => whnf
  by_cases hlt : i < bitsK n
  · have hq := q64 (i := i) (by omega)
    refine condY (decide_eq_true ((hc i hi).2 hlt)) ?_
    conv => whnf
    refine condF (fun h => ?_) (fun h => ?_)
    · have hb : bitAt l i = false := by
        have h' : ¬ (IntKind.i64.wrap ((i : Int).tdiv 8) < (l.length : Int)) := of_decide_eq_false h
        rw [hq] at h'
        have h'' : ¬ (i / 8 < l.length) := by omega
        simp [bitAt, h'']
      conv => whnf
      refine condT (by simp [bitsA_length]; omega) ?_
      conv => whnf
      refine ⟨⟨i + 1, hlt⟩, ⟨[(0, some 2)], rfl, rfl, rfl, ⟨⟨rfl, rfl⟩, ⟨rfl, rfl⟩, ⟨rfl, rfl⟩, ⟨?_, rfl⟩, trivial⟩, ⟨⟨trivial, rfl, ?_⟩, trivial⟩⟩, by show bitsK n - (i + 1) < bitsK n - i; omega⟩
      · show AV.int .i64 (IntKind.i64.wrap ((i : Int) + 1)) = AV.int .i64 ((i + 1 : Nat) : Int)
        rw [s64 (by omega)]
      · show some (Chunk.rowB (((bitsA l i).drop 0).take i ++ [false])) = some (Chunk.rowB (bitsA l (i + 1)))
        rw [List.drop_zero, List.take_of_length_le (by rw [bitsA_length]; exact Nat.le_refl _)]
        simp only [bitsA, hb]
    · have h' : IntKind.i64.wrap ((i : Int).tdiv 8) < (l.length : Int) := of_decide_eq_true h
      have hl8 : i / 8 < l.length := by rw [hq] at h'; omega
      conv => whnf
      refine condT (by simp only [hq]; simp; omega) ?_
      conv => whnf
      refine condT (by simp [bitsA_length]; omega) ?_
      conv => whnf
      refine ⟨⟨i + 1, hlt⟩, ⟨[(0, some 2)], rfl, rfl, rfl, ⟨⟨rfl, rfl⟩, ⟨rfl, rfl⟩, ⟨rfl, rfl⟩, ⟨?_, rfl⟩, trivial⟩, ⟨⟨trivial, rfl, ?_⟩, trivial⟩⟩, by show bitsK n - (i + 1) < bitsK n - i; omega⟩
      · show AV.int .i64 (IntKind.i64.wrap ((i : Int) + 1)) = AV.int .i64 ((i + 1 : Nat) : Int)
        rw [s64 (by omega)]
      · show some (Chunk.rowB (((bitsA l i).drop 0).take i ++ [IntKind.u8.wrap (BitVec.ofInt 8 ((l.getD (IntKind.i64.wrap ((i : Int).tdiv 8)).toNat 0).fdiv (2 ^ min ((i : Int).tmod 8).toNat 8)) &&& BitVec.ofInt 8 1).toNat == 1])) = some (Chunk.rowB (bitsA l (i + 1)))
        rw [List.drop_zero, List.take_of_length_le (by rw [bitsA_length]; exact Nat.le_refl _)]
        simp only [bitsA, bitAt, bitE, hl8, decide_true, Bool.true_and, hq, r64', Int.toNat_natCast]
  · refine condN (decide_eq_false fun h => hlt ((hc i hi).1 h)) ?_
    conv => whnf
    have : i = bitsK n := by omega
    subst this
    exact ⟨rfl, rfl⟩
end Go.Proofs.Ytomodeliimnddaa
set_option linter.unusedVariables false
set_option linter.unusedSimpArgs false
namespace Go.Proofs.Ytomodeliimnddaa
open Go.Ab
def a50 : ACode := (.seq (.reg [(iO 4 (.mov (.c (.bool false))))])
 (.seq (.reg [(iM 5 0), (iO 6 (.conv .toStr (.t 5))), (iM 7 1), (iO 8 (.conv .toStr (.t 7))), (iO 9 (.bin .eql .other (.t 6) (.t 8))), (iM 4 9)])
 .ret))
def r50 : List ARes := [.t 4]
theorem c50 : compF Try.prog Try.f50 = some (a50, r50) := by kernel_rfl
theorem b50 : hasBody Try.prog 50 = true := by kernel_rfl
theorem g50 : Try.prog.funcs[50]? = some Try.f50 := by kernel_rfl
theorem bytes_tr (l m : List Int) : Tr Try.prog 50 [.roI .u8 l, .roI .u8 m] ⟨0, []⟩ fun v s => v = .bool ((bytesStr l).toList == (bytesStr m).toList) ∧ s = ⟨0, []⟩ := by
  refine trOf g50 b50 c50 ?_
  conv => whnf
  exact ⟨rfl, rfl⟩
end Go.Proofs.Ytomodeliimnddaa
