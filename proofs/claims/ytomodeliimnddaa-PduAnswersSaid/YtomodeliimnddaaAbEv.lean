/- Contracts of pure functions, and of functions that append to a row; how they are used. -/
import Derived.Test.YtomodeliimnddaaAbUse
set_option linter.unusedVariables false
set_option linter.unusedSimpArgs false
namespace Go.Ab
mutual
/-- a value without handles keeps its form under every renaming -/
theorem ren_pure {ρ ρ' : Nat → Option Nat} : ∀ (v : AV), v.hok 0 ρ = true → v.ren ρ' = v
  | .ptr h o, hv => by simp [AV.hok, Nat.blt] at hv
  | .sl e h o n, hv => by simp [AV.hok, Nat.blt] at hv
  | .agg l, hv => by simp only [AV.hok] at hv; simp only [AV.ren, renL_pure l hv]
  | .tup l, hv => by simp only [AV.hok] at hv; simp only [AV.ren, renL_pure l hv]
  | .iface t v, hv => by simp only [AV.hok] at hv; simp only [AV.ren, ren_pure v hv]
  | .fn f l, hv => by simp only [AV.hok] at hv; simp only [AV.ren, renL_pure l hv]
  | .undef, _ => rfl
  | .bool _, _ => rfl
  | .int _ _, _ => rfl
  | .str _, _ => rfl
  | .nilp, _ => rfl
  | .nils, _ => rfl
  | .nili, _ => rfl
  | .nilf, _ => rfl
  | .nilm, _ => rfl
  | .cptr _, _ => rfl
  | .roI _ _, _ => rfl
  | .roB _, _ => rfl
  | .ro _ _, _ => rfl
  | .raw _, _ => rfl
termination_by structural v => v
theorem renL_pure {ρ ρ' : Nat → Option Nat} : ∀ (l : List AV), hokL 0 ρ l = true → renL ρ' l = l
  | [], _ => rfl
  | v :: r, h => by simp only [hokL, Bool.and_eq_true] at h; simp only [renL, ren_pure v h.1, renL_pure r h.2]
termination_by structural l => l
end
mutual
theorem hok_mono {ρ ρ' : Nat → Option Nat} {n : Nat} : ∀ (v : AV), v.hok 0 ρ = true → v.hok n ρ' = true
  | .ptr h o, hv => by simp [AV.hok, Nat.blt] at hv
  | .sl e h o n, hv => by simp [AV.hok, Nat.blt] at hv
  | .agg l, hv => by simp only [AV.hok] at hv; simp only [AV.hok, hokL_mono l hv]
  | .tup l, hv => by simp only [AV.hok] at hv; simp only [AV.hok, hokL_mono l hv]
  | .iface t v, hv => by simp only [AV.hok] at hv; simp only [AV.hok, hok_mono v hv]
  | .fn f l, hv => by simp only [AV.hok] at hv; simp only [AV.hok, hokL_mono l hv]
  | .undef, _ => rfl
  | .bool _, _ => rfl
  | .int _ _, _ => rfl
  | .str _, _ => rfl
  | .nilp, _ => rfl
  | .nils, _ => rfl
  | .nili, _ => rfl
  | .nilf, _ => rfl
  | .nilm, _ => rfl
  | .cptr _, _ => rfl
  | .roI _ _, _ => rfl
  | .roB _, _ => rfl
  | .ro _ _, _ => rfl
  | .raw _, _ => rfl
termination_by structural v => v
theorem hokL_mono {ρ ρ' : Nat → Option Nat} {n : Nat} : ∀ (l : List AV), hokL 0 ρ l = true → hokL n ρ' l = true
  | [], _ => rfl
  | v :: r, h => by simp only [hokL, Bool.and_eq_true] at h; simp only [hokL, hok_mono v h.1, hokL_mono r h.2, Bool.and_self]
termination_by structural l => l
end
variable {P : Program}
def nor : Nat → Option Nat := fun _ => none
/-- a pure function's contract -/
def Ev (P : Program) (f : Nat) (args : List AV) (v : AV) : Prop := hokL 0 nor (v :: args) = true ∧ Tr P f args ⟨0, []⟩ fun v' s => v' = v ∧ s = ⟨0, []⟩
theorem Ev.call {f : Nat} {args : List AV} {v : AV} {s : St} {K : AV → St → Prop} (h : Ev P f args v) (k : K v s) : Tr P f args s K := by
  obtain ⟨hh, ht⟩ := h
  simp only [hokL, Bool.and_eq_true] at hh
  refine Tr.call [] ht (renL_pure args hh.2).symm (hokL_mono args hh.2) trivial rfl fun v0 s0 ⟨hv, hs⟩ => ?_
  subst hv; subst hs
  rw [ren_pure v0 hh.1]
  cases s
  exact k
/-- a contract whose result does not depend on the state -/
theorem Ev.of {f : Nat} {args : List AV} {v : AV} (h0 : hokL 0 nor (v :: args) = true) (h : Tr P f args ⟨0, []⟩ fun v' s => ∃ v1 s1, Frz v' s v1 s1 ∧ Le v1 v) : Ev P f args v := by
  refine ⟨h0, ?_⟩
  simp only [hokL, Bool.and_eq_true] at h0
  refine Tr.norm (K := fun v' s => v' = v) (Tr.leRes (Tr.freeze h (K' := fun v' s => Le v' v) fun v' s h => ?_) fun v' s h => ?_) fun v' s h => ?_
  · obtain ⟨v1, s1, h1, h2⟩ := h; exact ⟨v1, s1, h1, h2⟩
  · exact ⟨v, h, rfl⟩
  · subst h
    refine ⟨_, _, ?_, rfl, rfl⟩
    refine ⟨[], rfl, rfl, rfl, ⟨⟨?_, hok_mono v' h0.1⟩, trivial⟩, trivial⟩
    show Env.get [(0, v')] 0 = _
    rw [ren_pure v' h0.1]; rfl
theorem Ev.ofTr {f : Nat} {args : List AV} {v : AV} (h0 : hokL 0 nor (v :: args) = true) (h : Tr P f args ⟨0, []⟩ fun v' s => v' = v ∧ s = ⟨0, []⟩) : Ev P f args v := ⟨h0, h⟩
/-- a function that lays more behind a row -/
theorem rowCall {f h len : Nat} {l l' : List Int} {xs : List AV} {s : St} {K : AV → St → Prop}
    (hT : Tr P f (.sl 1 0 0 l.length :: xs) ⟨1, [(0, some (.rowI .u8 l))]⟩ fun v s => v = .sl 1 1 0 l'.length ∧ s = ⟨2, [(1, some (.rowI .u8 l'))]⟩)
    (hx : hokL 0 nor xs = true) (hg : s.get h = some (.rowI .u8 l)) (hl : len = l.length)
    (k : openS s fun n m => K (.sl 1 n 0 l'.length) ⟨n + 1, (n, some (.rowI .u8 l')) :: (h, none) :: m⟩) : Tr P f (.sl 1 h 0 len :: xs) s K := by
  subst hl
  refine Tr.call [(0, some h)] hT ?_ ?_ ?_ rfl fun v0 s0 ⟨hv, hs⟩ => ?_
  · simp only [renL, renL_pure xs hx]; rfl
  · simp only [hokL, hokL_mono xs hx]; rfl
  · exact ⟨⟨trivial, rfl, hg⟩, trivial⟩
  · subst hv; subst hs
    exact k
/-- results of which the first is a row of bytes, the others without handles -/
def Ret1 (row : List Int) (rest : List AV) (v : AV) (s : St) : Prop := v = .tup (.sl 1 0 0 row.length :: rest) ∧ s = ⟨1, [(0, some (.rowI .u8 row))]⟩
theorem Ret1.of {f : Nat} {args : List AV} {row : List Int} {rest : List AV} (h0 : hokL 0 nor rest = true)
    (h : Tr P f args ⟨0, []⟩ fun v s => ∃ v', Le v v' ∧ ((∃ h, v' = .tup (.sl 1 h 0 row.length :: rest) ∧ s.get h = some (.rowI .u8 row)) ∨ (row = [] ∧ v' = .tup (.nils :: rest)))) :
    Tr P f args ⟨0, []⟩ (Ret1 row rest) := by
  refine Tr.norm (K := fun v' s => (∃ h, v' = .tup (.sl 1 h 0 row.length :: rest) ∧ s.get h = some (.rowI .u8 row)) ∨ (row = [] ∧ v' = .tup (.nils :: rest))) (Tr.leRes h fun v s h => h) fun v s h => ?_
  refine ⟨.tup (.sl 1 0 0 row.length :: rest), ⟨1, [(0, some (.rowI .u8 row))]⟩, ?_, rfl, rfl⟩
  rcases h with ⟨h, rfl, hg⟩ | ⟨hr, rfl⟩
  · refine ⟨[(0, some h)], rfl, rfl, rfl, ⟨⟨?_, ?_⟩, trivial⟩, ⟨⟨trivial, rfl, hg⟩, trivial⟩⟩
    · show AV.tup _ = _
      simp only [AV.ren, renL, renL_pure rest h0]; rfl
    · simp only [AV.hok, hokL, hokL_mono rest h0]; rfl
  · subst hr
    refine ⟨[(0, none)], rfl, rfl, rfl, ⟨⟨?_, ?_⟩, trivial⟩, ⟨⟨trivial, rfl, rfl⟩, trivial⟩⟩
    · show AV.tup _ = _
      simp only [AV.ren, renL, renL_pure rest h0]; rfl
    · simp only [AV.hok, hokL, hokL_mono rest h0]; rfl
mutual
theorem frz_pure {h : Nat} {c : Chunk} : ∀ (v : AV), v.hok 0 nor = true → v.frz h c = v
  | .sl e h o n, hv => by simp [AV.hok, Nat.blt] at hv
  | .agg l, hv => by simp only [AV.hok] at hv; simp only [AV.frz, frzL_pure l hv]
  | .tup l, hv => by simp only [AV.hok] at hv; simp only [AV.frz, frzL_pure l hv]
  | .iface t v, hv => by simp only [AV.hok] at hv; simp only [AV.frz, frz_pure v hv]
  | .fn f l, hv => by simp only [AV.hok] at hv; simp only [AV.frz, frzL_pure l hv]
  | .ptr _ _, _ => rfl
  | .undef, _ => rfl
  | .bool _, _ => rfl
  | .int _ _, _ => rfl
  | .str _, _ => rfl
  | .nilp, _ => rfl
  | .nils, _ => rfl
  | .nili, _ => rfl
  | .nilf, _ => rfl
  | .nilm, _ => rfl
  | .cptr _, _ => rfl
  | .roI _ _, _ => rfl
  | .roB _, _ => rfl
  | .ro _ _, _ => rfl
  | .raw _, _ => rfl
termination_by structural v => v
theorem frzL_pure {h : Nat} {c : Chunk} : ∀ (l : List AV), hokL 0 nor l = true → frzL h c l = l
  | [], _ => rfl
  | v :: r, h => by simp only [hokL, Bool.and_eq_true] at h; simp only [frzL, frz_pure v h.1, frzL_pure r h.2]
termination_by structural l => l
end
theorem ble_self (n : Nat) : Nat.ble n n = true := Nat.ble_self_eq_true n
theorem beq_self (n : Nat) : Nat.beq n n = true := Nat.beq_refl n
theorem frzS_all (k : IntKind) (row : List Int) (n : Nat) (h : n = row.length) : frzS (.rowI k row) 1 0 n = some (.roI k row) := by
  subst h
  simp [frzS, ble_self]
theorem frzS_allB (row : List Bool) (n : Nat) (h : n = row.length) : frzS (.rowB row) 1 0 n = some (.roB row) := by
  subst h
  simp [frzS, ble_self]
theorem frz_row (h : Nat) (k : IntKind) (row : List Int) (n : Nat) (hn : n = row.length) : (AV.sl 1 h 0 n).frz h (.rowI k row) = .roI k row := by
  simp only [AV.frz, beq_self, cond_true, frzS_all k row n hn]
theorem frz_rowB (h : Nat) (row : List Bool) (n : Nat) (hn : n = row.length) : (AV.sl 1 h 0 n).frz h (.rowB row) = .roB row := by
  simp only [AV.frz, beq_self, cond_true, frzS_allB row n hn]
/-- its row as a value -/
theorem Ret1.ev {f : Nat} {args : List AV} {row : List Int} {rest : List AV} (h0 : hokL 0 nor (args ++ rest) = true) (h : Tr P f args ⟨0, []⟩ (Ret1 row rest)) : Ev P f args (.tup (.roI .u8 row :: rest)) := by
  have h1 : hokL 0 nor args = true ∧ hokL 0 nor rest = true := by
    generalize args = l at h0
    clear h
    induction l with
    | nil => exact ⟨rfl, h0⟩
    | cons v r ih =>
      simp only [List.cons_append, hokL, Bool.and_eq_true] at h0 ⊢
      exact ⟨⟨h0.1, (ih h0.2).1⟩, (ih h0.2).2⟩
  refine Ev.of (by simp only [hokL, AV.hok, h1.1, h1.2, Bool.and_self]) (h.mono fun v s ⟨hv, hs⟩ => ?_)
  subst hv; subst hs
  refine ⟨_, _, .step _ _ 0 (.rowI .u8 row) _ _ rfl (.refl _ _), ?_⟩
  show Le (AV.tup (frzL 0 (.rowI .u8 row) (_ :: _))) _
  rw [frzL, frz_row 0 .u8 row _ rfl, frzL_pure rest h1.2]
  exact Le.refl _
/-- a row of numbers, as a value -/
theorem Ev.row {f : Nat} {args : List AV} {k : IntKind} {row : List Int} (h0 : hokL 0 nor args = true) (h : Tr P f args ⟨0, []⟩ fun v s => v = .sl 1 0 0 row.length ∧ s = ⟨1, [(0, some (.rowI k row))]⟩) : Ev P f args (.roI k row) := by
  refine Ev.of (by simp only [hokL, AV.hok, h0, Bool.and_self]) (h.mono fun v s ⟨hv, hs⟩ => ?_)
  subst hv; subst hs
  refine ⟨_, _, .step _ _ 0 (.rowI k row) _ _ rfl (.refl _ _), ?_⟩
  rw [frz_row 0 k row _ rfl]
  exact Le.refl _
theorem Ev.rowB {f : Nat} {args : List AV} {row : List Bool} (h0 : hokL 0 nor args = true) (h : Tr P f args ⟨0, []⟩ fun v s => v = .sl 1 0 0 row.length ∧ s = ⟨1, [(0, some (.rowB row))]⟩) : Ev P f args (.roB row) := by
  refine Ev.of (by simp only [hokL, AV.hok, h0, Bool.and_self]) (h.mono fun v s ⟨hv, hs⟩ => ?_)
  subst hv; subst hs
  refine ⟨_, _, .step _ _ 0 (.rowB row) _ _ rfl (.refl _ _), ?_⟩
  rw [frz_rowB 0 row _ rfl]
  exact Le.refl _
theorem Ret1.call {f : Nat} {args : List AV} {row : List Int} {rest : List AV} {s : St} {K : AV → St → Prop} (h : Tr P f args ⟨0, []⟩ (Ret1 row rest)) (h0 : hokL 0 nor args = true) (h1 : hokL 0 nor rest = true)
    (k : openS s fun n m => K (.tup (.sl 1 n 0 row.length :: rest)) ⟨n + 1, (n, some (.rowI .u8 row)) :: m⟩) : Tr P f args s K := by
  refine Tr.call [] h (renL_pure args h0).symm (hokL_mono args h0) trivial rfl fun v0 s0 ⟨hv, hs⟩ => ?_
  subst hv; subst hs
  rw [openS_eq] at k
  have : (AV.tup (.sl 1 0 0 row.length :: rest)).ren (back (rnm []) 0 s.next) = .tup (.sl 1 s.next 0 row.length :: rest) := by
    simp only [AV.ren, renL, renL_pure rest h1]; rfl
  rw [this]
  exact k
/-- a function that lays more behind a row, given another row that nobody writes any more -/
theorem rowCall2 {f h h2 len n : Nat} {l l' m : List Int} {kk : IntKind} {s : St} {K : AV → St → Prop}
    (hT : Tr P f [.sl 1 0 0 l.length, .roI kk m] ⟨1, [(0, some (.rowI .u8 l))]⟩ fun v s => v = .sl 1 1 0 l'.length ∧ s = ⟨2, [(1, some (.rowI .u8 l'))]⟩)
    (hg2 : s.get h2 = some (.rowI kk m)) (hg : s.get h = some (.rowI .u8 l)) (hne : Nat.beq h h2 = false) (hn : n = m.length) (hl : len = l.length)
    (k : openS s fun n t => K (.sl 1 n 0 l'.length) ⟨n + 1, (n, some (.rowI .u8 l')) :: (h, none) :: (h2, none) :: t⟩) : Tr P f [.sl 1 h 0 len, .sl 1 h2 0 n] s K := by
  refine Tr.lend h2 hg2 ?_
  have : frzL h2 (.rowI kk m) [.sl 1 h 0 len, .sl 1 h2 0 n] = [.sl 1 h 0 len, .roI kk m] := by
    simp only [frzL, frz_row h2 kk m n hn]
    simp [AV.frz, hne]
  rw [this]
  refine rowCall hT rfl ?_ hl k
  have hh : h2 ≠ h := fun e => by subst e; rw [beq_self] at hne; cases hne
  show St.get ⟨s.next, (h2, none) :: s.m⟩ h = _
  rw [St.get_cons, if_neg hh]
  exact hg
/-- an argument that is a row that nobody writes any more -/
theorem lend1 {f h n : Nat} {c : Chunk} {v : AV} {xs ys : List AV} {s : St} {K : AV → St → Prop} (hg : s.get h = some c) (hc : frzL h c xs = ys) (ht : Tr P f ys (s.drop h) K) : Tr P f xs s K := Tr.lend h hg (hc ▸ ht)
end Go.Ab
