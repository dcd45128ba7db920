/- The engine's soundness: operations that change nothing. -/
import Derived.Test.YtomodeliimnddaaAbRel
import Derived.Test.YtomodeliimnddaaAbComp
set_option linter.unusedVariables false
set_option linter.unusedSimpArgs false
set_option autoImplicit false
namespace Go.Ab

section
variable {P : Program} {ι : Iota} {w : World} {M : Nat → Prop} {ρ : AOpd → AV} {η : Operand → Value}

/-- operands are what we know of them -/
def ORel (ι : Iota) (w : World) (M : Nat → Prop) (ρ : AOpd → AV) (η : Operand → Value) : Prop := ∀ x y, opd x = some y → VRel ι w M (ρ y) (η x)
/-- a value is laid out by an operation that changes nothing -/
def Yv (P : Program) (w : World) (s : Sem Value) (V : Value) : Prop := s.run P w = .ok V w

theorem opds_rel (hρ : ORel ι w M ρ η) : ∀ (l : List Operand) (m : List AOpd), opds l = some m → (l.map η).length = (m.map ρ).length ∧ ∀ j, j < (m.map ρ).length → VRel ι w M ((m.map ρ).getD j .undef) ((l.map η).getD j default)
  | [], m, h => by
    simp only [opds, Option.some.injEq] at h
    subst h
    exact ⟨rfl, fun j hj => by simp at hj⟩
  | x :: r, m, h => by
    cases hx : opd x with
    | none => simp [opds, hx] at h
    | some a =>
      cases hr : opds r with
      | none => simp [opds, hx, hr] at h
      | some q =>
        simp only [opds, hx, hr, Option.some.injEq] at h
        subst h
        obtain ⟨h1, h2⟩ := opds_rel hρ r q hr
        refine ⟨by simpa using h1, fun j hj => ?_⟩
        cases j with
        | zero => simpa using hρ x a hx
        | succ j => simpa using h2 j (by simpa using hj)

/-! ### numbers, truth values, strings -/
theorem binI_sound (op : BinOp) (k : IntKind) (a b : Int) (v : AV) (t : Nat) (hs : isShift op = false) (h : binI op k a b = some (true, v)) :
    ∃ V, (binOp op t (.int k a) (.int k b)).run P w = .ok V w ∧ VRel ι w M v V := by
  cases op <;> simp only [binI, isShift] at h hs <;> try contradiction
  all_goals simp only [Option.some.injEq, Prod.mk.injEq] at h
  case add => obtain ⟨_, rfl⟩ := h; exact ⟨_, by simp [binOp, Op.intArith], .g _ _ (.int _ _)⟩
  case sub => obtain ⟨_, rfl⟩ := h; exact ⟨_, by simp [binOp, Op.intArith], .g _ _ (.int _ _)⟩
  case mul => obtain ⟨_, rfl⟩ := h; exact ⟨_, by simp [binOp, Op.intArith], .g _ _ (.int _ _)⟩
  case quo =>
    obtain ⟨hb, rfl⟩ := h
    have hb' : b ≠ 0 := by simpa using hb
    exact ⟨_, by simp [binOp, Op.intDiv, hb'], .g _ _ (.int _ _)⟩
  case rem =>
    obtain ⟨hb, rfl⟩ := h
    have hb' : b ≠ 0 := by simpa using hb
    exact ⟨_, by simp [binOp, Op.intDiv, hb'], .g _ _ (.int _ _)⟩
  case and => obtain ⟨_, rfl⟩ := h; exact ⟨_, by simp [binOp, Op.intBits], .g _ _ (.int _ _)⟩
  case or => obtain ⟨_, rfl⟩ := h; exact ⟨_, by simp [binOp, Op.intBits], .g _ _ (.int _ _)⟩
  case xor => obtain ⟨_, rfl⟩ := h; exact ⟨_, by simp [binOp, Op.intBits], .g _ _ (.int _ _)⟩
  case andNot => obtain ⟨_, rfl⟩ := h; exact ⟨_, by simp [binOp, Op.intBits], .g _ _ (.int _ _)⟩
  case eql => obtain ⟨_, rfl⟩ := h; exact ⟨_, by simp [binOp, Op.intCmp], .g _ _ (.bool _)⟩
  case neq => obtain ⟨_, rfl⟩ := h; exact ⟨_, by simp [binOp, Op.intCmp], .g _ _ (.bool _)⟩
  case lss => obtain ⟨_, rfl⟩ := h; exact ⟨_, by simp [binOp, Op.intCmp], .g _ _ (.bool _)⟩
  case leq => obtain ⟨_, rfl⟩ := h; exact ⟨_, by simp [binOp, Op.intCmp], .g _ _ (.bool _)⟩
  case gtr => obtain ⟨_, rfl⟩ := h; exact ⟨_, by simp [binOp, Op.intCmp], .g _ _ (.bool _)⟩
  case geq => obtain ⟨_, rfl⟩ := h; exact ⟨_, by simp [binOp, Op.intCmp], .g _ _ (.bool _)⟩

theorem shiftI_sound (op : BinOp) (k k' : IntKind) (a b : Int) (v : AV) (t : Nat) (hs : isShift op = true) (h : shiftI op k a b = some (true, v)) :
    ∃ V, (binOp op t (.int k a) (.int k' b)).run P w = .ok V w ∧ VRel ι w M v V := by
  cases op <;> simp only [shiftI, isShift] at h hs <;> try contradiction
  all_goals
    simp only [Option.some.injEq, Prod.mk.injEq] at h
    obtain ⟨hb, rfl⟩ := h
    have hb' : ¬ b < 0 := by simpa using hb
    exact ⟨_, by simp [binOp, Op.shift, hb'], .g _ _ (.int _ _)⟩

theorem str_sound (op : BinOp) (a b : ByteArray) (v : AV) (t : Nat) (k : EqK) (h : binA op k (.str a) (.str b) = some (true, v)) :
    ∃ V, (binOp op t (.string a) (.string b)).run P w = .ok V w ∧ VRel ι w M v V := by
  cases op <;> simp only [binA] at h <;> try contradiction
  all_goals
    simp only [Option.some.injEq, Prod.mk.injEq, true_and] at h
    subst h
    first
      | exact ⟨_, by simp [binOp, Op.stringOp], .g _ _ (.bool _)⟩

/-- '==' where one of both is nil, or both -/
def nilEq : Value → Value → Option Bool
  | .pointer none, .pointer none => some true
  | .pointer none, .pointer (some _) => some false
  | .pointer (some _), .pointer none => some false
  | .slice none _ _, .slice none _ _ => some true
  | .slice (some _) _ _, .slice none _ _ => some false
  | .map none, .map none => some true
  | .nilFunc, .nilFunc => some true
  | .func _ _ _, .nilFunc => some false
  | .nilFunc, .func _ _ _ => some false
  | .nilIface, .nilIface => some true
  | .nilIface, .iface _ _ => some false
  | .iface _ _, .nilIface => some false
  | _, _ => none
def nilKind : TypeDesc → Value → Bool
  | .pointer _, .pointer _ => true
  | .slice _, .slice _ _ _ => true
  | .map _ _, .map _ => true
  | .func _ _ _, .nilFunc => true
  | .func _ _ _, .func _ _ _ => true
  | .interface _, .nilIface => true
  | .interface _, .iface _ _ => true
  | _, _ => false
theorem run_equalIn_nil (d : Nat) (t : Nat) (D : TypeDesc) (A B : Value) (r : Bool) (hu : P.underlying t = some D) (hk : nilKind D A = true) (hk' : nilKind D B = true) (h : nilEq A B = some r) : (Op.equalIn (d + 1) t A B).run P w = .ok r w := by
  unfold Op.equalIn
  rw [Sem.run_bind, run_underlying hu, Result.andThen_ok]
  cases D <;> cases A <;> simp only [nilKind, reduceCtorEq] at hk <;> cases B <;> simp only [nilKind, reduceCtorEq] at hk'
  all_goals try simp only [nilEq, Option.some.injEq, reduceCtorEq] at h
  case pointer.pointer.pointer e a b =>
    cases a <;> cases b <;> simp only [nilEq, Option.some.injEq, reduceCtorEq] at h <;> subst h <;> rfl
  case slice.slice.slice e a n c b m k =>
    cases a <;> cases b <;> simp only [nilEq, Option.some.injEq, reduceCtorEq] at h <;> subst h <;> rfl
  case map.map.map e f a b =>
    cases a <;> cases b <;> simp only [nilEq, Option.some.injEq, reduceCtorEq] at h <;> subst h <;> rfl
  all_goals (subst h; rfl)
theorem run_equal_nil (t : Nat) (D : TypeDesc) (A B : Value) (r : Bool) (hu : P.underlying t = some D) (hk : nilKind D A = true) (hk' : nilKind D B = true) (h : nilEq A B = some r) : (Op.equal t A B).run P w = .ok r w :=
  run_equalIn_nil 9999 t D A B r hu hk hk' h
theorem run_eql_nil (t : Nat) (D : TypeDesc) (A B : Value) (r : Bool) (hu : P.underlying t = some D) (hk : nilKind D A = true) (hk' : nilKind D B = true) (h : nilEq A B = some r) : (binOp .eql t A B).run P w = .ok (.bool r) w := by
  have he := run_equal_nil (P := P) (w := w) t D A B r hu hk hk' h
  cases D <;> cases A <;> simp only [nilKind, reduceCtorEq] at hk <;> cases B <;> simp only [nilKind, reduceCtorEq] at hk' <;> simp [binOp, he]
theorem run_neq_nil (t : Nat) (D : TypeDesc) (A B : Value) (r : Bool) (hu : P.underlying t = some D) (hk : nilKind D A = true) (hk' : nilKind D B = true) (h : nilEq A B = some r) : (binOp .neq t A B).run P w = .ok (.bool (!r)) w := by
  have he := run_equal_nil (P := P) (w := w) t D A B r hu hk hk' h
  cases D <;> cases A <;> simp only [nilKind, reduceCtorEq] at hk <;> cases B <;> simp only [nilKind, reduceCtorEq] at hk' <;> simp [binOp, he]
theorem eqGuard_ok (op : BinOp) (t : Nat) (x y : Operand) (A B : Value) (h : (isConstN x || isConstN y) = true ∨ A ≠ .nilIface) (h2 : ∀ c, A ≠ .agg c) : (eqGuard op t x y A B).run P w = .ok () w := by
  have key : ∀ op : BinOp, (op = .eql ∨ op = .neq) → (eqGuard op t x y A B).run P w = .ok () w := by
    intro op ho
    rcases ho with rfl | rfl
    all_goals
      cases A <;> try rfl
      case agg c => exact absurd rfl (h2 c)
      case nilIface =>
        cases B <;> try rfl
        rcases h with h | h
        · cases x <;> cases y <;> first | rfl | (simp [isConstN] at h)
        · exact absurd rfl h
  cases op <;> first | exact key _ (.inl rfl) | exact key _ (.inr rfl) | rfl

theorem eqA_slice {a b : AV} {r : Bool} (h : eqA .slice a b = some r) : b = .nils ∧ ((a = .nils ∧ r = true) ∨ (r = false ∧ ((∃ A n c, a = .raw (.slice (some A) n c)) ∨ ∃ es n f, a.rov = some (es, n, f) ∧ 0 < n))) := by
  unfold eqA at h
  split at h
  all_goals (first | (rename_i hk; cases hk; done) | skip)
  all_goals (simp only [Option.some.injEq, reduceCtorEq] at h)
  all_goals (try subst h)
  all_goals (first
    | exact ⟨rfl, .inl ⟨rfl, rfl⟩⟩
    | exact ⟨rfl, .inr ⟨rfl, .inl ⟨_, _, _, rfl⟩⟩⟩
    | exact ⟨rfl, .inr ⟨rfl, .inr ⟨_, _, _, rfl, Nat.succ_pos _⟩⟩⟩
    | simp_all)
theorem eq_sound (op : BinOp) (ho : op = .eql ∨ op = .neq) (t : Nat) (x y : Operand) (a b : AV) (A B : Value) (r : Bool) (hA : VRel ι w M a A) (hB : VRel ι w M b B) (h : eqA (eqK P t x y) a b = some r) :
    (eqGuard op t x y A B).run P w = .ok () w ∧ (binOp op t A B).run P w = .ok (.bool (if op = .eql then r else !r)) w := by
  have key : ∀ D, P.underlying t = some D → nilKind D A = true → nilKind D B = true → nilEq A B = some r → (A ≠ .nilIface ∨ (isConstN x || isConstN y) = true) →
      (eqGuard op t x y A B).run P w = .ok () w ∧ (binOp op t A B).run P w = .ok (.bool (if op = .eql then r else !r)) w := by
    intro D hu k1 k2 k3 k4
    refine ⟨eqGuard_ok op t x y A B k4.symm (fun c hc => by subst hc; cases D <;> simp [nilKind] at k1), ?_⟩
    rcases ho with rfl | rfl
    · rw [run_eql_nil t D A B r hu k1 k2 k3]; rfl
    · rw [run_neq_nil t D A B r hu k1 k2 k3]; rfl
  unfold eqK at h
  cases hu : P.underlying t with
  | none => simp [hu, eqA] at h
  | some d =>
    cases d <;> simp only [hu] at h <;> try (simp only [eqA, reduceCtorEq] at h; done)
    case bool =>
      cases a <;> cases b <;> simp only [eqA, Option.some.injEq, reduceCtorEq] at h
      obtain rfl := hA.bool_inv
      obtain rfl := hB.bool_inv
      subst h
      refine ⟨eqGuard_ok op t x y _ _ (.inr (by simp)) (by simp), ?_⟩
      rcases ho with rfl | rfl
      · rw [run_eql_bool w t _ _ hu]; rfl
      · rw [run_neq_bool w t _ _ hu]; rfl
    case interface ms =>
      split at h
      · rename_i hc
        cases a <;> cases b <;> simp only [eqA, Option.some.injEq, reduceCtorEq] at h <;> subst h
        · obtain rfl := hA.nili_inv
          obtain rfl := hB.nili_inv
          exact key _ hu rfl rfl rfl (.inr hc)
        · obtain rfl := hA.nili_inv
          obtain ⟨_, rfl, _⟩ := hB.iface_inv
          exact key _ hu rfl rfl rfl (.inr hc)
        · obtain rfl := hB.nili_inv
          obtain ⟨_, rfl, _⟩ := hA.iface_inv
          exact key _ hu rfl rfl rfl (.inr hc)
      · simp only [eqA, reduceCtorEq] at h
    case pointer e =>
      cases a <;> cases b <;> simp only [eqA, Option.some.injEq, reduceCtorEq] at h <;> subst h
      case nilp.nilp => obtain rfl := hA.nilp_inv; obtain rfl := hB.nilp_inv; exact key _ hu rfl rfl rfl (.inl (by simp))
      case nilp.ptr => obtain rfl := hA.nilp_inv; obtain ⟨_, _, _, rfl⟩ := hB.ptr_inv; exact key _ hu rfl rfl rfl (.inl (by simp))
      case nilp.cptr => obtain rfl := hA.nilp_inv; obtain ⟨_, _, rfl, _⟩ := hB.cptr_inv; exact key _ hu rfl rfl rfl (.inl (by simp))
      case ptr.nilp => obtain rfl := hB.nilp_inv; obtain ⟨_, _, _, rfl⟩ := hA.ptr_inv; exact key _ hu rfl rfl rfl (.inl (by simp))
      case cptr.nilp => obtain rfl := hB.nilp_inv; obtain ⟨_, _, rfl, _⟩ := hA.cptr_inv; exact key _ hu rfl rfl rfl (.inl (by simp))
    case slice e =>
      obtain ⟨rfl, ⟨rfl, rfl⟩ | ⟨rfl, ⟨A', n', c', rfl⟩ | ⟨es', n', f', hv, hn⟩⟩⟩ := eqA_slice h
      · obtain rfl := hA.nils_inv; obtain rfl := hB.nils_inv; exact key _ hu rfl rfl rfl (.inl (by simp))
      · obtain rfl := hB.nils_inv
        cases hA with
        | g _ _ hg => cases hg with
          | raw => exact key _ hu rfl rfl rfl (.inl (by simp))
          | slice _ es n f a cap g hv => simp [AV.rov] at hv
          | sliceNil _ es f hv => simp [AV.rov] at hv
      · obtain rfl := hB.nils_inv
        rcases hA.rov_inv hv with ⟨h0, _⟩ | ⟨a', cap, g, rfl, _⟩
        · omega
        · exact key _ hu rfl rfl rfl (.inl (by simp))
    case map e f =>
      cases a <;> cases b <;> simp only [eqA, Option.some.injEq, reduceCtorEq] at h <;> subst h
      obtain rfl := hA.nilm_inv; obtain rfl := hB.nilm_inv; exact key _ hu rfl rfl rfl (.inl (by simp))
    case func e f g =>
      cases a <;> cases b <;> simp only [eqA, Option.some.injEq, reduceCtorEq] at h <;> subst h
      case nilf.nilf => obtain rfl := hA.nilf_inv; obtain rfl := hB.nilf_inv; exact key _ hu rfl rfl rfl (.inl (by simp))
      case nilf.fn => obtain rfl := hA.nilf_inv; obtain ⟨_, rfl, _⟩ := hB.fn_inv; exact key _ hu rfl rfl rfl (.inl (by simp))
      case fn.nilf => obtain rfl := hB.nilf_inv; obtain ⟨_, rfl, _⟩ := hA.fn_inv; exact key _ hu rfl rfl rfl (.inl (by simp))

/-- 'x op y' -/
theorem bin_sound (op : BinOp) (t : Nat) (x y : Operand) (a b : AV) (A B : Value) (v : AV) (hA : VRel ι w M a A) (hB : VRel ι w M b B) (h : binA op (eqK P t x y) a b = some (true, v)) :
    ∃ V, (do eqGuard op t x y A B; binOp op t A B : Sem Value).run P w = .ok V w ∧ VRel ι w M v V := by
  have guard : ∀ {A B : Value}, A ≠ .nilIface → (∀ c, A ≠ .agg c) → (eqGuard op t x y A B).run P w = .ok () w := fun h1 h2 => eqGuard_ok op t x y _ _ (.inr h1) h2
  have other : ∀ r, eqA (eqK P t x y) a b = some r → ∀ v, (op = .eql ∧ v = .bool r ∨ op = .neq ∧ v = .bool (!r)) → ∃ V, (do eqGuard op t x y A B; binOp op t A B : Sem Value).run P w = .ok V w ∧ VRel ι w M v V := by
    intro r hr v hv
    rcases hv with ⟨rfl, rfl⟩ | ⟨rfl, rfl⟩
    · obtain ⟨h1, h2⟩ := eq_sound (P := P) (w := w) .eql (.inl rfl) t x y a b A B r hA hB hr
      exact ⟨.bool r, by rw [Sem.run_bind, h1, Result.andThen_ok, h2]; rfl, .g _ _ (.bool _)⟩
    · obtain ⟨h1, h2⟩ := eq_sound (P := P) (w := w) .neq (.inr rfl) t x y a b A B r hA hB hr
      exact ⟨.bool (!r), by rw [Sem.run_bind, h1, Result.andThen_ok, h2]; rfl, .g _ _ (.bool _)⟩
  have fall : (match op, eqA (eqK P t x y) a b with
    | .eql, some b => some (true, AV.bool b)
    | .neq, some b => some (true, AV.bool (!b))
    | _, _ => none) = some (true, v) → ∃ V, (do eqGuard op t x y A B; binOp op t A B : Sem Value).run P w = .ok V w ∧ VRel ι w M v V := by
    intro h
    cases he : eqA (eqK P t x y) a b with
    | none => cases op <;> simp [he] at h
    | some r =>
      cases op <;> simp only [he, Option.some.injEq, Prod.mk.injEq, true_and, reduceCtorEq] at h
      · exact other r he v (.inl ⟨rfl, h.symm⟩)
      · exact other r he v (.inr ⟨rfl, h.symm⟩)
  by_cases hi : ∃ k n k' m, a = .int k n ∧ b = .int k' m
  · obtain ⟨k, n, k', m, rfl, rfl⟩ := hi
    obtain rfl := hA.int_inv
    obtain rfl := hB.int_inv
    simp only [binA] at h
    cases hs : isShift op with
    | true =>
      simp only [hs, cond_true] at h
      obtain ⟨V, h1, h2⟩ := shiftI_sound (P := P) (w := w) (ι := ι) (M := M) op k k' n m v t hs h
      exact ⟨V, by rw [Sem.run_bind, guard (by simp) (by simp), Result.andThen_ok, h1], h2⟩
    | false =>
      simp only [hs, cond_false] at h
      split at h
      · rename_i hk
        subst hk
        obtain ⟨V, h1, h2⟩ := binI_sound (P := P) (w := w) (ι := ι) (M := M) op k n m v t hs h
        exact ⟨V, by rw [Sem.run_bind, guard (by simp) (by simp), Result.andThen_ok, h1], h2⟩
      · simp at h
  · by_cases hst : ∃ s s', a = .str s ∧ b = .str s'
    · obtain ⟨s, s', rfl, rfl⟩ := hst
      obtain rfl := hA.str_inv
      obtain rfl := hB.str_inv
      obtain ⟨V, h1, h2⟩ := str_sound (P := P) (w := w) (ι := ι) (M := M) op s s' v t _ h
      exact ⟨V, by rw [Sem.run_bind, guard (by simp) (by simp), Result.andThen_ok, h1], h2⟩
    · refine fall ?_
      cases a <;> cases b <;> first
        | exact h
        | exact absurd ⟨_, _, _, _, rfl, rfl⟩ hi
        | exact absurd ⟨_, _, rfl, rfl⟩ hst

theorem un_sound (op : UnOp) (a : AV) (A : Value) (v : AV) (e : Eff) (hA : VRel ι w M a A) (h : unA op a = .ok true v e) : (∃ V, (Op.unary op A).run P w = .ok V w ∧ VRel ι w M v V) ∧ e = .no := by
  cases op <;> cases a <;> simp only [unA, Res.ok.injEq, reduceCtorEq, true_and, and_true] at h <;> obtain ⟨rfl, rfl⟩ := h
  case not.bool => obtain rfl := hA.bool_inv; exact ⟨⟨_, rfl, .g _ _ (.bool _)⟩, rfl⟩
  case neg.int => obtain rfl := hA.int_inv; exact ⟨⟨_, by simp [Op.unary, Op.intArith], .g _ _ (.int _ _)⟩, rfl⟩
  case xor.int => obtain rfl := hA.int_inv; exact ⟨⟨_, by simp [Op.unary, Op.intBits], .g _ _ (.int _ _)⟩, rfl⟩

end
end Go.Ab
