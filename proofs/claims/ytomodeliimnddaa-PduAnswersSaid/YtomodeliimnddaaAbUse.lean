/- Tools for contracts. -/
import Derived.Test.YtomodeliimnddaaProg
import Derived.Test.YtomodeliimnddaaAbJoin
import Derived.KernelRfl
set_option linter.unusedVariables false
set_option linter.unusedSimpArgs false
namespace Go.Proofs.Ytomodeliimnddaa
open Go.Ab
theorem condS {c : Bool} {A B : Prop} (h1 : c = true → A) (h2 : c = false → B) : cond c A B := by cases c; exact h2 rfl; exact h1 rfl
theorem condF {c : Bool} {A B : Prop} (h2 : c = false → B) (h1 : c = true → A) : cond c A B := condS h1 h2
theorem condT {c : Bool} {A : Prop} (h : c = true) (k : A) : cond c A False := by subst h; exact k
theorem condY {c : Bool} {A B : Prop} (h : c = true) (k : A) : cond c A B := by subst h; exact k
theorem condN {c : Bool} {A B : Prop} (h : c = false) (k : B) : cond c A B := by subst h; exact k
theorem loopI {n0 : Nat} {B : Env → St → (Ex → Env → St → Prop) → Prop} {e : Env} {s : St} {K : Ex → Env → St → Prop} {α : Type} (E : α → Env) (S : α → St) (μ : α → Nat) (x0 : α) (h0 : SubW n0 e s (E x0) (S x0))
    (hr : ∀ x, B (E x) (S x) fun ex e s => match ex with
      | .normal => ∃ x', SubW n0 e s (E x') (S x') ∧ μ x' < μ x
      | .exit j => K (.exit j) e s
      | .ret => K .ret e s) : LoopW n0 B e s K := by unfold LoopW; exact ⟨α, E, S, μ, x0, h0, hr⟩
theorem mixed : Try.prog.follows .mixedOrders = true := by kernel_rfl
theorem trOf {f : Nat} {fn : Func} {a : ACode} {rs : List ARes} {args : List AV} {s : St} {K : AV → St → Prop} (hf : Try.prog.funcs[f]? = some fn) (hb : hasBody Try.prog f = true) (hc : compF Try.prog fn = some (a, rs)) (h : fnW Try.prog a rs args s K) : Tr Try.prog f args s K := fn_sound (drawOk mixed) hf hb hc h
theorem trF {f : Nat} {fn : Func} {a : ACode} {rs : List ARes} {args : List AV} {s : St} {K : AV → St → Prop} (hf : Try.prog.funcs[f]? = some fn) (hb : hasBody Try.prog f = true) (hc : compF Try.prog fn = some (a, rs)) (h : fnF Try.prog a rs args s K) : Tr Try.prog f args s K := trOf hf hb hc (fnF_eq _ _ _ _ _ _ ▸ h)
theorem trZ (z fz : List Nat) {f : Nat} {fn : Func} {a : ACode} {rs : List ARes} {args : List AV} {s : St} {K : AV → St → Prop} (hf : Try.prog.funcs[f]? = some fn) (hb : hasBody Try.prog f = true) (hc : compF Try.prog fn = some (a, rs)) (h : fnZ Try.prog z fz a rs args s K) : Tr Try.prog f args s K := fnZ_sound (drawOk mixed) z fz hf hb hc h
end Go.Proofs.Ytomodeliimnddaa
