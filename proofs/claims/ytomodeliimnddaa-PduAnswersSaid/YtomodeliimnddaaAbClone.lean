/- Contracts: slices.Clone. -/
import Derived.Test.YtomodeliimnddaaAbKnown3
set_option linter.unusedVariables false
set_option linter.unusedSimpArgs false
namespace Go.Proofs.Ytomodeliimnddaa
open Go.Ab
theorem nilOr {P : Program} {f es : Nat} {v : AV} {g : Nat → AV} {s : St} {K : AV → St → Prop} (hv : v.rov = some (es, 0, g)) (h1 : Tr P f [.nils] s K) (h2 : ∀ a c, Tr P f [.raw (.slice (some a) 0 c)] s K) : Tr P f [v] s K := by
  unfold Tr at h1 h2 ⊢
  refine ⟨h1.1, fun ι w M Vs hR hV => ?_⟩
  obtain ⟨hs, hg⟩ := hV
  have h0 : VRel ι w M v (Vs.getD 0 default) := hg 0 (by simp)
  rcases h0.rov_inv hv with ⟨_, e⟩ | ⟨a, cap, g', e, _⟩
  · refine h1.2 ι w M Vs hR ⟨hs, fun j hj => ?_⟩
    obtain rfl : j = 0 := by simp at hj; exact hj
    rw [e]; exact .g _ _ .nils
  · refine (h2 a cap).2 ι w M Vs hR ⟨hs, fun j hj => ?_⟩
    obtain rfl : j = 0 := by simp at hj; exact hj
    rw [e]; exact .g _ _ (.raw _)
/- slices.Clone[[]uint16,uint16] -/
def a101 : ACode := (.seq (.reg [⟨(some 2), .mov (.c .nils), none, false⟩])
 (.seq (.seq (.reg [⟨(some 3), .mov (.t 0), none, false⟩, ⟨(some 4), .bin .eql .slice (.t 3) (.c .nils), none, false⟩])
 (.cond (.t 4) (.seq (.reg [⟨(some 2), .mov (.c .nils), none, false⟩])
 .ret)
 .skip))
 (.seq (.reg [⟨(some 5), .bslice 1 (.int .u16) [] [] 0, none, false⟩, ⟨(some 6), .mov (.t 0), none, false⟩, ⟨(some 7), .app 1 2 (.t 5) (.t 6), none, false⟩, ⟨(some 2), .mov (.t 7), none, false⟩])
 .ret)))
def r101 : List ARes := [.t 2]
theorem c101 : compF Try.prog Try.f101 = some (a101, r101) := by kernel_rfl

/- slices.Clone[[]bool,bool] -/
def a122 : ACode := (.seq (.reg [⟨(some 2), .mov (.c .nils), none, false⟩])
 (.seq (.seq (.reg [⟨(some 3), .mov (.t 0), none, false⟩, ⟨(some 4), .bin .eql .slice (.t 3) (.c .nils), none, false⟩])
 (.cond (.t 4) (.seq (.reg [⟨(some 2), .mov (.c .nils), none, false⟩])
 .ret)
 .skip))
 (.seq (.reg [⟨(some 5), .bslice 1 .bool [] [] 0, none, false⟩, ⟨(some 6), .mov (.t 0), none, false⟩, ⟨(some 7), .app 1 1 (.t 5) (.t 6), none, false⟩, ⟨(some 2), .mov (.t 7), none, false⟩])
 .ret)))
def r122 : List ARes := [.t 2]
theorem c122 : compF Try.prog Try.f122 = some (a122, r122) := by kernel_rfl


theorem b101 : hasBody Try.prog 101 = true := by kernel_rfl
theorem g101 : Try.prog.funcs[101]? = some Try.f101 := by kernel_rfl
theorem b122 : hasBody Try.prog 122 = true := by kernel_rfl
theorem g122 : Try.prog.funcs[122]? = some Try.f122 := by kernel_rfl
theorem cloneI_ev (l : List Int) (hl : l.length ≤ 100000) : Ev Try.prog 101 [.roI .u16 l] (.roI .u16 l) := by
  refine FrzK.ev rfl ?_
  cases l with
  | nil =>
    refine nilOr rfl ?_ fun a c => ?_
    · refine trF g101 b101 c101 ?_
      conv => whnf
      exact FrzK.le (Le.nilI _)
    · refine trF g101 b101 c101 ?_
      conv => whnf
      exact FrzK.step 1 rfl (FrzK.le (Le.refl _))
  | cons x l =>
    refine trF g101 b101 c101 ?_
    conv => whnf
    refine condT (by simp at hl ⊢; omega) ?_
    conv => whnf
    refine FrzK.step 1 rfl (FrzK.le ?_)
    show Le ((AV.sl 1 1 0 (0 + (x :: l).length)).frz 1 (.rowI .u16 (x :: l))) _
    rw [frz_row 1 .u16 (x :: l) _ (Nat.zero_add _)]
    exact Le.refl _
theorem cloneB_ev (l : List Bool) (hl : l.length ≤ 100000) : Ev Try.prog 122 [.roB l] (.roB l) := by
  refine FrzK.ev rfl ?_
  cases l with
  | nil =>
    refine nilOr rfl ?_ fun a c => ?_
    · refine trF g122 b122 c122 ?_
      conv => whnf
      exact FrzK.le Le.nilB
    · refine trF g122 b122 c122 ?_
      conv => whnf
      exact FrzK.step 1 rfl (FrzK.le (Le.refl _))
  | cons x l =>
    refine trF g122 b122 c122 ?_
    conv => whnf
    refine condT (by simp at hl ⊢; omega) ?_
    conv => whnf
    refine FrzK.step 1 rfl (FrzK.le ?_)
    show Le ((AV.sl 1 1 0 (0 + (x :: l).length)).frz 1 (.rowB (x :: l))) _
    rw [frz_rowB 1 (x :: l) _ (Nat.zero_add _)]
    exact Le.refl _
end Go.Proofs.Ytomodeliimnddaa
