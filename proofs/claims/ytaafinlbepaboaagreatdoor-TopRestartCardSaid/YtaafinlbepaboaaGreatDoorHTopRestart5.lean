/- A stage of a concrete run. A stage of a concrete run. -/
import Derived.Test.YtaafinlbepaboaaGreatDoorHTopRestart4
set_option linter.unusedVariables false
set_option autoImplicit false
set_option maxRecDepth 100000
namespace Go.Proofs.YtaafinlbepaboaaGreatDoor
open Go.Ab Go.Proofs
def aTkK : List AV := [(.str ⟨81, 352472087757324395414870138212883060221480085790151358585297589399510313436301301890502197922179220214760347560322574750940317033712195716919988694578784686755538418052222810608802922150411326032⟩), (.bool false)]
def vTkK : AV := (.tup [(.sl 5 635 0 24), .nili])
def mTkK : List (Nat × Chunk) := [(635, (.obj [(.int .i64 1), (.int .i64 0), (.int .i64 0), (.str ⟨7, 21745394846224976⟩), (.int .i64 0), (.int .i64 2), (.int .i64 0), (.int .i64 0), (.str ⟨1, 112⟩), (.int .i64 8), (.int .i64 1), (.int .i64 0), (.int .i64 0), (.str ⟨3, 5390678⟩), (.int .i64 10), (.int .i64 2), (.int .i64 0), (.int .i64 0), (.str ⟨1, 97⟩), (.int .i64 14), (.int .i64 1), (.int .i64 0), (.int .i64 0), (.str ⟨2, 21569⟩), (.int .i64 16), (.int .i64 5), (.int .i64 0), (.int .i64 0), (.str ⟨4, 811027749⟩), (.int .i64 19), (.int .i64 6), (.int .i64 0), (.int .i64 0), (.str ⟨1, 58⟩), (.int .i64 24), (.int .i64 1), (.int .i64 0), (.int .i64 0), (.str ⟨3, 5525065⟩), (.int .i64 26), (.int .i64 6), (.int .i64 0), (.int .i64 0), (.str ⟨1, 59⟩), (.int .i64 29), (.int .i64 2), (.int .i64 0), (.int .i64 0), (.str ⟨1, 98⟩), (.int .i64 31), (.int .i64 1), (.int .i64 0), (.int .i64 0), (.str ⟨2, 21569⟩), (.int .i64 33), (.int .i64 5), (.int .i64 0), (.int .i64 0), (.str ⟨4, 811028773⟩), (.int .i64 36), (.int .i64 6), (.int .i64 0), (.int .i64 0), (.str ⟨1, 58⟩), (.int .i64 41), (.int .i64 1), (.int .i64 0), (.int .i64 0), (.str ⟨3, 5525065⟩), (.int .i64 43), (.int .i64 6), (.int .i64 0), (.int .i64 0), (.str ⟨1, 59⟩), (.int .i64 46), (.int .i64 1), (.int .i64 0), (.int .i64 0), (.str ⟨7, 23152787311578693⟩), (.int .i64 48), (.int .i64 2), (.int .i64 0), (.int .i64 0), (.str ⟨1, 98⟩), (.int .i64 56), (.int .i64 6), (.int .i64 0), (.int .i64 0), (.str ⟨2, 15674⟩), (.int .i64 58), (.int .i64 3), (.int .i64 0), (.int .i64 100), (.str ⟨0, 0⟩), (.int .i64 61), (.int .i64 6), (.int .i64 0), (.int .i64 0), (.str ⟨1, 47⟩), (.int .i64 65), (.int .i64 2), (.int .i64 0), (.int .i64 0), (.str ⟨1, 97⟩), (.int .i64 67), (.int .i64 6), (.int .i64 0), (.int .i64 0), (.str ⟨1, 59⟩), (.int .i64 68), (.int .i64 1), (.int .i64 0), (.int .i64 0), (.str ⟨11, 93395759703143222576696901⟩), (.int .i64 70), (.int .i64 0), (.int .i64 0), (.int .i64 0), (.str ⟨0, 0⟩), (.int .i64 81)]))]
theorem rTkK : resIs (callF Tryz.prog T0 O1 D0 60 163 aTkK ⟨0, .l⟩) vTkK 636 mTkK = true := by kernel_rfl
noncomputable def eTkK : CallX := entX 163 aTkK vTkK 636 mTkK
theorem tTkK (s : St) : Tr Tryz.prog 163 aTkK s fun v' s' => v' = vTkK.ren (shN s.next) ∧ s'.next = s.next + 636 ∧ ∀ k, s'.get k = match lookM s.next mTkK k with
    | some c => some c
    | none => s.get k :=
  stage_tr rTkK (by kernel_rfl) (by kernel_rfl) (fun v t h => callF_tr mixed O1_ok D0_ok h eqS_nil) s
theorem eTkK_ok : CallOk Tryz.prog eTkK := entX_ok (by kernel_rfl) tTkK
end Go.Proofs.YtaafinlbepaboaaGreatDoor
set_option linter.unusedVariables false
set_option autoImplicit false
set_option maxRecDepth 100000
namespace Go.Proofs.YtaafinlbepaboaaGreatDoor
open Go.Ab Go.Proofs
def aCmK : List AV := [(.str ⟨81, 352472087757324395414870138212883060221480085790151358585297589399510313436301301890502197922179220214760347560322574750940317033712195716919988694578784686755538418052222810608802922150411326032⟩)]
def vCmK : AV := (.tup [(.agg [(.sl 1 1263 0 2), (.sl 5 1161 0 6)]), (.agg [(.str ⟨1, 112⟩), .nils, (.sl 10 777 0 2), (.bool false), (.sl 13 944 0 1), .nils]), .nili])
def mCmK : List (Nat × Chunk) := [(777, (.obj [(.str ⟨1, 97⟩), (.int .i64 3), (.int .i64 0), (.int .i64 0), (.int .i64 0), (.str ⟨0, 0⟩), (.bool false), (.str ⟨4, 811027749⟩), .nils, (.int .i64 14), (.str ⟨1, 98⟩), (.int .i64 3), (.int .i64 0), (.int .i64 0), (.int .i64 0), (.str ⟨0, 0⟩), (.bool false), (.str ⟨4, 811028773⟩), .nils, (.int .i64 31)])),
  (915, (.obj [(.int .i64 1), (.int .i64 0), (.int .i64 100), (.str ⟨0, 0⟩), (.str ⟨0, 0⟩), .nils, (.int .i64 61), (.int .i64 2), (.int .i64 0), (.int .i64 0), (.str ⟨1, 97⟩), (.str ⟨0, 0⟩), .nils, (.int .i64 67)])),
  (934, (.obj [(.int .i64 6), (.int .i64 0), (.int .i64 0), (.str ⟨0, 0⟩), (.str ⟨0, 0⟩), (.sl 7 915 0 2), (.int .i64 65)])),
  (944, (.obj [(.int .i64 1), (.int .i64 2), (.int .i64 0), (.int .i64 0), (.str ⟨1, 98⟩), (.str ⟨0, 0⟩), .nils, (.int .i64 56), (.sl 7 934 0 1), .nils, .nils, .nils, (.int .i64 56)])),
  (1161, (.obj [(.int .i64 21), (.int .i64 0), (.int .i64 0), (.int .i64 0), (.str ⟨0, 0⟩), (.int .i64 1), (.int .i64 3), (.int .i64 0), (.int .i64 100), (.str ⟨0, 0⟩), (.int .i64 2), (.int .i64 0), (.int .i64 0), (.int .i64 0), (.str ⟨0, 0⟩), (.int .i64 9), (.int .i64 3), (.int .i64 6), (.int .i64 0), (.str ⟨0, 0⟩), (.int .i64 3), (.int .i64 1), (.int .i64 0), (.int .i64 0), (.str ⟨0, 0⟩), (.int .i64 23), (.int .i64 0), (.int .i64 0), (.int .i64 0), (.str ⟨0, 0⟩)])),
  (1263, (.rowI .i64 [3, 3]))]
theorem rCmK : resIs (callF Tryz.prog T0 (orX O1 eTkK) D0 60 68 aCmK ⟨0, .l⟩) vCmK 1344 mCmK = true := by kernel_rfl
noncomputable def eCmK : CallX := entX 68 aCmK vCmK 1344 mCmK
theorem tCmK (s : St) : Tr Tryz.prog 68 aCmK s fun v' s' => v' = vCmK.ren (shN s.next) ∧ s'.next = s.next + 1344 ∧ ∀ k, s'.get k = match lookM s.next mCmK k with
    | some c => some c
    | none => s.get k :=
  stage_tr rCmK (by kernel_rfl) (by kernel_rfl) (fun v t h => callF_tr mixed (orX_ok O1_ok eTkK_ok) D0_ok h eqS_nil) s
theorem eCmK_ok : CallOk Tryz.prog eCmK := entX_ok (by kernel_rfl) tCmK
end Go.Proofs.YtaafinlbepaboaaGreatDoor
