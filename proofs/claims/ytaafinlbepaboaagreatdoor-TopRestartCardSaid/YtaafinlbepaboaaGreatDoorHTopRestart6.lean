/- A stage of a concrete run. A stage of a concrete run. -/
import Derived.Test.YtaafinlbepaboaaGreatDoorHTopRestart5
set_option linter.unusedVariables false
set_option autoImplicit false
set_option maxRecDepth 100000
namespace Go.Proofs.YtaafinlbepaboaaGreatDoor
open Go.Ab Go.Proofs
def aMdK : List AV := [(.str ⟨81, 352472087757324395414870138212883060221480085790151358585297589399510313436301301890502197922179220214760347560322574750940317033712195716919988694578784686755538418052222810608802922150411326032⟩), (.bool false), (.agg [(.int .u8 0), (.int .i64 10), (.int .i64 0), (.int .i64 0), (.int .i64 0), .nils])]
def vMdK : AV := (.tup [(.ptr 1554 0), (.ptr 1 0)])
def mMdK : List (Nat × Chunk) := [(1, (.obj [(.sl 1 25 0 8), (.int .i64 1024), (.int .i64 0), (.int .i64 (-1)), (.int .i64 0), (.bool false)])),
  (2, (.rowI .u8 (List.replicate 1024 0))),
  (5, (.rowI .u8 (List.replicate 1024 0))),
  (8, (.rowI .u8 (List.replicate 1024 0))),
  (11, (.rowI .u8 (List.replicate 1024 0))),
  (14, (.rowI .u8 (List.replicate 1024 0))),
  (17, (.rowI .u8 (List.replicate 1024 0))),
  (20, (.rowI .u8 (List.replicate 1024 0))),
  (23, (.rowI .u8 (List.replicate 1024 0))),
  (25, (.obj [(.sl 1 2 0 1024), (.sl 1 5 0 1024), (.sl 1 8 0 1024), (.sl 1 11 0 1024), (.sl 1 14 0 1024), (.sl 1 17 0 1024), (.sl 1 20 0 1024), (.sl 1 23 0 1024)])),
  (804, (.obj [(.str ⟨1, 97⟩), (.int .i64 3), (.int .i64 0), (.int .i64 0), (.int .i64 0), (.str ⟨0, 0⟩), (.bool false), (.str ⟨4, 811027749⟩), .nils, (.int .i64 14), (.str ⟨1, 98⟩), (.int .i64 3), (.int .i64 0), (.int .i64 0), (.int .i64 0), (.str ⟨0, 0⟩), (.bool false), (.str ⟨4, 811028773⟩), .nils, (.int .i64 31)])),
  (942, (.obj [(.int .i64 1), (.int .i64 0), (.int .i64 100), (.str ⟨0, 0⟩), (.str ⟨0, 0⟩), .nils, (.int .i64 61), (.int .i64 2), (.int .i64 0), (.int .i64 0), (.str ⟨1, 97⟩), (.str ⟨0, 0⟩), .nils, (.int .i64 67)])),
  (961, (.obj [(.int .i64 6), (.int .i64 0), (.int .i64 0), (.str ⟨0, 0⟩), (.str ⟨0, 0⟩), (.sl 7 942 0 2), (.int .i64 65)])),
  (971, (.obj [(.int .i64 1), (.int .i64 2), (.int .i64 0), (.int .i64 0), (.str ⟨1, 98⟩), (.str ⟨0, 0⟩), .nils, (.int .i64 56), (.sl 7 961 0 1), .nils, .nils, .nils, (.int .i64 56)])),
  (1375, (.rowI .i64 [3, 3])),
  (1377, (.obj [(.int .i64 21), (.int .i64 0), (.int .i64 0), (.int .i64 0), (.str ⟨0, 0⟩), (.int .i64 1), (.int .i64 3), (.int .i64 0), (.int .i64 100), (.str ⟨0, 0⟩), (.int .i64 2), (.int .i64 0), (.int .i64 0), (.int .i64 0), (.str ⟨0, 0⟩), (.int .i64 9), (.int .i64 3), (.int .i64 6), (.int .i64 0), (.str ⟨0, 0⟩), (.int .i64 3), (.int .i64 1), (.int .i64 0), (.int .i64 0), (.str ⟨0, 0⟩), (.int .i64 23), (.int .i64 0), (.int .i64 0), (.int .i64 0), (.str ⟨0, 0⟩)])),
  (1378, (.obj [(.sl 1 1375 0 2), (.sl 5 1377 0 6), (.int .u32 1), (.int .i32 0), (.int .u32 0), .nili, (.int .u64 0)])),
  (1459, (.obj [])),
  (1553, (.obj [(.int .i64 0), (.str ⟨0, 0⟩), (.int .i64 (-1)), (.int .i64 3), (.bool false), (.int .i64 6), (.int .i64 0), (.int .i64 0), (.int .i64 1), (.str ⟨0, 0⟩), (.int .i64 (-1)), (.int .i64 3), (.bool false), (.int .i64 5), (.int .i64 0), (.int .i64 0)])),
  (1554, (.obj [(.str ⟨1, 112⟩), .nils, (.sl 10 804 0 2), (.bool false), (.sl 13 971 0 1), .nils, (.sl 8 1553 0 2), (.ptr 1378 0), (.ptr 1 0), (.int .u8 1), (.int .i64 10), (.int .i64 1), (.int .i64 0), (.int .i64 0), (.sl 8 1459 0 0), (.sl 1 1565 0 2), (.ptr 1556 0), (.mp 1557), (.ptr 1558 0), .nils, (.ptr 1555 0), (.ptr 1559 0), .nilp, (.int .i64 0), (.int .i64 1), (.int .i64 0), (.int .u64 0), (.bool false)])),
  (1555, (.obj [.nils, (.int .u32 0), .nils])),
  (1556, (.obj (List.replicate 1152 (.int .u16 0) ++ [(.int .u64 0)]))),
  (1557, (.map [] 0)),
  (1558, (.obj [(.int .u8 1), (.int .i64 1), (.int .i64 0), .nils, (.int .u8 0), .nils, (.int .u8 0), .nils, (.int .u8 0), .nils, (.int .u8 0), .nils, (.int .u8 0), .nils, (.int .u8 0), .nils, (.int .u8 0), .nils, (.int .u8 0), .nils, (.int .i64 0), (.int .i64 0)])),
  (1559, (.obj [(.int .i32 0), (.int .u32 0), (.int .u32 0), (.int .i32 0), (.int .u32 0), (.int .i64 1), .nils, (.int .i64 0), (.int .i64 0), (.int .u64 0), (.int .u64 0), (.int .u64 0)])),
  (1565, (.rowI .i64 [0, 0]))]
theorem rMdK : resIs (callF Tryz.prog T0 (orX O1 eCmK) D0 60 10 aMdK ⟨0, .l⟩) vMdK 1568 mMdK = true := by kernel_rfl
noncomputable def eMdK : CallX := entX 10 aMdK vMdK 1568 mMdK
theorem tMdK (s : St) : Tr Tryz.prog 10 aMdK s fun v' s' => v' = vMdK.ren (shN s.next) ∧ s'.next = s.next + 1568 ∧ ∀ k, s'.get k = match lookM s.next mMdK k with
    | some c => some c
    | none => s.get k :=
  stage_tr rMdK (by kernel_rfl) (by kernel_rfl) (fun v t h => callF_tr mixed (orX_ok O1_ok eCmK_ok) D0_ok h eqS_nil) s
theorem eMdK_ok : CallOk Tryz.prog eMdK := entX_ok (by kernel_rfl) tMdK
end Go.Proofs.YtaafinlbepaboaaGreatDoor
set_option linter.unusedVariables false
set_option autoImplicit false
set_option maxRecDepth 100000
namespace Go.Proofs.YtaafinlbepaboaaGreatDoor
open Go.Ab Go.Proofs
def aKn : List AV := []
def vKn : AV := (.bool true)
def mKn : List (Nat × Chunk) := []
theorem rKn : resIs (callF Tryz.prog T0 (orX O1 eMdK) D0 60 9 aKn ⟨0, .l⟩) vKn 1855 mKn = true := by kernel_rfl
noncomputable def eKn : CallX := entX 9 aKn vKn 1855 mKn
theorem tKn (s : St) : Tr Tryz.prog 9 aKn s fun v' s' => v' = vKn.ren (shN s.next) ∧ s'.next = s.next + 1855 ∧ ∀ k, s'.get k = match lookM s.next mKn k with
    | some c => some c
    | none => s.get k :=
  stage_tr rKn (by kernel_rfl) (by kernel_rfl) (fun v t h => callF_tr mixed (orX_ok O1_ok eMdK_ok) D0_ok h eqS_nil) s
theorem eKn_ok : CallOk Tryz.prog eKn := entX_ok (by kernel_rfl) tKn
end Go.Proofs.YtaafinlbepaboaaGreatDoor
