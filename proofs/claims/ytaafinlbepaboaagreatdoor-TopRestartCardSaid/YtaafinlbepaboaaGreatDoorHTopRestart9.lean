/- A stage of a concrete run. -/
import Derived.Test.YtaafinlbepaboaaGreatDoorHTopRestart8
set_option linter.unusedVariables false
set_option autoImplicit false
set_option maxRecDepth 100000
namespace Go.Proofs.YtaafinlbepaboaaGreatDoor
open Go.Ab Go.Proofs
def aMdR0 : List AV := [(.str ⟨192, 727379204453768538704993406595030929624597528991926287384244166178936964513111491661679332153496936268946740572249681603369031150337762657084349899385092608812525029623366612542713608177872132901265239494263519768246956166678244241498551082301146597355367140211192872954711936568389854110685454173339125072368184167605360020316122904064408963906476448789294148484487807677326319499064278848571675088174424895987779869099493824191810830205777051086692714925740624⟩), (.bool false), (.agg [(.int .u8 0), (.int .i64 50), (.int .i64 0), (.int .i64 0), (.int .i64 0), .nils])]
def vMdR0 : AV := (.tup [(.ptr 4593 0), (.ptr 1 0)])
def mMdR0 : List (Nat × Chunk) := [(1, (.obj [(.sl 1 25 0 8), (.int .i64 1024), (.int .i64 0), (.int .i64 (-1)), (.int .i64 0), (.bool false)])),
  (2, (.rowI .u8 (List.replicate 1024 0))),
  (5, (.rowI .u8 (List.replicate 1024 0))),
  (8, (.rowI .u8 (List.replicate 1024 0))),
  (11, (.rowI .u8 (List.replicate 1024 0))),
  (14, (.rowI .u8 (List.replicate 1024 0))),
  (17, (.rowI .u8 (List.replicate 1024 0))),
  (20, (.rowI .u8 (List.replicate 1024 0))),
  (23, (.rowI .u8 (List.replicate 1024 0))),
  (25, (.obj [(.sl 1 2 0 1024), (.sl 1 5 0 1024), (.sl 1 8 0 1024), (.sl 1 11 0 1024), (.sl 1 14 0 1024), (.sl 1 17 0 1024), (.sl 1 20 0 1024), (.sl 1 23 0 1024)])),
  (1801, (.obj [(.int .i64 1), (.int .i64 0), (.int .i64 3), (.str ⟨0, 0⟩), (.str ⟨0, 0⟩), .nils, (.int .i64 53)])),
  (2046, (.obj [(.str ⟨1, 114⟩), (.int .i64 3), (.int .i64 0), (.int .i64 0), (.int .i64 0), (.str ⟨0, 0⟩), (.bool true), (.str ⟨0, 0⟩), .nils, (.int .i64 21), (.str ⟨1, 110⟩), (.int .i64 3), (.int .i64 0), (.int .i64 0), (.int .i64 0), (.str ⟨0, 0⟩), (.bool false), (.str ⟨0, 0⟩), (.sl 7 1801 0 1), (.int .i64 42), (.str ⟨1, 122⟩), (.int .i64 3), (.int .i64 0), (.int .i64 0), (.int .i64 0), (.str ⟨0, 0⟩), (.bool false), (.str ⟨0, 0⟩), .nils, (.int .i64 56), (.str ⟨1, 120⟩), (.int .i64 3), (.int .i64 0), (.int .i64 0), (.int .i64 0), (.str ⟨0, 0⟩), (.bool false), (.str ⟨0, 0⟩), .nils, (.int .i64 65), (.str ⟨1, 97⟩), (.int .i64 12), (.int .i64 0), (.int .i64 2), (.int .i64 3), (.str ⟨0, 0⟩), (.bool false), (.str ⟨0, 0⟩), .nils, (.int .i64 74), (.str ⟨1, 109⟩), (.int .i64 3), (.int .i64 0), (.int .i64 0), (.int .i64 0), (.str ⟨0, 0⟩), (.bool false), (.str ⟨4, 962022693⟩), .nils, (.int .i64 98)])),
  (2193, (.obj [(.int .i64 2), (.int .i64 0), (.int .i64 0), (.str ⟨1, 114⟩), (.str ⟨0, 0⟩), .nils, (.int .i64 128), (.int .i64 1), (.int .i64 0), (.int .i64 1), (.str ⟨0, 0⟩), (.str ⟨0, 0⟩), .nils, (.int .i64 132)])),
  (2209, (.obj [(.int .i64 8), (.int .i64 0), (.int .i64 0), (.str ⟨0, 0⟩), (.str ⟨0, 0⟩), (.sl 7 2193 0 2), (.int .i64 130)])),
  (2356, (.obj [(.int .i64 2), (.int .i64 0), (.int .i64 0), (.str ⟨1, 110⟩), (.str ⟨0, 0⟩), .nils, (.int .i64 140), (.int .i64 1), (.int .i64 0), (.int .i64 1), (.str ⟨0, 0⟩), (.str ⟨0, 0⟩), .nils, (.int .i64 144)])),
  (2372, (.obj [(.int .i64 8), (.int .i64 0), (.int .i64 0), (.str ⟨0, 0⟩), (.str ⟨0, 0⟩), (.sl 7 2356 0 2), (.int .i64 142)])),
  (2496, (.obj [(.int .i64 2), (.int .i64 0), (.int .i64 0), (.str ⟨1, 109⟩), (.str ⟨0, 0⟩), .nils, (.int .i64 150), (.int .i64 1), (.int .i64 0), (.int .i64 1), (.str ⟨0, 0⟩), (.str ⟨0, 0⟩), .nils, (.int .i64 154)])),
  (2506, (.obj [(.int .i64 14), (.int .i64 0), (.int .i64 0), (.str ⟨0, 0⟩), (.str ⟨0, 0⟩), (.sl 7 2496 0 2), (.int .i64 152)])),
  (2643, (.obj [(.int .i64 1), (.int .i64 0), (.int .i64 1), (.str ⟨0, 0⟩), (.str ⟨0, 0⟩), .nils, (.int .i64 166), (.int .i64 2), (.int .i64 0), (.int .i64 0), (.str ⟨1, 122⟩), (.str ⟨0, 0⟩), .nils, (.int .i64 170)])),
  (2662, (.obj [(.int .i64 6), (.int .i64 0), (.int .i64 0), (.str ⟨0, 0⟩), (.str ⟨0, 0⟩), (.sl 7 2643 0 2), (.int .i64 168)])),
  (2672, (.obj [(.int .i64 1), (.int .i64 2), (.int .i64 0), (.int .i64 0), (.str ⟨1, 120⟩), (.str ⟨0, 0⟩), .nils, (.int .i64 161), (.sl 7 2662 0 1), .nils, .nils, .nils, (.int .i64 161)])),
  (2682, (.obj [(.sl 7 2506 0 1), .nils, (.sl 13 2672 0 1)])),
  (2705, (.obj [(.int .i64 1), (.int .i64 2), (.int .i64 0), (.int .i64 0), (.str ⟨1, 114⟩), (.str ⟨0, 0⟩), .nils, (.int .i64 123), (.sl 7 2209 0 1), .nils, .nils, .nils, (.int .i64 123), (.int .i64 1), (.int .i64 2), (.int .i64 0), (.int .i64 0), (.str ⟨1, 110⟩), (.str ⟨0, 0⟩), .nils, (.int .i64 135), (.sl 7 2372 0 1), .nils, .nils, .nils, (.int .i64 135), (.int .i64 2), (.int .i64 0), (.int .i64 0), (.int .i64 0), (.str ⟨0, 0⟩), (.str ⟨0, 0⟩), .nils, (.int .i64 0), .nils, (.sl 3 2682 0 1), .nils, .nils, (.int .i64 147)])),
  (4056, (.rowI .i64 (List.replicate 8 3))),
  (4058, (.obj [(.int .i64 21), (.int .i64 0), (.int .i64 0), (.int .i64 0), (.str ⟨0, 0⟩), (.int .i64 2), (.int .i64 0), (.int .i64 0), (.int .i64 0), (.str ⟨0, 0⟩), (.int .i64 1), (.int .i64 3), (.int .i64 0), (.int .i64 1), (.str ⟨0, 0⟩), (.int .i64 9), (.int .i64 3), (.int .i64 8), (.int .i64 0), (.str ⟨0, 0⟩), (.int .i64 3), (.int .i64 0), (.int .i64 0), (.int .i64 0), (.str ⟨0, 0⟩), (.int .i64 21), (.int .i64 0), (.int .i64 0), (.int .i64 0), (.str ⟨0, 0⟩), (.int .i64 2), (.int .i64 1), (.int .i64 0), (.int .i64 0), (.str ⟨0, 0⟩), (.int .i64 1), (.int .i64 3), (.int .i64 0), (.int .i64 1), (.str ⟨0, 0⟩), (.int .i64 9), (.int .i64 3), (.int .i64 8), (.int .i64 0), (.str ⟨0, 0⟩), (.int .i64 3), (.int .i64 1), (.int .i64 0), (.int .i64 0), (.str ⟨0, 0⟩), (.int .i64 21), (.int .i64 0), (.int .i64 0), (.int .i64 0), (.str ⟨0, 0⟩), (.int .i64 2), (.int .i64 7), (.int .i64 0), (.int .i64 0), (.str ⟨0, 0⟩), (.int .i64 1), (.int .i64 3), (.int .i64 0), (.int .i64 1), (.str ⟨0, 0⟩), (.int .i64 9), (.int .i64 3), (.int .i64 14), (.int .i64 0), (.str ⟨0, 0⟩), (.int .i64 19), (.int .i64 21), (.int .i64 0), (.int .i64 0), (.str ⟨0, 0⟩), (.int .i64 21), (.int .i64 0), (.int .i64 0), (.int .i64 0), (.str ⟨0, 0⟩), (.int .i64 1), (.int .i64 3), (.int .i64 0), (.int .i64 1), (.str ⟨0, 0⟩), (.int .i64 2), (.int .i64 2), (.int .i64 0), (.int .i64 0), (.str ⟨0, 0⟩), (.int .i64 9), (.int .i64 3), (.int .i64 6), (.int .i64 0), (.str ⟨0, 0⟩), (.int .i64 3), (.int .i64 3), (.int .i64 0), (.int .i64 0), (.str ⟨0, 0⟩), (.int .i64 18), (.int .i64 21), (.int .i64 0), (.int .i64 0), (.str ⟨0, 0⟩), (.int .i64 23), (.int .i64 0), (.int .i64 0), (.int .i64 0), (.str ⟨0, 0⟩)])),
  (4059, (.obj [(.sl 1 4056 0 8), (.sl 5 4058 0 22), (.int .u32 1), (.int .i32 0), (.int .u32 0), .nili, (.int .u64 0)])),
  (4346, (.obj [])),
  (4592, (.obj [(.int .i64 0), (.str ⟨0, 0⟩), (.int .i64 (-1)), (.int .i64 3), (.bool true), (.int .i64 0), (.int .i64 0), (.int .i64 0), (.int .i64 1), (.str ⟨0, 0⟩), (.int .i64 (-1)), (.int .i64 3), (.bool false), (.int .i64 0), (.int .i64 0), (.int .i64 3), (.int .i64 2), (.str ⟨0, 0⟩), (.int .i64 (-1)), (.int .i64 3), (.bool false), (.int .i64 0), (.int .i64 0), (.int .i64 0), (.int .i64 3), (.str ⟨0, 0⟩), (.int .i64 (-1)), (.int .i64 3), (.bool false), (.int .i64 0), (.int .i64 0), (.int .i64 0), (.int .i64 4), (.str ⟨0, 0⟩), (.int .i64 0), (.int .i64 3), (.bool false), (.int .i64 0), (.int .i64 0), (.int .i64 0), (.int .i64 4), (.str ⟨0, 0⟩), (.int .i64 1), (.int .i64 3), (.bool false), (.int .i64 0), (.int .i64 0), (.int .i64 0), (.int .i64 4), (.str ⟨0, 0⟩), (.int .i64 2), (.int .i64 3), (.bool false), (.int .i64 0), (.int .i64 0), (.int .i64 0), (.int .i64 5), (.str ⟨0, 0⟩), (.int .i64 (-1)), (.int .i64 3), (.bool false), (.int .i64 6), (.int .i64 9), (.int .i64 0)])),
  (4593, (.obj [(.str ⟨1, 112⟩), .nils, (.sl 10 2046 0 6), (.bool false), (.sl 13 2705 0 3), .nils, (.sl 8 4592 0 8), (.ptr 4059 0), (.ptr 1 0), (.int .u8 1), (.int .i64 50), (.int .i64 1), (.int .i64 0), (.int .i64 0), (.sl 8 4346 0 0), (.sl 1 4622 0 8), (.ptr 4595 0), (.mp 4596), (.ptr 4597 0), .nils, (.ptr 4594 0), (.ptr 4598 0), (.ptr 4635 0), (.int .i64 0), (.int .i64 1), (.int .i64 0), (.int .u64 0), (.bool false)])),
  (4594, (.obj [.nils, (.int .u32 0), .nils])),
  (4595, (.obj (List.replicate 1152 (.int .u16 0) ++ [(.int .u64 0)]))),
  (4596, (.map [] 0)),
  (4597, (.obj [(.int .u8 1), (.int .i64 1), (.int .i64 0), .nils, (.int .u8 0), .nils, (.int .u8 0), .nils, (.int .u8 0), .nils, (.int .u8 0), .nils, (.int .u8 0), .nils, (.int .u8 0), .nils, (.int .u8 0), .nils, (.int .u8 0), .nils, (.int .i64 0), (.int .i64 0)])),
  (4598, (.obj [(.int .i32 0), (.int .u32 0), (.int .u32 0), (.int .i32 0), (.int .u32 0), (.int .i64 1), .nils, (.int .i64 0), (.int .i64 0), (.int .u64 0), (.int .u64 0), (.int .u64 0)])),
  (4622, (.rowI .i64 ([0, 3] ++ List.replicate 6 0))),
  (4635, (.obj [(.ptr 1 0), (.int .i64 1), (.int .u64 0), (.int .i64 (-1)), (.int .u64 1), (.int .u64 0)]))]
theorem rMdR0 : resIs (callF Tryz.prog T0 (orX O1 eCmR0) D0 60 10 aMdR0 ⟨0, .l⟩) vMdR0 4795 mMdR0 = true := by kernel_rfl
noncomputable def eMdR0 : CallX := entX 10 aMdR0 vMdR0 4795 mMdR0
theorem tMdR0 (s : St) : Tr Tryz.prog 10 aMdR0 s fun v' s' => v' = vMdR0.ren (shN s.next) ∧ s'.next = s.next + 4795 ∧ ∀ k, s'.get k = match lookM s.next mMdR0 k with
    | some c => some c
    | none => s.get k :=
  stage_tr rMdR0 (by kernel_rfl) (by kernel_rfl) (fun v t h => callF_tr mixed (orX_ok O1_ok eCmR0_ok) D0_ok h eqS_nil) s
theorem eMdR0_ok : CallOk Tryz.prog eMdR0 := entX_ok (by kernel_rfl) tMdR0
end Go.Proofs.YtaafinlbepaboaaGreatDoor
