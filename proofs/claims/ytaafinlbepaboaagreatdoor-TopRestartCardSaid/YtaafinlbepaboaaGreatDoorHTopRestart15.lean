/- A stage of a concrete run. -/
import Derived.Test.YtaafinlbepaboaaGreatDoorHTopRestart14
set_option linter.unusedVariables false
set_option autoImplicit false
set_option maxRecDepth 100000
namespace Go.Proofs.YtaafinlbepaboaaGreatDoor
open Go.Ab Go.Proofs
def aMdR2 : List AV := [(.str ⟨213, 272144869957025871751903344882532205746975899827290385919551942973041222267300817326812245419223764677804179605933806710413864025890111323561527635971120177236475417497676578891760196894224991156232333109254689083387506220937138892323089198916630276787022876333572403206619777777196371057021917567643622103127365183064855428386324758062371437543390163055576955148420052789609378511389624476493948153563512465150739905229997776124025027637444530348846038267911933046581855355168856810347720661711020779613436465744⟩), (.bool false), (.agg [(.int .u8 0), (.int .i64 50), (.int .i64 0), (.int .i64 0), (.int .i64 0), .nils])]
def vMdR2 : AV := (.tup [(.ptr 4927 0), (.ptr 1 0)])
def mMdR2 : List (Nat × Chunk) := [(1, (.obj [(.sl 1 25 0 8), (.int .i64 1024), (.int .i64 0), (.int .i64 (-1)), (.int .i64 0), (.bool false)])),
  (2, (.rowI .u8 (List.replicate 1024 0))),
  (5, (.rowI .u8 (List.replicate 1024 0))),
  (8, (.rowI .u8 (List.replicate 1024 0))),
  (11, (.rowI .u8 (List.replicate 1024 0))),
  (14, (.rowI .u8 (List.replicate 1024 0))),
  (17, (.rowI .u8 (List.replicate 1024 0))),
  (20, (.rowI .u8 (List.replicate 1024 0))),
  (23, (.rowI .u8 (List.replicate 1024 0))),
  (25, (.obj [(.sl 1 2 0 1024), (.sl 1 5 0 1024), (.sl 1 8 0 1024), (.sl 1 11 0 1024), (.sl 1 14 0 1024), (.sl 1 17 0 1024), (.sl 1 20 0 1024), (.sl 1 23 0 1024)])),
  (1974, (.obj [(.int .i64 1), (.int .i64 0), (.int .i64 3), (.str ⟨0, 0⟩), (.str ⟨0, 0⟩), .nils, (.int .i64 53)])),
  (2219, (.obj [(.str ⟨1, 114⟩), (.int .i64 3), (.int .i64 0), (.int .i64 0), (.int .i64 0), (.str ⟨0, 0⟩), (.bool true), (.str ⟨0, 0⟩), .nils, (.int .i64 21), (.str ⟨1, 110⟩), (.int .i64 3), (.int .i64 0), (.int .i64 0), (.int .i64 0), (.str ⟨0, 0⟩), (.bool false), (.str ⟨0, 0⟩), (.sl 7 1974 0 1), (.int .i64 42), (.str ⟨1, 122⟩), (.int .i64 3), (.int .i64 0), (.int .i64 0), (.int .i64 0), (.str ⟨0, 0⟩), (.bool false), (.str ⟨0, 0⟩), .nils, (.int .i64 56), (.str ⟨1, 120⟩), (.int .i64 3), (.int .i64 0), (.int .i64 0), (.int .i64 0), (.str ⟨0, 0⟩), (.bool false), (.str ⟨0, 0⟩), .nils, (.int .i64 65), (.str ⟨1, 97⟩), (.int .i64 12), (.int .i64 0), (.int .i64 2), (.int .i64 3), (.str ⟨0, 0⟩), (.bool false), (.str ⟨0, 0⟩), .nils, (.int .i64 74), (.str ⟨1, 109⟩), (.int .i64 3), (.int .i64 0), (.int .i64 0), (.int .i64 0), (.str ⟨0, 0⟩), (.bool false), (.str ⟨4, 962022693⟩), .nils, (.int .i64 98)])),
  (2366, (.obj [(.int .i64 2), (.int .i64 0), (.int .i64 0), (.str ⟨1, 114⟩), (.str ⟨0, 0⟩), .nils, (.int .i64 128), (.int .i64 1), (.int .i64 0), (.int .i64 1), (.str ⟨0, 0⟩), (.str ⟨0, 0⟩), .nils, (.int .i64 132)])),
  (2382, (.obj [(.int .i64 8), (.int .i64 0), (.int .i64 0), (.str ⟨0, 0⟩), (.str ⟨0, 0⟩), (.sl 7 2366 0 2), (.int .i64 130)])),
  (2529, (.obj [(.int .i64 2), (.int .i64 0), (.int .i64 0), (.str ⟨1, 110⟩), (.str ⟨0, 0⟩), .nils, (.int .i64 140), (.int .i64 1), (.int .i64 0), (.int .i64 1), (.str ⟨0, 0⟩), (.str ⟨0, 0⟩), .nils, (.int .i64 144)])),
  (2545, (.obj [(.int .i64 8), (.int .i64 0), (.int .i64 0), (.str ⟨0, 0⟩), (.str ⟨0, 0⟩), (.sl 7 2529 0 2), (.int .i64 142)])),
  (2669, (.obj [(.int .i64 2), (.int .i64 0), (.int .i64 0), (.str ⟨1, 109⟩), (.str ⟨0, 0⟩), .nils, (.int .i64 150), (.int .i64 1), (.int .i64 0), (.int .i64 1), (.str ⟨0, 0⟩), (.str ⟨0, 0⟩), .nils, (.int .i64 154)])),
  (2679, (.obj [(.int .i64 14), (.int .i64 0), (.int .i64 0), (.str ⟨0, 0⟩), (.str ⟨0, 0⟩), (.sl 7 2669 0 2), (.int .i64 152)])),
  (2771, (.obj [(.int .i64 1), (.int .i64 1), (.int .i64 1), (.str ⟨0, 0⟩), (.str ⟨0, 0⟩), .nils, (.int .i64 167)])),
  (2899, (.obj [(.int .i64 2), (.int .i64 0), (.int .i64 0), (.str ⟨1, 122⟩), (.str ⟨0, 0⟩), .nils, (.int .i64 180)])),
  (2909, (.obj [(.int .i64 1), (.int .i64 2), (.int .i64 0), (.int .i64 0), (.str ⟨1, 122⟩), (.str ⟨0, 0⟩), .nils, (.int .i64 175), (.sl 7 2899 0 1), .nils, .nils, .nils, (.int .i64 175)])),
  (2934, (.obj [(.int .i64 5), (.int .i64 0), (.int .i64 0), (.int .i64 0), (.str ⟨0, 0⟩), (.str ⟨0, 0⟩), .nils, (.int .i64 0), (.sl 7 2771 0 1), .nils, (.sl 13 2909 0 1), .nils, (.int .i64 161)])),
  (2944, (.obj [(.sl 7 2679 0 1), .nils, (.sl 13 2934 0 1)])),
  (2967, (.obj [(.int .i64 1), (.int .i64 2), (.int .i64 0), (.int .i64 0), (.str ⟨1, 114⟩), (.str ⟨0, 0⟩), .nils, (.int .i64 123), (.sl 7 2382 0 1), .nils, .nils, .nils, (.int .i64 123), (.int .i64 1), (.int .i64 2), (.int .i64 0), (.int .i64 0), (.str ⟨1, 110⟩), (.str ⟨0, 0⟩), .nils, (.int .i64 135), (.sl 7 2545 0 1), .nils, .nils, .nils, (.int .i64 135), (.int .i64 2), (.int .i64 0), (.int .i64 0), (.int .i64 0), (.str ⟨0, 0⟩), (.str ⟨0, 0⟩), .nils, (.int .i64 0), .nils, (.sl 3 2944 0 1), .nils, .nils, (.int .i64 147)])),
  (4354, (.rowI .i64 (List.replicate 8 3))),
  (4356, (.obj [(.int .i64 21), (.int .i64 0), (.int .i64 0), (.int .i64 0), (.str ⟨0, 0⟩), (.int .i64 2), (.int .i64 0), (.int .i64 0), (.int .i64 0), (.str ⟨0, 0⟩), (.int .i64 1), (.int .i64 3), (.int .i64 0), (.int .i64 1), (.str ⟨0, 0⟩), (.int .i64 9), (.int .i64 3), (.int .i64 8), (.int .i64 0), (.str ⟨0, 0⟩), (.int .i64 3), (.int .i64 0), (.int .i64 0), (.int .i64 0), (.str ⟨0, 0⟩), (.int .i64 21), (.int .i64 0), (.int .i64 0), (.int .i64 0), (.str ⟨0, 0⟩), (.int .i64 2), (.int .i64 1), (.int .i64 0), (.int .i64 0), (.str ⟨0, 0⟩), (.int .i64 1), (.int .i64 3), (.int .i64 0), (.int .i64 1), (.str ⟨0, 0⟩), (.int .i64 9), (.int .i64 3), (.int .i64 8), (.int .i64 0), (.str ⟨0, 0⟩), (.int .i64 3), (.int .i64 1), (.int .i64 0), (.int .i64 0), (.str ⟨0, 0⟩), (.int .i64 21), (.int .i64 0), (.int .i64 0), (.int .i64 0), (.str ⟨0, 0⟩), (.int .i64 2), (.int .i64 7), (.int .i64 0), (.int .i64 0), (.str ⟨0, 0⟩), (.int .i64 1), (.int .i64 3), (.int .i64 0), (.int .i64 1), (.str ⟨0, 0⟩), (.int .i64 9), (.int .i64 3), (.int .i64 14), (.int .i64 0), (.str ⟨0, 0⟩), (.int .i64 19), (.int .i64 24), (.int .i64 0), (.int .i64 0), (.str ⟨0, 0⟩), (.int .i64 21), (.int .i64 0), (.int .i64 0), (.int .i64 0), (.str ⟨0, 0⟩), (.int .i64 21), (.int .i64 0), (.int .i64 0), (.int .i64 0), (.str ⟨0, 0⟩), (.int .i64 1), (.int .i64 1), (.int .i64 0), (.int .i64 1), (.str ⟨0, 0⟩), (.int .i64 19), (.int .i64 23), (.int .i64 0), (.int .i64 0), (.str ⟨0, 0⟩), (.int .i64 21), (.int .i64 0), (.int .i64 0), (.int .i64 0), (.str ⟨0, 0⟩), (.int .i64 2), (.int .i64 2), (.int .i64 0), (.int .i64 0), (.str ⟨0, 0⟩), (.int .i64 3), (.int .i64 2), (.int .i64 0), (.int .i64 0), (.str ⟨0, 0⟩), (.int .i64 18), (.int .i64 16), (.int .i64 0), (.int .i64 0), (.str ⟨0, 0⟩), (.int .i64 18), (.int .i64 24), (.int .i64 0), (.int .i64 0), (.str ⟨0, 0⟩), (.int .i64 23), (.int .i64 0), (.int .i64 0), (.int .i64 0), (.str ⟨0, 0⟩)])),
  (4357, (.obj [(.sl 1 4354 0 8), (.sl 5 4356 0 25), (.int .u32 1), (.int .i32 0), (.int .u32 0), .nili, (.int .u64 0)])),
  (4680, (.obj [])),
  (4926, (.obj [(.int .i64 0), (.str ⟨0, 0⟩), (.int .i64 (-1)), (.int .i64 3), (.bool true), (.int .i64 0), (.int .i64 0), (.int .i64 0), (.int .i64 1), (.str ⟨0, 0⟩), (.int .i64 (-1)), (.int .i64 3), (.bool false), (.int .i64 0), (.int .i64 0), (.int .i64 3), (.int .i64 2), (.str ⟨0, 0⟩), (.int .i64 (-1)), (.int .i64 3), (.bool false), (.int .i64 0), (.int .i64 0), (.int .i64 0), (.int .i64 3), (.str ⟨0, 0⟩), (.int .i64 (-1)), (.int .i64 3), (.bool false), (.int .i64 0), (.int .i64 0), (.int .i64 0), (.int .i64 4), (.str ⟨0, 0⟩), (.int .i64 0), (.int .i64 3), (.bool false), (.int .i64 0), (.int .i64 0), (.int .i64 0), (.int .i64 4), (.str ⟨0, 0⟩), (.int .i64 1), (.int .i64 3), (.bool false), (.int .i64 0), (.int .i64 0), (.int .i64 0), (.int .i64 4), (.str ⟨0, 0⟩), (.int .i64 2), (.int .i64 3), (.bool false), (.int .i64 0), (.int .i64 0), (.int .i64 0), (.int .i64 5), (.str ⟨0, 0⟩), (.int .i64 (-1)), (.int .i64 3), (.bool false), (.int .i64 6), (.int .i64 9), (.int .i64 0)])),
  (4927, (.obj [(.str ⟨1, 112⟩), .nils, (.sl 10 2219 0 6), (.bool false), (.sl 13 2967 0 3), .nils, (.sl 8 4926 0 8), (.ptr 4357 0), (.ptr 1 0), (.int .u8 1), (.int .i64 50), (.int .i64 1), (.int .i64 0), (.int .i64 0), (.sl 8 4680 0 0), (.sl 1 4956 0 8), (.ptr 4929 0), (.mp 4930), (.ptr 4931 0), .nils, (.ptr 4928 0), (.ptr 4932 0), (.ptr 4969 0), (.int .i64 0), (.int .i64 1), (.int .i64 0), (.int .u64 0), (.bool false)])),
  (4928, (.obj [.nils, (.int .u32 0), .nils])),
  (4929, (.obj (List.replicate 1152 (.int .u16 0) ++ [(.int .u64 0)]))),
  (4930, (.map [] 0)),
  (4931, (.obj [(.int .u8 1), (.int .i64 1), (.int .i64 0), .nils, (.int .u8 0), .nils, (.int .u8 0), .nils, (.int .u8 0), .nils, (.int .u8 0), .nils, (.int .u8 0), .nils, (.int .u8 0), .nils, (.int .u8 0), .nils, (.int .u8 0), .nils, (.int .i64 0), (.int .i64 0)])),
  (4932, (.obj [(.int .i32 0), (.int .u32 0), (.int .u32 0), (.int .i32 0), (.int .u32 0), (.int .i64 1), .nils, (.int .i64 0), (.int .i64 0), (.int .u64 0), (.int .u64 0), (.int .u64 0)])),
  (4956, (.rowI .i64 ([0, 3] ++ List.replicate 6 0))),
  (4969, (.obj [(.ptr 1 0), (.int .i64 1), (.int .u64 0), (.int .i64 (-1)), (.int .u64 1), (.int .u64 0)]))]
theorem rMdR2 : resIs (callF Tryz.prog T0 (orX O1 eCmR2) D0 60 10 aMdR2 ⟨0, .l⟩) vMdR2 5129 mMdR2 = true := by kernel_rfl
noncomputable def eMdR2 : CallX := entX 10 aMdR2 vMdR2 5129 mMdR2
theorem tMdR2 (s : St) : Tr Tryz.prog 10 aMdR2 s fun v' s' => v' = vMdR2.ren (shN s.next) ∧ s'.next = s.next + 5129 ∧ ∀ k, s'.get k = match lookM s.next mMdR2 k with
    | some c => some c
    | none => s.get k :=
  stage_tr rMdR2 (by kernel_rfl) (by kernel_rfl) (fun v t h => callF_tr mixed (orX_ok O1_ok eCmR2_ok) D0_ok h eqS_nil) s
theorem eMdR2_ok : CallOk Tryz.prog eMdR2 := entX_ok (by kernel_rfl) tMdR2
end Go.Proofs.YtaafinlbepaboaaGreatDoor
