/- A stage of a concrete run. -/
import Derived.Test.YtaafinlbepaboaaGreatDoorHTopRestart11
set_option linter.unusedVariables false
set_option autoImplicit false
set_option maxRecDepth 100000
namespace Go.Proofs.YtaafinlbepaboaaGreatDoor
open Go.Ab Go.Proofs
def aMdR1 : List AV := [(.str ⟨195, 12203398027029036787858034661020658432992671656963778759314573497076151060673841353408661413948055182029732539236549027714382034348616051610300776282249104029713409051164818815123427598860128612743323575037487080481908173386414339224224683114836068495573486854620532896045209025970093256607331800904574960667734834391135744938663182894816510128657256305529358554000655163593259760958101075021644481693013735980014385428286034213579378166530741493021886599765805799264848⟩), (.bool false), (.agg [(.int .u8 0), (.int .i64 50), (.int .i64 0), (.int .i64 0), (.int .i64 0), .nils])]
def vMdR1 : AV := (.tup [(.ptr 4776 0), (.ptr 1 0)])
def mMdR1 : List (Nat × Chunk) := [(1, (.obj [(.sl 1 25 0 8), (.int .i64 1024), (.int .i64 0), (.int .i64 (-1)), (.int .i64 0), (.bool false)])),
  (2, (.rowI .u8 (List.replicate 1024 0))),
  (5, (.rowI .u8 (List.replicate 1024 0))),
  (8, (.rowI .u8 (List.replicate 1024 0))),
  (11, (.rowI .u8 (List.replicate 1024 0))),
  (14, (.rowI .u8 (List.replicate 1024 0))),
  (17, (.rowI .u8 (List.replicate 1024 0))),
  (20, (.rowI .u8 (List.replicate 1024 0))),
  (23, (.rowI .u8 (List.replicate 1024 0))),
  (25, (.obj [(.sl 1 2 0 1024), (.sl 1 5 0 1024), (.sl 1 8 0 1024), (.sl 1 11 0 1024), (.sl 1 14 0 1024), (.sl 1 17 0 1024), (.sl 1 20 0 1024), (.sl 1 23 0 1024)])),
  (1815, (.obj [(.int .i64 1), (.int .i64 0), (.int .i64 3), (.str ⟨0, 0⟩), (.str ⟨0, 0⟩), .nils, (.int .i64 53)])),
  (2060, (.obj [(.str ⟨1, 114⟩), (.int .i64 3), (.int .i64 0), (.int .i64 0), (.int .i64 0), (.str ⟨0, 0⟩), (.bool true), (.str ⟨0, 0⟩), .nils, (.int .i64 21), (.str ⟨1, 110⟩), (.int .i64 3), (.int .i64 0), (.int .i64 0), (.int .i64 0), (.str ⟨0, 0⟩), (.bool false), (.str ⟨0, 0⟩), (.sl 7 1815 0 1), (.int .i64 42), (.str ⟨1, 122⟩), (.int .i64 3), (.int .i64 0), (.int .i64 0), (.int .i64 0), (.str ⟨0, 0⟩), (.bool false), (.str ⟨0, 0⟩), .nils, (.int .i64 56), (.str ⟨1, 120⟩), (.int .i64 3), (.int .i64 0), (.int .i64 0), (.int .i64 0), (.str ⟨0, 0⟩), (.bool false), (.str ⟨0, 0⟩), .nils, (.int .i64 65), (.str ⟨1, 97⟩), (.int .i64 12), (.int .i64 0), (.int .i64 2), (.int .i64 3), (.str ⟨0, 0⟩), (.bool false), (.str ⟨0, 0⟩), .nils, (.int .i64 74), (.str ⟨1, 109⟩), (.int .i64 3), (.int .i64 0), (.int .i64 0), (.int .i64 0), (.str ⟨0, 0⟩), (.bool false), (.str ⟨4, 962022693⟩), .nils, (.int .i64 98)])),
  (2207, (.obj [(.int .i64 2), (.int .i64 0), (.int .i64 0), (.str ⟨1, 114⟩), (.str ⟨0, 0⟩), .nils, (.int .i64 128), (.int .i64 1), (.int .i64 0), (.int .i64 1), (.str ⟨0, 0⟩), (.str ⟨0, 0⟩), .nils, (.int .i64 132)])),
  (2223, (.obj [(.int .i64 8), (.int .i64 0), (.int .i64 0), (.str ⟨0, 0⟩), (.str ⟨0, 0⟩), (.sl 7 2207 0 2), (.int .i64 130)])),
  (2370, (.obj [(.int .i64 2), (.int .i64 0), (.int .i64 0), (.str ⟨1, 110⟩), (.str ⟨0, 0⟩), .nils, (.int .i64 140), (.int .i64 1), (.int .i64 0), (.int .i64 1), (.str ⟨0, 0⟩), (.str ⟨0, 0⟩), .nils, (.int .i64 144)])),
  (2386, (.obj [(.int .i64 8), (.int .i64 0), (.int .i64 0), (.str ⟨0, 0⟩), (.str ⟨0, 0⟩), (.sl 7 2370 0 2), (.int .i64 142)])),
  (2510, (.obj [(.int .i64 2), (.int .i64 0), (.int .i64 0), (.str ⟨1, 109⟩), (.str ⟨0, 0⟩), .nils, (.int .i64 150), (.int .i64 1), (.int .i64 0), (.int .i64 1), (.str ⟨0, 0⟩), (.str ⟨0, 0⟩), .nils, (.int .i64 154)])),
  (2520, (.obj [(.int .i64 14), (.int .i64 0), (.int .i64 0), (.str ⟨0, 0⟩), (.str ⟨0, 0⟩), (.sl 7 2510 0 2), (.int .i64 152)])),
  (2661, (.obj [(.int .i64 2), (.int .i64 0), (.int .i64 0), (.str ⟨1, 122⟩), (.str ⟨0, 0⟩), .nils, (.int .i64 163), (.int .i64 1), (.int .i64 0), (.int .i64 9), (.str ⟨0, 0⟩), (.str ⟨0, 0⟩), .nils, (.int .i64 167)])),
  (2677, (.obj [(.int .i64 8), (.int .i64 0), (.int .i64 0), (.str ⟨0, 0⟩), (.str ⟨0, 0⟩), (.sl 7 2661 0 2), (.int .i64 165)])),
  (2750, (.obj [(.int .i64 1), (.int .i64 0), (.int .i64 1), (.str ⟨0, 0⟩), (.str ⟨0, 0⟩), .nils, (.int .i64 173)])),
  (2760, (.obj [(.int .i64 1), (.int .i64 2), (.int .i64 0), (.int .i64 0), (.str ⟨1, 97⟩), (.str ⟨0, 0⟩), (.sl 7 2677 0 1), (.int .i64 161), (.sl 7 2750 0 1), .nils, .nils, .nils, (.int .i64 161)])),
  (2770, (.obj [(.sl 7 2520 0 1), .nils, (.sl 13 2760 0 1)])),
  (2793, (.obj [(.int .i64 1), (.int .i64 2), (.int .i64 0), (.int .i64 0), (.str ⟨1, 114⟩), (.str ⟨0, 0⟩), .nils, (.int .i64 123), (.sl 7 2223 0 1), .nils, .nils, .nils, (.int .i64 123), (.int .i64 1), (.int .i64 2), (.int .i64 0), (.int .i64 0), (.str ⟨1, 110⟩), (.str ⟨0, 0⟩), .nils, (.int .i64 135), (.sl 7 2386 0 1), .nils, .nils, .nils, (.int .i64 135), (.int .i64 2), (.int .i64 0), (.int .i64 0), (.int .i64 0), (.str ⟨0, 0⟩), (.str ⟨0, 0⟩), .nils, (.int .i64 0), .nils, (.sl 3 2770 0 1), .nils, .nils, (.int .i64 147)])),
  (4207, (.rowI .i64 (List.replicate 8 3))),
  (4209, (.obj [(.int .i64 21), (.int .i64 0), (.int .i64 0), (.int .i64 0), (.str ⟨0, 0⟩), (.int .i64 2), (.int .i64 0), (.int .i64 0), (.int .i64 0), (.str ⟨0, 0⟩), (.int .i64 1), (.int .i64 3), (.int .i64 0), (.int .i64 1), (.str ⟨0, 0⟩), (.int .i64 9), (.int .i64 3), (.int .i64 8), (.int .i64 0), (.str ⟨0, 0⟩), (.int .i64 3), (.int .i64 0), (.int .i64 0), (.int .i64 0), (.str ⟨0, 0⟩), (.int .i64 21), (.int .i64 0), (.int .i64 0), (.int .i64 0), (.str ⟨0, 0⟩), (.int .i64 2), (.int .i64 1), (.int .i64 0), (.int .i64 0), (.str ⟨0, 0⟩), (.int .i64 1), (.int .i64 3), (.int .i64 0), (.int .i64 1), (.str ⟨0, 0⟩), (.int .i64 9), (.int .i64 3), (.int .i64 8), (.int .i64 0), (.str ⟨0, 0⟩), (.int .i64 3), (.int .i64 1), (.int .i64 0), (.int .i64 0), (.str ⟨0, 0⟩), (.int .i64 21), (.int .i64 0), (.int .i64 0), (.int .i64 0), (.str ⟨0, 0⟩), (.int .i64 2), (.int .i64 7), (.int .i64 0), (.int .i64 0), (.str ⟨0, 0⟩), (.int .i64 1), (.int .i64 3), (.int .i64 0), (.int .i64 1), (.str ⟨0, 0⟩), (.int .i64 9), (.int .i64 3), (.int .i64 14), (.int .i64 0), (.str ⟨0, 0⟩), (.int .i64 19), (.int .i64 23), (.int .i64 0), (.int .i64 0), (.str ⟨0, 0⟩), (.int .i64 21), (.int .i64 0), (.int .i64 0), (.int .i64 0), (.str ⟨0, 0⟩), (.int .i64 2), (.int .i64 2), (.int .i64 0), (.int .i64 0), (.str ⟨0, 0⟩), (.int .i64 1), (.int .i64 3), (.int .i64 0), (.int .i64 9), (.str ⟨0, 0⟩), (.int .i64 9), (.int .i64 3), (.int .i64 8), (.int .i64 0), (.str ⟨0, 0⟩), (.int .i64 5), (.int .i64 4), (.int .i64 3), (.int .i64 0), (.str ⟨0, 0⟩), (.int .i64 1), (.int .i64 3), (.int .i64 0), (.int .i64 1), (.str ⟨0, 0⟩), (.int .i64 6), (.int .i64 4), (.int .i64 3), (.int .i64 0), (.str ⟨0, 0⟩), (.int .i64 18), (.int .i64 23), (.int .i64 0), (.int .i64 0), (.str ⟨0, 0⟩), (.int .i64 23), (.int .i64 0), (.int .i64 0), (.int .i64 0), (.str ⟨0, 0⟩)])),
  (4210, (.obj [(.sl 1 4207 0 8), (.sl 5 4209 0 24), (.int .u32 1), (.int .i32 0), (.int .u32 0), .nili, (.int .u64 0)])),
  (4529, (.obj [])),
  (4775, (.obj [(.int .i64 0), (.str ⟨0, 0⟩), (.int .i64 (-1)), (.int .i64 3), (.bool true), (.int .i64 0), (.int .i64 0), (.int .i64 0), (.int .i64 1), (.str ⟨0, 0⟩), (.int .i64 (-1)), (.int .i64 3), (.bool false), (.int .i64 0), (.int .i64 0), (.int .i64 3), (.int .i64 2), (.str ⟨0, 0⟩), (.int .i64 (-1)), (.int .i64 3), (.bool false), (.int .i64 0), (.int .i64 0), (.int .i64 0), (.int .i64 3), (.str ⟨0, 0⟩), (.int .i64 (-1)), (.int .i64 3), (.bool false), (.int .i64 0), (.int .i64 0), (.int .i64 0), (.int .i64 4), (.str ⟨0, 0⟩), (.int .i64 0), (.int .i64 3), (.bool false), (.int .i64 0), (.int .i64 0), (.int .i64 0), (.int .i64 4), (.str ⟨0, 0⟩), (.int .i64 1), (.int .i64 3), (.bool false), (.int .i64 0), (.int .i64 0), (.int .i64 0), (.int .i64 4), (.str ⟨0, 0⟩), (.int .i64 2), (.int .i64 3), (.bool false), (.int .i64 0), (.int .i64 0), (.int .i64 0), (.int .i64 5), (.str ⟨0, 0⟩), (.int .i64 (-1)), (.int .i64 3), (.bool false), (.int .i64 6), (.int .i64 9), (.int .i64 0)])),
  (4776, (.obj [(.str ⟨1, 112⟩), .nils, (.sl 10 2060 0 6), (.bool false), (.sl 13 2793 0 3), .nils, (.sl 8 4775 0 8), (.ptr 4210 0), (.ptr 1 0), (.int .u8 1), (.int .i64 50), (.int .i64 1), (.int .i64 0), (.int .i64 0), (.sl 8 4529 0 0), (.sl 1 4805 0 8), (.ptr 4778 0), (.mp 4779), (.ptr 4780 0), .nils, (.ptr 4777 0), (.ptr 4781 0), (.ptr 4818 0), (.int .i64 0), (.int .i64 1), (.int .i64 0), (.int .u64 0), (.bool false)])),
  (4777, (.obj [.nils, (.int .u32 0), .nils])),
  (4778, (.obj (List.replicate 1152 (.int .u16 0) ++ [(.int .u64 0)]))),
  (4779, (.map [] 0)),
  (4780, (.obj [(.int .u8 1), (.int .i64 1), (.int .i64 0), .nils, (.int .u8 0), .nils, (.int .u8 0), .nils, (.int .u8 0), .nils, (.int .u8 0), .nils, (.int .u8 0), .nils, (.int .u8 0), .nils, (.int .u8 0), .nils, (.int .u8 0), .nils, (.int .i64 0), (.int .i64 0)])),
  (4781, (.obj [(.int .i32 0), (.int .u32 0), (.int .u32 0), (.int .i32 0), (.int .u32 0), (.int .i64 1), .nils, (.int .i64 0), (.int .i64 0), (.int .u64 0), (.int .u64 0), (.int .u64 0)])),
  (4805, (.rowI .i64 ([0, 3] ++ List.replicate 6 0))),
  (4818, (.obj [(.ptr 1 0), (.int .i64 1), (.int .u64 0), (.int .i64 (-1)), (.int .u64 1), (.int .u64 0)]))]
theorem rMdR1 : resIs (callF Tryz.prog T0 (orX O1 eCmR1) D0 60 10 aMdR1 ⟨0, .l⟩) vMdR1 4978 mMdR1 = true := by kernel_rfl
noncomputable def eMdR1 : CallX := entX 10 aMdR1 vMdR1 4978 mMdR1
theorem tMdR1 (s : St) : Tr Tryz.prog 10 aMdR1 s fun v' s' => v' = vMdR1.ren (shN s.next) ∧ s'.next = s.next + 4978 ∧ ∀ k, s'.get k = match lookM s.next mMdR1 k with
    | some c => some c
    | none => s.get k :=
  stage_tr rMdR1 (by kernel_rfl) (by kernel_rfl) (fun v t h => callF_tr mixed (orX_ok O1_ok eCmR1_ok) D0_ok h eqS_nil) s
theorem eMdR1_ok : CallOk Tryz.prog eMdR1 := entX_ok (by kernel_rfl) tMdR1
end Go.Proofs.YtaafinlbepaboaaGreatDoor
