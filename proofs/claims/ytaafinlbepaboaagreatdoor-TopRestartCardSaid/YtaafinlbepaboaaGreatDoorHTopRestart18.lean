/- TopRestart: stages (R0). TopRestart: stages (R0). -/
import Derived.Test.YtaafinlbepaboaaGreatDoorHTopRestart16
set_option linter.unusedVariables false
set_option linter.unusedSimpArgs false
set_option autoImplicit false
set_option maxRecDepth 100000
namespace Go.Proofs.YtaafinlbepaboaaGreatDoor
open Go.Ab Go.Proofs
/- scanF: 5582 -/
def pR0scanF : List (Nat × Chunk) := sR0_3 6478 (.sy .i64 (.x 0)) (.sy .i64 (.x 1)) (.sy .u64 (.x 2)) (.sy .u64 (.x 3)) (.sy .u64 (.x 4)) (.sy .i64 (.x 5)) (.sy .u64 (.x 6)) (.sy .u64 (.x 7)) (.sy .u64 (.x 8)) (.sy .i64 (.x 9))
def qR0scanF : List (Nat × Chunk) := sR0_4 6478 (.sy .i64 (.x 0)) (.sy .i64 (.x 1)) (.sy .u64 (.x 2)) (.sy .u64 (.x 3)) (.sy .u64 (.x 4)) (.sy .i64 (.x 5)) (.sy .u64 (.x 6)) (.sy .u64 (.x 7)) (.sy .u64 (.bin .add .u64 (.x 8) (.c 1))) (.sy .i64 (.x 9))
theorem rR0scanF : resIs (preN pR0scanF .l fun m => callF Tryz.prog T0 O1 D0 60 19 [(.ptr 6449 0)] ⟨6690, m⟩) (.int .i64 1) 6894 qR0scanF = true := by kernel_rfl
theorem cR0scanF (x0 x1 x2 x3 x4 x5 x6 x7 x8 x9 : Int) : Tr Tryz.prog 19 [(.ptr 6449 0)] ⟨6690, memL (sR0_3 6478 (.int .i64 x0) (.int .i64 x1) (.int .u64 x2) (.int .u64 x3) (.int .u64 x4) (.int .i64 x5) (.int .u64 x6) (.int .u64 x7) (.int .u64 x8) (.int .i64 x9))⟩ fun v s => v = (.int .i64 1) ∧ s = ⟨6894, memL (sR0_4 6478 (.int .i64 x0) (.int .i64 x1) (.int .u64 x2) (.int .u64 x3) (.int .u64 x4) (.int .i64 x5) (.int .u64 x6) (.int .u64 x7) (.int .u64 (sop .add .u64 x8 1)) (.int .i64 x9))⟩ := by
  have h := stageG_tr (P := Tryz.prog) [x0, x1, x2, x3, x4, x5, x6, x7, x8, x9] [0, 0, 0, 0, 0, 0, 0, 0, 0, 0] rfl (stage0_tr mixed O1_ok D0_ok rR0scanF (by kernel_rfl)) (by kernel_rfl) (by kernel_rfl) (by kernel_rfl) (by kernel_rfl) (by kernel_rfl)
  have e1 : valM (ghN 0 [x0, x1, x2, x3, x4, x5, x6, x7, x8, x9]).val pR0scanF = sR0_3 6478 (.int .i64 x0) (.int .i64 x1) (.int .u64 x2) (.int .u64 x3) (.int .u64 x4) (.int .i64 x5) (.int .u64 x6) (.int .u64 x7) (.int .u64 x8) (.int .i64 x9) := by kernel_rfl
  have e2 : valM (ghN 0 [x0, x1, x2, x3, x4, x5, x6, x7, x8, x9]).val qR0scanF = sR0_4 6478 (.int .i64 x0) (.int .i64 x1) (.int .u64 x2) (.int .u64 x3) (.int .u64 x4) (.int .i64 x5) (.int .u64 x6) (.int .u64 x7) (.int .u64 (sop .add .u64 x8 1)) (.int .i64 x9) := by kernel_rfl
  have e3 : valL (ghN 0 [x0, x1, x2, x3, x4, x5, x6, x7, x8, x9]).val [(.ptr 6449 0)] = [(.ptr 6449 0)] := by kernel_rfl
  have e4 : AV.val (ghN 0 [x0, x1, x2, x3, x4, x5, x6, x7, x8, x9]).val (.int .i64 1) = (.int .i64 1) := by kernel_rfl
  rw [e1, e2, e3, e4] at h
  exact h
/- put0: 631 -/
def pR0put0 : List (Nat × Chunk) := sR0_4 6478 (.sy .i64 (.x 0)) (.sy .i64 (.x 1)) (.sy .u64 (.x 2)) (.sy .u64 (.x 3)) (.sy .u64 (.x 4)) (.sy .i64 (.x 5)) (.sy .u64 (.x 6)) (.sy .u64 (.x 7)) (.sy .u64 (.x 8)) (.sy .i64 (.x 9))
def qR0put0 : List (Nat × Chunk) := sR0_5 6478 (.sy .i64 (.x 0)) (.sy .i64 (.x 1)) (.sy .u64 (.x 2)) (.sy .u64 (.x 3)) (.sy .u64 (.x 4)) (.sy .i64 (.x 5)) (.sy .u64 (.x 6)) (.sy .u64 (.x 7)) (.sy .u64 (.x 8)) (.sy .i64 (.x 9))
theorem rR0put0 : resIs (preN pR0put0 .l fun m => callF Tryz.prog T0 O1 D0 60 20 [(.int .u8 0), (.ptr 6651 0), (.ptr 6654 0)] ⟨7391, m⟩) (.tup []) 7424 qR0put0 = true := by kernel_rfl
theorem cR0put0 (x0 x1 x2 x3 x4 x5 x6 x7 x8 x9 : Int) : Tr Tryz.prog 20 [(.int .u8 0), (.ptr 6651 0), (.ptr 6654 0)] ⟨7391, memL (sR0_4 6478 (.int .i64 x0) (.int .i64 x1) (.int .u64 x2) (.int .u64 x3) (.int .u64 x4) (.int .i64 x5) (.int .u64 x6) (.int .u64 x7) (.int .u64 x8) (.int .i64 x9))⟩ fun v s => v = (.tup []) ∧ s = ⟨7424, memL (sR0_5 6478 (.int .i64 x0) (.int .i64 x1) (.int .u64 x2) (.int .u64 x3) (.int .u64 x4) (.int .i64 x5) (.int .u64 x6) (.int .u64 x7) (.int .u64 x8) (.int .i64 x9))⟩ := by
  have h := stageG_tr (P := Tryz.prog) [x0, x1, x2, x3, x4, x5, x6, x7, x8, x9] [0, 0, 0, 0, 0, 0, 0, 0, 0, 0] rfl (stage0_tr mixed O1_ok D0_ok rR0put0 (by kernel_rfl)) (by kernel_rfl) (by kernel_rfl) (by kernel_rfl) (by kernel_rfl) (by kernel_rfl)
  have e1 : valM (ghN 0 [x0, x1, x2, x3, x4, x5, x6, x7, x8, x9]).val pR0put0 = sR0_4 6478 (.int .i64 x0) (.int .i64 x1) (.int .u64 x2) (.int .u64 x3) (.int .u64 x4) (.int .i64 x5) (.int .u64 x6) (.int .u64 x7) (.int .u64 x8) (.int .i64 x9) := by kernel_rfl
  have e2 : valM (ghN 0 [x0, x1, x2, x3, x4, x5, x6, x7, x8, x9]).val qR0put0 = sR0_5 6478 (.int .i64 x0) (.int .i64 x1) (.int .u64 x2) (.int .u64 x3) (.int .u64 x4) (.int .i64 x5) (.int .u64 x6) (.int .u64 x7) (.int .u64 x8) (.int .i64 x9) := by kernel_rfl
  have e3 : valL (ghN 0 [x0, x1, x2, x3, x4, x5, x6, x7, x8, x9]).val [(.int .u8 0), (.ptr 6651 0), (.ptr 6654 0)] = [(.int .u8 0), (.ptr 6651 0), (.ptr 6654 0)] := by kernel_rfl
  have e4 : AV.val (ghN 0 [x0, x1, x2, x3, x4, x5, x6, x7, x8, x9]).val (.tup []) = (.tup []) := by kernel_rfl
  rw [e1, e2, e3, e4] at h
  exact h
/- restart1: 187 -/
def pR0restart1 : List (Nat × Chunk) := sR0_5 6478 (.sy .i64 (.x 0)) (.sy .i64 (.x 1)) (.sy .u64 (.x 2)) (.sy .u64 (.x 3)) (.sy .u64 (.x 4)) (.sy .i64 (.x 5)) (.sy .u64 (.x 6)) (.sy .u64 (.x 7)) (.sy .u64 (.x 8)) (.sy .i64 (.x 9))
def qR0restart1 : List (Nat × Chunk) := sR0_6 6478 (.sy .i64 (.x 0)) (.int .i64 3) (.sy .u64 (.x 2)) (.sy .u64 (.x 3)) (.sy .u64 (.x 4)) (.sy .i64 (.x 5)) (.sy .u64 (.x 6)) (.sy .u64 (.x 7)) (.sy .u64 (.x 8)) (.sy .i64 (.x 9))
theorem rR0restart1 : resIs (preN pR0restart1 .l fun m => callF Tryz.prog T0 O1 D0 60 22 [(.ptr 6449 0)] ⟨7424, m⟩) (.int .i64 0) 7432 qR0restart1 = true := by kernel_rfl
theorem cR0restart1 (x0 x1 x2 x3 x4 x5 x6 x7 x8 x9 : Int) : Tr Tryz.prog 22 [(.ptr 6449 0)] ⟨7424, memL (sR0_5 6478 (.int .i64 x0) (.int .i64 x1) (.int .u64 x2) (.int .u64 x3) (.int .u64 x4) (.int .i64 x5) (.int .u64 x6) (.int .u64 x7) (.int .u64 x8) (.int .i64 x9))⟩ fun v s => v = (.int .i64 0) ∧ s = ⟨7432, memL (sR0_6 6478 (.int .i64 x0) (.int .i64 3) (.int .u64 x2) (.int .u64 x3) (.int .u64 x4) (.int .i64 x5) (.int .u64 x6) (.int .u64 x7) (.int .u64 x8) (.int .i64 x9))⟩ := by
  have h := stageG_tr (P := Tryz.prog) [x0, x1, x2, x3, x4, x5, x6, x7, x8, x9] [0, 0, 0, 0, 0, 0, 0, 0, 0, 0] rfl (stage0_tr mixed O1_ok D0_ok rR0restart1 (by kernel_rfl)) (by kernel_rfl) (by kernel_rfl) (by kernel_rfl) (by kernel_rfl) (by kernel_rfl)
  have e1 : valM (ghN 0 [x0, x1, x2, x3, x4, x5, x6, x7, x8, x9]).val pR0restart1 = sR0_5 6478 (.int .i64 x0) (.int .i64 x1) (.int .u64 x2) (.int .u64 x3) (.int .u64 x4) (.int .i64 x5) (.int .u64 x6) (.int .u64 x7) (.int .u64 x8) (.int .i64 x9) := by kernel_rfl
  have e2 : valM (ghN 0 [x0, x1, x2, x3, x4, x5, x6, x7, x8, x9]).val qR0restart1 = sR0_6 6478 (.int .i64 x0) (.int .i64 3) (.int .u64 x2) (.int .u64 x3) (.int .u64 x4) (.int .i64 x5) (.int .u64 x6) (.int .u64 x7) (.int .u64 x8) (.int .i64 x9) := by kernel_rfl
  have e3 : valL (ghN 0 [x0, x1, x2, x3, x4, x5, x6, x7, x8, x9]).val [(.ptr 6449 0)] = [(.ptr 6449 0)] := by kernel_rfl
  have e4 : AV.val (ghN 0 [x0, x1, x2, x3, x4, x5, x6, x7, x8, x9]).val (.int .i64 0) = (.int .i64 0) := by kernel_rfl
  rw [e1, e2, e3, e4] at h
  exact h
/- restart2: 9 -/
def pR0restart2 : List (Nat × Chunk) := sR0_6 6478 (.sy .i64 (.x 0)) (.sy .i64 (.x 1)) (.sy .u64 (.x 2)) (.sy .u64 (.x 3)) (.sy .u64 (.x 4)) (.sy .i64 (.x 5)) (.sy .u64 (.x 6)) (.sy .u64 (.x 7)) (.sy .u64 (.x 8)) (.sy .i64 (.x 9))
def qR0restart2 : List (Nat × Chunk) := sR0_6 6478 (.sy .i64 (.x 0)) (.sy .i64 (.x 1)) (.sy .u64 (.x 2)) (.sy .u64 (.x 3)) (.sy .u64 (.x 4)) (.sy .i64 (.x 5)) (.sy .u64 (.x 6)) (.sy .u64 (.x 7)) (.sy .u64 (.x 8)) (.sy .i64 (.x 9))
theorem rR0restart2 : resIs (preN pR0restart2 .l fun m => callF Tryz.prog T0 O1 D0 60 22 [(.ptr 6449 0)] ⟨7432, m⟩) (.int .i64 272) 7432 qR0restart2 = true := by kernel_rfl
theorem cR0restart2 (x0 x1 x2 x3 x4 x5 x6 x7 x8 x9 : Int) : Tr Tryz.prog 22 [(.ptr 6449 0)] ⟨7432, memL (sR0_6 6478 (.int .i64 x0) (.int .i64 x1) (.int .u64 x2) (.int .u64 x3) (.int .u64 x4) (.int .i64 x5) (.int .u64 x6) (.int .u64 x7) (.int .u64 x8) (.int .i64 x9))⟩ fun v s => v = (.int .i64 272) ∧ s = ⟨7432, memL (sR0_6 6478 (.int .i64 x0) (.int .i64 x1) (.int .u64 x2) (.int .u64 x3) (.int .u64 x4) (.int .i64 x5) (.int .u64 x6) (.int .u64 x7) (.int .u64 x8) (.int .i64 x9))⟩ := by
  have h := stageG_tr (P := Tryz.prog) [x0, x1, x2, x3, x4, x5, x6, x7, x8, x9] [0, 0, 0, 0, 0, 0, 0, 0, 0, 0] rfl (stage0_tr mixed O1_ok D0_ok rR0restart2 (by kernel_rfl)) (by kernel_rfl) (by kernel_rfl) (by kernel_rfl) (by kernel_rfl) (by kernel_rfl)
  have e1 : valM (ghN 0 [x0, x1, x2, x3, x4, x5, x6, x7, x8, x9]).val pR0restart2 = sR0_6 6478 (.int .i64 x0) (.int .i64 x1) (.int .u64 x2) (.int .u64 x3) (.int .u64 x4) (.int .i64 x5) (.int .u64 x6) (.int .u64 x7) (.int .u64 x8) (.int .i64 x9) := by kernel_rfl
  have e2 : valM (ghN 0 [x0, x1, x2, x3, x4, x5, x6, x7, x8, x9]).val qR0restart2 = sR0_6 6478 (.int .i64 x0) (.int .i64 x1) (.int .u64 x2) (.int .u64 x3) (.int .u64 x4) (.int .i64 x5) (.int .u64 x6) (.int .u64 x7) (.int .u64 x8) (.int .i64 x9) := by kernel_rfl
  have e3 : valL (ghN 0 [x0, x1, x2, x3, x4, x5, x6, x7, x8, x9]).val [(.ptr 6449 0)] = [(.ptr 6449 0)] := by kernel_rfl
  have e4 : AV.val (ghN 0 [x0, x1, x2, x3, x4, x5, x6, x7, x8, x9]).val (.int .i64 272) = (.int .i64 272) := by kernel_rfl
  rw [e1, e2, e3, e4] at h
  exact h
end Go.Proofs.YtaafinlbepaboaaGreatDoor
set_option linter.unusedVariables false
set_option linter.unusedSimpArgs false
set_option autoImplicit false
set_option maxRecDepth 100000
namespace Go.Proofs.YtaafinlbepaboaaGreatDoor
open Go.Ab Go.Proofs
/- cellDr: 5552 -/
def pR0cellDr : List (Nat × Chunk) := sR0_4 6478 (.sy .i64 (.x 0)) (.sy .i64 (.x 1)) (.sy .u64 (.x 2)) (.sy .u64 (.x 3)) (.sy .u64 (.x 4)) (.sy .i64 (.x 5)) (.sy .u64 (.x 6)) (.sy .u64 (.x 7)) (.sy .u64 (.x 8)) (.sy .i64 (.x 9))
def qR0cellDr : List (Nat × Chunk) := sR0_4 6478 (.sy .i64 (.x 0)) (.sy .i64 (.x 1)) (.sy .u64 (.x 2)) (.sy .u64 (.x 3)) (.sy .u64 (.x 4)) (.sy .i64 (.x 5)) (.sy .u64 (.x 6)) (.sy .u64 (.x 7)) (.sy .u64 (.x 8)) (.sy .i64 (.x 9))
theorem rR0cellDr : resIs (preN pR0cellDr .l fun m => callF Tryz.prog T0 O1 D0 60 21 [(.ptr 6449 0), (.str ⟨1, 114⟩), (.str ⟨0, 0⟩), (.int .i64 0)] ⟨6894, m⟩) (.tup [(.sy .i64 (.x 0)), (.bool true)]) 7142 qR0cellDr = true := by kernel_rfl
theorem cR0cellDr (x0 x1 x2 x3 x4 x5 x6 x7 x8 x9 : Int) : Tr Tryz.prog 21 [(.ptr 6449 0), (.str ⟨1, 114⟩), (.str ⟨0, 0⟩), (.int .i64 0)] ⟨6894, memL (sR0_4 6478 (.int .i64 x0) (.int .i64 x1) (.int .u64 x2) (.int .u64 x3) (.int .u64 x4) (.int .i64 x5) (.int .u64 x6) (.int .u64 x7) (.int .u64 x8) (.int .i64 x9))⟩ fun v s => v = (.tup [(.int .i64 x0), (.bool true)]) ∧ s = ⟨7142, memL (sR0_4 6478 (.int .i64 x0) (.int .i64 x1) (.int .u64 x2) (.int .u64 x3) (.int .u64 x4) (.int .i64 x5) (.int .u64 x6) (.int .u64 x7) (.int .u64 x8) (.int .i64 x9))⟩ := by
  have h := stageG_tr (P := Tryz.prog) [x0, x1, x2, x3, x4, x5, x6, x7, x8, x9] [0, 0, 0, 0, 0, 0, 0, 0, 0, 0] rfl (stage0_tr mixed O1_ok D0_ok rR0cellDr (by kernel_rfl)) (by kernel_rfl) (by kernel_rfl) (by kernel_rfl) (by kernel_rfl) (by kernel_rfl)
  have e1 : valM (ghN 0 [x0, x1, x2, x3, x4, x5, x6, x7, x8, x9]).val pR0cellDr = sR0_4 6478 (.int .i64 x0) (.int .i64 x1) (.int .u64 x2) (.int .u64 x3) (.int .u64 x4) (.int .i64 x5) (.int .u64 x6) (.int .u64 x7) (.int .u64 x8) (.int .i64 x9) := by kernel_rfl
  have e2 : valM (ghN 0 [x0, x1, x2, x3, x4, x5, x6, x7, x8, x9]).val qR0cellDr = sR0_4 6478 (.int .i64 x0) (.int .i64 x1) (.int .u64 x2) (.int .u64 x3) (.int .u64 x4) (.int .i64 x5) (.int .u64 x6) (.int .u64 x7) (.int .u64 x8) (.int .i64 x9) := by kernel_rfl
  have e3 : valL (ghN 0 [x0, x1, x2, x3, x4, x5, x6, x7, x8, x9]).val [(.ptr 6449 0), (.str ⟨1, 114⟩), (.str ⟨0, 0⟩), (.int .i64 0)] = [(.ptr 6449 0), (.str ⟨1, 114⟩), (.str ⟨0, 0⟩), (.int .i64 0)] := by kernel_rfl
  have e4 : AV.val (ghN 0 [x0, x1, x2, x3, x4, x5, x6, x7, x8, x9]).val (.tup [(.sy .i64 (.x 0)), (.bool true)]) = (.tup [(.int .i64 x0), (.bool true)]) := by kernel_rfl
  rw [e1, e2, e3, e4] at h
  exact h
/- cellDn: 5574 -/
def pR0cellDn : List (Nat × Chunk) := sR0_4 6478 (.sy .i64 (.x 0)) (.sy .i64 (.x 1)) (.sy .u64 (.x 2)) (.sy .u64 (.x 3)) (.sy .u64 (.x 4)) (.sy .i64 (.x 5)) (.sy .u64 (.x 6)) (.sy .u64 (.x 7)) (.sy .u64 (.x 8)) (.sy .i64 (.x 9))
def qR0cellDn : List (Nat × Chunk) := sR0_4 6478 (.sy .i64 (.x 0)) (.sy .i64 (.x 1)) (.sy .u64 (.x 2)) (.sy .u64 (.x 3)) (.sy .u64 (.x 4)) (.sy .i64 (.x 5)) (.sy .u64 (.x 6)) (.sy .u64 (.x 7)) (.sy .u64 (.x 8)) (.sy .i64 (.x 9))
theorem rR0cellDn : resIs (preN pR0cellDn .l fun m => callF Tryz.prog T0 O1 D0 60 21 [(.ptr 6449 0), (.str ⟨1, 110⟩), (.str ⟨0, 0⟩), (.int .i64 0)] ⟨7142, m⟩) (.tup [(.sy .i64 (.x 1)), (.bool true)]) 7391 qR0cellDn = true := by kernel_rfl
theorem cR0cellDn (x0 x1 x2 x3 x4 x5 x6 x7 x8 x9 : Int) : Tr Tryz.prog 21 [(.ptr 6449 0), (.str ⟨1, 110⟩), (.str ⟨0, 0⟩), (.int .i64 0)] ⟨7142, memL (sR0_4 6478 (.int .i64 x0) (.int .i64 x1) (.int .u64 x2) (.int .u64 x3) (.int .u64 x4) (.int .i64 x5) (.int .u64 x6) (.int .u64 x7) (.int .u64 x8) (.int .i64 x9))⟩ fun v s => v = (.tup [(.int .i64 x1), (.bool true)]) ∧ s = ⟨7391, memL (sR0_4 6478 (.int .i64 x0) (.int .i64 x1) (.int .u64 x2) (.int .u64 x3) (.int .u64 x4) (.int .i64 x5) (.int .u64 x6) (.int .u64 x7) (.int .u64 x8) (.int .i64 x9))⟩ := by
  have h := stageG_tr (P := Tryz.prog) [x0, x1, x2, x3, x4, x5, x6, x7, x8, x9] [0, 0, 0, 0, 0, 0, 0, 0, 0, 0] rfl (stage0_tr mixed O1_ok D0_ok rR0cellDn (by kernel_rfl)) (by kernel_rfl) (by kernel_rfl) (by kernel_rfl) (by kernel_rfl) (by kernel_rfl)
  have e1 : valM (ghN 0 [x0, x1, x2, x3, x4, x5, x6, x7, x8, x9]).val pR0cellDn = sR0_4 6478 (.int .i64 x0) (.int .i64 x1) (.int .u64 x2) (.int .u64 x3) (.int .u64 x4) (.int .i64 x5) (.int .u64 x6) (.int .u64 x7) (.int .u64 x8) (.int .i64 x9) := by kernel_rfl
  have e2 : valM (ghN 0 [x0, x1, x2, x3, x4, x5, x6, x7, x8, x9]).val qR0cellDn = sR0_4 6478 (.int .i64 x0) (.int .i64 x1) (.int .u64 x2) (.int .u64 x3) (.int .u64 x4) (.int .i64 x5) (.int .u64 x6) (.int .u64 x7) (.int .u64 x8) (.int .i64 x9) := by kernel_rfl
  have e3 : valL (ghN 0 [x0, x1, x2, x3, x4, x5, x6, x7, x8, x9]).val [(.ptr 6449 0), (.str ⟨1, 110⟩), (.str ⟨0, 0⟩), (.int .i64 0)] = [(.ptr 6449 0), (.str ⟨1, 110⟩), (.str ⟨0, 0⟩), (.int .i64 0)] := by kernel_rfl
  have e4 : AV.val (ghN 0 [x0, x1, x2, x3, x4, x5, x6, x7, x8, x9]).val (.tup [(.sy .i64 (.x 1)), (.bool true)]) = (.tup [(.int .i64 x1), (.bool true)]) := by kernel_rfl
  rw [e1, e2, e3, e4] at h
  exact h
/- cellFr: 5552 -/
def pR0cellFr : List (Nat × Chunk) := sR0_6 6478 (.sy .i64 (.x 0)) (.sy .i64 (.x 1)) (.sy .u64 (.x 2)) (.sy .u64 (.x 3)) (.sy .u64 (.x 4)) (.sy .i64 (.x 5)) (.sy .u64 (.x 6)) (.sy .u64 (.x 7)) (.sy .u64 (.x 8)) (.sy .i64 (.x 9))
def qR0cellFr : List (Nat × Chunk) := sR0_6 6478 (.sy .i64 (.x 0)) (.sy .i64 (.x 1)) (.sy .u64 (.x 2)) (.sy .u64 (.x 3)) (.sy .u64 (.x 4)) (.sy .i64 (.x 5)) (.sy .u64 (.x 6)) (.sy .u64 (.x 7)) (.sy .u64 (.x 8)) (.sy .i64 (.x 9))
theorem rR0cellFr : resIs (preN pR0cellFr .l fun m => callF Tryz.prog T0 O1 D0 60 21 [(.ptr 6449 0), (.str ⟨1, 114⟩), (.str ⟨0, 0⟩), (.int .i64 0)] ⟨7432, m⟩) (.tup [(.sy .i64 (.x 0)), (.bool true)]) 7680 qR0cellFr = true := by kernel_rfl
theorem cR0cellFr (x0 x1 x2 x3 x4 x5 x6 x7 x8 x9 : Int) : Tr Tryz.prog 21 [(.ptr 6449 0), (.str ⟨1, 114⟩), (.str ⟨0, 0⟩), (.int .i64 0)] ⟨7432, memL (sR0_6 6478 (.int .i64 x0) (.int .i64 x1) (.int .u64 x2) (.int .u64 x3) (.int .u64 x4) (.int .i64 x5) (.int .u64 x6) (.int .u64 x7) (.int .u64 x8) (.int .i64 x9))⟩ fun v s => v = (.tup [(.int .i64 x0), (.bool true)]) ∧ s = ⟨7680, memL (sR0_6 6478 (.int .i64 x0) (.int .i64 x1) (.int .u64 x2) (.int .u64 x3) (.int .u64 x4) (.int .i64 x5) (.int .u64 x6) (.int .u64 x7) (.int .u64 x8) (.int .i64 x9))⟩ := by
  have h := stageG_tr (P := Tryz.prog) [x0, x1, x2, x3, x4, x5, x6, x7, x8, x9] [0, 0, 0, 0, 0, 0, 0, 0, 0, 0] rfl (stage0_tr mixed O1_ok D0_ok rR0cellFr (by kernel_rfl)) (by kernel_rfl) (by kernel_rfl) (by kernel_rfl) (by kernel_rfl) (by kernel_rfl)
  have e1 : valM (ghN 0 [x0, x1, x2, x3, x4, x5, x6, x7, x8, x9]).val pR0cellFr = sR0_6 6478 (.int .i64 x0) (.int .i64 x1) (.int .u64 x2) (.int .u64 x3) (.int .u64 x4) (.int .i64 x5) (.int .u64 x6) (.int .u64 x7) (.int .u64 x8) (.int .i64 x9) := by kernel_rfl
  have e2 : valM (ghN 0 [x0, x1, x2, x3, x4, x5, x6, x7, x8, x9]).val qR0cellFr = sR0_6 6478 (.int .i64 x0) (.int .i64 x1) (.int .u64 x2) (.int .u64 x3) (.int .u64 x4) (.int .i64 x5) (.int .u64 x6) (.int .u64 x7) (.int .u64 x8) (.int .i64 x9) := by kernel_rfl
  have e3 : valL (ghN 0 [x0, x1, x2, x3, x4, x5, x6, x7, x8, x9]).val [(.ptr 6449 0), (.str ⟨1, 114⟩), (.str ⟨0, 0⟩), (.int .i64 0)] = [(.ptr 6449 0), (.str ⟨1, 114⟩), (.str ⟨0, 0⟩), (.int .i64 0)] := by kernel_rfl
  have e4 : AV.val (ghN 0 [x0, x1, x2, x3, x4, x5, x6, x7, x8, x9]).val (.tup [(.sy .i64 (.x 0)), (.bool true)]) = (.tup [(.int .i64 x0), (.bool true)]) := by kernel_rfl
  rw [e1, e2, e3, e4] at h
  exact h
/- cellFn: 5574 -/
def pR0cellFn : List (Nat × Chunk) := sR0_6 6478 (.sy .i64 (.x 0)) (.sy .i64 (.x 1)) (.sy .u64 (.x 2)) (.sy .u64 (.x 3)) (.sy .u64 (.x 4)) (.sy .i64 (.x 5)) (.sy .u64 (.x 6)) (.sy .u64 (.x 7)) (.sy .u64 (.x 8)) (.sy .i64 (.x 9))
def qR0cellFn : List (Nat × Chunk) := sR0_6 6478 (.sy .i64 (.x 0)) (.sy .i64 (.x 1)) (.sy .u64 (.x 2)) (.sy .u64 (.x 3)) (.sy .u64 (.x 4)) (.sy .i64 (.x 5)) (.sy .u64 (.x 6)) (.sy .u64 (.x 7)) (.sy .u64 (.x 8)) (.sy .i64 (.x 9))
theorem rR0cellFn : resIs (preN pR0cellFn .l fun m => callF Tryz.prog T0 O1 D0 60 21 [(.ptr 6449 0), (.str ⟨1, 110⟩), (.str ⟨0, 0⟩), (.int .i64 0)] ⟨7680, m⟩) (.tup [(.sy .i64 (.x 1)), (.bool true)]) 7929 qR0cellFn = true := by kernel_rfl
theorem cR0cellFn (x0 x1 x2 x3 x4 x5 x6 x7 x8 x9 : Int) : Tr Tryz.prog 21 [(.ptr 6449 0), (.str ⟨1, 110⟩), (.str ⟨0, 0⟩), (.int .i64 0)] ⟨7680, memL (sR0_6 6478 (.int .i64 x0) (.int .i64 x1) (.int .u64 x2) (.int .u64 x3) (.int .u64 x4) (.int .i64 x5) (.int .u64 x6) (.int .u64 x7) (.int .u64 x8) (.int .i64 x9))⟩ fun v s => v = (.tup [(.int .i64 x1), (.bool true)]) ∧ s = ⟨7929, memL (sR0_6 6478 (.int .i64 x0) (.int .i64 x1) (.int .u64 x2) (.int .u64 x3) (.int .u64 x4) (.int .i64 x5) (.int .u64 x6) (.int .u64 x7) (.int .u64 x8) (.int .i64 x9))⟩ := by
  have h := stageG_tr (P := Tryz.prog) [x0, x1, x2, x3, x4, x5, x6, x7, x8, x9] [0, 0, 0, 0, 0, 0, 0, 0, 0, 0] rfl (stage0_tr mixed O1_ok D0_ok rR0cellFn (by kernel_rfl)) (by kernel_rfl) (by kernel_rfl) (by kernel_rfl) (by kernel_rfl) (by kernel_rfl)
  have e1 : valM (ghN 0 [x0, x1, x2, x3, x4, x5, x6, x7, x8, x9]).val pR0cellFn = sR0_6 6478 (.int .i64 x0) (.int .i64 x1) (.int .u64 x2) (.int .u64 x3) (.int .u64 x4) (.int .i64 x5) (.int .u64 x6) (.int .u64 x7) (.int .u64 x8) (.int .i64 x9) := by kernel_rfl
  have e2 : valM (ghN 0 [x0, x1, x2, x3, x4, x5, x6, x7, x8, x9]).val qR0cellFn = sR0_6 6478 (.int .i64 x0) (.int .i64 x1) (.int .u64 x2) (.int .u64 x3) (.int .u64 x4) (.int .i64 x5) (.int .u64 x6) (.int .u64 x7) (.int .u64 x8) (.int .i64 x9) := by kernel_rfl
  have e3 : valL (ghN 0 [x0, x1, x2, x3, x4, x5, x6, x7, x8, x9]).val [(.ptr 6449 0), (.str ⟨1, 110⟩), (.str ⟨0, 0⟩), (.int .i64 0)] = [(.ptr 6449 0), (.str ⟨1, 110⟩), (.str ⟨0, 0⟩), (.int .i64 0)] := by kernel_rfl
  have e4 : AV.val (ghN 0 [x0, x1, x2, x3, x4, x5, x6, x7, x8, x9]).val (.tup [(.sy .i64 (.x 1)), (.bool true)]) = (.tup [(.int .i64 x1), (.bool true)]) := by kernel_rfl
  rw [e1, e2, e3, e4] at h
  exact h
end Go.Proofs.YtaafinlbepaboaaGreatDoor
