/- TopRestart: stages (R1). TopRestart: stages (R1). -/
import Derived.Test.YtaafinlbepaboaaGreatDoorHTopRestart22
set_option linter.unusedVariables false
set_option linter.unusedSimpArgs false
set_option autoImplicit false
set_option maxRecDepth 100000
namespace Go.Proofs.YtaafinlbepaboaaGreatDoor
open Go.Ab Go.Proofs
/- scanF: 5758 -/
def pR1scanF : List (Nat × Chunk) := sR1_3 6661 (.sy .i64 (.x 0)) (.sy .i64 (.x 1)) (.sy .u64 (.x 2)) (.sy .u64 (.x 3)) (.sy .u64 (.x 4)) (.sy .i64 (.x 5)) (.sy .u64 (.x 6)) (.sy .u64 (.x 7)) (.sy .u64 (.x 8)) (.sy .i64 (.x 9))
def qR1scanF : List (Nat × Chunk) := sR1_4 6661 (.sy .i64 (.x 0)) (.sy .i64 (.x 1)) (.sy .u64 (.x 2)) (.sy .u64 (.x 3)) (.sy .u64 (.x 4)) (.sy .i64 (.x 5)) (.sy .u64 (.x 6)) (.sy .u64 (.x 7)) (.sy .u64 (.bin .add .u64 (.x 8) (.c 1))) (.sy .i64 (.x 9))
theorem rR1scanF : resIs (preN pR1scanF .l fun m => callF Tryz.prog T0 O1 D0 60 19 [(.ptr 6632 0)] ⟨6873, m⟩) (.int .i64 2) 7083 qR1scanF = true := by kernel_rfl
theorem cR1scanF (x0 x1 x2 x3 x4 x5 x6 x7 x8 x9 : Int) : Tr Tryz.prog 19 [(.ptr 6632 0)] ⟨6873, memL (sR1_3 6661 (.int .i64 x0) (.int .i64 x1) (.int .u64 x2) (.int .u64 x3) (.int .u64 x4) (.int .i64 x5) (.int .u64 x6) (.int .u64 x7) (.int .u64 x8) (.int .i64 x9))⟩ fun v s => v = (.int .i64 2) ∧ s = ⟨7083, memL (sR1_4 6661 (.int .i64 x0) (.int .i64 x1) (.int .u64 x2) (.int .u64 x3) (.int .u64 x4) (.int .i64 x5) (.int .u64 x6) (.int .u64 x7) (.int .u64 (sop .add .u64 x8 1)) (.int .i64 x9))⟩ := by
  have h := stageG_tr (P := Tryz.prog) [x0, x1, x2, x3, x4, x5, x6, x7, x8, x9] [0, 0, 0, 0, 0, 0, 0, 0, 0, 0] rfl (stage0_tr mixed O1_ok D0_ok rR1scanF (by kernel_rfl)) (by kernel_rfl) (by kernel_rfl) (by kernel_rfl) (by kernel_rfl) (by kernel_rfl)
  have e1 : valM (ghN 0 [x0, x1, x2, x3, x4, x5, x6, x7, x8, x9]).val pR1scanF = sR1_3 6661 (.int .i64 x0) (.int .i64 x1) (.int .u64 x2) (.int .u64 x3) (.int .u64 x4) (.int .i64 x5) (.int .u64 x6) (.int .u64 x7) (.int .u64 x8) (.int .i64 x9) := by kernel_rfl
  have e2 : valM (ghN 0 [x0, x1, x2, x3, x4, x5, x6, x7, x8, x9]).val qR1scanF = sR1_4 6661 (.int .i64 x0) (.int .i64 x1) (.int .u64 x2) (.int .u64 x3) (.int .u64 x4) (.int .i64 x5) (.int .u64 x6) (.int .u64 x7) (.int .u64 (sop .add .u64 x8 1)) (.int .i64 x9) := by kernel_rfl
  have e3 : valL (ghN 0 [x0, x1, x2, x3, x4, x5, x6, x7, x8, x9]).val [(.ptr 6632 0)] = [(.ptr 6632 0)] := by kernel_rfl
  have e4 : AV.val (ghN 0 [x0, x1, x2, x3, x4, x5, x6, x7, x8, x9]).val (.int .i64 2) = (.int .i64 2) := by kernel_rfl
  rw [e1, e2, e3, e4] at h
  exact h
/- put0: 631 -/
def pR1put0 : List (Nat × Chunk) := sR1_4 6661 (.sy .i64 (.x 0)) (.sy .i64 (.x 1)) (.sy .u64 (.x 2)) (.sy .u64 (.x 3)) (.sy .u64 (.x 4)) (.sy .i64 (.x 5)) (.sy .u64 (.x 6)) (.sy .u64 (.x 7)) (.sy .u64 (.x 8)) (.sy .i64 (.x 9))
def qR1put0 : List (Nat × Chunk) := sR1_5 6661 (.sy .i64 (.x 0)) (.sy .i64 (.x 1)) (.sy .u64 (.x 2)) (.sy .u64 (.x 3)) (.sy .u64 (.x 4)) (.sy .i64 (.x 5)) (.sy .u64 (.x 6)) (.sy .u64 (.x 7)) (.sy .u64 (.x 8)) (.sy .i64 (.x 9))
theorem rR1put0 : resIs (preN pR1put0 .l fun m => callF Tryz.prog T0 O1 D0 60 20 [(.int .u8 0), (.ptr 6834 0), (.ptr 6837 0)] ⟨7580, m⟩) (.tup []) 7613 qR1put0 = true := by kernel_rfl
theorem cR1put0 (x0 x1 x2 x3 x4 x5 x6 x7 x8 x9 : Int) : Tr Tryz.prog 20 [(.int .u8 0), (.ptr 6834 0), (.ptr 6837 0)] ⟨7580, memL (sR1_4 6661 (.int .i64 x0) (.int .i64 x1) (.int .u64 x2) (.int .u64 x3) (.int .u64 x4) (.int .i64 x5) (.int .u64 x6) (.int .u64 x7) (.int .u64 x8) (.int .i64 x9))⟩ fun v s => v = (.tup []) ∧ s = ⟨7613, memL (sR1_5 6661 (.int .i64 x0) (.int .i64 x1) (.int .u64 x2) (.int .u64 x3) (.int .u64 x4) (.int .i64 x5) (.int .u64 x6) (.int .u64 x7) (.int .u64 x8) (.int .i64 x9))⟩ := by
  have h := stageG_tr (P := Tryz.prog) [x0, x1, x2, x3, x4, x5, x6, x7, x8, x9] [0, 0, 0, 0, 0, 0, 0, 0, 0, 0] rfl (stage0_tr mixed O1_ok D0_ok rR1put0 (by kernel_rfl)) (by kernel_rfl) (by kernel_rfl) (by kernel_rfl) (by kernel_rfl) (by kernel_rfl)
  have e1 : valM (ghN 0 [x0, x1, x2, x3, x4, x5, x6, x7, x8, x9]).val pR1put0 = sR1_4 6661 (.int .i64 x0) (.int .i64 x1) (.int .u64 x2) (.int .u64 x3) (.int .u64 x4) (.int .i64 x5) (.int .u64 x6) (.int .u64 x7) (.int .u64 x8) (.int .i64 x9) := by kernel_rfl
  have e2 : valM (ghN 0 [x0, x1, x2, x3, x4, x5, x6, x7, x8, x9]).val qR1put0 = sR1_5 6661 (.int .i64 x0) (.int .i64 x1) (.int .u64 x2) (.int .u64 x3) (.int .u64 x4) (.int .i64 x5) (.int .u64 x6) (.int .u64 x7) (.int .u64 x8) (.int .i64 x9) := by kernel_rfl
  have e3 : valL (ghN 0 [x0, x1, x2, x3, x4, x5, x6, x7, x8, x9]).val [(.int .u8 0), (.ptr 6834 0), (.ptr 6837 0)] = [(.int .u8 0), (.ptr 6834 0), (.ptr 6837 0)] := by kernel_rfl
  have e4 : AV.val (ghN 0 [x0, x1, x2, x3, x4, x5, x6, x7, x8, x9]).val (.tup []) = (.tup []) := by kernel_rfl
  rw [e1, e2, e3, e4] at h
  exact h
/- restart1: 187 -/
def pR1restart1 : List (Nat × Chunk) := sR1_5 6661 (.sy .i64 (.x 0)) (.sy .i64 (.x 1)) (.sy .u64 (.x 2)) (.sy .u64 (.x 3)) (.sy .u64 (.x 4)) (.sy .i64 (.x 5)) (.sy .u64 (.x 6)) (.sy .u64 (.x 7)) (.sy .u64 (.x 8)) (.sy .i64 (.x 9))
def qR1restart1 : List (Nat × Chunk) := sR1_6 6661 (.sy .i64 (.x 0)) (.int .i64 3) (.sy .u64 (.x 2)) (.sy .u64 (.x 3)) (.sy .u64 (.x 4)) (.sy .i64 (.x 5)) (.sy .u64 (.x 6)) (.sy .u64 (.x 7)) (.sy .u64 (.x 8)) (.sy .i64 (.x 9))
theorem rR1restart1 : resIs (preN pR1restart1 .l fun m => callF Tryz.prog T0 O1 D0 60 22 [(.ptr 6632 0)] ⟨7613, m⟩) (.int .i64 0) 7621 qR1restart1 = true := by kernel_rfl
theorem cR1restart1 (x0 x1 x2 x3 x4 x5 x6 x7 x8 x9 : Int) : Tr Tryz.prog 22 [(.ptr 6632 0)] ⟨7613, memL (sR1_5 6661 (.int .i64 x0) (.int .i64 x1) (.int .u64 x2) (.int .u64 x3) (.int .u64 x4) (.int .i64 x5) (.int .u64 x6) (.int .u64 x7) (.int .u64 x8) (.int .i64 x9))⟩ fun v s => v = (.int .i64 0) ∧ s = ⟨7621, memL (sR1_6 6661 (.int .i64 x0) (.int .i64 3) (.int .u64 x2) (.int .u64 x3) (.int .u64 x4) (.int .i64 x5) (.int .u64 x6) (.int .u64 x7) (.int .u64 x8) (.int .i64 x9))⟩ := by
  have h := stageG_tr (P := Tryz.prog) [x0, x1, x2, x3, x4, x5, x6, x7, x8, x9] [0, 0, 0, 0, 0, 0, 0, 0, 0, 0] rfl (stage0_tr mixed O1_ok D0_ok rR1restart1 (by kernel_rfl)) (by kernel_rfl) (by kernel_rfl) (by kernel_rfl) (by kernel_rfl) (by kernel_rfl)
  have e1 : valM (ghN 0 [x0, x1, x2, x3, x4, x5, x6, x7, x8, x9]).val pR1restart1 = sR1_5 6661 (.int .i64 x0) (.int .i64 x1) (.int .u64 x2) (.int .u64 x3) (.int .u64 x4) (.int .i64 x5) (.int .u64 x6) (.int .u64 x7) (.int .u64 x8) (.int .i64 x9) := by kernel_rfl
  have e2 : valM (ghN 0 [x0, x1, x2, x3, x4, x5, x6, x7, x8, x9]).val qR1restart1 = sR1_6 6661 (.int .i64 x0) (.int .i64 3) (.int .u64 x2) (.int .u64 x3) (.int .u64 x4) (.int .i64 x5) (.int .u64 x6) (.int .u64 x7) (.int .u64 x8) (.int .i64 x9) := by kernel_rfl
  have e3 : valL (ghN 0 [x0, x1, x2, x3, x4, x5, x6, x7, x8, x9]).val [(.ptr 6632 0)] = [(.ptr 6632 0)] := by kernel_rfl
  have e4 : AV.val (ghN 0 [x0, x1, x2, x3, x4, x5, x6, x7, x8, x9]).val (.int .i64 0) = (.int .i64 0) := by kernel_rfl
  rw [e1, e2, e3, e4] at h
  exact h
/- restart2: 9 -/
def pR1restart2 : List (Nat × Chunk) := sR1_6 6661 (.sy .i64 (.x 0)) (.sy .i64 (.x 1)) (.sy .u64 (.x 2)) (.sy .u64 (.x 3)) (.sy .u64 (.x 4)) (.sy .i64 (.x 5)) (.sy .u64 (.x 6)) (.sy .u64 (.x 7)) (.sy .u64 (.x 8)) (.sy .i64 (.x 9))
def qR1restart2 : List (Nat × Chunk) := sR1_6 6661 (.sy .i64 (.x 0)) (.sy .i64 (.x 1)) (.sy .u64 (.x 2)) (.sy .u64 (.x 3)) (.sy .u64 (.x 4)) (.sy .i64 (.x 5)) (.sy .u64 (.x 6)) (.sy .u64 (.x 7)) (.sy .u64 (.x 8)) (.sy .i64 (.x 9))
theorem rR1restart2 : resIs (preN pR1restart2 .l fun m => callF Tryz.prog T0 O1 D0 60 22 [(.ptr 6632 0)] ⟨7621, m⟩) (.int .i64 272) 7621 qR1restart2 = true := by kernel_rfl
theorem cR1restart2 (x0 x1 x2 x3 x4 x5 x6 x7 x8 x9 : Int) : Tr Tryz.prog 22 [(.ptr 6632 0)] ⟨7621, memL (sR1_6 6661 (.int .i64 x0) (.int .i64 x1) (.int .u64 x2) (.int .u64 x3) (.int .u64 x4) (.int .i64 x5) (.int .u64 x6) (.int .u64 x7) (.int .u64 x8) (.int .i64 x9))⟩ fun v s => v = (.int .i64 272) ∧ s = ⟨7621, memL (sR1_6 6661 (.int .i64 x0) (.int .i64 x1) (.int .u64 x2) (.int .u64 x3) (.int .u64 x4) (.int .i64 x5) (.int .u64 x6) (.int .u64 x7) (.int .u64 x8) (.int .i64 x9))⟩ := by
  have h := stageG_tr (P := Tryz.prog) [x0, x1, x2, x3, x4, x5, x6, x7, x8, x9] [0, 0, 0, 0, 0, 0, 0, 0, 0, 0] rfl (stage0_tr mixed O1_ok D0_ok rR1restart2 (by kernel_rfl)) (by kernel_rfl) (by kernel_rfl) (by kernel_rfl) (by kernel_rfl) (by kernel_rfl)
  have e1 : valM (ghN 0 [x0, x1, x2, x3, x4, x5, x6, x7, x8, x9]).val pR1restart2 = sR1_6 6661 (.int .i64 x0) (.int .i64 x1) (.int .u64 x2) (.int .u64 x3) (.int .u64 x4) (.int .i64 x5) (.int .u64 x6) (.int .u64 x7) (.int .u64 x8) (.int .i64 x9) := by kernel_rfl
  have e2 : valM (ghN 0 [x0, x1, x2, x3, x4, x5, x6, x7, x8, x9]).val qR1restart2 = sR1_6 6661 (.int .i64 x0) (.int .i64 x1) (.int .u64 x2) (.int .u64 x3) (.int .u64 x4) (.int .i64 x5) (.int .u64 x6) (.int .u64 x7) (.int .u64 x8) (.int .i64 x9) := by kernel_rfl
  have e3 : valL (ghN 0 [x0, x1, x2, x3, x4, x5, x6, x7, x8, x9]).val [(.ptr 6632 0)] = [(.ptr 6632 0)] := by kernel_rfl
  have e4 : AV.val (ghN 0 [x0, x1, x2, x3, x4, x5, x6, x7, x8, x9]).val (.int .i64 272) = (.int .i64 272) := by kernel_rfl
  rw [e1, e2, e3, e4] at h
  exact h
end Go.Proofs.YtaafinlbepaboaaGreatDoor
set_option linter.unusedVariables false
set_option linter.unusedSimpArgs false
set_option autoImplicit false
set_option maxRecDepth 100000
namespace Go.Proofs.YtaafinlbepaboaaGreatDoor
open Go.Ab Go.Proofs
/- cellDr: 5552 -/
def pR1cellDr : List (Nat × Chunk) := sR1_4 6661 (.sy .i64 (.x 0)) (.sy .i64 (.x 1)) (.sy .u64 (.x 2)) (.sy .u64 (.x 3)) (.sy .u64 (.x 4)) (.sy .i64 (.x 5)) (.sy .u64 (.x 6)) (.sy .u64 (.x 7)) (.sy .u64 (.x 8)) (.sy .i64 (.x 9))
def qR1cellDr : List (Nat × Chunk) := sR1_4 6661 (.sy .i64 (.x 0)) (.sy .i64 (.x 1)) (.sy .u64 (.x 2)) (.sy .u64 (.x 3)) (.sy .u64 (.x 4)) (.sy .i64 (.x 5)) (.sy .u64 (.x 6)) (.sy .u64 (.x 7)) (.sy .u64 (.x 8)) (.sy .i64 (.x 9))
theorem rR1cellDr : resIs (preN pR1cellDr .l fun m => callF Tryz.prog T0 O1 D0 60 21 [(.ptr 6632 0), (.str ⟨1, 114⟩), (.str ⟨0, 0⟩), (.int .i64 0)] ⟨7083, m⟩) (.tup [(.sy .i64 (.x 0)), (.bool true)]) 7331 qR1cellDr = true := by kernel_rfl
theorem cR1cellDr (x0 x1 x2 x3 x4 x5 x6 x7 x8 x9 : Int) : Tr Tryz.prog 21 [(.ptr 6632 0), (.str ⟨1, 114⟩), (.str ⟨0, 0⟩), (.int .i64 0)] ⟨7083, memL (sR1_4 6661 (.int .i64 x0) (.int .i64 x1) (.int .u64 x2) (.int .u64 x3) (.int .u64 x4) (.int .i64 x5) (.int .u64 x6) (.int .u64 x7) (.int .u64 x8) (.int .i64 x9))⟩ fun v s => v = (.tup [(.int .i64 x0), (.bool true)]) ∧ s = ⟨7331, memL (sR1_4 6661 (.int .i64 x0) (.int .i64 x1) (.int .u64 x2) (.int .u64 x3) (.int .u64 x4) (.int .i64 x5) (.int .u64 x6) (.int .u64 x7) (.int .u64 x8) (.int .i64 x9))⟩ := by
  have h := stageG_tr (P := Tryz.prog) [x0, x1, x2, x3, x4, x5, x6, x7, x8, x9] [0, 0, 0, 0, 0, 0, 0, 0, 0, 0] rfl (stage0_tr mixed O1_ok D0_ok rR1cellDr (by kernel_rfl)) (by kernel_rfl) (by kernel_rfl) (by kernel_rfl) (by kernel_rfl) (by kernel_rfl)
  have e1 : valM (ghN 0 [x0, x1, x2, x3, x4, x5, x6, x7, x8, x9]).val pR1cellDr = sR1_4 6661 (.int .i64 x0) (.int .i64 x1) (.int .u64 x2) (.int .u64 x3) (.int .u64 x4) (.int .i64 x5) (.int .u64 x6) (.int .u64 x7) (.int .u64 x8) (.int .i64 x9) := by kernel_rfl
  have e2 : valM (ghN 0 [x0, x1, x2, x3, x4, x5, x6, x7, x8, x9]).val qR1cellDr = sR1_4 6661 (.int .i64 x0) (.int .i64 x1) (.int .u64 x2) (.int .u64 x3) (.int .u64 x4) (.int .i64 x5) (.int .u64 x6) (.int .u64 x7) (.int .u64 x8) (.int .i64 x9) := by kernel_rfl
  have e3 : valL (ghN 0 [x0, x1, x2, x3, x4, x5, x6, x7, x8, x9]).val [(.ptr 6632 0), (.str ⟨1, 114⟩), (.str ⟨0, 0⟩), (.int .i64 0)] = [(.ptr 6632 0), (.str ⟨1, 114⟩), (.str ⟨0, 0⟩), (.int .i64 0)] := by kernel_rfl
  have e4 : AV.val (ghN 0 [x0, x1, x2, x3, x4, x5, x6, x7, x8, x9]).val (.tup [(.sy .i64 (.x 0)), (.bool true)]) = (.tup [(.int .i64 x0), (.bool true)]) := by kernel_rfl
  rw [e1, e2, e3, e4] at h
  exact h
/- cellDn: 5574 -/
def pR1cellDn : List (Nat × Chunk) := sR1_4 6661 (.sy .i64 (.x 0)) (.sy .i64 (.x 1)) (.sy .u64 (.x 2)) (.sy .u64 (.x 3)) (.sy .u64 (.x 4)) (.sy .i64 (.x 5)) (.sy .u64 (.x 6)) (.sy .u64 (.x 7)) (.sy .u64 (.x 8)) (.sy .i64 (.x 9))
def qR1cellDn : List (Nat × Chunk) := sR1_4 6661 (.sy .i64 (.x 0)) (.sy .i64 (.x 1)) (.sy .u64 (.x 2)) (.sy .u64 (.x 3)) (.sy .u64 (.x 4)) (.sy .i64 (.x 5)) (.sy .u64 (.x 6)) (.sy .u64 (.x 7)) (.sy .u64 (.x 8)) (.sy .i64 (.x 9))
theorem rR1cellDn : resIs (preN pR1cellDn .l fun m => callF Tryz.prog T0 O1 D0 60 21 [(.ptr 6632 0), (.str ⟨1, 110⟩), (.str ⟨0, 0⟩), (.int .i64 0)] ⟨7331, m⟩) (.tup [(.sy .i64 (.x 1)), (.bool true)]) 7580 qR1cellDn = true := by kernel_rfl
theorem cR1cellDn (x0 x1 x2 x3 x4 x5 x6 x7 x8 x9 : Int) : Tr Tryz.prog 21 [(.ptr 6632 0), (.str ⟨1, 110⟩), (.str ⟨0, 0⟩), (.int .i64 0)] ⟨7331, memL (sR1_4 6661 (.int .i64 x0) (.int .i64 x1) (.int .u64 x2) (.int .u64 x3) (.int .u64 x4) (.int .i64 x5) (.int .u64 x6) (.int .u64 x7) (.int .u64 x8) (.int .i64 x9))⟩ fun v s => v = (.tup [(.int .i64 x1), (.bool true)]) ∧ s = ⟨7580, memL (sR1_4 6661 (.int .i64 x0) (.int .i64 x1) (.int .u64 x2) (.int .u64 x3) (.int .u64 x4) (.int .i64 x5) (.int .u64 x6) (.int .u64 x7) (.int .u64 x8) (.int .i64 x9))⟩ := by
  have h := stageG_tr (P := Tryz.prog) [x0, x1, x2, x3, x4, x5, x6, x7, x8, x9] [0, 0, 0, 0, 0, 0, 0, 0, 0, 0] rfl (stage0_tr mixed O1_ok D0_ok rR1cellDn (by kernel_rfl)) (by kernel_rfl) (by kernel_rfl) (by kernel_rfl) (by kernel_rfl) (by kernel_rfl)
  have e1 : valM (ghN 0 [x0, x1, x2, x3, x4, x5, x6, x7, x8, x9]).val pR1cellDn = sR1_4 6661 (.int .i64 x0) (.int .i64 x1) (.int .u64 x2) (.int .u64 x3) (.int .u64 x4) (.int .i64 x5) (.int .u64 x6) (.int .u64 x7) (.int .u64 x8) (.int .i64 x9) := by kernel_rfl
  have e2 : valM (ghN 0 [x0, x1, x2, x3, x4, x5, x6, x7, x8, x9]).val qR1cellDn = sR1_4 6661 (.int .i64 x0) (.int .i64 x1) (.int .u64 x2) (.int .u64 x3) (.int .u64 x4) (.int .i64 x5) (.int .u64 x6) (.int .u64 x7) (.int .u64 x8) (.int .i64 x9) := by kernel_rfl
  have e3 : valL (ghN 0 [x0, x1, x2, x3, x4, x5, x6, x7, x8, x9]).val [(.ptr 6632 0), (.str ⟨1, 110⟩), (.str ⟨0, 0⟩), (.int .i64 0)] = [(.ptr 6632 0), (.str ⟨1, 110⟩), (.str ⟨0, 0⟩), (.int .i64 0)] := by kernel_rfl
  have e4 : AV.val (ghN 0 [x0, x1, x2, x3, x4, x5, x6, x7, x8, x9]).val (.tup [(.sy .i64 (.x 1)), (.bool true)]) = (.tup [(.int .i64 x1), (.bool true)]) := by kernel_rfl
  rw [e1, e2, e3, e4] at h
  exact h
/- cellFr: 5552 -/
def pR1cellFr : List (Nat × Chunk) := sR1_6 6661 (.sy .i64 (.x 0)) (.sy .i64 (.x 1)) (.sy .u64 (.x 2)) (.sy .u64 (.x 3)) (.sy .u64 (.x 4)) (.sy .i64 (.x 5)) (.sy .u64 (.x 6)) (.sy .u64 (.x 7)) (.sy .u64 (.x 8)) (.sy .i64 (.x 9))
def qR1cellFr : List (Nat × Chunk) := sR1_6 6661 (.sy .i64 (.x 0)) (.sy .i64 (.x 1)) (.sy .u64 (.x 2)) (.sy .u64 (.x 3)) (.sy .u64 (.x 4)) (.sy .i64 (.x 5)) (.sy .u64 (.x 6)) (.sy .u64 (.x 7)) (.sy .u64 (.x 8)) (.sy .i64 (.x 9))
theorem rR1cellFr : resIs (preN pR1cellFr .l fun m => callF Tryz.prog T0 O1 D0 60 21 [(.ptr 6632 0), (.str ⟨1, 114⟩), (.str ⟨0, 0⟩), (.int .i64 0)] ⟨7621, m⟩) (.tup [(.sy .i64 (.x 0)), (.bool true)]) 7869 qR1cellFr = true := by kernel_rfl
theorem cR1cellFr (x0 x1 x2 x3 x4 x5 x6 x7 x8 x9 : Int) : Tr Tryz.prog 21 [(.ptr 6632 0), (.str ⟨1, 114⟩), (.str ⟨0, 0⟩), (.int .i64 0)] ⟨7621, memL (sR1_6 6661 (.int .i64 x0) (.int .i64 x1) (.int .u64 x2) (.int .u64 x3) (.int .u64 x4) (.int .i64 x5) (.int .u64 x6) (.int .u64 x7) (.int .u64 x8) (.int .i64 x9))⟩ fun v s => v = (.tup [(.int .i64 x0), (.bool true)]) ∧ s = ⟨7869, memL (sR1_6 6661 (.int .i64 x0) (.int .i64 x1) (.int .u64 x2) (.int .u64 x3) (.int .u64 x4) (.int .i64 x5) (.int .u64 x6) (.int .u64 x7) (.int .u64 x8) (.int .i64 x9))⟩ := by
  have h := stageG_tr (P := Tryz.prog) [x0, x1, x2, x3, x4, x5, x6, x7, x8, x9] [0, 0, 0, 0, 0, 0, 0, 0, 0, 0] rfl (stage0_tr mixed O1_ok D0_ok rR1cellFr (by kernel_rfl)) (by kernel_rfl) (by kernel_rfl) (by kernel_rfl) (by kernel_rfl) (by kernel_rfl)
  have e1 : valM (ghN 0 [x0, x1, x2, x3, x4, x5, x6, x7, x8, x9]).val pR1cellFr = sR1_6 6661 (.int .i64 x0) (.int .i64 x1) (.int .u64 x2) (.int .u64 x3) (.int .u64 x4) (.int .i64 x5) (.int .u64 x6) (.int .u64 x7) (.int .u64 x8) (.int .i64 x9) := by kernel_rfl
  have e2 : valM (ghN 0 [x0, x1, x2, x3, x4, x5, x6, x7, x8, x9]).val qR1cellFr = sR1_6 6661 (.int .i64 x0) (.int .i64 x1) (.int .u64 x2) (.int .u64 x3) (.int .u64 x4) (.int .i64 x5) (.int .u64 x6) (.int .u64 x7) (.int .u64 x8) (.int .i64 x9) := by kernel_rfl
  have e3 : valL (ghN 0 [x0, x1, x2, x3, x4, x5, x6, x7, x8, x9]).val [(.ptr 6632 0), (.str ⟨1, 114⟩), (.str ⟨0, 0⟩), (.int .i64 0)] = [(.ptr 6632 0), (.str ⟨1, 114⟩), (.str ⟨0, 0⟩), (.int .i64 0)] := by kernel_rfl
  have e4 : AV.val (ghN 0 [x0, x1, x2, x3, x4, x5, x6, x7, x8, x9]).val (.tup [(.sy .i64 (.x 0)), (.bool true)]) = (.tup [(.int .i64 x0), (.bool true)]) := by kernel_rfl
  rw [e1, e2, e3, e4] at h
  exact h
/- cellFn: 5574 -/
def pR1cellFn : List (Nat × Chunk) := sR1_6 6661 (.sy .i64 (.x 0)) (.sy .i64 (.x 1)) (.sy .u64 (.x 2)) (.sy .u64 (.x 3)) (.sy .u64 (.x 4)) (.sy .i64 (.x 5)) (.sy .u64 (.x 6)) (.sy .u64 (.x 7)) (.sy .u64 (.x 8)) (.sy .i64 (.x 9))
def qR1cellFn : List (Nat × Chunk) := sR1_6 6661 (.sy .i64 (.x 0)) (.sy .i64 (.x 1)) (.sy .u64 (.x 2)) (.sy .u64 (.x 3)) (.sy .u64 (.x 4)) (.sy .i64 (.x 5)) (.sy .u64 (.x 6)) (.sy .u64 (.x 7)) (.sy .u64 (.x 8)) (.sy .i64 (.x 9))
theorem rR1cellFn : resIs (preN pR1cellFn .l fun m => callF Tryz.prog T0 O1 D0 60 21 [(.ptr 6632 0), (.str ⟨1, 110⟩), (.str ⟨0, 0⟩), (.int .i64 0)] ⟨7869, m⟩) (.tup [(.sy .i64 (.x 1)), (.bool true)]) 8118 qR1cellFn = true := by kernel_rfl
theorem cR1cellFn (x0 x1 x2 x3 x4 x5 x6 x7 x8 x9 : Int) : Tr Tryz.prog 21 [(.ptr 6632 0), (.str ⟨1, 110⟩), (.str ⟨0, 0⟩), (.int .i64 0)] ⟨7869, memL (sR1_6 6661 (.int .i64 x0) (.int .i64 x1) (.int .u64 x2) (.int .u64 x3) (.int .u64 x4) (.int .i64 x5) (.int .u64 x6) (.int .u64 x7) (.int .u64 x8) (.int .i64 x9))⟩ fun v s => v = (.tup [(.int .i64 x1), (.bool true)]) ∧ s = ⟨8118, memL (sR1_6 6661 (.int .i64 x0) (.int .i64 x1) (.int .u64 x2) (.int .u64 x3) (.int .u64 x4) (.int .i64 x5) (.int .u64 x6) (.int .u64 x7) (.int .u64 x8) (.int .i64 x9))⟩ := by
  have h := stageG_tr (P := Tryz.prog) [x0, x1, x2, x3, x4, x5, x6, x7, x8, x9] [0, 0, 0, 0, 0, 0, 0, 0, 0, 0] rfl (stage0_tr mixed O1_ok D0_ok rR1cellFn (by kernel_rfl)) (by kernel_rfl) (by kernel_rfl) (by kernel_rfl) (by kernel_rfl) (by kernel_rfl)
  have e1 : valM (ghN 0 [x0, x1, x2, x3, x4, x5, x6, x7, x8, x9]).val pR1cellFn = sR1_6 6661 (.int .i64 x0) (.int .i64 x1) (.int .u64 x2) (.int .u64 x3) (.int .u64 x4) (.int .i64 x5) (.int .u64 x6) (.int .u64 x7) (.int .u64 x8) (.int .i64 x9) := by kernel_rfl
  have e2 : valM (ghN 0 [x0, x1, x2, x3, x4, x5, x6, x7, x8, x9]).val qR1cellFn = sR1_6 6661 (.int .i64 x0) (.int .i64 x1) (.int .u64 x2) (.int .u64 x3) (.int .u64 x4) (.int .i64 x5) (.int .u64 x6) (.int .u64 x7) (.int .u64 x8) (.int .i64 x9) := by kernel_rfl
  have e3 : valL (ghN 0 [x0, x1, x2, x3, x4, x5, x6, x7, x8, x9]).val [(.ptr 6632 0), (.str ⟨1, 110⟩), (.str ⟨0, 0⟩), (.int .i64 0)] = [(.ptr 6632 0), (.str ⟨1, 110⟩), (.str ⟨0, 0⟩), (.int .i64 0)] := by kernel_rfl
  have e4 : AV.val (ghN 0 [x0, x1, x2, x3, x4, x5, x6, x7, x8, x9]).val (.tup [(.sy .i64 (.x 1)), (.bool true)]) = (.tup [(.int .i64 x1), (.bool true)]) := by kernel_rfl
  rw [e1, e2, e3, e4] at h
  exact h
end Go.Proofs.YtaafinlbepaboaaGreatDoor
