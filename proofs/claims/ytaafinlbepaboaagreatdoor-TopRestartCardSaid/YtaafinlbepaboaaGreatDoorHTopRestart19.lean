/- TopRestart: stages (R0). TopRestart: stages (R0). -/
import Derived.Test.YtaafinlbepaboaaGreatDoorHTopRestart16
set_option linter.unusedVariables false
set_option linter.unusedSimpArgs false
set_option autoImplicit false
set_option maxRecDepth 100000
namespace Go.Proofs.YtaafinlbepaboaaGreatDoor
open Go.Ab Go.Proofs
/- cellHr: 5552 -/
def pR0cellHr : List (Nat × Chunk) := sR0_6 6478 (.sy .i64 (.x 0)) (.sy .i64 (.x 1)) (.sy .u64 (.x 2)) (.sy .u64 (.x 3)) (.sy .u64 (.x 4)) (.sy .i64 (.x 5)) (.sy .u64 (.x 6)) (.sy .u64 (.x 7)) (.sy .u64 (.x 8)) (.sy .i64 (.x 9))
def qR0cellHr : List (Nat × Chunk) := sR0_6 6478 (.sy .i64 (.x 0)) (.sy .i64 (.x 1)) (.sy .u64 (.x 2)) (.sy .u64 (.x 3)) (.sy .u64 (.x 4)) (.sy .i64 (.x 5)) (.sy .u64 (.x 6)) (.sy .u64 (.x 7)) (.sy .u64 (.x 8)) (.sy .i64 (.x 9))
theorem rR0cellHr : resIs (preN pR0cellHr .l fun m => callF Tryz.prog T0 O1 D0 60 21 [(.ptr 6449 0), (.str ⟨1, 114⟩), (.str ⟨0, 0⟩), (.int .i64 0)] ⟨7929, m⟩) (.tup [(.sy .i64 (.x 0)), (.bool true)]) 8177 qR0cellHr = true := by kernel_rfl
theorem cR0cellHr (x0 x1 x2 x3 x4 x5 x6 x7 x8 x9 : Int) : Tr Tryz.prog 21 [(.ptr 6449 0), (.str ⟨1, 114⟩), (.str ⟨0, 0⟩), (.int .i64 0)] ⟨7929, memL (sR0_6 6478 (.int .i64 x0) (.int .i64 x1) (.int .u64 x2) (.int .u64 x3) (.int .u64 x4) (.int .i64 x5) (.int .u64 x6) (.int .u64 x7) (.int .u64 x8) (.int .i64 x9))⟩ fun v s => v = (.tup [(.int .i64 x0), (.bool true)]) ∧ s = ⟨8177, memL (sR0_6 6478 (.int .i64 x0) (.int .i64 x1) (.int .u64 x2) (.int .u64 x3) (.int .u64 x4) (.int .i64 x5) (.int .u64 x6) (.int .u64 x7) (.int .u64 x8) (.int .i64 x9))⟩ := by
  have h := stageG_tr (P := Tryz.prog) [x0, x1, x2, x3, x4, x5, x6, x7, x8, x9] [0, 0, 0, 0, 0, 0, 0, 0, 0, 0] rfl (stage0_tr mixed O1_ok D0_ok rR0cellHr (by kernel_rfl)) (by kernel_rfl) (by kernel_rfl) (by kernel_rfl) (by kernel_rfl) (by kernel_rfl)
  have e1 : valM (ghN 0 [x0, x1, x2, x3, x4, x5, x6, x7, x8, x9]).val pR0cellHr = sR0_6 6478 (.int .i64 x0) (.int .i64 x1) (.int .u64 x2) (.int .u64 x3) (.int .u64 x4) (.int .i64 x5) (.int .u64 x6) (.int .u64 x7) (.int .u64 x8) (.int .i64 x9) := by kernel_rfl
  have e2 : valM (ghN 0 [x0, x1, x2, x3, x4, x5, x6, x7, x8, x9]).val qR0cellHr = sR0_6 6478 (.int .i64 x0) (.int .i64 x1) (.int .u64 x2) (.int .u64 x3) (.int .u64 x4) (.int .i64 x5) (.int .u64 x6) (.int .u64 x7) (.int .u64 x8) (.int .i64 x9) := by kernel_rfl
  have e3 : valL (ghN 0 [x0, x1, x2, x3, x4, x5, x6, x7, x8, x9]).val [(.ptr 6449 0), (.str ⟨1, 114⟩), (.str ⟨0, 0⟩), (.int .i64 0)] = [(.ptr 6449 0), (.str ⟨1, 114⟩), (.str ⟨0, 0⟩), (.int .i64 0)] := by kernel_rfl
  have e4 : AV.val (ghN 0 [x0, x1, x2, x3, x4, x5, x6, x7, x8, x9]).val (.tup [(.sy .i64 (.x 0)), (.bool true)]) = (.tup [(.int .i64 x0), (.bool true)]) := by kernel_rfl
  rw [e1, e2, e3, e4] at h
  exact h
/- cellHn: 5574 -/
def pR0cellHn : List (Nat × Chunk) := sR0_6 6478 (.sy .i64 (.x 0)) (.sy .i64 (.x 1)) (.sy .u64 (.x 2)) (.sy .u64 (.x 3)) (.sy .u64 (.x 4)) (.sy .i64 (.x 5)) (.sy .u64 (.x 6)) (.sy .u64 (.x 7)) (.sy .u64 (.x 8)) (.sy .i64 (.x 9))
def qR0cellHn : List (Nat × Chunk) := sR0_6 6478 (.sy .i64 (.x 0)) (.sy .i64 (.x 1)) (.sy .u64 (.x 2)) (.sy .u64 (.x 3)) (.sy .u64 (.x 4)) (.sy .i64 (.x 5)) (.sy .u64 (.x 6)) (.sy .u64 (.x 7)) (.sy .u64 (.x 8)) (.sy .i64 (.x 9))
theorem rR0cellHn : resIs (preN pR0cellHn .l fun m => callF Tryz.prog T0 O1 D0 60 21 [(.ptr 6449 0), (.str ⟨1, 110⟩), (.str ⟨0, 0⟩), (.int .i64 0)] ⟨8177, m⟩) (.tup [(.sy .i64 (.x 1)), (.bool true)]) 8426 qR0cellHn = true := by kernel_rfl
theorem cR0cellHn (x0 x1 x2 x3 x4 x5 x6 x7 x8 x9 : Int) : Tr Tryz.prog 21 [(.ptr 6449 0), (.str ⟨1, 110⟩), (.str ⟨0, 0⟩), (.int .i64 0)] ⟨8177, memL (sR0_6 6478 (.int .i64 x0) (.int .i64 x1) (.int .u64 x2) (.int .u64 x3) (.int .u64 x4) (.int .i64 x5) (.int .u64 x6) (.int .u64 x7) (.int .u64 x8) (.int .i64 x9))⟩ fun v s => v = (.tup [(.int .i64 x1), (.bool true)]) ∧ s = ⟨8426, memL (sR0_6 6478 (.int .i64 x0) (.int .i64 x1) (.int .u64 x2) (.int .u64 x3) (.int .u64 x4) (.int .i64 x5) (.int .u64 x6) (.int .u64 x7) (.int .u64 x8) (.int .i64 x9))⟩ := by
  have h := stageG_tr (P := Tryz.prog) [x0, x1, x2, x3, x4, x5, x6, x7, x8, x9] [0, 0, 0, 0, 0, 0, 0, 0, 0, 0] rfl (stage0_tr mixed O1_ok D0_ok rR0cellHn (by kernel_rfl)) (by kernel_rfl) (by kernel_rfl) (by kernel_rfl) (by kernel_rfl) (by kernel_rfl)
  have e1 : valM (ghN 0 [x0, x1, x2, x3, x4, x5, x6, x7, x8, x9]).val pR0cellHn = sR0_6 6478 (.int .i64 x0) (.int .i64 x1) (.int .u64 x2) (.int .u64 x3) (.int .u64 x4) (.int .i64 x5) (.int .u64 x6) (.int .u64 x7) (.int .u64 x8) (.int .i64 x9) := by kernel_rfl
  have e2 : valM (ghN 0 [x0, x1, x2, x3, x4, x5, x6, x7, x8, x9]).val qR0cellHn = sR0_6 6478 (.int .i64 x0) (.int .i64 x1) (.int .u64 x2) (.int .u64 x3) (.int .u64 x4) (.int .i64 x5) (.int .u64 x6) (.int .u64 x7) (.int .u64 x8) (.int .i64 x9) := by kernel_rfl
  have e3 : valL (ghN 0 [x0, x1, x2, x3, x4, x5, x6, x7, x8, x9]).val [(.ptr 6449 0), (.str ⟨1, 110⟩), (.str ⟨0, 0⟩), (.int .i64 0)] = [(.ptr 6449 0), (.str ⟨1, 110⟩), (.str ⟨0, 0⟩), (.int .i64 0)] := by kernel_rfl
  have e4 : AV.val (ghN 0 [x0, x1, x2, x3, x4, x5, x6, x7, x8, x9]).val (.tup [(.sy .i64 (.x 1)), (.bool true)]) = (.tup [(.int .i64 x1), (.bool true)]) := by kernel_rfl
  rw [e1, e2, e3, e4] at h
  exact h
/- scansH: 12 -/
def pR0scansH : List (Nat × Chunk) := sR0_6 6478 (.sy .i64 (.x 0)) (.sy .i64 (.x 1)) (.sy .u64 (.x 2)) (.sy .u64 (.x 3)) (.sy .u64 (.x 4)) (.sy .i64 (.x 5)) (.sy .u64 (.x 6)) (.sy .u64 (.x 7)) (.sy .u64 (.x 8)) (.sy .i64 (.x 9))
def qR0scansH : List (Nat × Chunk) := sR0_6 6478 (.sy .i64 (.x 0)) (.sy .i64 (.x 1)) (.sy .u64 (.x 2)) (.sy .u64 (.x 3)) (.sy .u64 (.x 4)) (.sy .i64 (.x 5)) (.sy .u64 (.x 6)) (.sy .u64 (.x 7)) (.sy .u64 (.x 8)) (.sy .i64 (.x 9))
theorem rR0scansH : resIs (preN pR0scansH .l fun m => callF Tryz.prog T0 O1 D0 60 23 [(.ptr 6449 0)] ⟨8426, m⟩) (.sy .u64 (.x 2)) 8426 qR0scansH = true := by kernel_rfl
theorem cR0scansH (x0 x1 x2 x3 x4 x5 x6 x7 x8 x9 : Int) : Tr Tryz.prog 23 [(.ptr 6449 0)] ⟨8426, memL (sR0_6 6478 (.int .i64 x0) (.int .i64 x1) (.int .u64 x2) (.int .u64 x3) (.int .u64 x4) (.int .i64 x5) (.int .u64 x6) (.int .u64 x7) (.int .u64 x8) (.int .i64 x9))⟩ fun v s => v = (.int .u64 x2) ∧ s = ⟨8426, memL (sR0_6 6478 (.int .i64 x0) (.int .i64 x1) (.int .u64 x2) (.int .u64 x3) (.int .u64 x4) (.int .i64 x5) (.int .u64 x6) (.int .u64 x7) (.int .u64 x8) (.int .i64 x9))⟩ := by
  have h := stageG_tr (P := Tryz.prog) [x0, x1, x2, x3, x4, x5, x6, x7, x8, x9] [0, 0, 0, 0, 0, 0, 0, 0, 0, 0] rfl (stage0_tr mixed O1_ok D0_ok rR0scansH (by kernel_rfl)) (by kernel_rfl) (by kernel_rfl) (by kernel_rfl) (by kernel_rfl) (by kernel_rfl)
  have e1 : valM (ghN 0 [x0, x1, x2, x3, x4, x5, x6, x7, x8, x9]).val pR0scansH = sR0_6 6478 (.int .i64 x0) (.int .i64 x1) (.int .u64 x2) (.int .u64 x3) (.int .u64 x4) (.int .i64 x5) (.int .u64 x6) (.int .u64 x7) (.int .u64 x8) (.int .i64 x9) := by kernel_rfl
  have e2 : valM (ghN 0 [x0, x1, x2, x3, x4, x5, x6, x7, x8, x9]).val qR0scansH = sR0_6 6478 (.int .i64 x0) (.int .i64 x1) (.int .u64 x2) (.int .u64 x3) (.int .u64 x4) (.int .i64 x5) (.int .u64 x6) (.int .u64 x7) (.int .u64 x8) (.int .i64 x9) := by kernel_rfl
  have e3 : valL (ghN 0 [x0, x1, x2, x3, x4, x5, x6, x7, x8, x9]).val [(.ptr 6449 0)] = [(.ptr 6449 0)] := by kernel_rfl
  have e4 : AV.val (ghN 0 [x0, x1, x2, x3, x4, x5, x6, x7, x8, x9]).val (.sy .u64 (.x 2)) = (.int .u64 x2) := by kernel_rfl
  rw [e1, e2, e3, e4] at h
  exact h
/- cellGr: 5552 -/
def pR0cellGr : List (Nat × Chunk) := sR0_7 8029 (.sy .i64 (.x 0)) (.sy .i64 (.x 1)) (.sy .u64 (.x 2)) (.sy .u64 (.x 3)) (.sy .u64 (.x 4)) (.sy .i64 (.x 5)) (.sy .u64 (.x 6)) (.sy .u64 (.x 7)) (.sy .u64 (.x 8)) (.sy .i64 (.x 9))
def qR0cellGr : List (Nat × Chunk) := sR0_7 8029 (.sy .i64 (.x 0)) (.sy .i64 (.x 1)) (.sy .u64 (.x 2)) (.sy .u64 (.x 3)) (.sy .u64 (.x 4)) (.sy .i64 (.x 5)) (.sy .u64 (.x 6)) (.sy .u64 (.x 7)) (.sy .u64 (.x 8)) (.sy .i64 (.x 9))
theorem rR0cellGr : resIs (preN pR0cellGr .l fun m => callF Tryz.prog T0 O1 D0 60 21 [(.ptr 6449 0), (.str ⟨1, 114⟩), (.str ⟨0, 0⟩), (.int .i64 0)] ⟨8231, m⟩) (.tup [(.sy .i64 (.x 0)), (.bool true)]) 8479 qR0cellGr = true := by kernel_rfl
theorem cR0cellGr (x0 x1 x2 x3 x4 x5 x6 x7 x8 x9 : Int) : Tr Tryz.prog 21 [(.ptr 6449 0), (.str ⟨1, 114⟩), (.str ⟨0, 0⟩), (.int .i64 0)] ⟨8231, memL (sR0_7 8029 (.int .i64 x0) (.int .i64 x1) (.int .u64 x2) (.int .u64 x3) (.int .u64 x4) (.int .i64 x5) (.int .u64 x6) (.int .u64 x7) (.int .u64 x8) (.int .i64 x9))⟩ fun v s => v = (.tup [(.int .i64 x0), (.bool true)]) ∧ s = ⟨8479, memL (sR0_7 8029 (.int .i64 x0) (.int .i64 x1) (.int .u64 x2) (.int .u64 x3) (.int .u64 x4) (.int .i64 x5) (.int .u64 x6) (.int .u64 x7) (.int .u64 x8) (.int .i64 x9))⟩ := by
  have h := stageG_tr (P := Tryz.prog) [x0, x1, x2, x3, x4, x5, x6, x7, x8, x9] [0, 0, 0, 0, 0, 0, 0, 0, 0, 0] rfl (stage0_tr mixed O1_ok D0_ok rR0cellGr (by kernel_rfl)) (by kernel_rfl) (by kernel_rfl) (by kernel_rfl) (by kernel_rfl) (by kernel_rfl)
  have e1 : valM (ghN 0 [x0, x1, x2, x3, x4, x5, x6, x7, x8, x9]).val pR0cellGr = sR0_7 8029 (.int .i64 x0) (.int .i64 x1) (.int .u64 x2) (.int .u64 x3) (.int .u64 x4) (.int .i64 x5) (.int .u64 x6) (.int .u64 x7) (.int .u64 x8) (.int .i64 x9) := by kernel_rfl
  have e2 : valM (ghN 0 [x0, x1, x2, x3, x4, x5, x6, x7, x8, x9]).val qR0cellGr = sR0_7 8029 (.int .i64 x0) (.int .i64 x1) (.int .u64 x2) (.int .u64 x3) (.int .u64 x4) (.int .i64 x5) (.int .u64 x6) (.int .u64 x7) (.int .u64 x8) (.int .i64 x9) := by kernel_rfl
  have e3 : valL (ghN 0 [x0, x1, x2, x3, x4, x5, x6, x7, x8, x9]).val [(.ptr 6449 0), (.str ⟨1, 114⟩), (.str ⟨0, 0⟩), (.int .i64 0)] = [(.ptr 6449 0), (.str ⟨1, 114⟩), (.str ⟨0, 0⟩), (.int .i64 0)] := by kernel_rfl
  have e4 : AV.val (ghN 0 [x0, x1, x2, x3, x4, x5, x6, x7, x8, x9]).val (.tup [(.sy .i64 (.x 0)), (.bool true)]) = (.tup [(.int .i64 x0), (.bool true)]) := by kernel_rfl
  rw [e1, e2, e3, e4] at h
  exact h
/- cellGn: 5574 -/
def pR0cellGn : List (Nat × Chunk) := sR0_7 8029 (.sy .i64 (.x 0)) (.sy .i64 (.x 1)) (.sy .u64 (.x 2)) (.sy .u64 (.x 3)) (.sy .u64 (.x 4)) (.sy .i64 (.x 5)) (.sy .u64 (.x 6)) (.sy .u64 (.x 7)) (.sy .u64 (.x 8)) (.sy .i64 (.x 9))
def qR0cellGn : List (Nat × Chunk) := sR0_7 8029 (.sy .i64 (.x 0)) (.sy .i64 (.x 1)) (.sy .u64 (.x 2)) (.sy .u64 (.x 3)) (.sy .u64 (.x 4)) (.sy .i64 (.x 5)) (.sy .u64 (.x 6)) (.sy .u64 (.x 7)) (.sy .u64 (.x 8)) (.sy .i64 (.x 9))
theorem rR0cellGn : resIs (preN pR0cellGn .l fun m => callF Tryz.prog T0 O1 D0 60 21 [(.ptr 6449 0), (.str ⟨1, 110⟩), (.str ⟨0, 0⟩), (.int .i64 0)] ⟨8479, m⟩) (.tup [(.sy .i64 (.x 1)), (.bool true)]) 8728 qR0cellGn = true := by kernel_rfl
theorem cR0cellGn (x0 x1 x2 x3 x4 x5 x6 x7 x8 x9 : Int) : Tr Tryz.prog 21 [(.ptr 6449 0), (.str ⟨1, 110⟩), (.str ⟨0, 0⟩), (.int .i64 0)] ⟨8479, memL (sR0_7 8029 (.int .i64 x0) (.int .i64 x1) (.int .u64 x2) (.int .u64 x3) (.int .u64 x4) (.int .i64 x5) (.int .u64 x6) (.int .u64 x7) (.int .u64 x8) (.int .i64 x9))⟩ fun v s => v = (.tup [(.int .i64 x1), (.bool true)]) ∧ s = ⟨8728, memL (sR0_7 8029 (.int .i64 x0) (.int .i64 x1) (.int .u64 x2) (.int .u64 x3) (.int .u64 x4) (.int .i64 x5) (.int .u64 x6) (.int .u64 x7) (.int .u64 x8) (.int .i64 x9))⟩ := by
  have h := stageG_tr (P := Tryz.prog) [x0, x1, x2, x3, x4, x5, x6, x7, x8, x9] [0, 0, 0, 0, 0, 0, 0, 0, 0, 0] rfl (stage0_tr mixed O1_ok D0_ok rR0cellGn (by kernel_rfl)) (by kernel_rfl) (by kernel_rfl) (by kernel_rfl) (by kernel_rfl) (by kernel_rfl)
  have e1 : valM (ghN 0 [x0, x1, x2, x3, x4, x5, x6, x7, x8, x9]).val pR0cellGn = sR0_7 8029 (.int .i64 x0) (.int .i64 x1) (.int .u64 x2) (.int .u64 x3) (.int .u64 x4) (.int .i64 x5) (.int .u64 x6) (.int .u64 x7) (.int .u64 x8) (.int .i64 x9) := by kernel_rfl
  have e2 : valM (ghN 0 [x0, x1, x2, x3, x4, x5, x6, x7, x8, x9]).val qR0cellGn = sR0_7 8029 (.int .i64 x0) (.int .i64 x1) (.int .u64 x2) (.int .u64 x3) (.int .u64 x4) (.int .i64 x5) (.int .u64 x6) (.int .u64 x7) (.int .u64 x8) (.int .i64 x9) := by kernel_rfl
  have e3 : valL (ghN 0 [x0, x1, x2, x3, x4, x5, x6, x7, x8, x9]).val [(.ptr 6449 0), (.str ⟨1, 110⟩), (.str ⟨0, 0⟩), (.int .i64 0)] = [(.ptr 6449 0), (.str ⟨1, 110⟩), (.str ⟨0, 0⟩), (.int .i64 0)] := by kernel_rfl
  have e4 : AV.val (ghN 0 [x0, x1, x2, x3, x4, x5, x6, x7, x8, x9]).val (.tup [(.sy .i64 (.x 1)), (.bool true)]) = (.tup [(.int .i64 x1), (.bool true)]) := by kernel_rfl
  rw [e1, e2, e3, e4] at h
  exact h
/- scansG: 12 -/
def pR0scansG : List (Nat × Chunk) := sR0_7 8029 (.sy .i64 (.x 0)) (.sy .i64 (.x 1)) (.sy .u64 (.x 2)) (.sy .u64 (.x 3)) (.sy .u64 (.x 4)) (.sy .i64 (.x 5)) (.sy .u64 (.x 6)) (.sy .u64 (.x 7)) (.sy .u64 (.x 8)) (.sy .i64 (.x 9))
def qR0scansG : List (Nat × Chunk) := sR0_7 8029 (.sy .i64 (.x 0)) (.sy .i64 (.x 1)) (.sy .u64 (.x 2)) (.sy .u64 (.x 3)) (.sy .u64 (.x 4)) (.sy .i64 (.x 5)) (.sy .u64 (.x 6)) (.sy .u64 (.x 7)) (.sy .u64 (.x 8)) (.sy .i64 (.x 9))
theorem rR0scansG : resIs (preN pR0scansG .l fun m => callF Tryz.prog T0 O1 D0 60 23 [(.ptr 6449 0)] ⟨8728, m⟩) (.sy .u64 (.x 2)) 8728 qR0scansG = true := by kernel_rfl
theorem cR0scansG (x0 x1 x2 x3 x4 x5 x6 x7 x8 x9 : Int) : Tr Tryz.prog 23 [(.ptr 6449 0)] ⟨8728, memL (sR0_7 8029 (.int .i64 x0) (.int .i64 x1) (.int .u64 x2) (.int .u64 x3) (.int .u64 x4) (.int .i64 x5) (.int .u64 x6) (.int .u64 x7) (.int .u64 x8) (.int .i64 x9))⟩ fun v s => v = (.int .u64 x2) ∧ s = ⟨8728, memL (sR0_7 8029 (.int .i64 x0) (.int .i64 x1) (.int .u64 x2) (.int .u64 x3) (.int .u64 x4) (.int .i64 x5) (.int .u64 x6) (.int .u64 x7) (.int .u64 x8) (.int .i64 x9))⟩ := by
  have h := stageG_tr (P := Tryz.prog) [x0, x1, x2, x3, x4, x5, x6, x7, x8, x9] [0, 0, 0, 0, 0, 0, 0, 0, 0, 0] rfl (stage0_tr mixed O1_ok D0_ok rR0scansG (by kernel_rfl)) (by kernel_rfl) (by kernel_rfl) (by kernel_rfl) (by kernel_rfl) (by kernel_rfl)
  have e1 : valM (ghN 0 [x0, x1, x2, x3, x4, x5, x6, x7, x8, x9]).val pR0scansG = sR0_7 8029 (.int .i64 x0) (.int .i64 x1) (.int .u64 x2) (.int .u64 x3) (.int .u64 x4) (.int .i64 x5) (.int .u64 x6) (.int .u64 x7) (.int .u64 x8) (.int .i64 x9) := by kernel_rfl
  have e2 : valM (ghN 0 [x0, x1, x2, x3, x4, x5, x6, x7, x8, x9]).val qR0scansG = sR0_7 8029 (.int .i64 x0) (.int .i64 x1) (.int .u64 x2) (.int .u64 x3) (.int .u64 x4) (.int .i64 x5) (.int .u64 x6) (.int .u64 x7) (.int .u64 x8) (.int .i64 x9) := by kernel_rfl
  have e3 : valL (ghN 0 [x0, x1, x2, x3, x4, x5, x6, x7, x8, x9]).val [(.ptr 6449 0)] = [(.ptr 6449 0)] := by kernel_rfl
  have e4 : AV.val (ghN 0 [x0, x1, x2, x3, x4, x5, x6, x7, x8, x9]).val (.sy .u64 (.x 2)) = (.int .u64 x2) := by kernel_rfl
  rw [e1, e2, e3, e4] at h
  exact h
end Go.Proofs.YtaafinlbepaboaaGreatDoor
set_option linter.unusedVariables false
set_option linter.unusedSimpArgs false
set_option autoImplicit false
set_option maxRecDepth 100000
namespace Go.Proofs.YtaafinlbepaboaaGreatDoor
open Go.Ab Go.Proofs
/- scanP1: 11157 -/
def pR0scanP1 : List (Nat × Chunk) := sR0_6 6478 (.sy .i64 (.x 0)) (.sy .i64 (.x 1)) (.sy .u64 (.x 2)) (.sy .u64 (.x 3)) (.sy .u64 (.x 4)) (.int .i64 1) (.sy .u64 (.x 6)) (.sy .u64 (.x 7)) (.sy .u64 (.x 8)) (.sy .i64 (.x 9))
def qR0scanP1 : List (Nat × Chunk) := sR0_7 8029 (.sy .i64 (.bin .shr .i64 (.bin .shl .i64 (.bin .shr .i64 (.bin .shl .i64 (.bin .add .i64 (.bin .shr .i64 (.bin .shl .i64 (.bin .shr .i64 (.bin .shl .i64 (.x 0) (.c 48)) (.c 48)) (.c 48)) (.c 48)) (.c 1)) (.c 48)) (.c 48)) (.c 48)) (.c 48))) (.sy .i64 (.bin .shr .i64 (.bin .shl .i64 (.bin .shr .i64 (.bin .shl .i64 (.bin .add .i64 (.bin .shr .i64 (.bin .shl .i64 (.bin .shr .i64 (.bin .shl .i64 (.x 1) (.c 48)) (.c 48)) (.c 48)) (.c 48)) (.c 1)) (.c 48)) (.c 48)) (.c 48)) (.c 48))) (.sy .u64 (.bin .add .u64 (.x 2) (.c 1))) (.sy .u64 (.bin .add .u64 (.x 3) (.c 1))) (.sy .u64 (.bin .add .u64 (.x 2) (.c 1))) (.int .i64 0) (.sy .u64 (.bin .add .u64 (.x 6) (.c 1))) (.sy .u64 (.bin .add .u64 (.x 7) (.c 1))) (.sy .u64 (.bin .add .u64 (.x 8) (.c 1))) (.sy .i64 (.bin .add .i64 (.bin .add .i64 (.x 9) (.c 1)) (.c 1)))
theorem rR0scanP1 : resIs (preN pR0scanP1 .l fun m => callF Tryz.prog T0 O1 D0 60 19 [(.ptr 6449 0)] ⟨7929, m⟩) (.int .i64 0) 8231 qR0scanP1 = true := by kernel_rfl
theorem cR0scanP1 (x0 x1 x2 x3 x4 x5 x6 x7 x8 x9 : Int) : Tr Tryz.prog 19 [(.ptr 6449 0)] ⟨7929, memL (sR0_6 6478 (.int .i64 x0) (.int .i64 x1) (.int .u64 x2) (.int .u64 x3) (.int .u64 x4) (.int .i64 1) (.int .u64 x6) (.int .u64 x7) (.int .u64 x8) (.int .i64 x9))⟩ fun v s => v = (.int .i64 0) ∧ s = ⟨8231, memL (sR0_7 8029 (.int .i64 (sop .shr .i64 (sop .shl .i64 (sop .shr .i64 (sop .shl .i64 (sop .add .i64 (sop .shr .i64 (sop .shl .i64 (sop .shr .i64 (sop .shl .i64 x0 48) 48) 48) 48) 1) 48) 48) 48) 48)) (.int .i64 (sop .shr .i64 (sop .shl .i64 (sop .shr .i64 (sop .shl .i64 (sop .add .i64 (sop .shr .i64 (sop .shl .i64 (sop .shr .i64 (sop .shl .i64 x1 48) 48) 48) 48) 1) 48) 48) 48) 48)) (.int .u64 (sop .add .u64 x2 1)) (.int .u64 (sop .add .u64 x3 1)) (.int .u64 (sop .add .u64 x2 1)) (.int .i64 0) (.int .u64 (sop .add .u64 x6 1)) (.int .u64 (sop .add .u64 x7 1)) (.int .u64 (sop .add .u64 x8 1)) (.int .i64 (sop .add .i64 (sop .add .i64 x9 1) 1)))⟩ := by
  have h := stageG_tr (P := Tryz.prog) [x0, x1, x2, x3, x4, x5, x6, x7, x8, x9] [0, 0, 0, 0, 0, 0, 0, 0, 0, 0] rfl (stage0_tr mixed O1_ok D0_ok rR0scanP1 (by kernel_rfl)) (by kernel_rfl) (by kernel_rfl) (by kernel_rfl) (by kernel_rfl) (by kernel_rfl)
  have e1 : valM (ghN 0 [x0, x1, x2, x3, x4, x5, x6, x7, x8, x9]).val pR0scanP1 = sR0_6 6478 (.int .i64 x0) (.int .i64 x1) (.int .u64 x2) (.int .u64 x3) (.int .u64 x4) (.int .i64 1) (.int .u64 x6) (.int .u64 x7) (.int .u64 x8) (.int .i64 x9) := by kernel_rfl
  have e2 : valM (ghN 0 [x0, x1, x2, x3, x4, x5, x6, x7, x8, x9]).val qR0scanP1 = sR0_7 8029 (.int .i64 (sop .shr .i64 (sop .shl .i64 (sop .shr .i64 (sop .shl .i64 (sop .add .i64 (sop .shr .i64 (sop .shl .i64 (sop .shr .i64 (sop .shl .i64 x0 48) 48) 48) 48) 1) 48) 48) 48) 48)) (.int .i64 (sop .shr .i64 (sop .shl .i64 (sop .shr .i64 (sop .shl .i64 (sop .add .i64 (sop .shr .i64 (sop .shl .i64 (sop .shr .i64 (sop .shl .i64 x1 48) 48) 48) 48) 1) 48) 48) 48) 48)) (.int .u64 (sop .add .u64 x2 1)) (.int .u64 (sop .add .u64 x3 1)) (.int .u64 (sop .add .u64 x2 1)) (.int .i64 0) (.int .u64 (sop .add .u64 x6 1)) (.int .u64 (sop .add .u64 x7 1)) (.int .u64 (sop .add .u64 x8 1)) (.int .i64 (sop .add .i64 (sop .add .i64 x9 1) 1)) := by kernel_rfl
  have e3 : valL (ghN 0 [x0, x1, x2, x3, x4, x5, x6, x7, x8, x9]).val [(.ptr 6449 0)] = [(.ptr 6449 0)] := by kernel_rfl
  have e4 : AV.val (ghN 0 [x0, x1, x2, x3, x4, x5, x6, x7, x8, x9]).val (.int .i64 0) = (.int .i64 0) := by kernel_rfl
  rw [e1, e2, e3, e4] at h
  exact h
end Go.Proofs.YtaafinlbepaboaaGreatDoor
