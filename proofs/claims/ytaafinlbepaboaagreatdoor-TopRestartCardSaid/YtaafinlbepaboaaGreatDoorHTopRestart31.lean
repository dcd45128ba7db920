/- TopRestart: stages (R2). TopRestart: stages (R2). -/
import Derived.Test.YtaafinlbepaboaaGreatDoorHTopRestart28
set_option linter.unusedVariables false
set_option linter.unusedSimpArgs false
set_option autoImplicit false
set_option maxRecDepth 100000
namespace Go.Proofs.YtaafinlbepaboaaGreatDoor
open Go.Ab Go.Proofs
/- cellHr: 5552 -/
def pR2cellHr : List (Nat × Chunk) := sR2_6 6812 (.sy .i64 (.x 0)) (.sy .i64 (.x 1)) (.sy .u64 (.x 2)) (.sy .u64 (.x 3)) (.sy .u64 (.x 4)) (.sy .i64 (.x 5)) (.sy .u64 (.x 6)) (.sy .u64 (.x 7)) (.sy .u64 (.x 8)) (.sy .i64 (.x 9))
def qR2cellHr : List (Nat × Chunk) := sR2_6 6812 (.sy .i64 (.x 0)) (.sy .i64 (.x 1)) (.sy .u64 (.x 2)) (.sy .u64 (.x 3)) (.sy .u64 (.x 4)) (.sy .i64 (.x 5)) (.sy .u64 (.x 6)) (.sy .u64 (.x 7)) (.sy .u64 (.x 8)) (.sy .i64 (.x 9))
theorem rR2cellHr : resIs (preN pR2cellHr .l fun m => callF Tryz.prog T0 O1 D0 60 21 [(.ptr 6783 0), (.str ⟨1, 114⟩), (.str ⟨0, 0⟩), (.int .i64 0)] ⟨8796, m⟩) (.tup [(.sy .i64 (.x 0)), (.bool true)]) 9044 qR2cellHr = true := by kernel_rfl
theorem cR2cellHr (x0 x1 x2 x3 x4 x5 x6 x7 x8 x9 : Int) : Tr Tryz.prog 21 [(.ptr 6783 0), (.str ⟨1, 114⟩), (.str ⟨0, 0⟩), (.int .i64 0)] ⟨8796, memL (sR2_6 6812 (.int .i64 x0) (.int .i64 x1) (.int .u64 x2) (.int .u64 x3) (.int .u64 x4) (.int .i64 x5) (.int .u64 x6) (.int .u64 x7) (.int .u64 x8) (.int .i64 x9))⟩ fun v s => v = (.tup [(.int .i64 x0), (.bool true)]) ∧ s = ⟨9044, memL (sR2_6 6812 (.int .i64 x0) (.int .i64 x1) (.int .u64 x2) (.int .u64 x3) (.int .u64 x4) (.int .i64 x5) (.int .u64 x6) (.int .u64 x7) (.int .u64 x8) (.int .i64 x9))⟩ := by
  have h := stageG_tr (P := Tryz.prog) [x0, x1, x2, x3, x4, x5, x6, x7, x8, x9] [0, 0, 0, 0, 0, 0, 0, 0, 0, 0] rfl (stage0_tr mixed O1_ok D0_ok rR2cellHr (by kernel_rfl)) (by kernel_rfl) (by kernel_rfl) (by kernel_rfl) (by kernel_rfl) (by kernel_rfl)
  have e1 : valM (ghN 0 [x0, x1, x2, x3, x4, x5, x6, x7, x8, x9]).val pR2cellHr = sR2_6 6812 (.int .i64 x0) (.int .i64 x1) (.int .u64 x2) (.int .u64 x3) (.int .u64 x4) (.int .i64 x5) (.int .u64 x6) (.int .u64 x7) (.int .u64 x8) (.int .i64 x9) := by kernel_rfl
  have e2 : valM (ghN 0 [x0, x1, x2, x3, x4, x5, x6, x7, x8, x9]).val qR2cellHr = sR2_6 6812 (.int .i64 x0) (.int .i64 x1) (.int .u64 x2) (.int .u64 x3) (.int .u64 x4) (.int .i64 x5) (.int .u64 x6) (.int .u64 x7) (.int .u64 x8) (.int .i64 x9) := by kernel_rfl
  have e3 : valL (ghN 0 [x0, x1, x2, x3, x4, x5, x6, x7, x8, x9]).val [(.ptr 6783 0), (.str ⟨1, 114⟩), (.str ⟨0, 0⟩), (.int .i64 0)] = [(.ptr 6783 0), (.str ⟨1, 114⟩), (.str ⟨0, 0⟩), (.int .i64 0)] := by kernel_rfl
  have e4 : AV.val (ghN 0 [x0, x1, x2, x3, x4, x5, x6, x7, x8, x9]).val (.tup [(.sy .i64 (.x 0)), (.bool true)]) = (.tup [(.int .i64 x0), (.bool true)]) := by kernel_rfl
  rw [e1, e2, e3, e4] at h
  exact h
/- cellHn: 5574 -/
def pR2cellHn : List (Nat × Chunk) := sR2_6 6812 (.sy .i64 (.x 0)) (.sy .i64 (.x 1)) (.sy .u64 (.x 2)) (.sy .u64 (.x 3)) (.sy .u64 (.x 4)) (.sy .i64 (.x 5)) (.sy .u64 (.x 6)) (.sy .u64 (.x 7)) (.sy .u64 (.x 8)) (.sy .i64 (.x 9))
def qR2cellHn : List (Nat × Chunk) := sR2_6 6812 (.sy .i64 (.x 0)) (.sy .i64 (.x 1)) (.sy .u64 (.x 2)) (.sy .u64 (.x 3)) (.sy .u64 (.x 4)) (.sy .i64 (.x 5)) (.sy .u64 (.x 6)) (.sy .u64 (.x 7)) (.sy .u64 (.x 8)) (.sy .i64 (.x 9))
theorem rR2cellHn : resIs (preN pR2cellHn .l fun m => callF Tryz.prog T0 O1 D0 60 21 [(.ptr 6783 0), (.str ⟨1, 110⟩), (.str ⟨0, 0⟩), (.int .i64 0)] ⟨9044, m⟩) (.tup [(.sy .i64 (.x 1)), (.bool true)]) 9293 qR2cellHn = true := by kernel_rfl
theorem cR2cellHn (x0 x1 x2 x3 x4 x5 x6 x7 x8 x9 : Int) : Tr Tryz.prog 21 [(.ptr 6783 0), (.str ⟨1, 110⟩), (.str ⟨0, 0⟩), (.int .i64 0)] ⟨9044, memL (sR2_6 6812 (.int .i64 x0) (.int .i64 x1) (.int .u64 x2) (.int .u64 x3) (.int .u64 x4) (.int .i64 x5) (.int .u64 x6) (.int .u64 x7) (.int .u64 x8) (.int .i64 x9))⟩ fun v s => v = (.tup [(.int .i64 x1), (.bool true)]) ∧ s = ⟨9293, memL (sR2_6 6812 (.int .i64 x0) (.int .i64 x1) (.int .u64 x2) (.int .u64 x3) (.int .u64 x4) (.int .i64 x5) (.int .u64 x6) (.int .u64 x7) (.int .u64 x8) (.int .i64 x9))⟩ := by
  have h := stageG_tr (P := Tryz.prog) [x0, x1, x2, x3, x4, x5, x6, x7, x8, x9] [0, 0, 0, 0, 0, 0, 0, 0, 0, 0] rfl (stage0_tr mixed O1_ok D0_ok rR2cellHn (by kernel_rfl)) (by kernel_rfl) (by kernel_rfl) (by kernel_rfl) (by kernel_rfl) (by kernel_rfl)
  have e1 : valM (ghN 0 [x0, x1, x2, x3, x4, x5, x6, x7, x8, x9]).val pR2cellHn = sR2_6 6812 (.int .i64 x0) (.int .i64 x1) (.int .u64 x2) (.int .u64 x3) (.int .u64 x4) (.int .i64 x5) (.int .u64 x6) (.int .u64 x7) (.int .u64 x8) (.int .i64 x9) := by kernel_rfl
  have e2 : valM (ghN 0 [x0, x1, x2, x3, x4, x5, x6, x7, x8, x9]).val qR2cellHn = sR2_6 6812 (.int .i64 x0) (.int .i64 x1) (.int .u64 x2) (.int .u64 x3) (.int .u64 x4) (.int .i64 x5) (.int .u64 x6) (.int .u64 x7) (.int .u64 x8) (.int .i64 x9) := by kernel_rfl
  have e3 : valL (ghN 0 [x0, x1, x2, x3, x4, x5, x6, x7, x8, x9]).val [(.ptr 6783 0), (.str ⟨1, 110⟩), (.str ⟨0, 0⟩), (.int .i64 0)] = [(.ptr 6783 0), (.str ⟨1, 110⟩), (.str ⟨0, 0⟩), (.int .i64 0)] := by kernel_rfl
  have e4 : AV.val (ghN 0 [x0, x1, x2, x3, x4, x5, x6, x7, x8, x9]).val (.tup [(.sy .i64 (.x 1)), (.bool true)]) = (.tup [(.int .i64 x1), (.bool true)]) := by kernel_rfl
  rw [e1, e2, e3, e4] at h
  exact h
/- scansH: 12 -/
def pR2scansH : List (Nat × Chunk) := sR2_6 6812 (.sy .i64 (.x 0)) (.sy .i64 (.x 1)) (.sy .u64 (.x 2)) (.sy .u64 (.x 3)) (.sy .u64 (.x 4)) (.sy .i64 (.x 5)) (.sy .u64 (.x 6)) (.sy .u64 (.x 7)) (.sy .u64 (.x 8)) (.sy .i64 (.x 9))
def qR2scansH : List (Nat × Chunk) := sR2_6 6812 (.sy .i64 (.x 0)) (.sy .i64 (.x 1)) (.sy .u64 (.x 2)) (.sy .u64 (.x 3)) (.sy .u64 (.x 4)) (.sy .i64 (.x 5)) (.sy .u64 (.x 6)) (.sy .u64 (.x 7)) (.sy .u64 (.x 8)) (.sy .i64 (.x 9))
theorem rR2scansH : resIs (preN pR2scansH .l fun m => callF Tryz.prog T0 O1 D0 60 23 [(.ptr 6783 0)] ⟨9293, m⟩) (.sy .u64 (.x 2)) 9293 qR2scansH = true := by kernel_rfl
theorem cR2scansH (x0 x1 x2 x3 x4 x5 x6 x7 x8 x9 : Int) : Tr Tryz.prog 23 [(.ptr 6783 0)] ⟨9293, memL (sR2_6 6812 (.int .i64 x0) (.int .i64 x1) (.int .u64 x2) (.int .u64 x3) (.int .u64 x4) (.int .i64 x5) (.int .u64 x6) (.int .u64 x7) (.int .u64 x8) (.int .i64 x9))⟩ fun v s => v = (.int .u64 x2) ∧ s = ⟨9293, memL (sR2_6 6812 (.int .i64 x0) (.int .i64 x1) (.int .u64 x2) (.int .u64 x3) (.int .u64 x4) (.int .i64 x5) (.int .u64 x6) (.int .u64 x7) (.int .u64 x8) (.int .i64 x9))⟩ := by
  have h := stageG_tr (P := Tryz.prog) [x0, x1, x2, x3, x4, x5, x6, x7, x8, x9] [0, 0, 0, 0, 0, 0, 0, 0, 0, 0] rfl (stage0_tr mixed O1_ok D0_ok rR2scansH (by kernel_rfl)) (by kernel_rfl) (by kernel_rfl) (by kernel_rfl) (by kernel_rfl) (by kernel_rfl)
  have e1 : valM (ghN 0 [x0, x1, x2, x3, x4, x5, x6, x7, x8, x9]).val pR2scansH = sR2_6 6812 (.int .i64 x0) (.int .i64 x1) (.int .u64 x2) (.int .u64 x3) (.int .u64 x4) (.int .i64 x5) (.int .u64 x6) (.int .u64 x7) (.int .u64 x8) (.int .i64 x9) := by kernel_rfl
  have e2 : valM (ghN 0 [x0, x1, x2, x3, x4, x5, x6, x7, x8, x9]).val qR2scansH = sR2_6 6812 (.int .i64 x0) (.int .i64 x1) (.int .u64 x2) (.int .u64 x3) (.int .u64 x4) (.int .i64 x5) (.int .u64 x6) (.int .u64 x7) (.int .u64 x8) (.int .i64 x9) := by kernel_rfl
  have e3 : valL (ghN 0 [x0, x1, x2, x3, x4, x5, x6, x7, x8, x9]).val [(.ptr 6783 0)] = [(.ptr 6783 0)] := by kernel_rfl
  have e4 : AV.val (ghN 0 [x0, x1, x2, x3, x4, x5, x6, x7, x8, x9]).val (.sy .u64 (.x 2)) = (.int .u64 x2) := by kernel_rfl
  rw [e1, e2, e3, e4] at h
  exact h
/- cellGr: 5552 -/
def pR2cellGr : List (Nat × Chunk) := sR2_7 8896 (.sy .i64 (.x 0)) (.sy .i64 (.x 1)) (.sy .u64 (.x 2)) (.sy .u64 (.x 3)) (.sy .u64 (.x 4)) (.sy .i64 (.x 5)) (.sy .u64 (.x 6)) (.sy .u64 (.x 7)) (.sy .u64 (.x 8)) (.sy .i64 (.x 9))
def qR2cellGr : List (Nat × Chunk) := sR2_7 8896 (.sy .i64 (.x 0)) (.sy .i64 (.x 1)) (.sy .u64 (.x 2)) (.sy .u64 (.x 3)) (.sy .u64 (.x 4)) (.sy .i64 (.x 5)) (.sy .u64 (.x 6)) (.sy .u64 (.x 7)) (.sy .u64 (.x 8)) (.sy .i64 (.x 9))
theorem rR2cellGr : resIs (preN pR2cellGr .l fun m => callF Tryz.prog T0 O1 D0 60 21 [(.ptr 6783 0), (.str ⟨1, 114⟩), (.str ⟨0, 0⟩), (.int .i64 0)] ⟨9098, m⟩) (.tup [(.sy .i64 (.x 0)), (.bool true)]) 9346 qR2cellGr = true := by kernel_rfl
theorem cR2cellGr (x0 x1 x2 x3 x4 x5 x6 x7 x8 x9 : Int) : Tr Tryz.prog 21 [(.ptr 6783 0), (.str ⟨1, 114⟩), (.str ⟨0, 0⟩), (.int .i64 0)] ⟨9098, memL (sR2_7 8896 (.int .i64 x0) (.int .i64 x1) (.int .u64 x2) (.int .u64 x3) (.int .u64 x4) (.int .i64 x5) (.int .u64 x6) (.int .u64 x7) (.int .u64 x8) (.int .i64 x9))⟩ fun v s => v = (.tup [(.int .i64 x0), (.bool true)]) ∧ s = ⟨9346, memL (sR2_7 8896 (.int .i64 x0) (.int .i64 x1) (.int .u64 x2) (.int .u64 x3) (.int .u64 x4) (.int .i64 x5) (.int .u64 x6) (.int .u64 x7) (.int .u64 x8) (.int .i64 x9))⟩ := by
  have h := stageG_tr (P := Tryz.prog) [x0, x1, x2, x3, x4, x5, x6, x7, x8, x9] [0, 0, 0, 0, 0, 0, 0, 0, 0, 0] rfl (stage0_tr mixed O1_ok D0_ok rR2cellGr (by kernel_rfl)) (by kernel_rfl) (by kernel_rfl) (by kernel_rfl) (by kernel_rfl) (by kernel_rfl)
  have e1 : valM (ghN 0 [x0, x1, x2, x3, x4, x5, x6, x7, x8, x9]).val pR2cellGr = sR2_7 8896 (.int .i64 x0) (.int .i64 x1) (.int .u64 x2) (.int .u64 x3) (.int .u64 x4) (.int .i64 x5) (.int .u64 x6) (.int .u64 x7) (.int .u64 x8) (.int .i64 x9) := by kernel_rfl
  have e2 : valM (ghN 0 [x0, x1, x2, x3, x4, x5, x6, x7, x8, x9]).val qR2cellGr = sR2_7 8896 (.int .i64 x0) (.int .i64 x1) (.int .u64 x2) (.int .u64 x3) (.int .u64 x4) (.int .i64 x5) (.int .u64 x6) (.int .u64 x7) (.int .u64 x8) (.int .i64 x9) := by kernel_rfl
  have e3 : valL (ghN 0 [x0, x1, x2, x3, x4, x5, x6, x7, x8, x9]).val [(.ptr 6783 0), (.str ⟨1, 114⟩), (.str ⟨0, 0⟩), (.int .i64 0)] = [(.ptr 6783 0), (.str ⟨1, 114⟩), (.str ⟨0, 0⟩), (.int .i64 0)] := by kernel_rfl
  have e4 : AV.val (ghN 0 [x0, x1, x2, x3, x4, x5, x6, x7, x8, x9]).val (.tup [(.sy .i64 (.x 0)), (.bool true)]) = (.tup [(.int .i64 x0), (.bool true)]) := by kernel_rfl
  rw [e1, e2, e3, e4] at h
  exact h
/- cellGn: 5574 -/
def pR2cellGn : List (Nat × Chunk) := sR2_7 8896 (.sy .i64 (.x 0)) (.sy .i64 (.x 1)) (.sy .u64 (.x 2)) (.sy .u64 (.x 3)) (.sy .u64 (.x 4)) (.sy .i64 (.x 5)) (.sy .u64 (.x 6)) (.sy .u64 (.x 7)) (.sy .u64 (.x 8)) (.sy .i64 (.x 9))
def qR2cellGn : List (Nat × Chunk) := sR2_7 8896 (.sy .i64 (.x 0)) (.sy .i64 (.x 1)) (.sy .u64 (.x 2)) (.sy .u64 (.x 3)) (.sy .u64 (.x 4)) (.sy .i64 (.x 5)) (.sy .u64 (.x 6)) (.sy .u64 (.x 7)) (.sy .u64 (.x 8)) (.sy .i64 (.x 9))
theorem rR2cellGn : resIs (preN pR2cellGn .l fun m => callF Tryz.prog T0 O1 D0 60 21 [(.ptr 6783 0), (.str ⟨1, 110⟩), (.str ⟨0, 0⟩), (.int .i64 0)] ⟨9346, m⟩) (.tup [(.sy .i64 (.x 1)), (.bool true)]) 9595 qR2cellGn = true := by kernel_rfl
theorem cR2cellGn (x0 x1 x2 x3 x4 x5 x6 x7 x8 x9 : Int) : Tr Tryz.prog 21 [(.ptr 6783 0), (.str ⟨1, 110⟩), (.str ⟨0, 0⟩), (.int .i64 0)] ⟨9346, memL (sR2_7 8896 (.int .i64 x0) (.int .i64 x1) (.int .u64 x2) (.int .u64 x3) (.int .u64 x4) (.int .i64 x5) (.int .u64 x6) (.int .u64 x7) (.int .u64 x8) (.int .i64 x9))⟩ fun v s => v = (.tup [(.int .i64 x1), (.bool true)]) ∧ s = ⟨9595, memL (sR2_7 8896 (.int .i64 x0) (.int .i64 x1) (.int .u64 x2) (.int .u64 x3) (.int .u64 x4) (.int .i64 x5) (.int .u64 x6) (.int .u64 x7) (.int .u64 x8) (.int .i64 x9))⟩ := by
  have h := stageG_tr (P := Tryz.prog) [x0, x1, x2, x3, x4, x5, x6, x7, x8, x9] [0, 0, 0, 0, 0, 0, 0, 0, 0, 0] rfl (stage0_tr mixed O1_ok D0_ok rR2cellGn (by kernel_rfl)) (by kernel_rfl) (by kernel_rfl) (by kernel_rfl) (by kernel_rfl) (by kernel_rfl)
  have e1 : valM (ghN 0 [x0, x1, x2, x3, x4, x5, x6, x7, x8, x9]).val pR2cellGn = sR2_7 8896 (.int .i64 x0) (.int .i64 x1) (.int .u64 x2) (.int .u64 x3) (.int .u64 x4) (.int .i64 x5) (.int .u64 x6) (.int .u64 x7) (.int .u64 x8) (.int .i64 x9) := by kernel_rfl
  have e2 : valM (ghN 0 [x0, x1, x2, x3, x4, x5, x6, x7, x8, x9]).val qR2cellGn = sR2_7 8896 (.int .i64 x0) (.int .i64 x1) (.int .u64 x2) (.int .u64 x3) (.int .u64 x4) (.int .i64 x5) (.int .u64 x6) (.int .u64 x7) (.int .u64 x8) (.int .i64 x9) := by kernel_rfl
  have e3 : valL (ghN 0 [x0, x1, x2, x3, x4, x5, x6, x7, x8, x9]).val [(.ptr 6783 0), (.str ⟨1, 110⟩), (.str ⟨0, 0⟩), (.int .i64 0)] = [(.ptr 6783 0), (.str ⟨1, 110⟩), (.str ⟨0, 0⟩), (.int .i64 0)] := by kernel_rfl
  have e4 : AV.val (ghN 0 [x0, x1, x2, x3, x4, x5, x6, x7, x8, x9]).val (.tup [(.sy .i64 (.x 1)), (.bool true)]) = (.tup [(.int .i64 x1), (.bool true)]) := by kernel_rfl
  rw [e1, e2, e3, e4] at h
  exact h
/- scansG: 12 -/
def pR2scansG : List (Nat × Chunk) := sR2_7 8896 (.sy .i64 (.x 0)) (.sy .i64 (.x 1)) (.sy .u64 (.x 2)) (.sy .u64 (.x 3)) (.sy .u64 (.x 4)) (.sy .i64 (.x 5)) (.sy .u64 (.x 6)) (.sy .u64 (.x 7)) (.sy .u64 (.x 8)) (.sy .i64 (.x 9))
def qR2scansG : List (Nat × Chunk) := sR2_7 8896 (.sy .i64 (.x 0)) (.sy .i64 (.x 1)) (.sy .u64 (.x 2)) (.sy .u64 (.x 3)) (.sy .u64 (.x 4)) (.sy .i64 (.x 5)) (.sy .u64 (.x 6)) (.sy .u64 (.x 7)) (.sy .u64 (.x 8)) (.sy .i64 (.x 9))
theorem rR2scansG : resIs (preN pR2scansG .l fun m => callF Tryz.prog T0 O1 D0 60 23 [(.ptr 6783 0)] ⟨9595, m⟩) (.sy .u64 (.x 2)) 9595 qR2scansG = true := by kernel_rfl
theorem cR2scansG (x0 x1 x2 x3 x4 x5 x6 x7 x8 x9 : Int) : Tr Tryz.prog 23 [(.ptr 6783 0)] ⟨9595, memL (sR2_7 8896 (.int .i64 x0) (.int .i64 x1) (.int .u64 x2) (.int .u64 x3) (.int .u64 x4) (.int .i64 x5) (.int .u64 x6) (.int .u64 x7) (.int .u64 x8) (.int .i64 x9))⟩ fun v s => v = (.int .u64 x2) ∧ s = ⟨9595, memL (sR2_7 8896 (.int .i64 x0) (.int .i64 x1) (.int .u64 x2) (.int .u64 x3) (.int .u64 x4) (.int .i64 x5) (.int .u64 x6) (.int .u64 x7) (.int .u64 x8) (.int .i64 x9))⟩ := by
  have h := stageG_tr (P := Tryz.prog) [x0, x1, x2, x3, x4, x5, x6, x7, x8, x9] [0, 0, 0, 0, 0, 0, 0, 0, 0, 0] rfl (stage0_tr mixed O1_ok D0_ok rR2scansG (by kernel_rfl)) (by kernel_rfl) (by kernel_rfl) (by kernel_rfl) (by kernel_rfl) (by kernel_rfl)
  have e1 : valM (ghN 0 [x0, x1, x2, x3, x4, x5, x6, x7, x8, x9]).val pR2scansG = sR2_7 8896 (.int .i64 x0) (.int .i64 x1) (.int .u64 x2) (.int .u64 x3) (.int .u64 x4) (.int .i64 x5) (.int .u64 x6) (.int .u64 x7) (.int .u64 x8) (.int .i64 x9) := by kernel_rfl
  have e2 : valM (ghN 0 [x0, x1, x2, x3, x4, x5, x6, x7, x8, x9]).val qR2scansG = sR2_7 8896 (.int .i64 x0) (.int .i64 x1) (.int .u64 x2) (.int .u64 x3) (.int .u64 x4) (.int .i64 x5) (.int .u64 x6) (.int .u64 x7) (.int .u64 x8) (.int .i64 x9) := by kernel_rfl
  have e3 : valL (ghN 0 [x0, x1, x2, x3, x4, x5, x6, x7, x8, x9]).val [(.ptr 6783 0)] = [(.ptr 6783 0)] := by kernel_rfl
  have e4 : AV.val (ghN 0 [x0, x1, x2, x3, x4, x5, x6, x7, x8, x9]).val (.sy .u64 (.x 2)) = (.int .u64 x2) := by kernel_rfl
  rw [e1, e2, e3, e4] at h
  exact h
end Go.Proofs.YtaafinlbepaboaaGreatDoor
set_option linter.unusedVariables false
set_option linter.unusedSimpArgs false
set_option autoImplicit false
set_option maxRecDepth 100000
namespace Go.Proofs.YtaafinlbepaboaaGreatDoor
open Go.Ab Go.Proofs
/- scanP1: 11157 -/
def pR2scanP1 : List (Nat × Chunk) := sR2_6 6812 (.sy .i64 (.x 0)) (.sy .i64 (.x 1)) (.sy .u64 (.x 2)) (.sy .u64 (.x 3)) (.sy .u64 (.x 4)) (.int .i64 1) (.sy .u64 (.x 6)) (.sy .u64 (.x 7)) (.sy .u64 (.x 8)) (.sy .i64 (.x 9))
def qR2scanP1 : List (Nat × Chunk) := sR2_7 8896 (.sy .i64 (.bin .shr .i64 (.bin .shl .i64 (.bin .shr .i64 (.bin .shl .i64 (.bin .add .i64 (.bin .shr .i64 (.bin .shl .i64 (.bin .shr .i64 (.bin .shl .i64 (.x 0) (.c 48)) (.c 48)) (.c 48)) (.c 48)) (.c 1)) (.c 48)) (.c 48)) (.c 48)) (.c 48))) (.sy .i64 (.bin .shr .i64 (.bin .shl .i64 (.bin .shr .i64 (.bin .shl .i64 (.bin .add .i64 (.bin .shr .i64 (.bin .shl .i64 (.bin .shr .i64 (.bin .shl .i64 (.x 1) (.c 48)) (.c 48)) (.c 48)) (.c 48)) (.c 1)) (.c 48)) (.c 48)) (.c 48)) (.c 48))) (.sy .u64 (.bin .add .u64 (.x 2) (.c 1))) (.sy .u64 (.bin .add .u64 (.x 3) (.c 1))) (.sy .u64 (.bin .add .u64 (.x 2) (.c 1))) (.int .i64 0) (.sy .u64 (.bin .add .u64 (.x 6) (.c 1))) (.sy .u64 (.bin .add .u64 (.x 7) (.c 1))) (.sy .u64 (.bin .add .u64 (.x 8) (.c 1))) (.sy .i64 (.bin .add .i64 (.bin .add .i64 (.x 9) (.c 1)) (.c 1)))
theorem rR2scanP1 : resIs (preN pR2scanP1 .l fun m => callF Tryz.prog T0 O1 D0 60 19 [(.ptr 6783 0)] ⟨8796, m⟩) (.int .i64 0) 9098 qR2scanP1 = true := by kernel_rfl
theorem cR2scanP1 (x0 x1 x2 x3 x4 x5 x6 x7 x8 x9 : Int) : Tr Tryz.prog 19 [(.ptr 6783 0)] ⟨8796, memL (sR2_6 6812 (.int .i64 x0) (.int .i64 x1) (.int .u64 x2) (.int .u64 x3) (.int .u64 x4) (.int .i64 1) (.int .u64 x6) (.int .u64 x7) (.int .u64 x8) (.int .i64 x9))⟩ fun v s => v = (.int .i64 0) ∧ s = ⟨9098, memL (sR2_7 8896 (.int .i64 (sop .shr .i64 (sop .shl .i64 (sop .shr .i64 (sop .shl .i64 (sop .add .i64 (sop .shr .i64 (sop .shl .i64 (sop .shr .i64 (sop .shl .i64 x0 48) 48) 48) 48) 1) 48) 48) 48) 48)) (.int .i64 (sop .shr .i64 (sop .shl .i64 (sop .shr .i64 (sop .shl .i64 (sop .add .i64 (sop .shr .i64 (sop .shl .i64 (sop .shr .i64 (sop .shl .i64 x1 48) 48) 48) 48) 1) 48) 48) 48) 48)) (.int .u64 (sop .add .u64 x2 1)) (.int .u64 (sop .add .u64 x3 1)) (.int .u64 (sop .add .u64 x2 1)) (.int .i64 0) (.int .u64 (sop .add .u64 x6 1)) (.int .u64 (sop .add .u64 x7 1)) (.int .u64 (sop .add .u64 x8 1)) (.int .i64 (sop .add .i64 (sop .add .i64 x9 1) 1)))⟩ := by
  have h := stageG_tr (P := Tryz.prog) [x0, x1, x2, x3, x4, x5, x6, x7, x8, x9] [0, 0, 0, 0, 0, 0, 0, 0, 0, 0] rfl (stage0_tr mixed O1_ok D0_ok rR2scanP1 (by kernel_rfl)) (by kernel_rfl) (by kernel_rfl) (by kernel_rfl) (by kernel_rfl) (by kernel_rfl)
  have e1 : valM (ghN 0 [x0, x1, x2, x3, x4, x5, x6, x7, x8, x9]).val pR2scanP1 = sR2_6 6812 (.int .i64 x0) (.int .i64 x1) (.int .u64 x2) (.int .u64 x3) (.int .u64 x4) (.int .i64 1) (.int .u64 x6) (.int .u64 x7) (.int .u64 x8) (.int .i64 x9) := by kernel_rfl
  have e2 : valM (ghN 0 [x0, x1, x2, x3, x4, x5, x6, x7, x8, x9]).val qR2scanP1 = sR2_7 8896 (.int .i64 (sop .shr .i64 (sop .shl .i64 (sop .shr .i64 (sop .shl .i64 (sop .add .i64 (sop .shr .i64 (sop .shl .i64 (sop .shr .i64 (sop .shl .i64 x0 48) 48) 48) 48) 1) 48) 48) 48) 48)) (.int .i64 (sop .shr .i64 (sop .shl .i64 (sop .shr .i64 (sop .shl .i64 (sop .add .i64 (sop .shr .i64 (sop .shl .i64 (sop .shr .i64 (sop .shl .i64 x1 48) 48) 48) 48) 1) 48) 48) 48) 48)) (.int .u64 (sop .add .u64 x2 1)) (.int .u64 (sop .add .u64 x3 1)) (.int .u64 (sop .add .u64 x2 1)) (.int .i64 0) (.int .u64 (sop .add .u64 x6 1)) (.int .u64 (sop .add .u64 x7 1)) (.int .u64 (sop .add .u64 x8 1)) (.int .i64 (sop .add .i64 (sop .add .i64 x9 1) 1)) := by kernel_rfl
  have e3 : valL (ghN 0 [x0, x1, x2, x3, x4, x5, x6, x7, x8, x9]).val [(.ptr 6783 0)] = [(.ptr 6783 0)] := by kernel_rfl
  have e4 : AV.val (ghN 0 [x0, x1, x2, x3, x4, x5, x6, x7, x8, x9]).val (.int .i64 0) = (.int .i64 0) := by kernel_rfl
  rw [e1, e2, e3, e4] at h
  exact h
end Go.Proofs.YtaafinlbepaboaaGreatDoor
