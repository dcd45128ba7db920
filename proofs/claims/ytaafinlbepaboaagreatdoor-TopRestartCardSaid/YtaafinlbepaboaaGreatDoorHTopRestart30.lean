/- TopRestart: stages (R2). TopRestart: stages (R2). -/
import Derived.Test.YtaafinlbepaboaaGreatDoorHTopRestart28
set_option linter.unusedVariables false
set_option linter.unusedSimpArgs false
set_option autoImplicit false
set_option maxRecDepth 100000
namespace Go.Proofs.YtaafinlbepaboaaGreatDoor
open Go.Ab Go.Proofs
/- scanF: 22056 -/
def pR2scanF : List (Nat × Chunk) := sR2_3 6812 (.sy .i64 (.x 0)) (.sy .i64 (.x 1)) (.sy .u64 (.x 2)) (.sy .u64 (.x 3)) (.sy .u64 (.x 4)) (.sy .i64 (.x 5)) (.sy .u64 (.x 6)) (.sy .u64 (.x 7)) (.sy .u64 (.x 8)) (.sy .i64 (.x 9))
def qR2scanF : List (Nat × Chunk) := sR2_4 6812 (.sy .i64 (.x 0)) (.sy .i64 (.x 1)) (.sy .u64 (.x 2)) (.sy .u64 (.x 3)) (.sy .u64 (.x 4)) (.sy .i64 (.x 5)) (.sy .u64 (.x 6)) (.sy .u64 (.x 7)) (.sy .u64 (.bin .add .u64 (.x 8) (.c 1))) (.sy .i64 (.x 9))
theorem rR2scanF : resIs (preN pR2scanF .l fun m => callF Tryz.prog T0 O1 D0 60 19 [(.ptr 6783 0)] ⟨7024, m⟩) (.int .i64 3) 7761 qR2scanF = true := by kernel_rfl
theorem cR2scanF (x0 x1 x2 x3 x4 x5 x6 x7 x8 x9 : Int) : Tr Tryz.prog 19 [(.ptr 6783 0)] ⟨7024, memL (sR2_3 6812 (.int .i64 x0) (.int .i64 x1) (.int .u64 x2) (.int .u64 x3) (.int .u64 x4) (.int .i64 x5) (.int .u64 x6) (.int .u64 x7) (.int .u64 x8) (.int .i64 x9))⟩ fun v s => v = (.int .i64 3) ∧ s = ⟨7761, memL (sR2_4 6812 (.int .i64 x0) (.int .i64 x1) (.int .u64 x2) (.int .u64 x3) (.int .u64 x4) (.int .i64 x5) (.int .u64 x6) (.int .u64 x7) (.int .u64 (sop .add .u64 x8 1)) (.int .i64 x9))⟩ := by
  have h := stageG_tr (P := Tryz.prog) [x0, x1, x2, x3, x4, x5, x6, x7, x8, x9] [0, 0, 0, 0, 0, 0, 0, 0, 0, 0] rfl (stage0_tr mixed O1_ok D0_ok rR2scanF (by kernel_rfl)) (by kernel_rfl) (by kernel_rfl) (by kernel_rfl) (by kernel_rfl) (by kernel_rfl)
  have e1 : valM (ghN 0 [x0, x1, x2, x3, x4, x5, x6, x7, x8, x9]).val pR2scanF = sR2_3 6812 (.int .i64 x0) (.int .i64 x1) (.int .u64 x2) (.int .u64 x3) (.int .u64 x4) (.int .i64 x5) (.int .u64 x6) (.int .u64 x7) (.int .u64 x8) (.int .i64 x9) := by kernel_rfl
  have e2 : valM (ghN 0 [x0, x1, x2, x3, x4, x5, x6, x7, x8, x9]).val qR2scanF = sR2_4 6812 (.int .i64 x0) (.int .i64 x1) (.int .u64 x2) (.int .u64 x3) (.int .u64 x4) (.int .i64 x5) (.int .u64 x6) (.int .u64 x7) (.int .u64 (sop .add .u64 x8 1)) (.int .i64 x9) := by kernel_rfl
  have e3 : valL (ghN 0 [x0, x1, x2, x3, x4, x5, x6, x7, x8, x9]).val [(.ptr 6783 0)] = [(.ptr 6783 0)] := by kernel_rfl
  have e4 : AV.val (ghN 0 [x0, x1, x2, x3, x4, x5, x6, x7, x8, x9]).val (.int .i64 3) = (.int .i64 3) := by kernel_rfl
  rw [e1, e2, e3, e4] at h
  exact h
/- put0: 631 -/
def pR2put0 : List (Nat × Chunk) := sR2_4 6812 (.sy .i64 (.x 0)) (.sy .i64 (.x 1)) (.sy .u64 (.x 2)) (.sy .u64 (.x 3)) (.sy .u64 (.x 4)) (.sy .i64 (.x 5)) (.sy .u64 (.x 6)) (.sy .u64 (.x 7)) (.sy .u64 (.x 8)) (.sy .i64 (.x 9))
def qR2put0 : List (Nat × Chunk) := sR2_5 6812 (.sy .i64 (.x 0)) (.sy .i64 (.x 1)) (.sy .u64 (.x 2)) (.sy .u64 (.x 3)) (.sy .u64 (.x 4)) (.sy .i64 (.x 5)) (.sy .u64 (.x 6)) (.sy .u64 (.x 7)) (.sy .u64 (.x 8)) (.sy .i64 (.x 9))
theorem rR2put0 : resIs (preN pR2put0 .l fun m => callF Tryz.prog T0 O1 D0 60 20 [(.int .u8 0), (.ptr 6985 0), (.ptr 6988 0)] ⟨8258, m⟩) (.tup []) 8291 qR2put0 = true := by kernel_rfl
theorem cR2put0 (x0 x1 x2 x3 x4 x5 x6 x7 x8 x9 : Int) : Tr Tryz.prog 20 [(.int .u8 0), (.ptr 6985 0), (.ptr 6988 0)] ⟨8258, memL (sR2_4 6812 (.int .i64 x0) (.int .i64 x1) (.int .u64 x2) (.int .u64 x3) (.int .u64 x4) (.int .i64 x5) (.int .u64 x6) (.int .u64 x7) (.int .u64 x8) (.int .i64 x9))⟩ fun v s => v = (.tup []) ∧ s = ⟨8291, memL (sR2_5 6812 (.int .i64 x0) (.int .i64 x1) (.int .u64 x2) (.int .u64 x3) (.int .u64 x4) (.int .i64 x5) (.int .u64 x6) (.int .u64 x7) (.int .u64 x8) (.int .i64 x9))⟩ := by
  have h := stageG_tr (P := Tryz.prog) [x0, x1, x2, x3, x4, x5, x6, x7, x8, x9] [0, 0, 0, 0, 0, 0, 0, 0, 0, 0] rfl (stage0_tr mixed O1_ok D0_ok rR2put0 (by kernel_rfl)) (by kernel_rfl) (by kernel_rfl) (by kernel_rfl) (by kernel_rfl) (by kernel_rfl)
  have e1 : valM (ghN 0 [x0, x1, x2, x3, x4, x5, x6, x7, x8, x9]).val pR2put0 = sR2_4 6812 (.int .i64 x0) (.int .i64 x1) (.int .u64 x2) (.int .u64 x3) (.int .u64 x4) (.int .i64 x5) (.int .u64 x6) (.int .u64 x7) (.int .u64 x8) (.int .i64 x9) := by kernel_rfl
  have e2 : valM (ghN 0 [x0, x1, x2, x3, x4, x5, x6, x7, x8, x9]).val qR2put0 = sR2_5 6812 (.int .i64 x0) (.int .i64 x1) (.int .u64 x2) (.int .u64 x3) (.int .u64 x4) (.int .i64 x5) (.int .u64 x6) (.int .u64 x7) (.int .u64 x8) (.int .i64 x9) := by kernel_rfl
  have e3 : valL (ghN 0 [x0, x1, x2, x3, x4, x5, x6, x7, x8, x9]).val [(.int .u8 0), (.ptr 6985 0), (.ptr 6988 0)] = [(.int .u8 0), (.ptr 6985 0), (.ptr 6988 0)] := by kernel_rfl
  have e4 : AV.val (ghN 0 [x0, x1, x2, x3, x4, x5, x6, x7, x8, x9]).val (.tup []) = (.tup []) := by kernel_rfl
  rw [e1, e2, e3, e4] at h
  exact h
/- restart1: 187 -/
def pR2restart1 : List (Nat × Chunk) := sR2_5 6812 (.sy .i64 (.x 0)) (.sy .i64 (.x 1)) (.sy .u64 (.x 2)) (.sy .u64 (.x 3)) (.sy .u64 (.x 4)) (.sy .i64 (.x 5)) (.sy .u64 (.x 6)) (.sy .u64 (.x 7)) (.sy .u64 (.x 8)) (.sy .i64 (.x 9))
def qR2restart1 : List (Nat × Chunk) := sR2_6 6812 (.sy .i64 (.x 0)) (.int .i64 3) (.sy .u64 (.x 2)) (.sy .u64 (.x 3)) (.sy .u64 (.x 4)) (.sy .i64 (.x 5)) (.sy .u64 (.x 6)) (.sy .u64 (.x 7)) (.sy .u64 (.x 8)) (.sy .i64 (.x 9))
theorem rR2restart1 : resIs (preN pR2restart1 .l fun m => callF Tryz.prog T0 O1 D0 60 22 [(.ptr 6783 0)] ⟨8291, m⟩) (.int .i64 0) 8299 qR2restart1 = true := by kernel_rfl
theorem cR2restart1 (x0 x1 x2 x3 x4 x5 x6 x7 x8 x9 : Int) : Tr Tryz.prog 22 [(.ptr 6783 0)] ⟨8291, memL (sR2_5 6812 (.int .i64 x0) (.int .i64 x1) (.int .u64 x2) (.int .u64 x3) (.int .u64 x4) (.int .i64 x5) (.int .u64 x6) (.int .u64 x7) (.int .u64 x8) (.int .i64 x9))⟩ fun v s => v = (.int .i64 0) ∧ s = ⟨8299, memL (sR2_6 6812 (.int .i64 x0) (.int .i64 3) (.int .u64 x2) (.int .u64 x3) (.int .u64 x4) (.int .i64 x5) (.int .u64 x6) (.int .u64 x7) (.int .u64 x8) (.int .i64 x9))⟩ := by
  have h := stageG_tr (P := Tryz.prog) [x0, x1, x2, x3, x4, x5, x6, x7, x8, x9] [0, 0, 0, 0, 0, 0, 0, 0, 0, 0] rfl (stage0_tr mixed O1_ok D0_ok rR2restart1 (by kernel_rfl)) (by kernel_rfl) (by kernel_rfl) (by kernel_rfl) (by kernel_rfl) (by kernel_rfl)
  have e1 : valM (ghN 0 [x0, x1, x2, x3, x4, x5, x6, x7, x8, x9]).val pR2restart1 = sR2_5 6812 (.int .i64 x0) (.int .i64 x1) (.int .u64 x2) (.int .u64 x3) (.int .u64 x4) (.int .i64 x5) (.int .u64 x6) (.int .u64 x7) (.int .u64 x8) (.int .i64 x9) := by kernel_rfl
  have e2 : valM (ghN 0 [x0, x1, x2, x3, x4, x5, x6, x7, x8, x9]).val qR2restart1 = sR2_6 6812 (.int .i64 x0) (.int .i64 3) (.int .u64 x2) (.int .u64 x3) (.int .u64 x4) (.int .i64 x5) (.int .u64 x6) (.int .u64 x7) (.int .u64 x8) (.int .i64 x9) := by kernel_rfl
  have e3 : valL (ghN 0 [x0, x1, x2, x3, x4, x5, x6, x7, x8, x9]).val [(.ptr 6783 0)] = [(.ptr 6783 0)] := by kernel_rfl
  have e4 : AV.val (ghN 0 [x0, x1, x2, x3, x4, x5, x6, x7, x8, x9]).val (.int .i64 0) = (.int .i64 0) := by kernel_rfl
  rw [e1, e2, e3, e4] at h
  exact h
/- restart2: 9 -/
def pR2restart2 : List (Nat × Chunk) := sR2_6 6812 (.sy .i64 (.x 0)) (.sy .i64 (.x 1)) (.sy .u64 (.x 2)) (.sy .u64 (.x 3)) (.sy .u64 (.x 4)) (.sy .i64 (.x 5)) (.sy .u64 (.x 6)) (.sy .u64 (.x 7)) (.sy .u64 (.x 8)) (.sy .i64 (.x 9))
def qR2restart2 : List (Nat × Chunk) := sR2_6 6812 (.sy .i64 (.x 0)) (.sy .i64 (.x 1)) (.sy .u64 (.x 2)) (.sy .u64 (.x 3)) (.sy .u64 (.x 4)) (.sy .i64 (.x 5)) (.sy .u64 (.x 6)) (.sy .u64 (.x 7)) (.sy .u64 (.x 8)) (.sy .i64 (.x 9))
theorem rR2restart2 : resIs (preN pR2restart2 .l fun m => callF Tryz.prog T0 O1 D0 60 22 [(.ptr 6783 0)] ⟨8299, m⟩) (.int .i64 272) 8299 qR2restart2 = true := by kernel_rfl
theorem cR2restart2 (x0 x1 x2 x3 x4 x5 x6 x7 x8 x9 : Int) : Tr Tryz.prog 22 [(.ptr 6783 0)] ⟨8299, memL (sR2_6 6812 (.int .i64 x0) (.int .i64 x1) (.int .u64 x2) (.int .u64 x3) (.int .u64 x4) (.int .i64 x5) (.int .u64 x6) (.int .u64 x7) (.int .u64 x8) (.int .i64 x9))⟩ fun v s => v = (.int .i64 272) ∧ s = ⟨8299, memL (sR2_6 6812 (.int .i64 x0) (.int .i64 x1) (.int .u64 x2) (.int .u64 x3) (.int .u64 x4) (.int .i64 x5) (.int .u64 x6) (.int .u64 x7) (.int .u64 x8) (.int .i64 x9))⟩ := by
  have h := stageG_tr (P := Tryz.prog) [x0, x1, x2, x3, x4, x5, x6, x7, x8, x9] [0, 0, 0, 0, 0, 0, 0, 0, 0, 0] rfl (stage0_tr mixed O1_ok D0_ok rR2restart2 (by kernel_rfl)) (by kernel_rfl) (by kernel_rfl) (by kernel_rfl) (by kernel_rfl) (by kernel_rfl)
  have e1 : valM (ghN 0 [x0, x1, x2, x3, x4, x5, x6, x7, x8, x9]).val pR2restart2 = sR2_6 6812 (.int .i64 x0) (.int .i64 x1) (.int .u64 x2) (.int .u64 x3) (.int .u64 x4) (.int .i64 x5) (.int .u64 x6) (.int .u64 x7) (.int .u64 x8) (.int .i64 x9) := by kernel_rfl
  have e2 : valM (ghN 0 [x0, x1, x2, x3, x4, x5, x6, x7, x8, x9]).val qR2restart2 = sR2_6 6812 (.int .i64 x0) (.int .i64 x1) (.int .u64 x2) (.int .u64 x3) (.int .u64 x4) (.int .i64 x5) (.int .u64 x6) (.int .u64 x7) (.int .u64 x8) (.int .i64 x9) := by kernel_rfl
  have e3 : valL (ghN 0 [x0, x1, x2, x3, x4, x5, x6, x7, x8, x9]).val [(.ptr 6783 0)] = [(.ptr 6783 0)] := by kernel_rfl
  have e4 : AV.val (ghN 0 [x0, x1, x2, x3, x4, x5, x6, x7, x8, x9]).val (.int .i64 272) = (.int .i64 272) := by kernel_rfl
  rw [e1, e2, e3, e4] at h
  exact h
end Go.Proofs.YtaafinlbepaboaaGreatDoor
set_option linter.unusedVariables false
set_option linter.unusedSimpArgs false
set_option autoImplicit false
set_option maxRecDepth 100000
namespace Go.Proofs.YtaafinlbepaboaaGreatDoor
open Go.Ab Go.Proofs
/- cellDr: 5552 -/
def pR2cellDr : List (Nat × Chunk) := sR2_4 6812 (.sy .i64 (.x 0)) (.sy .i64 (.x 1)) (.sy .u64 (.x 2)) (.sy .u64 (.x 3)) (.sy .u64 (.x 4)) (.sy .i64 (.x 5)) (.sy .u64 (.x 6)) (.sy .u64 (.x 7)) (.sy .u64 (.x 8)) (.sy .i64 (.x 9))
def qR2cellDr : List (Nat × Chunk) := sR2_4 6812 (.sy .i64 (.x 0)) (.sy .i64 (.x 1)) (.sy .u64 (.x 2)) (.sy .u64 (.x 3)) (.sy .u64 (.x 4)) (.sy .i64 (.x 5)) (.sy .u64 (.x 6)) (.sy .u64 (.x 7)) (.sy .u64 (.x 8)) (.sy .i64 (.x 9))
theorem rR2cellDr : resIs (preN pR2cellDr .l fun m => callF Tryz.prog T0 O1 D0 60 21 [(.ptr 6783 0), (.str ⟨1, 114⟩), (.str ⟨0, 0⟩), (.int .i64 0)] ⟨7761, m⟩) (.tup [(.sy .i64 (.x 0)), (.bool true)]) 8009 qR2cellDr = true := by kernel_rfl
theorem cR2cellDr (x0 x1 x2 x3 x4 x5 x6 x7 x8 x9 : Int) : Tr Tryz.prog 21 [(.ptr 6783 0), (.str ⟨1, 114⟩), (.str ⟨0, 0⟩), (.int .i64 0)] ⟨7761, memL (sR2_4 6812 (.int .i64 x0) (.int .i64 x1) (.int .u64 x2) (.int .u64 x3) (.int .u64 x4) (.int .i64 x5) (.int .u64 x6) (.int .u64 x7) (.int .u64 x8) (.int .i64 x9))⟩ fun v s => v = (.tup [(.int .i64 x0), (.bool true)]) ∧ s = ⟨8009, memL (sR2_4 6812 (.int .i64 x0) (.int .i64 x1) (.int .u64 x2) (.int .u64 x3) (.int .u64 x4) (.int .i64 x5) (.int .u64 x6) (.int .u64 x7) (.int .u64 x8) (.int .i64 x9))⟩ := by
  have h := stageG_tr (P := Tryz.prog) [x0, x1, x2, x3, x4, x5, x6, x7, x8, x9] [0, 0, 0, 0, 0, 0, 0, 0, 0, 0] rfl (stage0_tr mixed O1_ok D0_ok rR2cellDr (by kernel_rfl)) (by kernel_rfl) (by kernel_rfl) (by kernel_rfl) (by kernel_rfl) (by kernel_rfl)
  have e1 : valM (ghN 0 [x0, x1, x2, x3, x4, x5, x6, x7, x8, x9]).val pR2cellDr = sR2_4 6812 (.int .i64 x0) (.int .i64 x1) (.int .u64 x2) (.int .u64 x3) (.int .u64 x4) (.int .i64 x5) (.int .u64 x6) (.int .u64 x7) (.int .u64 x8) (.int .i64 x9) := by kernel_rfl
  have e2 : valM (ghN 0 [x0, x1, x2, x3, x4, x5, x6, x7, x8, x9]).val qR2cellDr = sR2_4 6812 (.int .i64 x0) (.int .i64 x1) (.int .u64 x2) (.int .u64 x3) (.int .u64 x4) (.int .i64 x5) (.int .u64 x6) (.int .u64 x7) (.int .u64 x8) (.int .i64 x9) := by kernel_rfl
  have e3 : valL (ghN 0 [x0, x1, x2, x3, x4, x5, x6, x7, x8, x9]).val [(.ptr 6783 0), (.str ⟨1, 114⟩), (.str ⟨0, 0⟩), (.int .i64 0)] = [(.ptr 6783 0), (.str ⟨1, 114⟩), (.str ⟨0, 0⟩), (.int .i64 0)] := by kernel_rfl
  have e4 : AV.val (ghN 0 [x0, x1, x2, x3, x4, x5, x6, x7, x8, x9]).val (.tup [(.sy .i64 (.x 0)), (.bool true)]) = (.tup [(.int .i64 x0), (.bool true)]) := by kernel_rfl
  rw [e1, e2, e3, e4] at h
  exact h
/- cellDn: 5574 -/
def pR2cellDn : List (Nat × Chunk) := sR2_4 6812 (.sy .i64 (.x 0)) (.sy .i64 (.x 1)) (.sy .u64 (.x 2)) (.sy .u64 (.x 3)) (.sy .u64 (.x 4)) (.sy .i64 (.x 5)) (.sy .u64 (.x 6)) (.sy .u64 (.x 7)) (.sy .u64 (.x 8)) (.sy .i64 (.x 9))
def qR2cellDn : List (Nat × Chunk) := sR2_4 6812 (.sy .i64 (.x 0)) (.sy .i64 (.x 1)) (.sy .u64 (.x 2)) (.sy .u64 (.x 3)) (.sy .u64 (.x 4)) (.sy .i64 (.x 5)) (.sy .u64 (.x 6)) (.sy .u64 (.x 7)) (.sy .u64 (.x 8)) (.sy .i64 (.x 9))
theorem rR2cellDn : resIs (preN pR2cellDn .l fun m => callF Tryz.prog T0 O1 D0 60 21 [(.ptr 6783 0), (.str ⟨1, 110⟩), (.str ⟨0, 0⟩), (.int .i64 0)] ⟨8009, m⟩) (.tup [(.sy .i64 (.x 1)), (.bool true)]) 8258 qR2cellDn = true := by kernel_rfl
theorem cR2cellDn (x0 x1 x2 x3 x4 x5 x6 x7 x8 x9 : Int) : Tr Tryz.prog 21 [(.ptr 6783 0), (.str ⟨1, 110⟩), (.str ⟨0, 0⟩), (.int .i64 0)] ⟨8009, memL (sR2_4 6812 (.int .i64 x0) (.int .i64 x1) (.int .u64 x2) (.int .u64 x3) (.int .u64 x4) (.int .i64 x5) (.int .u64 x6) (.int .u64 x7) (.int .u64 x8) (.int .i64 x9))⟩ fun v s => v = (.tup [(.int .i64 x1), (.bool true)]) ∧ s = ⟨8258, memL (sR2_4 6812 (.int .i64 x0) (.int .i64 x1) (.int .u64 x2) (.int .u64 x3) (.int .u64 x4) (.int .i64 x5) (.int .u64 x6) (.int .u64 x7) (.int .u64 x8) (.int .i64 x9))⟩ := by
  have h := stageG_tr (P := Tryz.prog) [x0, x1, x2, x3, x4, x5, x6, x7, x8, x9] [0, 0, 0, 0, 0, 0, 0, 0, 0, 0] rfl (stage0_tr mixed O1_ok D0_ok rR2cellDn (by kernel_rfl)) (by kernel_rfl) (by kernel_rfl) (by kernel_rfl) (by kernel_rfl) (by kernel_rfl)
  have e1 : valM (ghN 0 [x0, x1, x2, x3, x4, x5, x6, x7, x8, x9]).val pR2cellDn = sR2_4 6812 (.int .i64 x0) (.int .i64 x1) (.int .u64 x2) (.int .u64 x3) (.int .u64 x4) (.int .i64 x5) (.int .u64 x6) (.int .u64 x7) (.int .u64 x8) (.int .i64 x9) := by kernel_rfl
  have e2 : valM (ghN 0 [x0, x1, x2, x3, x4, x5, x6, x7, x8, x9]).val qR2cellDn = sR2_4 6812 (.int .i64 x0) (.int .i64 x1) (.int .u64 x2) (.int .u64 x3) (.int .u64 x4) (.int .i64 x5) (.int .u64 x6) (.int .u64 x7) (.int .u64 x8) (.int .i64 x9) := by kernel_rfl
  have e3 : valL (ghN 0 [x0, x1, x2, x3, x4, x5, x6, x7, x8, x9]).val [(.ptr 6783 0), (.str ⟨1, 110⟩), (.str ⟨0, 0⟩), (.int .i64 0)] = [(.ptr 6783 0), (.str ⟨1, 110⟩), (.str ⟨0, 0⟩), (.int .i64 0)] := by kernel_rfl
  have e4 : AV.val (ghN 0 [x0, x1, x2, x3, x4, x5, x6, x7, x8, x9]).val (.tup [(.sy .i64 (.x 1)), (.bool true)]) = (.tup [(.int .i64 x1), (.bool true)]) := by kernel_rfl
  rw [e1, e2, e3, e4] at h
  exact h
/- cellFr: 5552 -/
def pR2cellFr : List (Nat × Chunk) := sR2_6 6812 (.sy .i64 (.x 0)) (.sy .i64 (.x 1)) (.sy .u64 (.x 2)) (.sy .u64 (.x 3)) (.sy .u64 (.x 4)) (.sy .i64 (.x 5)) (.sy .u64 (.x 6)) (.sy .u64 (.x 7)) (.sy .u64 (.x 8)) (.sy .i64 (.x 9))
def qR2cellFr : List (Nat × Chunk) := sR2_6 6812 (.sy .i64 (.x 0)) (.sy .i64 (.x 1)) (.sy .u64 (.x 2)) (.sy .u64 (.x 3)) (.sy .u64 (.x 4)) (.sy .i64 (.x 5)) (.sy .u64 (.x 6)) (.sy .u64 (.x 7)) (.sy .u64 (.x 8)) (.sy .i64 (.x 9))
theorem rR2cellFr : resIs (preN pR2cellFr .l fun m => callF Tryz.prog T0 O1 D0 60 21 [(.ptr 6783 0), (.str ⟨1, 114⟩), (.str ⟨0, 0⟩), (.int .i64 0)] ⟨8299, m⟩) (.tup [(.sy .i64 (.x 0)), (.bool true)]) 8547 qR2cellFr = true := by kernel_rfl
theorem cR2cellFr (x0 x1 x2 x3 x4 x5 x6 x7 x8 x9 : Int) : Tr Tryz.prog 21 [(.ptr 6783 0), (.str ⟨1, 114⟩), (.str ⟨0, 0⟩), (.int .i64 0)] ⟨8299, memL (sR2_6 6812 (.int .i64 x0) (.int .i64 x1) (.int .u64 x2) (.int .u64 x3) (.int .u64 x4) (.int .i64 x5) (.int .u64 x6) (.int .u64 x7) (.int .u64 x8) (.int .i64 x9))⟩ fun v s => v = (.tup [(.int .i64 x0), (.bool true)]) ∧ s = ⟨8547, memL (sR2_6 6812 (.int .i64 x0) (.int .i64 x1) (.int .u64 x2) (.int .u64 x3) (.int .u64 x4) (.int .i64 x5) (.int .u64 x6) (.int .u64 x7) (.int .u64 x8) (.int .i64 x9))⟩ := by
  have h := stageG_tr (P := Tryz.prog) [x0, x1, x2, x3, x4, x5, x6, x7, x8, x9] [0, 0, 0, 0, 0, 0, 0, 0, 0, 0] rfl (stage0_tr mixed O1_ok D0_ok rR2cellFr (by kernel_rfl)) (by kernel_rfl) (by kernel_rfl) (by kernel_rfl) (by kernel_rfl) (by kernel_rfl)
  have e1 : valM (ghN 0 [x0, x1, x2, x3, x4, x5, x6, x7, x8, x9]).val pR2cellFr = sR2_6 6812 (.int .i64 x0) (.int .i64 x1) (.int .u64 x2) (.int .u64 x3) (.int .u64 x4) (.int .i64 x5) (.int .u64 x6) (.int .u64 x7) (.int .u64 x8) (.int .i64 x9) := by kernel_rfl
  have e2 : valM (ghN 0 [x0, x1, x2, x3, x4, x5, x6, x7, x8, x9]).val qR2cellFr = sR2_6 6812 (.int .i64 x0) (.int .i64 x1) (.int .u64 x2) (.int .u64 x3) (.int .u64 x4) (.int .i64 x5) (.int .u64 x6) (.int .u64 x7) (.int .u64 x8) (.int .i64 x9) := by kernel_rfl
  have e3 : valL (ghN 0 [x0, x1, x2, x3, x4, x5, x6, x7, x8, x9]).val [(.ptr 6783 0), (.str ⟨1, 114⟩), (.str ⟨0, 0⟩), (.int .i64 0)] = [(.ptr 6783 0), (.str ⟨1, 114⟩), (.str ⟨0, 0⟩), (.int .i64 0)] := by kernel_rfl
  have e4 : AV.val (ghN 0 [x0, x1, x2, x3, x4, x5, x6, x7, x8, x9]).val (.tup [(.sy .i64 (.x 0)), (.bool true)]) = (.tup [(.int .i64 x0), (.bool true)]) := by kernel_rfl
  rw [e1, e2, e3, e4] at h
  exact h
/- cellFn: 5574 -/
def pR2cellFn : List (Nat × Chunk) := sR2_6 6812 (.sy .i64 (.x 0)) (.sy .i64 (.x 1)) (.sy .u64 (.x 2)) (.sy .u64 (.x 3)) (.sy .u64 (.x 4)) (.sy .i64 (.x 5)) (.sy .u64 (.x 6)) (.sy .u64 (.x 7)) (.sy .u64 (.x 8)) (.sy .i64 (.x 9))
def qR2cellFn : List (Nat × Chunk) := sR2_6 6812 (.sy .i64 (.x 0)) (.sy .i64 (.x 1)) (.sy .u64 (.x 2)) (.sy .u64 (.x 3)) (.sy .u64 (.x 4)) (.sy .i64 (.x 5)) (.sy .u64 (.x 6)) (.sy .u64 (.x 7)) (.sy .u64 (.x 8)) (.sy .i64 (.x 9))
theorem rR2cellFn : resIs (preN pR2cellFn .l fun m => callF Tryz.prog T0 O1 D0 60 21 [(.ptr 6783 0), (.str ⟨1, 110⟩), (.str ⟨0, 0⟩), (.int .i64 0)] ⟨8547, m⟩) (.tup [(.sy .i64 (.x 1)), (.bool true)]) 8796 qR2cellFn = true := by kernel_rfl
theorem cR2cellFn (x0 x1 x2 x3 x4 x5 x6 x7 x8 x9 : Int) : Tr Tryz.prog 21 [(.ptr 6783 0), (.str ⟨1, 110⟩), (.str ⟨0, 0⟩), (.int .i64 0)] ⟨8547, memL (sR2_6 6812 (.int .i64 x0) (.int .i64 x1) (.int .u64 x2) (.int .u64 x3) (.int .u64 x4) (.int .i64 x5) (.int .u64 x6) (.int .u64 x7) (.int .u64 x8) (.int .i64 x9))⟩ fun v s => v = (.tup [(.int .i64 x1), (.bool true)]) ∧ s = ⟨8796, memL (sR2_6 6812 (.int .i64 x0) (.int .i64 x1) (.int .u64 x2) (.int .u64 x3) (.int .u64 x4) (.int .i64 x5) (.int .u64 x6) (.int .u64 x7) (.int .u64 x8) (.int .i64 x9))⟩ := by
  have h := stageG_tr (P := Tryz.prog) [x0, x1, x2, x3, x4, x5, x6, x7, x8, x9] [0, 0, 0, 0, 0, 0, 0, 0, 0, 0] rfl (stage0_tr mixed O1_ok D0_ok rR2cellFn (by kernel_rfl)) (by kernel_rfl) (by kernel_rfl) (by kernel_rfl) (by kernel_rfl) (by kernel_rfl)
  have e1 : valM (ghN 0 [x0, x1, x2, x3, x4, x5, x6, x7, x8, x9]).val pR2cellFn = sR2_6 6812 (.int .i64 x0) (.int .i64 x1) (.int .u64 x2) (.int .u64 x3) (.int .u64 x4) (.int .i64 x5) (.int .u64 x6) (.int .u64 x7) (.int .u64 x8) (.int .i64 x9) := by kernel_rfl
  have e2 : valM (ghN 0 [x0, x1, x2, x3, x4, x5, x6, x7, x8, x9]).val qR2cellFn = sR2_6 6812 (.int .i64 x0) (.int .i64 x1) (.int .u64 x2) (.int .u64 x3) (.int .u64 x4) (.int .i64 x5) (.int .u64 x6) (.int .u64 x7) (.int .u64 x8) (.int .i64 x9) := by kernel_rfl
  have e3 : valL (ghN 0 [x0, x1, x2, x3, x4, x5, x6, x7, x8, x9]).val [(.ptr 6783 0), (.str ⟨1, 110⟩), (.str ⟨0, 0⟩), (.int .i64 0)] = [(.ptr 6783 0), (.str ⟨1, 110⟩), (.str ⟨0, 0⟩), (.int .i64 0)] := by kernel_rfl
  have e4 : AV.val (ghN 0 [x0, x1, x2, x3, x4, x5, x6, x7, x8, x9]).val (.tup [(.sy .i64 (.x 1)), (.bool true)]) = (.tup [(.int .i64 x1), (.bool true)]) := by kernel_rfl
  rw [e1, e2, e3, e4] at h
  exact h
end Go.Proofs.YtaafinlbepaboaaGreatDoor
