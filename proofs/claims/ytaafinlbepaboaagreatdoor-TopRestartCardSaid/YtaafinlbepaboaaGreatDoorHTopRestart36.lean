/- Facts of the program for all cards: it starts no routine. -/
import Derived.Test.YtaafinlbepaboaaGreatDoorProg
import Derived.KernelRfl
import Derived.SevenTiedAt
namespace Go.Proofs.YtaafinlbepaboaaGreatDoor
open Go
theorem g0' : ((Tryz.prog.funcs.toList.drop 0).take 60).any Func.goes = false := by kernel_rfl
theorem g1' : ((Tryz.prog.funcs.toList.drop 60).take 60).any Func.goes = false := by kernel_rfl
theorem g2' : ((Tryz.prog.funcs.toList.drop 120).take 60).any Func.goes = false := by kernel_rfl
theorem g3' : ((Tryz.prog.funcs.toList.drop 180).take 60).any Func.goes = false := by kernel_rfl
theorem g4' : ((Tryz.prog.funcs.toList.drop 240).take 60).any Func.goes = false := by kernel_rfl
theorem g5' : ((Tryz.prog.funcs.toList.drop 300).take 60).any Func.goes = false := by kernel_rfl
theorem g6' : ((Tryz.prog.funcs.toList.drop 360).take 60).any Func.goes = false := by kernel_rfl
theorem g7' : ((Tryz.prog.funcs.toList.drop 420).take 60).any Func.goes = false := by kernel_rfl
theorem g8' : ((Tryz.prog.funcs.toList.drop 480).take 60).any Func.goes = false := by kernel_rfl
theorem g9' : ((Tryz.prog.funcs.toList.drop 540).take 60).any Func.goes = false := by kernel_rfl
theorem gEnd' : (Tryz.prog.funcs.toList.drop 600).isEmpty = true := by kernel_rfl
theorem any_cut' {α : Type} (p : α → Bool) (l : List α) (a n : Nat) (h1 : ((l.drop a).take n).any p = false) (h2 : (l.drop (a + n)).any p = false) : (l.drop a).any p = false := by
  rw [← List.take_append_drop n (l.drop a), List.any_append, h1, List.drop_drop, h2]; rfl
theorem gAll' : Tryz.prog.funcs.toList.any Func.goes = false := by
  have h10 : (Tryz.prog.funcs.toList.drop 600).any Func.goes = false := by
    have := gEnd'
    rw [List.isEmpty_iff] at this
    rw [this]; rfl
  have h9 := any_cut' Func.goes _ 540 60 g9' h10
  have h8 := any_cut' Func.goes _ 480 60 g8' h9
  have h7 := any_cut' Func.goes _ 420 60 g7' h8
  have h6 := any_cut' Func.goes _ 360 60 g6' h7
  have h5 := any_cut' Func.goes _ 300 60 g5' h6
  have h4 := any_cut' Func.goes _ 240 60 g4' h5
  have h3 := any_cut' Func.goes _ 180 60 g3' h4
  have h2 := any_cut' Func.goes _ 120 60 g2' h3
  have h1 := any_cut' Func.goes _ 60 60 g1' h2
  have h0 := any_cut' Func.goes _ 0 60 g0' h1
  exact h0
theorem hall' : ∀ f, Tryz.prog.goes f = false := fun f => by
  unfold Program.goes
  rw [Bool.or_eq_false_iff]
  constructor
  · rw [List.any_eq_false]
    intro g _ hg
    cases hf : Tryz.prog.funcs[g]? with
    | none => rw [hf] at hg; simp at hg
    | some fn =>
      rw [hf, Option.any_some] at hg
      have hm : fn ∈ Tryz.prog.funcs.toList := by
        rw [← Array.getElem?_toList] at hf
        exact List.mem_of_getElem? hf
      exact absurd hg ((List.any_eq_false.1 gAll') fn hm)
  · rw [← Array.any_toList, gAll', Bool.and_false]
theorem mainIs' : Tryz.prog.mainIs = some (true, "78d83abfbc6fc6f6aae5c5cdd69acf07ca051c214993daff8f1bde5dcd01c483".toList) := by kernel_rfl
theorem looks' : Tryz.prog.looks [] = true := by kernel_rfl
end Go.Proofs.YtaafinlbepaboaaGreatDoor
