/- The engine: states written as lists, in walks. TopRestart: its code; the place of a number; known. TopRestart (R0): the law. TopRestart (R1): the law. TopRestart (R2): the law. TopRestart: all three faults. -/
import Derived.Test.YtaafinlbepaboaaGreatDoorHTopRestart4
import Derived.Test.YtaafinlbepaboaaGreatDoorHTopRestart3
import Derived.Test.YtaafinlbepaboaaGreatDoorHTopRestart6
import Derived.Test.YtaafinlbepaboaaGreatDoorHTopRestart17
import Derived.Test.YtaafinlbepaboaaGreatDoorHTopRestart18
import Derived.Test.YtaafinlbepaboaaGreatDoorHTopRestart19
import Derived.Test.YtaafinlbepaboaaGreatDoorHTopRestart20
import Derived.Test.YtaafinlbepaboaaGreatDoorHTopRestart21
import Derived.Test.YtaafinlbepaboaaGreatDoorHTopRestart9
import Derived.Test.YtaafinlbepaboaaGreatDoorHTopRestart23
import Derived.Test.YtaafinlbepaboaaGreatDoorHTopRestart24
import Derived.Test.YtaafinlbepaboaaGreatDoorHTopRestart25
import Derived.Test.YtaafinlbepaboaaGreatDoorHTopRestart26
import Derived.Test.YtaafinlbepaboaaGreatDoorHTopRestart27
import Derived.Test.YtaafinlbepaboaaGreatDoorHTopRestart12
import Derived.Test.YtaafinlbepaboaaGreatDoorHTopRestart29
import Derived.Test.YtaafinlbepaboaaGreatDoorHTopRestart30
import Derived.Test.YtaafinlbepaboaaGreatDoorHTopRestart31
import Derived.Test.YtaafinlbepaboaaGreatDoorHTopRestart32
import Derived.Test.YtaafinlbepaboaaGreatDoorHTopRestart33
import Derived.Test.YtaafinlbepaboaaGreatDoorHTopRestart15
set_option linter.unusedVariables false
set_option linter.unusedSimpArgs false
set_option autoImplicit false
namespace Go.Ab

section
variable {P : Program}
theorem get_memL : ∀ {L : List (Nat × Chunk)} {n h : Nat} {c : Chunk}, St.get ⟨n, memL L⟩ h = some c → (h, c) ∈ L
  | [], n, h, c, hg => by cases hg
  | p :: r, n, h, c, hg => by
    have hg : St.get ⟨n, (p.1, some p.2) :: memL r⟩ h = some c := hg
    rw [St.get_cons] at hg
    split at hg
    · rename_i he
      cases hg
      subst he
      exact List.mem_cons_self
    · exact List.mem_cons_of_mem _ (get_memL (n := n) hg)
/-- a list of what is known of a state -/
theorem has_of {s : St} {L : List (Nat × Chunk)} (h : L.map (fun p => s.get p.1) = L.map fun p => some p.2) : ∀ p ∈ L, s.get p.1 = some p.2 := by
  induction L with
  | nil => intro p hp; cases hp
  | cons q r ih =>
    simp only [List.map_cons, List.cons.injEq] at h
    intro p hp
    rcases List.mem_cons.1 hp with rfl | hp
    · exact h.1
    · exact ih h.2 p hp
theorem leSt_memL {s : St} {n : Nat} {L : List (Nat × Chunk)} (hn : s.next = n) (h : ∀ p ∈ L, ∃ c, s.get p.1 = some c ∧ LeC c p.2) : LeSt s ⟨n, memL L⟩ :=
  ⟨hn.symm, fun k c hk => h _ (get_memL hk)⟩
/-- a call in a state of which less is used -/
theorem Tr.pre {f : Nat} {args : List AV} {s s0 : St} {K : AV → St → Prop} (hl : LeSt s s0) (h : Tr P f args s0 K) : Tr P f args s K := by
  unfold Tr at *
  obtain ⟨hb, h⟩ := h
  refine ⟨hb, fun ι w M Vs hR hV => Calls.mono (h ι w M Vs (hR.le hl) hV) fun en w' he => ?_⟩
  obtain ⟨V, ι', M', v, s', rfl, hK, h1, h2, h3⟩ := he
  refine ⟨V, ι', M', v, s', rfl, hK, h1, h2, ?_⟩
  have hg := Go.le (ι := ι) (w := w) (M := M) hl (Nat.le_refl s.next)
  have h3' : Go s.next ι s0 w M ι' s' w' M' := by rw [← hl.1]; exact h3
  exact hg.trans h3' hR.lt
theorem Tr.preL {f n : Nat} {args : List AV} {s : St} {K : AV → St → Prop} {L : List (Nat × Chunk)} (hn : s.next = n) (hg : L.map (fun p => s.get p.1) = L.map fun p => some p.2) (h : Tr P f args ⟨n, memL L⟩ K) : Tr P f args s K :=
  Tr.pre (leSt_memL hn fun p hp => ⟨_, has_of hg p hp, .refl _⟩) h
theorem Tr.cast {f : Nat} {args args' : List AV} {s : St} {K : AV → St → Prop} (he : args = args') (h : Tr P f args' s K) : Tr P f args s K := by subst he; exact h
/-- a stage from the empty memory, at a place -/
theorem stage_at {f n N N' : Nat} {args : List AV} {v v' : AV} {l L : List (Nat × Chunk)} (h : ∀ s : St, Tr P f args s fun v' s' => v' = v.ren (shN s.next) ∧ s'.next = s.next + n ∧ ∀ k, s'.get k = match lookM s.next l k with
    | some c => some c
    | none => s.get k) (s : St) (hs : s.next = N) (hv : v.ren (shN N) = v') (hN : N + n = N')
    (hL : (L.all fun p => match lookM N l p.1 with
      | some c => chEq c p.2
      | none => false) = true) : Tr P f args s fun v0 s' => v0 = v' ∧ s' = ⟨N', memL L⟩ := by
  refine Tr.leSt (h s) fun v0 s' hk => ?_
  obtain ⟨rfl, h2, h3⟩ := hk
  rw [hs] at h2 h3
  refine ⟨_, leSt_memL (h2.trans hN) fun p hp => ?_, by rw [hs]; exact hv, rfl⟩
  have := List.all_eq_true.1 hL p hp
  rw [h3]
  split at this
  · rename_i c hc
    exact ⟨c, rfl, chEq_sound this⟩
  · cases this

/-! loops -/
def hokR (n : Nat) (ρ : Nat → Option Nat) : Chunk → Bool
  | .obj l => hokL n ρ l
  | .rowI _ _ => true
  | .rowB _ => true
  | .map l _ => l.all fun x => x.1.hok n ρ && x.2.1.hok n ρ
  | _ => false
theorem hokR_sound {n : Nat} {ρ : Nat → Option Nat} {c : Chunk} (h : hokR n ρ c = true) : c.hok n ρ := by
  cases c <;> simp only [hokR, Bool.false_eq_true, List.all_eq_true, Bool.and_eq_true] at h <;> first | exact h | trivial
theorem memSub_of {ρ : Nat → Option Nat} {n : Nat} {s : St} : ∀ {L : List (Nat × Chunk)}, (L.all fun p => Nat.blt p.1 n && (hokR n ρ p.2 && (ρ p.1).isSome)) = true → L.map (fun p => s.get ((ρ p.1).getD 0)) = L.map (fun p => some (p.2.ren ρ)) → memSub ρ n s (memL L)
  | [], _, _ => trivial
  | p :: r, h, hg => by
    simp only [List.all_cons, Bool.and_eq_true] at h
    simp only [List.map_cons, List.cons.injEq] at hg
    obtain ⟨⟨h1, h2, h3⟩, h4⟩ := h
    refine ⟨⟨hokR_sound h2, h1, ?_⟩, memSub_of h4 hg.2⟩
    obtain ⟨h', e⟩ := Option.isSome_iff_exists.1 h3
    rw [e]
    show s.get h' = _
    rw [← hg.1, e]
    rfl
theorem subL {n0 n : Nat} {e E : Env} {s : St} {L : List (Nat × Chunk)} (rn : List (Nat × Option Nat)) (h1 : (rn.all fun p => Nat.ble n0 p.1) = true) (h2 : Nat.ble n0 n = true) (h3 : nodupN (liveOf (rnm rn) (memL L)) = true)
    (h5 : (L.all fun p => Nat.blt p.1 n && (hokR n (rnm rn) p.2 && (rnm rn p.1).isSome)) = true) (h6 : L.map (fun p => s.get ((rnm rn p.1).getD 0)) = L.map (fun p => some (p.2.ren (rnm rn)))) (h4 : envSub (rnm rn) n e E) : SubW n0 e s E ⟨n, memL L⟩ :=
  ⟨rn, h1, h2, h3, h4, memSub_of h5 h6⟩
end

/-- the newest slot behind so many scans -/
def atf (i : Int) : Int := if i = 0 then -1 else (i - 1) % 2
/-! the place of a number -/
def placeS (a n : Int) : Int := if a.tmod n < 0 then IntKind.i64.wrap (a.tmod n + n) else a.tmod n
theorem placeS_range (a n : Int) (hn : 0 < n) (h2 : n < 1000) : 0 ≤ placeS a n ∧ placeS a n < n := by
  unfold placeS
  have h1 := Int.tmod_lt_of_pos a hn
  have h3 : -n < a.tmod n := by
    have h := Int.tmod_lt_of_pos (-a) hn
    rw [Int.neg_tmod] at h
    omega
  split
  · rw [wrapI64 _ (by omega) (by omega)]; omega
  · omega
end Go.Ab
set_option linter.unusedVariables false
set_option linter.unusedSimpArgs false
set_option autoImplicit false
set_option maxRecDepth 100000
namespace Go.Proofs.YtaafinlbepaboaaGreatDoor
open Go.Ab Go.Proofs
/- rung/rungtop.TopRestart -/
def a4 : ACode := (.seq (.reg [⟨(some 6), .mov (.c (.bool false)), none, false⟩])
 (.seq (.seq (.reg [⟨(some 19), .call 9 [], none, false⟩, ⟨(some 20), .un .not (.t 19), none, false⟩])
 (.cond (.t 20) (.seq (.reg [⟨(some 6), .mov (.c (.bool false)), none, false⟩])
 .ret)
 .skip))
 (.seq (.reg [⟨(some 21), .mov (.t 0), none, false⟩, ⟨(some 22), .call 18 [(.t 21), (.c (.int .i64 10))], none, false⟩, ⟨(some 23), .mov (.t 1), none, false⟩, ⟨(some 24), .call 18 [(.t 23), (.c (.int .i64 3))], none, false⟩, ⟨(some 25), .mov (.t 2), none, false⟩, ⟨(some 26), .call 18 [(.t 25), (.c (.int .i64 6))], none, false⟩, ⟨(some 0), .mov (.t 22), none, false⟩, ⟨(some 1), .mov (.t 24), none, false⟩, ⟨(some 2), .mov (.t 26), none, false⟩])
 (.seq (.reg [⟨(some 27), .bslice 1 .gen [(.str ⟨0, 0⟩), (.str ⟨0, 0⟩), (.str ⟨0, 0⟩)] [(0, 1, (.c (.str ⟨10, 576722402488588995010680⟩))), (1, 1, (.c (.str ⟨13, 3892157502482501329149432060769⟩))), (2, 1, (.c (.str ⟨31, 122438955886599115719949245294171673865584029817472819778643821064568260695⟩)))] 3, none, false⟩, ⟨(some 28), .mov (.t 1), none, false⟩, ⟨(some 29), .idx 1 none false (.t 27) (.t 28), none, false⟩, ⟨(some 30), .load false 1 (.t 29), none, false⟩, ⟨(some 7), .mov (.t 30), none, false⟩])
 (.seq (.reg [⟨(some 32), .mov (.t 7), none, false⟩, ⟨(some 33), .bin .add .other (.c (.str ⟨161, 672471999996352230871125206723115017305096686873747722358840602052447562857901122075724243615400114520386434802703541355388298966569474143610835419814387118814334177051884482927290668283443320703045631578886510736243577906787864208282369659088843507138735092299759803600718161120942920081527788253931609337264786619551070952556121819588378456503479462271185089933659425953346119476925008⟩)) (.t 32), none, false⟩, ⟨(some 34), .bin .add .other (.t 33) (.c (.str ⟨21, 112908545347653375935231839608536305292491725545531⟩)), none, false⟩, ⟨(some 35), .build [(.int .u8 0), (.int .i64 0), (.int .i64 0), (.int .i64 0), (.int .i64 0), .nils] [(1, 1, (.c (.int .i64 50)))], none, false⟩, ⟨(some 36), .call 10 [(.t 34), (.c (.bool false)), (.t 35)], none, false⟩, ⟨(some 31), .mov (.t 36), none, false⟩, ⟨(some 37), .ext (.t 31) 0, none, false⟩, ⟨(some 38), .ext (.t 31) 1, none, false⟩, ⟨(some 8), .alloc [(1, .nilp)], none, false⟩, ⟨none, .store 1 (.t 8) (.t 37), none, false⟩, ⟨(some 9), .mov (.t 38), none, false⟩])
 (.seq (.seq (.reg [⟨(some 39), .load false 1 (.t 8), none, false⟩, ⟨(some 40), .bin .eql .ptr (.t 39) (.c .nilp), none, false⟩])
 (.cond (.t 40) (.seq (.reg [⟨(some 6), .mov (.c (.bool false)), none, false⟩])
 .ret)
 .skip))
 (.seq (.seq (.reg [⟨(some 10), .mov (.c (.int .i64 0)), none, false⟩])
 (.block 0 (.loop (.seq (.seq (.reg [⟨(some 41), .mov (.t 10), none, false⟩, ⟨(some 42), .mov (.t 0), none, false⟩, ⟨(some 43), .bin .lss .other (.t 41) (.t 42), none, false⟩])
 (.cond (.t 43) .skip
 (.exit 0)))
 (.seq (.block 1 (.reg [⟨(some 46), .load false 1 (.t 8), none, false⟩, ⟨(some 47), .call 19 [(.t 46)], none, false⟩]))
 (.reg [⟨(some 44), .mov (.t 10), none, false⟩, ⟨(some 45), .bin .add .other (.t 44) (.c (.int .i64 1)), none, false⟩, ⟨(some 10), .mov (.t 45), none, false⟩]))))))
 (.seq (.reg [⟨(some 49), .load false 1 (.t 8), none, false⟩, ⟨(some 50), .call 11 [(.t 49)], none, false⟩, ⟨(some 48), .mov (.t 50), none, false⟩, ⟨(some 51), .ext (.t 48) 0, none, false⟩, ⟨(some 52), .ext (.t 48) 1, none, false⟩, ⟨(some 11), .alloc [(1, (.int .i64 0))], none, false⟩, ⟨none, .store 1 (.t 11) (.t 51), none, false⟩, ⟨(some 12), .mov (.t 52), none, false⟩])
 (.seq (.reg [⟨(some 53), .mkfn 20 [(.t 8), (.t 11)], none, false⟩, ⟨(some 13), .mov (.t 53), none, false⟩])
 (.seq (.reg [⟨(some 54), .mov (.t 13), none, false⟩, ⟨(some 55), .callv (.t 54) [(.c (.int .u8 1))], none, false⟩])
 (.seq (.seq (.draw [⟨0, ⟨(some 56), .load false 1 (.t 8), none, false⟩, false, [], []⟩, ⟨2, ⟨(some 58), .bslice 1 (.int .i64) [(.int .i64 0), (.int .i64 0), (.int .i64 0)] [(0, 1, (.c (.int .i64 1))), (1, 1, (.c (.int .i64 2))), (2, 1, (.c (.int .i64 3)))] 3, none, false⟩, false, [], []⟩, ⟨3, ⟨(some 59), .mov (.t 1), none, false⟩, false, [], []⟩, ⟨4, ⟨(some 60), .idx 1 none false (.t 58) (.t 59), none, false⟩, false, [], []⟩, ⟨5, ⟨(some 61), .load false 1 (.t 60), none, false⟩, false, [], []⟩, ⟨1, ⟨(some 57), .call 19 [(.t 56)], none, false⟩, true, [], [((.cells false 1), (.t 60))]⟩, ⟨6, ⟨(some 62), .bin .neq .other (.t 57) (.t 61), none, false⟩, false, [], []⟩])
 (.cond (.t 62) (.seq (.reg [⟨(some 6), .mov (.c (.bool false)), none, false⟩])
 .ret)
 .skip))
 (.seq (.reg [⟨(some 64), .load false 1 (.t 8), none, false⟩, ⟨(some 65), .call 21 [(.t 64), (.c (.str ⟨1, 114⟩)), (.c (.str ⟨0, 0⟩)), (.c (.int .i64 0))], none, false⟩, ⟨(some 63), .mov (.t 65), none, false⟩, ⟨(some 66), .ext (.t 63) 0, none, false⟩, ⟨(some 67), .ext (.t 63) 1, none, false⟩, ⟨(some 14), .mov (.t 66), none, false⟩, ⟨(some 15), .mov (.t 67), none, false⟩])
 (.seq (.reg [⟨(some 69), .load false 1 (.t 8), none, false⟩, ⟨(some 70), .call 21 [(.t 69), (.c (.str ⟨1, 110⟩)), (.c (.str ⟨0, 0⟩)), (.c (.int .i64 0))], none, false⟩, ⟨(some 68), .mov (.t 70), none, false⟩, ⟨(some 71), .ext (.t 68) 0, none, false⟩, ⟨(some 72), .ext (.t 68) 1, none, false⟩, ⟨(some 16), .mov (.t 71), none, false⟩, ⟨(some 17), .mov (.t 72), none, false⟩])
 (.seq (.seq (.reg [⟨(some 73), .mov (.t 14), none, false⟩, ⟨(some 74), .mov (.t 0), none, false⟩, ⟨(some 75), .bin .neq .other (.t 73) (.t 74), none, false⟩, ⟨(some 76), .mov (.t 75), none, true⟩, ⟨(some 77), .mov (.t 16), (some (76, false)), false⟩, ⟨(some 78), .mov (.t 0), (some (76, false)), false⟩, ⟨(some 79), .bin .add .other (.c (.int .i64 3)) (.t 78), (some (76, false)), false⟩, ⟨(some 80), .bin .neq .other (.t 77) (.t 79), (some (76, false)), false⟩, ⟨(some 81), .pick (.t 76) (.c (.bool true)) (.t 80), none, false⟩])
 (.cond (.t 81) (.seq (.reg [⟨(some 6), .mov (.c (.bool false)), none, false⟩])
 .ret)
 .skip))
 (.seq (.reg [⟨(some 82), .mov (.t 13), none, false⟩, ⟨(some 83), .callv (.t 82) [(.c (.int .u8 0))], none, false⟩])
 (.seq (.seq (.reg [⟨(some 84), .load false 1 (.t 8), none, false⟩, ⟨(some 85), .call 22 [(.t 84)], none, false⟩, ⟨(some 86), .bin .neq .other (.t 85) (.c (.int .i64 0)), none, false⟩, ⟨(some 87), .mov (.t 86), none, true⟩, ⟨(some 88), .load false 1 (.t 8), (some (87, false)), false⟩, ⟨(some 89), .call 22 [(.t 88)], (some (87, false)), false⟩, ⟨(some 90), .bin .neq .other (.t 89) (.c (.int .i64 272)), (some (87, false)), false⟩, ⟨(some 91), .pick (.t 87) (.c (.bool true)) (.t 90), none, false⟩])
 (.cond (.t 91) (.seq (.reg [⟨(some 6), .mov (.c (.bool false)), none, false⟩])
 .ret)
 .skip))
 (.seq (.reg [⟨(some 93), .load false 1 (.t 8), none, false⟩, ⟨(some 94), .call 21 [(.t 93), (.c (.str ⟨1, 114⟩)), (.c (.str ⟨0, 0⟩)), (.c (.int .i64 0))], none, false⟩, ⟨(some 92), .mov (.t 94), none, false⟩, ⟨(some 95), .ext (.t 92) 0, none, false⟩, ⟨(some 96), .ext (.t 92) 1, none, false⟩, ⟨(some 14), .mov (.t 95), none, false⟩])
 (.seq (.reg [⟨(some 98), .load false 1 (.t 8), none, false⟩, ⟨(some 99), .call 21 [(.t 98), (.c (.str ⟨1, 110⟩)), (.c (.str ⟨0, 0⟩)), (.c (.int .i64 0))], none, false⟩, ⟨(some 97), .mov (.t 99), none, false⟩, ⟨(some 100), .ext (.t 97) 0, none, false⟩, ⟨(some 101), .ext (.t 97) 1, none, false⟩, ⟨(some 16), .mov (.t 100), none, false⟩])
 (.seq (.seq (.reg [⟨(some 102), .mov (.t 14), none, false⟩, ⟨(some 103), .mov (.t 0), none, false⟩, ⟨(some 104), .bin .neq .other (.t 102) (.t 103), none, false⟩, ⟨(some 105), .mov (.t 104), none, true⟩, ⟨(some 106), .mov (.t 16), (some (105, false)), false⟩, ⟨(some 107), .bin .neq .other (.t 106) (.c (.int .i64 3)), (some (105, false)), false⟩, ⟨(some 108), .pick (.t 105) (.c (.bool true)) (.t 107), none, false⟩])
 (.cond (.t 108) (.seq (.reg [⟨(some 6), .mov (.c (.bool false)), none, false⟩])
 .ret)
 .skip))
 (.seq (.seq (.reg [⟨(some 18), .mov (.c (.int .i64 0)), none, false⟩])
 (.block 2 (.loop (.seq (.seq (.reg [⟨(some 109), .mov (.t 18), none, false⟩, ⟨(some 110), .mov (.t 2), none, false⟩, ⟨(some 111), .bin .lss .other (.t 109) (.t 110), none, false⟩])
 (.cond (.t 111) .skip
 (.exit 2)))
 (.seq (.block 3 (.seq (.reg [⟨(some 114), .load false 1 (.t 8), none, false⟩, ⟨(some 115), .call 19 [(.t 114)], none, false⟩, ⟨(some 116), .bin .neq .other (.t 115) (.c (.int .i64 0)), none, false⟩])
 (.cond (.t 116) (.seq (.reg [⟨(some 6), .mov (.c (.bool false)), none, false⟩])
 .ret)
 .skip)))
 (.reg [⟨(some 112), .mov (.t 18), none, false⟩, ⟨(some 113), .bin .add .other (.t 112) (.c (.int .i64 1)), none, false⟩, ⟨(some 18), .mov (.t 113), none, false⟩]))))))
 (.seq (.reg [⟨(some 118), .load false 1 (.t 8), none, false⟩, ⟨(some 119), .call 21 [(.t 118), (.c (.str ⟨1, 114⟩)), (.c (.str ⟨0, 0⟩)), (.c (.int .i64 0))], none, false⟩, ⟨(some 117), .mov (.t 119), none, false⟩, ⟨(some 120), .ext (.t 117) 0, none, false⟩, ⟨(some 121), .ext (.t 117) 1, none, false⟩, ⟨(some 14), .mov (.t 120), none, false⟩])
 (.seq (.reg [⟨(some 123), .load false 1 (.t 8), none, false⟩, ⟨(some 124), .call 21 [(.t 123), (.c (.str ⟨1, 110⟩)), (.c (.str ⟨0, 0⟩)), (.c (.int .i64 0))], none, false⟩, ⟨(some 122), .mov (.t 124), none, false⟩, ⟨(some 125), .ext (.t 122) 0, none, false⟩, ⟨(some 126), .ext (.t 122) 1, none, false⟩, ⟨(some 16), .mov (.t 125), none, false⟩])
 (.seq (.reg [⟨(some 127), .mov (.t 14), none, false⟩, ⟨(some 128), .mov (.t 0), none, false⟩, ⟨(some 129), .mov (.t 2), none, false⟩, ⟨(some 130), .bin .add .other (.t 128) (.t 129), none, false⟩, ⟨(some 131), .bin .eql .other (.t 127) (.t 130), none, false⟩, ⟨(some 132), .mov (.t 131), none, true⟩, ⟨(some 133), .mov (.t 16), (some (132, true)), false⟩, ⟨(some 134), .mov (.t 2), (some (132, true)), false⟩, ⟨(some 135), .bin .add .other (.c (.int .i64 3)) (.t 134), (some (132, true)), false⟩, ⟨(some 136), .bin .eql .other (.t 133) (.t 135), (some (132, true)), false⟩, ⟨(some 137), .pick (.t 132) (.t 136) (.c (.bool false)), none, false⟩, ⟨(some 138), .mov (.t 137), none, true⟩, ⟨(some 139), .load false 1 (.t 8), (some (138, true)), false⟩, ⟨(some 140), .call 23 [(.t 139)], (some (138, true)), false⟩, ⟨(some 141), .mov (.t 0), (some (138, true)), false⟩, ⟨(some 142), .mov (.t 2), (some (138, true)), false⟩, ⟨(some 143), .bin .add .other (.t 141) (.t 142), (some (138, true)), false⟩, ⟨(some 144), .conv (.int .u64) (.t 143), (some (138, true)), false⟩, ⟨(some 145), .bin .eql .other (.t 140) (.t 144), (some (138, true)), false⟩, ⟨(some 146), .pick (.t 138) (.t 145) (.c (.bool false)), none, false⟩, ⟨(some 6), .mov (.t 146), none, false⟩])
 .ret)))))))))))))))))))))))
def r4 : List ARes := [.t 6]
theorem c4 : compF Tryz.prog Tryz.f4 = some (a4, r4) := by kernel_rfl
theorem b4 : hasBody Tryz.prog 4 = true := by kernel_rfl
theorem g4 : Tryz.prog.funcs[4]? = some Tryz.f4 := by kernel_rfl
/- rung/runghelp.Place -/
def a18 : ACode := (.seq (.reg [⟨(some 4), .mov (.c (.int .i64 0)), none, false⟩])
 (.seq (.reg [⟨(some 5), .mov (.t 0), none, false⟩, ⟨(some 6), .mov (.t 1), none, false⟩, ⟨(some 7), .bin .rem .other (.t 5) (.t 6), none, false⟩, ⟨(some 0), .mov (.t 7), none, false⟩])
 (.seq (.seq (.reg [⟨(some 8), .mov (.t 0), none, false⟩, ⟨(some 9), .bin .lss .other (.t 8) (.c (.int .i64 0)), none, false⟩])
 (.cond (.t 9) (.reg [⟨(some 10), .mov (.t 0), none, false⟩, ⟨(some 11), .mov (.t 1), none, false⟩, ⟨(some 12), .bin .add .other (.t 10) (.t 11), none, false⟩, ⟨(some 0), .mov (.t 12), none, false⟩])
 .skip))
 (.seq (.reg [⟨(some 13), .mov (.t 0), none, false⟩, ⟨(some 4), .mov (.t 13), none, false⟩])
 .ret))))
def r18 : List ARes := [.t 4]
theorem c18 : compF Tryz.prog Tryz.f18 = some (a18, r18) := by kernel_rfl
theorem b18 : hasBody Tryz.prog 18 = true := by kernel_rfl
theorem g18 : Tryz.prog.funcs[18]? = some Tryz.f18 := by kernel_rfl

theorem place_ev (a n : Int) (hn : 0 < n) : Ev Tryz.prog 18 [.int .i64 a, .int .i64 n] (.int .i64 (placeS a n)) := by
  refine FrzK.ev rfl (trF g18 b18 c18 ?_)
  conv => whnf
  refine condT (by simp; omega) ?_
  conv => whnf
  refine condS (fun h => ?_) (fun h => ?_)
  · conv => whnf
    refine FrzK.le ?_
    have h : a.tmod n < 0 := by simpa using h
    rw [placeS, if_pos h]
    exact Le.refl _
  · conv => whnf
    refine FrzK.le ?_
    have h : ¬ a.tmod n < 0 := by simpa using h
    rw [placeS, if_neg h]
    exact Le.refl _
theorem knW : Tr Tryz.prog 9 [] ⟨0, []⟩ fun v s => v = .bool true ∧ s = ⟨1855, memL []⟩ :=
  stage_at (n := 1855) (N := 0) (l := mKn) (v := vKn) tKn ⟨0, []⟩ rfl rfl rfl rfl
end Go.Proofs.YtaafinlbepaboaaGreatDoor
set_option linter.unusedVariables false
set_option linter.unusedSimpArgs false
set_option autoImplicit false
set_option maxRecDepth 100000
namespace Go.Proofs.YtaafinlbepaboaaGreatDoor
open Go.Ab Go.Proofs
theorem dR0A (i n u w : Int) (hi : 0 ≤ i ∧ i < 1000) (hn : 0 ≤ n ∧ n < 1000) (hu : 0 ≤ u ∧ u < 1000) (hw : 0 ≤ w ∧ w < 10000) : Tr Tryz.prog 19 [.ptr 6449 0] ⟨6652, memL (sR0_0 6478 (.int .i64 (i)) (.int .i64 (n)) (.int .u64 (i)) (.int .u64 (i)) (.int .u64 (i)) (.int .i64 (atf (i))) (.int .u64 (i + 1)) (.int .u64 (i)) (.int .u64 (u)) (.int .i64 (w)))⟩ fun v s => v = .int .i64 0 ∧ s = ⟨6902, memL (sR0_0 6700 (.int .i64 (i + 1)) (.int .i64 (n + 1)) (.int .u64 (i + 1)) (.int .u64 (i + 1)) (.int .u64 (i + 1)) (.int .i64 (atf (i + 1))) (.int .u64 (i + 1 + 1)) (.int .u64 (i + 1)) (.int .u64 (u + 1)) (.int .i64 (w + 1 + 1)))⟩ := by
  have h01 : i = 0 ∨ (0 < i ∧ (i - 1) % 2 = 0) ∨ (0 < i ∧ (i - 1) % 2 = 1) := by omega
  rcases h01 with h0 | ⟨h0, hp⟩ | ⟨h0, hp⟩
  · rw [show atf i = -1 by unfold atf; rw [if_pos h0], show atf (i + 1) = 0 by unfold atf; rw [if_neg (by omega)]; omega]
    have h := cR0scanAm i n i i i 0 (i + 1) i u w
    simp (disch := omega) only [addU64, addI64, sh48] at h
    exact h
  · rw [show atf i = 0 by unfold atf; rw [if_neg (by omega)]; exact hp, show atf (i + 1) = 1 by unfold atf; rw [if_neg (by omega)]; omega]
    have h := cR0scanA0 i n i i i 0 (i + 1) i u w
    simp (disch := omega) only [addU64, addI64, sh48] at h
    exact h
  · rw [show atf i = 1 by unfold atf; rw [if_neg (by omega)]; exact hp, show atf (i + 1) = 0 by unfold atf; rw [if_neg (by omega)]; omega]
    have h := cR0scanA1 i n i i i 0 (i + 1) i u w
    simp (disch := omega) only [addU64, addI64, sh48] at h
    exact h
theorem dR0P (i n u w : Int) (hi : 0 ≤ i ∧ i < 1000) (hn : 0 ≤ n ∧ n < 1000) (hu : 0 ≤ u ∧ u < 1000) (hw : 0 ≤ w ∧ w < 10000) : Tr Tryz.prog 19 [.ptr 6449 0] ⟨7929, memL (sR0_6 6478 (.int .i64 (i)) (.int .i64 (n)) (.int .u64 (i)) (.int .u64 (i)) (.int .u64 (i)) (.int .i64 (atf (i))) (.int .u64 (i + 1)) (.int .u64 (i)) (.int .u64 (u)) (.int .i64 (w)))⟩ fun v s => v = .int .i64 0 ∧ s = ⟨8231, memL (sR0_7 8029 (.int .i64 (i + 1)) (.int .i64 (n + 1)) (.int .u64 (i + 1)) (.int .u64 (i + 1)) (.int .u64 (i + 1)) (.int .i64 (atf (i + 1))) (.int .u64 (i + 1 + 1)) (.int .u64 (i + 1)) (.int .u64 (u + 1)) (.int .i64 (w + 1 + 1)))⟩ := by
  have h01 : i = 0 ∨ (0 < i ∧ (i - 1) % 2 = 0) ∨ (0 < i ∧ (i - 1) % 2 = 1) := by omega
  rcases h01 with h0 | ⟨h0, hp⟩ | ⟨h0, hp⟩
  · rw [show atf i = -1 by unfold atf; rw [if_pos h0], show atf (i + 1) = 0 by unfold atf; rw [if_neg (by omega)]; omega]
    have h := cR0scanPm i n i i i 0 (i + 1) i u w
    simp (disch := omega) only [addU64, addI64, sh48] at h
    exact h
  · rw [show atf i = 0 by unfold atf; rw [if_neg (by omega)]; exact hp, show atf (i + 1) = 1 by unfold atf; rw [if_neg (by omega)]; omega]
    have h := cR0scanP0 i n i i i 0 (i + 1) i u w
    simp (disch := omega) only [addU64, addI64, sh48] at h
    exact h
  · rw [show atf i = 1 by unfold atf; rw [if_neg (by omega)]; exact hp, show atf (i + 1) = 0 by unfold atf; rw [if_neg (by omega)]; omega]
    have h := cR0scanP1 i n i i i 0 (i + 1) i u w
    simp (disch := omega) only [addU64, addI64, sh48] at h
    exact h
theorem dR0G (i n u w : Int) (hi : 0 ≤ i ∧ i < 1000) (hn : 0 ≤ n ∧ n < 1000) (hu : 0 ≤ u ∧ u < 1000) (hw : 0 ≤ w ∧ w < 10000) (h1 : 0 < i) : Tr Tryz.prog 19 [.ptr 6449 0] ⟨8231, memL (sR0_7 8029 (.int .i64 (i)) (.int .i64 (n)) (.int .u64 (i)) (.int .u64 (i)) (.int .u64 (i)) (.int .i64 (atf (i))) (.int .u64 (i + 1)) (.int .u64 (i)) (.int .u64 (u)) (.int .i64 (w)))⟩ fun v s => v = .int .i64 0 ∧ s = ⟨8481, memL (sR0_7 8279 (.int .i64 (i + 1)) (.int .i64 (n + 1)) (.int .u64 (i + 1)) (.int .u64 (i + 1)) (.int .u64 (i + 1)) (.int .i64 (atf (i + 1))) (.int .u64 (i + 1 + 1)) (.int .u64 (i + 1)) (.int .u64 (u + 1)) (.int .i64 (w + 1 + 1)))⟩ := by
  have h01 : i = 0 ∨ (0 < i ∧ (i - 1) % 2 = 0) ∨ (0 < i ∧ (i - 1) % 2 = 1) := by omega
  rcases h01 with h0 | ⟨h0, hp⟩ | ⟨h0, hp⟩
  · omega
  · rw [show atf i = 0 by unfold atf; rw [if_neg (by omega)]; exact hp, show atf (i + 1) = 1 by unfold atf; rw [if_neg (by omega)]; omega]
    have h := cR0scanG0 i n i i i 0 (i + 1) i u w
    simp (disch := omega) only [addU64, addI64, sh48] at h
    exact h
  · rw [show atf i = 1 by unfold atf; rw [if_neg (by omega)]; exact hp, show atf (i + 1) = 0 by unfold atf; rw [if_neg (by omega)]; omega]
    have h := cR0scanG1 i n i i i 0 (i + 1) i u w
    simp (disch := omega) only [addU64, addI64, sh48] at h
    exact h
theorem madeR0 (s : St) (hs : s.next = 1856) : Tr Tryz.prog 10 aMdR0 s fun v s => v = .tup [.ptr 6449 0, .ptr 1857 0] ∧ s = ⟨6651, memL ((sR0_0 6478 (.int .i64 (0)) (.int .i64 (3)) (.int .u64 (0)) (.int .u64 (0)) (.int .u64 (0)) (.int .i64 (-1)) (.int .u64 (1)) (.int .u64 (0)) (.int .u64 (0)) (.int .i64 (0))).filter fun p => !Nat.beq p.1 6651)⟩ :=
  stage_at tMdR0 s hs (by kernel_rfl) (by kernel_rfl) (by kernel_rfl)
theorem lawR0 (a b c : Int) (hb : placeS b 3 = 0) : Tr Tryz.prog 4 [.int .i64 a, .int .i64 b, .int .i64 c] ⟨0, []⟩ (FrzK (.bool true)) := by
  have hm := placeS_range a 10 (by decide) (by decide)
  have hq := placeS_range c 6 (by decide) (by decide)
  have hE : Ev Tryz.prog 18 [.int .i64 b, .int .i64 3] (.int .i64 0) := hb ▸ place_ev b 3 (by decide)
  refine trF g4 b4 c4 ?_
  conv => whnf
  refine knW.mono ?_
  rintro v s ⟨rfl, rfl⟩
  conv => whnf
  refine Ev.call (place_ev a 10 (by decide)) ?_
  conv => whnf
  refine Ev.call hE ?_
  conv => whnf
  refine Ev.call (place_ev c 6 (by decide)) ?_
  conv => whnf
  refine Tr.cast (args' := aMdR0) (by kernel_rfl) ?_
  refine (madeR0 _ rfl).mono ?_
  rintro v s ⟨rfl, rfl⟩
  conv => whnf
  refine loopI (α := {i : Int // 0 ≤ i ∧ i ≤ placeS a 10}) (fun i => [(0, .int .i64 (placeS a 10)), (1, .int .i64 0), (2, .int .i64 (placeS c 6)), (8, .ptr 6651 0), (10, .int .i64 i.1)]) (fun i => ⟨6652, memL (sR0_0 6478 (.int .i64 (i.1)) (.int .i64 (3 + i.1)) (.int .u64 (i.1)) (.int .u64 (i.1)) (.int .u64 (i.1)) (.int .i64 (atf (i.1))) (.int .u64 (i.1 + 1)) (.int .u64 (i.1)) (.int .u64 (i.1)) (.int .i64 (2 * i.1)))⟩) (fun i => (placeS a 10 - i.1).toNat) ⟨0, by omega⟩
    (subL [] rfl rfl (by kernel_rfl) (by kernel_rfl) (by kernel_rfl) ⟨⟨rfl, rfl⟩, ⟨rfl, rfl⟩, ⟨rfl, rfl⟩, ⟨rfl, rfl⟩, ⟨rfl, rfl⟩, trivial⟩) fun ⟨i, hi⟩ => ?_
  have hi : 0 ≤ i ∧ i ≤ placeS a 10 := hi
  conv => whnf
  by_cases hlt : i < placeS a 10
  · refine condY (by simpa using hlt) ?_
    conv => whnf
    refine (dR0A i (3 + i) i (2 * i) (by omega) (by omega) (by omega) (by omega)).mono ?_
    rintro v s ⟨rfl, rfl⟩
    conv => whnf
    refine ⟨⟨i + 1, by omega⟩, subL [(6478, some 6700)] rfl rfl (by kernel_rfl) (by kernel_rfl) ?_ ⟨⟨rfl, rfl⟩, ⟨rfl, rfl⟩, ⟨rfl, rfl⟩, ⟨rfl, rfl⟩, ⟨?_, rfl⟩, trivial⟩, by show (placeS a 10 - (i + 1)).toNat < (placeS a 10 - i).toNat; omega⟩
    · rw [show 2 * i + 1 + 1 = 2 * (i + 1) by omega, show 3 + i + 1 = 3 + (i + 1) by omega]
      kernel_rfl
    · show AV.int .i64 (IntKind.i64.wrap (i + 1)) = AV.int .i64 (i + 1)
      rw [wrapI64 _ (by omega) (by omega)]
  obtain rfl : i = placeS a 10 := by omega
  generalize hmi : placeS a 10 = i at *
  refine condN (by simp) ?_
  conv => whnf
  refine (cR0connect (i) (3 + i) (i) (i) (i) (atf (i)) (i + 1) (i) (i) (2 * i)).mono ?_
  rintro v s ⟨rfl, rfl⟩
  conv => whnf
  refine Tr.preL (n := 6655) (L := sR0_2 6478 (.int .i64 (i)) (.int .i64 (3 + i)) (.int .u64 (i)) (.int .u64 (i)) (.int .u64 (i)) (.int .i64 (atf (i))) (.int .u64 (i + 1)) (.int .u64 (i)) (.int .u64 (i)) (.int .i64 (2 * i))) rfl (by kernel_rfl) ?_
  refine (cR0put1 (i) (3 + i) (i) (i) (i) (atf (i)) (i + 1) (i) (i) (2 * i)).mono ?_
  rintro v s ⟨rfl, rfl⟩
  conv => whnf
  refine Tr.preL (n := 6690) (L := sR0_3 6478 (.int .i64 (i)) (.int .i64 (3 + i)) (.int .u64 (i)) (.int .u64 (i)) (.int .u64 (i)) (.int .i64 (atf (i))) (.int .u64 (i + 1)) (.int .u64 (i)) (.int .u64 (i)) (.int .i64 (2 * i))) rfl (by kernel_rfl) ?_
  have h := cR0scanF (i) (3 + i) (i) (i) (i) (atf (i)) (i + 1) (i) (i) (2 * i)
  simp (disch := omega) only [addU64, addI64, sh48] at h
  refine h.mono ?_
  clear h
  rintro v s ⟨rfl, rfl⟩
  conv => whnf
  refine ⟨rfl, ?_⟩
  conv => whnf
  refine Tr.preL (n := 6894) (L := sR0_4 6478 (.int .i64 (i)) (.int .i64 (3 + i)) (.int .u64 (i)) (.int .u64 (i)) (.int .u64 (i)) (.int .i64 (atf (i))) (.int .u64 (i + 1)) (.int .u64 (i)) (.int .u64 (i + 1)) (.int .i64 (2 * i))) rfl (by kernel_rfl) ?_
  refine (cR0cellDr (i) (3 + i) (i) (i) (i) (atf (i)) (i + 1) (i) (i + 1) (2 * i)).mono ?_
  rintro v s ⟨rfl, rfl⟩
  conv => whnf
  refine Tr.preL (n := 7142) (L := sR0_4 6478 (.int .i64 (i)) (.int .i64 (3 + i)) (.int .u64 (i)) (.int .u64 (i)) (.int .u64 (i)) (.int .i64 (atf (i))) (.int .u64 (i + 1)) (.int .u64 (i)) (.int .u64 (i + 1)) (.int .i64 (2 * i))) rfl (by kernel_rfl) ?_
  refine (cR0cellDn (i) (3 + i) (i) (i) (i) (atf (i)) (i + 1) (i) (i + 1) (2 * i)).mono ?_
  rintro v s ⟨rfl, rfl⟩
  conv => whnf
  refine condN (by simp) ?_
  conv => whnf
  refine condN (by rw [wrapI64 _ (by omega) (by omega)]; simp) ?_
  conv => whnf
  refine Tr.preL (n := 7391) (L := sR0_4 6478 (.int .i64 (i)) (.int .i64 (3 + i)) (.int .u64 (i)) (.int .u64 (i)) (.int .u64 (i)) (.int .i64 (atf (i))) (.int .u64 (i + 1)) (.int .u64 (i)) (.int .u64 (i + 1)) (.int .i64 (2 * i))) rfl (by kernel_rfl) ?_
  refine (cR0put0 (i) (3 + i) (i) (i) (i) (atf (i)) (i + 1) (i) (i + 1) (2 * i)).mono ?_
  rintro v s ⟨rfl, rfl⟩
  conv => whnf
  refine Tr.preL (n := 7424) (L := sR0_5 6478 (.int .i64 (i)) (.int .i64 (3 + i)) (.int .u64 (i)) (.int .u64 (i)) (.int .u64 (i)) (.int .i64 (atf (i))) (.int .u64 (i + 1)) (.int .u64 (i)) (.int .u64 (i + 1)) (.int .i64 (2 * i))) rfl (by kernel_rfl) ?_
  refine (cR0restart1 (i) (3 + i) (i) (i) (i) (atf (i)) (i + 1) (i) (i + 1) (2 * i)).mono ?_
  rintro v s ⟨rfl, rfl⟩
  conv => whnf
  refine Tr.preL (n := 7432) (L := sR0_6 6478 (.int .i64 (i)) (.int .i64 (3)) (.int .u64 (i)) (.int .u64 (i)) (.int .u64 (i)) (.int .i64 (atf (i))) (.int .u64 (i + 1)) (.int .u64 (i)) (.int .u64 (i + 1)) (.int .i64 (2 * i))) rfl (by kernel_rfl) ?_
  refine (cR0restart2 (i) (3) (i) (i) (i) (atf (i)) (i + 1) (i) (i + 1) (2 * i)).mono ?_
  rintro v s ⟨rfl, rfl⟩
  conv => whnf
  refine Tr.preL (n := 7432) (L := sR0_6 6478 (.int .i64 (i)) (.int .i64 (3)) (.int .u64 (i)) (.int .u64 (i)) (.int .u64 (i)) (.int .i64 (atf (i))) (.int .u64 (i + 1)) (.int .u64 (i)) (.int .u64 (i + 1)) (.int .i64 (2 * i))) rfl (by kernel_rfl) ?_
  refine (cR0cellFr (i) (3) (i) (i) (i) (atf (i)) (i + 1) (i) (i + 1) (2 * i)).mono ?_
  rintro v s ⟨rfl, rfl⟩
  conv => whnf
  refine Tr.preL (n := 7680) (L := sR0_6 6478 (.int .i64 (i)) (.int .i64 (3)) (.int .u64 (i)) (.int .u64 (i)) (.int .u64 (i)) (.int .i64 (atf (i))) (.int .u64 (i + 1)) (.int .u64 (i)) (.int .u64 (i + 1)) (.int .i64 (2 * i))) rfl (by kernel_rfl) ?_
  refine (cR0cellFn (i) (3) (i) (i) (i) (atf (i)) (i + 1) (i) (i + 1) (2 * i)).mono ?_
  rintro v s ⟨rfl, rfl⟩
  conv => whnf
  refine condN (by simp) ?_
  conv => whnf
  refine loopI (α := {j : Nat // (j : Int) ≤ placeS c 6}) (fun j => [(0, .int .i64 i), (1, .int .i64 0), (2, .int .i64 (placeS c 6)), (8, .ptr 6651 0), (18, .int .i64 (j.1 : Int))]) (fun j => match j.1 with
      | 0 => ⟨7929, memL (sR0_6 6478 (.int .i64 (i)) (.int .i64 (3)) (.int .u64 (i)) (.int .u64 (i)) (.int .u64 (i)) (.int .i64 (atf (i))) (.int .u64 (i + 1)) (.int .u64 (i)) (.int .u64 (i + 1)) (.int .i64 (2 * i)))⟩
      | k + 1 => ⟨8231, memL (sR0_7 8029 (.int .i64 (i + ((k + 1 : Nat) : Int))) (.int .i64 (3 + ((k + 1 : Nat) : Int))) (.int .u64 (i + ((k + 1 : Nat) : Int))) (.int .u64 (i + ((k + 1 : Nat) : Int))) (.int .u64 (i + ((k + 1 : Nat) : Int))) (.int .i64 (atf (i + ((k + 1 : Nat) : Int)))) (.int .u64 (i + ((k + 1 : Nat) : Int) + 1)) (.int .u64 (i + ((k + 1 : Nat) : Int))) (.int .u64 (i + 1 + ((k + 1 : Nat) : Int))) (.int .i64 (2 * i + 2 * ((k + 1 : Nat) : Int))))⟩) (fun j => (placeS c 6 - (j.1 : Int)).toNat) ⟨0, by show ((0 : Nat) : Int) ≤ _; omega⟩
    (subL [] rfl rfl (by kernel_rfl) (by kernel_rfl) (by kernel_rfl) ⟨⟨rfl, rfl⟩, ⟨rfl, rfl⟩, ⟨rfl, rfl⟩, ⟨rfl, rfl⟩, ⟨rfl, rfl⟩, trivial⟩) fun ⟨j, hj⟩ => ?_
  have hj : (j : Int) ≤ placeS c 6 := hj
  cases j with
  | zero =>
    conv => whnf
    by_cases h0 : (0 : Int) < placeS c 6
    · refine condY (by simpa using h0) ?_
      conv => whnf
      refine (dR0P i 3 (i + 1) (2 * i) (by omega) (by omega) (by omega) (by omega)).mono ?_
      rintro v s ⟨rfl, rfl⟩
      conv => whnf
      refine ⟨⟨0 + 1, by show ((0 + 1 : Nat) : Int) ≤ _; omega⟩, subL [] rfl rfl (by kernel_rfl) (by kernel_rfl) ?_ ⟨⟨rfl, rfl⟩, ⟨rfl, rfl⟩, ⟨rfl, rfl⟩, ⟨rfl, rfl⟩, ⟨?_, rfl⟩, trivial⟩, by show (placeS c 6 - ((0 + 1 : Nat) : Int)).toNat < (placeS c 6 - ((0 : Nat) : Int)).toNat; omega⟩
      · rw [show i + ((0 + 1 : Nat) : Int) = i + 1 by omega, show 3 + ((0 + 1 : Nat) : Int) = 3 + 1 by omega, show i + 1 + ((0 + 1 : Nat) : Int) = i + 1 + 1 by omega, show 2 * i + 2 * ((0 + 1 : Nat) : Int) = 2 * i + 1 + 1 by omega]
        kernel_rfl
      · rfl
    · refine condN (by simpa using h0) ?_
      have hq0 : placeS c 6 = 0 := by omega
      conv => whnf
      refine Tr.preL (n := 7929) (L := sR0_6 6478 (.int .i64 (i)) (.int .i64 (3)) (.int .u64 (i)) (.int .u64 (i)) (.int .u64 (i)) (.int .i64 (atf (i))) (.int .u64 (i + 1)) (.int .u64 (i)) (.int .u64 (i + 1)) (.int .i64 (2 * i))) rfl (by kernel_rfl) ?_
      refine (cR0cellHr (i) (3) (i) (i) (i) (atf (i)) (i + 1) (i) (i + 1) (2 * i)).mono ?_
      rintro v s ⟨rfl, rfl⟩
      conv => whnf
      refine Tr.preL (n := 8177) (L := sR0_6 6478 (.int .i64 (i)) (.int .i64 (3)) (.int .u64 (i)) (.int .u64 (i)) (.int .u64 (i)) (.int .i64 (atf (i))) (.int .u64 (i + 1)) (.int .u64 (i)) (.int .u64 (i + 1)) (.int .i64 (2 * i))) rfl (by kernel_rfl) ?_
      refine (cR0cellHn (i) (3) (i) (i) (i) (atf (i)) (i + 1) (i) (i + 1) (2 * i)).mono ?_
      rintro v s ⟨rfl, rfl⟩
      conv => whnf
      refine condY (by rw [wrapI64 _ (by omega) (by omega)]; simp; omega) ?_
      conv => whnf
      refine condY (by rw [wrapI64 _ (by omega) (by omega)]; simp; omega) ?_
      conv => whnf
      refine Tr.preL (n := 8426) (L := sR0_6 6478 (.int .i64 (i)) (.int .i64 (3)) (.int .u64 (i)) (.int .u64 (i)) (.int .u64 (i)) (.int .i64 (atf (i))) (.int .u64 (i + 1)) (.int .u64 (i)) (.int .u64 (i + 1)) (.int .i64 (2 * i))) rfl (by kernel_rfl) ?_
      refine (cR0scansH (i) (3) (i) (i) (i) (atf (i)) (i + 1) (i) (i + 1) (2 * i)).mono ?_
      rintro v s ⟨rfl, rfl⟩
      conv => whnf
      refine FrzK.le ?_
      rw [wrapI64 _ (by omega) (by omega), wrapU64 _ (by omega) (by omega), show (i == i + placeS c 6) = true by simp; omega]
      exact Le.refl _
  | succ k =>
    conv => whnf
    by_cases h0 : ((k + 1 : Nat) : Int) < placeS c 6
    · refine condY (by simpa using h0) ?_
      conv => whnf
      refine (dR0G (i + ((k + 1 : Nat) : Int)) (3 + ((k + 1 : Nat) : Int)) (i + 1 + ((k + 1 : Nat) : Int)) (2 * i + 2 * ((k + 1 : Nat) : Int)) (by omega) (by omega) (by omega) (by omega) (by omega)).mono ?_
      rintro v s ⟨rfl, rfl⟩
      conv => whnf
      refine ⟨⟨k + 1 + 1, by show ((k + 1 + 1 : Nat) : Int) ≤ _; omega⟩, subL [(8029, some 8279)] rfl rfl (by kernel_rfl) (by kernel_rfl) ?_ ⟨⟨rfl, rfl⟩, ⟨rfl, rfl⟩, ⟨rfl, rfl⟩, ⟨rfl, rfl⟩, ⟨?_, rfl⟩, trivial⟩, by show (placeS c 6 - ((k + 1 + 1 : Nat) : Int)).toNat < (placeS c 6 - ((k + 1 : Nat) : Int)).toNat; omega⟩
      · rw [show i + ((k + 1 + 1 : Nat) : Int) = i + ((k + 1 : Nat) : Int) + 1 by omega, show 3 + ((k + 1 + 1 : Nat) : Int) = 3 + ((k + 1 : Nat) : Int) + 1 by omega, show i + 1 + ((k + 1 + 1 : Nat) : Int) = i + 1 + ((k + 1 : Nat) : Int) + 1 by omega, show 2 * i + 2 * ((k + 1 + 1 : Nat) : Int) = 2 * i + 2 * ((k + 1 : Nat) : Int) + 1 + 1 by omega]
        kernel_rfl
      · show AV.int .i64 (IntKind.i64.wrap (((k + 1 : Nat) : Int) + 1)) = AV.int .i64 ((k + 1 + 1 : Nat) : Int)
        rw [wrapI64 _ (by omega) (by omega)]
        rfl
    · refine condN (by simpa using h0) ?_
      have hq0 : placeS c 6 = ((k + 1 : Nat) : Int) := by omega
      conv => whnf
      refine Tr.preL (n := 8231) (L := sR0_7 8029 (.int .i64 (i + ((k + 1 : Nat) : Int))) (.int .i64 (3 + ((k + 1 : Nat) : Int))) (.int .u64 (i + ((k + 1 : Nat) : Int))) (.int .u64 (i + ((k + 1 : Nat) : Int))) (.int .u64 (i + ((k + 1 : Nat) : Int))) (.int .i64 (atf (i + ((k + 1 : Nat) : Int)))) (.int .u64 (i + ((k + 1 : Nat) : Int) + 1)) (.int .u64 (i + ((k + 1 : Nat) : Int))) (.int .u64 (i + 1 + ((k + 1 : Nat) : Int))) (.int .i64 (2 * i + 2 * ((k + 1 : Nat) : Int)))) rfl (by kernel_rfl) ?_
      refine (cR0cellGr (i + ((k + 1 : Nat) : Int)) (3 + ((k + 1 : Nat) : Int)) (i + ((k + 1 : Nat) : Int)) (i + ((k + 1 : Nat) : Int)) (i + ((k + 1 : Nat) : Int)) (atf (i + ((k + 1 : Nat) : Int))) (i + ((k + 1 : Nat) : Int) + 1) (i + ((k + 1 : Nat) : Int)) (i + 1 + ((k + 1 : Nat) : Int)) (2 * i + 2 * ((k + 1 : Nat) : Int))).mono ?_
      rintro v s ⟨rfl, rfl⟩
      conv => whnf
      refine Tr.preL (n := 8479) (L := sR0_7 8029 (.int .i64 (i + ((k + 1 : Nat) : Int))) (.int .i64 (3 + ((k + 1 : Nat) : Int))) (.int .u64 (i + ((k + 1 : Nat) : Int))) (.int .u64 (i + ((k + 1 : Nat) : Int))) (.int .u64 (i + ((k + 1 : Nat) : Int))) (.int .i64 (atf (i + ((k + 1 : Nat) : Int)))) (.int .u64 (i + ((k + 1 : Nat) : Int) + 1)) (.int .u64 (i + ((k + 1 : Nat) : Int))) (.int .u64 (i + 1 + ((k + 1 : Nat) : Int))) (.int .i64 (2 * i + 2 * ((k + 1 : Nat) : Int)))) rfl (by kernel_rfl) ?_
      refine (cR0cellGn (i + ((k + 1 : Nat) : Int)) (3 + ((k + 1 : Nat) : Int)) (i + ((k + 1 : Nat) : Int)) (i + ((k + 1 : Nat) : Int)) (i + ((k + 1 : Nat) : Int)) (atf (i + ((k + 1 : Nat) : Int))) (i + ((k + 1 : Nat) : Int) + 1) (i + ((k + 1 : Nat) : Int)) (i + 1 + ((k + 1 : Nat) : Int)) (2 * i + 2 * ((k + 1 : Nat) : Int))).mono ?_
      rintro v s ⟨rfl, rfl⟩
      conv => whnf
      refine condY (by rw [wrapI64 _ (by omega) (by omega)]; simp; omega) ?_
      conv => whnf
      refine condY (by rw [wrapI64 _ (by omega) (by omega)]; simp; omega) ?_
      conv => whnf
      refine Tr.preL (n := 8728) (L := sR0_7 8029 (.int .i64 (i + ((k + 1 : Nat) : Int))) (.int .i64 (3 + ((k + 1 : Nat) : Int))) (.int .u64 (i + ((k + 1 : Nat) : Int))) (.int .u64 (i + ((k + 1 : Nat) : Int))) (.int .u64 (i + ((k + 1 : Nat) : Int))) (.int .i64 (atf (i + ((k + 1 : Nat) : Int)))) (.int .u64 (i + ((k + 1 : Nat) : Int) + 1)) (.int .u64 (i + ((k + 1 : Nat) : Int))) (.int .u64 (i + 1 + ((k + 1 : Nat) : Int))) (.int .i64 (2 * i + 2 * ((k + 1 : Nat) : Int)))) rfl (by kernel_rfl) ?_
      refine (cR0scansG (i + ((k + 1 : Nat) : Int)) (3 + ((k + 1 : Nat) : Int)) (i + ((k + 1 : Nat) : Int)) (i + ((k + 1 : Nat) : Int)) (i + ((k + 1 : Nat) : Int)) (atf (i + ((k + 1 : Nat) : Int))) (i + ((k + 1 : Nat) : Int) + 1) (i + ((k + 1 : Nat) : Int)) (i + 1 + ((k + 1 : Nat) : Int)) (2 * i + 2 * ((k + 1 : Nat) : Int))).mono ?_
      rintro v s ⟨rfl, rfl⟩
      conv => whnf
      refine FrzK.le ?_
      rw [wrapI64 _ (by omega) (by omega), wrapU64 _ (by omega) (by omega), show (i + ((k + 1 : Nat) : Int) == i + placeS c 6) = true by simp; omega]
      exact Le.refl _
end Go.Proofs.YtaafinlbepaboaaGreatDoor
set_option linter.unusedVariables false
set_option linter.unusedSimpArgs false
set_option autoImplicit false
set_option maxRecDepth 100000
namespace Go.Proofs.YtaafinlbepaboaaGreatDoor
open Go.Ab Go.Proofs
theorem dR1A (i n u w : Int) (hi : 0 ≤ i ∧ i < 1000) (hn : 0 ≤ n ∧ n < 1000) (hu : 0 ≤ u ∧ u < 1000) (hw : 0 ≤ w ∧ w < 10000) : Tr Tryz.prog 19 [.ptr 6632 0] ⟨6835, memL (sR1_0 6661 (.int .i64 (i)) (.int .i64 (n)) (.int .u64 (i)) (.int .u64 (i)) (.int .u64 (i)) (.int .i64 (atf (i))) (.int .u64 (i + 1)) (.int .u64 (i)) (.int .u64 (u)) (.int .i64 (w)))⟩ fun v s => v = .int .i64 0 ∧ s = ⟨7085, memL (sR1_0 6883 (.int .i64 (i + 1)) (.int .i64 (n + 1)) (.int .u64 (i + 1)) (.int .u64 (i + 1)) (.int .u64 (i + 1)) (.int .i64 (atf (i + 1))) (.int .u64 (i + 1 + 1)) (.int .u64 (i + 1)) (.int .u64 (u + 1)) (.int .i64 (w + 1 + 1)))⟩ := by
  have h01 : i = 0 ∨ (0 < i ∧ (i - 1) % 2 = 0) ∨ (0 < i ∧ (i - 1) % 2 = 1) := by omega
  rcases h01 with h0 | ⟨h0, hp⟩ | ⟨h0, hp⟩
  · rw [show atf i = -1 by unfold atf; rw [if_pos h0], show atf (i + 1) = 0 by unfold atf; rw [if_neg (by omega)]; omega]
    have h := cR1scanAm i n i i i 0 (i + 1) i u w
    simp (disch := omega) only [addU64, addI64, sh48] at h
    exact h
  · rw [show atf i = 0 by unfold atf; rw [if_neg (by omega)]; exact hp, show atf (i + 1) = 1 by unfold atf; rw [if_neg (by omega)]; omega]
    have h := cR1scanA0 i n i i i 0 (i + 1) i u w
    simp (disch := omega) only [addU64, addI64, sh48] at h
    exact h
  · rw [show atf i = 1 by unfold atf; rw [if_neg (by omega)]; exact hp, show atf (i + 1) = 0 by unfold atf; rw [if_neg (by omega)]; omega]
    have h := cR1scanA1 i n i i i 0 (i + 1) i u w
    simp (disch := omega) only [addU64, addI64, sh48] at h
    exact h
theorem dR1P (i n u w : Int) (hi : 0 ≤ i ∧ i < 1000) (hn : 0 ≤ n ∧ n < 1000) (hu : 0 ≤ u ∧ u < 1000) (hw : 0 ≤ w ∧ w < 10000) : Tr Tryz.prog 19 [.ptr 6632 0] ⟨8118, memL (sR1_6 6661 (.int .i64 (i)) (.int .i64 (n)) (.int .u64 (i)) (.int .u64 (i)) (.int .u64 (i)) (.int .i64 (atf (i))) (.int .u64 (i + 1)) (.int .u64 (i)) (.int .u64 (u)) (.int .i64 (w)))⟩ fun v s => v = .int .i64 0 ∧ s = ⟨8420, memL (sR1_7 8218 (.int .i64 (i + 1)) (.int .i64 (n + 1)) (.int .u64 (i + 1)) (.int .u64 (i + 1)) (.int .u64 (i + 1)) (.int .i64 (atf (i + 1))) (.int .u64 (i + 1 + 1)) (.int .u64 (i + 1)) (.int .u64 (u + 1)) (.int .i64 (w + 1 + 1)))⟩ := by
  have h01 : i = 0 ∨ (0 < i ∧ (i - 1) % 2 = 0) ∨ (0 < i ∧ (i - 1) % 2 = 1) := by omega
  rcases h01 with h0 | ⟨h0, hp⟩ | ⟨h0, hp⟩
  · rw [show atf i = -1 by unfold atf; rw [if_pos h0], show atf (i + 1) = 0 by unfold atf; rw [if_neg (by omega)]; omega]
    have h := cR1scanPm i n i i i 0 (i + 1) i u w
    simp (disch := omega) only [addU64, addI64, sh48] at h
    exact h
  · rw [show atf i = 0 by unfold atf; rw [if_neg (by omega)]; exact hp, show atf (i + 1) = 1 by unfold atf; rw [if_neg (by omega)]; omega]
    have h := cR1scanP0 i n i i i 0 (i + 1) i u w
    simp (disch := omega) only [addU64, addI64, sh48] at h
    exact h
  · rw [show atf i = 1 by unfold atf; rw [if_neg (by omega)]; exact hp, show atf (i + 1) = 0 by unfold atf; rw [if_neg (by omega)]; omega]
    have h := cR1scanP1 i n i i i 0 (i + 1) i u w
    simp (disch := omega) only [addU64, addI64, sh48] at h
    exact h
theorem dR1G (i n u w : Int) (hi : 0 ≤ i ∧ i < 1000) (hn : 0 ≤ n ∧ n < 1000) (hu : 0 ≤ u ∧ u < 1000) (hw : 0 ≤ w ∧ w < 10000) (h1 : 0 < i) : Tr Tryz.prog 19 [.ptr 6632 0] ⟨8420, memL (sR1_7 8218 (.int .i64 (i)) (.int .i64 (n)) (.int .u64 (i)) (.int .u64 (i)) (.int .u64 (i)) (.int .i64 (atf (i))) (.int .u64 (i + 1)) (.int .u64 (i)) (.int .u64 (u)) (.int .i64 (w)))⟩ fun v s => v = .int .i64 0 ∧ s = ⟨8670, memL (sR1_7 8468 (.int .i64 (i + 1)) (.int .i64 (n + 1)) (.int .u64 (i + 1)) (.int .u64 (i + 1)) (.int .u64 (i + 1)) (.int .i64 (atf (i + 1))) (.int .u64 (i + 1 + 1)) (.int .u64 (i + 1)) (.int .u64 (u + 1)) (.int .i64 (w + 1 + 1)))⟩ := by
  have h01 : i = 0 ∨ (0 < i ∧ (i - 1) % 2 = 0) ∨ (0 < i ∧ (i - 1) % 2 = 1) := by omega
  rcases h01 with h0 | ⟨h0, hp⟩ | ⟨h0, hp⟩
  · omega
  · rw [show atf i = 0 by unfold atf; rw [if_neg (by omega)]; exact hp, show atf (i + 1) = 1 by unfold atf; rw [if_neg (by omega)]; omega]
    have h := cR1scanG0 i n i i i 0 (i + 1) i u w
    simp (disch := omega) only [addU64, addI64, sh48] at h
    exact h
  · rw [show atf i = 1 by unfold atf; rw [if_neg (by omega)]; exact hp, show atf (i + 1) = 0 by unfold atf; rw [if_neg (by omega)]; omega]
    have h := cR1scanG1 i n i i i 0 (i + 1) i u w
    simp (disch := omega) only [addU64, addI64, sh48] at h
    exact h
theorem madeR1 (s : St) (hs : s.next = 1856) : Tr Tryz.prog 10 aMdR1 s fun v s => v = .tup [.ptr 6632 0, .ptr 1857 0] ∧ s = ⟨6834, memL ((sR1_0 6661 (.int .i64 (0)) (.int .i64 (3)) (.int .u64 (0)) (.int .u64 (0)) (.int .u64 (0)) (.int .i64 (-1)) (.int .u64 (1)) (.int .u64 (0)) (.int .u64 (0)) (.int .i64 (0))).filter fun p => !Nat.beq p.1 6834)⟩ :=
  stage_at tMdR1 s hs (by kernel_rfl) (by kernel_rfl) (by kernel_rfl)
theorem lawR1 (a b c : Int) (hb : placeS b 3 = 1) : Tr Tryz.prog 4 [.int .i64 a, .int .i64 b, .int .i64 c] ⟨0, []⟩ (FrzK (.bool true)) := by
  have hm := placeS_range a 10 (by decide) (by decide)
  have hq := placeS_range c 6 (by decide) (by decide)
  have hE : Ev Tryz.prog 18 [.int .i64 b, .int .i64 3] (.int .i64 1) := hb ▸ place_ev b 3 (by decide)
  refine trF g4 b4 c4 ?_
  conv => whnf
  refine knW.mono ?_
  rintro v s ⟨rfl, rfl⟩
  conv => whnf
  refine Ev.call (place_ev a 10 (by decide)) ?_
  conv => whnf
  refine Ev.call hE ?_
  conv => whnf
  refine Ev.call (place_ev c 6 (by decide)) ?_
  conv => whnf
  refine Tr.cast (args' := aMdR1) (by kernel_rfl) ?_
  refine (madeR1 _ rfl).mono ?_
  rintro v s ⟨rfl, rfl⟩
  conv => whnf
  refine loopI (α := {i : Int // 0 ≤ i ∧ i ≤ placeS a 10}) (fun i => [(0, .int .i64 (placeS a 10)), (1, .int .i64 1), (2, .int .i64 (placeS c 6)), (8, .ptr 6834 0), (10, .int .i64 i.1)]) (fun i => ⟨6835, memL (sR1_0 6661 (.int .i64 (i.1)) (.int .i64 (3 + i.1)) (.int .u64 (i.1)) (.int .u64 (i.1)) (.int .u64 (i.1)) (.int .i64 (atf (i.1))) (.int .u64 (i.1 + 1)) (.int .u64 (i.1)) (.int .u64 (i.1)) (.int .i64 (2 * i.1)))⟩) (fun i => (placeS a 10 - i.1).toNat) ⟨0, by omega⟩
    (subL [] rfl rfl (by kernel_rfl) (by kernel_rfl) (by kernel_rfl) ⟨⟨rfl, rfl⟩, ⟨rfl, rfl⟩, ⟨rfl, rfl⟩, ⟨rfl, rfl⟩, ⟨rfl, rfl⟩, trivial⟩) fun ⟨i, hi⟩ => ?_
  have hi : 0 ≤ i ∧ i ≤ placeS a 10 := hi
  conv => whnf
  by_cases hlt : i < placeS a 10
  · refine condY (by simpa using hlt) ?_
    conv => whnf
    refine (dR1A i (3 + i) i (2 * i) (by omega) (by omega) (by omega) (by omega)).mono ?_
    rintro v s ⟨rfl, rfl⟩
    conv => whnf
    refine ⟨⟨i + 1, by omega⟩, subL [(6661, some 6883)] rfl rfl (by kernel_rfl) (by kernel_rfl) ?_ ⟨⟨rfl, rfl⟩, ⟨rfl, rfl⟩, ⟨rfl, rfl⟩, ⟨rfl, rfl⟩, ⟨?_, rfl⟩, trivial⟩, by show (placeS a 10 - (i + 1)).toNat < (placeS a 10 - i).toNat; omega⟩
    · rw [show 2 * i + 1 + 1 = 2 * (i + 1) by omega, show 3 + i + 1 = 3 + (i + 1) by omega]
      kernel_rfl
    · show AV.int .i64 (IntKind.i64.wrap (i + 1)) = AV.int .i64 (i + 1)
      rw [wrapI64 _ (by omega) (by omega)]
  obtain rfl : i = placeS a 10 := by omega
  generalize hmi : placeS a 10 = i at *
  refine condN (by simp) ?_
  conv => whnf
  refine (cR1connect (i) (3 + i) (i) (i) (i) (atf (i)) (i + 1) (i) (i) (2 * i)).mono ?_
  rintro v s ⟨rfl, rfl⟩
  conv => whnf
  refine Tr.preL (n := 6838) (L := sR1_2 6661 (.int .i64 (i)) (.int .i64 (3 + i)) (.int .u64 (i)) (.int .u64 (i)) (.int .u64 (i)) (.int .i64 (atf (i))) (.int .u64 (i + 1)) (.int .u64 (i)) (.int .u64 (i)) (.int .i64 (2 * i))) rfl (by kernel_rfl) ?_
  refine (cR1put1 (i) (3 + i) (i) (i) (i) (atf (i)) (i + 1) (i) (i) (2 * i)).mono ?_
  rintro v s ⟨rfl, rfl⟩
  conv => whnf
  refine Tr.preL (n := 6873) (L := sR1_3 6661 (.int .i64 (i)) (.int .i64 (3 + i)) (.int .u64 (i)) (.int .u64 (i)) (.int .u64 (i)) (.int .i64 (atf (i))) (.int .u64 (i + 1)) (.int .u64 (i)) (.int .u64 (i)) (.int .i64 (2 * i))) rfl (by kernel_rfl) ?_
  have h := cR1scanF (i) (3 + i) (i) (i) (i) (atf (i)) (i + 1) (i) (i) (2 * i)
  simp (disch := omega) only [addU64, addI64, sh48] at h
  refine h.mono ?_
  clear h
  rintro v s ⟨rfl, rfl⟩
  conv => whnf
  refine ⟨rfl, ?_⟩
  conv => whnf
  refine Tr.preL (n := 7083) (L := sR1_4 6661 (.int .i64 (i)) (.int .i64 (3 + i)) (.int .u64 (i)) (.int .u64 (i)) (.int .u64 (i)) (.int .i64 (atf (i))) (.int .u64 (i + 1)) (.int .u64 (i)) (.int .u64 (i + 1)) (.int .i64 (2 * i))) rfl (by kernel_rfl) ?_
  refine (cR1cellDr (i) (3 + i) (i) (i) (i) (atf (i)) (i + 1) (i) (i + 1) (2 * i)).mono ?_
  rintro v s ⟨rfl, rfl⟩
  conv => whnf
  refine Tr.preL (n := 7331) (L := sR1_4 6661 (.int .i64 (i)) (.int .i64 (3 + i)) (.int .u64 (i)) (.int .u64 (i)) (.int .u64 (i)) (.int .i64 (atf (i))) (.int .u64 (i + 1)) (.int .u64 (i)) (.int .u64 (i + 1)) (.int .i64 (2 * i))) rfl (by kernel_rfl) ?_
  refine (cR1cellDn (i) (3 + i) (i) (i) (i) (atf (i)) (i + 1) (i) (i + 1) (2 * i)).mono ?_
  rintro v s ⟨rfl, rfl⟩
  conv => whnf
  refine condN (by simp) ?_
  conv => whnf
  refine condN (by rw [wrapI64 _ (by omega) (by omega)]; simp) ?_
  conv => whnf
  refine Tr.preL (n := 7580) (L := sR1_4 6661 (.int .i64 (i)) (.int .i64 (3 + i)) (.int .u64 (i)) (.int .u64 (i)) (.int .u64 (i)) (.int .i64 (atf (i))) (.int .u64 (i + 1)) (.int .u64 (i)) (.int .u64 (i + 1)) (.int .i64 (2 * i))) rfl (by kernel_rfl) ?_
  refine (cR1put0 (i) (3 + i) (i) (i) (i) (atf (i)) (i + 1) (i) (i + 1) (2 * i)).mono ?_
  rintro v s ⟨rfl, rfl⟩
  conv => whnf
  refine Tr.preL (n := 7613) (L := sR1_5 6661 (.int .i64 (i)) (.int .i64 (3 + i)) (.int .u64 (i)) (.int .u64 (i)) (.int .u64 (i)) (.int .i64 (atf (i))) (.int .u64 (i + 1)) (.int .u64 (i)) (.int .u64 (i + 1)) (.int .i64 (2 * i))) rfl (by kernel_rfl) ?_
  refine (cR1restart1 (i) (3 + i) (i) (i) (i) (atf (i)) (i + 1) (i) (i + 1) (2 * i)).mono ?_
  rintro v s ⟨rfl, rfl⟩
  conv => whnf
  refine Tr.preL (n := 7621) (L := sR1_6 6661 (.int .i64 (i)) (.int .i64 (3)) (.int .u64 (i)) (.int .u64 (i)) (.int .u64 (i)) (.int .i64 (atf (i))) (.int .u64 (i + 1)) (.int .u64 (i)) (.int .u64 (i + 1)) (.int .i64 (2 * i))) rfl (by kernel_rfl) ?_
  refine (cR1restart2 (i) (3) (i) (i) (i) (atf (i)) (i + 1) (i) (i + 1) (2 * i)).mono ?_
  rintro v s ⟨rfl, rfl⟩
  conv => whnf
  refine Tr.preL (n := 7621) (L := sR1_6 6661 (.int .i64 (i)) (.int .i64 (3)) (.int .u64 (i)) (.int .u64 (i)) (.int .u64 (i)) (.int .i64 (atf (i))) (.int .u64 (i + 1)) (.int .u64 (i)) (.int .u64 (i + 1)) (.int .i64 (2 * i))) rfl (by kernel_rfl) ?_
  refine (cR1cellFr (i) (3) (i) (i) (i) (atf (i)) (i + 1) (i) (i + 1) (2 * i)).mono ?_
  rintro v s ⟨rfl, rfl⟩
  conv => whnf
  refine Tr.preL (n := 7869) (L := sR1_6 6661 (.int .i64 (i)) (.int .i64 (3)) (.int .u64 (i)) (.int .u64 (i)) (.int .u64 (i)) (.int .i64 (atf (i))) (.int .u64 (i + 1)) (.int .u64 (i)) (.int .u64 (i + 1)) (.int .i64 (2 * i))) rfl (by kernel_rfl) ?_
  refine (cR1cellFn (i) (3) (i) (i) (i) (atf (i)) (i + 1) (i) (i + 1) (2 * i)).mono ?_
  rintro v s ⟨rfl, rfl⟩
  conv => whnf
  refine condN (by simp) ?_
  conv => whnf
  refine loopI (α := {j : Nat // (j : Int) ≤ placeS c 6}) (fun j => [(0, .int .i64 i), (1, .int .i64 1), (2, .int .i64 (placeS c 6)), (8, .ptr 6834 0), (18, .int .i64 (j.1 : Int))]) (fun j => match j.1 with
      | 0 => ⟨8118, memL (sR1_6 6661 (.int .i64 (i)) (.int .i64 (3)) (.int .u64 (i)) (.int .u64 (i)) (.int .u64 (i)) (.int .i64 (atf (i))) (.int .u64 (i + 1)) (.int .u64 (i)) (.int .u64 (i + 1)) (.int .i64 (2 * i)))⟩
      | k + 1 => ⟨8420, memL (sR1_7 8218 (.int .i64 (i + ((k + 1 : Nat) : Int))) (.int .i64 (3 + ((k + 1 : Nat) : Int))) (.int .u64 (i + ((k + 1 : Nat) : Int))) (.int .u64 (i + ((k + 1 : Nat) : Int))) (.int .u64 (i + ((k + 1 : Nat) : Int))) (.int .i64 (atf (i + ((k + 1 : Nat) : Int)))) (.int .u64 (i + ((k + 1 : Nat) : Int) + 1)) (.int .u64 (i + ((k + 1 : Nat) : Int))) (.int .u64 (i + 1 + ((k + 1 : Nat) : Int))) (.int .i64 (2 * i + 2 * ((k + 1 : Nat) : Int))))⟩) (fun j => (placeS c 6 - (j.1 : Int)).toNat) ⟨0, by show ((0 : Nat) : Int) ≤ _; omega⟩
    (subL [] rfl rfl (by kernel_rfl) (by kernel_rfl) (by kernel_rfl) ⟨⟨rfl, rfl⟩, ⟨rfl, rfl⟩, ⟨rfl, rfl⟩, ⟨rfl, rfl⟩, ⟨rfl, rfl⟩, trivial⟩) fun ⟨j, hj⟩ => ?_
  have hj : (j : Int) ≤ placeS c 6 := hj
  cases j with
  | zero =>
    conv => whnf
    by_cases h0 : (0 : Int) < placeS c 6
    · refine condY (by simpa using h0) ?_
      conv => whnf
      refine (dR1P i 3 (i + 1) (2 * i) (by omega) (by omega) (by omega) (by omega)).mono ?_
      rintro v s ⟨rfl, rfl⟩
      conv => whnf
      refine ⟨⟨0 + 1, by show ((0 + 1 : Nat) : Int) ≤ _; omega⟩, subL [] rfl rfl (by kernel_rfl) (by kernel_rfl) ?_ ⟨⟨rfl, rfl⟩, ⟨rfl, rfl⟩, ⟨rfl, rfl⟩, ⟨rfl, rfl⟩, ⟨?_, rfl⟩, trivial⟩, by show (placeS c 6 - ((0 + 1 : Nat) : Int)).toNat < (placeS c 6 - ((0 : Nat) : Int)).toNat; omega⟩
      · rw [show i + ((0 + 1 : Nat) : Int) = i + 1 by omega, show 3 + ((0 + 1 : Nat) : Int) = 3 + 1 by omega, show i + 1 + ((0 + 1 : Nat) : Int) = i + 1 + 1 by omega, show 2 * i + 2 * ((0 + 1 : Nat) : Int) = 2 * i + 1 + 1 by omega]
        kernel_rfl
      · rfl
    · refine condN (by simpa using h0) ?_
      have hq0 : placeS c 6 = 0 := by omega
      conv => whnf
      refine Tr.preL (n := 8118) (L := sR1_6 6661 (.int .i64 (i)) (.int .i64 (3)) (.int .u64 (i)) (.int .u64 (i)) (.int .u64 (i)) (.int .i64 (atf (i))) (.int .u64 (i + 1)) (.int .u64 (i)) (.int .u64 (i + 1)) (.int .i64 (2 * i))) rfl (by kernel_rfl) ?_
      refine (cR1cellHr (i) (3) (i) (i) (i) (atf (i)) (i + 1) (i) (i + 1) (2 * i)).mono ?_
      rintro v s ⟨rfl, rfl⟩
      conv => whnf
      refine Tr.preL (n := 8366) (L := sR1_6 6661 (.int .i64 (i)) (.int .i64 (3)) (.int .u64 (i)) (.int .u64 (i)) (.int .u64 (i)) (.int .i64 (atf (i))) (.int .u64 (i + 1)) (.int .u64 (i)) (.int .u64 (i + 1)) (.int .i64 (2 * i))) rfl (by kernel_rfl) ?_
      refine (cR1cellHn (i) (3) (i) (i) (i) (atf (i)) (i + 1) (i) (i + 1) (2 * i)).mono ?_
      rintro v s ⟨rfl, rfl⟩
      conv => whnf
      refine condY (by rw [wrapI64 _ (by omega) (by omega)]; simp; omega) ?_
      conv => whnf
      refine condY (by rw [wrapI64 _ (by omega) (by omega)]; simp; omega) ?_
      conv => whnf
      refine Tr.preL (n := 8615) (L := sR1_6 6661 (.int .i64 (i)) (.int .i64 (3)) (.int .u64 (i)) (.int .u64 (i)) (.int .u64 (i)) (.int .i64 (atf (i))) (.int .u64 (i + 1)) (.int .u64 (i)) (.int .u64 (i + 1)) (.int .i64 (2 * i))) rfl (by kernel_rfl) ?_
      refine (cR1scansH (i) (3) (i) (i) (i) (atf (i)) (i + 1) (i) (i + 1) (2 * i)).mono ?_
      rintro v s ⟨rfl, rfl⟩
      conv => whnf
      refine FrzK.le ?_
      rw [wrapI64 _ (by omega) (by omega), wrapU64 _ (by omega) (by omega), show (i == i + placeS c 6) = true by simp; omega]
      exact Le.refl _
  | succ k =>
    conv => whnf
    by_cases h0 : ((k + 1 : Nat) : Int) < placeS c 6
    · refine condY (by simpa using h0) ?_
      conv => whnf
      refine (dR1G (i + ((k + 1 : Nat) : Int)) (3 + ((k + 1 : Nat) : Int)) (i + 1 + ((k + 1 : Nat) : Int)) (2 * i + 2 * ((k + 1 : Nat) : Int)) (by omega) (by omega) (by omega) (by omega) (by omega)).mono ?_
      rintro v s ⟨rfl, rfl⟩
      conv => whnf
      refine ⟨⟨k + 1 + 1, by show ((k + 1 + 1 : Nat) : Int) ≤ _; omega⟩, subL [(8218, some 8468)] rfl rfl (by kernel_rfl) (by kernel_rfl) ?_ ⟨⟨rfl, rfl⟩, ⟨rfl, rfl⟩, ⟨rfl, rfl⟩, ⟨rfl, rfl⟩, ⟨?_, rfl⟩, trivial⟩, by show (placeS c 6 - ((k + 1 + 1 : Nat) : Int)).toNat < (placeS c 6 - ((k + 1 : Nat) : Int)).toNat; omega⟩
      · rw [show i + ((k + 1 + 1 : Nat) : Int) = i + ((k + 1 : Nat) : Int) + 1 by omega, show 3 + ((k + 1 + 1 : Nat) : Int) = 3 + ((k + 1 : Nat) : Int) + 1 by omega, show i + 1 + ((k + 1 + 1 : Nat) : Int) = i + 1 + ((k + 1 : Nat) : Int) + 1 by omega, show 2 * i + 2 * ((k + 1 + 1 : Nat) : Int) = 2 * i + 2 * ((k + 1 : Nat) : Int) + 1 + 1 by omega]
        kernel_rfl
      · show AV.int .i64 (IntKind.i64.wrap (((k + 1 : Nat) : Int) + 1)) = AV.int .i64 ((k + 1 + 1 : Nat) : Int)
        rw [wrapI64 _ (by omega) (by omega)]
        rfl
    · refine condN (by simpa using h0) ?_
      have hq0 : placeS c 6 = ((k + 1 : Nat) : Int) := by omega
      conv => whnf
      refine Tr.preL (n := 8420) (L := sR1_7 8218 (.int .i64 (i + ((k + 1 : Nat) : Int))) (.int .i64 (3 + ((k + 1 : Nat) : Int))) (.int .u64 (i + ((k + 1 : Nat) : Int))) (.int .u64 (i + ((k + 1 : Nat) : Int))) (.int .u64 (i + ((k + 1 : Nat) : Int))) (.int .i64 (atf (i + ((k + 1 : Nat) : Int)))) (.int .u64 (i + ((k + 1 : Nat) : Int) + 1)) (.int .u64 (i + ((k + 1 : Nat) : Int))) (.int .u64 (i + 1 + ((k + 1 : Nat) : Int))) (.int .i64 (2 * i + 2 * ((k + 1 : Nat) : Int)))) rfl (by kernel_rfl) ?_
      refine (cR1cellGr (i + ((k + 1 : Nat) : Int)) (3 + ((k + 1 : Nat) : Int)) (i + ((k + 1 : Nat) : Int)) (i + ((k + 1 : Nat) : Int)) (i + ((k + 1 : Nat) : Int)) (atf (i + ((k + 1 : Nat) : Int))) (i + ((k + 1 : Nat) : Int) + 1) (i + ((k + 1 : Nat) : Int)) (i + 1 + ((k + 1 : Nat) : Int)) (2 * i + 2 * ((k + 1 : Nat) : Int))).mono ?_
      rintro v s ⟨rfl, rfl⟩
      conv => whnf
      refine Tr.preL (n := 8668) (L := sR1_7 8218 (.int .i64 (i + ((k + 1 : Nat) : Int))) (.int .i64 (3 + ((k + 1 : Nat) : Int))) (.int .u64 (i + ((k + 1 : Nat) : Int))) (.int .u64 (i + ((k + 1 : Nat) : Int))) (.int .u64 (i + ((k + 1 : Nat) : Int))) (.int .i64 (atf (i + ((k + 1 : Nat) : Int)))) (.int .u64 (i + ((k + 1 : Nat) : Int) + 1)) (.int .u64 (i + ((k + 1 : Nat) : Int))) (.int .u64 (i + 1 + ((k + 1 : Nat) : Int))) (.int .i64 (2 * i + 2 * ((k + 1 : Nat) : Int)))) rfl (by kernel_rfl) ?_
      refine (cR1cellGn (i + ((k + 1 : Nat) : Int)) (3 + ((k + 1 : Nat) : Int)) (i + ((k + 1 : Nat) : Int)) (i + ((k + 1 : Nat) : Int)) (i + ((k + 1 : Nat) : Int)) (atf (i + ((k + 1 : Nat) : Int))) (i + ((k + 1 : Nat) : Int) + 1) (i + ((k + 1 : Nat) : Int)) (i + 1 + ((k + 1 : Nat) : Int)) (2 * i + 2 * ((k + 1 : Nat) : Int))).mono ?_
      rintro v s ⟨rfl, rfl⟩
      conv => whnf
      refine condY (by rw [wrapI64 _ (by omega) (by omega)]; simp; omega) ?_
      conv => whnf
      refine condY (by rw [wrapI64 _ (by omega) (by omega)]; simp; omega) ?_
      conv => whnf
      refine Tr.preL (n := 8917) (L := sR1_7 8218 (.int .i64 (i + ((k + 1 : Nat) : Int))) (.int .i64 (3 + ((k + 1 : Nat) : Int))) (.int .u64 (i + ((k + 1 : Nat) : Int))) (.int .u64 (i + ((k + 1 : Nat) : Int))) (.int .u64 (i + ((k + 1 : Nat) : Int))) (.int .i64 (atf (i + ((k + 1 : Nat) : Int)))) (.int .u64 (i + ((k + 1 : Nat) : Int) + 1)) (.int .u64 (i + ((k + 1 : Nat) : Int))) (.int .u64 (i + 1 + ((k + 1 : Nat) : Int))) (.int .i64 (2 * i + 2 * ((k + 1 : Nat) : Int)))) rfl (by kernel_rfl) ?_
      refine (cR1scansG (i + ((k + 1 : Nat) : Int)) (3 + ((k + 1 : Nat) : Int)) (i + ((k + 1 : Nat) : Int)) (i + ((k + 1 : Nat) : Int)) (i + ((k + 1 : Nat) : Int)) (atf (i + ((k + 1 : Nat) : Int))) (i + ((k + 1 : Nat) : Int) + 1) (i + ((k + 1 : Nat) : Int)) (i + 1 + ((k + 1 : Nat) : Int)) (2 * i + 2 * ((k + 1 : Nat) : Int))).mono ?_
      rintro v s ⟨rfl, rfl⟩
      conv => whnf
      refine FrzK.le ?_
      rw [wrapI64 _ (by omega) (by omega), wrapU64 _ (by omega) (by omega), show (i + ((k + 1 : Nat) : Int) == i + placeS c 6) = true by simp; omega]
      exact Le.refl _
end Go.Proofs.YtaafinlbepaboaaGreatDoor
set_option linter.unusedVariables false
set_option linter.unusedSimpArgs false
set_option autoImplicit false
set_option maxRecDepth 100000
namespace Go.Proofs.YtaafinlbepaboaaGreatDoor
open Go.Ab Go.Proofs
theorem dR2A (i n u w : Int) (hi : 0 ≤ i ∧ i < 1000) (hn : 0 ≤ n ∧ n < 1000) (hu : 0 ≤ u ∧ u < 1000) (hw : 0 ≤ w ∧ w < 10000) : Tr Tryz.prog 19 [.ptr 6783 0] ⟨6986, memL (sR2_0 6812 (.int .i64 (i)) (.int .i64 (n)) (.int .u64 (i)) (.int .u64 (i)) (.int .u64 (i)) (.int .i64 (atf (i))) (.int .u64 (i + 1)) (.int .u64 (i)) (.int .u64 (u)) (.int .i64 (w)))⟩ fun v s => v = .int .i64 0 ∧ s = ⟨7236, memL (sR2_0 7034 (.int .i64 (i + 1)) (.int .i64 (n + 1)) (.int .u64 (i + 1)) (.int .u64 (i + 1)) (.int .u64 (i + 1)) (.int .i64 (atf (i + 1))) (.int .u64 (i + 1 + 1)) (.int .u64 (i + 1)) (.int .u64 (u + 1)) (.int .i64 (w + 1 + 1)))⟩ := by
  have h01 : i = 0 ∨ (0 < i ∧ (i - 1) % 2 = 0) ∨ (0 < i ∧ (i - 1) % 2 = 1) := by omega
  rcases h01 with h0 | ⟨h0, hp⟩ | ⟨h0, hp⟩
  · rw [show atf i = -1 by unfold atf; rw [if_pos h0], show atf (i + 1) = 0 by unfold atf; rw [if_neg (by omega)]; omega]
    have h := cR2scanAm i n i i i 0 (i + 1) i u w
    simp (disch := omega) only [addU64, addI64, sh48] at h
    exact h
  · rw [show atf i = 0 by unfold atf; rw [if_neg (by omega)]; exact hp, show atf (i + 1) = 1 by unfold atf; rw [if_neg (by omega)]; omega]
    have h := cR2scanA0 i n i i i 0 (i + 1) i u w
    simp (disch := omega) only [addU64, addI64, sh48] at h
    exact h
  · rw [show atf i = 1 by unfold atf; rw [if_neg (by omega)]; exact hp, show atf (i + 1) = 0 by unfold atf; rw [if_neg (by omega)]; omega]
    have h := cR2scanA1 i n i i i 0 (i + 1) i u w
    simp (disch := omega) only [addU64, addI64, sh48] at h
    exact h
theorem dR2P (i n u w : Int) (hi : 0 ≤ i ∧ i < 1000) (hn : 0 ≤ n ∧ n < 1000) (hu : 0 ≤ u ∧ u < 1000) (hw : 0 ≤ w ∧ w < 10000) : Tr Tryz.prog 19 [.ptr 6783 0] ⟨8796, memL (sR2_6 6812 (.int .i64 (i)) (.int .i64 (n)) (.int .u64 (i)) (.int .u64 (i)) (.int .u64 (i)) (.int .i64 (atf (i))) (.int .u64 (i + 1)) (.int .u64 (i)) (.int .u64 (u)) (.int .i64 (w)))⟩ fun v s => v = .int .i64 0 ∧ s = ⟨9098, memL (sR2_7 8896 (.int .i64 (i + 1)) (.int .i64 (n + 1)) (.int .u64 (i + 1)) (.int .u64 (i + 1)) (.int .u64 (i + 1)) (.int .i64 (atf (i + 1))) (.int .u64 (i + 1 + 1)) (.int .u64 (i + 1)) (.int .u64 (u + 1)) (.int .i64 (w + 1 + 1)))⟩ := by
  have h01 : i = 0 ∨ (0 < i ∧ (i - 1) % 2 = 0) ∨ (0 < i ∧ (i - 1) % 2 = 1) := by omega
  rcases h01 with h0 | ⟨h0, hp⟩ | ⟨h0, hp⟩
  · rw [show atf i = -1 by unfold atf; rw [if_pos h0], show atf (i + 1) = 0 by unfold atf; rw [if_neg (by omega)]; omega]
    have h := cR2scanPm i n i i i 0 (i + 1) i u w
    simp (disch := omega) only [addU64, addI64, sh48] at h
    exact h
  · rw [show atf i = 0 by unfold atf; rw [if_neg (by omega)]; exact hp, show atf (i + 1) = 1 by unfold atf; rw [if_neg (by omega)]; omega]
    have h := cR2scanP0 i n i i i 0 (i + 1) i u w
    simp (disch := omega) only [addU64, addI64, sh48] at h
    exact h
  · rw [show atf i = 1 by unfold atf; rw [if_neg (by omega)]; exact hp, show atf (i + 1) = 0 by unfold atf; rw [if_neg (by omega)]; omega]
    have h := cR2scanP1 i n i i i 0 (i + 1) i u w
    simp (disch := omega) only [addU64, addI64, sh48] at h
    exact h
theorem dR2G (i n u w : Int) (hi : 0 ≤ i ∧ i < 1000) (hn : 0 ≤ n ∧ n < 1000) (hu : 0 ≤ u ∧ u < 1000) (hw : 0 ≤ w ∧ w < 10000) (h1 : 0 < i) : Tr Tryz.prog 19 [.ptr 6783 0] ⟨9098, memL (sR2_7 8896 (.int .i64 (i)) (.int .i64 (n)) (.int .u64 (i)) (.int .u64 (i)) (.int .u64 (i)) (.int .i64 (atf (i))) (.int .u64 (i + 1)) (.int .u64 (i)) (.int .u64 (u)) (.int .i64 (w)))⟩ fun v s => v = .int .i64 0 ∧ s = ⟨9348, memL (sR2_7 9146 (.int .i64 (i + 1)) (.int .i64 (n + 1)) (.int .u64 (i + 1)) (.int .u64 (i + 1)) (.int .u64 (i + 1)) (.int .i64 (atf (i + 1))) (.int .u64 (i + 1 + 1)) (.int .u64 (i + 1)) (.int .u64 (u + 1)) (.int .i64 (w + 1 + 1)))⟩ := by
  have h01 : i = 0 ∨ (0 < i ∧ (i - 1) % 2 = 0) ∨ (0 < i ∧ (i - 1) % 2 = 1) := by omega
  rcases h01 with h0 | ⟨h0, hp⟩ | ⟨h0, hp⟩
  · omega
  · rw [show atf i = 0 by unfold atf; rw [if_neg (by omega)]; exact hp, show atf (i + 1) = 1 by unfold atf; rw [if_neg (by omega)]; omega]
    have h := cR2scanG0 i n i i i 0 (i + 1) i u w
    simp (disch := omega) only [addU64, addI64, sh48] at h
    exact h
  · rw [show atf i = 1 by unfold atf; rw [if_neg (by omega)]; exact hp, show atf (i + 1) = 0 by unfold atf; rw [if_neg (by omega)]; omega]
    have h := cR2scanG1 i n i i i 0 (i + 1) i u w
    simp (disch := omega) only [addU64, addI64, sh48] at h
    exact h
theorem madeR2 (s : St) (hs : s.next = 1856) : Tr Tryz.prog 10 aMdR2 s fun v s => v = .tup [.ptr 6783 0, .ptr 1857 0] ∧ s = ⟨6985, memL ((sR2_0 6812 (.int .i64 (0)) (.int .i64 (3)) (.int .u64 (0)) (.int .u64 (0)) (.int .u64 (0)) (.int .i64 (-1)) (.int .u64 (1)) (.int .u64 (0)) (.int .u64 (0)) (.int .i64 (0))).filter fun p => !Nat.beq p.1 6985)⟩ :=
  stage_at tMdR2 s hs (by kernel_rfl) (by kernel_rfl) (by kernel_rfl)
theorem lawR2 (a b c : Int) (hb : placeS b 3 = 2) : Tr Tryz.prog 4 [.int .i64 a, .int .i64 b, .int .i64 c] ⟨0, []⟩ (FrzK (.bool true)) := by
  have hm := placeS_range a 10 (by decide) (by decide)
  have hq := placeS_range c 6 (by decide) (by decide)
  have hE : Ev Tryz.prog 18 [.int .i64 b, .int .i64 3] (.int .i64 2) := hb ▸ place_ev b 3 (by decide)
  refine trF g4 b4 c4 ?_
  conv => whnf
  refine knW.mono ?_
  rintro v s ⟨rfl, rfl⟩
  conv => whnf
  refine Ev.call (place_ev a 10 (by decide)) ?_
  conv => whnf
  refine Ev.call hE ?_
  conv => whnf
  refine Ev.call (place_ev c 6 (by decide)) ?_
  conv => whnf
  refine Tr.cast (args' := aMdR2) (by kernel_rfl) ?_
  refine (madeR2 _ rfl).mono ?_
  rintro v s ⟨rfl, rfl⟩
  conv => whnf
  refine loopI (α := {i : Int // 0 ≤ i ∧ i ≤ placeS a 10}) (fun i => [(0, .int .i64 (placeS a 10)), (1, .int .i64 2), (2, .int .i64 (placeS c 6)), (8, .ptr 6985 0), (10, .int .i64 i.1)]) (fun i => ⟨6986, memL (sR2_0 6812 (.int .i64 (i.1)) (.int .i64 (3 + i.1)) (.int .u64 (i.1)) (.int .u64 (i.1)) (.int .u64 (i.1)) (.int .i64 (atf (i.1))) (.int .u64 (i.1 + 1)) (.int .u64 (i.1)) (.int .u64 (i.1)) (.int .i64 (2 * i.1)))⟩) (fun i => (placeS a 10 - i.1).toNat) ⟨0, by omega⟩
    (subL [] rfl rfl (by kernel_rfl) (by kernel_rfl) (by kernel_rfl) ⟨⟨rfl, rfl⟩, ⟨rfl, rfl⟩, ⟨rfl, rfl⟩, ⟨rfl, rfl⟩, ⟨rfl, rfl⟩, trivial⟩) fun ⟨i, hi⟩ => ?_
  have hi : 0 ≤ i ∧ i ≤ placeS a 10 := hi
  conv => whnf
  by_cases hlt : i < placeS a 10
  · refine condY (by simpa using hlt) ?_
    conv => whnf
    refine (dR2A i (3 + i) i (2 * i) (by omega) (by omega) (by omega) (by omega)).mono ?_
    rintro v s ⟨rfl, rfl⟩
    conv => whnf
    refine ⟨⟨i + 1, by omega⟩, subL [(6812, some 7034)] rfl rfl (by kernel_rfl) (by kernel_rfl) ?_ ⟨⟨rfl, rfl⟩, ⟨rfl, rfl⟩, ⟨rfl, rfl⟩, ⟨rfl, rfl⟩, ⟨?_, rfl⟩, trivial⟩, by show (placeS a 10 - (i + 1)).toNat < (placeS a 10 - i).toNat; omega⟩
    · rw [show 2 * i + 1 + 1 = 2 * (i + 1) by omega, show 3 + i + 1 = 3 + (i + 1) by omega]
      kernel_rfl
    · show AV.int .i64 (IntKind.i64.wrap (i + 1)) = AV.int .i64 (i + 1)
      rw [wrapI64 _ (by omega) (by omega)]
  obtain rfl : i = placeS a 10 := by omega
  generalize hmi : placeS a 10 = i at *
  refine condN (by simp) ?_
  conv => whnf
  refine (cR2connect (i) (3 + i) (i) (i) (i) (atf (i)) (i + 1) (i) (i) (2 * i)).mono ?_
  rintro v s ⟨rfl, rfl⟩
  conv => whnf
  refine Tr.preL (n := 6989) (L := sR2_2 6812 (.int .i64 (i)) (.int .i64 (3 + i)) (.int .u64 (i)) (.int .u64 (i)) (.int .u64 (i)) (.int .i64 (atf (i))) (.int .u64 (i + 1)) (.int .u64 (i)) (.int .u64 (i)) (.int .i64 (2 * i))) rfl (by kernel_rfl) ?_
  refine (cR2put1 (i) (3 + i) (i) (i) (i) (atf (i)) (i + 1) (i) (i) (2 * i)).mono ?_
  rintro v s ⟨rfl, rfl⟩
  conv => whnf
  refine Tr.preL (n := 7024) (L := sR2_3 6812 (.int .i64 (i)) (.int .i64 (3 + i)) (.int .u64 (i)) (.int .u64 (i)) (.int .u64 (i)) (.int .i64 (atf (i))) (.int .u64 (i + 1)) (.int .u64 (i)) (.int .u64 (i)) (.int .i64 (2 * i))) rfl (by kernel_rfl) ?_
  have h := cR2scanF (i) (3 + i) (i) (i) (i) (atf (i)) (i + 1) (i) (i) (2 * i)
  simp (disch := omega) only [addU64, addI64, sh48] at h
  refine h.mono ?_
  clear h
  rintro v s ⟨rfl, rfl⟩
  conv => whnf
  refine ⟨rfl, ?_⟩
  conv => whnf
  refine Tr.preL (n := 7761) (L := sR2_4 6812 (.int .i64 (i)) (.int .i64 (3 + i)) (.int .u64 (i)) (.int .u64 (i)) (.int .u64 (i)) (.int .i64 (atf (i))) (.int .u64 (i + 1)) (.int .u64 (i)) (.int .u64 (i + 1)) (.int .i64 (2 * i))) rfl (by kernel_rfl) ?_
  refine (cR2cellDr (i) (3 + i) (i) (i) (i) (atf (i)) (i + 1) (i) (i + 1) (2 * i)).mono ?_
  rintro v s ⟨rfl, rfl⟩
  conv => whnf
  refine Tr.preL (n := 8009) (L := sR2_4 6812 (.int .i64 (i)) (.int .i64 (3 + i)) (.int .u64 (i)) (.int .u64 (i)) (.int .u64 (i)) (.int .i64 (atf (i))) (.int .u64 (i + 1)) (.int .u64 (i)) (.int .u64 (i + 1)) (.int .i64 (2 * i))) rfl (by kernel_rfl) ?_
  refine (cR2cellDn (i) (3 + i) (i) (i) (i) (atf (i)) (i + 1) (i) (i + 1) (2 * i)).mono ?_
  rintro v s ⟨rfl, rfl⟩
  conv => whnf
  refine condN (by simp) ?_
  conv => whnf
  refine condN (by rw [wrapI64 _ (by omega) (by omega)]; simp) ?_
  conv => whnf
  refine Tr.preL (n := 8258) (L := sR2_4 6812 (.int .i64 (i)) (.int .i64 (3 + i)) (.int .u64 (i)) (.int .u64 (i)) (.int .u64 (i)) (.int .i64 (atf (i))) (.int .u64 (i + 1)) (.int .u64 (i)) (.int .u64 (i + 1)) (.int .i64 (2 * i))) rfl (by kernel_rfl) ?_
  refine (cR2put0 (i) (3 + i) (i) (i) (i) (atf (i)) (i + 1) (i) (i + 1) (2 * i)).mono ?_
  rintro v s ⟨rfl, rfl⟩
  conv => whnf
  refine Tr.preL (n := 8291) (L := sR2_5 6812 (.int .i64 (i)) (.int .i64 (3 + i)) (.int .u64 (i)) (.int .u64 (i)) (.int .u64 (i)) (.int .i64 (atf (i))) (.int .u64 (i + 1)) (.int .u64 (i)) (.int .u64 (i + 1)) (.int .i64 (2 * i))) rfl (by kernel_rfl) ?_
  refine (cR2restart1 (i) (3 + i) (i) (i) (i) (atf (i)) (i + 1) (i) (i + 1) (2 * i)).mono ?_
  rintro v s ⟨rfl, rfl⟩
  conv => whnf
  refine Tr.preL (n := 8299) (L := sR2_6 6812 (.int .i64 (i)) (.int .i64 (3)) (.int .u64 (i)) (.int .u64 (i)) (.int .u64 (i)) (.int .i64 (atf (i))) (.int .u64 (i + 1)) (.int .u64 (i)) (.int .u64 (i + 1)) (.int .i64 (2 * i))) rfl (by kernel_rfl) ?_
  refine (cR2restart2 (i) (3) (i) (i) (i) (atf (i)) (i + 1) (i) (i + 1) (2 * i)).mono ?_
  rintro v s ⟨rfl, rfl⟩
  conv => whnf
  refine Tr.preL (n := 8299) (L := sR2_6 6812 (.int .i64 (i)) (.int .i64 (3)) (.int .u64 (i)) (.int .u64 (i)) (.int .u64 (i)) (.int .i64 (atf (i))) (.int .u64 (i + 1)) (.int .u64 (i)) (.int .u64 (i + 1)) (.int .i64 (2 * i))) rfl (by kernel_rfl) ?_
  refine (cR2cellFr (i) (3) (i) (i) (i) (atf (i)) (i + 1) (i) (i + 1) (2 * i)).mono ?_
  rintro v s ⟨rfl, rfl⟩
  conv => whnf
  refine Tr.preL (n := 8547) (L := sR2_6 6812 (.int .i64 (i)) (.int .i64 (3)) (.int .u64 (i)) (.int .u64 (i)) (.int .u64 (i)) (.int .i64 (atf (i))) (.int .u64 (i + 1)) (.int .u64 (i)) (.int .u64 (i + 1)) (.int .i64 (2 * i))) rfl (by kernel_rfl) ?_
  refine (cR2cellFn (i) (3) (i) (i) (i) (atf (i)) (i + 1) (i) (i + 1) (2 * i)).mono ?_
  rintro v s ⟨rfl, rfl⟩
  conv => whnf
  refine condN (by simp) ?_
  conv => whnf
  refine loopI (α := {j : Nat // (j : Int) ≤ placeS c 6}) (fun j => [(0, .int .i64 i), (1, .int .i64 2), (2, .int .i64 (placeS c 6)), (8, .ptr 6985 0), (18, .int .i64 (j.1 : Int))]) (fun j => match j.1 with
      | 0 => ⟨8796, memL (sR2_6 6812 (.int .i64 (i)) (.int .i64 (3)) (.int .u64 (i)) (.int .u64 (i)) (.int .u64 (i)) (.int .i64 (atf (i))) (.int .u64 (i + 1)) (.int .u64 (i)) (.int .u64 (i + 1)) (.int .i64 (2 * i)))⟩
      | k + 1 => ⟨9098, memL (sR2_7 8896 (.int .i64 (i + ((k + 1 : Nat) : Int))) (.int .i64 (3 + ((k + 1 : Nat) : Int))) (.int .u64 (i + ((k + 1 : Nat) : Int))) (.int .u64 (i + ((k + 1 : Nat) : Int))) (.int .u64 (i + ((k + 1 : Nat) : Int))) (.int .i64 (atf (i + ((k + 1 : Nat) : Int)))) (.int .u64 (i + ((k + 1 : Nat) : Int) + 1)) (.int .u64 (i + ((k + 1 : Nat) : Int))) (.int .u64 (i + 1 + ((k + 1 : Nat) : Int))) (.int .i64 (2 * i + 2 * ((k + 1 : Nat) : Int))))⟩) (fun j => (placeS c 6 - (j.1 : Int)).toNat) ⟨0, by show ((0 : Nat) : Int) ≤ _; omega⟩
    (subL [] rfl rfl (by kernel_rfl) (by kernel_rfl) (by kernel_rfl) ⟨⟨rfl, rfl⟩, ⟨rfl, rfl⟩, ⟨rfl, rfl⟩, ⟨rfl, rfl⟩, ⟨rfl, rfl⟩, trivial⟩) fun ⟨j, hj⟩ => ?_
  have hj : (j : Int) ≤ placeS c 6 := hj
  cases j with
  | zero =>
    conv => whnf
    by_cases h0 : (0 : Int) < placeS c 6
    · refine condY (by simpa using h0) ?_
      conv => whnf
      refine (dR2P i 3 (i + 1) (2 * i) (by omega) (by omega) (by omega) (by omega)).mono ?_
      rintro v s ⟨rfl, rfl⟩
      conv => whnf
      refine ⟨⟨0 + 1, by show ((0 + 1 : Nat) : Int) ≤ _; omega⟩, subL [] rfl rfl (by kernel_rfl) (by kernel_rfl) ?_ ⟨⟨rfl, rfl⟩, ⟨rfl, rfl⟩, ⟨rfl, rfl⟩, ⟨rfl, rfl⟩, ⟨?_, rfl⟩, trivial⟩, by show (placeS c 6 - ((0 + 1 : Nat) : Int)).toNat < (placeS c 6 - ((0 : Nat) : Int)).toNat; omega⟩
      · rw [show i + ((0 + 1 : Nat) : Int) = i + 1 by omega, show 3 + ((0 + 1 : Nat) : Int) = 3 + 1 by omega, show i + 1 + ((0 + 1 : Nat) : Int) = i + 1 + 1 by omega, show 2 * i + 2 * ((0 + 1 : Nat) : Int) = 2 * i + 1 + 1 by omega]
        kernel_rfl
      · rfl
    · refine condN (by simpa using h0) ?_
      have hq0 : placeS c 6 = 0 := by omega
      conv => whnf
      refine Tr.preL (n := 8796) (L := sR2_6 6812 (.int .i64 (i)) (.int .i64 (3)) (.int .u64 (i)) (.int .u64 (i)) (.int .u64 (i)) (.int .i64 (atf (i))) (.int .u64 (i + 1)) (.int .u64 (i)) (.int .u64 (i + 1)) (.int .i64 (2 * i))) rfl (by kernel_rfl) ?_
      refine (cR2cellHr (i) (3) (i) (i) (i) (atf (i)) (i + 1) (i) (i + 1) (2 * i)).mono ?_
      rintro v s ⟨rfl, rfl⟩
      conv => whnf
      refine Tr.preL (n := 9044) (L := sR2_6 6812 (.int .i64 (i)) (.int .i64 (3)) (.int .u64 (i)) (.int .u64 (i)) (.int .u64 (i)) (.int .i64 (atf (i))) (.int .u64 (i + 1)) (.int .u64 (i)) (.int .u64 (i + 1)) (.int .i64 (2 * i))) rfl (by kernel_rfl) ?_
      refine (cR2cellHn (i) (3) (i) (i) (i) (atf (i)) (i + 1) (i) (i + 1) (2 * i)).mono ?_
      rintro v s ⟨rfl, rfl⟩
      conv => whnf
      refine condY (by rw [wrapI64 _ (by omega) (by omega)]; simp; omega) ?_
      conv => whnf
      refine condY (by rw [wrapI64 _ (by omega) (by omega)]; simp; omega) ?_
      conv => whnf
      refine Tr.preL (n := 9293) (L := sR2_6 6812 (.int .i64 (i)) (.int .i64 (3)) (.int .u64 (i)) (.int .u64 (i)) (.int .u64 (i)) (.int .i64 (atf (i))) (.int .u64 (i + 1)) (.int .u64 (i)) (.int .u64 (i + 1)) (.int .i64 (2 * i))) rfl (by kernel_rfl) ?_
      refine (cR2scansH (i) (3) (i) (i) (i) (atf (i)) (i + 1) (i) (i + 1) (2 * i)).mono ?_
      rintro v s ⟨rfl, rfl⟩
      conv => whnf
      refine FrzK.le ?_
      rw [wrapI64 _ (by omega) (by omega), wrapU64 _ (by omega) (by omega), show (i == i + placeS c 6) = true by simp; omega]
      exact Le.refl _
  | succ k =>
    conv => whnf
    by_cases h0 : ((k + 1 : Nat) : Int) < placeS c 6
    · refine condY (by simpa using h0) ?_
      conv => whnf
      refine (dR2G (i + ((k + 1 : Nat) : Int)) (3 + ((k + 1 : Nat) : Int)) (i + 1 + ((k + 1 : Nat) : Int)) (2 * i + 2 * ((k + 1 : Nat) : Int)) (by omega) (by omega) (by omega) (by omega) (by omega)).mono ?_
      rintro v s ⟨rfl, rfl⟩
      conv => whnf
      refine ⟨⟨k + 1 + 1, by show ((k + 1 + 1 : Nat) : Int) ≤ _; omega⟩, subL [(8896, some 9146)] rfl rfl (by kernel_rfl) (by kernel_rfl) ?_ ⟨⟨rfl, rfl⟩, ⟨rfl, rfl⟩, ⟨rfl, rfl⟩, ⟨rfl, rfl⟩, ⟨?_, rfl⟩, trivial⟩, by show (placeS c 6 - ((k + 1 + 1 : Nat) : Int)).toNat < (placeS c 6 - ((k + 1 : Nat) : Int)).toNat; omega⟩
      · rw [show i + ((k + 1 + 1 : Nat) : Int) = i + ((k + 1 : Nat) : Int) + 1 by omega, show 3 + ((k + 1 + 1 : Nat) : Int) = 3 + ((k + 1 : Nat) : Int) + 1 by omega, show i + 1 + ((k + 1 + 1 : Nat) : Int) = i + 1 + ((k + 1 : Nat) : Int) + 1 by omega, show 2 * i + 2 * ((k + 1 + 1 : Nat) : Int) = 2 * i + 2 * ((k + 1 : Nat) : Int) + 1 + 1 by omega]
        kernel_rfl
      · show AV.int .i64 (IntKind.i64.wrap (((k + 1 : Nat) : Int) + 1)) = AV.int .i64 ((k + 1 + 1 : Nat) : Int)
        rw [wrapI64 _ (by omega) (by omega)]
        rfl
    · refine condN (by simpa using h0) ?_
      have hq0 : placeS c 6 = ((k + 1 : Nat) : Int) := by omega
      conv => whnf
      refine Tr.preL (n := 9098) (L := sR2_7 8896 (.int .i64 (i + ((k + 1 : Nat) : Int))) (.int .i64 (3 + ((k + 1 : Nat) : Int))) (.int .u64 (i + ((k + 1 : Nat) : Int))) (.int .u64 (i + ((k + 1 : Nat) : Int))) (.int .u64 (i + ((k + 1 : Nat) : Int))) (.int .i64 (atf (i + ((k + 1 : Nat) : Int)))) (.int .u64 (i + ((k + 1 : Nat) : Int) + 1)) (.int .u64 (i + ((k + 1 : Nat) : Int))) (.int .u64 (i + 1 + ((k + 1 : Nat) : Int))) (.int .i64 (2 * i + 2 * ((k + 1 : Nat) : Int)))) rfl (by kernel_rfl) ?_
      refine (cR2cellGr (i + ((k + 1 : Nat) : Int)) (3 + ((k + 1 : Nat) : Int)) (i + ((k + 1 : Nat) : Int)) (i + ((k + 1 : Nat) : Int)) (i + ((k + 1 : Nat) : Int)) (atf (i + ((k + 1 : Nat) : Int))) (i + ((k + 1 : Nat) : Int) + 1) (i + ((k + 1 : Nat) : Int)) (i + 1 + ((k + 1 : Nat) : Int)) (2 * i + 2 * ((k + 1 : Nat) : Int))).mono ?_
      rintro v s ⟨rfl, rfl⟩
      conv => whnf
      refine Tr.preL (n := 9346) (L := sR2_7 8896 (.int .i64 (i + ((k + 1 : Nat) : Int))) (.int .i64 (3 + ((k + 1 : Nat) : Int))) (.int .u64 (i + ((k + 1 : Nat) : Int))) (.int .u64 (i + ((k + 1 : Nat) : Int))) (.int .u64 (i + ((k + 1 : Nat) : Int))) (.int .i64 (atf (i + ((k + 1 : Nat) : Int)))) (.int .u64 (i + ((k + 1 : Nat) : Int) + 1)) (.int .u64 (i + ((k + 1 : Nat) : Int))) (.int .u64 (i + 1 + ((k + 1 : Nat) : Int))) (.int .i64 (2 * i + 2 * ((k + 1 : Nat) : Int)))) rfl (by kernel_rfl) ?_
      refine (cR2cellGn (i + ((k + 1 : Nat) : Int)) (3 + ((k + 1 : Nat) : Int)) (i + ((k + 1 : Nat) : Int)) (i + ((k + 1 : Nat) : Int)) (i + ((k + 1 : Nat) : Int)) (atf (i + ((k + 1 : Nat) : Int))) (i + ((k + 1 : Nat) : Int) + 1) (i + ((k + 1 : Nat) : Int)) (i + 1 + ((k + 1 : Nat) : Int)) (2 * i + 2 * ((k + 1 : Nat) : Int))).mono ?_
      rintro v s ⟨rfl, rfl⟩
      conv => whnf
      refine condY (by rw [wrapI64 _ (by omega) (by omega)]; simp; omega) ?_
      conv => whnf
      refine condY (by rw [wrapI64 _ (by omega) (by omega)]; simp; omega) ?_
      conv => whnf
      refine Tr.preL (n := 9595) (L := sR2_7 8896 (.int .i64 (i + ((k + 1 : Nat) : Int))) (.int .i64 (3 + ((k + 1 : Nat) : Int))) (.int .u64 (i + ((k + 1 : Nat) : Int))) (.int .u64 (i + ((k + 1 : Nat) : Int))) (.int .u64 (i + ((k + 1 : Nat) : Int))) (.int .i64 (atf (i + ((k + 1 : Nat) : Int)))) (.int .u64 (i + ((k + 1 : Nat) : Int) + 1)) (.int .u64 (i + ((k + 1 : Nat) : Int))) (.int .u64 (i + 1 + ((k + 1 : Nat) : Int))) (.int .i64 (2 * i + 2 * ((k + 1 : Nat) : Int)))) rfl (by kernel_rfl) ?_
      refine (cR2scansG (i + ((k + 1 : Nat) : Int)) (3 + ((k + 1 : Nat) : Int)) (i + ((k + 1 : Nat) : Int)) (i + ((k + 1 : Nat) : Int)) (i + ((k + 1 : Nat) : Int)) (atf (i + ((k + 1 : Nat) : Int))) (i + ((k + 1 : Nat) : Int) + 1) (i + ((k + 1 : Nat) : Int)) (i + 1 + ((k + 1 : Nat) : Int)) (2 * i + 2 * ((k + 1 : Nat) : Int))).mono ?_
      rintro v s ⟨rfl, rfl⟩
      conv => whnf
      refine FrzK.le ?_
      rw [wrapI64 _ (by omega) (by omega), wrapU64 _ (by omega) (by omega), show (i + ((k + 1 : Nat) : Int) == i + placeS c 6) = true by simp; omega]
      exact Le.refl _
end Go.Proofs.YtaafinlbepaboaaGreatDoor
set_option linter.unusedVariables false
set_option autoImplicit false
namespace Go.Proofs.YtaafinlbepaboaaGreatDoor
open Go.Ab Go.Proofs
theorem law4 (a b c : Int) : Ev Tryz.prog 4 [.int .i64 a, .int .i64 b, .int .i64 c] (.bool true) := by
  have hb := placeS_range b 3 (by decide) (by decide)
  refine FrzK.ev rfl ?_
  rcases (by omega : placeS b 3 = 0 ∨ placeS b 3 = 1 ∨ placeS b 3 = 2) with h | h | h
  · exact lawR0 a b c h
  · exact lawR1 a b c h
  · exact lawR2 a b c h
end Go.Proofs.YtaafinlbepaboaaGreatDoor
