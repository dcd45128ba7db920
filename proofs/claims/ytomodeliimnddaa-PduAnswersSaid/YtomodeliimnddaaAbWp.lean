/- The engine: verification conditions over compiled code; what a function's contract says. -/
import Derived.Test.YtomodeliimnddaaAbDefs
set_option linter.unusedVariables false
set_option autoImplicit false
namespace Go.Ab

/-! ### How values lie in memory -/
inductive GRel (w : World) (M : Nat → Prop) : AV → Value → Prop
  | undef (V : Value) : GRel w M .undef V
  | raw (V : Value) : GRel w M (.raw V) V
  | bool (b : Bool) : GRel w M (.bool b) (.bool b)
  | int (k : IntKind) (n : Int) : GRel w M (.int k n) (.int k n)
  | str (s : ByteArray) : GRel w M (.str s) (.string s)
  | nilp : GRel w M .nilp (.pointer none)
  | nils : GRel w M .nils (.slice none 0 0)
  | nili : GRel w M .nili .nilIface
  | nilf : GRel w M .nilf .nilFunc
  | nilm : GRel w M .nilm (.map none)
  | cptr (v : AV) (a : Addr) (g : Nat → Value) (hs : a.spot = none) (hM : ¬ M a.block) (hb : a.block < w.heap.size)
      (hc : ∀ j, j < v.flat.length → w.cell? ⟨a.block, a.off + j, none⟩ = some (g j))
      (hg : ∀ j, j < v.flat.length → GRel w M (v.flat.getD j .undef) (g j)) : GRel w M (.cptr v) (.pointer (some a))
  | slice (v : AV) (es n : Nat) (f : Nat → AV) (a : Addr) (cap : Nat) (g : Nat → Value) (hv : v.rov = some (es, n, f)) (hs : a.spot = none) (hM : ¬ M a.block) (hb : a.block < w.heap.size)
      (hn : n ≤ cap) (he : ∀ i, i < n → v.elen i = es) (hc : ∀ j, j < n * es → w.cell? ⟨a.block, a.off + j, none⟩ = some (g j))
      (hg : ∀ j, j < n * es → GRel w M (f j) (g j)) : GRel w M v (.slice (some a) n cap)
  | sliceNil (v : AV) (es : Nat) (f : Nat → AV) (hv : v.rov = some (es, 0, f)) : GRel w M v (.slice none 0 0)
  | agg (l : List AV) (cs : Array Value) (hl : cs.size = l.length) (hg : ∀ j, j < l.length → GRel w M (l.getD j .undef) (cs.getD j default)) : GRel w M (.agg l) (.agg cs)
  | tup (l : List AV) (cs : Array Value) (hl : cs.size = l.length) (hg : ∀ j, j < l.length → GRel w M (l.getD j .undef) (cs.getD j default)) : GRel w M (.tup l) (.tuple cs)
  | iface (t : Nat) (v : AV) (V : Value) (hg : GRel w M v V) : GRel w M (.iface t v) (.iface t V)
  | fn (f : Nat) : GRel w M (.fn f []) (.func (.func f) #[] #[])

/-- Where a handle's block lies, and from which cell on; 'some none': nowhere yet (an empty row that may be nil). -/
abbrev Iota := Nat → Option (Option (Nat × Nat))

inductive VRel (ι : Iota) (w : World) (M : Nat → Prop) : AV → Value → Prop
  | g (v : AV) (V : Value) (h : GRel w M v V) : VRel ι w M v V
  | ptr (h off b base : Nat) (hi : ι h = some (some (b, base))) : VRel ι w M (.ptr h off) (.pointer (some ⟨b, base + off, none⟩))
  | sl (es h off len b base o cap T n : Nat) (hi : ι h = some (some (b, base))) (ho : o = base + off ∨ cap = 0) (hl : len ≤ cap) (hs : w.shape? b = some (T, n)) (hn : o + cap * es ≤ n) :
      VRel ι w M (.sl es h off len) (.slice (some ⟨b, o, none⟩) len cap)
  | slv (es h off : Nat) (hi : ι h = some none) : VRel ι w M (.sl es h off 0) (.slice none 0 0)
  | agg (l : List AV) (cs : Array Value) (hl : cs.size = l.length) (hg : ∀ j, j < l.length → VRel ι w M (l.getD j .undef) (cs.getD j default)) : VRel ι w M (.agg l) (.agg cs)
  | tup (l : List AV) (cs : Array Value) (hl : cs.size = l.length) (hg : ∀ j, j < l.length → VRel ι w M (l.getD j .undef) (cs.getD j default)) : VRel ι w M (.tup l) (.tuple cs)
  | iface (t : Nat) (v : AV) (V : Value) (hg : VRel ι w M v V) : VRel ι w M (.iface t v) (.iface t V)
  | fn (f : Nat) (l : List AV) (cs : Array Value) (hl : cs.size = l.length) (hg : ∀ j, j < l.length → VRel ι w M (l.getD j .undef) (cs.getD j default)) : VRel ι w M (.fn f l) (.func (.func f) #[] cs)

def VRels (ι : Iota) (w : World) (M : Nat → Prop) (l : List AV) (cs : Array Value) : Prop :=
  cs.size = l.length ∧ ∀ j, j < l.length → VRel ι w M (l.getD j .undef) (cs.getD j default)

/-- a chunk lies at a place -/
def CRel (ι : Iota) (w : World) (M : Nat → Prop) (c : Chunk) (b base : Nat) : Prop :=
  ∃ cs T fr, w.heap[b]? = some (.cells cs T fr) ∧ (∀ i, i < cs.size → ¬ (fr.1 ≤ i ∧ i < fr.2)) ∧ base + c.size ≤ cs.size ∧
    ∀ j, j < c.size → VRel ι w M (c.get j) (cs.getD (base + j) default)

structure Rep (ι : Iota) (s : St) (w : World) (M : Nat → Prop) : Prop where
  fresh : ∀ h, s.next ≤ h → ι h = none
  own : ∀ h c, s.get h = some c → (ι h = some none ∧ c.size = 0) ∨ ∃ b base, ι h = some (some (b, base)) ∧ M b ∧ CRel ι w M c b base
  inj : ∀ h h' c c' p p', s.get h = some c → s.get h' = some c' → h ≠ h' → ι h = some (some p) → ι h' = some (some p') → p.1 ≠ p'.1
  lt : ∀ b, M b → b < w.heap.size

def Own (ι : Iota) (s : St) (b : Nat) : Prop := ∃ h c base, s.get h = some c ∧ ι h = some (some (b, base))

/-- From one state of the world to a later one: what isn't owned stays. -/
structure Go (n0 : Nat) (ι : Iota) (s : St) (w : World) (M : Nat → Prop) (ι' : Iota) (s' : St) (w' : World) (M' : Nat → Prop) : Prop where
  size : w.heap.size ≤ w'.heap.size
  tape : w'.tape = w.tape
  os : w'.os = w.os
  output : w'.output = w.output
  block : ∀ b, b < w.heap.size → ¬ Own ι s b → w'.heap[b]? = w.heap[b]?
  shape : ∀ b, b < w.heap.size → w'.shape? b = w.shape? b
  back : ∀ b, b < w.heap.size → M' b → M b
  keep : ∀ b, M b → ¬ Own ι s b → M' b
  own : ∀ b, b < w.heap.size → Own ι' s' b → Own ι s b
  next : n0 ≤ s'.next
  ext : ∀ h, h < n0 → ι' h = ι h

/-- A function's contract: called with such values in such a state it returns, and K holds. -/
def Tr (P : Program) (f : Nat) (args : List AV) (s : St) (K : AV → St → Prop) : Prop :=
  hasBody P f = true ∧ ∀ ι w M Vs, Rep ι s w M → VRels ι w M args Vs → Calls P f Vs w fun e w' =>
    ∃ V ι' M' v s', e = .returned V ∧ K v s' ∧ VRel ι' w' M' v V ∧ Rep ι' s' w' M' ∧ Go s.next ι s w M ι' s' w' M'

/-! ### Verification conditions -/
inductive Ex where
  | normal
  | exit (id : Nat)
  | ret

def forceH (v : AV) (K : AV → Prop) : Prop :=
  match v with
  | .undef => K .undef
  | .bool b => K (.bool b)
  | .int k n => K (.int k n)
  | .str s => K (.str s)
  | .nilp => K .nilp
  | .nils => K .nils
  | .nili => K .nili
  | .nilf => K .nilf
  | .nilm => K .nilm
  | .ptr h o => K (.ptr h o)
  | .cptr v => K (.cptr v)
  | .sl e h o n => K (.sl e h o n)
  | .roI k l => K (.roI k l)
  | .roB l => K (.roB l)
  | .ro e l => K (.ro e l)
  | .agg l => K (.agg l)
  | .tup l => K (.tup l)
  | .iface t v => K (.iface t v)
  | .fn f c => K (.fn f c)
  | .raw v => K (.raw v)
theorem forceH_eq (v : AV) (K : AV → Prop) : forceH v K = K v := by cases v <;> rfl
noncomputable def forceL (l : List AV) : (List AV → Prop) → Prop :=
  List.rec (motive := fun _ => (List AV → Prop) → Prop) (fun K => K []) (fun v _ ih K => forceH v fun v => ih fun r => K (v :: r)) l
theorem forceL_cons (v : AV) (r : List AV) (K : List AV → Prop) : forceL (v :: r) K = forceH v fun v => forceL r fun r => K (v :: r) := rfl
theorem forceL_eq (l : List AV) : ∀ K : List AV → Prop, forceL l K = K l := by
  induction l with
  | nil => intro K; rfl
  | cons v r ih => intro K; rw [forceL_cons, forceH_eq]; exact ih _
noncomputable def forceV (v : AV) (K : AV → Prop) : Prop :=
  forceH v fun v => match v with
    | .agg l => forceL l fun l => K (.agg l)
    | .tup l => forceL l fun l => K (.tup l)
    | v => K v
theorem forceV_eq (v : AV) (K : AV → Prop) : forceV v K = K v := by
  unfold forceV
  rw [forceH_eq]
  cases v <;> simp only [forceL_eq]

/-- what an instruction does, if it is no call -/
noncomputable def insW (s : St) (get : Nat → Option Chunk) (e : Env) (i : AIns) (K : AV → Eff → Prop) (C : Nat → List AV → Prop) : Prop :=
  match opD get s.next (AOpd.ev e) i.op with
  | .ok c v eff => bif c then
      forceV v fun v => bif i.split then (match v with
        | .bool b => bif b then K (.bool true) eff else K (.bool false) eff
        | _ => False) else K v eff
      else False
  | .call f args => C f args
  | .bad => False
/-- is an instruction done? (its guard) -/
def guardW (e : Env) (i : AIns) (yes no : Prop) : Prop :=
  match i.guard with
  | none => yes
  | some g => match e.get g.1 with
    | .bool b => bif b then (bif g.2 then yes else no) else (bif g.2 then no else yes)
    | .tup _ => no
    | _ => False
def putE (e : Env) (d : Option Nat) (v : AV) : Env :=
  match d with
  | some d => (d, v) :: e
  | none => e
def putW (e : Env) (d : Option Nat) (v : AV) (K : Env → Prop) : Prop :=
  match d with
  | some d => K ((d, v) :: e)
  | none => K e
theorem putW_eq (e : Env) (d : Option Nat) (v : AV) (K : Env → Prop) : putW e d v K = K (putE e d v) := by cases d <;> rfl
def appW (s : St) (f : Eff) (K : St → Prop) : Prop :=
  match s, f with
  | s, .no => K s
  | ⟨n, m⟩, .new c => K ⟨n + 1, (n, some c) :: m⟩
  | ⟨n, m⟩, .set h c => K ⟨n, (h, some c) :: m⟩
  | ⟨n, m⟩, .app h c => K ⟨n + 1, (n, some c) :: (h, none) :: m⟩
theorem appW_eq (s : St) (f : Eff) (K : St → Prop) : appW s f K = K (s.app f) := by cases f <;> rfl

noncomputable def regW (P : Program) (l : List AIns) : Env → St → (Env → St → Prop) → Prop :=
  List.rec (motive := fun _ => Env → St → (Env → St → Prop) → Prop) (fun e s K => K e s)
    (fun i _ ih e s K => guardW e i
      (insW s s.get e i
        (fun v eff => putW e i.dst v fun e => appW s eff fun s => ih e s K)
        (fun f args => Tr P f args s fun v s => forceV v fun v => putW e i.dst v fun e => ih e s K))
      (putW e i.dst (.tup []) fun e => ih e s K)) l
theorem regW_cons (P : Program) (i : AIns) (r : List AIns) (e : Env) (s : St) (K : Env → St → Prop) : regW P (i :: r) e s K = guardW e i
      (insW s s.get e i
        (fun v eff => putW e i.dst v fun e => appW s eff fun s => regW P r e s K)
        (fun f args => Tr P f args s fun v s => forceV v fun v => putW e i.dst v fun e => regW P r e s K))
      (putW e i.dst (.tup []) fun e => regW P r e s K) := rfl

/-- blocks that were made in a region whose order is open, and that nothing has waited for yet: the step's place, the handle, what it holds -/
abbrev Pend := List (Nat × Nat × Chunk)
def Pend.get : Pend → Nat → Option Chunk
  | [], _ => none
  | p :: r, h => bif Nat.beq p.2.1 h then some p.2.2 else Pend.get r h
def getP (s : St) (p : Pend) (h : Nat) : Option Chunk :=
  match s.get h with
  | some c => some c
  | none => p.get h
def memN (l : List Nat) (i : Nat) : Bool := l.any fun j => Nat.beq j i
/-- the new blocks that a step has waited for are memory now -/
def absorb (ab : List Nat) : Pend → Mem → Mem × Pend
  | [], m => (m, [])
  | p :: r, m => match absorb ab r m with
    | (m', r') => bif memN ab p.1 then ((p.2.1, some p.2.2) :: m', r') else (m', p :: r')
def flush : Pend → Mem → Mem
  | [], m => m
  | p :: r, m => (p.2.1, some p.2.2) :: flush r m
noncomputable def watchW (e : Env) (g g' : Nat → Option Chunk) (l : List AOpd) : Prop → Prop :=
  List.rec (motive := fun _ => Prop → Prop) (fun K => K)
    (fun x _ ih K => match x.ev e with
    | .ptr h _ => g h = g' h ∧ ih K
    | .sl _ h _ _ => g h = g' h ∧ ih K
    | _ => ih K) l

noncomputable def drawW (P : Program) (l : List AStep) : Env → St → Pend → (Env → St → Prop) → Prop :=
  List.rec (motive := fun _ => Env → St → Pend → (Env → St → Prop) → Prop) (fun e s p K => K e ⟨s.next, flush p s.m⟩)
    (fun x _ ih e s p K => bif x.e then
      match absorb x.ab p s.m with
      | (m, p) => guardW e x.ins
          (insW ⟨s.next, m⟩ (St.get ⟨s.next, m⟩) e x.ins
            (fun v eff => appW ⟨s.next, m⟩ eff fun s' => watchW e (getP ⟨s.next, m⟩ p) (getP s' p) x.wt (putW e x.ins.dst v fun e => ih e s' p K))
            (fun f args => Tr P f args ⟨s.next, m⟩ fun v s' => watchW e (getP ⟨s.next, m⟩ p) (getP s' p) x.wt (forceV v fun v => putW e x.ins.dst v fun e => ih e s' p K)))
          (putW e x.ins.dst (.tup []) fun e => ih e ⟨s.next, m⟩ p K)
    else guardW e x.ins
      (insW s (getP s p) e x.ins
        (fun v eff => putW e x.ins.dst v fun e => match eff with
          | .no => ih e s p K
          | .new c => ih e ⟨s.next + 1, s.m⟩ ((x.i, s.next, c) :: p) K
          | _ => False)
        (fun _ _ => False))
      (putW e x.ins.dst (.tup []) fun e => ih e s p K)) l

mutual
/-- renaming of handles; none: a row that is nil yet -/
def AV.ren (ρ : Nat → Option Nat) : AV → AV
  | .ptr h o => match ρ h with
    | some h' => .ptr h' o
    | none => .undef
  | .sl e h o n => match ρ h with
    | some h' => .sl e h' o n
    | none => .nils
  | .agg l => .agg (renL ρ l)
  | .tup l => .tup (renL ρ l)
  | .iface t v => .iface t (AV.ren ρ v)
  | .fn f l => .fn f (renL ρ l)
  | .undef => .undef
  | .bool b => .bool b
  | .int k n => .int k n
  | .str s => .str s
  | .nilp => .nilp
  | .nils => .nils
  | .nili => .nili
  | .nilf => .nilf
  | .nilm => .nilm
  | .cptr v => .cptr v
  | .roI k l => .roI k l
  | .roB l => .roB l
  | .ro e l => .ro e l
  | .raw v => .raw v
termination_by structural v => v
def renL (ρ : Nat → Option Nat) : List AV → List AV
  | [] => []
  | v :: r => AV.ren ρ v :: renL ρ r
termination_by structural l => l
end
mutual
/-- all handles lie below n; what is nil yet is empty, and no pointer -/
def AV.hok (n : Nat) (ρ : Nat → Option Nat) : AV → Bool
  | .ptr h _ => Nat.blt h n && (ρ h).isSome
  | .sl _ h _ m => Nat.blt h n && ((ρ h).isSome || Nat.beq m 0)
  | .agg l => hokL n ρ l
  | .tup l => hokL n ρ l
  | .iface _ v => AV.hok n ρ v
  | .fn _ l => hokL n ρ l
  | .undef => true
  | .bool _ => true
  | .int _ _ => true
  | .str _ => true
  | .nilp => true
  | .nils => true
  | .nili => true
  | .nilf => true
  | .nilm => true
  | .cptr _ => true
  | .roI _ _ => true
  | .roB _ => true
  | .ro _ _ => true
  | .raw _ => true
termination_by structural v => v
def hokL (n : Nat) (ρ : Nat → Option Nat) : List AV → Bool
  | [] => true
  | v :: r => AV.hok n ρ v && hokL n ρ r
termination_by structural l => l
end
def Chunk.ren (ρ : Nat → Option Nat) : Chunk → Chunk
  | .obj l => .obj (renL ρ l)
  | .fn n f => .fn n fun j => (f j).ren ρ
  | .rowI k l => .rowI k l
  | .rowB l => .rowB l
def Chunk.hok (n : Nat) (ρ : Nat → Option Nat) : Chunk → Prop
  | .obj l => hokL n ρ l = true
  | .fn m f => ∀ j, j < m → (f j).hok n ρ = true
  | .rowI _ _ => True
  | .rowB _ => True
/-- a renaming as a list; others keep their names -/
def rnm : List (Nat × Option Nat) → Nat → Option Nat
  | [], h => some h
  | p :: r, h => bif Nat.beq p.1 h then p.2 else rnm r h
def envSub (ρ : Nat → Option Nat) (n : Nat) (e : Env) : Env → Prop
  | [] => True
  | p :: r => (e.get p.1 = p.2.ren ρ ∧ p.2.hok n ρ = true) ∧ envSub ρ n e r
def memSub (ρ : Nat → Option Nat) (n : Nat) (s : St) : Mem → Prop
  | [] => True
  | (h, some c) :: r => (c.hok n ρ ∧ Nat.blt h n = true ∧ match ρ h with
      | some h' => s.get h' = some (c.ren ρ)
      | none => c.size = 0) ∧ memSub ρ n s r
  | (_, none) :: r => memSub ρ n s r
def liveOf (ρ : Nat → Option Nat) : Mem → List Nat
  | [] => []
  | (h, some _) :: r => match ρ h with
    | some h' => h' :: liveOf ρ r
    | none => liveOf ρ r
  | (_, none) :: r => liveOf ρ r
def nodupN : List Nat → Bool
  | [] => true
  | h :: r => !memN r h && nodupN r
/-- what is known of a state is known of another, less well perhaps, and by other names -/
def SubW (n0 : Nat) (e : Env) (s : St) (E : Env) (S : St) : Prop :=
  ∃ rn : List (Nat × Option Nat), (rn.all fun p => Nat.ble n0 p.1) = true ∧ Nat.ble n0 S.next = true ∧ nodupN (liveOf (rnm rn) S.m) = true ∧
    envSub (rnm rn) S.next e E ∧ memSub (rnm rn) S.next s S.m

/-- a loop: an invariant's states, a measure -/
def LoopW (n0 : Nat) (B : Env → St → (Ex → Env → St → Prop) → Prop) (e : Env) (s : St) (K : Ex → Env → St → Prop) : Prop :=
  ∃ (α : Type) (E : α → Env) (S : α → St) (μ : α → Nat) (x0 : α), SubW n0 e s (E x0) (S x0) ∧
    ∀ x, B (E x) (S x) fun ex e s => match ex with
      | .normal => ∃ x', SubW n0 e s (E x') (S x') ∧ μ x' < μ x
      | .exit j => K (.exit j) e s
      | .ret => K .ret e s

noncomputable def wpA (P : Program) (n0 : Nat) (c : ACode) : Env → St → (Ex → Env → St → Prop) → Prop :=
  ACode.rec (motive := fun _ => Env → St → (Ex → Env → St → Prop) → Prop)
    (fun e s K => K .normal e s)
    (fun l e s K => regW P l e s fun e s => K .normal e s)
    (fun l e s K => drawW P l e s [] fun e s => K .normal e s)
    (fun _ _ iha ihb e s K => iha e s fun x e s => match x with
      | .normal => ihb e s K
      | .exit j => K (.exit j) e s
      | .ret => K .ret e s)
    (fun c _ _ iha ihb e s K => match c.ev e with
      | .bool t => bif t then iha e s K else ihb e s K
      | _ => False)
    (fun id _ iha e s K => iha e s fun x e s => match x with
      | .normal => K .normal e s
      | .exit j => bif Nat.beq j id then K .normal e s else K (.exit j) e s
      | .ret => K .ret e s)
    (fun _ iha e s K => LoopW n0 iha e s K)
    (fun id e s K => K (.exit id) e s)
    (fun e s K => K .ret e s) c

def argsE : Nat → List AV → Env
  | _, [] => []
  | i, v :: r => (i, v) :: argsE (i + 1) r
noncomputable def resW (e : Env) (s : St) (l : List ARes) : (List AV → Prop) → Prop :=
  List.rec (motive := fun _ => (List AV → Prop) → Prop) (fun K => K [])
    (fun r _ ih K => match r with
      | .t n => forceV (e.get n) fun v => ih fun l => K (v :: l)
      | .cell n agg sz => match e.get n with
        | .ptr h off => match s.get h with
          | some c => bif (c.ld agg off sz).1 then forceV (c.ld agg off sz).2 fun v => ih fun l => K (v :: l) else False
          | none => False
        | _ => False) l
def retW (K : AV → St → Prop) (s : St) : List AV → Prop
  | [v] => K v s
  | l => K (.tup l) s
/-- the verification condition of a function -/
noncomputable def fnW (P : Program) (c : ACode) (rs : List ARes) (args : List AV) (s : St) (K : AV → St → Prop) : Prop :=
  wpA P s.next c (argsE 0 args) s fun x e s => match x with
    | .exit _ => False
    | _ => resW e s rs (retW K s)

attribute [irreducible] Tr LoopW
end Go.Ab
