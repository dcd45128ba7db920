/- The engine's definitions: abstract values, memory cut into chunks, compiled code, its verification conditions. Plain definitions. -/
import Derived.Calls
import Derived.Below
set_option linter.unusedVariables false
set_option autoImplicit false
namespace Go.Ab

/-- Abstract values. A slice that nobody writes any more is a value (roI, roB, ro: possibly nil where it is empty). -/
inductive AV where
  | undef
  | bool (b : Bool)
  | int (k : IntKind) (n : Int)
  | str (s : ByteArray)
  | nilp
  | nils
  | nili
  | nilf
  | nilm
  | ptr (h off : Nat)
  | cptr (v : AV)
  | sl (es h off len : Nat)
  | roI (k : IntKind) (l : List Int)
  | roB (l : List Bool)
  | ro (es : Nat) (l : List AV)
  | agg (l : List AV)
  | tup (l : List AV)
  | iface (t : Nat) (v : AV)
  | fn (f : Nat) (caps : List AV)
  | raw (v : Value)
  deriving Inhabited

def AV.flat : AV → List AV
  | .agg l => l
  | v => [v]
def AV.isAgg : AV → Bool
  | .agg _ => true
  | _ => false
/-- the value of one cell, and something is known of it -/
def AV.one : AV → Bool
  | .undef | .agg _ | .tup _ | .raw _ => false
  | _ => true
def AV.rov : AV → Option (Nat × Nat × (Nat → AV))
  | .roI k l => some (1, l.length, fun j => .int k (l.getD j 0))
  | .roB l => some (1, l.length, fun j => .bool (l.getD j false))
  | .ro es l => some (es, l.length, fun j => (l.getD (j / es) .undef).flat.getD (j % es) .undef)
  | _ => none

/-- how many cells an element has -/
def AV.elen : AV → Nat → Nat
  | .ro _ l, i => (l.getD i .undef).flat.length
  | _, _ => 1
/-- What a block holds. -/
inductive Chunk where
  | obj (l : List AV)
  | rowI (k : IntKind) (l : List Int)
  | rowB (l : List Bool)
  | fn (n : Nat) (f : Nat → AV)
def Chunk.size : Chunk → Nat
  | .obj l => l.length
  | .rowI _ l => l.length
  | .rowB l => l.length
  | .fn n _ => n
def Chunk.get : Chunk → Nat → AV
  | .obj l, j => l.getD j .undef
  | .rowI k l, j => .int k (l.getD j 0)
  | .rowB l, j => .bool (l.getD j false)
  | .fn _ f, j => f j

abbrev Env := List (Nat × AV)
def Env.get : Env → Nat → AV
  | [], _ => .undef
  | p :: r, u => bif Nat.beq p.1 u then p.2 else Env.get r u

abbrev Mem := List (Nat × Option Chunk)
def Mem.get : Mem → Nat → Option Chunk
  | [], _ => none
  | p :: r, u => bif Nat.beq p.1 u then p.2 else Mem.get r u
structure St where
  next : Nat
  m : Mem
def St.get (s : St) (h : Nat) : Option Chunk := s.m.get h

inductive AOpd where
  | t (n : Nat)
  | c (v : AV)
  | f (n : Nat)
  deriving Inhabited
def AOpd.ev (e : Env) : AOpd → AV
  | .t n => e.get n
  | .c v => v
  | .f n => .fn n []

/-- What a row's elements are: numbers, truth values, others (of so many cells). -/
inductive RK where
  | int (k : IntKind)
  | bool
  | gen
  deriving Inhabited, DecidableEq
inductive ConvK where
  | int (k : IntKind)
  | same
  | toStr
  deriving Inhabited, DecidableEq
/-- what is cut: a slice of elements of so many cells; a string; an array behind a pointer -/
inductive SK where
  | sl (es : Nat)
  | str
  | arr (n es : Nat)
  deriving Inhabited, DecidableEq
inductive EqK where
  | bool | ptr | slice | map | func | iface | other
  deriving Inhabited, DecidableEq
inductive Atom where
  | add (k : IntKind) | load | store
  deriving Inhabited, DecidableEq

inductive AOp where
  | mov (x : AOpd)
  | pick (c a b : AOpd)
  | alloc (z : List (Nat × AV))
  | box (x : AOpd)
  | build (z : List AV) (parts : List (Nat × Nat × AOpd))
  | bslice (es : Nat) (rk : RK) (z : List AV) (parts : List (Nat × Nat × AOpd)) (n : Nat)
  | load (agg : Bool) (sz : Nat) (x : AOpd)
  | store (sz : Nat) (x y : AOpd)
  | nilck (x : AOpd)
  | bin (op : BinOp) (k : EqK) (x y : AOpd)
  | un (op : UnOp) (x : AOpd)
  | conv (k : ConvK) (x : AOpd)
  | mkif (t : Nat) (x : AOpd)
  | mkfn (f : Nat) (caps : List AOpd)
  | mkslice (es bytes : Nat) (rk : RK) (z : List AV) (x : AOpd)
  | slice (sk : SK) (x : AOpd) (lo hi : Option AOpd)
  | fld (off sz : Nat) (agg : Bool) (x : AOpd)
  | idx (es : Nat) (arr : Option Nat) (agg : Bool) (x i : AOpd)
  | ext (x : AOpd) (i : Nat)
  | len (str : Bool) (x : AOpd)
  | mn (x y : AOpd)
  | mx (x y : AOpd)
  | app (es bytes : Nat) (x y : AOpd)
  | call (f : Nat) (args : List AOpd)
  | callv (x : AOpd) (args : List AOpd)
  | inv (m : String) (x : AOpd) (args : List AOpd)
  | atom (k : Atom) (args : List AOpd)
  deriving Inhabited

structure AIns where
  dst : Option Nat
  op : AOp
  guard : Option (Nat × Bool)
  split : Bool
  deriving Inhabited

/-- A step of a region whose order is open, in an order of ours: its place; the instruction; does it change what was there, or call; the new blocks that it waits for; the loads (their addresses) that need not wait for it. -/
structure AStep where
  i : Nat
  ins : AIns
  e : Bool
  ab : List Nat
  wt : List AOpd
  deriving Inhabited

inductive ACode where
  | skip
  | reg (l : List AIns)
  | draw (l : List AStep)
  | seq (a b : ACode)
  | cond (x : AOpd) (a b : ACode)
  | block (id : Nat) (a : ACode)
  | loop (a : ACode)
  | exit (id : Nat)
  | ret
  deriving Inhabited

inductive ARes where
  | t (n : Nat)
  | cell (n : Nat) (agg : Bool) (sz : Nat)
  deriving Inhabited

/-! ### What an operation does -/
inductive Eff where
  | no
  | new (c : Chunk)
  | set (h : Nat) (c : Chunk)
  | app (h : Nat) (c : Chunk)
/-- done, if the condition holds: a value, a change · a call · not known -/
inductive Res where
  | ok (c : Bool) (v : AV) (e : Eff)
  | call (f : Nat) (args : List AV)
  | bad

def St.app (s : St) : Eff → St
  | .no => s
  | .new c => ⟨s.next + 1, (s.next, some c) :: s.m⟩
  | .set h c => ⟨s.next, (h, some c) :: s.m⟩
  | .app h c => ⟨s.next + 1, (s.next, some c) :: (h, none) :: s.m⟩

def rlLen : List (Nat × AV) → Nat
  | [] => 0
  | p :: r => p.1 + rlLen r
def rlGet : List (Nat × AV) → Nat → AV
  | [], _ => .undef
  | p :: r, j => bif Nat.blt j p.1 then p.2 else rlGet r (j - p.1)
def rlList : List (Nat × AV) → List AV
  | [] => []
  | p :: r => List.replicate p.1 p.2 ++ rlList r
/-- a new block of zeros: small ones cell by cell -/
def zChunk (z : List (Nat × AV)) : Chunk :=
  bif Nat.ble (rlLen z) 64 then .obj (rlList z) else .fn (rlLen z) (rlGet z)

def putL : List AV → Nat → List AV → List AV
  | z, _, [] => z
  | z, off, v :: r => putL (z.set off v) (off + 1) r
/-- parts laid over zeros; none: a part of another size, or not known -/
def fillA (ρ : AOpd → AV) : List AV → List (Nat × Nat × AOpd) → Option (List AV)
  | z, [] => some z
  | z, p :: r => match (ρ p.2.2) with
    | .undef => none
    | .tup _ => none
    | .raw _ => none
    | v => bif Nat.beq v.flat.length p.2.1 && Nat.ble (p.1 + p.2.1) z.length then fillA ρ (putL z p.1 v.flat) r else none
def ints (k : IntKind) : List AV → Option (List Int)
  | [] => some []
  | .int k' n :: r => match ints k r with
    | some l => if k' = k then some (n :: l) else none
    | none => none
  | _ => none
def boolsA : List AV → Option (List Bool)
  | [] => some []
  | .bool b :: r => match boolsA r with
    | some l => some (b :: l)
    | none => none
  | _ => none
def rowOf (rk : RK) (l : List AV) : Option Chunk :=
  match rk with
  | .int k => (ints k l).map (.rowI k)
  | .bool => (boolsA l).map .rowB
  | .gen => some (.obj l)
def zeroRow (rk : RK) (z : List AV) (n : Nat) : Chunk :=
  match rk with
  | .int k => .rowI k (List.replicate n 0)
  | .bool => .rowB (List.replicate n false)
  | .gen => .fn (n * z.length) (fun j => z.getD (j % z.length) .undef)

/-- the chunk with cells from a place on -/
def Chunk.put (c : Chunk) (off : Nat) (vs : List AV) : Option Chunk :=
  match c with
  | .obj l => some (.obj (putL l off vs))
  | .rowI k l => match vs with
    | [.int k' n] => if k' = k then some (.rowI k (l.set off n)) else none
    | _ => none
  | .rowB l => match vs with
    | [.bool b] => some (.rowB (l.set off b))
    | _ => none
  | .fn n f => some (.fn n fun j => bif Nat.ble off j && Nat.blt j (off + vs.length) then vs.getD (j - off) .undef else f j)
/-- a new row with just these -/
def rowFrom (d : AV) (es : Nat) (get : Nat → Option Chunk) : Option (Bool × Chunk) :=
  match d with
  | .nils => some (true, .obj [])
  | .raw (.slice (some _) 0 _) => some (true, .obj [])
  | .roI k m => some (Nat.beq es 1, .rowI k m)
  | .roB m => some (Nat.beq es 1, .rowB m)
  | .sl e h o m => match get h with
    | some (.rowI k l) => some (Nat.beq e es && Nat.beq es 1 && decide (o + m ≤ l.length), .rowI k ((l.drop o).take m))
    | some (.rowB l) => some (Nat.beq e es && Nat.beq es 1 && decide (o + m ≤ l.length), .rowB ((l.drop o).take m))
    | some (.obj l) => some (Nat.beq e es && decide (o + m * es ≤ l.length) && ((l.drop o).take (m * es)).all AV.one, .obj ((l.drop o).take (m * es)))
    | _ => none
  | _ => none
/-- two rows, one behind the other -/
def Chunk.cat : Chunk → Chunk → Option Chunk
  | .rowI k l, .rowI k' m => if k = k' then some (.rowI k (l ++ m)) else none
  | .rowB l, .rowB m => some (.rowB (l ++ m))
  | .obj l, .obj m => some (.obj (l ++ m))
  | .rowI k l, .obj [] => some (.rowI k l)
  | .rowB l, .obj [] => some (.rowB l)
  | .obj [], c => some c
  | _, _ => none
def lenA : AV → Option Nat
  | .nils => some 0
  | .raw (.slice (some _) 0 _) => some 0
  | .sl _ _ _ n => some n
  | .roI _ l => some l.length
  | .roB l => some l.length
  | .ro _ l => some l.length
  | _ => none
def appA (es bytes : Nat) (x y : AV) (get : Nat → Option Chunk) (nx : Nat) : Res :=
  match x with
  | .nils => match rowFrom y es get, lenA y with
    | some (c, r), some m => .ok (c && decide (m * bytes ≤ 140737488355328) && decide (m ≤ 140737488355328)) (.sl es nx 0 m) (.new r)
    | _, _ => .bad
  | .sl e h o n => match rowFrom (.sl e h o n) es get, rowFrom y es get, lenA y with
    | some (c1, r1), some (c2, r2), some m => match r1.cat r2 with
      | some r => .ok (c1 && c2 && decide ((n + m) * bytes ≤ 140737488355328) && decide (n + m ≤ 140737488355328)) (.sl es nx 0 (n + m)) (.app h r)
      | none => .bad
    | _, _, _ => .bad
  | _ => .bad

def binI (op : BinOp) (k : IntKind) (a b : Int) : Option (Bool × AV) :=
  match op with
  | .add => some (true, .int k (k.wrap (a + b)))
  | .sub => some (true, .int k (k.wrap (a - b)))
  | .mul => some (true, .int k (k.wrap (a * b)))
  | .quo => some (!decide (b = 0), .int k (k.wrap (a.tdiv b)))
  | .rem => some (!decide (b = 0), .int k (a.tmod b))
  | .and => some (true, .int k (k.wrap (BitVec.ofInt k.bits a &&& BitVec.ofInt k.bits b).toNat))
  | .or => some (true, .int k (k.wrap (BitVec.ofInt k.bits a ||| BitVec.ofInt k.bits b).toNat))
  | .xor => some (true, .int k (k.wrap (BitVec.ofInt k.bits a ^^^ BitVec.ofInt k.bits b).toNat))
  | .andNot => some (true, .int k (k.wrap (BitVec.ofInt k.bits a &&& ~~~BitVec.ofInt k.bits b).toNat))
  | .eql => some (true, .bool (a == b))
  | .neq => some (true, .bool (a != b))
  | .lss => some (true, .bool (decide (a < b)))
  | .leq => some (true, .bool (decide (a ≤ b)))
  | .gtr => some (true, .bool (decide (a > b)))
  | .geq => some (true, .bool (decide (a ≥ b)))
  | _ => none
def shiftI (op : BinOp) (k : IntKind) (a b : Int) : Option (Bool × AV) :=
  match op with
  | .shl => some (decide (0 ≤ b), .int k (k.wrap (a * 2 ^ (min b.toNat k.bits))))
  | .shr => some (decide (0 ≤ b), .int k (a.fdiv (2 ^ (min b.toNat k.bits))))
  | _ => none
def isShift : BinOp → Bool
  | .shl | .shr => true
  | _ => false
/-- '==' of what is no number and no string: truth values; with nil -/
def eqA (k : EqK) (x y : AV) : Option Bool :=
  match k, x, y with
  | .bool, .bool a, .bool b => some (a == b)
  | .ptr, .nilp, .nilp => some true
  | .ptr, .ptr _ _, .nilp => some false
  | .ptr, .nilp, .ptr _ _ => some false
  | .ptr, .cptr _, .nilp => some false
  | .ptr, .nilp, .cptr _ => some false
  | .slice, .nils, .nils => some true
  | .slice, .roI _ (_ :: _), .nils => some false
  | .slice, .roB (_ :: _), .nils => some false
  | .slice, .raw (.slice (some _) _ _), .nils => some false
  | .map, .nilm, .nilm => some true
  | .func, .nilf, .nilf => some true
  | .func, .fn _ _, .nilf => some false
  | .func, .nilf, .fn _ _ => some false
  | .iface, .nili, .nili => some true
  | .iface, .nili, .iface _ _ => some false
  | .iface, .iface _ _, .nili => some false
  | _, _, _ => none
def binA (op : BinOp) (k : EqK) (x y : AV) : Option (Bool × AV) :=
  match x, y with
  | .int k a, .int k' b => bif isShift op then shiftI op k a b else if k = k' then binI op k a b else none
  | .str a, .str b => match op with
    | .eql => some (true, .bool (a.toList == b.toList))
    | .neq => some (true, .bool (!(a.toList == b.toList)))
    | _ => none
  | x, y => match op, eqA k x y with
    | .eql, some b => some (true, .bool b)
    | .neq, some b => some (true, .bool (!b))
    | _, _ => none

def bytesStr (l : List Int) : ByteArray := ⟨(l.map fun n => UInt8.ofNat n.toNat).toArray⟩

/-- bounds of a cut: 0 ≤ lo ≤ hi ≤ len -/
def bnd (lo : Option AV) (hi : Option AV) (len : Nat) : Option (Bool × Nat × Nat) :=
  match lo, hi with
  | none, none => some (true, 0, len)
  | some (.int _ l), none => some (decide (0 ≤ l) && decide (l ≤ len), l.toNat, len)
  | none, some (.int _ h) => some (decide (0 ≤ h) && decide (h ≤ len), 0, h.toNat)
  | some (.int _ l), some (.int _ h) => some (decide (0 ≤ l) && decide (l ≤ h) && decide (h ≤ len), l.toNat, h.toNat)
  | _, _ => none
def sliceA (get : Nat → Option Chunk) (sk : SK) (x : AV) (lo hi : Option AV) : Res :=
  match sk, x with
  | .sl _, .nils => match bnd lo hi 0 with
    | some (c, _, _) => .ok c .nils .no
    | none => .bad
  | .sl es, .roI k l => match bnd lo hi l.length with
    | some (c, a, b) => .ok (c && Nat.beq es 1) (.roI k ((l.drop a).take (b - a))) .no
    | none => .bad
  | .sl es, .roB l => match bnd lo hi l.length with
    | some (c, a, b) => .ok (c && Nat.beq es 1) (.roB ((l.drop a).take (b - a))) .no
    | none => .bad
  | .sl es, .ro e l => match bnd lo hi l.length with
    | some (c, a, b) => .ok (c && Nat.beq e es && Nat.blt 0 es) (.ro e ((l.drop a).take (b - a))) .no
    | none => .bad
  | .sl es, .sl e h off n => match bnd lo hi n with
    | some (c, a, b) => .ok (c && Nat.beq e es) (.sl e h (off + a * es) (b - a)) .no
    | none => .bad
  | .str, .str s => match bnd lo hi s.size with
    | some (c, a, b) => .ok c (.str (s.extract a b)) .no
    | none => .bad
  | .arr n es, .ptr h off => match get h with
    | some ch => match bnd lo hi n with
      | some (c, a, b) => .ok (c && decide (off + n * es ≤ ch.size)) (.sl es h (off + a * es) (b - a)) .no
      | none => .bad
    | none => .bad
  | _, _ => .bad

/-- is a value of a type's form: of one cell, or of so many -/
def fits (agg : Bool) (sz : Nat) : AV → Bool
  | .agg l => agg && Nat.beq l.length sz
  | v => !agg && v.one
def cut (l : List AV) (agg : Bool) (off sz : Nat) : AV :=
  bif agg then .agg ((l.drop off).take sz) else l.getD off .undef

def idxA (es : Nat) (arr : Option Nat) (agg : Bool) (x i : AV) : Res :=
  match i with
  | .int _ n => match arr, x with
    | none, .sl e h off len => .ok (decide (0 ≤ n) && decide (n < len) && Nat.beq e es) (.ptr h (off + n.toNat * es)) .no
    | none, .roI k l => .ok (decide (0 ≤ n) && decide (n < l.length) && !agg) (.cptr (.int k (l.getD n.toNat 0))) .no
    | none, .roB l => .ok (decide (0 ≤ n) && decide (n < l.length) && !agg) (.cptr (.bool (l.getD n.toNat false))) .no
    | none, .ro e l => .ok (decide (0 ≤ n) && decide (n < l.length) && Nat.beq e es) (.cptr (l.getD n.toNat .undef)) .no
    | some m, .ptr h off => .ok (decide (0 ≤ n) && decide (n < m) && true) (.ptr h (off + n.toNat * es)) .no
    | _, _ => .bad
  | _ => .bad

/-- load of a chunk's cells -/
def Chunk.ld (c : Chunk) (agg : Bool) (off sz : Nat) : Bool × AV :=
  match c with
  | .obj l => (Nat.ble (off + sz) l.length, cut l agg off sz)
  | .rowI k l => (Nat.beq sz 1 && !agg && decide (off < l.length), .int k (l.getD off 0))
  | .rowB l => (Nat.beq sz 1 && !agg && decide (off < l.length), .bool (l.getD off false))
  | .fn n f => (decide (off + sz ≤ n), bif agg then .agg ((List.range sz).map fun j => f (off + j)) else f off)

def convA (get : Nat → Option Chunk) (k : ConvK) (x : AV) : Res :=
  match k, x with
    | .int k, .int _ n => .ok true (.int k (k.wrap n)) .no
    | .same, .str s => .ok true (.str s) .no
    | .toStr, .nils => .ok true (.str ⟨#[]⟩) .no
    | .toStr, .roI .u8 l => .ok true (.str (bytesStr l)) .no
    | .toStr, .sl _ h off n => match get h with
      | some (.rowI .u8 l) => .ok (decide (off + n ≤ l.length)) (.str (bytesStr ((l.drop off).take n))) .no
      | _ => .bad
    | _, _ => .bad
def unA (op : UnOp) (x : AV) : Res :=
  match op, x with
    | .not, .bool b => .ok true (.bool (!b)) .no
    | .neg, .int k n => .ok true (.int k (k.wrap (0 - n))) .no
    | .xor, .int k n => .ok true (.int k (k.wrap (BitVec.ofInt k.bits (if k.signed then -1 else k.max) ^^^ BitVec.ofInt k.bits n).toNat)) .no
    | _, _ => .bad

def opD (get : Nat → Option Chunk) (nx : Nat) (ρ : AOpd → AV) (o : AOp) : Res :=
  match o with
  | .mov x => .ok true (ρ x) .no
  | .pick c a b => match ρ c with
    | .bool c => .ok true (bif c then ρ a else ρ b) .no
    | _ => .bad
  | .alloc z => .ok true (.ptr nx 0) (.new (zChunk z))
  | .box x => match ρ x with
    | .agg l => .ok true (.ptr nx 0) (.new (.obj l))
    | v => .ok v.one (.ptr nx 0) (.new (.obj [v]))
  | .build z ps => match fillA ρ z ps with
    | some l => .ok true (.agg l) .no
    | none => .bad
  | .bslice es rk z ps n => match fillA ρ z ps with
    | some l => match rowOf rk l with
      | some c => .ok true (.sl es nx 0 n) (.new c)
      | none => .bad
    | none => .bad
  | .load agg sz x => match ρ x with
    | .cptr v => .ok (fits agg sz v) v .no
    | .ptr h off => match get h with
      | some c => .ok (c.ld agg off sz).1 (c.ld agg off sz).2 .no
      | none => .bad
    | _ => .bad
  | .store sz x y => match ρ x with
    | .ptr h off => match get h with
      | some c => match c.put off (ρ y).flat with
        | some c' => .ok ((ρ y).flat.all AV.one && Nat.beq (ρ y).flat.length sz && decide (off + sz ≤ c.size)) .undef (.set h c')
        | none => .bad
      | none => .bad
    | _ => .bad
  | .nilck x => match ρ x with
    | .ptr h off => .ok true (.ptr h off) .no
    | .cptr v => .ok true (.cptr v) .no
    | .fn f c => .ok true (.fn f c) .no
    | _ => .bad
  | .bin op k x y => match binA op k (ρ x) (ρ y) with
    | some (c, v) => .ok c v .no
    | none => .bad
  | .un op x => unA op (ρ x)
  | .conv k x => convA get k (ρ x)
  | .mkif t x => .ok true (.iface t (ρ x)) .no
  | .mkfn f caps => .ok true (.fn f (caps.map ρ)) .no
  | .mkslice es bytes rk z x => match ρ x with
    | .int k n => .ok (decide (0 ≤ n) && decide (n * bytes ≤ 140737488355328) && decide (n ≤ 140737488355328)) (.sl es nx 0 n.toNat) (.new (zeroRow rk z n.toNat))
    | _ => .bad
  | .slice sk x lo hi => sliceA get sk (ρ x) (lo.map ρ) (hi.map ρ)
  | .fld off sz agg x => match ρ x with
    | .ptr h o => .ok true (.ptr h (o + off)) .no
    | .cptr (.agg l) => .ok (Nat.ble (off + sz) l.length && (agg || !(l.getD off .undef).isAgg)) (.cptr (cut l agg off sz)) .no
    | _ => .bad
  | .idx es arr agg x i => idxA es arr agg (ρ x) (ρ i)
  | .ext x i => match ρ x with
    | .tup l => .ok (Nat.blt i l.length) (l.getD i .undef) .no
    | _ => .bad
  | .len str x => match str, ρ x with
    | true, .str s => .ok true (.int .i64 s.size) .no
    | false, x => match lenA x with
      | some n => .ok true (.int .i64 n) .no
      | none => .bad
    | _, _ => .bad
  | .mn x y => match ρ x, ρ y with
    | .int k a, .int _ b => .ok true (.int k (if b < a then b else a)) .no
    | _, _ => .bad
  | .mx x y => match ρ x, ρ y with
    | .int k a, .int _ b => .ok true (.int k (if b > a then b else a)) .no
    | _, _ => .bad
  | .app es bytes x y => appA es bytes (ρ x) (ρ y) get nx
  | .call f args => .call f (args.map ρ)
  | .callv x args => match ρ x with
    | .fn f caps => .call f (args.map ρ ++ caps)
    | _ => .bad
  | .inv _ _ _ => .bad
  | .atom _ _ => .bad

def hasBody (P : Program) (f : Nat) : Bool :=
  match P.funcs[f]? with
  | some fn => fn.body.isSome && fn.name != "runtime.NumGoroutine"
  | none => false

end Go.Ab
