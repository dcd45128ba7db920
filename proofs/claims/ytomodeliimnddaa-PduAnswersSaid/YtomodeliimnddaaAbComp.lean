/- The engine: the program's code cut down to what the engine knows ('none': it doesn't know it). -/
import Derived.Test.YtomodeliimnddaaAbDefs
set_option linter.unusedVariables false
set_option autoImplicit false
namespace Go.Ab

def ofV : Value → Option AV
  | .bool b => some (.bool b)
  | .int k n => some (.int k n)
  | .string s => some (.str s)
  | .pointer none => some .nilp
  | .slice none 0 0 => some .nils
  | .map none => some .nilm
  | .nilFunc => some .nilf
  | .nilIface => some .nili
  | _ => none
def sameC : AV → AV → Bool
  | .bool a, .bool b => a == b
  | .int k a, .int k' b => decide (k = k') && decide (a = b)
  | .nilp, .nilp => true
  | .nils, .nils => true
  | .nilm, .nilm => true
  | .nilf, .nilf => true
  | .nili, .nili => true
  | _, _ => false
/-- cells as runs of one value -/
def runs : List Value → Option (List (Nat × AV))
  | [] => some []
  | v :: r => match ofV v, runs r with
    | some a, some (p :: q) => if sameC a p.2 then some ((p.1 + 1, p.2) :: q) else some ((1, a) :: p :: q)
    | some a, some [] => some [(1, a)]
    | _, _ => none
def zrl (P : Program) (t : Nat) : Option (List (Nat × AV)) :=
  match P.info? t with
  | some i => match i.zero with
    | some v => runs v.cells.toList
    | none => none
  | none => none
def sizeP (P : Program) (t : Nat) : Option Nat := (P.info? t).map (·.size)
def bytesP (P : Program) (t : Nat) : Option Nat := (P.info? t).map (·.bytes)
def aggP (P : Program) (t : Nat) : Option Bool :=
  match P.underlying t with
  | some (.struct _) => some true
  | some (.array _ _) => some true
  | some _ => some false
  | none => none
def rkP (P : Program) (t : Nat) : Option RK :=
  match P.underlying t with
  | some (.int k) => some (.int k)
  | some .bool => some .bool
  | some _ => some .gen
  | none => none
def opd : Operand → Option AOpd
  | .tmp t => some (.t t)
  | .const v => (ofV v).map .c
  | .func f => some (.f f)
  | .global _ => none
def opds : List Operand → Option (List AOpd)
  | [] => some []
  | x :: r => match opd x, opds r with
    | some a, some l => some (a :: l)
    | _, _ => none
def isConstN : Operand → Bool
  | .const _ => true
  | _ => false
/-- are a row's zeros what its kind says? -/
def zOk : RK → List (Nat × AV) → Bool
  | .int k, [(1, .int k' n)] => decide (k = k') && decide (n = 0)
  | .bool, [(1, .bool b)] => !b
  | .gen, _ => true
  | _, _ => false
def sameOpd : Operand → Operand → Bool
  | .tmp a, .tmp b => a == b
  | .const (.int k a), .const (.int k' b) => decide (k = k') && decide (a = b)
  | _, _ => false

def structParts (P : Program) (fs : Array Field) : List (Nat × Operand) → Option (List (Nat × Nat × AOpd))
  | [] => some []
  | p :: r => match fs[p.1]?, opd p.2, structParts P fs r with
    | some f, some x, some l => match sizeP P f.type with
      | some n => some ((f.offset, n, x) :: l)
      | none => none
    | _, _, _ => none
def rowParts (es : Nat) : List (Nat × Operand) → Option (List (Nat × Nat × AOpd))
  | [] => some []
  | p :: r => match opd p.2, rowParts es r with
    | some x, some l => some ((p.1 * es, es, x) :: l)
    | _, _ => none
def repL : Nat → List AV → List AV
  | 0, _ => []
  | n + 1, z => z ++ repL n z

def eqK (P : Program) (t : Nat) (x y : Operand) : EqK :=
  match P.underlying t with
  | some .bool => .bool
  | some (.pointer _) => .ptr
  | some (.slice _) => .slice
  | some (.map _ _) => .map
  | some (.func _ _ _) => .func
  | some (.interface _) => if isConstN x || isConstN y then .iface else .other
  | _ => .other
def skP (P : Program) (t : Nat) : Option SK :=
  match P.underlying t with
  | some (.slice e) => (sizeP P e).map .sl
  | some .string => some .str
  | some (.array n e) => (sizeP P e).map (.arr n)
  | _ => none
def convK (P : Program) (s d : Nat) : Option ConvK :=
  match P.underlying s, P.underlying d with
  | some (.int _), some (.int k) => some (.int k)
  | some .string, some .string => some .same
  | some (.slice e), some .string => match P.underlying e with
    | some (.int .u8) => some .toStr
    | _ => none
  | _, _ => none
def atomOf (P : Program) (f : Nat) : Option Atom :=
  match P.funcs[f]? with
  | some fn =>
    if fn.body.isSome then none
    else if fn.name == "sync/atomic.AddUint64" then some (.add .u64)
    else if fn.name == "sync/atomic.AddUint32" then some (.add .u32)
    else if fn.name == "sync/atomic.LoadUint64" then some .load
    else if fn.name == "sync/atomic.StoreUint64" then some .store
    else none
  | none => none

def compCall (P : Program) (c : Call) : Option AOp :=
  match c.callee, opds c.args.toList with
  | .builtin .len, some [x] => match (c.argTypes[0]?).bind P.underlying with
    | some .string => some (.len true x)
    | some (.slice _) => some (.len false x)
    | _ => none
  | .builtin .min, some [x, y] => some (.mn x y)
  | .builtin .max, some [x, y] => some (.mx x y)
  | .builtin .append, some [x, y] => match (c.argTypes[0]?).bind P.underlying, (c.argTypes[1]?).bind P.underlying with
    | some (.slice e), some (.slice _) => match sizeP P e, bytesP P e, zrl P e with
      | some es, some b, some z => if es = 0 then none else if b = 0 then none else if rlLen z = es then some (.app es b x y) else none
      | _, _, _ => none
    | _, _ => none
  | .value (.func f), some l => match atomOf P f with
    | some k => some (.atom k l)
    | none => if hasBody P f then some (.call f l) else none
  | .value x, some l => (opd x).map fun x => .callv x l
  | .invoke r m, some l => (opd r).map fun x => .inv m x l
  | _, _ => none

def compOp (P : Program) (o : Op) : Option AOp :=
  match o with
  | .move x => (opd x).map .mov
  | .assign x => (opd x).map .mov
  | .pick c a b => match opd c, opd a, opd b with
    | some c, some a, some b => some (.pick c a b)
    | _, _, _ => none
  | .alloc t => (zrl P t).map .alloc
  | .box _ x => (opd x).map .box
  | .build t ps => match P.underlying t, zrl P t with
    | some (.struct fs), some z => if fs.toList.all (fun f => (sizeP P f.type).isSome) then (structParts P fs ps.toList).map fun l => .build (rlList z) l else none
    | some (.array _ e), some z => match sizeP P e with
      | some es => (rowParts es ps.toList).map fun l => .build (rlList z) l
      | none => none
    | _, _ => none
  | .buildSlice t n ps => match P.underlying t with
    | some (.slice e) => match sizeP P e, zrl P e, rkP P e with
      | some es, some z, some rk => if n * es ≤ 16777216 && decide (rlLen z = es) && decide (0 < es) then (rowParts es ps.toList).map fun l => .bslice es rk (repL n (rlList z)) l n else none
      | _, _, _ => none
    | _ => none
  | .load t x => match aggP P t, sizeP P t, opd x with
    | some a, some n, some x => if a || decide (n = 1) then some (.load a n x) else none
    | _, _, _ => none
  | .store t x y => match sizeP P t, opd x, opd y with
    | some n, some x, some y => some (.store n x y)
    | _, _, _ => none
  | .nilCheck x => (opd x).map .nilck
  | .binOp op t x y _ => match opd x, opd y with
    | some a, some b => some (.bin op (eqK P t x y) a b)
    | _, _ => none
  | .unOp op _ x => (opd x).map (.un op)
  | .convert s d x => match convK P s d, opd x with
    | some k, some x => some (.conv k x)
    | _, _ => none
  | .makeInterface t x => match P.underlying t with
    | some (.interface _) => none
    | none => none
    | _ => (opd x).map (.mkif t)
  | .makeFunc (.func f) ⟨[]⟩ caps => (opds caps.toList).map (.mkfn f)
  | .makeSlice t l c => match P.underlying t with
    | some (.slice e) => match sizeP P e, bytesP P e, zrl P e, rkP P e, opd l with
      | some es, some b, some z, some rk, some x => if sameOpd l c && zOk rk z && decide (rlLen z = es) && decide (0 < es) then some (.mkslice es b rk (rlList z) x) else none
      | _, _, _, _, _ => none
    | _ => none
  | .slice t x lo hi none => match skP P t, opd x with
    | some sk, some x => match lo, hi with
      | none, none => some (.slice sk x none none)
      | some l, none => (opd l).map fun l => .slice sk x (some l) none
      | none, some h => (opd h).map fun h => .slice sk x none (some h)
      | some l, some h => match opd l, opd h with
        | some l, some h => some (.slice sk x (some l) (some h))
        | _, _ => none
    | _, _ => none
  | .fieldAddr t x i => match P.underlying t, opd x with
    | some (.struct fs), some x => match fs[i]? with
      | some f => match sizeP P f.type, aggP P f.type with
        | some n, some a => if n = 0 then none else if a || decide (n = 1) then some (.fld f.offset n a x) else none
        | _, _ => none
      | none => none
    | _, _ => none
  | .indexAddr t x i => match P.underlying t, opd x, opd i with
    | some (.slice e), some x, some i => match sizeP P e, aggP P e with
      | some es, some a => if es = 0 then none else if a || decide (es = 1) then some (.idx es none a x i) else none
      | _, _ => none
    | some (.array n e), some x, some i => match sizeP P e, aggP P e with
      | some es, some a => if es = 0 then none else if a || decide (es = 1) then some (.idx es (some n) a x i) else none
      | _, _ => none
    | _, _, _ => none
  | .extract x i => (opd x).map fun x => .ext x i
  | .call c => compCall P c
  | _ => none

/-! ### regions -/
def depsOf (o : Oper) : List Nat := (o.after.toList.filter (Region.binds .any ·)).map (·.on)
def orAll (anc : List Nat) : List Nat → Nat
  | [] => 0
  | d :: r => Nat.lor (Nat.lor (2 ^ d) (anc.getD d 0)) (orAll anc r)
/-- of each operation those that come before it, as bits -/
def ancs : List Oper → List Nat → List Nat
  | [], acc => acc
  | o :: r, acc => ancs r (acc ++ [orAll acc (depsOf o)])
def insOf (P : Program) (ops : List Oper) (i : Nat) (o : Oper) : Option AIns :=
  match compOp P o.op with
  | some a => match o.guard with
    | none => some ⟨o.dst, a, none, ops.any fun x => match x.guard with | some g => Nat.beq g.1 i | none => false⟩
    | some g => match (ops[g.1]?).bind (·.dst) with
      | some t => some ⟨o.dst, a, some (t, g.2), ops.any fun x => match x.guard with | some g => Nat.beq g.1 i | none => false⟩
      | none => none
  | none => none
def insL (P : Program) (ops : List Oper) : Nat → List Oper → Option (List AIns)
  | _, [] => some []
  | i, o :: r => match insOf P ops i o, insL P ops (i + 1) r with
    | some a, some l => some (a :: l)
    | _, _ => none
def AOp.isE : AOp → Bool
  | .store .. | .app .. | .call .. | .callv .. | .inv .. | .atom .. => true
  | _ => false
def AOp.isA : AOp → Bool
  | .alloc .. | .box .. | .bslice .. | .mkslice .. => true
  | _ => false
def AOp.looks : AOp → Option AOpd
  | .load _ _ x => some x
  | .conv .toStr x => some x
  | .slice (.arr _ _) x _ _ => some x
  | _ => none
def slotsOf (l : List AOpd) : List Nat := l.filterMap fun | .t n => some n | _ => none
def AOp.opds : AOp → List AOpd
  | .mov x | .box x | .load _ _ x | .nilck x | .un _ x | .conv _ x | .mkif _ x | .mkslice _ _ _ _ x | .fld _ _ _ x | .ext x _ | .len _ x => [x]
  | .pick a b c => [a, b, c]
  | .alloc _ => []
  | .build _ ps => ps.map (·.2.2)
  | .bslice _ _ _ ps _ => ps.map (·.2.2)
  | .store _ x y | .bin _ _ x y | .idx _ _ _ x y | .mn x y | .mx x y | .app _ _ x y => [x, y]
  | .mkfn _ l | .call _ l | .atom _ l => l
  | .slice _ x lo hi => x :: (lo.toList ++ hi.toList)
  | .callv x l | .inv _ x l => x :: l
def AIns.reads (i : AIns) : List Nat := slotsOf i.op.opds ++ (match i.guard with | some g => [g.1] | none => [])

def stepOf (anc : List Nat) (ins : List AIns) (before : List Nat) (i : Nat) (x : AIns) : AStep :=
  let a := anc.getD i 0
  bif x.op.isE then
    ⟨i, x, true, (List.range ins.length).filter (fun k => a.testBit k && (match ins[k]? with | some y => y.op.isA | none => false)),
      before.filterMap fun k => bif a.testBit k then none else (match ins[k]? with | some y => y.op.looks | none => none)⟩
  else ⟨i, x, false, [], []⟩
/-- greedily: what changes nothing first, in the order of the text -/
def plan (anc : List Nat) (ins : List AIns) : Nat → List Nat → Nat → List AStep
  | 0, _, _ => []
  | n + 1, before, done =>
    let ready := (List.range ins.length).filter fun i => !done.testBit i && Nat.beq (Nat.lor (anc.getD i 0) done) done
    match (ready.find? fun i => match ins[i]? with | some x => !x.op.isE | none => false) with
    | some i => match ins[i]? with
      | some x => stepOf anc ins before i x :: plan anc ins n (before ++ [i]) (Nat.lor done (2 ^ i))
      | none => []
    | none => match ready with
      | i :: _ => match ins[i]? with
        | some x => stepOf anc ins before i x :: plan anc ins n (before ++ [i]) (Nat.lor done (2 ^ i))
        | none => []
      | [] => []
/-- what the order's proof needs -/
def slotsOk (anc : List Nat) (ins : List AIns) : Bool :=
  (List.range ins.length).all fun i => (List.range ins.length).all fun k =>
    match ins[i]?, ins[k]? with
    | some x, some y => match x.dst with
      | some d => (Nat.beq i k || !(y.dst == some d)) && (!memN' y.reads d || (!(Nat.beq i k) && ((anc.getD k 0).testBit i || (anc.getD i 0).testBit k))) &&
          (match y.op.looks with | some (.t u) => !(Nat.beq u d) || (anc.getD k 0).testBit i | _ => true)
      | none => true
    | _, _ => false
where memN' (l : List Nat) (d : Nat) : Bool := l.any fun j => Nat.beq j d
def guardsOk (ops : List Oper) (anc : List Nat) : Bool :=
  (List.range ops.length).all fun i => match ops[i]? with
    | some o => Nat.beq (anc.getD i 0) (orAll anc (depsOf o))
    | none => false
/-- each step behind those that it must follow; behind a step that changes: only those that must follow it -/
def orderOk (anc : List Nat) : List AStep → Nat → Bool
  | [], _ => true
  | x :: r, done => Nat.beq (Nat.lor (anc.getD x.i 0) done) done && !done.testBit x.i &&
      (!x.e || r.all fun y => (anc.getD y.i 0).testBit x.i) && orderOk anc r (Nat.lor done (2 ^ x.i))
def planOk (P : Program) (ops : List Oper) (ins : List AIns) (anc : List Nat) (l : List AStep) : Bool :=
  slotsOk anc ins && guardsOk ops anc && orderOk anc l 0 && ((List.range ops.length).all fun i => l.any fun x => Nat.beq x.i i) && ins.all fun x => match x.op.looks with
    | some (.t _) => true
    | none => true
    | _ => false

def compReg (P : Program) (ops : List Oper) (draw : Bool) : Option ACode :=
  match insL P ops 0 ops with
  | some l => bif draw then
      let anc := ancs ops []
      let p := plan anc l l.length [] 0
      bif planOk P ops l anc p then some (.draw p) else none
    else some (.reg l)
  | none => none

def comp (P : Program) : Code → Option ACode
  | .skip => some .skip
  | .region _ ops draw => compReg P ops.toList draw
  | .seq a b => match comp P a, comp P b with
    | some a, some b => some (.seq a b)
    | _, _ => none
  | .cond c a b => match opd c, comp P a, comp P b with
    | some c, some a, some b => some (.cond c a b)
    | _, _, _ => none
  | .block id a => (comp P a).map (.block id)
  | .loop a => (comp P a).map .loop
  | .exit id => some (.exit id)
  | .ret => some .ret
  | _ => none

def compRes (P : Program) : List ResultVar → Option (List ARes)
  | [] => some []
  | .tmp t :: r => (compRes P r).map (.t t :: ·)
  | .cell t ty :: r => match aggP P ty, sizeP P ty, compRes P r with
    | some a, some n, some l => if a || decide (n = 1) then some (.cell t a n :: l) else none
    | _, _, _ => none
/-- every slot written to is there -/
def slotIn (n : Nat) (d : Option Nat) : Bool :=
  match d with
  | some d => Nat.blt d n
  | none => true
def dstOk (n : Nat) : ACode → Bool
  | .reg l => l.all fun i => slotIn n i.dst
  | .draw l => l.all fun i => slotIn n i.ins.dst
  | .seq a b => dstOk n a && dstOk n b
  | .cond _ a b => dstOk n a && dstOk n b
  | .block _ a => dstOk n a
  | .loop a => dstOk n a
  | _ => true
def compF (P : Program) (f : Func) : Option (ACode × List ARes) :=
  match f.body with
  | some c => match comp P c, compRes P f.results.toList with
    | some a, some r => if dstOk f.ntmps a then some (a, r) else none
    | _, _ => none
  | none => none

end Go.Ab
