/- The engine: the same verification conditions, with values brought to their form at each step, so that terms stay small. -/
import Derived.Test.YtomodeliimnddaaAbFrz
set_option linter.unusedVariables false
set_option linter.unusedSimpArgs false
set_option autoImplicit false
namespace Go.Ab

noncomputable def forceN (n : Nat) : (Nat → Prop) → Prop := Nat.rec (motive := fun _ => (Nat → Prop) → Prop) (fun K => K 0) (fun n _ K => K (n + 1)) n
theorem forceN_eq (n : Nat) (K : Nat → Prop) : forceN n K = K n := by cases n <;> rfl
noncomputable def forceA (v : AV) (K : AV → Prop) : Prop :=
  match v with
  | .undef => K .undef
  | .bool b => K (.bool b)
  | .int k n => K (.int k n)
  | .str s => K (.str s)
  | .nilp => K .nilp
  | .nils => K .nils
  | .nili => K .nili
  | .nilf => K .nilf
  | .nilm => K .nilm
  | .ptr h o => forceN h fun h => K (.ptr h o)
  | .cptr v => K (.cptr v)
  | .sl e h o n => forceN h fun h => K (.sl e h o n)
  | .roI k l => K (.roI k l)
  | .roB l => K (.roB l)
  | .ro e l => K (.ro e l)
  | .agg l => K (.agg l)
  | .tup l => K (.tup l)
  | .iface t v => K (.iface t v)
  | .fn f c => K (.fn f c)
  | .raw v => K (.raw v)
theorem forceA_eq (v : AV) (K : AV → Prop) : forceA v K = K v := by cases v <;> first | rfl | exact forceN_eq _ _
noncomputable def forceM (l : List AV) : (List AV → Prop) → Prop :=
  List.rec (motive := fun _ => (List AV → Prop) → Prop) (fun K => K []) (fun v _ ih K => forceA v fun v => ih fun r => K (v :: r)) l
theorem forceM_eq (l : List AV) : ∀ K : List AV → Prop, forceM l K = K l := by
  induction l with
  | nil => intro K; rfl
  | cons v r ih => intro K; show (forceA v fun v => forceM r fun r => K (v :: r)) = _; rw [forceA_eq]; exact ih _
theorem forceMI {l : List AV} {K : List AV → Prop} (h : K l) : forceM l K := by rw [forceM_eq]; exact h
noncomputable def forceW (v : AV) (K : AV → Prop) : Prop :=
  forceA v fun v => match v with
    | .agg l => forceM l fun l => K (.agg l)
    | .tup l => forceM l fun l => K (.tup l)
    | .iface t v => forceA v fun v => K (.iface t v)
    | .cptr v => forceA v fun v => K (.cptr v)
    | .fn f l => forceM l fun l => K (.fn f l)
    | v => K v
theorem forceW_eq (v : AV) (K : AV → Prop) : forceW v K = K v := by
  unfold forceW
  rw [forceA_eq]
  cases v <;> simp only [forceM_eq, forceA_eq]
noncomputable def forceC (c : Chunk) (K : Chunk → Prop) : Prop :=
  match c with
  | .obj l => forceM l fun l => K (.obj l)
  | .rowI k l => K (.rowI k l)
  | .rowB l => K (.rowB l)
  | .fn n f => K (.fn n f)
theorem forceC_eq (c : Chunk) (K : Chunk → Prop) : forceC c K = K c := by
  cases c <;> simp only [forceC, forceM_eq]
noncomputable def forceE (f : Eff) (K : Eff → Prop) : Prop :=
  match f with
  | .no => K .no
  | .new c => forceC c fun c => K (.new c)
  | .set h c => forceN h fun h => forceC c fun c => K (.set h c)
  | .app h c => forceN h fun h => K (.app h c)
theorem forceE_eq (f : Eff) (K : Eff → Prop) : forceE f K = K f := by
  cases f <;> simp only [forceE, forceC_eq, forceN_eq]

def storeR (get : Nat → Option Chunk) (sz : Nat) (x y : AV) : Res :=
  match x with
    | .ptr h off => match get h with
      | some c => match c.put off y.flat with
        | some c' => .ok (y.flat.all AV.one && Nat.beq y.flat.length sz && decide (off + sz ≤ c.size)) .undef (.set h c')
        | none => .bad
      | none => .bad
    | _ => .bad
noncomputable def opF (get : Nat → Option Chunk) (nx : Nat) (e : Env) (o : AOp) (K : Res → Prop) : Prop :=
  match o with
  | .store sz x y => forceA (x.ev e) fun vx => forceW (y.ev e) fun vy => K (storeR get sz vx vy)
  | o => K (opD get nx (AOpd.ev e) o)
theorem opF_eq (get : Nat → Option Chunk) (nx : Nat) (e : Env) (o : AOp) (K : Res → Prop) : opF get nx e o K = K (opD get nx (AOpd.ev e) o) := by
  cases o <;> simp only [opF, forceA_eq, forceW_eq] <;> rfl

noncomputable def insF (s : St) (get : Nat → Option Chunk) (e : Env) (i : AIns) (K : AV → Eff → Prop) (C : Nat → List AV → Prop) : Prop :=
  opF get s.next e i.op fun r => match r with
  | .ok c v eff => bif c then
      forceE eff fun eff => forceW v fun v => bif i.split then (match v with
        | .bool b => bif b then K (.bool true) eff else K (.bool false) eff
        | _ => False) else K v eff
      else False
  | .call f args => forceM args fun args => C f args
  | .bad => False
theorem insF_eq (s : St) (get : Nat → Option Chunk) (e : Env) (i : AIns) (K : AV → Eff → Prop) (C : Nat → List AV → Prop) : insF s get e i K C = insW s get e i K C := by
  unfold insF insW
  rw [opF_eq]
  cases opD get s.next (AOpd.ev e) i.op with
  | ok c v eff => simp only [forceE_eq, forceW_eq, forceV_eq]; rfl
  | call f args => simp only [forceM_eq]
  | bad => rfl
def openS (s : St) (F : Nat → Mem → Prop) : Prop := match s with
  | ⟨n, m⟩ => F n m
theorem openS_eq (s : St) (F : Nat → Mem → Prop) : openS s F = F s.next s.m := rfl

noncomputable def regF (P : Program) (l : List AIns) : Env → St → (Env → St → Prop) → Prop :=
  List.rec (motive := fun _ => Env → St → (Env → St → Prop) → Prop) (fun e s K => K e s)
    (fun i _ ih e s K => guardW e i
      (insF s s.get e i
        (fun v eff => putW e i.dst v fun e => appW s eff fun s => ih e s K)
        (fun f args => Tr P f args s fun v s => forceW v fun v => putW e i.dst v fun e => ih e s K))
      (putW e i.dst (.tup []) fun e => ih e s K)) l
theorem regF_eq (P : Program) (l : List AIns) : regF P l = regW P l := by
  induction l with
  | nil => rfl
  | cons i r ih =>
    funext e s K
    show guardW e i (insF s s.get e i (fun v eff => putW e i.dst v fun e => appW s eff fun s => regF P r e s K) (fun f args => Tr P f args s fun v s => forceW v fun v => putW e i.dst v fun e => regF P r e s K)) (putW e i.dst (.tup []) fun e => regF P r e s K) = _
    rw [regW_cons, ih]
    simp only [insF_eq, forceW_eq, forceV_eq]

noncomputable def absorbF (ab : List Nat) (pd : Pend) : Mem → (Mem → Pend → Prop) → Prop :=
  List.rec (motive := fun _ => Mem → (Mem → Pend → Prop) → Prop) (fun m K => K m [])
    (fun p _ ih m K => match p with
      | (i, h, c) => ih m fun m r => bif memN ab i then K ((h, some c) :: m) r else K m ((i, h, c) :: r)) pd
theorem absorbF_eq (ab : List Nat) : ∀ (pd : Pend) (m : Mem) (K : Mem → Pend → Prop), absorbF ab pd m K = K (absorb ab pd m).1 (absorb ab pd m).2 := by
  intro pd
  induction pd with
  | nil => intro m K; rfl
  | cons p r ih =>
    intro m K
    obtain ⟨i, h, c⟩ := p
    show (absorbF ab r m fun m r => bif memN ab i then K ((h, some c) :: m) r else K m ((i, h, c) :: r)) = _
    rw [ih]
    simp only [absorb]
    cases memN ab i <;> rfl
noncomputable def flushF (pd : Pend) : Mem → (Mem → Prop) → Prop :=
  List.rec (motive := fun _ => Mem → (Mem → Prop) → Prop) (fun m K => K m)
    (fun p _ ih m K => match p with
      | (i, h, c) => ih m fun m => K ((h, some c) :: m)) pd
theorem flushF_eq : ∀ (pd : Pend) (m : Mem) (K : Mem → Prop), flushF pd m K = K (flush pd m) := by
  intro pd
  induction pd with
  | nil => intro m K; rfl
  | cons p r ih =>
    intro m K
    obtain ⟨i, h, c⟩ := p
    show (flushF r m fun m => K ((h, some c) :: m)) = _
    rw [ih]; rfl

noncomputable def drawF (P : Program) (l : List AStep) : Env → St → Pend → (Env → St → Prop) → Prop :=
  List.rec (motive := fun _ => Env → St → Pend → (Env → St → Prop) → Prop) (fun e s p K => openS s fun n m => flushF p m fun m => K e ⟨n, m⟩)
    (fun x _ ih e s p K => openS s fun n m => bif x.e then
      absorbF x.ab p m fun m p => guardW e x.ins
          (insF ⟨n, m⟩ (St.get ⟨n, m⟩) e x.ins
            (fun v eff => appW ⟨n, m⟩ eff fun s' => watchW e (getP ⟨n, m⟩ p) (getP s' p) x.wt (putW e x.ins.dst v fun e => ih e s' p K))
            (fun f args => Tr P f args ⟨n, m⟩ fun v s' => watchW e (getP ⟨n, m⟩ p) (getP s' p) x.wt (forceW v fun v => putW e x.ins.dst v fun e => ih e s' p K)))
          (putW e x.ins.dst (.tup []) fun e => ih e ⟨n, m⟩ p K)
    else guardW e x.ins
      (insF ⟨n, m⟩ (getP ⟨n, m⟩ p) e x.ins
        (fun v eff => putW e x.ins.dst v fun e => match eff with
          | .no => ih e ⟨n, m⟩ p K
          | .new c => ih e ⟨n + 1, m⟩ ((x.i, n, c) :: p) K
          | _ => False)
        (fun _ _ => False))
      (putW e x.ins.dst (.tup []) fun e => ih e ⟨n, m⟩ p K)) l
theorem drawF_eq (P : Program) (l : List AStep) : drawF P l = drawW P l := by
  induction l with
  | nil =>
    funext e s p K
    show (openS s fun n m => flushF p m fun m => K e ⟨n, m⟩) = _
    rw [openS_eq, flushF_eq]; rfl
  | cons x r ih =>
    funext e s p K
    obtain ⟨n, m⟩ := s
    show (bif x.e then
      absorbF x.ab p m fun m p => guardW e x.ins
          (insF ⟨n, m⟩ (St.get ⟨n, m⟩) e x.ins
            (fun v eff => appW ⟨n, m⟩ eff fun s' => watchW e (getP ⟨n, m⟩ p) (getP s' p) x.wt (putW e x.ins.dst v fun e => drawF P r e s' p K))
            (fun f args => Tr P f args ⟨n, m⟩ fun v s' => watchW e (getP ⟨n, m⟩ p) (getP s' p) x.wt (forceW v fun v => putW e x.ins.dst v fun e => drawF P r e s' p K)))
          (putW e x.ins.dst (.tup []) fun e => drawF P r e ⟨n, m⟩ p K)
    else guardW e x.ins
      (insF ⟨n, m⟩ (getP ⟨n, m⟩ p) e x.ins
        (fun v eff => putW e x.ins.dst v fun e => match eff with
          | .no => drawF P r e ⟨n, m⟩ p K
          | .new c => drawF P r e ⟨n + 1, m⟩ ((x.i, n, c) :: p) K
          | _ => False)
        (fun _ _ => False))
      (putW e x.ins.dst (.tup []) fun e => drawF P r e ⟨n, m⟩ p K)) = (bif x.e then
      match absorb x.ab p m with
      | (m, p) => guardW e x.ins
          (insW ⟨n, m⟩ (St.get ⟨n, m⟩) e x.ins
            (fun v eff => appW ⟨n, m⟩ eff fun s' => watchW e (getP ⟨n, m⟩ p) (getP s' p) x.wt (putW e x.ins.dst v fun e => drawW P r e s' p K))
            (fun f args => Tr P f args ⟨n, m⟩ fun v s' => watchW e (getP ⟨n, m⟩ p) (getP s' p) x.wt (forceV v fun v => putW e x.ins.dst v fun e => drawW P r e s' p K)))
          (putW e x.ins.dst (.tup []) fun e => drawW P r e ⟨n, m⟩ p K)
    else guardW e x.ins
      (insW ⟨n, m⟩ (getP ⟨n, m⟩ p) e x.ins
        (fun v eff => putW e x.ins.dst v fun e => match eff with
          | .no => drawW P r e ⟨n, m⟩ p K
          | .new c => drawW P r e ⟨n + 1, m⟩ ((x.i, n, c) :: p) K
          | _ => False)
        (fun _ _ => False))
      (putW e x.ins.dst (.tup []) fun e => drawW P r e ⟨n, m⟩ p K))
    rw [ih]
    simp only [absorbF_eq, insF_eq, forceW_eq, forceV_eq]

noncomputable def wpF (P : Program) (n0 : Nat) (c : ACode) : Env → St → (Ex → Env → St → Prop) → Prop :=
  ACode.rec (motive := fun _ => Env → St → (Ex → Env → St → Prop) → Prop)
    (fun e s K => K .normal e s)
    (fun l e s K => regF P l e s fun e s => K .normal e s)
    (fun l e s K => drawF P l e s [] fun e s => K .normal e s)
    (fun _ _ iha ihb e s K => iha e s fun x e s => match x with
      | .normal => ihb e s K
      | .exit j => K (.exit j) e s
      | .ret => K .ret e s)
    (fun c _ _ iha ihb e s K => match c.ev e with
      | .bool t => bif t then iha e s K else ihb e s K
      | _ => False)
    (fun id _ iha e s K => iha e s fun x e s => match x with
      | .normal => K .normal e s
      | .exit j => bif Nat.beq j id then K .normal e s else K (.exit j) e s
      | .ret => K .ret e s)
    (fun _ iha e s K => LoopW n0 iha e s K)
    (fun id e s K => K (.exit id) e s)
    (fun e s K => K .ret e s) c
theorem wpF_eq (P : Program) (n0 : Nat) (c : ACode) : wpF P n0 c = wpA P n0 c := by
  induction c with
  | skip => rfl
  | reg l => funext e s K; show regF P l e s _ = _; rw [regF_eq]; rfl
  | draw l => funext e s K; show drawF P l e s [] _ = _; rw [drawF_eq]; rfl
  | seq a b iha ihb =>
    funext e s K
    show wpF P n0 a e s _ = wpA P n0 a e s _
    rw [iha]
    refine congrArg _ ?_
    funext x e s
    cases x
    · show wpF P n0 b e s K = wpA P n0 b e s K; rw [ihb]
    · rfl
    · rfl
  | cond c a b iha ihb =>
    funext e s K
    show (match c.ev e with | .bool t => bif t then wpF P n0 a e s K else wpF P n0 b e s K | _ => False) = (match c.ev e with | .bool t => bif t then wpA P n0 a e s K else wpA P n0 b e s K | _ => False)
    rw [iha, ihb]
  | block id a iha => funext e s K; show wpF P n0 a e s _ = wpA P n0 a e s _; rw [iha]; rfl
  | loop a iha => funext e s K; show LoopW n0 (wpF P n0 a) e s K = LoopW n0 (wpA P n0 a) e s K; rw [iha]
  | exit id => rfl
  | ret => rfl

noncomputable def resF (e : Env) (s : St) (l : List ARes) : (List AV → Prop) → Prop :=
  List.rec (motive := fun _ => (List AV → Prop) → Prop) (fun K => K [])
    (fun r _ ih K => match r with
      | .t n => forceW (e.get n) fun v => ih fun l => K (v :: l)
      | .cell n agg sz => match e.get n with
        | .ptr h off => match s.get h with
          | some c => bif (c.ld agg off sz).1 then forceW (c.ld agg off sz).2 fun v => ih fun l => K (v :: l) else False
          | none => False
        | _ => False) l
theorem resF_eq (e : Env) (s : St) (l : List ARes) : resF e s l = resW e s l := by
  induction l with
  | nil => rfl
  | cons r l ih =>
    funext K
    cases r with
    | t n =>
      show (forceW (e.get n) fun v => resF e s l fun l => K (v :: l)) = (forceV (e.get n) fun v => resW e s l fun l => K (v :: l))
      rw [forceW_eq, forceV_eq, ih]
    | cell n agg sz =>
      show (match e.get n with
        | .ptr h off => match s.get h with
          | some c => bif (c.ld agg off sz).1 then forceW (c.ld agg off sz).2 fun v => resF e s l fun l => K (v :: l) else False
          | none => False
        | _ => False) = (match e.get n with
        | .ptr h off => match s.get h with
          | some c => bif (c.ld agg off sz).1 then forceV (c.ld agg off sz).2 fun v => resW e s l fun l => K (v :: l) else False
          | none => False
        | _ => False)
      simp only [forceW_eq, forceV_eq, ih]
/-- the verification condition of a function -/
noncomputable def fnF (P : Program) (c : ACode) (rs : List ARes) (args : List AV) (s : St) (K : AV → St → Prop) : Prop :=
  wpF P s.next c (argsE 0 args) s fun x e s => match x with
    | .exit _ => False
    | _ => resF e s rs (retW K s)
theorem fnF_eq (P : Program) (c : ACode) (rs : List ARes) (args : List AV) (s : St) (K : AV → St → Prop) : fnF P c rs args s K = fnW P c rs args s K := by
  unfold fnF fnW
  rw [wpF_eq]
  simp only [resF_eq]
  rfl
end Go.Ab
