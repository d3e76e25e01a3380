/- A symbolic run of the code of functions, and the proof that what it tells is so. No conditions beyond each theorem's own. -/
import Derived.Orders
import Derived.Scope
import Derived.Below
import Derived.Deep.AppendSrc
import Derived.Deep.MidRow
import Derived.Laws.MakeOwn
import Derived.Laws.Small
import Derived.NoCompiler
set_option linter.unusedVariables false
set_option linter.unusedSimpArgs false
namespace Go.Ev
/-! types -/
inductive Ty where
  | int (k : IntKind) | bool | str | list (t : Ty) | unit | pair (a b : Ty) | arr (n : Nat) (t : Ty)
  deriving DecidableEq
noncomputable def Ty.den : Ty → Type
  | .int _ => Int | .bool => Bool | .str => ByteArray | .list t => List t.den | .unit => Unit | .pair a b => a.den × b.den | .arr _ t => List t.den
noncomputable def Ty.size : Ty → Nat
  | .unit => 0 | .pair a b => a.size + b.size | .arr n t => n * t.size | _ => 1
noncomputable def Ty.agg : Ty → Bool
  | .unit => true | .pair _ _ => true | .arr _ _ => true | _ => false
noncomputable def Ty.scalar : Ty → Bool
  | .list _ => false | .pair a b => a.scalar && b.scalar | .arr _ t => t.scalar | _ => true
noncomputable def Ty.nleaves : Ty → Nat
  | .unit => 0 | .pair a b => a.nleaves + b.nleaves | _ => 1
noncomputable def Ty.dflt : (t : Ty) → t.den
  | .int _ => (0 : Int) | .bool => false | .str => ByteArray.empty | .list _ => [] | .unit => () | .pair a b => (a.dflt, b.dflt) | .arr n t => List.replicate n t.dflt
noncomputable def Ty.field : Ty → Nat → Option (Nat × Ty)
  | .pair a _, 0 => some (0, a)
  | .pair a b, Nat.succ i => match b.field i with | some (o, t) => some (a.size + o, t) | none => none
  | _, _ => none
/-- how much of a row is seen -/
inductive View where
  | full | upto (b : Nat) | from_ (a : Nat) | mid (a b : Nat)
noncomputable def View.of {α : Type} : View → List α → List α
  | .full, l => l | .upto b, l => l.take b | .from_ a, l => l.drop a | .mid a b, l => (l.take b).drop a
noncomputable def View.lo : View → Nat
  | .full => 0 | .upto _ => 0 | .from_ a => a | .mid a _ => a
noncomputable def View.isFull : View → Bool | .full => true | _ => false
noncomputable def View.isLo : View → Bool | .full => true | .upto _ => true | _ => false
/-! values -/
inductive SV where
  | undef | nil
  | int (k : IntKind) (n : Int) | bool (b : Bool) | str (s : ByteArray)
  | lst (t : Ty) (l : List t.den)
  | arr (t : Ty) (n : Nat) (l : List t.den)
  | agg (fs : List SV) | tup (vs : List SV)
  | ptr (n g off : Nat)
  | ptrA (n g off i j sz m : Nat)
  | ptrE (n g i off : Nat)
  | ptrF (t : Ty) (l : List t.den) (i off : Nat)
  | row (n g : Nat) (v : View)
  | func (f : FuncId) (first caps : List SV)
inductive Body where
  | box (cs : List SV)
  | row (t : Ty) (l : List t.den)
  /- rows of one's own rows; one of them is elsewhere -/
  | rows (t : Ty) (l : List (List t.den)) (hole : Option Nat) (bk : SV)
structure Obj where
  gen : Nat
  frozen : Bool
  body : Body
abbrev Objs := Nat → Option Obj
noncomputable def Objs.set (O : Objs) (n : Nat) (o : Obj) : Objs := fun x => bif Nat.beq x n then some o else O x
structure St where
  tmps : Nat → SV
  objs : Objs
noncomputable def St.put (S : St) (d : Option Nat) (v : SV) (O : Objs) : St :=
  match d with
  | some d => ⟨fun x => bif Nat.beq x d then v else S.tmps x, O⟩
  | none => ⟨S.tmps, O⟩
/-- to part a value by its form, once and for all that is behind -/
structure Split (α : Type) where
  sp : (R : Type) → α → (α → R) → R
  ok : ∀ R a f, sp R a f = f a
noncomputable def Split.none {α : Type} : Split α := ⟨fun _ a f => f a, fun _ _ _ => rfl⟩
noncomputable def Split.opt {α : Type} (s : Split α) : Split (Option α) := ⟨fun R a f => match a with | Option.none => f Option.none | some b => s.sp R b fun b => f (some b), fun R a f => by cases a <;> simp [s.ok]⟩
noncomputable def Split.sum {α β : Type} (s : Split α) (t : Split β) : Split (Sum α β) := ⟨fun R a f => match a with | .inl b => s.sp R b fun b => f (.inl b) | .inr b => t.sp R b fun b => f (.inr b), fun R a f => by cases a <;> simp [s.ok, t.ok]⟩
/-! what an operation does to the objects: it fails, asks, looks, lays, or comes to what a contract says -/
inductive Prog (β : Type) : Type 1 where
  | ret (b : β)
  | fail
  | ite (c : Prop) (d : Decidable c) (x y : Prog β)
  | get (n : Nat) (k : Option Obj → Prog β)
  | put (n : Nat) (o : Obj) (k : Prog β)
  | come (α : Type) (s : Split α) (c : Option α) (k : α → Prog β)
noncomputable def Prog.bind {α β : Type} : Prog α → (α → Prog β) → Prog β
  | .ret a, f => f a
  | .fail, _ => .fail
  | .ite c d x y, f => .ite c d (x.bind f) (y.bind f)
  | .get n k, f => .get n fun o => (k o).bind f
  | .put n o k, f => .put n o (k.bind f)
  | .come α s c k, f => .come α s c fun a => (k a).bind f
noncomputable instance : Monad Prog where
  pure := .ret
  bind := Prog.bind
noncomputable def Prog.run {β R : Type} : Prog β → Objs → (β → Objs → Option R) → Option R
  | .ret b, O, K => K b O
  | .fail, _, _ => none
  | .ite _ d x y, O, K => @_root_.ite _ _ d (x.run O K) (y.run O K)
  | .get n k, O, K => (k (O n)).run O K
  | .put n o k, O, K => k.run (O.set n o) K
  | .come _ s c k, O, K => c.bind fun a => s.sp (Option R) a fun a => (k a).run O K
noncomputable def fail {β : Type} : Prog β := .fail
noncomputable def get (n : Nat) : Prog (Option Obj) := .get n .ret
noncomputable def put (n : Nat) (o : Obj) : Prog Unit := .put n o (.ret ())
noncomputable def come {α : Type} (c : Option α) : Prog α := .come α .none c .ret
noncomputable def comeS {α : Type} (s : Split α) (c : Option α) : Prog α := .come α s c .ret
noncomputable def ask {β : Type} (c : Prop) [d : Decidable c] (x y : Prog β) : Prog β := .ite c d x y
noncomputable def need (c : Prop) [d : Decidable c] : Prog Unit := .ite c d (.ret ()) .fail
noncomputable def must {α : Type} : Option α → Prog α | some a => .ret a | none => .fail
noncomputable def sure (b : Bool) : Prog Unit := match b with | true => .ret () | false => .fail
/-- a new object -/
noncomputable def lay (n : Nat) (b : Body) : Prog Unit := do
  match ← get n with
  | none => put n ⟨0, false, b⟩
  | some _ => fail
/-! leaves -/
noncomputable def leaves : (t : Ty) → t.den → List SV
  | .int k, x => [.int k x] | .bool, b => [.bool b] | .str, s => [.str s] | .list t, l => [.lst t l] | .unit, _ => []
  | .pair a b, p => leaves a p.1 ++ leaves b p.2 | .arr n t, l => [.arr t n l]
/-- the leaves of a variable that nothing was laid into -/
noncomputable def zleaves : Ty → List SV | .list _ => [.nil] | .pair a b => zleaves a ++ zleaves b | t => leaves t t.dflt
noncomputable def ofLeaves (agg : Bool) (l : List SV) : SV := match agg, l with | false, .arr _ _ _ :: _ => .undef | false, v :: _ => v | false, [] => .undef | true, l => .agg l
noncomputable def SV.leaves : SV → List SV | .agg fs => fs | .arr t n l => [.arr t n l] | v => [v]
noncomputable def SV.width : SV → Nat | .arr t n _ => n * t.size | _ => 1
noncomputable def widths : List SV → Nat | [] => 0 | v :: r => v.width + widths r
noncomputable def castL {t u : Ty} (l : List t.den) : Option (List u.den) := if h : t = u then some (h ▸ l) else none
/-- what a row is -/
noncomputable def Body.shape : Body → Option ((t : Ty) × List t.den) | .box _ => none | .row t l => some ⟨t, l⟩ | .rows t l _ _ => some ⟨.list t, l⟩
noncomputable def rowAny (n g : Nat) : Prog ((t : Ty) × List t.den) := do
  match ← get n with
  | some ⟨g', _, bd⟩ => do sure (Nat.beq g g'); must bd.shape
  | _ => fail
/-- a live row -/
noncomputable def rowAt (n g : Nat) : Prog ((t : Ty) × List t.den) := do
  match ← get n with
  | some ⟨g', _, .row t l⟩ => do sure (Nat.beq g g'); pure ⟨t, l⟩
  | _ => fail
/-- a slice's elements, as they are seen -/
noncomputable def asView (t : Ty) (v : SV) (frozenOnly : Bool) : Prog (List t.den) :=
  match v with
  | .nil => .ret []
  | .lst _ l => must (castL l)
  | .row n g v => do
    match ← get n with
    | some ⟨g', fr, .row _ l⟩ => do
      sure (Nat.beq g g' && (fr || !frozenOnly))
      let l ← must (castL (u := t) l)
      pure (v.of l)
    | _ => fail
  | _ => .fail
/-- typed value of leaves, and what is left of them -/
noncomputable def unleaf (fo : Bool) : (t : Ty) → List SV → Prog (t.den × List SV)
  | .int k, .int k' n :: r => if k = k' then .ret (n, r) else .fail
  | .bool, .bool b :: r => .ret (b, r)
  | .str, .str s :: r => .ret (s, r)
  | .list t, v :: r => do let l ← asView t v fo; pure (l, r)
  | .unit, r => .ret ((), r)
  | .pair a b, r => do
    let p ← unleaf fo a r
    let q ← unleaf fo b p.2
    pure ((p.1, q.1), q.2)
  | .arr n t, .arr _ n' l :: r => do
    sure (Nat.beq n n')
    let l ← must (castL (u := t) l)
    pure (l, r)
  | _, _ => .fail
noncomputable def isNil {α : Type} : List α → Bool | [] => true | _ => false
noncomputable def toDen (fo : Bool) (t : Ty) (l : List SV) : Prog t.den := do
  let p ← unleaf fo t l
  sure (isNil p.2)
  pure p.1
/-- part of leaves: behind off cells; the first ones -/
noncomputable def dropCells : List SV → Nat → Option (List SV)
  | l, 0 => some l
  | [], Nat.succ _ => none
  | v :: r, Nat.succ n => bif Nat.ble v.width (Nat.succ n) then dropCells r (Nat.succ n - v.width) else none
noncomputable def takeCells : List SV → Nat → Option (List SV)
  | _, 0 => some []
  | [], Nat.succ _ => none
  | v :: r, Nat.succ n => bif Nat.ble v.width (Nat.succ n) then (match takeCells r (Nat.succ n - v.width) with | some l => some (v :: l) | none => none) else none
noncomputable def cutCells (l : List SV) (off size : Nat) : Option (List SV) := match dropCells l off with | some r => takeCells r size | none => none
/-- leaves with a part replaced -/
noncomputable def putCells (l : List SV) (off : Nat) (new : List SV) : Option (List SV) :=
  match takeCells l off, dropCells l (off + widths new) with
  | some a, some c => some (a ++ (new ++ c))
  | _, _ => none
/-- what a constant is -/
noncomputable def ofCell : Value → SV
  | .int k n => .int k n | .bool b => .bool b | .string s => .str s | .slice none 0 0 => .nil | _ => .undef
noncomputable def ofCells : List Value → Option (List SV)
  | [] => some []
  | v :: r => match ofCell v, ofCells r with
    | .undef, _ => none
    | s, some l => some (s :: l)
    | _, none => none
noncomputable def ofConst : Value → SV
  | .agg cs => match ofCells cs.toList with | some l => .agg l | none => .undef
  | v => ofCell v
noncomputable def evalS (tm : Nat → SV) : Operand → SV
  | .tmp t => tm t
  | .const v => ofConst v
  | .global _ => .undef
  | .func f => .func f [] []
noncomputable def evs (tm : Nat → SV) : List (Nat × Operand) → List (Nat × SV) | [] => [] | (i, x) :: r => (i, evalS tm x) :: evs tm r
noncomputable def evl (tm : Nat → SV) : List Operand → List SV | [] => [] | x :: r => evalS tm x :: evl tm r
noncomputable def clean : List SV → Bool | [] => true | .undef :: _ => false | .agg _ :: _ => false | .tup _ :: _ => false | _ :: r => clean r
noncomputable def noArr : List SV → Bool | [] => true | .arr _ _ _ :: _ => false | _ :: r => noArr r
/-! contracts -/
inductive RT where
  | val (t : Ty) | own (t : Ty) | box (r : RT) | unit | pair (a b : RT) | func (f : FuncId) (nf : Nat) (r : RT)
  /- a row that is given away; no row; a function with one value, which is the i-th one's -/
  | mv (t : Ty) | nil | pal (f : FuncId) (first : Bool) (i : Nat)
  /- rows of one's own rows; a row that is written where it lies -/
  | rows (t : Ty) | ip (t : Ty)
  deriving DecidableEq
noncomputable def RT.den : RT → Type
  | .val t => t.den | .own t => List t.den | .box r => r.den | .unit => Unit | .pair a b => a.den × b.den | .func _ _ r => r.den | .mv t => List t.den | .nil => Unit | .pal _ _ _ => Unit | .rows t => List (List t.den) | .ip t => List t.den
noncomputable def RT.scalar : RT → Bool
  | .val t => t.scalar | .own t => t.scalar | .box r => r.scalar | .unit => true | .pair a b => a.scalar && b.scalar | .func _ _ r => r.scalar | .mv t => t.scalar | .nil => true | .pal _ _ _ => true | .rows t => t.scalar | .ip t => t.scalar
noncomputable def fixScalar : RT → Bool | .val _ => true | .own t => t.scalar | .box r => r.scalar | .unit => true | .pair a b => fixScalar a && fixScalar b | .func _ _ r => fixScalar r | .mv _ => true | .nil => true | .pal _ _ _ => true | .rows t => t.scalar | .ip t => t.scalar
noncomputable def RT.agg : RT → Bool
  | .val t => t.agg | .unit => true | .pair _ _ => true | _ => false
noncomputable def dens : List RT → Type
  | [] => Unit | r :: rs => r.den × dens rs
noncomputable def rowNames : List SV → List Nat
  | [] => [] | .row n _ _ :: r => n :: rowNames r | _ :: r => rowNames r
/-- what is owned, in the order in which it is met; what of it in variables; what is lent -/
structure Names where
  own : List (Option Nat)
  inner : List (Option Nat)
  lent : List Nat
noncomputable def Names.add (a b : Names) : Names := ⟨a.own ++ b.own, a.inner ++ b.inner, a.lent ++ b.lent⟩
noncomputable def Names.none : Names := ⟨[], [], []⟩
noncomputable def dec (fixed : Bool) : (r : RT) → List SV → Prog (r.den × List SV × Names)
  | .val t, l => do
    let p ← unleaf false t l
    pure (p.1, p.2, ⟨[], [], rowNames (l.take t.nleaves)⟩)
  | .own t, .nil :: rest => match fixed with | true => .fail | false => .ret (([] : List t.den), rest, ⟨[Option.none], [], []⟩)
  | .own t, .row n g v :: rest => do
    match ← get n with
    | some ⟨g', false, .row _ l⟩ => do
      sure (Nat.beq g g' && !fixed && v.isLo)
      let l ← must (castL (u := t) l)
      pure (v.of l, rest, ⟨[some n], [], []⟩)
    | _ => fail
  | .mv t, .nil :: rest => .ret (([] : List t.den), rest, ⟨[Option.none], [Option.none], []⟩)
  | .mv t, .row n g v :: rest => do
    match ← get n with
    | some ⟨g', false, .row _ l⟩ => do
      sure (Nat.beq g g' && v.isLo)
      let l ← must (castL (u := t) l)
      pure (v.of l, rest, ⟨[some n], [some n], []⟩)
    | _ => fail
  | .nil, .nil :: rest => .ret ((), rest, .none)
  | .rows t, .row n g .full :: rest => do
    match ← get n with
    | some ⟨g', false, .rows u l none _⟩ => do
      sure (Nat.beq g g' && !fixed)
      let l ← must (castL (t := .list u) (u := .list t) l)
      pure (l, rest, ⟨[some n], [], []⟩)
    | _ => fail
  | .ip t, .row n g .full :: rest => do
    match ← get n with
    | some ⟨g', false, .row _ l⟩ => do
      sure (Nat.beq g g')
      let l ← must (castL (u := t) l)
      need (0 < l.length)
      pure (l, rest, ⟨[some n], [], []⟩)
    | _ => fail
  | .box r, .ptr n g 0 :: rest => do
    match ← get n with
    | some ⟨g', false, .box cs⟩ => do
      sure (Nat.beq g g')
      let p ← dec false r cs
      sure (isNil p.2.1)
      pure (p.1, rest, ⟨some n :: p.2.2.own, p.2.2.own, p.2.2.lent⟩)
    | _ => fail
  | .unit, l => .ret ((), l, .none)
  | .pair a b, l => do
    let p ← dec fixed a l
    let q ← dec fixed b p.2.1
    pure ((p.1, q.1), q.2.1, p.2.2.add q.2.2)
  | .func f nf r, .func f' first caps :: rest => do
    sure (Nat.beq f f' && Nat.beq nf first.length && clean (first ++ caps))
    let p ← dec fixed r (first ++ caps)
    sure (isNil p.2.1)
    pure (p.1, rest, p.2.2)
  | _, _ => .fail
noncomputable def enc : (r : RT) → r.den → Nat → Prog (List SV × Nat)
  | .val t, x, nm => .ret (leaves t x, nm)
  | .own t, l, nm => do lay nm (.row t l); pure ([.row nm 0 .full], nm + 1)
  | .box r, x, nm => do
    let p ← enc r x (nm + 1)
    lay nm (.box p.1)
    pure ([.ptr nm 0 0], p.2)
  | .unit, _, nm => .ret ([], nm)
  | .mv t, l, nm => do lay nm (.row t l); pure ([.row nm 0 .full], nm + 1)
  | .nil, _, nm => .ret ([.nil], nm)
  | .rows t, l, nm => do lay nm (.rows t l none .undef); pure ([.row nm 0 .full], nm + 1)
  | .ip t, l, nm => do lay nm (.row t l); pure ([.row nm 0 .full], nm + 1)
  | .pal _ _ _, _, _ => .fail
  | .pair a b, p, nm => do
    let q ← enc a p.1 nm
    let s ← enc b p.2 q.2
    pure (q.1 ++ s.1, s.2)
  | .func f nf r, x, nm => do
    let p ← enc r x nm
    sure (noArr p.1)
    pure ([.func f (p.1.take nf) (p.1.drop nf)], p.2)
noncomputable def kill (n : Nat) : Prog Unit := do
  match ← get n with
  | some o => put n ⟨Nat.succ o.gen, true, .row .unit []⟩
  | none => pure ()
noncomputable def kills : List (Option Nat) → Prog Unit | [] => .ret () | some n :: ns => do kill n; kills ns | Option.none :: ns => kills ns
noncomputable def Body.isRows : Body → Bool | .rows _ _ _ _ => true | _ => false
noncomputable def freeze (n : Nat) : Prog Unit := do
  match ← get n with
  | some o => do sure (!o.body.isRows); put n ⟨o.gen, true, o.body⟩
  | none => pure ()
/-- rows of rows that become one value -/
noncomputable def freezeR (n : Nat) : Prog Unit := do
  match ← get n with
  | some ⟨g, false, .rows t l none _⟩ => put n ⟨g, true, .row (.list t) l⟩
  | _ => pure ()
noncomputable def freezeRs : List Nat → Prog Unit | [] => .ret () | n :: ns => do freezeR n; freezeRs ns
/-- the row that is elsewhere comes back, as it is by now -/
noncomputable def syncR (n : Nat) : Prog Unit := do
  match ← get n with
  | some ⟨g, false, .rows t l (some i) (.row m gm .full)⟩ => do
    match ← get m with
    | some ⟨gm', false, .row u x⟩ => do
      sure (Nat.beq gm gm')
      let x ← must (castL (u := t) x)
      put m ⟨Nat.succ gm, true, .row .unit []⟩
      put n ⟨g, false, .rows t (l.set i x) none .undef⟩
    | _ => fail
  | _ => pure ()
/-- before a row is set: a row that is elsewhere comes back, unless it is the row that is set -/
noncomputable def syncU (n m : Nat) : SV → Prog Unit | .row m' _ _ => (match Nat.beq m m' with | true => .ret () | false => syncR n) | _ => .ret ()
noncomputable def setR (n g i m gm : Nat) : Prog Unit := do
  match ← get n with
  | some ⟨g', false, .rows t l hole _⟩ => do
    match ← get m with
    | some ⟨gm', false, .row u x⟩ => do
      sure (Nat.beq g g' && Nat.beq gm gm')
      let x ← must (castL (u := t) x)
      (match hole with | none => .ret () | some k => need (i = k))
      put m ⟨Nat.succ gm, true, .row .unit []⟩
      put n ⟨g, false, .rows t (l.set i x) none .undef⟩
    | _ => fail
  | _ => fail
noncomputable def syncRs : List Nat → Prog Unit | [] => .ret () | n :: ns => do syncR n; syncRs ns
noncomputable def readyRs (all fz : List Nat) : Prog Unit := do syncRs all; freezeRs fz
noncomputable def rowNamesL : List SV → List Nat | [] => [] | v :: r => rowNames v.leaves ++ rowNamesL r
noncomputable def RT.hasRows : RT → Bool | .rows _ => true | .pair a b => a.hasRows || b.hasRows | _ => false
noncomputable def rowNamesF : List RT → List SV → List Nat | r :: rs, v :: vs => (match r.hasRows with | true => [] | false => rowNames v.leaves) ++ rowNamesF rs vs | _, _ => []
noncomputable def freezes : List Nat → Prog Unit | [] => .ret () | n :: ns => do freeze n; freezes ns
/-- what is owned, turned where it lies -/
noncomputable def turn : (r : RT) → r.den → List SV → Nat → Prog (List SV × Nat)
  | .val t, _, l, nm => .ret (l.drop t.nleaves, nm)
  | .own t, x, .row n g _ :: rest, nm => do put n ⟨g, false, .row t x⟩; pure (rest, nm)
  | .ip t, x, .row n g _ :: rest, nm => do put n ⟨g, false, .row t x⟩; pure (rest, nm)
  | .box r, x, .ptr n g _ :: rest, nm => do
    let p ← enc r x nm
    put n ⟨g, false, .box p.1⟩
    pure (rest, p.2)
  | .pair a b, p, l, nm => do
    let q ← turn a p.1 l nm
    turn b p.2 q.1 q.2
  | .unit, _, l, nm => .ret (l, nm)
  | .func _ _ r, x, .func _ first caps :: rest, nm => do
    sure (clean (first ++ caps))
    let p ← turn r x (first ++ caps) nm
    pure (rest, p.2)
  | _, _, l, nm => .ret (l.drop 1, nm)
/-- several values: arguments, results, slots -/
noncomputable def isAggS : SV → Bool | .agg _ => true | _ => false
noncomputable def nthS : List SV → Nat → SV | [], _ => .undef | v :: _, 0 => v | _ :: r, Nat.succ n => nthS r n
/-- the same live variable -/
noncomputable def sameP (x y : SV) : Prog Unit :=
  match x, y with
  | .ptr n g 0, .ptr n' g' 0 => do
    match ← get n with
    | some ⟨g2, _, .box _⟩ => sure (Nat.beq n n' && (Nat.beq g g' && Nat.beq g g2))
    | _ => fail
  | _, _ => .fail
noncomputable def palP (f : FuncId) (first : Bool) (v x : SV) : Prog Unit :=
  match first, v with
  | true, .func f' [y] [] => do sure (Nat.beq f f'); sameP y x
  | false, .func f' [] [y] => do sure (Nat.beq f f'); sameP y x
  | _, _ => .fail
noncomputable def decOne (fixed : Bool) (all : List SV) (r : RT) (v : SV) : Prog (r.den × Names) :=
  match r with
  | .pal f first i => do palP f first v (nthS all i); pure ((), .none)
  | r => do
    sure (clean v.leaves && (isAggS v == r.agg))
    let p ← dec fixed r v.leaves
    sure (isNil p.2.1)
    pure (p.1, p.2.2)
noncomputable def decsA (fixed : Bool) (all : List SV) : (rs : List RT) → List SV → Prog (dens rs × Names)
  | [], [] => .ret ((), .none)
  | r :: rs, v :: vs => do
    let p ← decOne fixed all r v
    let q ← decsA fixed all rs vs
    pure ((p.1, q.1), p.2.add q.2)
  | _, _ => .fail
noncomputable def decs (fixed : Bool) (rs : List RT) (l : List SV) : Prog (dens rs × Names) := decsA fixed l rs l
/-- at a function's end: what was given away is passed over -/
noncomputable def decEnd (all : List SV) (r : RT) (v : SV) : Prog (r.den × Names) :=
  match r, v with
  | .mv _, .row _ _ _ => .ret ([], .none)
  | r, v => decOne true all r v
noncomputable def decsE (all : List SV) : (rs : List RT) → List SV → Prog (dens rs × Names)
  | [], [] => .ret ((), .none)
  | r :: rs, v :: vs => do
    let p ← decEnd all r v
    let q ← decsE all rs vs
    pure ((p.1, q.1), p.2.add q.2)
  | _, _ => .fail
noncomputable def encOne (acc : List SV) : (r : RT) → r.den → Nat → Prog (SV × Nat)
  | .pal f first i, _, nm => .ret (match first with | true => .func f [nthS acc i] [] | false => .func f [] [nthS acc i], nm)
  | r, x, nm => do
    let l ← enc r x nm
    pure (ofLeaves r.agg l.1, l.2)
noncomputable def encsA (acc : List SV) : (rs : List RT) → dens rs → Nat → Prog (List SV × Nat)
  | [], _, nm => .ret ([], nm)
  | r :: rs, p, nm => do
    let s ← encOne acc r p.1 nm
    let vs ← encsA (acc ++ [s.1]) rs p.2 s.2
    pure (s.1 :: vs.1, vs.2)
noncomputable def encs (rs : List RT) (x : dens rs) (nm : Nat) : Prog (List SV × Nat) := encsA [] rs x nm
noncomputable def turns : (rs : List RT) → dens rs → List SV → Nat → Prog Nat
  | r :: rs, p, v :: vs, nm => do
    let q ← turn r p.1 v.leaves nm
    turns rs p.2 vs q.2
  | _, _, _, nm => .ret nm
noncomputable def memN (n : Nat) : List Nat → Bool | [] => false | m :: r => Nat.beq n m || memN n r
noncomputable def nodupN : List Nat → Bool | [] => true | n :: r => !memN n r && nodupN r
noncomputable def apartN (l : List Nat) : List Nat → Bool | [] => true | n :: r => !memN n l && apartN l r
noncomputable def somes : List (Option Nat) → List Nat | [] => [] | some n :: r => n :: somes r | Option.none :: r => somes r
noncomputable def Names.ok (n : Names) : Bool := nodupN (somes n.own) && apartN (somes n.own) n.lent
/-- a function: what it takes, gives, and comes to -/
structure Con where
  ats : List RT
  rts : List RT
  α : Type
  F : dens ats → Option α
  up : dens ats → α → dens ats
  res : α → dens rts
inductive Ex where
  | normal | exit (id : Nat) | goto (l : Nat) | ret
noncomputable def slots (tm : Nat → SV) : List (Nat × RT) → List SV | [] => [] | (t, _) :: r => tm t :: slots tm r
noncomputable def rtsOf : List (Nat × RT) → List RT | [] => [] | (_, r) :: l => r :: rtsOf l
/-- a way out of a piece of code -/
structure Way where
  ex : Ex
  outs : List (Nat × RT)
noncomputable def wayAt (ways : List Way) (i : Nat) : Way := ways.getD i ⟨.normal, []⟩
/-- a piece of a function's code -/
structure Cut where
  fix : List (Nat × RT)
  ins : List (Nat × RT)
  writes : List Nat
  ways : List Way
  α : Type
  F : dens (rtsOf fix) → dens (rtsOf ins) → Option α
  up : dens (rtsOf fix) → α → dens (rtsOf fix)
  out : α → (i : Nat) × dens (rtsOf (wayAt ways i).outs)
  sp : Split α
structure Env where
  T : Nat → Option Ty
  arrs : Nat → Bool
  con : FuncId → List Con
  cut : Nat → Nat → Nat → Option Cut
  ntmps : Nat
  fns : Nat → Bool
noncomputable def lookT : List (Nat × Ty) → Nat → Option Ty
  | [], _ => none | (t, y) :: r, x => bif Nat.beq x t then some y else lookT r x
noncomputable def mk (t : Ty) (l : List SV) : SV := ofLeaves t.agg l
noncomputable def retV (vs : List SV) : SV := match vs with | [v] => v | vs => .tup vs
/-- may what is lent have been kept? -/
noncomputable def Con.plain (c : Con) : Bool := c.rts.all RT.scalar && c.ats.all fixScalar
/-- is it made for these closures? -/
noncomputable def fits : List RT → List SV → Bool
  | [], _ => true
  | .func f _ _ :: rs, .func f' _ _ :: vs => Nat.beq f f' && fits rs vs
  | .pal f _ _ :: rs, .func f' _ _ :: vs => Nat.beq f f' && fits rs vs
  | .ip _ :: _, .nil :: _ => false
  | .ip _ :: _, .lst _ _ :: _ => false
  | _ :: rs, _ :: vs => fits rs vs
  | _, _ => false
noncomputable def choose : List Con → List SV → Option Con
  | [], _ => none | c :: cs, vs => bif fits c.ats vs then some c else choose cs vs
/-- the row that is handed over to be written; contracts that write none -/
noncomputable def ipRow : List RT → List SV → Option Nat
  | .ip _ :: _, .row n _ _ :: _ => some n
  | _ :: rs, _ :: vs => ipRow rs vs
  | _, _ => none
noncomputable def noIp : List RT → Bool | [] => true | .ip _ :: _ => false | _ :: r => noIp r
noncomputable def chooseV : List Con → List SV → Option Con
  | [], _ => none | c :: cs, vs => bif noIp c.ats && fits c.ats vs then some c else chooseV cs vs
noncomputable def callC1 (c : Con) (args : List SV) (nm : Nat) : Prog SV := do
  let p ← decs true c.ats args
  sure p.2.ok
  let y ← come (c.F p.1)
  freezes (match c.plain with | true => [] | false => p.2.lent)
  kills p.2.inner
  let nm1 ← turns c.ats (c.up p.1 y) args nm
  let vs ← encs c.rts (c.res y) nm1
  pure (retV vs.1)
noncomputable def callC (c : Con) (args : List SV) (nm : Nat) : Prog SV := do
  readyRs (rowNamesL args) (rowNamesL args)
  callC1 c args nm
noncomputable def callP (cons : List Con) (args : List SV) (nm : Nat) : Prog SV :=
  match choose cons args with
  | none => .fail
  | some c => (match ipRow c.ats args with
    | none => callC c args nm
    | some n => do
      match ← get n with
      | some ⟨_, _, .row _ l⟩ => ask (0 < l.length) (callC c args nm) (match chooseV cons args with | some c' => callC c' args nm | none => .fail)
      | _ => fail)
noncomputable def binS (op : BinOp) (x y : SV) : Prog SV :=
  match op, x, y with
  | .shl, .int k a, .int _ b => do need (0 ≤ b); pure (.int k (k.wrap (a * 2 ^ min b.toNat k.bits)))
  | .shr, .int k a, .int _ b => do need (0 ≤ b); pure (.int k (a.fdiv (2 ^ min b.toNat k.bits)))
  | .add, .int k a, .int k' b => if k = k' then .ret (.int k (k.wrap (a + b))) else .fail
  | .sub, .int k a, .int k' b => if k = k' then .ret (.int k (k.wrap (a - b))) else .fail
  | .mul, .int k a, .int k' b => if k = k' then .ret (.int k (k.wrap (a * b))) else .fail
  | .quo, .int k a, .int k' b => if k = k' then (do need (b ≠ 0); pure (.int k (k.wrap (a.tdiv b)))) else .fail
  | .rem, .int k a, .int k' b => if k = k' then (do need (b ≠ 0); pure (.int k (a.tmod b))) else .fail
  | .and, .int k a, .int k' b => if k = k' then .ret (.int k (k.wrap (BitVec.ofInt k.bits a &&& BitVec.ofInt k.bits b).toNat)) else .fail
  | .or, .int k a, .int k' b => if k = k' then .ret (.int k (k.wrap (BitVec.ofInt k.bits a ||| BitVec.ofInt k.bits b).toNat)) else .fail
  | .xor, .int k a, .int k' b => if k = k' then .ret (.int k (k.wrap (BitVec.ofInt k.bits a ^^^ BitVec.ofInt k.bits b).toNat)) else .fail
  | .eql, .int k a, .int k' b => if k = k' then .ret (.bool (a == b)) else .fail
  | .neq, .int k a, .int k' b => if k = k' then .ret (.bool (a != b)) else .fail
  | .lss, .int k a, .int k' b => if k = k' then .ret (.bool (decide (a < b))) else .fail
  | .leq, .int k a, .int k' b => if k = k' then .ret (.bool (decide (a ≤ b))) else .fail
  | .gtr, .int k a, .int k' b => if k = k' then .ret (.bool (decide (a > b))) else .fail
  | .geq, .int k a, .int k' b => if k = k' then .ret (.bool (decide (a ≥ b))) else .fail
  | .add, .str a, .str b => do need (((a.size + b.size : Nat) : Int) ≤ IntKind.i64.max); pure (.str (a ++ b))
  | .eql, .str a, .str b => .ret (.bool (a.toList == b.toList))
  | .neq, .str a, .str b => .ret (.bool (!(a.toList == b.toList)))
  | _, _, _ => .fail
noncomputable def tyEq (t u : Ty) : Bool := decide (t = u)
/-- marks held against one another -/
noncomputable def eqB (E : Env) (op : BinOp) (t : TypeId) (x y : SV) : Prog SV :=
  match op, x, y with
  | .eql, .bool a, .bool b => do let ty ← must (E.T t); sure (tyEq ty .bool); pure (.bool (a == b))
  | .neq, .bool a, .bool b => do let ty ← must (E.T t); sure (tyEq ty .bool); pure (.bool (a != b))
  | .eql, .agg [.int k a, .int k1 b], .agg [.int k2 c, .int k3 d] => do let ty ← must (E.T t); sure (tyEq ty (.pair (.int k) (.pair (.int k) .unit)) && E.arrs t && tyEq (.int k) (.int k1) && tyEq (.int k) (.int k2) && tyEq (.int k) (.int k3)); pure (.bool (a == c && b == d))
  | .neq, .agg [.int k a, .int k1 b], .agg [.int k2 c, .int k3 d] => do let ty ← must (E.T t); sure (tyEq ty (.pair (.int k) (.pair (.int k) .unit)) && E.arrs t && tyEq (.int k) (.int k1) && tyEq (.int k) (.int k2) && tyEq (.int k) (.int k3)); pure (.bool (!(a == c && b == d)))
  | .eql, .agg [.int k a, .int k1 b, .int k2 c], .agg [.int k3 d, .int k4 e, .int k5 f] => do let ty ← must (E.T t); sure (tyEq ty (.pair (.int k) (.pair (.int k) (.pair (.int k) .unit))) && (!E.arrs t) && tyEq (.int k) (.int k1) && tyEq (.int k) (.int k2) && tyEq (.int k) (.int k3) && tyEq (.int k) (.int k4) && tyEq (.int k) (.int k5)); pure (.bool (a == d && (b == e && c == f)))
  | .neq, .agg [.int k a, .int k1 b, .int k2 c], .agg [.int k3 d, .int k4 e, .int k5 f] => do let ty ← must (E.T t); sure (tyEq ty (.pair (.int k) (.pair (.int k) (.pair (.int k) .unit))) && (!E.arrs t) && tyEq (.int k) (.int k1) && tyEq (.int k) (.int k2) && tyEq (.int k) (.int k3) && tyEq (.int k) (.int k4) && tyEq (.int k) (.int k5)); pure (.bool (!(a == d && (b == e && c == f))))
  | op, x, y => binS op x y
noncomputable def unS (op : UnOp) (x : SV) : Prog SV :=
  match op, x with
  | .neg, .int k a => .ret (.int k (k.wrap (0 - a)))
  | .not, .bool b => .ret (.bool !b)
  | _, _ => .fail
/-- most elements of a row that grows -/
noncomputable def most : Nat := 8589934592
/-- a live variable -/
noncomputable def boxAt (n g : Nat) (fo : Bool) : Prog (List SV) := do
  match ← get n with
  | some ⟨g', fr, .box cs⟩ => do sure (Nat.beq g g' && (!fo || !fr)); pure cs
  | _ => fail
noncomputable def arrAt (cs : List SV) (off sz m : Nat) : Option ((t : Ty) × List t.den × List SV × List SV) :=
  match takeCells cs off, dropCells cs off with
  | some a, some (.arr t m' l :: c) => bif Nat.beq sz t.size && Nat.beq m m' then some ⟨t, l, a, c⟩ else none
  | _, _ => none
/-- a pointer that is known to lead somewhere -/
noncomputable def aliveP (p : SV) : Prog Unit :=
  match p with
  | .ptr n g _ | .ptrA n g _ _ _ _ _ => do let _ ← boxAt n g false; pure ()
  | .ptrE n g _ _ => do let _ ← rowAny n g; pure ()
  | .ptrF .. => .ret ()
  | _ => .fail
noncomputable def moveP (p : SV) (d : Nat) : Option SV :=
  match p with
  | .ptr n g off => some (.ptr n g (off + d))
  | .ptrA n g off i j sz m => some (.ptrA n g off i (j + d) sz m)
  | .ptrE n g i off => some (.ptrE n g i (off + d))
  | .ptrF t l i off => some (.ptrF t l i (off + d))
  | _ => none
/-- what lies where a pointer leads -/
noncomputable def seeP (p : SV) (size : Nat) : Prog (List SV) :=
  match p with
  | .ptr n g off => do let cs ← boxAt n g false; must (cutCells cs off size)
  | .ptrA n g off i j sz m => do
    let cs ← boxAt n g false
    let x ← must (arrAt cs off sz m)
    must (cutCells (leaves x.1 (x.2.1.getD i x.1.dflt)) j size)
  | .ptrE n g i off => do let x ← rowAt n g; must (cutCells (leaves x.1 (x.2.getD i x.1.dflt)) off size)
  | .ptrF t l i off => must (cutCells (leaves t (l.getD i t.dflt)) off size)
  | _ => .fail
noncomputable def setP (p : SV) (new : List SV) : Prog Unit :=
  match p with
  | .ptr n g off => do
    let cs ← boxAt n g true
    let cs' ← must (putCells cs off new)
    put n ⟨g, false, .box cs'⟩
  | .ptrA n g off i j sz m => do
    let cs ← boxAt n g true
    let x ← must (arrAt cs off sz m)
    let e ← must (putCells (leaves x.1 (x.2.1.getD i x.1.dflt)) j new)
    let y ← toDen true x.1 e
    put n ⟨g, false, .box (x.2.2.1 ++ (.arr x.1 m (x.2.1.set i y) :: x.2.2.2))⟩
  | .ptrE n g i off => do
    match ← get n with
    | some ⟨g', false, .row t l⟩ => do
      sure (Nat.beq g g')
      let e ← must (putCells (leaves t (l.getD i t.dflt)) off new)
      let y ← toDen true t e
      put n ⟨g, false, .row t (l.set i y)⟩
    | some ⟨_, false, .rows _ _ _ bk⟩ => (match off, new with
      | 0, [.row m gm .full] => do
        syncU n m bk
        setR n g i m gm
      | _, _ => fail)
    | _ => fail
  | _ => .fail
/-- one of one's own rows is taken out -/
noncomputable def takeP (p : SV) (t : Ty) (nm : Nat) : Prog (Option SV) :=
  match p with
  | .ptrE n g i 0 => do
    match ← get n with
    | some ⟨_, false, .rows _ _ _ _⟩ => do
      syncR n
      match ← get n with
      | some ⟨g', false, .rows u l none _⟩ => do
        sure (Nat.beq g g' && tyEq t (.list u))
        put n ⟨g, false, .rows u l (some i) .undef⟩
        lay nm (.row u (l.getD i []))
        put n ⟨g, false, .rows u l (some i) (.row nm 0 .full)⟩
        pure (some (.row nm 0 .full))
      | _ => fail
    | _ => pure none
  | _ => .ret none
noncomputable def fillAt (t : Ty) (i : Nat) : Option (Nat × Nat) := match t with
  | .arr n e => bif Nat.blt i n then some (i * e.size, e.size) else none
  | t => match t.field i with | some (o, u) => some (o, u.size) | none => none
/-- parts set into leaves -/
noncomputable def fills (t : Ty) : List (Nat × SV) → List SV → Option (List SV)
  | [], l => some l
  | (i, v) :: r, l => match fillAt t i with
    | some (o, s) => bif clean v.leaves && Nat.beq (widths v.leaves) s then (match putCells l o v.leaves with | some l' => fills t r l' | none => none) else none
    | none => none
noncomputable def rowOf (e : Ty) (n : Nat) : List (Nat × SV) → List e.den → Prog (List e.den)
  | [], l => .ret l
  | (i, v) :: r, l => do
    sure (clean v.leaves && Nat.blt i n)
    let x ← toDen true e v.leaves
    rowOf e n r (l.set i x)
noncomputable def lenP (v : SV) : Prog Int :=
  match v with
  | .nil => .ret 0
  | .lst _ l => .ret (l.length : Int)
  | .row n g v => do let x ← rowAny n g; pure ((v.of x.2).length : Int)
  | _ => .fail
noncomputable def subView (v : View) (lo hi : Option Nat) : View :=
  match v, lo, hi with
  | v, none, none => v
  | .full, none, some b => .upto b
  | .full, some a, none => .from_ a
  | .full, some a, some b => .mid a b
  | .upto _, none, some b' => .upto b'
  | .upto b, some a, none => .mid a b
  | .upto _, some a, some b' => .mid a b'
  | .from_ c, none, some b => .mid c (c + b)
  | .from_ c, some a, none => .from_ (c + a)
  | .from_ c, some a, some b => .mid (c + a) (c + b)
  | .mid c _, none, some b' => .mid c (c + b')
  | .mid c b, some a, none => .mid (c + a) b
  | .mid c _, some a, some b' => .mid (c + a) (c + b')
/-- bounds of a slice -/
noncomputable def boundsP (n : Int) (lo hi : Option SV) : Prog (Option Nat × Option Nat) :=
  match lo, hi with
  | none, none => .ret (none, none)
  | some (.int _ a), none => do need (0 ≤ a ∧ a ≤ n); pure (some a.toNat, none)
  | none, some (.int _ b) => do need (0 ≤ b ∧ b ≤ n); pure (none, some b.toNat)
  | some (.int _ a), some (.int _ b) => do need (0 ≤ a ∧ a ≤ b ∧ b ≤ n); pure (some a.toNat, some b.toNat)
  | _, _ => .fail
noncomputable def sliceL {α : Type} (b : Option Nat × Option Nat) (l : List α) : List α :=
  match b with
  | (none, none) => l | (some a, none) => l.drop a | (none, some b) => l.take b | (some a, some b) => (l.take b).drop a
noncomputable def sliceB (b : Option Nat × Option Nat) (s : ByteArray) : ByteArray :=
  match b with
  | (none, none) => s.extract 0 s.size | (some a, none) => s.extract a s.size | (none, some b) => s.extract 0 b | (some a, some b) => s.extract a b
noncomputable def appendP (e : Ty) (s x : SV) (nm : Nat) : Prog SV := do
  let xs ← asView e x false
  match s with
  | .nil => do need (xs.length ≤ most); lay nm (.row e xs); pure (.row nm 0 .full)
  | .row n g v => do
    match ← get n with
    | some ⟨g', false, .row _ l⟩ => do
      sure (Nat.beq g g' && v.isLo)
      let l ← must (castL (u := e) l)
      need ((v.of l ++ xs).length ≤ most)
      put n ⟨Nat.succ g, false, .row e (v.of l ++ xs)⟩
      pure (.row n (Nat.succ g) .full)
    | _ => fail
  | _ => fail
/-- rows that are stored into data: from then on they stay as they are -/
noncomputable def partRows : List (Nat × SV) → List Nat | [] => [] | (_, v) :: r => rowNames v.leaves ++ partRows r
noncomputable def storeRows (p v : SV) : Prog (List Nat) := match p with
  | .ptrE n _ _ _ => do
    match ← get n with
    | some ⟨_, _, .rows _ _ _ _⟩ => pure []
    | _ => pure (rowNames v.leaves)
  | .ptrA _ _ _ _ _ _ _ => .ret (rowNames v.leaves) | _ => .ret []
noncomputable def madeRow (x : Operand) (e : Ty) (n : Nat) : Body := match x, e with
  | .tmp _, .list u => .rows u (List.replicate n []) none .undef
  | _, e => .row e (List.replicate n e.dflt)
/-- part of a row, written over -/
noncomputable def overL {α : Type} (k : Nat) (m l : List α) : List α := l.take k ++ (m ++ l.drop (k + m.length))
noncomputable def clearP (e : Ty) (x : SV) : Prog SV :=
  match x with
  | .row n g (.from_ a) => do
    match ← get n with
    | some ⟨g', false, .row u l⟩ => do
      sure (Nat.beq g g')
      let l ← must (castL (t := u) (u := e) l)
      put n ⟨g, false, .row e (overL a (List.replicate (l.length - a) e.dflt) l)⟩
      pure (.tup [])
    | _ => fail
  | _ => .fail
noncomputable def copyP (e : Ty) (d x : SV) : Prog SV := do
  let xs ← asView e x false
  match d with
  | .row n g v => do
    match ← get n with
    | some ⟨g', false, .row u l⟩ => do
      sure (Nat.beq g g')
      let l ← must (castL (t := u) (u := e) l)
      put n ⟨g, false, .row e (overL v.lo (xs.take (min xs.length (v.of l).length)) l)⟩
      pure (.int .i64 ((min xs.length (v.of l).length : Nat) : Int))
    | _ => fail
  | _ => fail
noncomputable def isOf : Int → Option Nat | .ofNat i => some i | _ => none
noncomputable def opP (E : Env) (o : Oper) (tm : Nat → SV) (nm : Nat) : Prog SV :=
  match o.op with
  | .move x | .assign x => .ret (evalS tm x)
  | .pick c a b => match evalS tm c with | .bool t => ask (t = true) (.ret (evalS tm a)) (.ret (evalS tm b)) | _ => .fail
  | .alloc e => (match E.T e with
    | none => do sure (E.fns e); lay nm (.box [.undef]); pure (.ptr nm 0 0)
    | some _ => do
      let t ← must (E.T e)
      lay nm (.box (zleaves t))
      pure (.ptr nm 0 0))
  | .box _ v => do
    let l := (evalS tm v).leaves
    sure (clean l)
    lay nm (.box l)
    pure (.ptr nm 0 0)
  | .build t parts => do
    let t ← must (E.T t)
    sure t.agg
    let l ← must (fills t (evs tm parts.toList) (zleaves t))
    pure (mk t l)
  | .buildSlice t n parts => do
    readyRs (partRows (evs tm parts.toList)) (partRows (evs tm parts.toList))
    freezes (partRows (evs tm parts.toList))
    match E.T t with
    | some (.list e) => do
      sure (Nat.ble (n * e.size) 16777216)
      let l ← rowOf e n (evs tm parts.toList) (List.replicate n e.dflt)
      lay nm (.row e l)
      pure (.row nm 0 .full)
    | _ => fail
  | .load t a => (match E.T t with
    | none => do sure (E.fns t); let l ← seeP (evalS tm a) 1; pure (ofLeaves false l)
    | some _ => do
      let t ← must (E.T t)
      match ← takeP (evalS tm a) t nm with
      | some v => pure v
      | none => do
        let l ← seeP (evalS tm a) t.size
        pure (mk t l))
  | .store t a v => (match E.T t with
    | none => do
      let l := (evalS tm v).leaves
      sure (E.fns t && (clean l && Nat.beq (widths l) 1))
      setP (evalS tm a) l
      pure .undef
    | some _ => do
      let ns ← storeRows (evalS tm a) (evalS tm v)
      readyRs ns ns
      freezes ns
      let t ← must (E.T t)
      let l := (evalS tm v).leaves
      sure (clean l && Nat.beq (widths l) t.size)
      setP (evalS tm a) l
      pure .undef)
  | .nilCheck x => do aliveP (evalS tm x); pure (evalS tm x)
  | .binOp op t x y _ => eqB E op t (evalS tm x) (evalS tm y)
  | .unOp op _ x => unS op (evalS tm x)
  | .convert src dst x => match E.T src, E.T dst, evalS tm x with
    | some (.int _), some (.int k), .int _ n => .ret (.int k (k.wrap n))
    | _, _, _ => .fail
  | .makeFunc (.func f) first caps => .ret (.func f (evl tm first.toList) (evl tm caps.toList))
  | .makeSlice t n' c => match E.T t, evalS tm n', evalS tm c with
    | some (.list e), .int _ n, .int _ c => do
      need (0 ≤ n ∧ n ≤ c ∧ c ≤ (most : Int))
      lay nm (madeRow n' e n.toNat)
      pure (.row nm 0 .full)
    | _, _, _ => .fail
  | .slice t x lo hi none => match E.T t, evalS tm x with
    | some .str, .str s => do let b ← boundsP (s.size : Int) (lo.map (evalS tm)) (hi.map (evalS tm)); pure (.str (sliceB b s))
    | some (.list e), .lst t l => do
      sure (tyEq t e)
      let b ← boundsP (l.length : Int) (lo.map (evalS tm)) (hi.map (evalS tm))
      pure (.lst t (sliceL b l))
    | some (.list e), .row n g v => do
      let x ← rowAt n g
      sure (tyEq x.1 e)
      let b ← boundsP ((v.of x.2).length : Int) (lo.map (evalS tm)) (hi.map (evalS tm))
      pure (.row n g (subView v b.1 b.2))
    | some (.list _), .nil => do
      let _ ← boundsP 0 (lo.map (evalS tm)) (hi.map (evalS tm))
      pure .nil
    | _, _ => .fail
  | .fieldAddr s x f => do
    let t ← must (E.T s)
    let d ← must (t.field f)
    sure (Nat.blt 0 d.2.size && !E.arrs s)
    aliveP (evalS tm x)
    must (moveP (evalS tm x) d.1)
  | .field s x f => do
    let t ← must (E.T s)
    let d ← must (t.field f)
    sure (!E.arrs s)
    match evalS tm x with
      | .agg fs => do let l ← must (cutCells fs d.1 d.2.size); pure (mk d.2 l)
      | _ => .fail
  | .indexAddr t x ix => match E.T t, evalS tm x, evalS tm ix with
    | some (.list e), .lst u l, .int _ i => do sure (tyEq u e); need (0 ≤ i ∧ i < (l.length : Int)); pure (.ptrF u l i.toNat 0)
    | some (.list e), .row n g v, .int _ i => do
      let x ← rowAny n g
      sure (tyEq x.1 e)
      need (0 ≤ i ∧ i < ((v.of x.2).length : Int))
      pure (.ptrE n g (bif v.isLo then i.toNat else v.lo + i.toNat) 0)
    | some (.arr m e), .ptr n g off, .int _ i => do aliveP (.ptr n g off); need (0 ≤ i ∧ i < (m : Int)); pure (.ptrA n g off i.toNat 0 e.size m)
    | some (.pair a b), p, .int _ i => do
      let i ← must (isOf i)
      let d ← must ((Ty.pair a b).field i)
      sure (E.arrs t)
      aliveP p
      must (moveP p d.1)
    | _, _, _ => .fail
  | .index ti x ix => match evalS tm x, evalS tm ix with
    | .str s, .int _ i => do
      let t ← must (E.T ti)
      sure (tyEq t .str)
      need (0 ≤ i ∧ i < (s.size : Int))
      pure (.int .u8 (s.data.toList.getD i.toNat 0).toNat)
    | .agg fs, .int _ i => do
      sure (E.arrs ti)
      let t ← must (E.T ti)
      let i ← must (isOf i)
      let d ← must (t.field i)
      let l ← must (cutCells fs d.1 d.2.size)
      pure (mk d.2 l)
    | _, _ => .fail
  | .extract x i => match evalS tm x with | .tup vs => must vs[i]? | _ => .fail
  | .call c => match c.callee with
    | .value f => (match evalS tm f with
      | .func f first caps => callP (E.con f) (first ++ evl tm c.args.toList ++ caps) nm
      | _ => .fail)
    | .builtin .append => (match c.argTypes.toList, evl tm c.args.toList with
      | [t, u], [s, x] => (match E.T t, E.T u with
        | some (.list e), some (.list e') => (do sure (tyEq e e'); appendP e s x nm)
        | some (.list e), some (.int _) => (match s, x with
          | .nil, .int _ n => (do
            need (0 ≤ n ∧ n ≤ (most : Int))
            lay nm (.row e (List.replicate n.toNat e.dflt))
            pure (.row nm 0 .full))
          | _, _ => .fail)
        | _, _ => .fail)
      | _, _ => .fail)
    | .builtin .cap => (match c.argTypes.toList, evl tm c.args.toList with
      | [t], [.nil] => (match E.T t with | some (.list _) => .ret (.int .i64 0) | _ => .fail)
      | _, _ => .fail)
    | .builtin .clear => (match c.argTypes.toList, evl tm c.args.toList with
      | [t], [x] => (match E.T t with | some (.list e) => clearP e x | _ => .fail)
      | _, _ => .fail)
    | .builtin .copy => (match c.argTypes.toList, evl tm c.args.toList with
      | [t, u], [d, x] => (match E.T t, E.T u with | some (.list e), some (.list e') => (do sure (tyEq e e'); copyP e d x) | _, _ => .fail)
      | _, _ => .fail)
    | .builtin .len => (match c.argTypes.toList, evl tm c.args.toList with
      | [t], [x] => (match E.T t, x with
        | some .str, .str s => .ret (.int .i64 (s.size : Int))
        | some (.list _), x => (do let n ← lenP x; pure (.int .i64 n))
        | _, _ => .fail)
      | _, _ => .fail)
    | .builtin .max => (match evl tm c.args.toList with
      | [.int k a, .int k' b] => if k = k' then .ret (.int k (max a b)) else .fail
      | _ => .fail)
    | .builtin .min => (match evl tm c.args.toList with
      | [.int k a, .int k' b] => if k = k' then .ret (.int k (min a b)) else .fail
      | _ => .fail)
    | _ => .fail
  | _ => .fail
/-! regions -/
noncomputable def nmOf (i : Nat) : Option Nat → Nat | some d => 64 * (d + 1) | none => 64 * (100000 + i)
/-- the same, with what is looked at and what is laid -/
noncomputable def Prog.runF {β R : Type} : Prog β → Objs → List Nat → List Nat → (β → Objs → List Nat → List Nat → Option R) → Option R
  | .ret b, O, rd, wr, K => K b O rd wr
  | .fail, _, _, _, _ => none
  | .ite _ d x y, O, rd, wr, K => @_root_.ite _ _ d (x.runF O rd wr K) (y.runF O rd wr K)
  | .get n k, O, rd, wr, K => (k (O n)).runF O (n :: rd) wr K
  | .put n o k, O, rd, wr, K => k.runF (O.set n o) rd (n :: wr) K
  | .come _ s c k, O, rd, wr, K => c.bind fun a => s.sp (Option R) a fun a => (k a).runF O rd wr K
section
variable {R : Type}
noncomputable def dstOk (keep : Nat → Bool) (nt : Nat) : Option Nat → Bool | some d => !keep d && Nat.blt d nt | none => true
noncomputable def dstAt (all : List Oper) (j : Nat) : Option Nat := match all[j]? with | some o => o.dst | none => none
noncomputable def regK (E : Env) (keep : Nat → Bool) (all : List Oper) : List Oper → Nat → St → (St → Option R) → Option R
  | [], _, S, K => K S
  | o :: os, i, S, K =>
    let run : St → Option R := fun S => (opP E o S.tmps (nmOf i o.dst)).run S.objs fun v O => regK E keep all os (i + 1) (S.put o.dst v O) K
    bif dstOk keep E.ntmps o.dst then
      match o.guard with
      | none => run S
      | some (j, want) => match dstAt all j with
        | some d => (match S.tmps d with
          | .bool b => if b = want then run (S.put (some d) (.bool want) S.objs) else regK E keep all os (i + 1) ((S.put (some d) (.bool !want) S.objs).put o.dst (.tup []) S.objs) K
          | .tup [] => regK E keep all os (i + 1) (S.put o.dst (.tup []) S.objs) K
          | _ => none)
        | none => none
    else none
/-- all operations that come ahead of each one, as bits -/
noncomputable def bitsOf : List Nat → List Edge → Nat
  | _, [] => 0
  | bs, e :: es => bif Region.binds .any e then 2 ^ e.on ||| (bs.getD e.on 0 ||| bitsOf bs es) else bitsOf bs es
noncomputable def befores : List Oper → List Nat → List Nat
  | [], bs => bs
  | o :: os, bs => befores os (bs ++ [bitsOf bs o.after.toList])
noncomputable def apartAll (b : Nat) (rd wr : List Nat) : List (Nat × List Nat × List Nat) → Bool
  | [] => true
  | (i, r, w) :: l => (Nat.testBit b i || (apartN w rd && apartN w wr && apartN wr r)) && apartAll b rd wr l
/-- one operation of a drawn region -/
noncomputable def stepF (E : Env) (keep : Nat → Bool) (all : List Oper) (i : Nat) (o : Oper) (S : St) (K : St → List Nat → List Nat → Option R) : Option R :=
  bif dstOk keep E.ntmps o.dst then
    match o.guard with
    | none => (opP E o S.tmps (nmOf i o.dst)).runF S.objs [] [] fun v O rd wr => K (S.put o.dst v O) rd wr
    | some (j, want) => match dstAt all j with
      | some d => (match S.tmps d with
        | .bool b => if b = want then (opP E o S.tmps (nmOf i o.dst)).runF S.objs [] [] fun v O rd wr => K (S.put o.dst v O) rd wr else K (S.put o.dst (.tup []) S.objs) [] []
        | .tup [] => K (S.put o.dst (.tup []) S.objs) [] []
        | _ => none)
      | none => none
  else none
/-- the same, and what the guard is is known then -/
noncomputable def stepG (E : Env) (keep : Nat → Bool) (all : List Oper) (i : Nat) (o : Oper) (S : St) (K : St → List Nat → List Nat → Option R) : Option R :=
  bif dstOk keep E.ntmps o.dst then
    match o.guard with
    | none => (opP E o S.tmps (nmOf i o.dst)).runF S.objs [] [] fun v O rd wr => K (S.put o.dst v O) rd wr
    | some (j, want) => match dstAt all j with
      | some d => (match S.tmps d with
        | .bool b => if b = want then
            (let S1 := S.put (some d) (.bool want) S.objs
             (opP E o S1.tmps (nmOf i o.dst)).runF S1.objs [] [] fun v O rd wr => K (S1.put o.dst v O) rd wr)
          else
            (let S1 := S.put (some d) (.bool !want) S.objs
             K (S1.put o.dst (.tup []) S1.objs) [] [])
        | .tup [] => K (S.put o.dst (.tup []) S.objs) [] []
        | _ => none)
      | none => none
  else none
noncomputable def regD (E : Env) (keep : Nat → Bool) (all : List Oper) (bs : List Nat) : List Oper → Nat → List (Nat × List Nat × List Nat) → St → (St → Option R) → Option R
  | [], _, _, S, K => K S
  | o :: os, i, acc, S, K => stepG E keep all i o S fun S' rd wr => bif apartAll (bs.getD i 0) rd wr acc then regD E keep all bs os (i + 1) ((i, rd, wr) :: acc) S' K else none
/-- the temporaries of operations that no edge binds lie apart, and edges point back -/
noncomputable def slotsOk (all : Array Oper) (bs : List Nat) : List Oper → Nat → List (Nat × Oper) → Bool
  | [], _, _ => true
  | o :: os, j, acc => o.after.toList.all (fun e => !Region.binds .any e || Nat.blt e.on j) && acc.all (fun x => Nat.testBit (bs.getD j 0) x.1 || Oper.apart all x.2 o) && slotsOk all bs os (j + 1) ((j, o) :: acc)
noncomputable def drawK (E : Env) (keep : Nat → Bool) (ops : Array Oper) (S : St) (K : St → Option R) : Option R :=
  bif slotsOk ops (befores ops.toList []) ops.toList 0 [] then regD E keep ops.toList (befores ops.toList []) ops.toList 0 [] S K else none
/-! code -/
noncomputable def St.clear (S : St) (ws : List Nat) (O : Objs) : St := ⟨fun x => bif memN x ws then .undef else S.tmps x, O⟩
noncomputable def St.puts (S : St) : List (Nat × RT) → List SV → St
  | (t, _) :: r, v :: vs => (⟨fun x => bif Nat.beq x t then v else S.tmps x, S.objs⟩ : St).puts r vs
  | _, _ => S
noncomputable def slotsIn : List (Nat × RT) → List Nat → Bool | [], _ => true | (t, _) :: r, ws => memN t ws && slotsIn r ws
noncomputable def slotsOut : List (Nat × RT) → List Nat → Bool | [], _ => true | (t, _) :: r, ws => !memN t ws && slotsOut r ws
noncomputable def nokeep (keep : Nat → Bool) : List Nat → Bool | [] => true | t :: r => !keep t && nokeep keep r
noncomputable def Cut.plain (c : Cut) (i : Nat) : Bool := (rtsOf (wayAt c.ways i).outs).all RT.scalar && (rtsOf c.fix).all fixScalar
noncomputable def cutP1 (c : Cut) (tm : Nat → SV) (nm : Nat) : Prog ((i : Nat) × List SV) := do
  let p ← decs true (rtsOf c.fix) (slots tm c.fix)
  let q ← decs false (rtsOf c.ins) (slots tm c.ins)
  sure ((p.2.add q.2).ok)
  let a ← comeS c.sp (c.F p.1 q.1)
  freezes (match c.plain (c.out a).1 with | true => [] | false => p.2.lent ++ q.2.lent)
  kills (p.2.inner ++ q.2.own)
  let nm1 ← turns (rtsOf c.fix) (c.up p.1 a) (slots tm c.fix) nm
  let vs ← encs (rtsOf (wayAt c.ways (c.out a).1).outs) (c.out a).2 nm1
  pure ⟨(c.out a).1, vs.1⟩
noncomputable def cutP (c : Cut) (tm : Nat → SV) (nm : Nat) : Prog ((i : Nat) × List SV) := do
  readyRs (rowNamesL (slots tm c.fix) ++ rowNamesL (slots tm c.ins)) (rowNamesF (rtsOf c.fix) (slots tm c.fix) ++ rowNamesF (rtsOf c.ins) (slots tm c.ins))
  cutP1 c tm nm
noncomputable def cutK (c : Cut) (keep : Nat → Bool) (nm : Nat) (S : St) (K : Ex → St → Option R) : Option R :=
  bif nokeep keep c.writes && slotsOut c.fix c.writes then
    (cutP c S.tmps nm).run S.objs fun r O => bif slotsIn (wayAt c.ways r.1).outs c.writes then
      K (wayAt c.ways r.1).ex ((S.clear c.writes O).puts (wayAt c.ways r.1).outs r.2) else none
  else none
noncomputable def firstR : Code → Nat
  | .region id _ _ => id | .seq a _ => firstR a | .cond _ a _ => firstR a | .block _ b => firstR b | .loop b => firstR b | .scope b => firstR b | _ => 0
noncomputable def lastR : Code → Nat
  | .region id _ _ => id | .seq _ b => lastR b | .cond _ _ b => lastR b | .block _ b => lastR b | .loop b => lastR b | .scope b => lastR b | _ => 0
noncomputable def kindR : Code → Nat | .loop _ => 0 | .scope _ => 1 | .seq _ _ => 2 | .cond _ _ _ => 3 | .block _ _ => 4 | _ => 5
noncomputable def hasCut (c : Code) : Bool := match c with | .loop _ | .scope _ | .seq _ _ | .block _ _ => true | _ => false
noncomputable def labelIn : Code → Nat → Bool
  | .seq a b, l => labelIn a l || labelIn b l
  | .label l', l => Nat.beq l' l
  | _, _ => false
noncomputable def St.know (S : St) (c : Operand) (b : Bool) : St := match c with | .tmp t => S.put (some t) (.bool b) S.objs | _ => S
noncomputable def orCut (E : Env) (keep : Nat → Bool) (c : Code) (S : St) (K : Ex → St → Option R) (run : Option R) : Option R :=
  bif hasCut c then (match E.cut (kindR c) (firstR c) (lastR c) with
    | some t => cutK t keep (64 * (200000 + firstR c)) S K
    | none => run) else run
noncomputable def codeK (E : Env) (keep : Nat → Bool) : Code → St → (Ex → St → Option R) → Option R
  | .skip, S, K => K .normal S
  | .region _ ops draw, S, K => match draw with
    | false => regK E keep ops.toList ops.toList 0 S (K .normal)
    | true => drawK E keep ops S (K .normal)
  | .seq a b, S, K =>
    let kb : Ex → St → Option R := fun e S' => match e with | .normal => orCut E keep b S' K (codeK E keep b S' K) | e => K e S'
    orCut E keep a S kb (codeK E keep a S kb)
  | .cond c x y, S, K => match evalS S.tmps c with
    | .bool t => if t = true then
        (let S1 := S.know c true; orCut E keep x S1 K (codeK E keep x S1 K))
      else (let S1 := S.know c false; orCut E keep y S1 K (codeK E keep y S1 K))
    | _ => none
  | .block id b, S, K =>
    let kb : Ex → St → Option R := fun e S' => match e with | .exit i => bif Nat.beq i id then K .normal S' else K (.exit i) S' | e => K e S'
    orCut E keep b S kb (codeK E keep b S kb)
  | .scope b, S, K =>
    let kb : Ex → St → Option R := fun e S' => match e with | .goto l => bif labelIn b l then none else K (.goto l) S' | e => K e S'
    orCut E keep b S kb (codeK E keep b S kb)
  | .exit id, S, K => K (.exit id) S
  | .label _, S, K => K .normal S
  | .goto l, S, K => K (.goto l) S
  | .ret, S, K => K .ret S
  | _, _, _ => none
noncomputable def resP (E : Env) (tm : Nat → SV) : List ResultVar → Prog (List SV)
  | [] => .ret []
  | .tmp t :: r => do let l ← resP E tm r; pure (tm t :: l)
  | .cell a ty :: r => do
    let t ← must (E.T ty)
    let x ← seeP (tm a) t.size
    let l ← resP E tm r
    pure (mk t x :: l)
/-- the end of a function: what its arguments' rows and variables have become, and what it gives -/
noncomputable def endP1 (ats rts : List RT) (vs : List SV) (l : List SV) : Prog (dens ats × dens rts) := do
  let p ← decsE vs ats vs
  let q ← decs false rts l
  sure ((p.2.add q.2).ok)
  pure (p.1, q.1)
noncomputable def endP (E : Env) (ats rts : List RT) (vs : List SV) (res : List ResultVar) (tm : Nat → SV) : Prog (dens ats × dens rts) := do
  let l ← resP E tm res
  readyRs (rowNamesL l) (rowNamesF rts l)
  endP1 ats rts vs l
noncomputable def endK (E : Env) (ats rts : List RT) (vs : List SV) (res : List ResultVar) (fin : dens ats → dens rts → Option R) (e : Ex) (S : St) : Option R :=
  match e with
  | .normal | .ret => (endP E ats rts vs res S.tmps).run S.objs fun z _ => fin z.1 z.2
  | _ => none
noncomputable def fnK (E : Env) (ats rts : List RT) (body : Code) (res : List ResultVar) (fin : dens ats → dens rts → Option R) (x : dens ats) : Option R :=
  (encs ats x 0).run (fun _ => none) fun vs O =>
    orCut E (fun _ => false) body ⟨nthS vs.1, O⟩ (endK E ats rts vs.1 res fin) (codeK E (fun _ => false) body ⟨nthS vs.1, O⟩ (endK E ats rts vs.1 res fin))
noncomputable def Ex.beq : Ex → Ex → Bool
  | .normal, .normal => true | .ret, .ret => true | .exit a, .exit b => Nat.beq a b | .goto a, .goto b => Nat.beq a b | _, _ => false
noncomputable def findWay : List Way → Ex → Nat → Option Nat
  | [], _, _ => none | w :: r, e, i => bif w.ex.beq e then some i else findWay r e (i + 1)
noncomputable def slotsP1 (fix ins : List (Nat × RT)) (tm : Nat → SV) : Prog (dens (rtsOf fix) × dens (rtsOf ins)) := do
  let p ← decs true (rtsOf fix) (slots tm fix)
  let q ← decs false (rtsOf ins) (slots tm ins)
  sure ((p.2.add q.2).ok)
  pure (p.1, q.1)
noncomputable def slotsP (fix ins : List (Nat × RT)) (tm : Nat → SV) : Prog (dens (rtsOf fix) × dens (rtsOf ins)) := do
  readyRs (rowNamesL (slots tm fix) ++ rowNamesL (slots tm ins)) (rowNamesF (rtsOf fix) (slots tm fix) ++ rowNamesF (rtsOf ins) (slots tm ins))
  slotsP1 fix ins tm
/-- the end of a piece -/
noncomputable def wayK (fix : List (Nat × RT)) (ways : List Way) (fin : dens (rtsOf fix) → (i : Nat) → dens (rtsOf (wayAt ways i).outs) → Option R) (e : Ex) (S : St) : Option R :=
  match findWay ways e 0 with
  | some i => (slotsP fix (wayAt ways i).outs S.tmps).run S.objs fun z _ => fin z.1 i z.2
  | none => none
/-- the end of a round -/
noncomputable def roundK (fix ins : List (Nat × RT)) (rec : dens (rtsOf fix) → dens (rtsOf ins) → Option R) (other : Ex → St → Option R) (e : Ex) (S : St) : Option R :=
  match e with
  | .normal => (slotsP fix ins S.tmps).run S.objs fun z _ => rec z.1 z.2
  | e => other e S
noncomputable def enterK (fix ins : List (Nat × RT)) (x : dens (rtsOf fix)) (y : dens (rtsOf ins)) (K : St → Option R) : Option R :=
  (encs (rtsOf fix) x 64000000).run (fun _ => none) fun vs O => (encs (rtsOf ins) y vs.2).run O fun ws O2 => K (((⟨fun _ => .undef, O2⟩ : St).puts fix vs.1).puts ins ws.1)
noncomputable def keepOf (ws : List Nat) : Nat → Bool := fun t => !memN t ws
/-- a round of a loop -/
noncomputable def loopK (E : Env) (fix ins : List (Nat × RT)) (ws : List Nat) (ways : List Way) (fin : dens (rtsOf fix) → (i : Nat) → dens (rtsOf (wayAt ways i).outs) → Option R) (body : Code)
    (rec : dens (rtsOf fix) → dens (rtsOf ins) → Option R) (x : dens (rtsOf fix)) (y : dens (rtsOf ins)) : Option R :=
  enterK fix ins x y fun S =>
    orCut E (keepOf ws) body S (roundK fix ins rec (wayK fix ways fin)) (codeK E (keepOf ws) body S (roundK fix ins rec (wayK fix ways fin)))
/-- a piece of code that is run once -/
noncomputable def pieceK (E : Env) (fix ins : List (Nat × RT)) (ws : List Nat) (ways : List Way) (fin : dens (rtsOf fix) → (i : Nat) → dens (rtsOf (wayAt ways i).outs) → Option R) (body : Code)
    (x : dens (rtsOf fix)) (y : dens (rtsOf ins)) : Option R :=
  enterK fix ins x y fun S => codeK E (keepOf ws) body S (wayK fix ways fin)
end
end Go.Ev
namespace Go.Ev
open Go.RowKit
/-! cells in memory -/
/-- elements one behind the other -/
def Elem {α : Type} (R : α → List Value → Prop) : List α → List Value → Prop
  | [], cs => cs = []
  | x :: l, cs => ∃ c d, cs = c ++ d ∧ R x c ∧ Elem R l d
def One (v : Value) : Prop := v.oneCell' = true
/-- a typed value's cells: what lies behind slices lies in blocks that are G -/
def RC (w : World) (G : Nat → Prop) : (t : Ty) → t.den → List Value → Prop
  | .int k, x, cs => cs = [.int k x]
  | .bool, x, cs => cs = [.bool x]
  | .str, x, cs => cs = [.string x]
  | .list t, l, cs => ∃ a cap, cs = [.slice a l.length cap] ∧ l.length ≤ cap ∧ (l ≠ [] → ∃ b off es, a = some ⟨b, off, none⟩ ∧ G b ∧ Elem (RC w G t) l es ∧ w.rangeAt b off es)
  | .unit, _, cs => cs = []
  | .pair a b, p, cs => ∃ c d, cs = c ++ d ∧ RC w G a p.1 c ∧ RC w G b p.2 d
  | .arr n t, l, cs => List.length (α := t.den) l = n ∧ Elem (RC w G t) l cs
theorem Elem.imp {α : Type} {R R' : α → List Value → Prop} : ∀ {l : List α} {cs : List Value}, Elem R l cs → (∀ x c, R x c → R' x c) → Elem R' l cs
  | [], _, h, _ => h
  | _ :: _, _, ⟨c, d, e, h1, h2⟩, hi => ⟨c, d, e, hi _ _ h1, Elem.imp h2 hi⟩
theorem Elem.append {α : Type} {R : α → List Value → Prop} : ∀ {l m : List α} {cs ds : List Value}, Elem R l cs → Elem R m ds → Elem R (l ++ m) (cs ++ ds)
  | [], _, _, _, h, h' => by cases h; exact h'
  | _ :: _, _, _, _, ⟨c, d, e, h1, h2⟩, h' => ⟨c, d ++ _, by rw [e, List.append_assoc], h1, Elem.append h2 h'⟩
theorem Elem.len {α : Type} {R : α → List Value → Prop} {n : Nat} (hn : ∀ x c, R x c → c.length = n) : ∀ {l : List α} {cs : List Value}, Elem R l cs → cs.length = l.length * n
  | [], _, h => by cases h; simp
  | x :: l, _, ⟨c, d, e, h1, h2⟩ => by
    have := hn _ _ h1
    have := Elem.len hn h2
    subst e
    simp [Nat.succ_mul]; omega
theorem Elem.take {α : Type} {R : α → List Value → Prop} {n : Nat} (hn : ∀ x c, R x c → c.length = n) : ∀ {l : List α} {cs : List Value} (k : Nat), Elem R l cs → Elem R (l.take k) (cs.take (k * n))
  | [], _, k, h => by cases h; simp [Elem]
  | x :: l, _, 0, _ => by simp [Elem]
  | x :: l, _, k + 1, ⟨c, d, e, h1, h2⟩ => by
    have hc := hn _ _ h1
    refine ⟨c, d.take (k * n), ?_, h1, Elem.take hn k h2⟩
    rw [e, List.take_append, hc, Nat.succ_mul, List.take_of_length_le (by omega)]
    congr 2; omega
theorem Elem.drop {α : Type} {R : α → List Value → Prop} {n : Nat} (hn : ∀ x c, R x c → c.length = n) : ∀ {l : List α} {cs : List Value} (k : Nat), Elem R l cs → Elem R (l.drop k) (cs.drop (k * n))
  | [], _, k, h => by cases h; simp [Elem]
  | x :: l, _, 0, h => by simpa using h
  | x :: l, _, k + 1, ⟨c, d, e, h1, h2⟩ => by
    have hc := hn _ _ h1
    have := Elem.drop hn k h2
    have e2 : (k + 1) * n = c.length + k * n := by rw [hc, Nat.succ_mul]; omega
    rw [e, e2, List.drop_append, List.drop_eq_nil_of_le (as := c) (by omega)]
    simpa using this
theorem Elem.at {α : Type} {R : α → List Value → Prop} {n : Nat} (hn : ∀ x c, R x c → c.length = n) : ∀ {l : List α} {cs : List Value} (i : Nat) (d : α), Elem R l cs → i < l.length → R (l.getD i d) ((cs.drop (i * n)).take n)
  | [], _, _, _, _, h => by simp at h
  | x :: l, _, 0, d, ⟨c, e, he, h1, h2⟩, _ => by
    have hc := hn _ _ h1
    subst he
    simpa [← hc] using h1
  | x :: l, _, i + 1, d, ⟨c, e, he, h1, h2⟩, hi => by
    have hc := hn _ _ h1
    have := Elem.at hn i d h2 (by simpa using hi)
    subst he
    rw [List.drop_append, hc, Nat.succ_mul, List.drop_eq_nil_of_le (by omega)]
    simpa using this
theorem Elem.set {α : Type} {R : α → List Value → Prop} {n : Nat} (hn : ∀ x c, R x c → c.length = n) : ∀ {l : List α} {cs : List Value} (i : Nat) (x : α) (new : List Value), Elem R l cs → i < l.length → R x new →
    Elem R (l.set i x) (cs.take (i * n) ++ (new ++ cs.drop (i * n + n)))
  | [], _, _, _, _, _, h, _ => by simp at h
  | y :: l, _, 0, x, new, ⟨c, e, he, h1, h2⟩, _, hx => by
    have hc := hn _ _ h1
    subst he
    exact ⟨new, e, by simp [← hc], hx, h2⟩
  | y :: l, _, i + 1, x, new, ⟨c, e, he, h1, h2⟩, hi, hx => by
    have hc := hn _ _ h1
    have := Elem.set hn i x new h2 (by simpa using hi) hx
    subst he
    refine ⟨c, _, ?_, h1, this⟩
    have e1 : (i + 1) * n - c.length = i * n := by rw [hc, Nat.succ_mul]; omega
    have e2 : (i + 1) * n + n - c.length = i * n + n := by rw [hc, Nat.succ_mul]; omega
    rw [List.take_append, List.drop_append, e1, e2, List.take_of_length_le (by rw [hc, Nat.succ_mul]; omega), List.drop_eq_nil_of_le (by rw [hc, Nat.succ_mul]; omega)]
    simp
theorem Elem.replicate {α : Type} {R : α → List Value → Prop} {x : α} {c : List Value} (h : R x c) : ∀ n, Elem R (List.replicate n x) (List.replicate n c).flatten
  | 0 => rfl
  | n + 1 => ⟨c, _, by simp [List.replicate_succ], h, Elem.replicate h n⟩
theorem Elem.all {α : Type} {R : α → List Value → Prop} {Pv : Value → Prop} (hR : ∀ x c, R x c → ∀ v ∈ c, Pv v) : ∀ {l : List α} {cs : List Value}, Elem R l cs → ∀ v ∈ cs, Pv v
  | [], _, h, _, hv => by cases h; cases hv
  | _ :: _, _, ⟨c, d, e, h1, h2⟩, v, hv => by
    subst e
    rcases List.mem_append.1 hv with h | h
    · exact hR _ _ h1 v h
    · exact Elem.all hR h2 v h
theorem RC.len {w : World} {G : Nat → Prop} : ∀ {t : Ty} {x : t.den} {cs : List Value}, RC w G t x cs → cs.length = t.size
  | .int _, _, _, h => by cases h; rfl
  | .bool, _, _, h => by cases h; rfl
  | .str, _, _, h => by cases h; rfl
  | .list _, _, _, ⟨_, _, h, _⟩ => by cases h; rfl
  | .unit, _, _, h => by cases h; rfl
  | .pair a b, _, _, ⟨c, d, e, h1, h2⟩ => by
    have := RC.len h1
    have := RC.len h2
    subst e
    simp [Ty.size]; omega
  | .arr n t, l, _, ⟨h1, h2⟩ => by
    have := Elem.len (fun _ _ h => RC.len (t := t) h) h2
    rw [this, h1]; rfl
theorem RC.one {w : World} {G : Nat → Prop} : ∀ {t : Ty} {x : t.den} {cs : List Value}, RC w G t x cs → ∀ v ∈ cs, One v
  | .int _, _, _, h, v, hv => by cases h; simp at hv; subst hv; rfl
  | .bool, _, _, h, v, hv => by cases h; simp at hv; subst hv; rfl
  | .str, _, _, h, v, hv => by cases h; simp at hv; subst hv; rfl
  | .list _, _, _, ⟨_, _, h, _⟩, v, hv => by cases h; simp at hv; subst hv; rfl
  | .unit, _, _, h, v, hv => by cases h; cases hv
  | .pair a b, _, _, ⟨c, d, e, h1, h2⟩, v, hv => by
    subst e
    rcases List.mem_append.1 hv with h | h
    · exact RC.one h1 v h
    · exact RC.one h2 v h
  | .arr n t, l, _, ⟨h1, h2⟩, v, hv => Elem.all (fun _ _ h => RC.one (t := t) h) h2 v hv
/-- worlds that agree on G -/
def Agree (G : Nat → Prop) (w w' : World) : Prop := ∀ b, G b → w'.heap[b]? = w.heap[b]?
theorem rangeAt_agree {w w' : World} {b off : Nat} {cs : List Value} (h : w'.heap[b]? = w.heap[b]?) (hc : w.rangeAt b off cs) : w'.rangeAt b off cs := fun j v hv => by
  rw [World.cell?_of_block (w := w) (a := ⟨b, off + j, none⟩) h]; exact hc j v hv
theorem RC.imp {w w' : World} {G G' : Nat → Prop} (hG : ∀ b, G b → G' b) (hA : Agree G w w') : ∀ {t : Ty} {x : t.den} {cs : List Value}, RC w G t x cs → RC w' G' t x cs
  | .int _, _, _, h => h
  | .bool, _, _, h => h
  | .str, _, _, h => h
  | .list t, _, _, ⟨a, cap, h1, h2, h3⟩ => ⟨a, cap, h1, h2, fun hl => by
    obtain ⟨b, off, es, e1, e2, e3, e4⟩ := h3 hl
    exact ⟨b, off, es, e1, hG _ e2, e3.imp (fun _ _ h => RC.imp hG hA (t := t) h), rangeAt_agree (hA _ e2) e4⟩⟩
  | .unit, _, _, h => h
  | .pair a b, _, _, ⟨c, d, e, h1, h2⟩ => ⟨c, d, e, RC.imp hG hA h1, RC.imp hG hA h2⟩
  | .arr n t, l, _, ⟨h1, h2⟩ => ⟨h1, h2.imp (fun _ _ h => RC.imp hG hA (t := t) h)⟩
/-! what slots hold -/
structure Cx where
  w : World
  G : Nat → Prop
  β : Nat → Option Nat
  O : Objs
/-- what a live name tells; what a stale one tells is nothing -/
def Cx.live (X : Cx) (n g : Nat) (Q : Obj → Prop) : Prop := ∃ o, X.O n = some o ∧ g ≤ o.gen ∧ (g = o.gen → Q o)
def View.fits {α : Type} : View → List α → Prop
  | .full, _ => True | .upto b, l => b ≤ l.length | .from_ a, l => a ≤ l.length | .mid a b, l => a ≤ b ∧ b ≤ l.length
def RowH (X : Cx) (n : Nat) (v : View) (val : Value) (o : Obj) : Prop :=
  match o.body.shape with
  | some ⟨t, l⟩ => v.fits l ∧ ∃ a cap, val = .slice a (v.of l).length cap ∧ (v.of l).length ≤ cap ∧
      match X.β n with
      | none => l = [] ∧ cap = 0
      | some b => ∃ c e, X.w.heap[b]? = some (.cells c e (0, 0)) ∧ (cap = 0 ∨ (a = some ⟨b, v.lo * t.size, none⟩ ∧ (v.lo + cap) * t.size = c.size))
  | none => False
mutual
def HV (X : Cx) : SV → Value → Prop
  | .undef, _ => True
  | .nil, v => v = .slice none 0 0
  | .int k n, v => v = .int k n
  | .bool b, v => v = .bool b
  | .str s, v => v = .string s
  | .lst t l, v => RC X.w X.G (.list t) l [v]
  | .arr _ _ _, _ => False
  | .agg fs, v => ∃ cs, v = .agg cs ∧ HLs X fs cs.toList
  | .tup vs, v => ∃ a, v = .tuple a ∧ HVs X vs a.toList
  | .ptr n g off, v => One v ∧ X.live n g fun _ => ∃ b, X.β n = some b ∧ v = .pointer (some ⟨b, off, none⟩)
  | .ptrA n g off i j sz m, v => One v ∧ X.live n g fun _ => i < m ∧ ∃ b, X.β n = some b ∧ v = .pointer (some ⟨b, off + i * sz + j, none⟩)
  | .ptrE n g i off, v => One v ∧ X.live n g fun o => match o.body.shape with
    | some ⟨t, l⟩ => i < l.length ∧ ∃ b, X.β n = some b ∧ v = .pointer (some ⟨b, i * t.size + off, none⟩)
    | none => False
  | .ptrF t l i off, v => i < l.length ∧ ∃ b o es, v = .pointer (some ⟨b, o + i * t.size + off, none⟩) ∧ X.G b ∧ Elem (RC X.w X.G t) l es ∧ X.w.rangeAt b o es
  | .row n g v, val => One val ∧ X.live n g (RowH X n v val)
  | .func f first caps, v => ∃ a c, v = .func (.func f) a c ∧ HVs X first a.toList ∧ HVs X caps c.toList
def HVs (X : Cx) : List SV → List Value → Prop
  | [], l => l = []
  | s :: r, l => ∃ v l', l = v :: l' ∧ HV X s v ∧ HVs X r l'
def HLs (X : Cx) : List SV → List Value → Prop
  | [], l => l = []
  | .arr t n x :: r, l => ∃ c l', l = c ++ l' ∧ RC X.w X.G (.arr n t) x c ∧ HLs X r l'
  | s :: r, l => ∃ v l', l = v :: l' ∧ One v ∧ HV X s v ∧ HLs X r l'
end
theorem View.len {α γ : Type} : ∀ (v : View) (l : List α) (m : List γ), l.length = m.length → (v.of l).length = (v.of m).length
  | .full, l, m, h => h
  | .upto b, l, m, h => by simp [View.of, h]
  | .from_ a, l, m, h => by simp [View.of, h]
  | .mid a b, l, m, h => by simp [View.of, h]
theorem View.fits_len {α γ : Type} : ∀ (v : View) (l : List α) (m : List γ), l.length = m.length → v.fits l → v.fits m
  | .full, l, m, h, _ => trivial
  | .upto b, l, m, h, h' => by simpa [View.fits, h] using h'
  | .from_ a, l, m, h, h' => by simpa [View.fits, h] using h'
  | .mid a b, l, m, h, h' => by simpa [View.fits, h] using h'
def like : Body → Body → Prop
  | .box _, .box _ => True
  | .row t l, .row u m => t = u ∧ l.length = m.length
  | .rows t l _ _, .rows u m _ _ => t = u ∧ l.length = m.length
  | .rows t l _ _, .row u m => Ty.list t = u ∧ l.length = m.length
  | _, _ => False
theorem like.refl (b : Body) : like b b := by cases b <;> simp [like]
theorem like.shape {a b : Body} (h : like a b) {t : Ty} {l : List t.den} (hs : a.shape = some ⟨t, l⟩) : ∃ m : List t.den, b.shape = some ⟨t, m⟩ ∧ l.length = m.length := by
  cases a with
  | box _ => cases hs
  | row t' l' =>
    cases b with
    | box _ => exact h.elim
    | rows _ _ _ _ => exact h.elim
    | row u m => obtain ⟨rfl, hm⟩ := h; cases hs; exact ⟨m, rfl, hm⟩
  | rows t' l' hole bk =>
    cases b with
    | box _ => exact h.elim
    | row u m => obtain ⟨rfl, hm⟩ := h; cases hs; exact ⟨m, rfl, hm⟩
    | rows u m _ _ => obtain ⟨rfl, hm⟩ := h; cases hs; exact ⟨m, rfl, hm⟩
theorem like.trans {a b c : Body} (h : like a b) (k : like b c) : like a c := by
  cases a <;> cases b <;> first | exact h.elim | skip
  all_goals (cases c <;> first | exact k.elim | skip)
  all_goals first | trivial | skip
  all_goals (obtain ⟨rfl, h2⟩ := h; obtain ⟨rfl, k2⟩ := k; exact ⟨rfl, h2.trans k2⟩)
/-- one state of the objects behind another one: what was held is held -/
structure Ext (X X' : Cx) : Prop where
  g : ∀ b, X.G b → X'.G b
  agree : Agree X.G X.w X'.w
  obj : ∀ n o, X.O n = some o → ∃ o', X'.O n = some o' ∧ o.gen ≤ o'.gen ∧ (o.gen = o'.gen → X'.β n = X.β n ∧ like o.body o'.body ∧
    (∀ t l, o.body.shape = some ⟨t, l⟩ → ∀ b c e, X.β n = some b → X.w.heap[b]? = some (.cells c e (0, 0)) → ∃ c' e', X'.w.heap[b]? = some (.cells c' e' (0, 0)) ∧ c'.size = c.size))
theorem Ext.live {X X' : Cx} (h : Ext X X') {n g : Nat} {Q Q' : Obj → Prop} (hl : X.live n g Q)
    (hq : ∀ o o', X.O n = some o → Q o → X'.β n = X.β n → like o.body o'.body → (∀ t l, o.body.shape = some ⟨t, l⟩ → ∀ b c e, X.β n = some b → X.w.heap[b]? = some (.cells c e (0, 0)) → ∃ c' e', X'.w.heap[b]? = some (.cells c' e' (0, 0)) ∧ c'.size = c.size) → Q' o') : X'.live n g Q' := by
  obtain ⟨o, h1, h2, h3⟩ := hl
  obtain ⟨o', e1, e2, e3⟩ := h.obj n o h1
  refine ⟨o', e1, Nat.le_trans h2 e2, fun e => ?_⟩
  have eg : g = o.gen := by omega
  obtain ⟨f1, f2, f3⟩ := e3 (by omega)
  exact hq o o' h1 (h3 eg) f1 f2 f3
theorem RowH.ext {X X' : Cx} {n : Nat} {v : View} {val : Value} {o o' : Obj} (h : RowH X n v val o) (hb : X'.β n = X.β n) (hl : like o.body o'.body)
    (hs : ∀ t l, o.body.shape = some ⟨t, l⟩ → ∀ b c e, X.β n = some b → X.w.heap[b]? = some (.cells c e (0, 0)) → ∃ c' e', X'.w.heap[b]? = some (.cells c' e' (0, 0)) ∧ c'.size = c.size) : RowH X' n v val o' := by
  unfold RowH at h ⊢
  cases hsh : o.body.shape with
  | none => rw [hsh] at h; exact h.elim
  | some p =>
    obtain ⟨t, l⟩ := p
    obtain ⟨m, hm', hm⟩ := hl.shape hsh
    rw [hsh] at h
    rw [hm']
    obtain ⟨h1, a, cap, h2, h3, h4⟩ := h
    refine ⟨v.fits_len _ _ hm h1, a, cap, ?_, ?_, ?_⟩
    · rw [h2, v.len _ _ hm]
    · rw [← v.len _ _ hm]; exact h3
    · rw [hb]
      cases hbn : X.β n with
      | none =>
        rw [hbn] at h4
        obtain ⟨rfl, e1⟩ := h4
        exact ⟨List.eq_nil_of_length_eq_zero (by simpa using hm.symm), e1⟩
      | some b =>
        rw [hbn] at h4
        obtain ⟨c, e, e1, e2⟩ := h4
        obtain ⟨c', e', f1, f2⟩ := hs _ _ hsh b c e hbn e1
        exact ⟨c', e', f1, by rw [f2]; exact e2⟩
mutual
theorem HV.ext {X X' : Cx} (h : Ext X X') : ∀ {s : SV} {v : Value}, HV X s v → HV X' s v
  | .undef, _, _ => trivial
  | .nil, _, hv => hv
  | .int _ _, _, hv => hv
  | .bool _, _, hv => hv
  | .str _, _, hv => hv
  | .lst _ _, _, hv => RC.imp h.g h.agree hv
  | .arr _ _ _, _, hv => hv.elim
  | .agg fs, _, ⟨cs, e, hv⟩ => ⟨cs, e, HLs.ext h hv⟩
  | .tup vs, _, ⟨a, e, hv⟩ => ⟨a, e, HVs.ext h hv⟩
  | .ptr n g off, _, ⟨h1, hv⟩ => ⟨h1, h.live hv fun o o' _ hq hb _ _ => by rw [hb]; exact hq⟩
  | .ptrA n g off i j sz m, _, ⟨h1, hv⟩ => ⟨h1, h.live hv fun o o' _ hq hb _ _ => by rw [hb]; exact hq⟩
  | .ptrE n g i off, _, ⟨h1, hv⟩ => ⟨h1, h.live hv fun o o' _ hq hb hl _ => by
    cases hsh : o.body.shape with
    | none => rw [hsh] at hq; exact hq.elim
    | some p =>
      obtain ⟨t, l⟩ := p
      obtain ⟨m, hm', hm⟩ := hl.shape hsh
      rw [hsh] at hq
      rw [hm']
      obtain ⟨h1, b, h2, h3⟩ := hq
      exact ⟨by omega, b, by rw [hb]; exact h2, h3⟩⟩
  | .ptrF t l i off, _, ⟨h1, b, o, es, h2, h3, h4, h5⟩ => ⟨h1, b, o, es, h2, h.g _ h3, h4.imp (fun _ _ hr => RC.imp h.g h.agree hr), rangeAt_agree (h.agree _ h3) h5⟩
  | .row n g v, _, ⟨h1, hv⟩ => ⟨h1, h.live hv fun o o' _ hq hb hl hs => hq.ext hb hl hs⟩
  | .func f first caps, _, ⟨a, c, e, h1, h2⟩ => ⟨a, c, e, HVs.ext h h1, HVs.ext h h2⟩
theorem HVs.ext {X X' : Cx} (h : Ext X X') : ∀ {s : List SV} {v : List Value}, HVs X s v → HVs X' s v
  | [], _, hv => hv
  | s :: r, _, ⟨v, l', e, h1, h2⟩ => ⟨v, l', e, HV.ext h h1, HVs.ext h h2⟩
theorem HLs.ext {X X' : Cx} (h : Ext X X') : ∀ {s : List SV} {v : List Value}, HLs X s v → HLs X' s v
  | [], _, hv => by simpa only [HLs] using hv
  | s :: r, _, hv => by
    cases s with
    | arr t n x =>
      simp only [HLs] at hv ⊢
      obtain ⟨c, l', e, h1, h2⟩ := hv
      exact ⟨c, l', e, RC.imp h.g h.agree (t := .arr n t) h1, HLs.ext h h2⟩
    | _ =>
      simp only [HLs] at hv ⊢
      obtain ⟨c, l', e, h0, h1, h2⟩ := hv
      exact ⟨c, l', e, h0, HV.ext h h1, HLs.ext h h2⟩
end
theorem Ext.refl (X : Cx) : Ext X X := ⟨fun _ h => h, fun _ _ => rfl, fun n o h => ⟨o, h, Nat.le_refl _, fun _ => ⟨rfl, by
  obtain ⟨_, _, body⟩ := o; cases body <;> simp [like], fun _ _ _ b c e _ h' => ⟨c, e, h', rfl⟩⟩⟩⟩
/-! the objects as they lie -/
/-- a row of one's own, behind a slice: in a block, or in none -/
def OwnV (w : World) (G : Nat → Prop) (t : Ty) (l : List t.den) (v : Value) : Option Nat → Prop
  | none => l = [] ∧ ∃ a, v = .slice a 0 0
  | some b => ∃ cap c e es sp, v = .slice (some ⟨b, 0, none⟩) l.length cap ∧ w.heap[b]? = some (.cells c e (0, 0)) ∧ c.toList = es ++ sp ∧ Elem (RC w G t) l es ∧ c.size = cap * t.size ∧ l.length ≤ cap
theorem OwnV.imp {w w' : World} {G G' : Nat → Prop} {t : Ty} {l : List t.den} {v : Value} {b : Option Nat} (hG : ∀ b, G b → G' b) (hA : Agree G w w') (hb : ∀ k, b = some k → w'.heap[k]? = w.heap[k]?) (h : OwnV w G t l v b) : OwnV w' G' t l v b := by
  cases b with
  | none => exact h
  | some b =>
    obtain ⟨cap, c, e, es, sp, h1, h2, h3, h4, h5⟩ := h
    exact ⟨cap, c, e, es, sp, h1, (hb b rfl).trans h2, h3, h4.imp (fun _ _ h => RC.imp hG hA h), h5⟩
theorem OwnV.one {w : World} {G : Nat → Prop} {t : Ty} {l : List t.den} {v : Value} {b : Option Nat} (h : OwnV w G t l v b) : One v := by
  cases b with
  | none => obtain ⟨_, a, rfl⟩ := h; rfl
  | some b => obtain ⟨cap, c, e, es, sp, rfl, _⟩ := h; rfl
/-- the block of a row behind a slice -/
def partOf : Value → Option Nat
  | .slice a _ cap => (match cap with | 0 => none | _ + 1 => (match a with | some ⟨b, 0, none⟩ => some b | _ => none))
  | _ => none
theorem OwnV.part {w : World} {G : Nat → Prop} {t : Ty} {l : List t.den} {v : Value} {b : Option Nat} (h : OwnV w G t l v b) : OwnV w G t l v (partOf v) := by
  cases b with
  | none => obtain ⟨h1, a, rfl⟩ := h; exact ⟨h1, a, rfl⟩
  | some b =>
    have h0 := h
    obtain ⟨cap, c, e, es, sp, rfl, h1, h2, h3, h4, h5⟩ := h
    cases cap with
    | zero =>
      have hl : l = [] := List.eq_nil_of_length_eq_zero (by omega)
      subst hl
      exact ⟨rfl, _, rfl⟩
    | succ k => exact h0
theorem OwnV.part_mem {w : World} {G : Nat → Prop} {t : Ty} {l : List t.den} {v : Value} {b : Option Nat} (h : OwnV w G t l v b) {k : Nat} (hk : partOf v = some k) : b = some k := by
  cases b with
  | none => obtain ⟨h1, a, rfl⟩ := h; cases hk
  | some b =>
    obtain ⟨cap, c, e, es, sp, rfl, _⟩ := h
    cases cap with
    | zero => cases hk
    | succ _ => exact hk
/-- rows of one's own, one behind the other; one of them is elsewhere -/
def RowsV (w : World) (G : Nat → Prop) (t : Ty) : Option Nat → List (List t.den) → List Value → Prop
  | _, [], vs => vs = []
  | _, _ :: _, [] => False
  | some 0, _ :: ll, v :: vs => One v ∧ RowsV w G t none ll vs
  | some (k + 1), l :: ll, v :: vs => OwnV w G t l v (partOf v) ∧ RowsV w G t (some k) ll vs
  | none, l :: ll, v :: vs => OwnV w G t l v (partOf v) ∧ RowsV w G t none ll vs
def partsV : Option Nat → List Value → List (Option Nat)
  | _, [] => []
  | some 0, _ :: vs => none :: partsV none vs
  | some (k + 1), v :: vs => partOf v :: partsV (some k) vs
  | none, v :: vs => partOf v :: partsV none vs
theorem RowsV.imp {w w' : World} {G G' : Nat → Prop} {t : Ty} (hG : ∀ b, G b → G' b) (hA : Agree G w w') : ∀ {hole : Option Nat} {ll : List (List t.den)} {vs : List Value}, (∀ k, some k ∈ partsV hole vs → w'.heap[k]? = w.heap[k]?) → RowsV w G t hole ll vs → RowsV w' G' t hole ll vs
  | _, [], _, _, h => by simpa [RowsV] using h
  | _, _ :: _, [], _, h => by simp [RowsV] at h
  | some 0, _ :: ll, v :: vs, hb, h => by
    simp only [RowsV] at h ⊢
    exact ⟨h.1, RowsV.imp hG hA (fun k hk => hb k (by simp only [partsV]; exact List.mem_cons_of_mem _ hk)) h.2⟩
  | some (j + 1), l :: ll, v :: vs, hb, h => by
    simp only [RowsV] at h ⊢
    exact ⟨h.1.imp hG hA (fun k hk => hb k (by simp only [partsV, hk]; exact List.mem_cons_self)), RowsV.imp hG hA (fun k hk => hb k (by simp only [partsV]; exact List.mem_cons_of_mem _ hk)) h.2⟩
  | none, l :: ll, v :: vs, hb, h => by
    simp only [RowsV] at h ⊢
    exact ⟨h.1.imp hG hA (fun k hk => hb k (by simp only [partsV, hk]; exact List.mem_cons_self)), RowsV.imp hG hA (fun k hk => hb k (by simp only [partsV]; exact List.mem_cons_of_mem _ hk)) h.2⟩
theorem RowsV.len {w : World} {G : Nat → Prop} {t : Ty} : ∀ {hole : Option Nat} {ll : List (List t.den)} {vs : List Value}, RowsV w G t hole ll vs → vs.length = ll.length
  | _, [], _, h => by simp only [RowsV] at h; subst h; rfl
  | _, _ :: _, [], h => by simp [RowsV] at h
  | some 0, _ :: ll, v :: vs, h => by simp only [RowsV] at h; simp [h.2.len]
  | some (j + 1), l :: ll, v :: vs, h => by simp only [RowsV] at h; simp [h.2.len]
  | none, l :: ll, v :: vs, h => by simp only [RowsV] at h; simp [h.2.len]
/-- the blocks of the rows that an object owns beside its own -/
def Cx.parts (X : Cx) (n : Nat) : List (Option Nat) :=
  match X.O n with
  | some ⟨_, fr, bd⟩ => (match bd with
    | .rows _ ll hole _ => (match fr with
      | false => (match X.β n with
        | some m => (match X.w.heap[m]? with | some (.cells c _ _) => partsV hole (c.toList.take ll.length) | _ => [])
        | none => [])
      | true => [])
    | _ => [])
  | none => []
theorem parts_eq {X X' : Cx} {n : Nat} (hO : X'.O n = X.O n) (hβ : X'.β n = X.β n) (hh : ∀ b o, X.O n = some o → o.frozen = false → X.β n = some b → X'.w.heap[b]? = X.w.heap[b]?) : X'.parts n = X.parts n := by
  unfold Cx.parts
  rw [hO, hβ]
  cases ho : X.O n with
  | none => rfl
  | some o =>
    obtain ⟨g, fr, bd⟩ := o
    cases bd with
    | box _ => rfl
    | row _ _ => rfl
    | rows _ _ _ _ =>
      cases fr with
      | true => rfl
      | false =>
        cases hb : X.β n with
        | none => rfl
        | some m => simp only [hh _ _ ho rfl hb]
theorem parts_row {X : Cx} {n g : Nat} {fr : Bool} {t : Ty} {l : List t.den} (h : X.O n = some ⟨g, fr, .row t l⟩) : X.parts n = [] := by
  unfold Cx.parts; rw [h]
theorem parts_of {X : Cx} {n : Nat} {o : Obj} (h : X.O n = some o) (hb : o.body.isRows = false) : X.parts n = [] := by
  obtain ⟨g, fr, bd⟩ := o
  unfold Cx.parts; rw [h]
  cases bd with
  | box _ => rfl
  | row _ _ => rfl
  | rows _ _ _ _ => cases hb
theorem parts_frozen {X : Cx} {n : Nat} {o : Obj} (h : X.O n = some o) (hb : o.frozen = true) : X.parts n = [] := by
  obtain ⟨g, fr, bd⟩ := o
  cases hb
  unfold Cx.parts; rw [h]
  cases bd <;> rfl
theorem parts_obj {X : Cx} {n b : Nat} (h : some b ∈ X.parts n) : ∃ o, X.O n = some o ∧ o.frozen = false ∧ ∃ m, X.β n = some m := by
  unfold Cx.parts at h
  cases ho : X.O n with
  | none => rw [ho] at h; cases h
  | some o =>
    obtain ⟨g, fr, bd⟩ := o
    rw [ho] at h
    cases bd with
    | box _ => cases h
    | row _ _ => cases h
    | rows _ _ _ _ =>
      cases fr with
      | true => cases h
      | false =>
        cases hb : X.β n with
        | none => rw [hb] at h; cases h
        | some m => exact ⟨_, rfl, rfl, m, rfl⟩
theorem parts_none {X : Cx} {n : Nat} (h : X.O n = none) : X.parts n = [] := by
  unfold Cx.parts; rw [h]
/-- who has the row that is elsewhere -/
def BkH (X : Cx) (hole : Option Nat) (len : Nat) (bk : SV) (vs : List Value) : Prop := ∀ i, hole = some i → i < len ∧ ∀ v, vs[i]? = some v → HV X bk v
theorem BkH.ext {X X' : Cx} (h : Ext X X') {hole : Option Nat} {len : Nat} {bk : SV} {vs : List Value} (hb : BkH X hole len bk vs) : BkH X' hole len bk vs := fun i hi => ⟨(hb i hi).1, fun v hv => ((hb i hi).2 v hv).ext h⟩
theorem BkH.none {X : Cx} {len : Nat} {bk : SV} {vs : List Value} : BkH X none len bk vs := fun i hi => by cases hi
def ObjH (X : Cx) (n : Nat) (o : Obj) : Prop :=
  match o.body with
  | .box cs => ∃ b c e, X.β n = some b ∧ X.w.heap[b]? = some (.cells c e (0, 0)) ∧ HLs X cs c.toList
  | .row t l => match X.β n with
    | none => l = []
    | some b => ∃ c e es sp cap, X.w.heap[b]? = some (.cells c e (0, 0)) ∧ c.toList = es ++ sp ∧ Elem (RC X.w X.G t) l es ∧ c.size = cap * t.size ∧ l.length ≤ cap
  | .rows t ll hole bk => o.frozen = false ∧ ∃ b c e vs sp, X.β n = some b ∧ X.w.heap[b]? = some (.cells c e (0, 0)) ∧ c.toList = vs ++ sp ∧ RowsV X.w X.G t hole ll vs ∧ (somes (partsV hole vs)).Nodup ∧ BkH X hole ll.length bk vs
theorem parts_rows {X : Cx} {n g : Nat} {t : Ty} {ll : List (List t.den)} {hole : Option Nat} {bk : SV} (h : X.O n = some ⟨g, false, .rows t ll hole bk⟩) {b : Nat} {c : Array Value} {e : TypeId} {fr : Nat × Nat} (hb : X.β n = some b) (hc : X.w.heap[b]? = some (.cells c e fr)) {vs sp : List Value} (hv : c.toList = vs ++ sp) (hl : vs.length = ll.length) : X.parts n = partsV hole vs := by
  unfold Cx.parts
  rw [h, hb]
  simp only [hc]
  rw [hv, ← hl, List.take_left]
/-- the world at the beginning; what may be looked at of it; what may be turned of it -/
structure Base where
  w0 : World
  G0 : Nat → Prop
  Im : Nat → Prop
/-- are draws counted? (Where a contract of the shelf wants it of a function.) -/
class Str where
  s : Bool
instance (priority := low) loose : Str := ⟨false⟩
/-- the tape is the same one, and it was not wound back -/
def Td [Str] (a b : World) : Prop := a.tape = b.tape ∧ (Str.s = true → b.drawn ≤ a.drawn)
theorem Td.refl [Str] (a : World) : Td a a := ⟨rfl, fun _ => Nat.le_refl _⟩
theorem Td.trans [Str] {a b c : World} (h : Td a b) (k : Td b c) : Td a c := ⟨h.1.trans k.1, fun e => Nat.le_trans (k.2 e) (h.2 e)⟩
theorem Td.drew [Str] (a : World) : Td { a with drawn := a.drawn + 1 } a := ⟨rfl, fun _ => Nat.le_succ _⟩
/-- all is as it is told, but for what N names -/
structure GoodX [Str] (N : Nat → Prop) (B : Base) (X : Cx) : Prop where
  os : X.w.os = B.w0.os
  tape : Td X.w B.w0
  output : X.w.output = B.w0.output
  size : B.w0.heap.size ≤ X.w.heap.size
  old : ∀ b, b < B.w0.heap.size → ¬ B.Im b → X.w.heap[b]? = B.w0.heap[b]?
  g0 : ∀ b, B.G0 b → X.G b
  glt : ∀ b, X.G b → b < X.w.heap.size
  gfrom : ∀ b, X.G b → B.G0 b ∨ B.Im b ∨ B.w0.heap.size ≤ b
  ownx : ∀ n o b, ¬ N n → X.O n = some o → o.frozen = false → X.β n = some b → ¬ X.G b ∧ (B.Im b ∨ B.w0.heap.size ≤ b)
  injx : ∀ n m o p b, ¬ N n → ¬ N m → X.O n = some o → X.O m = some p → o.frozen = false → p.frozen = false → X.β n = some b → X.β m = some b → n = m
  frzx : ∀ n o b, ¬ N n → X.O n = some o → o.frozen = true → X.β n = some b → X.G b
  ltx : ∀ n o b, ¬ N n → X.O n = some o → X.β n = some b → b < X.w.heap.size
  objx : ∀ n o, ¬ N n → X.O n = some o → ObjH X n o
  partx : ∀ n b, ¬ N n → some b ∈ X.parts n → ¬ X.G b ∧ (B.Im b ∨ B.w0.heap.size ≤ b) ∧ b < X.w.heap.size ∧ (∀ m o, ¬ N m → X.O m = some o → o.frozen = false → X.β m ≠ some b) ∧ ∀ m, ¬ N m → some b ∈ X.parts m → m = n
abbrev Good [Str] (B : Base) (X : Cx) : Prop := GoodX (fun _ => False) B X
section
variable [Str] {B : Base} {X : Cx} (h : Good B X)
include h
theorem GoodX.obj (n : Nat) (o : Obj) (ho : X.O n = some o) : ObjH X n o := h.objx n o (fun h => h) ho
theorem GoodX.own (n : Nat) (o : Obj) (b : Nat) : X.O n = some o → o.frozen = false → X.β n = some b → ¬ X.G b ∧ (B.Im b ∨ B.w0.heap.size ≤ b) := h.ownx n o b (fun h => h)
theorem GoodX.inj (n m : Nat) (o p : Obj) (b : Nat) : X.O n = some o → X.O m = some p → o.frozen = false → p.frozen = false → X.β n = some b → X.β m = some b → n = m := h.injx n m o p b (fun h => h) (fun h => h)
theorem GoodX.frz (n : Nat) (o : Obj) (b : Nat) : X.O n = some o → o.frozen = true → X.β n = some b → X.G b := h.frzx n o b (fun h => h)
theorem GoodX.lt (n : Nat) (o : Obj) (b : Nat) : X.O n = some o → X.β n = some b → b < X.w.heap.size := h.ltx n o b (fun h => h)
theorem GoodX.part (n b : Nat) (hb : some b ∈ X.parts n) : ¬ X.G b ∧ (B.Im b ∨ B.w0.heap.size ≤ b) ∧ b < X.w.heap.size ∧ (∀ m o, X.O m = some o → o.frozen = false → X.β m ≠ some b) ∧ ∀ m, some b ∈ X.parts m → m = n := by
  obtain ⟨h1, h2, h3, h4, h5⟩ := h.partx n b (fun h => h) hb
  exact ⟨h1, h2, h3, fun m o => h4 m o (fun h => h), fun m => h5 m (fun h => h)⟩
end
theorem lt_of_heap {w : World} {b : Nat} {o : Go.Obj} (h : w.heap[b]? = some o) : b < w.heap.size := by
  rcases Nat.lt_or_ge b w.heap.size with h' | h'
  · exact h'
  · rw [Array.getElem?_eq_none h'] at h; cases h
theorem ObjH.lt [Str] {X : Cx} {n : Nat} {o : Obj} {b : Nat} (h : ObjH X n o) (hb : X.β n = some b) : b < X.w.heap.size := by
  obtain ⟨gen, fr, body⟩ := o
  cases body with
  | box cs =>
    obtain ⟨b', c, e, h1, h2, _⟩ := h
    rw [hb] at h1; cases h1
    exact lt_of_heap h2
  | row t l =>
    simp only [ObjH, hb] at h
    obtain ⟨c, e, _, _, _, h2, _⟩ := h
    exact lt_of_heap h2
  | rows t l hole bk =>
    obtain ⟨_, b', c, e, _, _, h1, h2, _⟩ := h
    rw [hb] at h1; cases h1
    exact lt_of_heap h2
theorem ObjH.ext {X X' : Cx} (h : Ext X X') {n : Nat} {o : Obj} (hon : X.O n = some o) (ho : ObjH X n o) (hb : X'.β n = X.β n) (hh : ∀ b, X.β n = some b → X'.w.heap[b]? = X.w.heap[b]?) (hp : ∀ b, some b ∈ X.parts n → X'.w.heap[b]? = X.w.heap[b]?) : ObjH X' n o := by
  obtain ⟨gen, fr, body⟩ := o
  cases body with
  | box cs =>
    obtain ⟨b, c, e, h1, h2, h3⟩ := ho
    exact ⟨b, c, e, hb.trans h1, (hh b h1).trans h2, h3.ext h⟩
  | row t l =>
    simp only [ObjH, hb] at ho ⊢
    cases hbn : X.β n with
    | none => rw [hbn] at ho; exact ho
    | some b =>
      rw [hbn] at ho
      obtain ⟨c, e, es, sp, cap, h2, h3, h4, h5⟩ := ho
      exact ⟨c, e, es, sp, cap, (hh b hbn).trans h2, h3, h4.imp (fun _ _ hr => RC.imp h.g h.agree hr), h5⟩
  | rows t ll hole bk =>
    obtain ⟨h0, b, c, e, vs, sp, h1, h2, h3, h4, h5, h6⟩ := ho
    dsimp only at h0
    subst h0
    rw [parts_rows hon h1 h2 h3 h4.len] at hp
    exact ⟨rfl, b, c, e, vs, sp, hb.trans h1, (hh b h1).trans h2, h3, h4.imp h.g h.agree hp, h5, h6.ext h⟩
theorem ObjH.body {X : Cx} {n : Nat} {o o' : Obj} (h : ObjH X n o) (hb : o'.body = o.body) (hr : o.body.isRows = false) : ObjH X n o' := by
  unfold ObjH at h ⊢
  rw [hb]
  cases hbd : o.body with
  | box _ => rw [hbd] at h; exact h
  | row _ _ => rw [hbd] at h; exact h
  | rows _ _ _ _ => rw [hbd] at hr; cases hr
def setB (β : Nat → Option Nat) (n : Nat) (b : Option Nat) : Nat → Option Nat := fun x => if x = n then b else β x
theorem setB_same (β : Nat → Option Nat) (n : Nat) (b : Option Nat) : setB β n b n = b := by simp [setB]
theorem setB_ne (β : Nat → Option Nat) {n m : Nat} (b : Option Nat) (h : m ≠ n) : setB β n b m = β m := by simp [setB, h]
theorem set_same (O : Objs) (n : Nat) (o : Obj) : O.set n o n = some o := by simp [Objs.set]
theorem beq_false {x n : Nat} (h : x ≠ n) : Nat.beq x n = false := by
  cases hb : Nat.beq x n with
  | false => rfl
  | true => exact absurd (Nat.eq_of_beq_eq_true hb) h
theorem set_ne [Str] (O : Objs) {n m : Nat} (o : Obj) (h : m ≠ n) : O.set n o m = O m := by simp [Objs.set, beq_false h]
/-- one object is new, or turned -/
theorem Good.atR [Str] {B : Base} {X : Cx} (h : Good B X) (n : Nat) (o' : Obj) (b' : Option Nat) (w' : World) (hos : w'.os = X.w.os) (hta : Td w' X.w) (hou : w'.output = X.w.output) (hsz : X.w.heap.size ≤ w'.heap.size)
    (hold : ∀ o, X.O n = some o → o.frozen = false)
    (hheap : ∀ b, b < X.w.heap.size → (∀ o, X.O n = some o → X.β n ≠ some b) → w'.heap[b]? = X.w.heap[b]?)
    (hb' : ∀ b, b' = some b → (∃ o, X.O n = some o ∧ X.β n = some b) ∨ X.w.heap.size ≤ b)
    (hgen : ∀ o, X.O n = some o → o.gen < o'.gen ∨ (o.gen = o'.gen ∧ b' = X.β n ∧ like o.body o'.body ∧ (∀ b c e, X.β n = some b → X.w.heap[b]? = some (.cells c e (0, 0)) → ∃ c' e', w'.heap[b]? = some (.cells c' e' (0, 0)) ∧ c'.size = c.size)))
    (hfr : o'.frozen = false) (hobj : Ext X ⟨w', X.G, setB X.β n b', X.O.set n o'⟩ → ObjH ⟨w', X.G, setB X.β n b', X.O.set n o'⟩ n o')
    (hpart : ∀ b, some b ∈ Cx.parts ⟨w', X.G, setB X.β n b', X.O.set n o'⟩ n → ¬ X.G b ∧ (B.Im b ∨ B.w0.heap.size ≤ b) ∧ b < w'.heap.size ∧ b' ≠ some b ∧ (∀ m o, m ≠ n → X.O m = some o → o.frozen = false → X.β m ≠ some b) ∧ ∀ m, m ≠ n → some b ∉ X.parts m) :
    Good B ⟨w', X.G, setB X.β n b', X.O.set n o'⟩ ∧ Ext X ⟨w', X.G, setB X.β n b', X.O.set n o'⟩ := by
  have hnG : ∀ b, X.G b → w'.heap[b]? = X.w.heap[b]? := fun b hb => hheap b (h.glt b hb) (fun o ho hbn => (h.own n o b ho (hold o ho) hbn).1 hb)
  have hsame : ∀ m p b, X.O m = some p → m ≠ n → X.β m = some b → w'.heap[b]? = X.w.heap[b]? := fun m p b hm hne hbm => by
    refine hheap b (h.lt m p b hm hbm) (fun o ho hbn => ?_)
    cases hp : p.frozen with
    | false => exact hne (h.inj m n p o b hm ho hp (hold o ho) hbm hbn)
    | true => exact (h.own n o b ho (hold o ho) hbn).1 (h.frz m p b hm hp hbm)
  have hps : ∀ m b, some b ∈ X.parts m → w'.heap[b]? = X.w.heap[b]? := fun m b hb => by
    obtain ⟨_, _, h3, h4, _⟩ := h.part m b hb
    exact hheap b h3 (fun o ho => h4 n o ho (hold o ho))
  have hpe : ∀ m, m ≠ n → Cx.parts ⟨w', X.G, setB X.β n b', X.O.set n o'⟩ m = X.parts m := fun m hm => parts_eq (set_ne _ _ hm) (setB_ne _ _ hm) (fun b o ho _ hb => hsame m o b ho hm hb)
  have hE : Ext X ⟨w', X.G, setB X.β n b', X.O.set n o'⟩ := by
    refine ⟨fun _ hb => hb, hnG, fun m p hm => ?_⟩
    by_cases hmn : m = n
    · subst hmn
      refine ⟨o', set_same _ _ _, ?_, fun e => ?_⟩
      · rcases hgen p hm with hlt | ⟨e, _⟩ <;> omega
      · rcases hgen p hm with hlt | ⟨_, e1, e2, e3⟩
        · omega
        · exact ⟨by simp only [setB_same]; exact e1, e2, fun _ _ _ => e3⟩
    · refine ⟨p, by simp only [set_ne _ _ hmn]; exact hm, Nat.le_refl _, fun _ => ⟨setB_ne _ _ hmn, by cases hp : p.body <;> simp [like], fun _ _ _ b c e hb hc => ⟨c, e, ?_, rfl⟩⟩⟩
      exact (hsame m p b hm hmn hb).trans hc
  refine ⟨⟨hos.trans h.os, hta.trans h.tape, hou.trans h.output, Nat.le_trans h.size hsz, ?_, h.g0, fun b hb => Nat.lt_of_lt_of_le (h.glt b hb) hsz, h.gfrom, ?_, ?_, ?_, ?_, ?_, ?_⟩, hE⟩
  · intro b hb hi
    refine (hheap b (Nat.lt_of_lt_of_le hb h.size) (fun o ho hbn => ?_)).trans (h.old b hb hi)
    rcases (h.own n o b ho (hold o ho) hbn).2 with h1 | h1
    · exact hi h1
    · omega
  · intro m p b _ hm hp hbm
    by_cases hmn : m = n
    · subst hmn
      simp only [setB_same] at hbm
      rcases hb' b hbm with ⟨o, ho, hbn⟩ | hlt
      · exact h.own m o b ho (hold o ho) hbn
      · exact ⟨fun hg => by have := h.glt b hg; omega, .inr (Nat.le_trans h.size hlt)⟩
    · simp only [set_ne _ _ hmn] at hm
      simp only [setB_ne _ _ hmn] at hbm
      exact h.own m p b hm hp hbm
  · intro m k p q b _ _ hm hk hp hq hbm hbk
    by_cases hmn : m = n
    · by_cases hkn : k = n
      · rw [hmn, hkn]
      · subst hmn
        simp only [setB_same] at hbm
        simp only [set_ne _ _ hkn] at hk
        simp only [setB_ne _ _ hkn] at hbk
        rcases hb' b hbm with ⟨o, ho, hbn⟩ | hlt
        · exact h.inj m k o q b ho hk (hold o ho) hq hbn hbk
        · have := h.lt k q b hk hbk
          omega
    · simp only [set_ne _ _ hmn] at hm
      simp only [setB_ne _ _ hmn] at hbm
      by_cases hkn : k = n
      · subst hkn
        simp only [setB_same] at hbk
        rcases hb' b hbk with ⟨o, ho, hbn⟩ | hlt
        · exact h.inj m k p o b hm ho hp (hold o ho) hbm hbn
        · have := h.lt m p b hm hbm
          omega
      · simp only [set_ne _ _ hkn] at hk
        simp only [setB_ne _ _ hkn] at hbk
        exact h.inj m k p q b hm hk hp hq hbm hbk
  · intro m p b _ hm hp hbm
    by_cases hmn : m = n
    · subst hmn
      simp only [set_same] at hm
      cases hm
      rw [hfr] at hp; cases hp
    · simp only [set_ne _ _ hmn] at hm
      simp only [setB_ne _ _ hmn] at hbm
      exact h.frz m p b hm hp hbm
  · intro m p b _ hm hbm
    by_cases hmn : m = n
    · subst hmn
      simp only [setB_same] at hbm
      exact (hobj hE).lt (by simpa only [setB_same] using hbm)
    · simp only [set_ne _ _ hmn] at hm
      simp only [setB_ne _ _ hmn] at hbm
      exact Nat.lt_of_lt_of_le (h.lt m p b hm hbm) hsz
  · intro m p _ hm
    by_cases hmn : m = n
    · subst hmn
      simp only [set_same] at hm
      cases hm
      exact hobj hE
    · simp only [set_ne _ _ hmn] at hm
      exact (h.obj m p hm).ext hE hm (setB_ne _ _ hmn) (fun b hb => hsame m p b hm hmn hb) (fun b hb => hps m b hb)
  · intro m b _ hm
    by_cases hmn : m = n
    · subst hmn
      obtain ⟨h1, h2, h3, h4, h5, h6⟩ := hpart b hm
      refine ⟨h1, h2, h3, fun k o _ ho hf => ?_, fun k _ hk => ?_⟩
      · by_cases hkn : k = m
        · subst hkn; simp only [setB_same]; exact h4
        · simp only [set_ne _ _ hkn] at ho
          simp only [setB_ne _ _ hkn]
          exact h5 k o hkn ho hf
      · by_cases hkn : k = m
        · exact hkn
        · rw [hpe k hkn] at hk
          exact absurd hk (h6 k hkn)
    · have hm0 := hm
      rw [hpe m hmn] at hm
      obtain ⟨h1, h2, h3, h4, h5⟩ := h.part m b hm
      refine ⟨h1, h2, Nat.lt_of_lt_of_le h3 hsz, fun k o _ ho hf => ?_, fun k _ hk => ?_⟩
      · by_cases hkn : k = n
        · subst hkn
          simp only [setB_same]
          intro hbb
          rcases hb' b hbb with ⟨o2, ho2, hbn⟩ | hlt
          · exact h4 k o2 ho2 (hold o2 ho2) hbn
          · omega
        · simp only [set_ne _ _ hkn] at ho
          simp only [setB_ne _ _ hkn]
          exact h4 k o ho hf
      · by_cases hkn : k = n
        · subst hkn
          exact absurd hm ((hpart b hk).2.2.2.2.2 m hmn)
        · rw [hpe k hkn] at hk
          exact h5 k hk
theorem Good.at [Str] {B : Base} {X : Cx} (h : Good B X) (n : Nat) (o' : Obj) (b' : Option Nat) (w' : World) (hos : w'.os = X.w.os) (hta : Td w' X.w) (hou : w'.output = X.w.output) (hsz : X.w.heap.size ≤ w'.heap.size)
    (hold : ∀ o, X.O n = some o → o.frozen = false)
    (hheap : ∀ b, b < X.w.heap.size → (∀ o, X.O n = some o → X.β n ≠ some b) → w'.heap[b]? = X.w.heap[b]?)
    (hb' : ∀ b, b' = some b → (∃ o, X.O n = some o ∧ X.β n = some b) ∨ X.w.heap.size ≤ b)
    (hgen : ∀ o, X.O n = some o → o.gen < o'.gen ∨ (o.gen = o'.gen ∧ b' = X.β n ∧ like o.body o'.body ∧ (∀ b c e, X.β n = some b → X.w.heap[b]? = some (.cells c e (0, 0)) → ∃ c' e', w'.heap[b]? = some (.cells c' e' (0, 0)) ∧ c'.size = c.size)))
    (hfr : o'.frozen = false) (hobj : Ext X ⟨w', X.G, setB X.β n b', X.O.set n o'⟩ → ObjH ⟨w', X.G, setB X.β n b', X.O.set n o'⟩ n o') (hr : o'.body.isRows = false) :
    Good B ⟨w', X.G, setB X.β n b', X.O.set n o'⟩ ∧ Ext X ⟨w', X.G, setB X.β n b', X.O.set n o'⟩ :=
  h.atR n o' b' w' hos hta hou hsz hold hheap hb' hgen hfr hobj (fun b hb => by
    rw [parts_of (o := o') (set_same _ _ _) hr] at hb; cases hb)
theorem Good.freeze [Str] {B : Base} {X : Cx} (h : Good B X) (n : Nat) (o : Obj) (ho : X.O n = some o) (hr : o.body.isRows = false) :
    Good B ⟨X.w, fun b => X.G b ∨ X.β n = some b, X.β, X.O.set n ⟨o.gen, true, o.body⟩⟩ ∧ Ext X ⟨X.w, fun b => X.G b ∨ X.β n = some b, X.β, X.O.set n ⟨o.gen, true, o.body⟩⟩ := by
  have hE : Ext X ⟨X.w, fun b => X.G b ∨ X.β n = some b, X.β, X.O.set n ⟨o.gen, true, o.body⟩⟩ := by
    refine ⟨fun _ hb => .inl hb, fun _ _ => rfl, fun m p hm => ?_⟩
    have hlike : like p.body p.body := by cases p.body <;> simp [like]
    by_cases hmn : m = n
    · subst hmn
      rw [ho] at hm; cases hm
      exact ⟨_, set_same _ _ _, Nat.le_refl _, fun _ => ⟨rfl, hlike, fun _ _ _ b c e _ hc => ⟨c, e, hc, rfl⟩⟩⟩
    · exact ⟨p, by simp only [set_ne _ _ hmn]; exact hm, Nat.le_refl _, fun _ => ⟨rfl, hlike, fun _ _ _ b c e _ hc => ⟨c, e, hc, rfl⟩⟩⟩
  refine ⟨⟨h.os, h.tape, h.output, h.size, h.old, fun b hb => .inl (h.g0 b hb), ?_, ?_, ?_, ?_, ?_, ?_, ?_, ?_⟩, hE⟩
  · rintro b (hb | hb)
    · exact h.glt b hb
    · exact h.lt n o b ho hb
  · rintro b (hb | hb)
    · exact h.gfrom b hb
    · cases hf : o.frozen with
      | false => exact .inr (h.own n o b ho hf hb).2
      | true => exact h.gfrom b (h.frz n o b ho hf hb)
  · intro m p b _ hm hp hbm
    by_cases hmn : m = n
    · subst hmn
      simp only [set_same] at hm
      cases hm
      cases hp
    · simp only [set_ne _ _ hmn] at hm
      refine ⟨?_, (h.own m p b hm hp hbm).2⟩
      rintro (hb | hb)
      · exact (h.own m p b hm hp hbm).1 hb
      · cases hf : o.frozen with
        | false => exact hmn (h.inj m n p o b hm ho hp hf hbm hb)
        | true => exact (h.own m p b hm hp hbm).1 (h.frz n o b ho hf hb)
  · intro m k p q b _ _ hm hk hp hq hbm hbk
    by_cases hmn : m = n
    · subst hmn
      simp only [set_same] at hm
      cases hm
      cases hp
    · by_cases hkn : k = n
      · subst hkn
        simp only [set_same] at hk
        cases hk
        cases hq
      · simp only [set_ne _ _ hmn] at hm
        simp only [set_ne _ _ hkn] at hk
        exact h.inj m k p q b hm hk hp hq hbm hbk
  · intro m p b _ hm hp hbm
    by_cases hmn : m = n
    · subst hmn; exact .inr hbm
    · simp only [set_ne _ _ hmn] at hm
      exact .inl (h.frz m p b hm hp hbm)
  · intro m p b _ hm hbm
    by_cases hmn : m = n
    · subst hmn; exact h.lt m o b ho hbm
    · simp only [set_ne _ _ hmn] at hm
      exact h.lt m p b hm hbm
  · intro m p _ hm
    by_cases hmn : m = n
    · subst hmn
      simp only [set_same] at hm
      cases hm
      exact ((h.obj m o ho).ext hE ho rfl (fun _ _ => rfl) (fun _ _ => rfl)).body rfl hr
    · simp only [set_ne _ _ hmn] at hm
      exact (h.obj m p hm).ext hE hm rfl (fun _ _ => rfl) (fun _ _ => rfl)
  · have hpe : ∀ m, Cx.parts ⟨X.w, fun b => X.G b ∨ X.β n = some b, X.β, X.O.set n ⟨o.gen, true, o.body⟩⟩ m = X.parts m := fun m => by
      by_cases hmn : m = n
      · subst hmn; rw [parts_of ho hr]; exact parts_frozen (o := ⟨o.gen, true, o.body⟩) (set_same _ _ _) rfl
      · exact parts_eq (set_ne _ _ hmn) rfl (fun _ _ _ _ _ => rfl)
    intro m b _ hm
    rw [hpe m] at hm
    obtain ⟨h1, h2, h3, h4, h5⟩ := h.part m b hm
    refine ⟨?_, h2, h3, fun k p _ hk hf => ?_, fun k _ hk => h5 k (by rw [hpe k] at hk; exact hk)⟩
    · rintro (hb | hb)
      · exact h1 hb
      · cases hf : o.frozen with
        | false => exact h4 n o ho hf hb
        | true => exact h1 (h.frz n o b ho hf hb)
    · by_cases hkn : k = n
      · subst hkn
        simp only [set_same] at hk
        cases hk; cases hf
      · simp only [set_ne _ _ hkn] at hk
        exact h4 k p hk hf
theorem Good.kill [Str] {B : Base} {X : Cx} (h : Good B X) (n : Nat) (o : Obj) (ho : X.O n = some o) :
    Good B ⟨X.w, X.G, setB X.β n none, X.O.set n ⟨Nat.succ o.gen, true, .row .unit []⟩⟩ ∧ Ext X ⟨X.w, X.G, setB X.β n none, X.O.set n ⟨Nat.succ o.gen, true, .row .unit []⟩⟩ := by
  have hE : Ext X ⟨X.w, X.G, setB X.β n none, X.O.set n ⟨Nat.succ o.gen, true, .row .unit []⟩⟩ := by
    refine ⟨fun _ hb => hb, fun _ _ => rfl, fun m p hm => ?_⟩
    have hlike : like p.body p.body := by cases p.body <;> simp [like]
    by_cases hmn : m = n
    · subst hmn
      rw [ho] at hm; cases hm
      exact ⟨_, set_same _ _ _, Nat.le_succ _, fun e => by simp at e⟩
    · exact ⟨p, by simp only [set_ne _ _ hmn]; exact hm, Nat.le_refl _, fun _ => ⟨setB_ne _ _ hmn, hlike, fun _ _ _ b c e _ hc => ⟨c, e, hc, rfl⟩⟩⟩
  refine ⟨⟨h.os, h.tape, h.output, h.size, h.old, h.g0, h.glt, h.gfrom, ?_, ?_, ?_, ?_, ?_, ?_⟩, hE⟩
  · intro m p b _ hm hp hbm
    by_cases hmn : m = n
    · subst hmn; simp [setB_same] at hbm
    · simp only [set_ne _ _ hmn] at hm
      simp only [setB_ne _ _ hmn] at hbm
      exact h.own m p b hm hp hbm
  · intro m k p q b _ _ hm hk hp hq hbm hbk
    by_cases hmn : m = n
    · subst hmn; simp [setB_same] at hbm
    · by_cases hkn : k = n
      · subst hkn; simp [setB_same] at hbk
      · simp only [set_ne _ _ hmn] at hm
        simp only [set_ne _ _ hkn] at hk
        simp only [setB_ne _ _ hmn] at hbm
        simp only [setB_ne _ _ hkn] at hbk
        exact h.inj m k p q b hm hk hp hq hbm hbk
  · intro m p b _ hm hp hbm
    by_cases hmn : m = n
    · subst hmn; simp [setB_same] at hbm
    · simp only [set_ne _ _ hmn] at hm
      simp only [setB_ne _ _ hmn] at hbm
      exact h.frz m p b hm hp hbm
  · intro m p b _ hm hbm
    by_cases hmn : m = n
    · subst hmn; simp [setB_same] at hbm
    · simp only [set_ne _ _ hmn] at hm
      simp only [setB_ne _ _ hmn] at hbm
      exact h.lt m p b hm hbm
  · intro m p _ hm
    by_cases hmn : m = n
    · subst hmn
      simp only [set_same] at hm
      cases hm
      simp [ObjH, setB_same]
    · simp only [set_ne _ _ hmn] at hm
      exact (h.obj m p hm).ext hE hm (setB_ne _ _ hmn) (fun _ _ => rfl) (fun _ _ => rfl)
  · have hpn : Cx.parts ⟨X.w, X.G, setB X.β n none, X.O.set n ⟨Nat.succ o.gen, true, .row .unit []⟩⟩ n = [] := parts_row (set_same _ _ _)
    have hpe : ∀ m, m ≠ n → Cx.parts ⟨X.w, X.G, setB X.β n none, X.O.set n ⟨Nat.succ o.gen, true, .row .unit []⟩⟩ m = X.parts m := fun m hmn => parts_eq (set_ne _ _ hmn) (setB_ne _ _ hmn) (fun _ _ _ _ _ => rfl)
    intro m b _ hm
    by_cases hmn : m = n
    · subst hmn; rw [hpn] at hm; cases hm
    · rw [hpe m hmn] at hm
      obtain ⟨h1, h2, h3, h4, h5⟩ := h.part m b hm
      refine ⟨h1, h2, h3, fun k p _ hk hf => ?_, fun k _ hk => ?_⟩
      · by_cases hkn : k = n
        · subst hkn; simp only [setB_same]; intro h; cases h
        · simp only [set_ne _ _ hkn] at hk
          simp only [setB_ne _ _ hkn]
          exact h4 k p hk hf
      · by_cases hkn : k = n
        · subst hkn; rw [hpn] at hk; cases hk
        · rw [hpe k hkn] at hk; exact h5 k hk
theorem Good.world [Str] {B : Base} {X : Cx} (h : Good B X) (w' : World) (hh : w'.heap = X.w.heap) (hos : w'.os = X.w.os) (hta : Td w' X.w) (hou : w'.output = X.w.output) :
    Good B ⟨w', X.G, X.β, X.O⟩ ∧ Ext X ⟨w', X.G, X.β, X.O⟩ := by
  have hE : Ext X ⟨w', X.G, X.β, X.O⟩ := by
    refine ⟨fun _ hb => hb, fun _ _ => by rw [hh], fun m p hm => ⟨p, hm, Nat.le_refl _, fun _ => ⟨rfl, by cases p.body <;> simp [like], fun _ _ _ b c e _ hc => ⟨c, e, by rw [hh]; exact hc, rfl⟩⟩⟩⟩
  exact ⟨⟨hos.trans h.os, hta.trans h.tape, hou.trans h.output, by rw [hh]; exact h.size, fun b => by rw [hh]; exact h.old b, h.g0, fun b => by rw [hh]; exact h.glt b, h.gfrom, h.ownx, h.injx, h.frzx, fun m p b _ hm hb => by rw [hh]; exact h.lt m p b hm hb,
    fun m p _ hm => (h.obj m p hm).ext hE hm rfl (fun _ _ => by rw [hh]) (fun _ _ => by rw [hh]), fun m b _ hm => by
      have hpe : ∀ m, Cx.parts ⟨w', X.G, X.β, X.O⟩ m = X.parts m := fun m => parts_eq rfl rfl (fun _ _ _ _ _ => by rw [hh])
      rw [hpe m] at hm
      obtain ⟨h1, h2, h3, h4, h5⟩ := h.part m b hm
      exact ⟨h1, h2, by rw [hh]; exact h3, fun k p _ => h4 k p, fun k _ hk => h5 k (by rw [hpe k] at hk; exact hk)⟩⟩, hE⟩
theorem Ext.trans {X Y Z : Cx} (h : Ext X Y) (k : Ext Y Z) : Ext X Z := by
  refine ⟨fun b hb => k.g b (h.g b hb), fun b hb => (k.agree b (h.g b hb)).trans (h.agree b hb), fun n o ho => ?_⟩
  obtain ⟨p, hp, h1, h2⟩ := h.obj n o ho
  obtain ⟨q, hq, k1, k2⟩ := k.obj n p hp
  refine ⟨q, hq, Nat.le_trans h1 k1, fun e => ?_⟩
  obtain ⟨a1, a2, a3⟩ := h2 (by omega)
  obtain ⟨b1, b2, b3⟩ := k2 (by omega)
  refine ⟨b1.trans a1, a2.trans b2, fun ty l hbd b c t hb hc => ?_⟩
  obtain ⟨c', t', e1, e2⟩ := a3 ty l hbd b c t hb hc
  obtain ⟨m, hm, _⟩ := a2.shape hbd
  obtain ⟨c'', t'', f1, f2⟩ := b3 ty m hm b c' t' (by rw [a1]; exact hb) e1
  exact ⟨c'', t'', f1, f2.trans e2⟩
/-! slices as they are seen -/
/-- a slice's elements: cells that lie somewhere -/
def Seen (X : Cx) (e : Ty) (l : List e.den) (val : Value) : Prop :=
  ∃ a cap es, val = .slice a l.length cap ∧ l.length ≤ cap ∧ Elem (RC X.w X.G e) l es ∧ (l ≠ [] → ∃ b off, a = some ⟨b, off, none⟩ ∧ X.w.rangeAt b off es)
theorem rangeAt_take {w : World} {b o : Nat} {cs : List Value} (h : w.rangeAt b o cs) (n : Nat) : w.rangeAt b o (cs.take n) := fun j v hv => by
  rw [List.getElem?_take] at hv
  split at hv
  · exact h j v hv
  · cases hv
theorem rangeAt_drop {w : World} {b o : Nat} {cs : List Value} (h : w.rangeAt b o cs) (n : Nat) : w.rangeAt b (o + n) (cs.drop n) := fun j v hv => by
  rw [List.getElem?_drop] at hv
  have := h _ v hv
  rwa [← Nat.add_assoc] at this
theorem rangeAt_append_left {w : World} {b o : Nat} {cs ds : List Value} (h : w.rangeAt b o (cs ++ ds)) : w.rangeAt b o cs := fun j v hv => by
  refine h j v ?_
  rw [List.getElem?_append_left (List.getElem?_eq_some_iff.1 hv).1]; exact hv
theorem rangeAt_heap {w : World} {b : Nat} {c : Array Value} {e : TypeId} {fr : Nat × Nat} (h : w.heap[b]? = some (.cells c e fr)) : w.rangeAt b 0 c.toList := fun j v hv => by
  rw [Nat.zero_add, cell_of_row w b j c e fr h]
  simpa using hv
theorem Elem.view [Str] {w : World} {G : Nat → Prop} {t : Ty} {l : List t.den} {es : List Value} {b : Nat} (h : Elem (RC w G t) l es) (hr : w.rangeAt b 0 es) : ∀ v : View, ∃ fs, Elem (RC w G t) (v.of l) fs ∧ w.rangeAt b (v.lo * t.size) fs
  | .full => ⟨es, h, by simpa [View.lo] using hr⟩
  | .upto k => ⟨_, h.take (fun _ _ h => RC.len h) k, by simpa [View.lo] using rangeAt_take hr _⟩
  | .from_ k => ⟨_, h.drop (fun _ _ h => RC.len h) k, by simpa [View.lo] using rangeAt_drop hr (k * t.size)⟩
  | .mid k m => ⟨_, (h.take (fun _ _ h => RC.len h) m).drop (fun _ _ h => RC.len h) k, by simpa [View.lo] using rangeAt_drop (rangeAt_take hr (m * t.size)) (k * t.size)⟩
theorem Seen.of_list {X : Cx} {e : Ty} {l : List e.den} {val : Value} (h : RC X.w X.G (.list e) l [val]) : Seen X e l val := by
  obtain ⟨a, cap, h1, h2, h3⟩ := h
  simp only [List.cons.injEq, and_true] at h1
  subst h1
  cases l with
  | nil => exact ⟨a, cap, [], rfl, h2, rfl, fun h => absurd rfl h⟩
  | cons x l =>
    obtain ⟨b, off, es, e1, e2, e3, e4⟩ := h3 (List.cons_ne_nil x l)
    exact ⟨a, cap, es, rfl, h2, e3, fun _ => ⟨b, off, e1, e4⟩⟩
theorem Seen.of_row [Str] {B : Base} {X : Cx} (hg : Good B X) {n g : Nat} {v : View} {val : Value} {fr : Bool} {t : Ty} {l : List t.den} (ho : X.O n = some ⟨g, fr, .row t l⟩) (h : HV X (.row n g v) val) :
    Seen X t (v.of l) val ∧ (fr = true → RC X.w X.G (.list t) (v.of l) [val]) ∧ RC X.w (fun b => X.G b ∨ X.β n = some b) (.list t) (v.of l) [val] := by
  obtain ⟨_, o, e1, _, e2⟩ := h
  rw [ho] at e1; cases e1
  obtain ⟨h1, a, cap, h2, h3, h4⟩ := e2 rfl
  have hob := hg.obj n _ ho
  simp only [ObjH] at hob
  cases hbn : X.β n with
  | none =>
    rw [hbn] at h4 hob
    obtain ⟨rfl, rfl⟩ := h4
    have hv : v.of ([] : List t.den) = [] := by cases v <;> simp [View.of]
    rw [hv] at h2 ⊢
    exact ⟨⟨a, 0, [], h2, Nat.le_refl _, rfl, fun h => absurd rfl h⟩, fun _ => ⟨a, 0, by rw [h2], Nat.le_refl _, fun h => absurd rfl h⟩, ⟨a, 0, by rw [h2], Nat.le_refl _, fun h => absurd rfl h⟩⟩
  | some b =>
    rw [hbn] at h4 hob
    obtain ⟨c, e, h5, h6⟩ := h4
    obtain ⟨c', e', es, sp, cp, k1, k2, k3, k4, k5⟩ := hob
    rw [h5] at k1; cases k1
    have hr := rangeAt_heap h5
    rw [k2] at hr
    obtain ⟨fs, f1, f2⟩ := k3.view (rangeAt_append_left hr) v
    have hx : v.of l ≠ [] → a = some ⟨b, v.lo * t.size, none⟩ := fun hne => by
      rcases h6 with h6 | h6
      · exact absurd (List.eq_nil_of_length_eq_zero (by omega)) hne
      · exact h6.1
    exact ⟨⟨a, cap, fs, h2, h3, f1, fun hne => ⟨b, _, hx hne, f2⟩⟩, fun hfr => ⟨a, cap, by rw [h2], h3, fun hne => ⟨b, _, fs, hx hne, hg.frz n _ b ho hfr hbn, f1, f2⟩⟩, ⟨a, cap, by rw [h2], h3, fun hne => ⟨b, _, fs, hx hne, .inr rfl, f1.imp (fun _ _ h => RC.imp (fun _ h => .inl h) (fun _ _ => rfl) h), f2⟩⟩⟩
end Go.Ev
namespace Go.Ev
open Go.RowKit
section
variable {α β R : Type}
theorem run_bind (p : Prog α) (f : α → Prog β) (O : Objs) (K : β → Objs → Option R) : (p >>= f).run O K = p.run O fun a O' => (f a).run O' K := by
  show (p.bind f).run O K = _
  induction p generalizing O with
  | ret a => rfl
  | fail => rfl
  | ite c d x y ihx ihy => simp only [Prog.bind, Prog.run, ihx, ihy]
  | get n k ih => simp only [Prog.bind, Prog.run, ih]
  | put n o k ih => simp only [Prog.bind, Prog.run, ih]
  | come γ s c k ih => simp only [Prog.bind, Prog.run, ih]
theorem run_pure (a : α) (O : Objs) (K : α → Objs → Option R) : (pure a : Prog α).run O K = K a O := rfl
theorem run_ret (a : α) (O : Objs) (K : α → Objs → Option R) : (Prog.ret a).run O K = K a O := rfl
theorem run_fail (O : Objs) (K : α → Objs → Option R) : (Prog.fail : Prog α).run O K = none := rfl
theorem run_fail' (O : Objs) (K : α → Objs → Option R) : (fail : Prog α).run O K = none := rfl
theorem run_get (n : Nat) (O : Objs) (K : Option Obj → Objs → Option R) : (get n).run O K = K (O n) O := rfl
theorem run_put (n : Nat) (o : Obj) (O : Objs) (K : Unit → Objs → Option R) : (put n o).run O K = K () (O.set n o) := rfl
theorem run_come (c : Option α) (O : Objs) (K : α → Objs → Option R) : (come c).run O K = c.bind fun a => K a O := rfl
theorem run_ask (c : Prop) [d : Decidable c] (x y : Prog α) (O : Objs) (K : α → Objs → Option R) : (ask c x y).run O K = if c then x.run O K else y.run O K := rfl
theorem of_need {c : Prop} [d : Decidable c] {O : Objs} {K : Unit → Objs → Option R} {r : R} (h : (need c).run O K = some r) : c ∧ K () O = some r := by
  simp only [need, Prog.run] at h
  by_cases hc : c
  · rw [if_pos hc] at h; exact ⟨hc, h⟩
  · rw [if_neg hc] at h; cases h
theorem of_sure {b : Bool} {O : Objs} {K : Unit → Objs → Option R} {r : R} (h : (sure b).run O K = some r) : b = true ∧ K () O = some r := by
  cases b with
  | false => simp [sure, Prog.run] at h
  | true => exact ⟨rfl, h⟩
theorem of_must {c : Option α} {O : Objs} {K : α → Objs → Option R} {r : R} (h : (must c).run O K = some r) : ∃ a, c = some a ∧ K a O = some r := by
  cases c with
  | none => simp [must, Prog.run] at h
  | some a => exact ⟨a, rfl, h⟩
theorem of_come {c : Option α} {O : Objs} {K : α → Objs → Option R} {r : R} (h : (come c).run O K = some r) : ∃ a, c = some a ∧ K a O = some r := by
  cases c with
  | none => simp [come, Prog.run] at h
  | some a => exact ⟨a, rfl, h⟩
theorem of_comeS {s : Split α} {c : Option α} {O : Objs} {K : α → Objs → Option R} {r : R} (h : (comeS s c).run O K = some r) : ∃ a, c = some a ∧ K a O = some r := by
  cases c with
  | none => simp [comeS, Prog.run] at h
  | some a => exact ⟨a, rfl, by simpa only [comeS, Prog.run, Option.bind_some, s.ok] using h⟩
theorem of_lay [Str] {n : Nat} {b : Body} {O : Objs} {K : Unit → Objs → Option R} {r : R} (h : (lay n b).run O K = some r) : O n = none ∧ K () (O.set n ⟨0, false, b⟩) = some r := by
  simp only [lay, run_bind, run_get] at h
  cases ho : O n with
  | none => rw [ho] at h; exact ⟨rfl, h⟩
  | some o => rw [ho] at h; simp [run_fail'] at h
theorem of_castL {t u : Ty} {l : List t.den} {m : List u.den} (h : castL (u := u) l = some m) : ∃ e : t = u, m = e ▸ l := by
  unfold castL at h
  split at h
  · rename_i e; exact ⟨e, by cases h; rfl⟩
  · cases h
theorem of_rowAt [Str] {n g : Nat} {O : Objs} {K : ((t : Ty) × List t.den) → Objs → Option R} {r : R} (h : (rowAt n g).run O K = some r) : ∃ fr t l, O n = some ⟨g, fr, .row t l⟩ ∧ K ⟨t, l⟩ O = some r := by
  simp only [rowAt, run_bind, run_get] at h
  split at h
  · rename_i g' fr t l ho
    rw [run_bind] at h
    obtain ⟨h1, h2⟩ := of_sure h
    have := Nat.eq_of_beq_eq_true h1
    subst this
    exact ⟨fr, t, l, ho, h2⟩
  · simp [run_fail'] at h
theorem of_rowAny [Str] {n g : Nat} {O : Objs} {K : ((t : Ty) × List t.den) → Objs → Option R} {r : R} (h : (rowAny n g).run O K = some r) : ∃ o t l, O n = some o ∧ o.gen = g ∧ o.body.shape = some ⟨t, l⟩ ∧ K ⟨t, l⟩ O = some r := by
  simp only [rowAny, run_bind, run_get] at h
  split at h
  · rename_i g' fr bd ho
    rw [run_bind] at h
    obtain ⟨h1, h2⟩ := of_sure h
    have := Nat.eq_of_beq_eq_true h1
    subst this
    obtain ⟨⟨t, l⟩, h3, h4⟩ := of_must h2
    exact ⟨_, t, l, ho, rfl, h3, h4⟩
  · simp [run_fail'] at h
theorem of_boxAt [Str] {n g : Nat} {fo : Bool} {O : Objs} {K : List SV → Objs → Option R} {r : R} (h : (boxAt n g fo).run O K = some r) : ∃ fr cs, O n = some ⟨g, fr, .box cs⟩ ∧ (fo = true → fr = false) ∧ K cs O = some r := by
  simp only [boxAt, run_bind, run_get] at h
  split at h
  · rename_i g' fr cs ho
    rw [run_bind] at h
    obtain ⟨h1, h2⟩ := of_sure h
    rw [Bool.and_eq_true] at h1
    have := Nat.eq_of_beq_eq_true h1.1
    subst this
    refine ⟨fr, cs, ho, fun e => ?_, h2⟩
    subst e
    simpa using h1.2
  · simp [run_fail'] at h
end
/-- a slice's elements, seen -/
theorem of_asView [Str] {B : Base} {X : Cx} (hg : Good B X) {e : Ty} {v : SV} {val : Value} {fo : Bool} (hv : HV X v val) {R : Type} {K : List e.den → Objs → Option R} {r : R} (h : (asView e v fo).run X.O K = some r) :
    ∃ l, K l X.O = some r ∧ Seen X e l val ∧ (fo = true → RC X.w X.G (.list e) l [val]) ∧
      ∀ Lt : Nat → Prop, (∀ n ∈ rowNames [v], ∀ b, X.β n = some b → Lt b) → RC X.w (fun b => X.G b ∨ Lt b) (.list e) l [val] := by
  unfold asView at h
  split at h
  · refine ⟨[], h, ?_, fun _ => ?_, fun _ _ => ?_⟩
    · exact ⟨none, 0, [], hv, Nat.le_refl _, rfl, fun h => absurd rfl h⟩
    · exact ⟨none, 0, by rw [show val = _ from hv]; rfl, Nat.le_refl _, fun h => absurd rfl h⟩
    · exact ⟨none, 0, by rw [show val = _ from hv]; rfl, Nat.le_refl _, fun h => absurd rfl h⟩
  · obtain ⟨l', h1, h2⟩ := of_must h
    obtain ⟨e1, rfl⟩ := of_castL h1
    subst e1
    exact ⟨_, h2, Seen.of_list hv, fun _ => hv, fun _ _ => RC.imp (fun _ h => .inl h) (fun _ _ => rfl) hv⟩
  · rename_i n g vw
    rw [run_bind, run_get] at h
    split at h
    · rename_i g' fr t l ho
      simp only [run_bind] at h
      obtain ⟨h1, h3⟩ := of_sure h
      obtain ⟨l', h2, h4⟩ := of_must h3
      clear h h3
      obtain ⟨e1, rfl⟩ := of_castL h2
      subst e1
      rw [Bool.and_eq_true] at h1
      have := Nat.eq_of_beq_eq_true h1.1
      subst this
      have hs := Seen.of_row hg ho hv
      refine ⟨_, h4, hs.1, (fun hfo => hs.2.1 ?_), fun Lt hL => ?_⟩
      · subst hfo
        simpa using h1.2
      · exact RC.imp (fun b hb => hb.imp id (fun hb => hL n (by simp [rowNames]) b hb)) (fun _ _ => rfl) hs.2.2
    · simp [run_fail'] at h
  · cases h
/-! leaves -/
theorem HLs.cons {X : Cx} {s : SV} {r : List SV} {v : Value} {l : List Value} (h1 : One v) (h2 : HV X s v) (h3 : HLs X r l) : HLs X (s :: r) (v :: l) := by
  cases s with
  | arr _ _ _ => exact h2.elim
  | _ => simp only [HLs]; exact ⟨v, l, rfl, h1, h2, h3⟩
theorem HLs.nil {X : Cx} : HLs X [] [] := by simp [HLs]
theorem HLs.append {X : Cx} : ∀ {s r : List SV} {v l : List Value}, HLs X s v → HLs X r l → HLs X (s ++ r) (v ++ l)
  | [], _, _, _, h, h' => by simp only [HLs] at h; subst h; simpa using h'
  | s :: r, _, _, _, h, h' => by
    cases s with
    | arr t n x =>
      simp only [HLs, List.cons_append] at h ⊢
      obtain ⟨c, l', e, h1, h2⟩ := h
      exact ⟨c, l' ++ _, by rw [e, List.append_assoc], h1, HLs.append h2 h'⟩
    | _ =>
      simp only [HLs, List.cons_append] at h ⊢
      obtain ⟨c, l', e, h0, h1, h2⟩ := h
      exact ⟨c, l' ++ _, by rw [e]; rfl, h0, h1, HLs.append h2 h'⟩
/-- taken apart: one leaf, the others -/
theorem HLs.uncons {X : Cx} {s : SV} {r : List SV} {cs : List Value} (h : HLs X (s :: r) cs) :
    ∃ c d, cs = c ++ d ∧ c.length = s.width ∧ HLs X [s] c ∧ HLs X r d ∧ (∀ v ∈ c, One v) := by
  cases s with
  | arr t n x =>
    simp only [HLs] at h ⊢
    obtain ⟨c, l', e, h1, h2⟩ := h
    exact ⟨c, l', e, RC.len h1, ⟨c, [], by simp, h1, rfl⟩, h2, RC.one h1⟩
  | _ =>
    simp only [HLs] at h ⊢
    obtain ⟨v, l', e, h0, h1, h2⟩ := h
    exact ⟨[v], l', by rw [e]; rfl, rfl, ⟨v, [], rfl, h0, h1, rfl⟩, h2, by simpa using h0⟩
theorem HLs.single {X : Cx} {s : SV} {c : List Value} (h : HLs X [s] c) (hs : ∀ t n l, s ≠ .arr t n l) : ∃ v, c = [v] ∧ One v ∧ HV X s v := by
  cases s with
  | arr t n x => exact absurd rfl (hs _ _ _)
  | _ =>
    simp only [HLs] at h
    obtain ⟨v, l', e, h0, h1, h2⟩ := h
    subst h2
    exact ⟨v, e, h0, h1⟩
theorem HLs.len [Str] {X : Cx} : ∀ {s : List SV} {cs : List Value}, HLs X s cs → cs.length = widths s
  | [], _, h => by simp only [HLs] at h; subst h; rfl
  | s :: r, _, h => by
    obtain ⟨c, d, e, h1, _, h2, _⟩ := h.uncons
    rw [e, List.length_append, h1, HLs.len h2]; rfl
theorem HLs.one [Str] {X : Cx} : ∀ {s : List SV} {cs : List Value}, HLs X s cs → ∀ v ∈ cs, One v
  | [], _, h, v, hv => by simp only [HLs] at h; subst h; cases hv
  | s :: r, _, h, v, hv => by
    obtain ⟨c, d, e, _, _, h2, h3⟩ := h.uncons
    subst e
    rcases List.mem_append.1 hv with h' | h'
    · exact h3 v h'
    · exact HLs.one h2 v h'
theorem RC.leaves [Str] {X : Cx} : ∀ {t : Ty} {x : t.den} {cs : List Value}, RC X.w X.G t x cs → HLs X (leaves t x) cs
  | .int _, _, _, h => by cases h; exact .cons rfl rfl .nil
  | .bool, _, _, h => by cases h; exact .cons rfl rfl .nil
  | .str, _, _, h => by cases h; exact .cons rfl rfl .nil
  | .list t, l, _, h => by
    have h' := h
    obtain ⟨a, cap, h1, _⟩ := h
    subst h1
    exact .cons rfl h' .nil
  | .unit, _, _, h => by cases h; exact .nil
  | .pair a b, _, _, ⟨c, d, e, h1, h2⟩ => by subst e; exact (RC.leaves h1).append (RC.leaves h2)
  | .arr n t, l, cs, h => by simp only [Ev.leaves, HLs]; exact ⟨cs, [], by simp, h, rfl⟩
theorem of_dropCells [Str] {X : Cx} : ∀ {l : List SV} {n : Nat} {l' : List SV} {cs : List Value}, HLs X l cs → dropCells l n = some l' → ∃ c d, cs = c ++ d ∧ c.length = n ∧ HLs X l' d
  | l, 0, _, cs, h, hd => by simp only [dropCells] at hd; cases hd; exact ⟨[], cs, rfl, rfl, h⟩
  | [], n + 1, _, _, _, hd => by simp [dropCells] at hd
  | s :: r, n + 1, _, _, h, hd => by
    obtain ⟨c, d, e, h1, _, h2, _⟩ := h.uncons
    simp only [dropCells] at hd
    cases hb : Nat.ble s.width (n + 1) with
    | false => rw [Nat.succ_eq_add_one, hb] at hd; cases hd
    | true =>
      rw [Nat.succ_eq_add_one, hb] at hd
      obtain ⟨c', d', e', h3, h4⟩ := of_dropCells h2 hd
      have := Nat.le_of_ble_eq_true hb
      exact ⟨c ++ c', d', by rw [e, e', List.append_assoc], by rw [List.length_append]; omega, h4⟩
theorem of_takeCells [Str] {X : Cx} : ∀ {l : List SV} {n : Nat} {l' : List SV} {cs : List Value}, HLs X l cs → takeCells l n = some l' → ∃ c d, cs = c ++ d ∧ c.length = n ∧ HLs X l' c
  | l, 0, _, cs, h, hd => by simp only [takeCells] at hd; cases hd; exact ⟨[], cs, rfl, rfl, .nil⟩
  | [], n + 1, _, _, _, hd => by simp [takeCells] at hd
  | s :: r, n + 1, _, _, h, hd => by
    obtain ⟨c, d, e, h1, h0, h2, _⟩ := h.uncons
    simp only [takeCells] at hd
    cases hb : Nat.ble s.width (n + 1) with
    | false => rw [Nat.succ_eq_add_one, hb] at hd; cases hd
    | true =>
      rw [Nat.succ_eq_add_one, hb] at hd
      simp only [cond_true] at hd
      split at hd
      · rename_i l2 ht
        cases hd
        obtain ⟨c', d', e', h3, h4⟩ := of_takeCells h2 ht
        have := Nat.le_of_ble_eq_true hb
        exact ⟨c ++ c', d', by rw [e, e', List.append_assoc], by rw [List.length_append]; omega, by simpa using h0.append h4⟩
      · cases hd
theorem of_cutCells [Str] {X : Cx} {l l' : List SV} {off size : Nat} {cs : List Value} (h : HLs X l cs) (hd : cutCells l off size = some l') :
    HLs X l' ((cs.drop off).take size) ∧ ((cs.drop off).take size).length = size ∧ off + size ≤ cs.length := by
  unfold cutCells at hd
  split at hd
  · rename_i r hr
    obtain ⟨c, d, e, h1, h2⟩ := of_dropCells h hr
    obtain ⟨c', d', e', h3, h4⟩ := of_takeCells h2 hd
    subst e e' h1 h3
    simp only [List.drop_left, List.take_left, List.length_append]
    exact ⟨h4, trivial, by omega⟩
  · cases hd
theorem of_putCells [Str] {X : Cx} {l l' new : List SV} {off : Nat} {cs ns : List Value} (h : HLs X l cs) (hn : HLs X new ns) (hd : putCells l off new = some l') :
    HLs X l' (cs.take off ++ (ns ++ cs.drop (off + ns.length))) ∧ off + ns.length ≤ cs.length := by
  unfold putCells at hd
  split at hd
  · rename_i a c ha hc
    cases hd
    obtain ⟨c1, d1, e1, h1, h2⟩ := of_takeCells h ha
    obtain ⟨c2, d2, e2, h3, h4⟩ := of_dropCells h hc
    rw [← hn.len] at h3
    refine ⟨?_, ?_⟩
    · have t1 : cs.take off = c1 := by rw [e1, ← h1, List.take_left]
      have t2 : cs.drop (off + ns.length) = d2 := by rw [e2, ← h3, List.drop_left]
      rw [t1, t2]
      exact h2.append (hn.append h4)
    · rw [e2, List.length_append]; omega
  · cases hd
/-- a value's leaves -/
theorem HV.leaves [Str] {X : Cx} {s : SV} {v : Value} (h : HV X s v) (hc : clean s.leaves = true) : HLs X s.leaves v.cells.toList := by
  cases s with
  | undef => simp [SV.leaves, clean] at hc
  | arr _ _ _ => exact h.elim
  | agg fs => obtain ⟨cs, rfl, h⟩ := h; exact h
  | tup _ => simp [SV.leaves, clean] at hc
  | nil => cases h; exact .cons rfl rfl .nil
  | int _ _ => cases h; exact .cons rfl rfl .nil
  | bool _ => cases h; exact .cons rfl rfl .nil
  | str _ => cases h; exact .cons rfl rfl .nil
  | lst t l =>
    have h' := h
    obtain ⟨a, cap, h1, _⟩ := h
    simp only [List.cons.injEq, and_true] at h1
    subst h1
    exact .cons rfl h' .nil
  | ptr n g off => have := h.1; cases v <;> simp [One, Value.oneCell'] at this <;> exact .cons rfl h .nil
  | ptrA n g off i j sz m => have := h.1; cases v <;> simp [One, Value.oneCell'] at this <;> exact .cons rfl h .nil
  | ptrE n g i off => have := h.1; cases v <;> simp [One, Value.oneCell'] at this <;> exact .cons rfl h .nil
  | row n g w => have := h.1; cases v <;> simp [One, Value.oneCell'] at this <;> exact .cons rfl h .nil
  | ptrF t l i off => have h' := h; obtain ⟨_, b, o, es, rfl, _⟩ := h; exact .cons rfl h' .nil
  | func f first caps => have h' := h; obtain ⟨a, c, rfl, _⟩ := h; exact .cons rfl h' .nil
end Go.Ev
namespace Go.Ev
open Go.RowKit
theorem HLs.uncons1 [Str] {X : Cx} {s : SV} {r : List SV} {cs : List Value} (h : HLs X (s :: r) cs) (hs : ∀ t n l, s ≠ .arr t n l) : ∃ v d, cs = [v] ++ d ∧ One v ∧ HV X s v ∧ HLs X r d := by
  obtain ⟨c, d, e, _, h1, h2, _⟩ := h.uncons
  obtain ⟨v, rfl, h3, h4⟩ := h1.single hs
  exact ⟨v, d, e, h3, h4, h2⟩
theorem of_unleaf [Str] {B : Base} {X : Cx} (hg : Good B X) {fo : Bool} {R : Type} {r : R} : ∀ (t : Ty) {l : List SV} {cs : List Value} {K : t.den × List SV → Objs → Option R}, HLs X l cs → (unleaf fo t l).run X.O K = some r →
    ∃ x c d, K (x, l.drop t.nleaves) X.O = some r ∧ cs = c ++ d ∧ HLs X (l.drop t.nleaves) d ∧ (fo = true → RC X.w X.G t x c) ∧
      ∀ Lt : Nat → Prop, (∀ n ∈ rowNames (l.take t.nleaves), ∀ b, X.β n = some b → Lt b) → RC X.w (fun b => X.G b ∨ Lt b) t x c
  | .int k, l, cs, K, hl, h => by
    cases l with
    | nil => simp [unleaf, run_fail] at h
    | cons s r' =>
      cases s <;> first | (simp [unleaf, run_fail] at h; done) | skip
      rename_i k' n
      simp only [unleaf] at h
      split at h
      · rename_i e2; subst e2
        obtain ⟨v, d, rfl, _, hv, h2⟩ := hl.uncons1 (by simp)
        exact ⟨n, [v], d, h, rfl, h2, fun _ => by rw [show v = _ from hv]; rfl, fun _ _ => by rw [show v = _ from hv]; rfl⟩
      · cases h
  | .bool, l, cs, K, hl, h => by
    cases l with
    | nil => simp [unleaf, run_fail] at h
    | cons s r' =>
      cases s <;> first | (simp [unleaf, run_fail] at h; done) | skip
      rename_i b
      obtain ⟨v, d, rfl, _, hv, h2⟩ := hl.uncons1 (by simp)
      exact ⟨b, [v], d, h, rfl, h2, fun _ => by rw [show v = _ from hv]; rfl, fun _ _ => by rw [show v = _ from hv]; rfl⟩
  | .str, l, cs, K, hl, h => by
    cases l with
    | nil => simp [unleaf, run_fail] at h
    | cons s r' =>
      cases s <;> first | (simp [unleaf, run_fail] at h; done) | skip
      rename_i b
      obtain ⟨v, d, rfl, _, hv, h2⟩ := hl.uncons1 (by simp)
      exact ⟨b, [v], d, h, rfl, h2, fun _ => by rw [show v = _ from hv]; rfl, fun _ _ => by rw [show v = _ from hv]; rfl⟩
  | .list t, l, cs, K, hl, h => by
    cases l with
    | nil => simp [unleaf, run_fail] at h
    | cons s r' =>
      have h' : (asView t s fo).run X.O (fun l' O' => K (l', r') O') = some r := by
        cases s <;> exact (run_bind (asView t _ fo) (fun l => pure (l, r')) X.O K).symm.trans h
      have hs : ∀ t n l, s ≠ .arr t n l := fun t n l e => by subst e; simp [asView, run_fail] at h'
      obtain ⟨v, d, rfl, _, hv, h2⟩ := hl.uncons1 hs
      obtain ⟨l', h3, _, h4, h5⟩ := of_asView hg hv h'
      refine ⟨l', [v], d, h3, rfl, h2, h4, fun Lt hL => h5 Lt fun n hn => hL n ?_⟩
      simpa [Ty.nleaves] using hn
  | .unit, l, cs, K, hl, h => ⟨(), [], cs, h, rfl, hl, fun _ => rfl, fun _ _ => rfl⟩
  | .pair a b, l, cs, K, hl, h => by
    have h' : (unleaf fo a l).run X.O (fun p O' => (unleaf fo b p.2).run O' fun q O'' => K ((p.1, q.1), q.2) O'') = some r := by
      have e : (unleaf fo (a.pair b) l).run X.O K = (unleaf fo a l).run X.O (fun p O' => (unleaf fo b p.2).run O' fun q O'' => K ((p.1, q.1), q.2) O'') := by
        have e1 : ∀ O', unleaf fo (a.pair b) O' = (unleaf fo a O' >>= fun p => unleaf fo b p.2 >>= fun q => (pure ((p.1, q.1), q.2) : Prog ((a.den × b.den) × List SV))) := fun O' => by
          cases O' with
          | nil => rfl
          | cons s _ => cases s <;> rfl
        rw [e1]
        refine (run_bind _ _ _ _).trans ?_
        congr 1
        funext p O'
        exact run_bind _ _ _ _
      rw [← e]; exact h
    obtain ⟨x, c, d, h1, rfl, h2, h3, h4⟩ := of_unleaf hg a hl h'
    obtain ⟨y, c', d', k1, rfl, k2, k3, k4⟩ := of_unleaf hg b h2 h1
    rw [List.drop_drop] at k1 k2
    refine ⟨(x, y), c ++ c', d', k1, by simp, k2, fun hf => ⟨c, c', rfl, h3 hf, k3 hf⟩, fun Lt hL => ⟨c, c', rfl, h4 Lt fun n hn => hL n ?_, k4 Lt fun n hn => hL n ?_⟩⟩
    · simp only [Ty.nleaves]
      rw [List.take_add, rowNames_append]
      exact List.mem_append.2 (.inl hn)
    · simp only [Ty.nleaves]
      rw [List.take_add, rowNames_append]
      exact List.mem_append.2 (.inr hn)
  | .arr n t, l, cs, K, hl, h => by
    cases l with
    | nil => simp [unleaf, run_fail] at h
    | cons s r' =>
      cases s <;> first | (simp [unleaf, run_fail] at h; done) | skip
      rename_i t' n' l'
      simp only [unleaf, run_bind] at h
      obtain ⟨h1, h2⟩ := of_sure h
      obtain ⟨m, h3, h4⟩ := of_must h2
      have := Nat.eq_of_beq_eq_true h1
      subst this
      clear h h2
      obtain ⟨e, rfl⟩ := of_castL h3
      subst e
      simp only [HLs] at hl
      obtain ⟨c, d, rfl, k1, k2⟩ := hl
      exact ⟨l', c, d, h4, rfl, k2, fun _ => k1, fun _ _ => RC.imp (fun _ h => .inl h) (fun _ _ => rfl) k1⟩
where
  rowNames_append : ∀ (a b : List SV), rowNames (a ++ b) = rowNames a ++ rowNames b
    | [], b => rfl
    | s :: a, b => by cases s <;> simp [rowNames, rowNames_append a b]
theorem isNil_eq {α : Type} {l : List α} (h : isNil l = true) : l = [] := by cases l <;> simp [isNil] at h ⊢
theorem of_toDen [Str] {B : Base} {X : Cx} (hg : Good B X) {fo : Bool} {R : Type} {r : R} {t : Ty} {l : List SV} {cs : List Value} {K : t.den → Objs → Option R} (hl : HLs X l cs) (h : (toDen fo t l).run X.O K = some r) :
    ∃ x, K x X.O = some r ∧ (fo = true → RC X.w X.G t x cs) := by
  unfold toDen at h
  rw [run_bind] at h
  obtain ⟨x, c, d, h1, rfl, h2, h3, _⟩ := of_unleaf hg t hl h
  rw [run_bind] at h1
  obtain ⟨h4, h5⟩ := of_sure h1
  have := isNil_eq h4
  dsimp only at this
  rw [this] at h2
  simp only [HLs] at h2
  subst h2
  exact ⟨x, h5, by simpa using h3⟩
end Go.Ev
