/- The engine, part 3: the evaluator: what an operation does to slots and objects. -/
import Derived.Test.YtankmgnjkcgpaaaDoorSy2
import Derived.Lib.Bytealg
set_option linter.unusedSimpArgs false
set_option linter.unusedVariables false
namespace Go.Sx

inductive SV where
  | lb (b : Bool)
  | v (t : Tr)
  | agg (t : Tr)
  | tup (l : List (Bool × Tr))
  | junk

def bval (ρ : Con) : Bool × Tr → Value
  | (false, t) => t.val ρ []
  | (true, t) => .agg (t.cells ρ []).toArray

def SV.val (ρ : Con) : SV → Value
  | .lb b => .bool b
  | .v t => t.val ρ []
  | .agg t => .agg (t.cells ρ []).toArray
  | .tup l => .tuple (l.map (bval ρ)).toArray
  | .junk => undef

def labsL : List (Bool × Tr) → List Nat
  | [] => []
  | (_, t) :: r => t.labs ++ labsL r

def SV.labs : SV → List Nat
  | .lb _ => []
  | .v t => t.labs
  | .agg t => t.labs
  | .tup l => labsL l
  | .junk => []

inductive Hint where
  | t | f
  | s (b : Bool)
    | a

abbrev Conds := List (Bool × Bool)

structure Aux where
  hs : List Hint
  nl : Nat

inductive R (α : Type) where
  | ok (a : α) (c : Conds) (x : Aux)
  | bad (why : Nat)
  | todo (c : Bool)

def M (α : Type) : Type := Aux → R α

namespace M
def pure {α : Type} (a : α) : M α := fun x => .ok a [] x
def bind {α β : Type} (m : M α) (f : α → M β) : M β := fun x =>
  match m x with
  | .bad n => .bad n
  | .todo c => .todo c
  | .ok a c y =>
    match f a y with
    | .bad n => .bad n
    | .todo c => .todo c
    | .ok b d z => .ok b (c ++ d) z
def fail {α : Type} (n : Nat := 0) : M α := fun _ => .bad n
end M

instance : Monad M := { pure := M.pure, bind := M.bind }

def ask (c : Bool) : M Bool := fun x =>
  match x.hs with
  | .t :: r => match c with | true => .ok true [] { x with hs := r } | false => .bad 1
  | .f :: r => match c with | false => .ok false [] { x with hs := r } | true => .bad 1
  | .s b :: r => .ok b [(c, b)] { x with hs := r }
  | .a :: _ => .ok c [(c, c)] x
  | [] => .todo c

def need (c : Bool) : M Unit := do
  if ← ask c then pure () else M.fail 2

def chk (c : Bool) (n : Nat := 3) : M Unit := fun x => match c with | true => .ok () [] x | false => .bad n

def opt {α : Type} (o : Option α) (n : Nat := 4) : M α := fun x => match o with | some a => .ok a [] x | none => .bad n

def newLab : M Nat := fun x => .ok x.nl [] { x with nl := x.nl + 1 }

def nth {α : Type} : List α → Nat → Option α
  | [], _ => none
  | a :: _, 0 => some a
  | _ :: r, n + 1 => nth r n

def setN {α : Type} : List α → Nat → α → List α
  | [], _, _ => []
  | _ :: r, 0, b => b :: r
  | a :: r, n + 1, b => a :: setN r n b

def ofV : Value → SV
  | .bool b => .lb b
  | .int k n => .v (.vi k fun _ => n)
  | .string s => .v (.vs fun _ => s.data.toList)
  | .pointer none => .v .vp0
  | .slice none 0 0 => .v .vl0
  | .nilIface => .v .ve0
  | x => .v (.vr x)

def opd (P : Program) (env : List SV) : Operand → SV
  | .tmp t => (nth env t).getD .junk
  | .const v => ofV v
  | .global g => match Nat.blt g P.globals.size with | true => .v (.vp g (fun _ => 0) []) | false => .junk
  | .func f => .v (.vr (.func (.func f) #[] #[]))

def SV.un : SV → SV
  | .lb b => .v (.vb fun _ => b)
  | x => x

structure Eff where
  v : SV
  upd : List Ent
  drop : List Nat
  rd : List Nat

def Eff.val (v : SV) : Eff := ⟨v, [], [], []⟩

def und (P : Program) (t : TypeId) : M TypeDesc := opt (P.underlying t)
def szOf (P : Program) (t : TypeId) : M Nat := opt ((P.info? t).map (·.size))
def aggD : TypeDesc → Bool
  | .struct _ => true
  | .array _ _ => true
  | _ => false
def isAggB (P : Program) (t : TypeId) : M Bool := do
  let u ← und P t
  pure (aggD u)

def sameV : Value → Value → Bool
  | .bool a, .bool b => a == b
  | .int .i64 a, .int .i64 b => a == b
  | .int .u8 a, .int .u8 b => a == b
  | .int .i32 a, .int .i32 b => a == b
  | .int .u64 a, .int .u64 b => a == b
  | .int .u16 a, .int .u16 b => a == b
  | .int .u32 a, .int .u32 b => a == b
  | .int .i8 a, .int .i8 b => a == b
  | .int .i16 a, .int .i16 b => a == b
  | .string a, .string b => a.data.toList == b.data.toList
  | .pointer none, .pointer none => true
  | .slice none 0 0, .slice none 0 0 => true
  | .map none, .map none => true
  | .nilFunc, .nilFunc => true
  | .nilIface, .nilIface => true
  | .float .f64 a, .float .f64 b => a == b
  | .complex .f64 a b, .complex .f64 c d => a == c && b == d
  | _, _ => false

def sameVs : List Value → List Value → Bool
  | [], [] => true
  | a :: r, b :: s => match sameV a b with | true => sameVs r s | false => false
  | _, _ => false

def zeroLeaf : TypeDesc → Option Tr
  | .bool => some (.vb fun _ => false)
  | .int k => some (.vi k fun _ => 0)
  | .string => some (.vs fun _ => [])
  | .pointer _ => some .vp0
  | .slice _ => some .vl0
  | .interface _ => some .ve0
  | .func _ _ _ => some (.vr .nilFunc)
  | .map _ _ => some (.vr (.map none))
  | .float _ => some (.vr (.float .f64 0))
  | .complex _ => some (.vr (.complex .f64 0 0))
  | _ => none

def zeroFields (g : TypeId → Option Tr) : List Field → Option Tr
  | [] => some .t0
  | f :: r => match g f.type, zeroFields g r with | some a, some b => some (.tc a b) | _, _ => none

def zeroT (P : Program) : Nat → TypeId → Option Tr
  | 0, _ => none
  | n + 1, t =>
    match P.underlying t with
    | some (.struct fs) => zeroFields (zeroT P n) fs.toList
    | some (.array k e) => (zeroT P n e).map (.ta k)
    | some d => zeroLeaf d
    | none => none

def con0 : Con := fun _ _ => ⟨0, 0, 0, 0, false, none, false⟩

def zeroM (P : Program) (t : TypeId) : M Tr := do
  let z ← opt (zeroT P 12 t)
  let zv ← opt ((P.info? t).bind (·.zero))
  chk z.labs.isEmpty
  chk (sameVs (z.cells con0 []) zv.cells.toList)
  pure z

def zeroRow (P : Program) (t e : TypeId) (n : Nat) : M Tr := do
  let z0 ← opt (zeroT P 12 e)
  let z := repC z0 n
  let zv ← opt ((P.info? t).bind (·.zero))
  chk z.labs.isEmpty
  chk (sameVs (z.cells con0 []) zv.cells.toList)
  pure z

def pick (i : Int) : Nat → Nat → M Nat
  | 0, _ => M.fail
  | r + 1, k => do
    if ← ask (decide (i = (k : Int))) then pure k else pick i r (k + 1)

def spot (H : List Ent) (lab : Nat) (path : List Stp) (n : Nat) (i : Int) : M Nat :=
  match look H lab with
  | some e =>
    match e.fam with
    | none =>
      match Tr.get path e.t [] with
      | some (.tc _ _, _, _) => pick i n 0
      | _ => pure i.toNat
    | some _ => pure i.toNat
  | none => pure i.toNat

def SV.tree : SV → Option Tr
  | .lb b => some (.vb fun _ => b)
  | .v t => if t.leaf then some t else none
  | .agg t => some t
  | _ => none

def Tr.cellOk : Tr → Bool
  | .vr v => v.oneCell'
  | .tc h t => match h.cellOk with | true => t.cellOk | false => false
  | .ta _ t => t.cellOk
  | _ => true

def askAll : List (Nat × Nat) → M Unit
  | [] => pure ()
  | (i, n) :: r => do need (Nat.blt i n); askAll r

def root (e : Ent) (mem : Nat) : M (Tr × Ix) := do
  match e.fam with
  | none => do chk (Nat.beq mem 0); pure (e.t, [])
  | some lc => do need (Nat.blt mem lc.1); pure (.ta (lc.2 mem) e.t, [mem])

def mkV (agg : Bool) (t : Tr) : M SV :=
  match agg with
  | true => pure (.agg t)
  | false => do chk t.leaf; pure (.v t)

def opLoad (P : Program) (H : List Ent) (t : TypeId) (a : SV) : M Eff := do
  match a with
  | .v (.vp lab mem path) => do
    let e ← opt (look H lab)
    let (tt, is) ← root e (mem [])
    let (u, js, cs) ← opt (Tr.get path tt is)
    askAll cs
    let g ← isAggB P t
    let n ← szOf P t
    chk (Nat.beq u.size n)
    let v ← mkV g (u.inst js)
    pure ⟨v, [], [], [lab]⟩
  | _ => M.fail

def opStore (P : Program) (H : List Ent) (t : TypeId) (a x : SV) : M Eff := do
  match a with
  | .v (.vp lab mem path) => do
    let e ← opt (look H lab)
    chk e.own
    chk e.fam.isNone
    chk (Nat.beq (mem []) 0)
    let u ← opt x.tree
    let n ← szOf P t
    chk (Nat.blt 0 n)
    chk (Nat.beq u.size n)
    chk u.cellOk
    let (u0, _, cs) ← opt (Tr.get path e.t [])
    chk (Nat.beq u0.size n)
    askAll cs
    let t' ← opt (Tr.set path e.t [] u)
    pure ⟨.tup [], [{ e with t := t' }], [], [lab]⟩
  | _ => M.fail

def below (n : Nat) : List Nat → Bool
  | [] => true
  | l :: r => if Nat.blt l n then below n r else false

def opBox (ty : TypeId) (t : Tr) : M Eff := do
  chk t.cellOk
  chk (Nat.blt t.size 1000000)
  let l ← newLab
  chk (below l t.labs)
  pure ⟨.v (.vp l (fun _ => 0) []), [⟨l, true, none, boxed t.size ty, t⟩], [], []⟩

def fieldOf (P : Program) (s : TypeId) (f : Nat) : M Field := do
  match ← und P s with
  | .struct fs => opt fs[f]?
  | _ => M.fail

def opFieldAddr (P : Program) (s : TypeId) (a : SV) (f : Nat) : M Eff := do
  match a with
  | .v (.vp lab mem path) => do
    let fl ← fieldOf P s f
    let n ← szOf P fl.type
    chk (Nat.blt 0 n)
    pure (.val (.v (.vp lab mem (path ++ [.f fl.offset f]))))
  | _ => M.fail

def opField (P : Program) (s : TypeId) (a : SV) (f : Nat) : M Eff := do
  match a with
  | .agg t => do
    let fl ← fieldOf P s f
    let (o, u) ← opt (t.fld f)
    chk (Nat.beq o fl.offset)
    let g ← isAggB P fl.type
    let n ← szOf P fl.type
    chk (Nat.beq u.size n)
    let v ← mkV g u
    pure (.val v)
  | _ => M.fail

def tagOf (w : Nat) (cuts : List Nat) (sz : Nat) (e : TypeId) : Nat := if cuts.isEmpty && Nat.beq w (tagged sz e) then tagged sz e else sz

def rowOf (H : List Ent) (lab : Nat) (mem : Nat) (sz : Nat) : M (Nat × Tr × Ix) := do
  let e ← opt (look H lab)
  let (tt, is) ← root e mem
  chk (Nat.beq (wd e.wid) sz)
  chk (Nat.blt 0 sz)
  match tt with
  | .ta n t => do chk (Nat.beq t.size sz); pure (n, t, is)
  | _ => M.fail

def rowN (H : List Ent) (lab : Nat) (mem : Nat) (sz : Nat) : M Nat := do
  let e ← opt (look H lab)
  let (tt, _) ← root e mem
  chk (Nat.beq (wd e.wid) sz)
  chk (Nat.blt 0 sz)
  opt (tt.rows sz)

def opIndexAddr (P : Program) (H : List Ent) (t : TypeId) (a ix : SV) : M Eff := do
  match ix with
  | .v (.vi _ f) => do
    let i := f []
    match ← und P t, a with
    | .array n e, .v (.vp lab mem path) => do
      need (decide (0 ≤ i ∧ i < n))
      let sz ← szOf P e
      let k ← spot H lab path n i
      pure (.val (.v (.vp lab mem (path ++ [.x sz k]))))
    | .slice e, .v (.vl lab mem sz cuts len) => do
      need (decide (0 ≤ i ∧ i < len []))
      let sz' ← szOf P e
      chk (Nat.beq sz sz')
      let n ← rowN H lab (mem []) sz
      need (Nat.blt (sum cuts + i.toNat) n)
      pure ⟨.v (.vp lab mem [.x sz (sum cuts + i.toNat)]), [], [], [lab]⟩
    | .slice e, .v (.va lab path sz st len cap) => do
      need (decide (0 ≤ i ∧ i < len))
      let sz' ← szOf P e
      chk (Nat.beq sz sz')
      pure (.val (.v (.vp lab (fun _ => 0) (path ++ [.x sz (st + i.toNat)]))))
    | _, _ => M.fail
  | _ => M.fail

def opIndex (P : Program) (t : TypeId) (a ix : SV) : M Eff := do
  match ix with
  | .v (.vi _ f) => do
    let i := f []
    match ← und P t, a with
    | .array n e, .agg (.ta m u) => do
      chk (Nat.beq n m)
      need (decide (0 ≤ i ∧ i < n))
      let g ← isAggB P e
      let sz ← szOf P e
      chk (Nat.beq u.size sz)
      let v ← mkV g (u.inst [i.toNat])
      pure (.val v)
    | .array n e, .agg (.tc b c) => do
      need (decide (0 ≤ i ∧ i < n))
      let k ← pick i n 0
      let (o, u) ← opt ((Tr.tc b c).fld k)
      let g ← isAggB P e
      let sz ← szOf P e
      chk (Nat.beq o (k * sz))
      chk (Nat.beq u.size sz)
      let v ← mkV g u
      pure (.val v)
    | .string, .v (.vs s) => do
      need (decide (0 ≤ i ∧ i < (s []).length))
      pure (.val (.v (.vi .u8 fun _ => ((s []).getD i.toNat 0).toNat)))
    | _, _ => M.fail
  | _ => M.fail

def opExtract (a : SV) (i : Nat) : M Eff := do
  match a with
  | .tup l => do
    match ← opt (nth l i) with
    | (true, t) => pure (.val (.agg t))
    | (false, t) => pure (.val (.v t))
  | _ => M.fail

def iand (k : IntKind) (x y : Int) : Int := k.wrap (BitVec.ofInt k.bits x &&& BitVec.ofInt k.bits y).toNat
def ior (k : IntKind) (x y : Int) : Int := k.wrap (BitVec.ofInt k.bits x ||| BitVec.ofInt k.bits y).toNat
def ixor (k : IntKind) (x y : Int) : Int := k.wrap (BitVec.ofInt k.bits x ^^^ BitVec.ofInt k.bits y).toNat
def iandn (k : IntKind) (x y : Int) : Int := k.wrap (BitVec.ofInt k.bits x &&& ~~~ BitVec.ofInt k.bits y).toNat
def ishl (k : IntKind) (x y : Int) : Int := k.wrap (x * 2 ^ min y.toNat k.bits)
def ishr (k : IntKind) (x y : Int) : Int := x.fdiv (2 ^ min y.toNat k.bits)

def sameK : IntKind → IntKind → Bool
  | .i8, .i8 | .i16, .i16 | .i32, .i32 | .i64, .i64 | .u8, .u8 | .u16, .u16 | .u32, .u32 | .u64, .u64 => true
  | _, _ => false

def binInt (op : BinOp) (k : IntKind) (a b : Int) : M Tr :=
  match op with
  | .add => pure (.vi k fun _ => k.wrap (a + b))
  | .sub => pure (.vi k fun _ => k.wrap (a - b))
  | .mul => pure (.vi k fun _ => k.wrap (a * b))
  | .quo => do need (!(b == 0)); pure (.vi k fun _ => k.wrap (a.tdiv b))
  | .rem => do need (!(b == 0)); pure (.vi k fun _ => a.tmod b)
  | .and => pure (.vi k fun _ => iand k a b)
  | .or => pure (.vi k fun _ => ior k a b)
  | .xor => pure (.vi k fun _ => ixor k a b)
  | .andNot => pure (.vi k fun _ => iandn k a b)
  | .eql => pure (.vb fun _ => a == b)
  | .neq => pure (.vb fun _ => a != b)
  | .lss => pure (.vb fun _ => decide (a < b))
  | .leq => pure (.vb fun _ => decide (a ≤ b))
  | .gtr => pure (.vb fun _ => decide (a > b))
  | .geq => pure (.vb fun _ => decide (a ≥ b))
  | _ => M.fail

def binStr (op : BinOp) (a b : List UInt8) : M Tr :=
  match op with
  | .add => do need (decide (a.length + b.length ≤ 9223372036854775807)); pure (.vs fun _ => a ++ b)
  | .eql => pure (.vb fun _ => a == b)
  | .neq => pure (.vb fun _ => !(a == b))
  | .lss => pure (.vb fun _ => Op.bytesLess a b)
  | .leq => pure (.vb fun _ => Op.bytesLess a b || a == b)
  | .gtr => pure (.vb fun _ => !(Op.bytesLess a b || a == b))
  | .geq => pure (.vb fun _ => !(Op.bytesLess a b))
  | _ => M.fail

def szEq (P : Program) (t : TypeId) (n : Nat) : Bool := match P.info? t with | some i => Nat.beq i.size n | none => false

def eqFields (P : Program) (g : TypeId → Tr → Tr → Option Bool) : Nat → List Field → Tr → Tr → Option Bool
  | _, [], .t0, .t0 => some true
  | o, f :: r, .tc a x, .tc b y =>
    if Nat.beq f.offset o && szEq P f.type a.size && Nat.beq a.size b.size && f.name != "_" then
      match g f.type a b, eqFields P g (o + a.size) r x y with
      | some p, some q => some (p && q)
      | _, _ => none
    else none
  | _, _, _, _ => none

def eqRow (g : Tr → Tr → Option Bool) (a b : Tr) : List Nat → Option Bool
  | [] => some true
  | i :: r => match g (a.inst [i]) (b.inst [i]), eqRow g a b r with
    | some p, some q => some (p && q)
    | _, _ => none

def allEq (f g : Ix → Int) (n : Nat) : Bool := (List.range n).all fun i => f [i] == g [i]

def eqArr (g : Tr → Tr → Option Bool) (k : Nat) : Tr → Tr → Option Bool
  | .vi a f, .vi b h => match g (.vi a f) (.vi b h) with | some _ => some (allEq f h k) | none => none
  | a, b => eqRow g a b (List.range k)

def eqTy (P : Program) : Nat → TypeId → Tr → Tr → Option Bool
  | 0, _, _, _ => none
  | n + 1, t, x, y =>
    match P.underlying t with
    | some (.int _) => match x, y with
      | .vi k f, .vi k' g => if sameK k k' then some (f [] == g []) else none
      | _, _ => none
    | some .bool => match x, y with
      | .vb f, .vb g => some (f [] == g [])
      | _, _ => none
    | some .string => match x, y with
      | .vs f, .vs g => some (f [] == g [])
      | _, _ => none
    | some (.struct fs) => if P.stoodInHeld t then none else eqFields P (eqTy P n) 0 fs.toList x y
    | some (.array k e) => match x, y with
      | .ta m a, .ta m' b => if Nat.beq m k && Nat.beq m' k && szEq P e a.size && Nat.beq a.size b.size then eqArr (eqTy P n e) k a b else none
      | _, _ => none
    | _ => none

def isConst : Operand → Bool
  | .const _ => true
  | _ => false

def isIface : TypeDesc → Bool
  | .interface _ => true
  | _ => false
def isPtr : TypeDesc → Bool
  | .pointer _ => true
  | _ => false
def isSlice : TypeDesc → Bool
  | .slice _ => true
  | _ => false
def isBool : TypeDesc → Bool
  | .bool => true
  | _ => false

def eqAny (P : Program) (t : TypeId) (x y : SV) (c : Bool) : M Bool := do
  let u ← und P t
  match x, y with
  | .agg a, .agg b => do
    chk (!P.eqGuardType P.depth t)
    chk (aggD u)
    opt (eqTy P 10 t a b)
  | .v (.vb f), .v (.vb g) => do chk (isBool u); pure (f [] == g [])
  | .v .ve0, .v .ve0 => do chk c; chk (isIface u); pure true
  | .v (.vx _ ls f), .v .ve0 => do chk c; chk (isIface u); pure (Nat.ble ls.length (f []))
  | .v .ve0, .v (.vx _ ls f) => do chk c; chk (isIface u); pure (Nat.ble ls.length (f []))
  | .v (.ve _ _), .v .ve0 => do chk (isIface u); pure false
  | .v .ve0, .v (.ve _ _) => do chk (isIface u); pure false
  | .v .vp0, .v .vp0 => do chk (isPtr u); pure true
  | .v (.vp _ _ _), .v .vp0 => do chk (isPtr u); pure false
  | .v .vp0, .v (.vp _ _ _) => do chk (isPtr u); pure false
  | .v .vl0, .v .vl0 => do chk (isSlice u); pure true
  | .v (.va _ _ _ _ _ _), .v .vl0 => do chk (isSlice u); pure false
  | _, _ => M.fail

def opBin (P : Program) (op : BinOp) (xT : TypeId) (x y : SV) (c : Bool) : M Eff := do
  match op, x, y with
  | .shl, .v (.vi k f), .v (.vi _ g) => do need (!decide (g [] < 0)); pure (.val (.v (.vi k fun _ => ishl k (f []) (g []))))
  | .shr, .v (.vi k f), .v (.vi _ g) => do need (!decide (g [] < 0)); pure (.val (.v (.vi k fun _ => ishr k (f []) (g []))))
  | op, .v (.vi k f), .v (.vi k' g) => do chk (sameK k k'); let t ← binInt op k (f []) (g []); pure (.val (.v t))
  | op, .v (.vs f), .v (.vs g) => do let t ← binStr op (f []) (g []); pure (.val (.v t))
  | .eql, x, y => do let b ← eqAny P xT x y c; pure (.val (.v (.vb fun _ => b)))
  | .neq, x, y => do let b ← eqAny P xT x y c; pure (.val (.v (.vb fun _ => !b)))
  | _, _, _ => M.fail

def opUn (op : UnOp) (x : SV) : M Eff := do
  match op, x with
  | .not, .lb b => pure (.val (.lb (!b)))
  | .neg, .v (.vi k f) => pure (.val (.v (.vi k fun _ => k.wrap (0 - f []))))
  | .xor, .v (.vi k f) => pure (.val (.v (.vi k fun _ => ixor k (if k.signed then -1 else k.max) (f []))))
  | .not, .v (.vb f) => pure (.val (.v (.vb fun _ => !(f []))))
  | _, _ => M.fail

def bytesOf (f : Ix → Int) (is : Ix) (st len : Nat) : List UInt8 := (List.range len).map fun j => UInt8.ofNat (f (is ++ [st + j])).toNat

def rdBytes (H : List Ent) (x : SV) : M (List UInt8 × List Nat) := do
  match x with
  | .v (.vs f) => pure (f [], [])
  | .v .vl0 => pure ([], [])
  | .v (.vl lab mem sz cuts len) => do
    chk (Nat.beq sz 1)
    let (n, t, is) ← rowOf H lab (mem []) sz
    need (Nat.ble (sum cuts + len []) n)
    match t with
    | .vi .u8 f => pure (bytesOf f is (sum cuts) (len []), [lab])
    | _ => M.fail
  | _ => M.fail

def cntB (l : List UInt8) (c : Int) : Int := ((Lib.countByte l (UInt8.ofNat c.toNat) : Nat) : Int)
def idxB (l : List UInt8) (c : Int) : Int := Lib.indexByte l (UInt8.ofNat c.toNat)

inductive Ext where
  | count
  | index

def evExt (k : Ext) (H : List Ent) (args : List SV) : M Eff := do
  match args with
  | [b, c] =>
    match c.un with
    | .v (.vi .u8 g) => do
      let (l, rd) ← rdBytes H b
      match k with
      | .count => pure ⟨.v (.vi .i64 fun _ => cntB l (g [])), [], [], rd⟩
      | .index => pure ⟨.v (.vi .i64 fun _ => idxB l (g [])), [], [], rd⟩
    | _ => M.fail
  | _ => M.fail

def extOf (P : Program) (f : FuncId) : Option Ext :=
  match P.funcs[f]? with
  | some fn =>
    match fn.body with
    | some _ => none
    | none =>
      if fn.origin == "" then
        (if fn.name == "internal/bytealg.Count" then some .count
        else if fn.name == "internal/bytealg.CountString" then some .count
        else if fn.name == "internal/bytealg.IndexByte" then some .index
        else if fn.name == "internal/bytealg.IndexByteString" then some .index
        else none)
      else none
  | none => none

def opConvert (P : Program) (H : List Ent) (src dst : TypeId) (x : SV) : M Eff := do
  match ← und P src, ← und P dst, x with
  | _, .int k, .v (.vi _ f) => pure (.val (.v (.vi k fun _ => k.wrap (f []))))
  | _, .string, .v (.vs f) => pure (.val (.v (.vs f)))
  | .slice e, .string, .v .vl0 => do
    match ← und P e with | .int .u8 => pure (.val (.v (.vs fun _ => []))) | _ => M.fail
  | .slice e, .string, .v (.vl lab mem sz cuts len) => do
    match ← und P e with
    | .int .u8 => do
      chk (Nat.beq sz 1)
      let (n, t, is) ← rowOf H lab (mem []) sz
      need (Nat.ble (sum cuts + len []) n)
      match t with
      | .vi .u8 f => pure ⟨.v (.vs fun _ => bytesOf f is (sum cuts) (len [])), [], [], [lab]⟩
      | _ => M.fail
    | _ => M.fail
  | .slice e, .string, .v (.va lab path sz st len cap) => do
    match ← und P e with
    | .int .u8 => do
      chk (Nat.beq sz 1)
      let en ← opt (look H lab)
      let (tt, is) ← root en 0
      let (u, js, cs) ← opt (Tr.get path tt is)
      askAll cs
      match u with
      | .ta n (.vi .u8 f) => do
        need (Nat.ble (st + len) n)
        pure ⟨.v (.vs fun _ => bytesOf f js st len), [], [], [lab]⟩
      | _ => M.fail
    | _ => M.fail
  | _, _, _ => M.fail

def Tr.lift : Tr → Tr
  | .vb f => .vb fun is => f is.tail
  | .vi k f => .vi k fun is => f is.tail
  | .vs f => .vs fun is => f is.tail
  | .vp lab mem path => .vp lab (fun is => mem is.tail) path
  | .vl lab mem sz cuts len => .vl lab (fun is => mem is.tail) sz cuts (fun is => len is.tail)
  | .ve t v => .ve t v.lift
  | .vc t v => .vc t v.lift
  | .vx t ls f => .vx t ls fun is => f is.tail
  | .tc h t => .tc h.lift t.lift
  | .ta n t => .ta n t.lift
  | t => t

def setParts (arr : Bool) (place : Nat → Option (Nat × Nat)) : Tr → List (Nat × SV) → Option Tr
  | t, [] => some t
  | t, (i, x) :: r =>
    match x.tree, place i with
    | some u, some (o, s) =>
      if Nat.beq u.size s && u.cellOk then
        match arr with
        | true =>
          match t with
          | .ta n e =>
            if Nat.blt i n && Nat.beq e.size s && Nat.beq o (i * s) then
              match Tr.set [.x s i] t [] u with | some t' => setParts arr place t' r | none => none
            else none
          | _ => none
        | false =>
          match t.fld i with
          | none => none
          | some (o', w) => if Nat.beq o o' && Nat.beq w.size s then
              match t.setFld i u with | some t' => setParts arr place t' r | none => none
            else none
      else none
    | _, _ => none

def opBuild (P : Program) (t : TypeId) (parts : List (Nat × SV)) : M Eff := do
  let z ← zeroM P t
  let u ← und P t
  match u with
  | .struct fs => do
    chk (fs.toList.all fun f => (P.info? f.type).isSome)
    let r ← opt (setParts false (fun i => (fs[i]?).map fun f => (f.offset, P.cellsOf f.type)) z parts)
    pure (.val (.agg r))
  | .array n e => do
    let sz ← szOf P e
    match setParts true (fun i => some (i * sz, sz)) z parts with
    | some r => pure (.val (.agg r))
    | none => do
      let z2 ← zeroRow P t e n
      let r ← opt (setParts false (fun i => some (i * sz, sz)) z2 parts)
      pure (.val (.agg r))
  | _ => M.fail

def oneOf (len : Nat) (parts : List (Nat × SV)) : Option SV :=
  match parts with
  | [(0, x)] => if Nat.beq len 1 then some x else none
  | _ => none

def partsOf (sz len : Nat) (z : Tr) (parts : List (Nat × SV)) : Option Tr :=
  match setParts true (fun i => some (i * sz, sz)) (.ta len z.lift) parts with
  | some r => some r
  | none => setParts false (fun i => some (i * sz, sz)) (repC z len) parts

def opBuildSlice (P : Program) (t : TypeId) (len : Nat) (parts : List (Nat × SV)) : M Eff := do
  let u ← und P t
  match u with
  | .slice e => do
    let sz ← szOf P e
    chk (Nat.ble (len * sz) 16777216)
    chk (Nat.blt 0 sz)
    chk (Nat.blt sz 1000000)
    match oneOf len parts with
    | some x => do
      let u ← opt x.tree
      let _ ← opt ((P.info? e).bind (·.zero))
      chk (Nat.beq u.size sz)
      chk u.cellOk
      let l ← newLab
      chk (below l u.labs)
      pure ⟨.v (.vl l (fun _ => 0) sz [] (fun _ => 1)), [⟨l, true, none, sz, .ta 1 u.lift⟩], [], []⟩
    | none => do
      let z ← zeroM P e
      chk (Nat.beq z.size sz)
      let r ← opt (partsOf sz len z parts)
      let l ← newLab
      chk (below l r.labs)
      pure ⟨.v (.vl l (fun _ => 0) sz [] (fun _ => len)), [⟨l, true, none, sz, r⟩], [], []⟩
  | _ => M.fail

def optI : Option SV → Option (Option Int)
  | none => some none
  | some (.v (.vi _ f)) => some (some (f []))
  | _ => none

def needO (o : Option Int) (c : Int → Bool) : M Unit := match o with | some q => need (c q) | none => pure ()

def toN (o : Option Int) (n : Nat) : Nat := match o with | some q => q.toNat | none => n
def toZ (o : Option Int) (n : Nat) : Int := match o with | some q => q | none => n

def opSlice (P : Program) (H : List Ent) (t : TypeId) (x : SV) (lo hi mx : Option SV) : M Eff := do
  chk mx.isNone
  let lo ← opt (optI lo)
  let hi ← opt (optI hi)
  let u ← und P t
  match u, x with
  | .string, .v (.vs s) => do
    needO hi fun h => decide (0 ≤ h ∧ h ≤ (s []).length)
    needO lo fun l => decide (0 ≤ l ∧ l ≤ toZ hi (s []).length)
    pure (.val (.v (.vs fun _ => ((s []).take (toN hi (s []).length)).drop (toN lo 0))))
  | .slice e, .v .vl0 => do
    let _ ← szOf P e
    needO hi fun h => h == 0
    needO lo fun l => l == 0
    pure (.val (.v .vl0))
  | .slice e, .v (.vl lab mem sz cuts len) => do
    let sz' ← szOf P e
    chk (Nat.beq sz sz')
    let (m, _, _) ← rowOf H lab (mem []) sz
    need (Nat.ble (sum cuts + len []) m)
    needO hi fun h => decide (0 ≤ h ∧ h + (sum cuts : Int) ≤ m)
    needO lo fun l => decide (0 ≤ l ∧ l ≤ toZ hi (len []))
    match lo with
    | some l => pure ⟨.v (.vl lab mem sz (cuts ++ [l.toNat]) (fun _ => toN hi (len []) - l.toNat)), [], [], [lab]⟩
    | none => pure ⟨.v (.vl lab mem sz cuts (fun _ => toN hi (len []))), [], [], [lab]⟩
  | .slice e, .v (.va lab path sz st len cap) => do
    let sz' ← szOf P e
    chk (Nat.beq sz sz')
    need (Nat.ble len cap)
    needO hi fun h => decide (0 ≤ h ∧ h ≤ len)
    match lo with
    | none => pure (.val (.v (.va lab path sz st (toN hi len) cap)))
    | some l => do
      need (decide (0 ≤ l ∧ l ≤ toZ hi len ∧ l < cap))
      pure (.val (.v (.va lab path sz (st + l.toNat) (toN hi len - l.toNat) (cap - l.toNat))))
  | .array n e, .v (.vp lab mem path) => do
    let sz ← szOf P e
    chk (Nat.beq (mem []) 0)
    needO hi fun h => decide (0 ≤ h ∧ h ≤ n)
    match lo with
    | none => pure (.val (.v (.va lab path sz 0 (toN hi n) n)))
    | some l => do
      need (decide (0 ≤ l ∧ l ≤ toZ hi n ∧ l < n))
      pure (.val (.v (.va lab path sz l.toNat (toN hi n - l.toNat) (n - l.toNat))))
  | _, _ => M.fail

/-! ### Built-in functions -/

def appF {α : Type} (N st : Nat) (f g : Ix → α) : Ix → α
  | i :: r => if i < N then f ((st + i) :: r) else g ((i - N) :: r)
  | [] => f []

def sameL : List Nat → List Nat → Bool
  | [], [] => true
  | a :: r, b :: s => match Nat.beq a b with | true => sameL r s | false => false
  | _, _ => false
theorem sameL_ok : ∀ {a b : List Nat}, sameL a b = true → a = b
  | [], [], _ => rfl
  | a :: r, b :: s, h => by
    simp only [sameL] at h
    split at h
    · rename_i e; rw [Nat.eq_of_beq_eq_true e, sameL_ok h]
    · cases h

def appT (N st : Nat) : Tr → Tr → Option Tr
  | .vb f, .vb g => some (.vb (appF N st f g))
  | .vi k f, .vi k' g => if sameK k k' then some (.vi k (appF N st f g)) else none
  | .vs f, .vs g => some (.vs (appF N st f g))
  | .vl lab mem sz cuts len, .vl lab' mem' sz' cuts' len' =>
    if Nat.beq lab lab' && Nat.beq sz sz' && cuts.isEmpty && cuts'.isEmpty then some (.vl lab (appF N st mem mem') sz [] (appF N st len len')) else none
  | .vx t ls f, .vx t' ls' g => if Nat.beq t t' && sameL ls ls' then some (.vx t ls (appF N st f g)) else none
  | .vl0, .vl0 => some .vl0
  | .ve0, .ve0 => some .ve0
  | .vp0, .vp0 => some .vp0
  | .t0, .t0 => some .t0
  | .tc a b, .tc c d => match appT N st a c, appT N st b d with | some x, some y => some (.tc x y) | _, _ => none
  | .ta n a, .ta m b => match Nat.beq n m with | true => (match appT N st a b with | some x => some (.ta n x) | none => none) | false => none
  | _, _ => none

def subIx (st : Nat) : Ix → Ix
  | j :: r => (st + j) :: r
  | [] => []

def Tr.sub (is : Ix) (st : Nat) : Tr → Tr
  | .vb f => .vb fun js => f (is ++ subIx st js)
  | .vi k f => .vi k fun js => f (is ++ subIx st js)
  | .vs f => .vs fun js => f (is ++ subIx st js)
  | .vp lab mem path => .vp lab (fun js => mem (is ++ subIx st js)) path
  | .vl lab mem sz cuts len => .vl lab (fun js => mem (is ++ subIx st js)) sz cuts (fun js => len (is ++ subIx st js))
  | .ve t v => .ve t (v.sub is st)
  | .vc t v => .vc t (v.sub is st)
  | .vx t ls f => .vx t ls fun js => f (is ++ subIx st js)
  | .tc h t => .tc (h.sub is st) (t.sub is st)
  | .ta n t => .ta n (t.sub is st)
  | t => t

def strEl (s : List UInt8) : Tr := .vi .u8 fun is => ((s.getD (is.headD 0) 0).toNat : Int)

def srcOf (P : Program) (H : List Ent) (tx : TypeId) (sz : Nat) (x : SV) : M (Nat × Tr × List Nat) := do
  match ← und P tx, x with
  | .string, .v (.vs s) => do chk (Nat.beq sz 1); pure ((s []).length, strEl (s []), [])
  | .slice _, .v (.vl lab mem sz' cuts len) => do
    chk (Nat.beq sz sz')
    let (n, t, is) ← rowOf H lab (mem []) sz
    need (Nat.ble (sum cuts + len []) n)
    pure (len [], t.sub is (sum cuts), [lab])
  | .slice _, .v (.va lab path sz' st len cap) => do
    chk (Nat.beq sz sz')
    let e ← opt (look H lab)
    let (tt, is) ← root e 0
    let (u, js, cs) ← opt (Tr.get path tt is)
    askAll cs
    match u with
    | .ta n t => do
      chk (Nat.beq t.size sz)
      need (Nat.ble (st + len) n)
      pure (len, t.sub js st, [lab])
    | _ => M.fail
  | _, _ => M.fail

def appM (k st : Nat) (u g : Tr) : M Tr :=
  match appT k st u g with
  | some r => pure r
  | none => do
    chk (Nat.beq g.size u.size)
    need (Nat.beq k 0)
    pure g

def opAppend (P : Program) (H : List Ent) (t tx : TypeId) (s x : SV) : M Eff := do
  match ← und P t with
  | .slice e => do
    let inf ← opt (P.info? e)
    let sz := inf.size
    chk (Nat.blt 0 sz)
    chk (Nat.blt 0 inf.bytes)
    let zv ← opt inf.zero
    chk (Nat.beq zv.cells.size sz)
    chk (Nat.blt sz 1000000)
    let (m, g, rd) ← srcOf P H tx sz x
    chk (Nat.beq g.size sz)
    chk g.cellOk
    match s with
    | .v .vl0 => do
      need (decide ((2 * m + 192) * inf.bytes ≤ 281474976710656))
      let l ← newLab
      chk (below l g.labs)
      pure ⟨.v (.vl l (fun _ => 0) sz [] (fun _ => m)), [⟨l, true, none, tagged sz e, .ta m g⟩], [], rd⟩
    | .v (.vl lab mem sz' cuts len) => do
      chk (Nat.beq sz sz')
      chk (Nat.beq (mem []) 0)
      let en ← opt (look H lab)
      chk en.own
      chk en.fam.isNone
      let (n, u, _) ← rowOf H lab 0 sz
      let k := len []
      need (Nat.ble (sum cuts + k) n)
      need (decide ((2 * (k + m) + 192) * inf.bytes ≤ 281474976710656))
      let r ← appM k (sum cuts) u g
      chk r.cellOk
      let l ← newLab
      chk (below l r.labs)
      pure ⟨.v (.vl l (fun _ => 0) sz [] (fun _ => k + m)), [⟨l, true, none, tagOf en.wid cuts sz e, .ta (k + m) r⟩], [lab], lab :: rd⟩
    | _ => M.fail
  | _ => M.fail

def opAppS (P : Program) (H : List Ent) (t tx : TypeId) (s x : SV) : M Eff := do
  match s, x with
  | .v .vl0, .v (.vs _) => do
    match ← und P t with
    | .slice e => do
      let inf ← opt (P.info? e)
      let (m, g, rd) ← srcOf P H tx inf.size x
      if ← ask (Nat.beq m 0) then do
        chk (Nat.blt 0 inf.size)
        chk g.cellOk
        chk (Nat.beq g.size inf.size)
        pure ⟨.v .vl0, [], [], rd⟩
      else opAppend P H t tx s x
    | _ => M.fail
  | _, _ => opAppend P H t tx s x

def cpyF {α : Type} (k st : Nat) (f g : Ix → α) : Ix → α
  | i :: r => if st ≤ i ∧ i < st + k then g ((i - st) :: r) else f (i :: r)
  | [] => f []

def cpyT (k st : Nat) : Tr → Tr → Option Tr
  | .vb f, .vb g => some (.vb (cpyF k st f g))
  | .vi k1 f, .vi k2 g => if sameK k1 k2 then some (.vi k1 (cpyF k st f g)) else none
  | .vs f, .vs g => some (.vs (cpyF k st f g))
  | .t0, .t0 => some .t0
  | .tc a b, .tc c d => match cpyT k st a c, cpyT k st b d with | some x, some y => some (.tc x y) | _, _ => none
  | _, _ => none

def opCpy (P : Program) (H : List Ent) (t tx : TypeId) (d x : SV) : M Eff := do
  match ← und P t with
  | .slice e => do
    let sz ← szOf P e
    chk (Nat.blt 0 sz)
    let (m, g, rd) ← srcOf P H tx sz x
    chk (Nat.beq g.size sz)
    chk g.cellOk
    match d with
    | .v (.vl lab mem sz' cuts len) => do
      chk (Nat.beq sz sz')
      chk (Nat.beq (mem []) 0)
      need (Nat.ble m (len []))
      let en ← opt (look H lab)
      chk en.own
      chk en.fam.isNone
      let (n, u, _) ← rowOf H lab 0 sz
      need (Nat.ble (sum cuts + len []) n)
      let r ← opt (cpyT m (sum cuts) u g)
      pure ⟨.v (.vi .i64 fun _ => m), [{ en with t := .ta n r }], [], lab :: rd⟩
    | .v (.va lab path sz' st len cap) => do
      chk (Nat.beq sz sz')
      need (Nat.ble m len)
      let en ← opt (look H lab)
      chk en.own
      chk en.fam.isNone
      let (tt, js, cs) ← opt (Tr.get path en.t [])
      askAll cs
      chk js.isEmpty
      match tt with
      | .ta n u => do
        chk (Nat.beq u.size sz)
        need (Nat.ble (st + len) n)
        let r ← opt (cpyT m st u g)
        let t' ← opt (Tr.set path en.t [] (.ta n r))
        pure ⟨.v (.vi .i64 fun _ => m), [{ en with t := t' }], [], lab :: rd⟩
      | _ => M.fail
    | _ => M.fail
  | _ => M.fail

def opStrB (P : Program) (src e : TypeId) (s : List UInt8) : M Eff := do
  let _ ← und P src
  match ← und P e with
  | .int .u8 => do
    let l ← newLab
    pure ⟨.v (.vl l (fun _ => 0) 1 [] (fun _ => s.length)), [⟨l, true, none, 1, .ta s.length (strEl s)⟩], [], []⟩
  | _ => M.fail

def opConv (P : Program) (H : List Ent) (src dst : TypeId) (x : SV) : M Eff := do
  match ← und P dst, x with
  | .slice e, .v (.vs f) => opStrB P src e (f [])
  | _, _ => opConvert P H src dst x

def opLen (P : Program) (t : TypeId) (x : SV) : M Eff := do
  match ← und P t, x with
  | .string, .v (.vs s) => pure (.val (.v (.vi .i64 fun _ => (s []).length)))
  | .slice _, .v (.vl _ _ _ _ len) => pure (.val (.v (.vi .i64 fun _ => len [])))
  | .slice _, .v (.va _ _ _ _ len _) => pure (.val (.v (.vi .i64 fun _ => len)))
  | .slice _, .v .vl0 => pure (.val (.v (.vi .i64 fun _ => 0)))
  | .array n _, _ => pure (.val (.v (.vi .i64 fun _ => n)))
  | _, _ => M.fail

def opCap (P : Program) (t : TypeId) (x : SV) : M Eff := do
  match ← und P t, x with
  | .slice _, .v .vl0 => pure (.val (.v (.vi .i64 fun _ => 0)))
  | .slice _, .v (.va _ _ _ _ _ cap) => pure (.val (.v (.vi .i64 fun _ => (cap : Int))))
  | _, _ => M.fail

def opMinMax (mx : Bool) (args : List SV) : M Eff := do
  match args with
  | [.v (.vi k f), .v (.vi k' g)] => do
    chk (sameK k k')
    match mx with
    | true => pure (.val (.v (.vi k fun _ => if g [] > f [] then g [] else f [])))
    | false => pure (.val (.v (.vi k fun _ => if g [] < f [] then g [] else f [])))
  | _ => M.fail

def opMakeInterface (P : Program) (t : TypeId) (x : SV) : M Eff := do
  match ← und P t, x with
  | .interface _, _ => M.fail
  | _, .v u => do chk u.leaf; pure (.val (.v (.ve t u)))
  | _, _ => M.fail

def opMakeFunc (fn : Fn) (first : List Operand) (captured : List SV) : M Eff :=
  match fn, first, captured with
  | .func f, [], [x] =>
    match x.un with
    | .v u => do chk u.leaf; pure (.val (.v (.vc f u)))
    | _ => M.fail
  | _, _, _ => M.fail

def opMakeSlice (P : Program) (t : TypeId) (len cap : SV) : M Eff := do
  match ← und P t, len, cap with
  | .slice e, .v (.vi .i64 f), .v (.vi .i64 g) => do
    let inf ← opt (P.info? e)
    let sz := inf.size
    chk (Nat.blt 0 sz)
    chk (Nat.blt 0 inf.bytes)
    let z ← zeroM P e
    chk (Nat.beq z.size sz)
    chk (Nat.blt sz 1000000)
    need (decide (0 ≤ f [] ∧ f [] ≤ g []))
    need (decide (inf.bytes * (g []) ≤ 281474976710656))
    let l ← newLab
    pure ⟨.v (.vl l (fun _ => 0) sz [] (fun _ => (f []).toNat)), [⟨l, true, none, sz, .ta (g []).toNat z.lift⟩], [], []⟩
  | _, _, _ => M.fail

def opAppZ (P : Program) (t : TypeId) (s x : SV) : M Eff := do
  match ← und P t, s, x with
  | .slice e, .v .vl0, .v (.vi .i64 f) => do
    let inf ← opt (P.info? e)
    let sz := inf.size
    chk (Nat.blt 0 sz)
    chk (Nat.blt 0 inf.bytes)
    let z ← zeroM P e
    chk (Nat.beq z.size sz)
    chk (Nat.blt sz 1000000)
    need (decide (1 ≤ f []))
    need (decide (inf.bytes * (f []) ≤ 281474976710656))
    let l ← newLab
    pure ⟨.v (.vl l (fun _ => 0) sz [] (fun _ => (f []).toNat)), [⟨l, true, none, sz, .ta (f []).toNat z.lift⟩], [], []⟩
  | _, _, _ => M.fail

def evBuiltin (P : Program) (H : List Ent) (b : Builtin) (ts : List TypeId) (args : List SV) : M Eff := do
  match b, ts, args with
  | .len, [t], [x] => opLen P t x
  | .cap, [t], [x] => opCap P t x
  | .append, [t, tx], [s, x] => do
    match ← und P tx with
    | .int _ => opAppZ P t s x
    | _ => opAppS P H t tx s x
  | .copy, [t, tx], [d, x] => opCpy P H t tx d x
  | .max, _, args => opMinMax true args
  | .min, _, args => opMinMax false args
  | _, _, _ => M.fail

def nilChk (x : SV) : M Eff := do
  match x with
  | .v (.vp lab mem path) => pure (.val (.v (.vp lab mem path)))
  | _ => M.fail

def nilTest : BinOp → SV → SV → Option Bool
  | .eql, .v (.vl _ _ _ _ _), .v .vl0 => some false
  | .neq, .v (.vl _ _ _ _ _), .v .vl0 => some true
  | _, _, _ => none
def opNil (P : Program) (H : List Ent) (neg : Bool) (t : TypeId) (x : SV) : M Eff := do
  let u ← und P t
  chk (isSlice u)
  match x with
  | .v (.vl lab mem sz cuts len) => do
    let (m, _, _) ← rowOf H lab (mem []) sz
    need (Nat.blt 0 (len []))
    need (Nat.ble (sum cuts + len []) m)
    pure ⟨.v (.vb fun _ => neg), [], [], [lab]⟩
  | _ => M.fail

def evOp (P : Program) (env : List SV) (H : List Ent) (o : Op) : M Eff := do
  match o with
  | .move x => pure (.val (opd P env x))
  | .assign x => pure (.val (opd P env x))
  | .pick c a b => do
    match opd P env c with
    | .lb true => pure (.val (opd P env a))
    | .lb false => pure (.val (opd P env b))
    | .v (.vb f) => do
      if ← ask (f []) then pure (.val (opd P env a)) else pure (.val (opd P env b))
    | _ => M.fail
  | .alloc t => do let z ← zeroM P t; opBox t z
  | .box ty x => do let t ← opt (opd P env x).tree; opBox ty t
  | .build t parts => opBuild P t (parts.toList.map fun p => (p.1, opd P env p.2))
  | .buildSlice t len parts => opBuildSlice P t len (parts.toList.map fun p => (p.1, opd P env p.2))
  | .load t a => opLoad P H t (opd P env a)
  | .store t a x => opStore P H t (opd P env a) (opd P env x)
  | .nilCheck x => nilChk (opd P env x)
  | .binOp op t x y _ => match nilTest op (opd P env x) (opd P env y) with
    | some neg => opNil P H neg t (opd P env x)
    | none => opBin P op t (opd P env x).un (opd P env y).un (isConst x || isConst y)
  | .unOp op _ x => opUn op (opd P env x)
  | .convert s d x => opConv P H s d (opd P env x)
  | .makeInterface t x => opMakeInterface P t (opd P env x).un
  | .makeSlice t l c => opMakeSlice P t (opd P env l) (opd P env c)
  | .makeFunc fn first captured => opMakeFunc fn first.toList (captured.toList.map (opd P env))
  | .slice t x lo hi mx => opSlice P H t (opd P env x) (lo.map (opd P env)) (hi.map (opd P env)) (mx.map (opd P env))
  | .fieldAddr s x f => opFieldAddr P s (opd P env x) f
  | .field s x f => opField P s (opd P env x) f
  | .indexAddr t x i => opIndexAddr P H t (opd P env x) (opd P env i)
  | .index t x i => opIndex P t (opd P env x) (opd P env i)
  | .extract x i => opExtract (opd P env x) i
  | .call { callee := .builtin b, args, argTypes } => evBuiltin P H b argTypes.toList (args.toList.map (opd P env))
  | _ => M.fail

end Go.Sx
