/- The engine, part 4: regions, code, calls. -/
import Derived.Test.YtankmgnjkcgpaaaDoorSy3
set_option linter.unusedSimpArgs false
set_option linter.unusedVariables false
namespace Go.Sx

structure Rec where
  dst : Option Nat
  looks : List Nat
  rd : List Nat
  wr : List Nat
  out : List Nat

def memN : Nat → List Nat → Bool
  | _, [] => false
  | n, m :: r => if Nat.beq n m then true else memN n r

def meets : List Nat → List Nat → Bool
  | [], _ => false
  | n :: r, l => if memN n l then true else meets r l

def optMem : Option Nat → List Nat → Bool
  | none, _ => false
  | some n, l => memN n l

def optMeet : Option Nat → Option Nat → Bool
  | some a, some b => Nat.beq a b
  | _, _ => false

def conflict (a b : Rec) : Bool :=
  optMem a.dst b.looks || optMem b.dst a.looks || optMeet a.dst b.dst ||
  meets a.wr b.rd || meets a.wr b.wr || meets a.rd b.wr || meets a.wr b.out

def edgesOf (o : Oper) : List Nat := (o.after.toList.filter (Region.binds .any)).map (·.on)

def reaches (es : List (List Nat)) : Nat → Nat → Nat → Bool
  | 0, _, _ => false
  | n + 1, i, j => ((nth es j).getD []).any fun k => if Nat.beq k i then true else reaches es n i k

def pairsOk (es : List (List Nat)) (n : Nat) (j : Nat) (b : Rec) : Nat → List Rec → Bool
  | _, [] => true
  | i, a :: r => if Nat.blt i j then (if conflict a b then (if reaches es n i j then pairsOk es n j b (i + 1) r else false) else pairsOk es n j b (i + 1) r) else true

def allPairs (es : List (List Nat)) (n : Nat) (l : List Rec) : Nat → List Rec → Bool
  | _, [] => true
  | j, b :: r => if pairsOk es n j b 0 l then allPairs es n l (j + 1) r else false

def tmpsOf : List Operand → List Nat
  | [] => []
  | .tmp t :: r => t :: tmpsOf r
  | _ :: r => tmpsOf r

def dstAt (ops : List Oper) (j : Nat) : Option Nat := match nth ops j with | some o => o.dst | none => none

def looksOf (ops : List Oper) (o : Oper) : List Nat :=
  tmpsOf o.op.operands.toList ++ (match o.guard with | some (j, _) => (match dstAt ops j with | some d => [d] | none => []) | none => [])

def putS (env : List SV) (d : Option Nat) (v : SV) : List SV :=
  match d with
  | some n => setN env n v
  | none => env

def applyE (H : List Ent) (e : Eff) : List Ent := e.upd.foldl putE (e.drop.foldl dropE H)

def entsBelow (n : Nat) : List Ent → Bool
  | [] => true
  | e :: r => if Nat.blt e.lab n then (if below n e.t.labs then entsBelow n r else false) else false

def upto (a : Nat) : Nat → List Nat
  | 0 => []
  | n + 1 => a :: upto (a + 1) n

def closure (H : List Ent) : Nat → List Nat → List Nat
  | 0, l => l
  | n + 1, l =>
    let more := (H.filter fun e => memN e.lab l).flatMap fun e => e.t.labs.filter fun x => !memN x l
    match more with
    | [] => l
    | _ => closure H n (l ++ more)

def labsSV : List SV → List Nat
  | [] => []
  | x :: r => x.labs ++ labsSV r

def withShared (H : List Ent) (l : List Nat) : List Nat := l ++ (H.filter fun e => !e.own).map (·.lab)

def dedup : List Nat → List Nat
  | [] => []
  | n :: r => if memN n r then dedup r else n :: dedup r

def nodupB : List Nat → Bool
  | [] => true
  | n :: r => if memN n r then false else nodupB r

def partL (H : List Ent) : List Nat → List Ent
  | [] => []
  | l :: r => match look H l with | some e => e :: partL H r | none => partL H r

inductive Out where
  | more (todo : List Item) (env : List SV) (H : List Ent) (nl : Nat)
  | ret (v : SV) (H : List Ent) (nl : Nat)

def nlOf : M Nat := fun x => .ok x.nl [] x

abbrev Summ := List SV → List Ent → M Eff

def sumOf : List (FuncId × Summ) → FuncId → Option Summ
  | [], _ => none
  | (f, s) :: r, g => if Nat.beq f g then some s else sumOf r g

def envOf (args : List SV) (n : Nat) : List SV := args ++ List.replicate (n - args.length) (.tup [])

def evCall (P : Program) (S : List (FuncId × Summ)) (go : FuncId → List Item → List SV → List Ent → M Out) (H : List Ent) (f : FuncId) (args : List SV) : M Eff := do
  match sumOf S f with
  | some s => s args H
  | none => do
    let fn ← opt P.funcs[f]?
    let body ← opt fn.body
    let ls := dedup (withShared H (closure H 8 (labsSV args)))
    let H0 := partL H ls
    match ← go f [.code body] (envOf args fn.ntmps) H0 with
    | .ret v H' _ => do
      let upd := H'.filter fun e => match look H0 e.lab with | some e0 => e0.own | none => true
      chk (nodupB (H'.map (·.lab)))
      chk (upd.all (·.own))
      pure ⟨v, upd, (H0.filter fun e => e.own && (look H' e.lab).isNone).map (·.lab), H0.map (·.lab)⟩
    | .more _ _ _ _ => M.fail

def calleeOf (P : Program) (env : List SV) (c : Call) : Option FuncId :=
  match c.callee with
  | .value x => match opd P env x with
    | .v (.vr (.func (.func f) first captured)) => if first.isEmpty && captured.isEmpty then some f else none
    | _ => none
  | _ => none

def closOf (P : Program) (env : List SV) (c : Call) : Option (FuncId × Tr) :=
  match c.callee with
  | .value x => match opd P env x with
    | .v (.vc f u) => some (f, u)
    | _ => none
  | _ => none

/-! ### Rows of rows: a new element's own row goes into the family of the others' -/

def tornOf : Tr → Tr → Option (Nat × Option Nat)
  | .vl lab _ sz cuts _, .vl lab' mem' sz' cuts' _ =>
    if Nat.beq lab lab' then none else if Nat.beq sz sz' && cuts.isEmpty && cuts'.isEmpty && Nat.beq (mem' [0]) 0 then some (lab, some lab') else none
  | .vl lab _ _ cuts _, .vl0 => if cuts.isEmpty then some (lab, none) else none
  | .tc a b, .tc c d => match tornOf a c with | some r => some r | none => tornOf b d
  | _, _ => none

def isTorn : Option (Nat × Option Nat) → Nat → Option Nat → Bool
  | some (a, none), F, none => Nat.beq a F
  | some (a, some b), F, some l => Nat.beq a F && Nat.beq b l
  | _, _, _ => false

def Tr.onF (F G : Nat) : Tr → Tr
  | .vl lab mem sz cuts len => if Nat.beq lab F then .vl G (fun is => mem is + 1) sz cuts len else .vl lab mem sz cuts len
  | .tc a b => .tc (a.onF F G) (b.onF F G)
  | .ta n t => .ta n (t.onF F G)
  | t => t

def tear (G : Nat) : Tr → Tr → Tr
  | .vl lab _ sz cuts _, .vl lab' mem' sz' cuts' len' =>
    if Nat.beq lab lab' then .vl lab' mem' sz' cuts' len' else if Nat.beq sz sz' && cuts.isEmpty && cuts'.isEmpty && Nat.beq (mem' [0]) 0 then .vl G (fun _ => 0) sz' [] len' else .vl lab' mem' sz' cuts' len'
  | .vl _ _ sz cuts _, .vl0 => if cuts.isEmpty then .vl G (fun _ => 0) sz [] (fun _ => 0) else .vl0
  | .tc a b, .tc c d => match tornOf a c with | some _ => .tc (tear G a c) d | none => .tc c (tear G b d)
  | _, t => t

def consF {α : Type} (f g : Ix → α) : Ix → α
  | 0 :: r => f r
  | (m + 1) :: r => g (m :: r)
  | [] => g []

def consT : Tr → Tr → Option Tr
  | .vb f, .vb g => some (.vb (consF f g))
  | .vi k f, .vi k' g => if sameK k k' then some (.vi k (consF f g)) else none
  | .vs f, .vs g => some (.vs (consF f g))
  | .t0, .t0 => some .t0
  | .tc a b, .tc c d => match consT a c, consT b d with | some x, some y => some (.tc x y) | _, _ => none
  | _, _ => none

def consN (k : Nat) (ls : Nat → Nat) : Nat → Nat
  | 0 => k
  | m + 1 => ls m

def joinF (nl : Nat) (f : Ent) (c : Nat) (ls : Nat → Nat) (k : Nat) (t : Tr) : Ent := ⟨nl, true, some (c + 1, consN k ls), wd f.wid, t⟩

def joinOf (H : List Ent) (s x : SV) (nl : Nat) : Option Eff :=
  match s, x with
  | .v (.vl R _ _ _ _), .v (.vl X _ _ _ _) =>
    match look H R, look H X with
    | some r, some q =>
      match r.t, q.t with
      | .ta n u, .ta m g =>
        if r.own && q.own && r.fam.isNone && q.fam.isNone && (tornOf u g).isSome && Nat.beq m 1 && !(Nat.beq R X) then
          match tornOf u g with
          | some (F, L) =>
            match look H F with
            | some f =>
              match f.fam with
              | some (c, ls) =>
                if f.own && !(Nat.beq F R) && !(Nat.beq F X) && f.t.labs.isEmpty then
                  match L with
                  | none =>
                    match consT f.t f.t with
                    | some t => if isTorn (tornOf u (g.onF F nl)) F none then some ⟨.junk, [joinF nl f c ls 0 t, { r with t := .ta n (u.onF F nl) }, { q with t := .ta m (tear nl u (g.onF F nl)) }], [F], [R, X, F]⟩ else none
                    | none => none
                  | some l =>
                    match look H l with
                    | some e =>
                      match e.t with
                      | .ta k v =>
                        if e.own && e.fam.isNone && Nat.beq (wd e.wid) (wd f.wid) && v.labs.isEmpty && !(Nat.beq l R) && !(Nat.beq l X) && !(Nat.beq l F) then
                          match consT v f.t with
                          | some t => if isTorn (tornOf u (g.onF F nl)) F (some l) then some ⟨.junk, [joinF nl f c ls k t, { r with t := .ta n (u.onF F nl) }, { q with t := .ta m (tear nl u (g.onF F nl)) }], [F, l], [R, X, F, l]⟩ else none
                          | none => none
                        else none
                      | _ => none
                    | none => none
                else none
              | none => none
            | none => none
          | none => none
        else none
      | _, _ => none
    | _, _ => none
  | _, _ => none

def seqE (a b : Eff) : Eff :=
  ⟨b.v, b.upd ++ a.upd.filter (fun x => !(memN x.lab (b.upd.map (·.lab))) && !(memN x.lab b.drop)), a.drop ++ b.drop, a.rd ++ b.rd⟩

def evJoin (P : Program) (env : List SV) (s x : SV) (o : Op) : Nat → List Ent → M Eff
  | 0, H => evOp P env H o
  | n + 1, H => do
    let nl ← nlOf
    match joinOf H s x nl with
    | none => evOp P env H o
    | some a => do
      let _ ← newLab
      chk (nodupB (a.upd.map (·.lab)))
      chk (entsBelow (nl + 1) a.upd)
      let b ← evJoin P env s x o n (applyE H a)
      chk (nodupB (b.upd.map (·.lab)))
      pure (seqE a b)

def appArgs (c : Call) : Option (Operand × Operand) :=
  match c.callee with
  | .builtin .append => match c.args.toList with | [s, x] => some (s, x) | _ => none
  | _ => none

def evOper (P : Program) (S : List (FuncId × Summ)) (go : FuncId → List Item → List SV → List Ent → M Out) (env : List SV) (H : List Ent) (o : Op) : M Eff := do
  match o with
  | .call c =>
    match calleeOf P env c with
    | some f =>
      match extOf P f with
      | some k => evExt k H (c.args.toList.map (opd P env))
      | none => evCall P S go H f (c.args.toList.map (opd P env))
    | none =>
      match closOf P env c with
      | some (f, u) => evCall P S go H f (c.args.toList.map (opd P env) ++ [.v u])
      | none =>
        match appArgs c with
        | some (s, x) => evJoin P env (opd P env s) (opd P env x) o 3 H
        | none => evOp P env H o
  | _ => evOp P env H o

def evGuard (ops : List Oper) (env : List SV) (o : Oper) : M (Bool × List SV) := do
  match o.guard with
  | none => pure (true, env)
  | some (j, want) =>
    match dstAt ops j with
    | none => M.fail
    | some d =>
      match nth env d with
      | some (.lb b) => pure (b == want, env)
      | some (.v (.vb f)) => do
        let b ← ask (f [])
        pure (b == want, setN env d (.lb b))
      | some (.tup []) => pure (false, env)
      | _ => M.fail

def evRegionL (P : Program) (S : List (FuncId × Summ)) (go : FuncId → List Item → List SV → List Ent → M Out) (ops : List Oper) : List Oper → List SV → List Ent → M (List SV × List Ent × List Rec)
  | [], env, H => pure (env, H, [])
  | o :: r, env, H => do
    let n ← nlOf
    let (w, env) ← evGuard ops env o
    match w with
    | false => do
      let (env', H', rs) ← evRegionL P S go ops r (putS env o.dst (.tup [])) H
      pure (env', H', ⟨o.dst, looksOf ops o, [], [], []⟩ :: rs)
    | true => do
      let e ← evOper P S go env H o.op
      let m ← nlOf
      chk (below m e.v.labs)
      chk (entsBelow m e.upd)
      chk (nodupB (e.upd.map (·.lab)))
      let (env', H', rs) ← evRegionL P S go ops r (putS env o.dst e.v) (applyE H e)
      pure (env', H', ⟨o.dst, looksOf ops o, e.rd, (e.upd.map (·.lab) ++ e.drop) ++ upto n (m - n), e.v.labs ++ e.upd.flatMap (·.t.labs)⟩ :: rs)

def edgesBack : Nat → List (List Nat) → Bool
  | _, [] => true
  | i, l :: r => if below i l then edgesBack (i + 1) r else false

def evRegion (P : Program) (S : List (FuncId × Summ)) (go : FuncId → List Item → List SV → List Ent → M Out) (ops : List Oper) (draw : Bool) (env : List SV) (H : List Ent) : M (List SV × List Ent) := do
  let (env', H', rs) ← evRegionL P S go ops ops env H
  match draw with
  | false => pure (env', H')
  | true => do
    chk (edgesBack 0 (ops.map edgesOf))
    chk (allPairs (ops.map edgesOf) ops.length rs 0 rs)
    pure (env', H')

def resOf (P : Program) (env : List SV) (H : List Ent) : List ResultVar → M (List (Bool × Tr))
  | [] => pure []
  | .tmp t :: r => do
    match ((nth env t).getD .junk).un with
    | .v x => do let l ← resOf P env H r; pure ((false, x) :: l)
    | .agg x => do let l ← resOf P env H r; pure ((true, x) :: l)
    | _ => M.fail
  | .cell a t :: r => do
    let e ← opLoad P H t ((nth env a).getD .junk)
    match e.v with
    | .v x => do let l ← resOf P env H r; pure ((false, x) :: l)
    | .agg x => do let l ← resOf P env H r; pure ((true, x) :: l)
    | _ => M.fail

def resultsOf (P : Program) (f : FuncId) (env : List SV) (H : List Ent) : M Out := do
  let fn ← opt P.funcs[f]?
  let l ← resOf P env H fn.results.toList
  let n ← nlOf
  match l with
  | [(false, t)] => pure (.ret (.v t) H n)
  | [(true, t)] => pure (.ret (.agg t) H n)
  | l => pure (.ret (.tup l) H n)

def evStep (P : Program) (S : List (FuncId × Summ)) (go : FuncId → List Item → List SV → List Ent → M Out) (f : FuncId) (todo : List Item) (env : List SV) (H : List Ent) : M Out := do
  match todo with
  | [] => resultsOf P f env H
  | .code .ret :: _ => resultsOf P f env H
  | .code .skip :: k => do let n ← nlOf; pure (.more k env H n)
  | .code (.label _) :: k => do let n ← nlOf; pure (.more k env H n)
  | .inBlock _ :: k => do let n ← nlOf; pure (.more k env H n)
  | .inScope _ :: k => do let n ← nlOf; pure (.more k env H n)
  | .code (.seq a b) :: k => do let n ← nlOf; pure (.more (.code a :: .code b :: k) env H n)
  | .code (.cond c x y) :: k => do
    match opd P env c with
    | .lb true => do let n ← nlOf; pure (.more (.code x :: k) env H n)
    | .lb false => do let n ← nlOf; pure (.more (.code y :: k) env H n)
    | .v (.vb g) => do
      let b ← ask (g [])
      let n ← nlOf
      match b with
      | true => pure (.more (.code x :: k) env H n)
      | false => pure (.more (.code y :: k) env H n)
    | _ => M.fail
  | .code (.block id body) :: k => do let n ← nlOf; pure (.more (.code body :: .inBlock id :: k) env H n)
  | .code (.loop body) :: k => do let n ← nlOf; pure (.more (.code body :: .inLoop body :: k) env H n)
  | .inLoop body :: k => do let n ← nlOf; pure (.more (.code body :: .inLoop body :: k) env H n)
  | .code (.scope body) :: k => do let n ← nlOf; pure (.more (.code body :: .inScope body :: k) env H n)
  | .code (.exit id) :: k => do let k' ← opt (exitTo id k); let n ← nlOf; pure (.more k' env H n)
  | .code (.goto l) :: k => do let k' ← opt (gotoIn l k); let n ← nlOf; pure (.more k' env H n)
  | .code (.region id ops draw) :: k => do
    let (env', H') ← evRegion P S go ops.toList draw env H
    let n ← nlOf
    pure (.more k env' H' n)
  | _ => M.fail

def evRun (P : Program) (S : List (FuncId × Summ)) : Nat → FuncId → List Item → List SV → List Ent → M Out
  | 0, _, _, _, _ => M.fail
  | n + 1, f, todo, env, H => do
    match ← evStep P S (evRun P S n) f todo env H with
    | .ret v H' m => pure (.ret v H' m)
    | .more todo' env' H' _ => evRun P S n f todo' env' H'

end Go.Sx
