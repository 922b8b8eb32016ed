import Derived.Test.YtdnedangfnincaaAbsA
namespace Go.Abs
set_option linter.unusedVariables false
set_option linter.unusedSimpArgs false
noncomputable section

def gnd1 : Value → Bool
  | .bool _ | .int _ _ | .string _ | .pointer none | .slice none 0 0 | .map none | .chan none | .nilFunc | .nilIface => true
  | _ => false
def gnd : Value → Bool
  | .agg cs => cs.toList.all gnd1
  | v => gnd1 v
def okArg (gl : Nat → Bool) : Operand → Bool
  | .tmp _ => true
  | .const v => gnd v
  | .global g => gl g
  | .func _ => true

def cA : Operand → Arg
  | .tmp t => bif Nat.blt t 4000 then .t (path t) else .v UV
  | .const v => .v v
  | .global g => .v (.pointer (some ⟨g, 0, none⟩))
  | .func f => .v (.func (.func f) #[] #[])
def cAs (l : List Operand) : List Arg := l.map cA
def isAggT (P : Program) (t : TypeId) : Option Bool :=
  match P.underlying t with
  | some (.struct _) | some (.array _ _) => some true
  | some _ => some false
  | none => none
def sizeT (P : Program) (t : TypeId) : Option Nat := (P.info? t).map (·.size)
def bytesT (P : Program) (t : TypeId) : Option Nat := (P.info? t).map (·.bytes)
def gndCells : Value → Option (List Value)
  | .agg cs => if cs.toList.all gnd1 then some cs.toList else none
  | v => if gnd1 v then some [v] else none
def zeroT (P : Program) (t : TypeId) : Option (List Value) := ((P.info? t).bind (·.zero)).bind gndCells
def isIntT (P : Program) (t : TypeId) : Bool := match P.underlying t with | some (.int _) => true | _ => false
def isByteT (P : Program) (t : TypeId) : Bool := match P.underlying t with | some (.int .u8) => true | _ => false

/-- the ways in which a struct's fields are compared, if it has but scalars -/
def eqOf (P : Program) (t : TypeId) : Option EqF :=
  match P.underlying t with
  | some (.int _) => some eqN
  | some .bool => some eqB
  | some .string => some eqT
  | _ => none
def flat (P : Program) : List Field → Option (List (Nat × EqF))
  | [] => some []
  | f :: fs => if f.name = "_" then none else match eqOf P f.type with
    | none => none
    | some g => match flat P fs with
      | none => none
      | some l => some ((f.offset, g) :: l)

/-- the kind of a map's keys: whole numbers, or strings -/
def keyT (P : Program) (t : TypeId) : Option (Option IntKind) := match P.underlying t with
  | some (.int k) => some (some k)
  | some .string => some none
  | _ => none
def zeroV (P : Program) (t : TypeId) : Option Value := ((P.info? t).bind (·.zero)).bind fun v => if gnd v then some v else none
def callArgs (c : Call) : List Operand := c.args.toList

def binF : BinOp → Value → Value → Option Value
  | .add => int2 addO | .sub => int2 subO | .mul => int2 mulO | .quo => int2 quoO | .rem => int2 remO
  | .and => int2 andO | .or => int2 orO | .xor => int2 xorO | .andNot => int2 andNotO
  | .eql => int2 (cmpO eqI) | .neq => int2 (cmpO neI) | .lss => int2 (cmpO ltI) | .leq => int2 (cmpO leI) | .gtr => int2 (cmpO gtI) | .geq => int2 (cmpO geI)
  | .shl => sh2 shlO | .shr => sh2 shrO
def strF : BinOp → Option (Value → Value → Option Value)
  | .add => some (str2 catO)
  | .eql => some (str2 (cmpS eqBytes)) | .neq => some (str2 (cmpS neBytes)) | .lss => some (str2 (cmpS ltBytes)) | .leq => some (str2 (cmpS leBytes)) | .gtr => some (str2 (cmpS gtBytes)) | .geq => some (str2 (cmpS geBytes))
  | _ => none

def cBuiltin (P : Program) (b : Builtin) (ts : Array TypeId) (args : List Operand) : Option OpF :=
  match b, args with
  | .append, [s, x] => do
    let [t, u] := ts.toList | none
    let .slice e ← P.underlying t | none
    let z ← zeroT P e
    let n ← sizeT P e
    if z.length ≠ n then none else
    match ← P.underlying u with
    | .slice _ | .string => some (oAppend n (← bytesT P e) (cA s) (cA x))
    | _ => none
  | .copy, [d, s] => do
    let [t, _] := ts.toList | none
    let .slice e ← P.underlying t | none
    some (oCopy (← sizeT P e) (cA d) (cA s))
  | .len, [x] => do
    let t ← ts[0]?
    match ← P.underlying t with
    | .string => some (oLenS (cA x))
    | .slice _ => some (oLenL (cA x))
    | .array n _ => some (oLenC n)
    | .map _ _ => some (oLenM (cA x))
    | _ => none
  | .cap, [x] => do
    let t ← ts[0]?
    match ← P.underlying t with
    | .slice _ => some (oCap (cA x))
    | _ => none
  | .min, x :: xs => some (oMM false (cA x) (cAs xs))
  | .max, x :: xs => some (oMM true (cA x) (cAs xs))
  | _, _ => none

def cParts (places : Nat → Option (Nat × Nat)) (parts : List (Nat × Operand)) : Option (List (Nat × Nat × Arg)) :=
  parts.mapM fun (i, x) => (places i).bind fun (o, n) => if n = 0 then none else some (o, n, cA x)

def eqO (f : Value → Value → Option Bool) (op : BinOp) (x y : Operand) : Option OpF :=
  match op with | .eql => some (oEqv f false (cA x) (cA y)) | .neq => some (oEqv f true (cA x) (cA y)) | _ => none

def cOp (P : Program) (gl : Nat → Bool) (ex : FuncId → Option (List Value → Option Value)) (o : Oper) : Option OpF :=
  if !o.op.operands.all (okArg gl) then none else
  match o.op with
  | .move x | .assign x => some (oMov (cA x))
  | .pick c a b => some (oPick (cA c) (cA a) (cA b))
  | .alloc t => do some (oNew (← zeroT P t))
  | .box _ x => some (oBox (cA x))
  | .build t parts => do
    let z ← zeroT P t
    match ← P.underlying t with
    | .struct fs =>
      let ps ← cParts (fun i => do let f ← fs[i]?; some (f.offset, ← sizeT P f.type)) parts.toList
      if fs.toList.all fun f => (P.info? f.type).isSome then some (oBuild z ps) else none
    | .array _ e =>
      let n ← sizeT P e
      some (oBuild z (← cParts (fun i => some (i * n, n)) parts.toList))
    | _ => none
  | .buildSlice t n parts => do
    let .slice e ← P.underlying t | none
    let size ← sizeT P e
    let z ← zeroT P e
    if size = 0 ∨ z.length ≠ size ∨ n * size > 2 ^ 24 then none else
    some (oBuildSlice n (rep n z) (← cParts (fun i => some (i * size, size)) parts.toList))
  | .load t a => do if ← isAggT P t then some (oLoadN (← sizeT P t) (cA a)) else some (oLoad1 (cA a))
  | .store t a x => do if (← sizeT P t) = 0 then none else some (oStore (← sizeT P t) (cA a) (cA x))
  | .nilCheck x => some (oNilCheck (cA x))
  | .binOp op t x y _ =>
    match P.underlying t with
    | some (.int _) => some (oBin (binF op) (cA x) (cA y))
    | some .string => (strF op).map fun f => oBin f (cA x) (cA y)
    | some (.struct fs) => do
      if P.eqGuardType P.depth t || P.stoodInHeld t then none else
      let l ← flat P fs.toList
      match op with | .eql => some (oEqs false l (cA x) (cA y)) | .neq => some (oEqs true l (cA x) (cA y)) | _ => none
    | some .bool => eqO eqB op x y
    | some (.pointer _) => eqO eqP op x y
    | some (.slice _) => eqO eqL op x y
    | some (.func _ _ _) => eqO eqF op x y
    | some (.map _ _) => eqO eqM op x y
    | _ => none
  | .unOp op _ x => match op with | .neg => some (oNeg (cA x)) | .xor => some (oCompl (cA x)) | .not => some (oNot (cA x)) | .plus => none
  | .convert src dst x => do
    match ← P.underlying src, ← P.underlying dst with
    | .int _, .int k => some (oConv k (cA x))
    | .string, .string => some (oSame (cA x))
    | .slice e, .string => if isByteT P e then some (oBytesStr (cA x)) else none
    | _, _ => none
  | .makeInterface t x => match P.underlying t with | some (.interface _) => none | some _ => some (oIface t (cA x)) | none => none
  | .makeFunc fn a b => some (oFunc fn (cAs a.toList) (cAs b.toList))
  | .makeSlice t l c => do
    let .slice e ← P.underlying t | none
    if (← zeroT P e).length = (← sizeT P e) then some (oMakeSlice (← sizeT P e) (← bytesT P e) (← zeroT P e) (cA l) (cA c)) else none
  | .slice t x lo hi mx => do
    match ← P.underlying t with
    | .string => if mx.isSome then none else some (oSliceS (cA x) (lo.map cA) (hi.map cA))
    | .slice e => if mx.isSome && hi.isNone then none else some (oSliceL (← sizeT P e) (cA x) (lo.map cA) (hi.map cA) (mx.map cA))
    | .array n e => if mx.isSome || decide (9223372036854775807 < n) then none else some (oSliceA n (← sizeT P e) (cA x) (lo.map cA) (hi.map cA))
    | _ => none
  | .fieldAddr s x i => do
    let .struct fs ← P.underlying s | none
    let f ← fs[i]?
    if (← sizeT P f.type) = 0 then none else some (oFieldAddr f.offset (cA x))
  | .field t x i => do
    let .struct fs ← P.underlying t | none
    let f ← fs[i]?
    if ← isAggT P f.type then some (oField (some (← sizeT P f.type)) f.offset (cA x)) else some (oField none f.offset (cA x))
  | .indexAddr t x i => do
    match ← P.underlying t with
    | .array n e => some (oIdxAddrA n (← sizeT P e) (cA x) (cA i))
    | .slice e => some (oIdxAddrL (← sizeT P e) (cA x) (cA i))
    | _ => none
  | .index t x i => do
    match ← P.underlying t with
    | .array n e => some (oIdxA n (← sizeT P e) (← isAggT P e) (cA x) (cA i))
    | .string => some (oIdxS (cA x) (cA i))
    | _ => none
  | .makeMap _ r => match r with | none => some oMakeMap | some _ => none
  | .lookup t x i ok => do
    let .map kt et ← P.underlying t | none
    some (oLookup (← keyT P kt) (← zeroV P et) ok (cA x) (cA i))
  | .mapUpdate t m k x => do
    let .map kt _ ← P.underlying t | none
    some (oMapUpdate (← keyT P kt) (cA m) (cA k) (cA x))
  | .mapEntry t m k => do
    let .map kt et ← P.underlying t | none
    some (oMapEntry (← keyT P kt) (← zeroV P et) (cA m) (cA k))
  | .entryStore _ m s x => some (oEntryStore (cA m) (cA s) (cA x))
  | .extract x i => some (oExtract (cA x) i)
  | .call c => match c.callee with
    | .builtin b => cBuiltin P b c.argTypes c.args.toList
    | .value (.func f) => match ex f with
      | some g => some (oExt g (cAs c.args.toList))
      | none => some (oCall f (cAs c.args.toList))
    | .value x => some (oCallV (cA x) (cAs c.args.toList))
    | .invoke _ _ => none
  | _ => none

/-- the address of which an operation loads one cell -/
def ldOf (P : Program) (o : Oper) : Option Arg := match o.op with
  | .load t a => match isAggT P t with | some false => some (cA a) | _ => none
  | _ => none
def ldOpt (P : Program) (gl : Nat → Bool) (ex : FuncId → Option (List Value → Option Value)) (o : Oper) : Option Arg := match cOp P gl ex o with
  | some _ => ldOf P o
  | none => none
def slotOk (N : Nat) (d : Nat) : Bool := Nat.blt d N && Nat.blt d 4000
def dstOk (N : Nat) (dst : Option Nat) : Bool := match dst with | some d => slotOk N d | none => true
def cOper (P : Program) (gl : Nat → Bool) (ex : FuncId → Option (List Value → Option Value)) (N : Nat) (ops : Array Oper) (o : Oper) : Option AOper :=
  if dstOk N o.dst then
    match o.guard with
    | none => some ⟨o.dst.map path, (cOp P gl ex o).getD oBad, none, ldOpt P gl ex o⟩
    | some (j, b) => match (ops[j]?).bind (·.dst) with
      | some d => if slotOk N d then some ⟨o.dst.map path, (cOp P gl ex o).getD oBad, some (path d, b), ldOpt P gl ex o⟩ else none
      | none => none
  else none

/-- an order that the edges allow -/
def canon (ops : Array Oper) : List Nat := Region.linearise .any ops 0
def posOf (ord : List Nat) (i : Nat) : Nat := ord.idxOf i
/-- for each place of the order: the places that stand before it by a chain of edges, as bits -/
def bef1 (ops : Array Oper) (ord : List Nat) (acc : List Nat) (i : Nat) : Nat :=
  match ops[i]? with
  | some o => o.after.toList.foldl (fun s e => if Region.binds .any e then Nat.lor s (Nat.lor (bit (posOf ord e.on)) ((nth acc (posOf ord e.on)).getD 0)) else s) 0
  | none => 0
def befores (ops : Array Oper) (ord : List Nat) : List Nat → List Nat → List Nat
  | [], acc => acc
  | i :: is, acc => befores ops ord is (acc ++ [bef1 ops ord acc i])
def unord (ops : Array Oper) (ord : List Nat) : List (Nat × Nat) :=
  let b := befores ops ord ord []
  (List.range ord.length).flatMap fun j => (List.range j).filterMap fun i => if ((nth b j).getD 0).testBit i then none else some (i, j)
def ordOk (ops : Array Oper) (ord : List Nat) : Bool :=
  ord.length == ops.size && (List.range ops.size).all (fun i => ord.contains i) &&
  ord.zipIdx.all fun (i, k) => posOf ord i == k && decide (i < ops.size) && ((ops[i]?).map fun o => o.after.toList.all fun e => !Region.binds .any e || (decide (posOf ord e.on < k) && ord.contains e.on)).getD false
def pairOk (ops : Array Oper) (ord : List Nat) (p : Nat × Nat) : Bool :=
  match (nth ord p.1).bind (ops[·]?), (nth ord p.2).bind (ops[·]?) with
  | some x, some y => x.apart ops y
  | _, _ => false

def cReg (P : Program) (gl : Nat → Bool) (ex : FuncId → Option (List Value → Option Value)) (N : Nat) (ops : Array Oper) : X :=
  let ord := canon ops
  let un := unord ops ord
  if ordOk ops ord && un.all (pairOk ops ord) then
    match ord.mapM (fun i => (ops[i]?).bind (cOper P gl ex N ops)) with
    | some l => xReg l un
    | none => xBad
  else xBad

def cCode (P : Program) (gl : Nat → Bool) (ex : FuncId → Option (List Value → Option Value)) (N : Nat) : Code → X
  | .skip => xSkip
  | .region _ ops draw => if draw then cReg P gl ex N ops else match ops.toList.mapM (cOper P gl ex N ops) with | some l => xOps l | none => xBad
  | .seq a b => xSeq (cCode P gl ex N a) (cCode P gl ex N b)
  | .cond c a b => if okArg gl c then xCond (cA c) (cCode P gl ex N a) (cCode P gl ex N b) else xBad
  | .block id b => xBlock id (cCode P gl ex N b)
  | .loop b => xLoop (cCode P gl ex N b)
  | .scope b => cCode P gl ex N b
  | .exit id => xExit id
  | .label _ => xSkip
  | .ret => xRet
  | _ => xBad

def cRes (P : Program) (N : Nat) : ResultVar → Option ARes
  | .tmp t => if slotOk N t then some (.tmp (path t)) else none
  | .cell a t => if slotOk N a then match isAggT P t with
      | some true => (sizeT P t).map fun n => .cell (path a) (some n)
      | some false => some (.cell (path a) none)
      | none => none
    else none

def cFunc (P : Program) (gl : Nat → Bool) (ex : FuncId → Option (List Value → Option Value)) (f : Func) : Option AFunc := do
  let b ← f.body
  if f.name == "runtime.NumGoroutine" then none else
  some ⟨Nat.min f.ntmps 4000, ← f.results.toList.mapM (cRes P f.ntmps), cCode P gl ex f.ntmps b⟩
end
end Go.Abs
