import Derived.Calls
import Derived.Orders
namespace Go.Abs
set_option linter.unusedVariables false
set_option linter.unusedSimpArgs false
noncomputable section

/-! the trie -/
inductive T (α : Type) where
  | nil
  | node (v : Option α) (l r : T α)


def isEven (m : Nat) : Bool := Nat.beq (Nat.mod m 2) 0
def T.get {α : Type} (t : T α) : Nat → Option α :=
  T.rec (fun _ => none) (fun v _ _ il ir n => Nat.rec v (fun m _ => Bool.rec (ir (Nat.div m 2)) (il (Nat.div m 2)) (isEven m)) n) t

def T.put {α : Type} (f : Nat) : T α → Nat → Option α → T α :=
  Nat.rec (fun t _ _ => t) (fun _ ih t n b => T.rec
    (Nat.rec (.node b .nil .nil) (fun m _ => Bool.rec (.node none .nil (ih .nil (Nat.div m 2) b)) (.node none (ih .nil (Nat.div m 2) b) .nil) (isEven m)) n)
    (fun v l r _ _ => Nat.rec (.node b l r) (fun m _ => Bool.rec (.node v l (ih r (Nat.div m 2) b)) (.node v (ih l (Nat.div m 2) b) r) (isEven m)) n) t) f

/-! the state -/
abbrev Blk := List Value
structure St where
  heap : T Blk
  next : Nat
  rd : Nat
  wr : Nat


def lim : Nat := 1000000000
def UNK : Nat := 18446744073709551616

/-- a number, worked out -/
def force {α : Type} (n : Nat) (k : Nat → α) : α := Nat.rec (k 0) (fun m _ => k (Nat.succ m)) n
/-- a list, worked out -/
def forceL {α β : Type} (l : List α) (k : List α → β) : β := List.rec (motive := fun _ => (List α → β) → β) (fun k => k []) (fun x _ ih k => ih fun l => k (x :: l)) l k
def bit (x : Nat) : Nat := Nat.shiftLeft 1 x
def St.get (s : St) (x : Nat) : Option Blk := s.heap.get x
def St.set (s : St) (x : Nat) (b : Option Blk) : St := force (Nat.lor s.wr (bit x)) fun wr => ⟨s.heap.put 40 x (bif Nat.ble 8 x then b else none), s.next, s.rd, wr⟩
def St.seen (s : St) (x : Nat) : St := force (Nat.lor s.rd (bit x)) fun rd => ⟨s.heap, s.next, rd, s.wr⟩
def St.alloc (s : St) (b : Blk) : Option (Nat × St) :=
  forceL b fun b => bif Nat.ble s.next lim then force s.next fun n => some (n, force (Nat.lor s.wr (bit n)) fun wr => ⟨s.heap.put 40 n (some b), Nat.succ n, s.rd, wr⟩) else none

def nth {α : Type} (l : List α) : Nat → Option α := List.rec (fun _ => none) (fun x _ ih n => Nat.rec (some x) (fun m _ => ih m) n) l
def setN {α : Type} (l : List α) : Nat → α → List α := List.rec (fun _ _ => []) (fun x l ih n v => Nat.rec (v :: l) (fun m _ => x :: ih m v) n) l
def dropN {α : Type} (n : Nat) : List α → List α := Nat.rec (fun l => l) (fun _ ih l => List.rec [] (fun _ l _ => ih l) l) n
def takeN {α : Type} (n : Nat) : List α → List α := Nat.rec (fun _ => []) (fun _ ih l => List.rec [] (fun x l _ => x :: ih l) l) n
def lenN {α : Type} (l : List α) : Nat := List.rec 0 (fun _ _ ih => Nat.succ ih) l
def app {α : Type} (l m : List α) : List α := List.rec m (fun x _ ih => x :: ih) l
def mapN {α β : Type} (f : α → β) (l : List α) : List β := List.rec [] (fun x _ ih => f x :: ih) l
def rep {α : Type} (n : Nat) (l : List α) : List α := Nat.rec [] (fun _ ih => app l ih) n

def opt {α β : Type} (o : Option α) (k : α → Option β) : Option β := Option.rec none k o
def opt2 {α β γ : Type} (o : Option (α × β)) (k : α → β → Option γ) : Option γ := Option.rec none (fun p => Prod.rec k p) o

/-- a map's block: one tuple: its clock, then its entries (key, value, stamp) -/
def isMapB (c : List Value) : Bool := List.rec false (fun v _ _ => match v with | .tuple _ => true | _ => false) c
/-- a block of cells -/
def St.getC (s : St) (x : Nat) : Option Blk := opt (s.get x) fun c => bif isMapB c then none else some c
/-- read n cells at b, o -/
def St.read (s : St) (b o n : Nat) : Option (List Value × St) :=
  opt (s.getC b) fun c => bif Nat.ble (o + n) (lenN c) then some (takeN n (dropN o c), s.seen b) else none
/-- write cells at b, o -/
def St.write (s : St) (b o : Nat) (vs : List Value) : Option St :=
  opt (s.getC b) fun c => bif Nat.ble (o + lenN vs) (lenN c) then forceL (app (takeN o c) (app vs (dropN (o + lenN vs) c))) fun c => some (s.set b (some c)) else none

def cellsOf (v : Value) : List Value := match v with
  | .agg cs => cs.toList
  | .chan (some _) => []
  | .tuple _ => []
  | v => [v]
def aggOf (l : List Value) : Value := .agg ⟨l⟩
def tupOf (l : List Value) : Value := .tuple ⟨l⟩

/-- a value of which nothing is known -/
def UV : Value := .chan (some 0)
/-- a slot's path -/
inductive P where
  | h
  | l (p : P)
  | r (p : P)
def pathF (f : Nat) : Nat → P := Nat.rec (fun _ => .h) (fun _ ih n => Nat.rec .h (fun m _ => Bool.rec (.r (ih (Nat.div m 2))) (.l (ih (Nat.div m 2))) (isEven m)) n) f
def path (n : Nat) : P := pathF 12 n
structure PT (α : Type) where
  f : P → Option α
def PT.nil {α : Type} : PT α := ⟨fun _ => none⟩
def eqPath (p q : P) : Bool := P.rec (motive := fun _ => P → Bool) (fun q => P.rec true (fun _ _ => false) (fun _ _ => false) q) (fun _ ih q => P.rec false (fun q _ => ih q) (fun _ _ => false) q) (fun _ ih q => P.rec false (fun _ _ => false) (fun q _ => ih q) q) p q
def PT.get {α : Type} (t : PT α) : P → Option α := PT.rec (fun f => f) t
def PT.put {α : Type} (v : α) (p : P) (t : PT α) : PT α := ⟨fun q => Bool.rec (t.get q) (some v) (eqPath q p)⟩
abbrev Frm := PT Value
inductive Arg where
  | t (p : P)
  | v (x : Value)
def orU (o : Option Value) : Value := Option.rec UV (fun v => v) o
def ev (fs : Frm) (x : Arg) : Value := Arg.rec (fun p => orU (fs.get p)) (fun v => v) x

inductive ARes where
  | tmp (t : P)
  | cell (a : P) (n : Option Nat)
inductive AExit where
  | norm
  | exit (id : Nat)
  | ret


abbrev Rec := FuncId → List Value → St → Option (Value × St)
abbrev Out := Option (Value × St)
abbrev OpF := Rec → Frm → St → Out
structure AOper where
  dst : Option P
  op : OpF
  guard : Option (P × Bool)
  ld : Option Arg

/-! whole numbers -/
def ltI (a b : Int) : Bool := match a with
  | .ofNat m => match b with | .ofNat n => Nat.blt m n | .negSucc _ => false
  | .negSucc m => match b with | .ofNat _ => true | .negSucc n => Nat.blt n m
def eqI (a b : Int) : Bool := match a with
  | .ofNat m => match b with | .ofNat n => Nat.beq m n | .negSucc _ => false
  | .negSucc m => match b with | .ofNat _ => false | .negSucc n => Nat.beq m n
def leI (a b : Int) : Bool := !ltI b a
/-- how many numbers of a kind lie at or above 0; and below -/
def topOf : IntKind → Nat
  | .i8 => 128 | .i16 => 32768 | .i32 => 2147483648 | .i64 => 9223372036854775808
  | .u8 => 256 | .u16 => 65536 | .u32 => 4294967296 | .u64 => 18446744073709551616
def lowOf : IntKind → Nat
  | .i8 => 128 | .i16 => 32768 | .i32 => 2147483648 | .i64 => 9223372036854775808
  | _ => 0
def wrapF (k : IntKind) (n : Int) : Int := match n with
  | .ofNat m => bif Nat.blt m (topOf k) then .ofNat m else k.wrap n
  | .negSucc m => bif Nat.blt m (lowOf k) then .negSucc m else k.wrap n
def forceI {α : Type} (n : Int) (f : Int → α) : α := match n with
  | .ofNat m => force m fun m => f (.ofNat m)
  | .negSucc m => force m fun m => f (.negSucc m)
def mkInt (k : IntKind) (n : Int) : Option Value := forceI (wrapF k n) fun n => some (.int k n)
def eqK (a b : IntKind) : Bool := match a with
  | .i8 => match b with | .i8 => true | _ => false
  | .i16 => match b with | .i16 => true | _ => false
  | .i32 => match b with | .i32 => true | _ => false
  | .i64 => match b with | .i64 => true | _ => false
  | .u8 => match b with | .u8 => true | _ => false
  | .u16 => match b with | .u16 => true | _ => false
  | .u32 => match b with | .u32 => true | _ => false
  | .u64 => match b with | .u64 => true | _ => false

/-- what lies within the kind, ahead of all -/
def fin (k : IntKind) (m : Nat) : Option Value := force m fun m => Bool.rec (mkInt k (.ofNat m)) (some (.int k (.ofNat m))) (Nat.ble m (topOf k - 1))
def addO (k : IntKind) (a b : Int) : Option Value :=
  Int.rec (fun m => Int.rec (fun n => fin k (Nat.add m n)) (fun _ => mkInt k (Int.add a b)) b) (fun _ => mkInt k (Int.add a b)) a
def subO (k : IntKind) (a b : Int) : Option Value :=
  Int.rec (fun m => Int.rec (fun n => Bool.rec (mkInt k (Int.sub a b)) (fin k (Nat.sub m n)) (Nat.ble n m)) (fun _ => mkInt k (Int.sub a b)) b) (fun _ => mkInt k (Int.sub a b)) a
def quoO (k : IntKind) (a b : Int) : Option Value := bif eqI b 0 then none else mkInt k (a.tdiv b)
def remO (k : IntKind) (a b : Int) : Option Value := bif eqI b 0 then none else forceI (a.tmod b) fun n => some (.int k n)
def bitAnd (k : IntKind) (a b : Int) : Int := match a with
  | .ofNat m => match b with
    | .ofNat n => bif Nat.blt m (topOf k) && Nat.blt n (topOf k) then .ofNat (Nat.land m n) else k.wrap ((BitVec.ofInt k.bits a &&& BitVec.ofInt k.bits b).toNat : Int)
    | _ => k.wrap ((BitVec.ofInt k.bits a &&& BitVec.ofInt k.bits b).toNat : Int)
  | _ => k.wrap ((BitVec.ofInt k.bits a &&& BitVec.ofInt k.bits b).toNat : Int)
def bitOr (k : IntKind) (a b : Int) : Int := k.wrap ((BitVec.ofInt k.bits a ||| BitVec.ofInt k.bits b).toNat : Int)
def bitXor (k : IntKind) (a b : Int) : Int := k.wrap ((BitVec.ofInt k.bits a ^^^ BitVec.ofInt k.bits b).toNat : Int)
def bitAndNot (k : IntKind) (a b : Int) : Int := k.wrap ((BitVec.ofInt k.bits a &&& ~~~BitVec.ofInt k.bits b).toNat : Int)
def setI (k : IntKind) (n : Int) : Option Value := forceI n fun n => some (.int k n)

def shlO (k : IntKind) (a b : Int) : Option Value := bif ltI b 0 then none else mkInt k (a * 2 ^ (min b.toNat k.bits))
def shrO (k : IntKind) (a b : Int) : Option Value := bif ltI b 0 then none else setI k (a.fdiv (2 ^ (min b.toNat k.bits)))
/-- two of one kind -/
def int2 (f : IntKind → Int → Int → Option Value) (x y : Value) : Option Value :=
  match x with
  | .int k a => match y with
    | .int k' b => Bool.rec none (f k a b) (eqK k k')
    | _ => none
  | _ => none
def andO (k : IntKind) (a b : Int) : Option Value := setI k (bitAnd k a b)
def orO (k : IntKind) (a b : Int) : Option Value := setI k (bitOr k a b)
def xorO (k : IntKind) (a b : Int) : Option Value := setI k (bitXor k a b)
def andNotO (k : IntKind) (a b : Int) : Option Value := setI k (bitAndNot k a b)
def mulO (k : IntKind) (a b : Int) : Option Value := mkInt k (Int.mul a b)
def sh2 (f : IntKind → Int → Int → Option Value) (x y : Value) : Option Value :=
  match x with
  | .int k a => match y with
    | .int _ b => f k a b
    | _ => none
  | _ => none
def neI (a b : Int) : Bool := !eqI a b
def gtI (a b : Int) : Bool := ltI b a
def geI (a b : Int) : Bool := leI b a
def cmpO (f : Int → Int → Bool) (_ : IntKind) (a b : Int) : Option Value := some (.bool (f a b))

def eqBytes (l : List UInt8) : List UInt8 → Bool :=
  List.rec (fun m => List.rec true (fun _ _ _ => false) m) (fun a _ ih m => List.rec false (fun b m _ => bif Nat.beq a.toNat b.toNat then ih m else false) m) l
def ltBytes (l : List UInt8) : List UInt8 → Bool :=
  List.rec (fun m => List.rec false (fun _ _ _ => true) m) (fun a _ ih m => List.rec false (fun b m _ => bif Nat.beq a.toNat b.toNat then ih m else Nat.blt a.toNat b.toNat) m) l

def neBytes (a b : List UInt8) : Bool := !eqBytes a b
def gtBytes (a b : List UInt8) : Bool := ltBytes b a
def leBytes (a b : List UInt8) : Bool := !ltBytes b a
def geBytes (a b : List UInt8) : Bool := !ltBytes a b
def str2 (f : List UInt8 → List UInt8 → Option Value) (x y : Value) : Option Value :=
  match x with
  | .string a => match y with
    | .string b => f a.data.toList b.data.toList
    | _ => none
  | _ => none
def catO (a b : List UInt8) : Option Value := bif Nat.ble (lenN a + lenN b) 9223372036854775807 then some (.string ⟨⟨app a b⟩⟩) else none
def cmpS (f : List UInt8 → List UInt8 → Bool) (a b : List UInt8) : Option Value := some (.bool (f a b))

/-- scalars held against each other -/
def eqN (x y : Value) : Option Bool :=
  match x with
  | .int k a => match y with | .int k' b => bif eqK k k' then some (eqI a b) else none | _ => none
  | _ => none
def eqT (x y : Value) : Option Bool :=
  match x with
  | .string a => match y with | .string b => some (eqBytes a.data.toList b.data.toList) | _ => none
  | _ => none
/-- bools; and what is held against nil -/
def eqB (x y : Value) : Option Bool := match x with
  | .bool a => match y with | .bool b => some (Bool.rec (Bool.rec true false b) b a) | _ => none
  | _ => none
def eqP (x y : Value) : Option Bool := match x with
  | .pointer none => match y with | .pointer b => some b.isNone | _ => none
  | .pointer (some _) => match y with | .pointer none => some false | _ => none
  | _ => none
def eqL (x y : Value) : Option Bool := match x with
  | .slice none _ _ => match y with | .slice b _ _ => some b.isNone | _ => none
  | .slice (some _) _ _ => match y with | .slice none _ _ => some false | _ => none
  | _ => none
def eqF (x y : Value) : Option Bool := match x with
  | .nilFunc => match y with | .nilFunc => some true | .func _ _ _ => some false | _ => none
  | .func _ _ _ => match y with | .nilFunc => some false | _ => none
  | _ => none
abbrev EqF := Value → Value → Option Bool
def eqAll (xs ys : List Value) (l : List (Nat × EqF)) : Option Bool :=
  List.rec (some true) (fun p _ ih => opt (nth xs p.1) fun x => opt (nth ys p.1) fun y => opt (p.2 x y) fun b => opt ih fun c => some (b && c)) l

def fillN (fs : Frm) (l : List (Nat × Nat × Arg)) : List Value → Option (List Value) :=
  List.rec (fun cells => some cells) (fun p _ ih cells =>
    let c := cellsOf (ev fs p.2.2)
    bif Nat.beq (lenN c) p.2.1 && Nat.ble (p.1 + p.2.1) (lenN cells) then ih (app (takeN p.1 cells) (app c (dropN (p.1 + p.2.1) cells))) else none) l

def asI (v : Value) : Option Int := match v with | .int _ n => some n | _ => none
/-- a slice expression's bound -/
def bound (fs : Frm) (x : Arg) (y : Nat) : Option Nat :=
  match ev fs x with
  | .int _ n => match n with
    | .ofNat m => bif Nat.ble m y then force m some else none
    | .negSucc _ => none
  | _ => none
def boundD (fs : Frm) (x : Option Arg) (y d : Nat) : Option Nat :=
  match x with | none => some d | some x => bound fs x y

def bytesOf (l : List Value) : Option (List UInt8) :=
  List.rec (some []) (fun v _ ih => match v with
    | .int .u8 n => opt ih fun r => some (UInt8.ofNat n.toNat :: r)
    | _ => none) l
def ofBytes (l : List UInt8) : List Value := mapN (fun b => .int .u8 (.ofNat b.toNat)) l
def addA (a : Addr) (n : Nat) : Addr := force (a.off + n) fun o => ⟨a.block, o, none⟩

/-- what append reads -/
def srcCells (s : St) (es : Nat) (x : Value) : Option (Nat × List Value × St) :=
  match x with
  | .slice none _ _ => some (0, [], s)
  | .slice (some a) n _ => bif Nat.beq n 0 then some (0, [], s) else opt2 (s.read a.block a.off (n * es)) fun c s => some (n, c, s)
  | .string b => bif Nat.beq es 1 then some (lenN b.data.toList, ofBytes b.data.toList, s) else none
  | _ => none

def fits (n bytes : Nat) : Bool := Nat.ble (n * bytes) 140737488355328 && Nat.ble n 9223372036854775807

def newSlice (s : St) (es n : Nat) (cells : List Value) : Option (Value × St) := opt2 (s.alloc cells) fun b s => some (.slice (some ⟨b, 0, none⟩) n (UNK + es), s)
def appendTo (s : St) (es bytes : Nat) (base : Option Addr) (sl sc : Nat) (n : Nat) (new : List Value) : Option (Value × St) :=
  bif Nat.beq n 0 then some (.slice base sl sc, s) else
  bif Nat.beq es 0 then none else
  bif !fits (sl + n) bytes then none else
  match base with
  | none => bif Nat.beq sl 0 && Nat.beq sc 0 then newSlice s es n new else none
  | some a =>
    bif Nat.blt sc UNK then
      -- the capacity is known
      bif Nat.ble (sl + n) sc then opt (s.write a.block (a.off + sl * es) new) fun s => some (.slice base (sl + n) sc, s)
      else bif Nat.beq sl 0 then newSlice s es n new
      else opt2 (s.read a.block a.off (sl * es)) fun old s => newSlice s es (sl + n) (app old new)
    else bif !Nat.beq sc (UNK + es) then none else
      opt (s.getC a.block) fun c =>
        let e := a.off + sl * es
        bif Nat.ble (e + lenN new) (lenN c) then opt (s.write a.block e new) fun s => some (.slice base (sl + n) sc, s)
        else bif Nat.ble e (lenN c) then
          -- in place, or not: the elder block is not known any more
          newSlice (s.set a.block none) es (sl + n) (app (takeN (sl * es) (dropN a.off c)) new)
        else none

def mm1 (mx : Bool) (ih : Value → Option Value) (y x : Value) : Option Value := match x with
  | .int k a => match y with
    | .int _ b => ih (.int k (bif mx then bif ltI a b then b else a else bif ltI b a then b else a))
    | _ => none
  | _ => none
def mm (mx : Bool) (l : List Value) : Value → Option Value := List.rec (fun x => some x) (fun y _ ih => mm1 mx ih y) l

/-! the operations, each a function of its own -/
def oMov (x : Arg) : OpF := fun _ fs s => some (ev fs x, s)
def oPick (c a b : Arg) : OpF := fun _ fs s => match ev fs c with | .bool t => some (bif t then ev fs a else ev fs b, s) | _ => none
def oNew (cells : List Value) : OpF := fun _ _ s => opt2 (s.alloc cells) fun b s => some (.pointer (some ⟨b, 0, none⟩), s)
def oBox (x : Arg) : OpF := fun rec fs s => bif Nat.beq (lenN (cellsOf (ev fs x))) 0 then none else oNew (cellsOf (ev fs x)) rec fs s
def oBuild (zero : List Value) (parts : List (Nat × Nat × Arg)) : OpF := fun _ fs s => opt (fillN fs parts zero) fun c => some (aggOf c, s)
def oBuildSlice (n : Nat) (zero : List Value) (parts : List (Nat × Nat × Arg)) : OpF := fun _ fs s => opt (fillN fs parts zero) fun c => opt2 (s.alloc c) fun b s => some (.slice (some ⟨b, 0, none⟩) n n, s)
def oLoad1 (a : Arg) : OpF := fun _ fs s => match ev fs a with
  | .pointer (some p) => opt (s.getC p.block) fun c => opt (nth c p.off) fun v => some (v, s.seen p.block)
  | _ => none
def oLoadN (n : Nat) (a : Arg) : OpF := fun _ fs s => match ev fs a with
  | .pointer (some p) => opt2 (s.read p.block p.off n) fun c s => some (aggOf c, s)
  | _ => none
def oStore (n : Nat) (a x : Arg) : OpF := fun _ fs s => match ev fs a with
  | .pointer (some p) => bif Nat.beq (lenN (cellsOf (ev fs x))) n then opt (s.write p.block p.off (cellsOf (ev fs x))) fun s => some (UV, s) else none
  | _ => none
def oNilCheck (x : Arg) : OpF := fun _ fs s => match ev fs x with
  | .pointer (some p) => some (.pointer (some p), s)
  | .func (.func f) a b => some (.func (.func f) a b, s)
  | _ => none
def oBin (f : Value → Value → Option Value) (x y : Arg) : OpF := fun _ fs s => opt (f (ev fs x) (ev fs y)) fun v => some (v, s)
def oEqv (f : Value → Value → Option Bool) (neg : Bool) (x y : Arg) : OpF := fun _ fs s => opt (f (ev fs x) (ev fs y)) fun b => some (.bool (bif neg then !b else b), s)
def oEqs (neg : Bool) (offs : List (Nat × EqF)) (x y : Arg) : OpF := fun _ fs s => match ev fs x with
  | .agg a => match ev fs y with
    | .agg b => opt (eqAll a.toList b.toList offs) fun r => some (.bool (bif neg then !r else r), s)
    | _ => none
  | _ => none
def oNeg (x : Arg) : OpF := fun _ fs s => match ev fs x with | .int k n => opt (mkInt k (Int.sub 0 n)) fun v => some (v, s) | _ => none
def oCompl (x : Arg) : OpF := fun _ fs s => match ev fs x with | .int k n => opt (setI k (bitXor k (if k.signed then -1 else k.max) n)) fun v => some (v, s) | _ => none
def oNot (x : Arg) : OpF := fun _ fs s => match ev fs x with | .bool b => some (.bool (Bool.rec true false b), s) | _ => none
def oConv (k : IntKind) (x : Arg) : OpF := fun _ fs s => match ev fs x with | .int _ n => opt (mkInt k n) fun v => some (v, s) | _ => none
def oStrBytes (x : Arg) : OpF := fun _ fs s => match ev fs x with
  | .string b => bif Nat.ble (lenN b.data.toList) 9223372036854775807 then newSlice s 1 (lenN b.data.toList) (ofBytes b.data.toList) else none
  | _ => none
def oBytesStr (x : Arg) : OpF := fun _ fs s => match ev fs x with
  | .slice none _ _ => some (.string ⟨⟨[]⟩⟩, s)
  | .slice (some a) n _ => bif Nat.beq n 0 then some (.string ⟨⟨[]⟩⟩, s) else opt2 (s.read a.block a.off n) fun c s => opt (bytesOf c) fun l => some (.string ⟨⟨l⟩⟩, s)
  | _ => none
def oSame (x : Arg) : OpF := fun _ fs s => match ev fs x with | .string b => some (.string b, s) | _ => none
def oFunc (fn : Fn) (first captured : List Arg) : OpF := fun _ fs s => some (.func fn ⟨mapN (ev fs) first⟩ ⟨mapN (ev fs) captured⟩, s)
def oIface (t : TypeId) (x : Arg) : OpF := fun _ fs s => some (.iface t (ev fs x), s)
def oMakeSlice (es bytes : Nat) (zero : List Value) (l c : Arg) : OpF := fun _ fs s => opt (boundD fs (some c) 9223372036854775807 0) fun c => opt (boundD fs (some l) c 0) fun l =>
    bif Nat.ble (c * bytes) 140737488355328 && !Nat.beq es 0 then opt2 (s.alloc (rep c zero)) fun b s => some (.slice (some ⟨b, 0, none⟩) l c, s) else none
def oSliceS (x : Arg) (lo hi : Option Arg) : OpF := fun _ fs s => match ev fs x with
  | .string b => opt (boundD fs hi (lenN b.data.toList) (lenN b.data.toList)) fun h => opt (boundD fs lo h 0) fun l => some (.string ⟨⟨takeN (h - l) (dropN l b.data.toList)⟩⟩, s)
  | _ => none
def oSliceL (es : Nat) (x : Arg) (lo hi mx : Option Arg) : OpF := fun _ fs s => match ev fs x with
  | .slice none n c => bif Nat.beq n 0 && Nat.beq c 0 then opt (boundD fs mx 0 0) fun _ => opt (boundD fs hi 0 0) fun h => opt (boundD fs lo h 0) fun _ => some (.slice none 0 0, s) else none
  | .slice (some a) n c =>
    bif Nat.beq es 0 then none else
    bif Nat.blt c UNK then
      opt (boundD fs mx c c) fun m => opt (boundD fs hi m n) fun h => opt (boundD fs lo h 0) fun l =>
        force (h - l) fun hl => force (m - l) fun ml => some (.slice (some (bif Nat.beq m l then a else addA a (l * es))) hl ml, s)
    else bif !Nat.beq c (UNK + es) then none else
      match mx with
      | none => opt (boundD fs hi n n) fun h => opt (boundD fs lo h 0) fun l => force (h - l) fun hl => some (.slice (some (addA a (l * es))) hl c, s)
      | some _ => opt (boundD fs mx n n) fun m => opt (boundD fs hi m n) fun h => opt (boundD fs lo h 0) fun l =>
        force (h - l) fun hl => force (m - l) fun ml => some (.slice (some (bif Nat.beq m l then a else addA a (l * es))) hl ml, s)
  | _ => none
def oSliceA (n es : Nat) (x : Arg) (lo hi : Option Arg) : OpF := fun _ fs s => match ev fs x with
  | .pointer (some a) => opt (boundD fs hi n n) fun h => opt (boundD fs lo h 0) fun l =>
    force (h - l) fun hl => force (n - l) fun nl => some (.slice (some (bif Nat.beq n l then a else addA a (l * es))) hl nl, s)
  | _ => none
def oFieldAddr (off : Nat) (x : Arg) : OpF := fun _ fs s => match ev fs x with
  | .pointer (some a) => some (.pointer (some (addA a off)), s)
  | _ => none
def oField (n : Option Nat) (off : Nat) (x : Arg) : OpF := fun _ fs s => match ev fs x with
  | .agg cs => match n with
    | none => opt (nth cs.toList off) fun v => some (v, s)
    | some n => bif Nat.ble (off + n) (lenN cs.toList) then some (aggOf (takeN n (dropN off cs.toList)), s) else none
  | _ => none
def idx (fs : Frm) (i : Arg) (n : Nat) : Option Nat := match ev fs i with
  | .int _ i => match i with
    | .ofNat i => bif Nat.blt i n then force i some else none
    | .negSucc _ => none
  | _ => none
def oIdxAddrA (n es : Nat) (x i : Arg) : OpF := fun _ fs s => match ev fs x with
  | .pointer (some a) => opt (idx fs i n) fun i => some (.pointer (some (addA a (i * es))), s)
  | _ => none
def oIdxAddrL (es : Nat) (x i : Arg) : OpF := fun _ fs s => match ev fs x with
  | .slice (some a) n _ => opt (idx fs i n) fun i => some (.pointer (some (addA a (i * es))), s)
  | _ => none
def oIdxA (n es : Nat) (agg : Bool) (x i : Arg) : OpF := fun _ fs s => match ev fs x with
  | .agg cs => opt (idx fs i n) fun i =>
    bif agg then bif Nat.ble (i * es + es) (lenN cs.toList) then some (aggOf (takeN es (dropN (i * es) cs.toList)), s) else none
    else opt (nth cs.toList (i * es)) fun v => some (v, s)
  | _ => none
def oIdxS (x i : Arg) : OpF := fun _ fs s => match ev fs x with
  | .string b => match ev fs i with
    | .int _ i => match i with
      | .ofNat i => opt (nth b.data.toList i) fun c => force c.toNat fun c => some (.int .u8 (.ofNat c), s)
      | .negSucc _ => none
    | _ => none
  | _ => none
def oExtract (x : Arg) (i : Nat) : OpF := fun _ fs s => match ev fs x with
  | .tuple vs => opt (nth vs.toList i) fun v => some (v, s)
  | _ => none
def oCall (f : FuncId) (args : List Arg) : OpF := fun rec fs s => rec f (mapN (ev fs) args) s
def oCallV (x : Arg) (args : List Arg) : OpF := fun rec fs s => match ev fs x with
  | .func (.func f) first cap => rec f (app first.toList (app (mapN (ev fs) args) cap.toList)) s
  | _ => none
def oExt (g : List Value → Option Value) (args : List Arg) : OpF := fun _ fs s => opt (g (mapN (ev fs) args)) fun v => some (v, s)
def oAppend (es bytes : Nat) (x y : Arg) : OpF := fun _ fs s => match ev fs x with
  | .slice base n c => opt (srcCells s es (ev fs y)) fun r => appendTo r.2.2 es bytes base n c r.1 r.2.1
  | _ => none
def oCopy (es : Nat) (d x : Arg) : OpF := fun _ fs s => match ev fs d with
  | .slice base n _ => match ev fs x with
    | .slice none _ _ => some (.int .i64 0, s)
    | .slice (some b) m _ =>
      force (Nat.min m n) fun k => bif Nat.beq k 0 then some (.int .i64 0, s) else match base with
      | none => none
      | some a => opt2 (s.read b.block b.off (k * es)) fun c s => opt (s.write a.block a.off c) fun s => some (.int .i64 (.ofNat k), s)
    | _ => none
  | _ => none
def oLenS (x : Arg) : OpF := fun _ fs s => match ev fs x with
  | .string b => force (lenN b.data.toList) fun n => some (.int .i64 (.ofNat n), s)
  | _ => none
def oLenL (x : Arg) : OpF := fun _ fs s => match ev fs x with
  | .slice _ n _ => some (.int .i64 (.ofNat n), s)
  | _ => none
def oLenC (n : Nat) : OpF := fun _ _ s => some (.int .i64 (.ofNat n), s)
def oCap (x : Arg) : OpF := fun _ fs s => match ev fs x with
  | .slice _ _ c => bif Nat.blt c UNK then some (.int .i64 (.ofNat c), s) else none
  | _ => none
def oMM (b : Bool) (x : Arg) (xs : List Arg) : OpF := fun _ fs s => opt (mm b (mapN (ev fs) xs) (ev fs x)) fun v => some (v, s)
/-! maps -/
def oneV (c : List Value) : Option (List Value) := match c with
  | [] => none
  | v :: l => match l with
    | [] => match v with | .tuple es => some es.toList | _ => none
    | _ :: _ => none
/-- a map's clock and entries -/
def St.mapOf (s : St) (x : Nat) : Option (Nat × List Value) := opt (s.get x) fun c => opt (oneV c) fun es => match es with
  | [] => none
  | v :: l => match v with
    | .int _ n => (match n with | .ofNat m => some (m, l) | .negSucc _ => none)
    | _ => none
def mapB (clock : Nat) (es : List Value) : Blk := [.tuple ⟨.int .i64 (.ofNat clock) :: es⟩]
/-- two keys: equal, or not; or nothing is known -/
def eqKey (x y : Value) : Option Bool := match x with
  | .int k a => match y with | .int k' b => bif eqK k k' then some (eqI a b) else none | _ => none
  | .string a => match y with | .string b => some (eqBytes a.data.toList b.data.toList) | _ => none
  | _ => none
def entryOf (v : Value) : Option (Value × Value × Nat) := match v with
  | .tuple a => match a.toList with
    | k :: l => match l with
      | x :: l => match l with
        | b :: _ => (match b with
          | .int _ n => (match n with | .ofNat m => some (k, x, m) | .negSucc _ => none)
          | _ => none)
        | [] => none
      | [] => none
    | [] => none
  | _ => none
def entryV (k x : Value) (born : Nat) : Value := .tuple ⟨[k, x, .int .i64 (.ofNat born)]⟩
/-- where a key stands, its value, its stamp -/
def findE (k : Value) (es : List Value) : Option (Option (Nat × Value × Nat)) :=
  List.rec (motive := fun _ => Nat → Option (Option (Nat × Value × Nat))) (fun _ => some none) (fun e _ ih i => opt (entryOf e) fun p => opt (eqKey k p.1) fun b => bif b then some (some (i, p.2)) else ih (Nat.succ i)) es 0
/-- where a stamp stands, and its key -/
def findB (born : Nat) (es : List Value) : Option (Option (Nat × Value)) :=
  List.rec (motive := fun _ => Nat → Option (Option (Nat × Value))) (fun _ => some none) (fun e _ ih i => opt (entryOf e) fun p => bif Nat.beq p.2.2 born then some (some (i, p.1)) else ih (Nat.succ i)) es 0
/-- a key of a kind of whole numbers, or a string -/
def okKey (kd : Option IntKind) (v : Value) : Bool := match v with
  | .int k _ => Option.rec false (fun k' => eqK k k') kd
  | .string _ => Option.rec true (fun _ => false) kd
  | _ => false
/-- a value that a map can hold here -/
def okVal (v : Value) : Bool := match v with | .chan (some _) => false | .tuple _ => false | _ => true
def oMakeMap : OpF := fun _ _ s => opt2 (s.alloc (mapB 0 [])) fun b s => some (.map (some b), s)
def oLookup (kd : Option IntKind) (zero : Value) (commaOk : Bool) (m k : Arg) : OpF := fun _ fs s => bif !okKey kd (ev fs k) then none else match ev fs m with
  | .map none => some (bif commaOk then tupOf [zero, .bool false] else zero, s)
  | .map (some b) => opt (s.mapOf b) fun p => opt (findE (ev fs k) p.2) fun r => Option.rec
      (some (bif commaOk then tupOf [zero, .bool false] else zero, s.seen b))
      (fun q => some (bif commaOk then tupOf [q.2.1, .bool true] else q.2.1, s.seen b)) r
  | _ => none
/-- an entry put where its key stands, or behind the others -/
def putE (s : St) (b clock : Nat) (es : List Value) (k x : Value) (r : Option (Nat × Value × Nat)) : St :=
  Option.rec (force (Nat.succ clock) fun c => s.set b (some (mapB c (app es [entryV k x clock])))) (fun q => s.set b (some (mapB clock (setN es q.1 (entryV k x q.2.2))))) r
def oMapUpdate (kd : Option IntKind) (m k x : Arg) : OpF := fun _ fs s => bif okKey kd (ev fs k) && okVal (ev fs x) then match ev fs m with
  | .map (some b) => opt (s.mapOf b) fun p => opt (findE (ev fs k) p.2) fun r => some (UV, putE s b p.1 p.2 (ev fs k) (ev fs x) r)
  | _ => none else none
def oMapEntry (kd : Option IntKind) (zero : Value) (m k : Arg) : OpF := fun _ fs s => bif okKey kd (ev fs k) then match ev fs m with
  | .map (some b) => opt (s.mapOf b) fun p => opt (findE (ev fs k) p.2) fun r => Option.rec
      (some (tupOf [zero, .int .i64 (.ofNat p.1)], putE s b p.1 p.2 (ev fs k) zero r))
      (fun q => some (tupOf [q.2.1, .int .i64 (.ofNat q.2.2)], putE s b p.1 p.2 (ev fs k) q.2.1 r)) r
  | _ => none else none
def natI (v : Value) : Option Nat := match v with
  | .int _ n => (match n with | .ofNat m => some m | .negSucc _ => none)
  | _ => none
def oEntryStore (m t x : Arg) : OpF := fun _ fs s => bif okVal (ev fs x) then match ev fs m with
  | .map (some b) => opt (s.mapOf b) fun p => opt (natI (ev fs t)) fun born => opt (findB born p.2) fun r => opt r fun q => some (UV, s.set b (some (mapB p.1 (setN p.2 q.1 (entryV q.2 (ev fs x) born)))))
  | _ => none else none
def oLenM (x : Arg) : OpF := fun _ fs s => match ev fs x with
  | .map none => some (.int .i64 0, s)
  | .map (some b) => opt (s.mapOf b) fun p => force (lenN p.2) fun n => some (.int .i64 (.ofNat n), s.seen b)
  | _ => none
def eqM (x y : Value) : Option Bool := match x with
  | .map none => match y with | .map b => some b.isNone | _ => none
  | .map (some _) => match y with | .map none => some false | _ => none
  | _ => none
def oBad : OpF := fun _ _ _ => none
/-- does a guarded operation run: yes, no, or nothing is known -/
def gval (b : Bool) (v : Value) : Option Bool := match v with
  | .bool c => some (Bool.rec (Bool.rec true false b) b c)
  | .tuple _ => some false
  | _ => none
def wanted (fs : Frm) (g : Option (P × Bool)) : Option Bool := Option.rec (some true) (fun p => gval p.2 (orU (fs.get p.1))) g
def putT (fs : Frm) (dst : Option P) (v : Value) : Frm := Option.rec fs (fun d => PT.put v d fs) dst

abbrev OutF := Option (Frm × St)
/-- one operation, and what comes behind it -/
def op1 (rec : Rec) (o : AOper) (k : Frm → St → OutF) (fs : Frm) (s : St) : OutF :=
  opt (wanted fs o.guard) fun b => Bool.rec (k (putT fs o.dst undef) s) (opt2 (o.op rec fs s) fun v s => k (putT fs o.dst v) s) b
def runOps (rec : Rec) (l : List AOper) : Frm → St → OutF := List.rec (fun fs s => some (fs, s)) (fun o _ ih => op1 rec o ih) l

/-- what one operation of a region did: its marks, the states around it, the cell that it loads -/
structure Mk where
  m : Nat × Nat
  a : St
  b : St
  ld : Option (Nat × Nat)
abbrev OutM := Option (List Mk × Frm × St)
def consM (m : Mk) (r : OutM) : OutM := opt2 r fun ms r => some (m :: ms, r)
def ldPlace (fs : Frm) (x : Arg) : Option (Nat × Nat) := match ev fs x with
  | .pointer (some p) => some (p.block, p.off)
  | _ => none
def mkOf (fs : Frm) (s s1 : St) (x : Option Arg) : Mk := Option.rec ⟨(s1.rd, s1.wr), s, s1, none⟩ (fun x => ⟨(0, 0), s, s1, ldPlace fs x⟩) x
def reg1 (rec : Rec) (o : AOper) (k : Frm → St → OutM) (fs : Frm) (s : St) : OutM :=
  opt (wanted fs o.guard) fun b => Bool.rec (consM ⟨(0, 0), s, s, none⟩ (k (putT fs o.dst undef) s))
    (opt2 (o.op rec fs ⟨s.heap, s.next, 0, 0⟩) fun v s1 => consM (mkOf fs s s1 o.ld) (k (putT fs o.dst v) ⟨s1.heap, s1.next, Nat.lor s.rd s1.rd, Nat.lor s.wr s1.wr⟩)) b
/-- the operations one by one; their marks -/
def runReg (rec : Rec) (l : List AOper) : Frm → St → OutM := List.rec (fun fs s => some ([], fs, s)) (fun o _ ih => reg1 rec o ih) l
def apartM (a b : Nat × Nat) : Bool := Nat.beq (Nat.land a.2 (Nat.lor b.1 b.2)) 0 && Nat.beq (Nat.land a.1 b.2) 0
/-- equal values of one cell, of those that are seen to be equal -/
def eqV (x y : Value) : Bool := match x with
  | .int k a => match y with | .int k' b => eqK k k' && eqI a b | _ => false
  | .bool a => match y with | .bool b => Bool.rec (Bool.rec true false b) b a | _ => false
  | .slice (some a) n c => match y with | .slice (some b) m d => Nat.beq a.block b.block && Nat.beq a.off b.off && a.spot.isNone && b.spot.isNone && Nat.beq n m && Nat.beq c d | _ => false
  | .slice none n c => match y with | .slice none m d => Nat.beq n m && Nat.beq c d | _ => false
  | .pointer (some a) => match y with | .pointer (some b) => Nat.beq a.block b.block && Nat.beq a.off b.off && a.spot.isNone && b.spot.isNone | _ => false
  | .pointer none => match y with | .pointer none => true | _ => false
  | .string a => match y with | .string b => eqBytes a.data.toList b.data.toList | _ => false
  | _ => false
def cellS (s : St) (x o : Nat) : Option Value := opt (s.get x) fun c => nth c o
def hasBit (m x : Nat) : Bool := Nat.beq (Nat.mod (Nat.shiftRight m x) 2) 1
/-- an operation's write leaves the cell that another loads as it is -/
def ldFree (l w : Mk) : Bool := Option.rec true (fun p => Prod.rec (fun x o => bif hasBit w.m.2 x then
    Option.rec false (fun v => Option.rec false (fun v1 => Option.rec false (fun v2 => eqV v v1 && eqV v v2) (cellS w.b x o)) (cellS w.a x o)) (cellS l.a x o) else true) p) l.ld
def apartK (a b : Mk) : Bool := bif apartM a.m b.m then bif ldFree a b then ldFree b a else false else false
def apartP (ms : List Mk) (p : Nat × Nat) : Bool :=
  Option.rec false (fun a => Option.rec false (fun b => apartK a b) (nth ms p.2)) (nth ms p.1)
def apartAll (ms : List Mk) (l : List (Nat × Nat)) : Bool := List.rec true (fun p _ ih => bif apartP ms p then ih else false) l

abbrev OutX := Option (AExit × Frm × St)
abbrev X := Rec → Nat → Frm → St → OutX
def xSkip : X := fun _ _ fs s => some (.norm, fs, s)
def xBad : X := fun _ _ _ _ => none
def xExit (id : Nat) : X := fun _ _ fs s => some (.exit id, fs, s)
def xRet : X := fun _ _ fs s => some (.ret, fs, s)
def xOps (l : List AOper) : X := fun rec _ fs s => opt2 (runOps rec l fs s) fun fs s => some (.norm, fs, s)
def xReg (l : List AOper) (un : List (Nat × Nat)) : X := fun rec _ fs s =>
  opt2 (runReg rec l fs s) fun ms r => bif apartAll ms un then some (.norm, r) else none
def seqF (a b : Frm → St → OutX) (fs : Frm) (s : St) : OutX :=
  opt2 (a fs s) fun e r => AExit.rec (b r.1 r.2) (fun i => some (.exit i, r)) (some (.ret, r)) e
def xSeq (a b : X) : X := fun rec n fs s => opt2 (a rec n fs s) fun e r => AExit.rec (b rec n r.1 r.2) (fun i => some (.exit i, r)) (some (.ret, r)) e
def xCond (x : Arg) (a b : X) : X := fun rec n fs s => match ev fs x with
  | .bool t => Bool.rec (b rec n fs s) (a rec n fs s) t
  | _ => none
def xBlock (id : Nat) (b : X) : X := fun rec n fs s =>
  opt2 (b rec n fs s) fun e r => AExit.rec (some (.norm, r)) (fun i => Bool.rec (some (.exit i, r)) (some (.norm, r)) (Nat.beq i id)) (some (.ret, r)) e
def loopF (b : Frm → St → OutX) (n : Nat) : Frm → St → OutX := Nat.rec (motive := fun _ => Frm → St → OutX) (fun _ _ => none) (fun _ ih => seqF b ih) n
def xLoop (b : X) : X := fun rec n fs s => loopF (b rec n) n fs s

structure AFunc where
  ntmps : Nat
  results : List ARes
  code : X

def res1 (fs : Frm) (s : St) (r : ARes) : Out := match r with
  | .tmp t => some (orU (fs.get t), s)
  | .cell a n => match n with
    | none => oLoad1 (.t a) (fun _ _ _ => none) fs s
    | some n => oLoadN n (.t a) (fun _ _ _ => none) fs s
def results (fs : Frm) (l : List ARes) : St → Option (List Value × St) :=
  List.rec (fun s => some ([], s)) (fun r _ ih s => opt2 (res1 fs s r) fun v s => opt2 (ih s) fun vs s => some (v :: vs, s)) l
def oneOf (l : List Value) : Value := match l with
  | [v] => v
  | vs => tupOf vs

structure Env where
  fns : T AFunc
  known : FuncId → List Value → St → Option (Value × St)

def frame (l : List Value) : Nat → Frm → Frm := List.rec (fun _ fs => fs) (fun v _ ih n fs => ih (Nat.succ n) (PT.put v (path n) fs)) l
def callF (rec : Rec) (n : Nat) (fn : AFunc) (args : List Value) (s : St) : Out :=
  bif !Nat.ble (lenN args) fn.ntmps then none else
  opt2 (fn.code rec n (frame args 0 .nil) s) fun e r =>
    AExit.rec (opt2 (results r.1 fn.results r.2) fun vs s => some (oneOf vs, s)) (fun _ => none) (opt2 (results r.1 fn.results r.2) fun vs s => some (oneOf vs, s)) e
def call1 (E : Env) (rec : Rec) (n : Nat) : Rec := fun f args s =>
  Option.rec (opt (E.fns.get f) fun fn => callF rec n fn args s) some (E.known f args s)
def callN (E : Env) (n : Nat) : Rec := Nat.rec (fun _ _ _ => none) (fun n ih => call1 E ih n) n
end
end Go.Abs
