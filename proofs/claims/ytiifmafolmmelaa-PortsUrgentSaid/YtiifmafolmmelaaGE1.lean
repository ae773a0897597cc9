import Derived.Control
import Derived.Laws.BytesArg
import Derived.Orders
import Derived.Below
import Derived.Tactics2
import Derived.Laws.Tables
import Derived.Laws.StructEq
import Derived.Laws.Slices
import Derived.Laws.CopyRow
import Derived.Great.BuildSlice
import Derived.ChangeKeysEq
set_option linter.unusedVariables false
set_option linter.unusedSimpArgs false
namespace Go.G

/-! ### What can stay open: the primitive operations on data -/
def iadd (k : IntKind) (a b : Int) : Int := k.wrap (a + b)
def isub (k : IntKind) (a b : Int) : Int := k.wrap (a - b)
def imul (k : IntKind) (a b : Int) : Int := k.wrap (a * b)
def iquo (k : IntKind) (a b : Int) : Int := k.wrap (a.tdiv b)
def irem (_k : IntKind) (a b : Int) : Int := a.tmod b
def ishr (k : IntKind) (a b : Int) : Int := a.fdiv (2 ^ (min b.toNat k.bits))
def ishl (k : IntKind) (a b : Int) : Int := k.wrap (a * 2 ^ (min b.toNat k.bits))
def iand (k : IntKind) (a b : Int) : Int := k.wrap (BitVec.ofInt k.bits a &&& BitVec.ofInt k.bits b).toNat
def ior (k : IntKind) (a b : Int) : Int := k.wrap (BitVec.ofInt k.bits a ||| BitVec.ofInt k.bits b).toNat
def ixor (k : IntKind) (a b : Int) : Int := k.wrap (BitVec.ofInt k.bits a ^^^ BitVec.ofInt k.bits b).toNat
def iandn (k : IntKind) (a b : Int) : Int := k.wrap (BitVec.ofInt k.bits a &&& ~~~ BitVec.ofInt k.bits b).toNat
def iwrap (k : IntKind) (a : Int) : Int := k.wrap a
def ieq (a b : Int) : Bool := decide (a = b)
def ilt (a b : Int) : Bool := decide (a < b)
def ile (a b : Int) : Bool := decide (a ≤ b)
def beqb (a b : Bool) : Bool := a == b
def dlen {α : Type} (l : List α) : Int := (l.length : Int)
def dat {α : Type} (l : List α) (i : Int) : Option α := if 0 ≤ i then l[i.toNat]? else none
def dsub {α : Type} (l : List α) (lo hi : Int) : Option (List α) := if 0 ≤ lo ∧ lo ≤ hi ∧ hi ≤ l.length then some ((l.take hi.toNat).drop lo.toNat) else none
def dcut {α : Type} (l : List α) (lo hi : Int) : List α := (l.take hi.toNat).drop lo.toNat
def dapp {α : Type} (bytes : Nat) (l ys : List α) : Option (List α) := if (l.length + ys.length) * bytes ≤ 140737488355328 ∧ l.length + ys.length ≤ 9223372036854775807 then some (l ++ ys) else none
def dset {α : Type} (l : List α) (i : Int) (a : α) : List α := l.set i.toNat a
def dmk {α : Type} (bytes : Nat) (n : Int) (a : α) : Option (List α) := if 0 ≤ n ∧ n.toNat * bytes ≤ 140737488355328 then some (List.replicate n.toNat a) else none
def oadd (a b : Int) : Int := a + b
def osub (a b : Int) : Int := a - b
def imax (a b : Int) : Int := if b > a then b else a
def imin (a b : Int) : Int := if b < a then b else a
/-- These from this place on. -/
def dput {α : Type} (l : List α) (i : Int) (ys : List α) : Option (List α) := if 0 ≤ i ∧ i + ys.length ≤ l.length then some (l.take i.toNat ++ ys ++ l.drop (i.toNat + ys.length)) else none
def drep {α : Type} (n : Int) (a : α) : List α := List.replicate n.toNat a
def seqb (s t : ByteArray) : Bool := s.toList == t.toList
def dstr (l : List Int) : ByteArray := strOfNums l
def slen (s : ByteArray) : Int := (s.size : Int)
def sat (s : ByteArray) (i : Int) : Option Int := if 0 ≤ i then (s.data[i.toNat]?).map (fun b => (b.toNat : Int)) else none
def mfind {α β : Type} (eq : α → α → Bool) (l : List (α × β)) (k : α) : Option β := (l.find? fun x => eq k x.1).map (·.2)
def mset {α β : Type} (eq : α → α → Bool) (l : List (α × β)) (k : α) (v : β) : List (α × β) :=
  match l with
  | [] => [(k, v)]
  | x :: r => if eq k x.1 then (k, v) :: r else x :: mset eq r k v
end Go.G
namespace Go.G

structure Sig where
  U : Type
  El : U → Type

/-- A datum. -/
inductive DV (S : Sig) where
  | int (k : IntKind) (n : Int)
  | bool (b : Bool)
  | str (s : ByteArray)
  | sl (u : S.U) (l : List (S.El u))

def IntKind.same (k k' : IntKind) : Bool := k.ctorIdx == k'.ctorIdx

inductive K1 where
  | i | b
deriving DecidableEq

def deq1 {S : Sig} : K1 → DV S → DV S → Option Bool
  | .i, .int k a, .int k' b => match IntKind.same k k' with
    | true => some (ieq a b)
    | false => none
  | .b, .bool a, .bool b => some (beqb a b)
  | _, _, _ => none

def deqs {S : Sig} : List K1 → List (DV S) → List (DV S) → Option Bool
  | [], [], [] => some true
  | k :: ks, x :: xs, y :: ys => match deq1 k x y, deqs ks xs ys with
    | some a, some b => some (a && b)
    | _, _ => none
  | _, _, _ => none

/-- The element types of a chapter's slices and maps. -/
structure Uni extends Sig where
  deq : DecidableEq U
  size : U → Nat
  ag : U → Bool
  enc : (u : U) → El u → List (DV toSig)
  dec : (u : U) → List (DV toSig) → Option (El u)
  shape : U → List (Option U)
  keq : (u : U) → El u → El u → Bool
  isKey : U → Bool
  kds : U → List K1
  byt : U → Bool
  nums : (u : U) → List (El u) → List Int
  size_pos : ∀ u, 0 < size u
  enc_len : ∀ u a, (enc u a).length = size u
  shape_len : ∀ u, (shape u).length = size u
  ag_size : ∀ u, ag u = false → size u = 1
  dec_enc : ∀ u xs a, dec u xs = some a → enc u a = xs
  byt_size : ∀ u, byt u = true → size u = 1
  nums_enc : ∀ u l, byt u = true → l.flatMap (enc u) = (nums u l).map (fun n => DV.int .u8 n)
  keq_row : ∀ u a b, isKey u = true → deqs (kds u) (enc u a) (enc u b) = some (keq u a b)
  bys : U → Nat := fun _ => 0
  glob : Nat → Option ((u : U) × List (El u)) := fun _ => none

variable (T : Uni)

inductive CV where
  | d (x : DV T.toSig)
  | nl
  | ref (nm off : Nat)
  | cur (cs : List (DV T.toSig))
  | own (u : T.U) (nm : Nat)
  | buf (u : T.U) (nm : Nat) (off len : Int)
  | elm (u : T.U) (nm : Nat) (i : Int) (f : Nat)
  | fn (f : FuncId) (caps : List Nat)
  | mp (nm : Nat)
  | val (v : Value)

inductive PV where
  | one (c : CV T)
  | agg (cs : List (CV T))
  | tup (ps : List PV)
  | junk

inductive Fact where
  | v (c : Bool) (x : PV T)
  | b (cs : List (CV T))
  | r (u : T.U) (l : List (T.El u)) (fz : Bool)
  | m (uk uv : T.U) (l : List (T.El uk × T.El uv))

inductive Loc where
  | s (i : Nat)
  | h (nm : Nat)
deriving DecidableEq

def Loc.eqb : Loc → Loc → Bool
  | .s i, .s j => Nat.beq i j
  | .h i, .h j => Nat.beq i j
  | _, _ => false

abbrev St := List (Loc × Fact T)
abbrev Wr := List (Loc × Option (Fact T))

variable {T}

def look : St T → Loc → Option (Fact T)
  | [], _ => none
  | (l', f) :: r, l => match Loc.eqb l' l with
    | true => some f
    | false => look r l

def era (l : Loc) : St T → St T
  | [] => []
  | (l', f) :: r => match Loc.eqb l' l with
    | true => era l r
    | false => (l', f) :: era l r

def upd : St T → Wr T → St T
  | σ, [] => σ
  | σ, (l, some f) :: r => upd ((l, f) :: σ) r
  | σ, (l, none) :: r => upd (era l σ) r

/-! ### Operations -/
inductive Opd (T : Uni) where
  | t (i : Nat)
  | c (x : PV T)

inductive PK (T : Uni) where
  | move (x : Opd T)
  | and (c x : Opd T)
  | or (c x : Opd T)
  | alloc (z : List (CV T))
  | box (x : Opd T)
  | build (z : List (CV T)) (ps : List (Nat × Nat × Opd T))
  | mks (u : T.U) (xs : List (Opd T))
  | mksl (u : T.U) (bytes : Nat) (z : List (DV T.toSig)) (x : Opd T)
  | load (m : Nat) (ag : Bool) (x : Opd T)
  | store (m : Nat) (x v : Opd T)
  | faddr (off : Nat) (x : Opd T)
  | fld (off m : Nat) (ag : Bool) (x : Opd T)
  | iaddr (u : T.U) (x i : Opd T)
  | iarr (size len : Nat) (x i : Opd T)
  | gat (g : Nat) (i : Opd T)
  | idi (len : Nat) (k : IntKind) (x i : Opd T)
  | idx (size len : Nat) (ag : Bool) (x i : Opd T)
  | sidx (x i : Opd T)
  | ext (i : Nat) (x : Opd T)
  | bin (op : BinOp) (x y : Opd T)
  | eqb (neg : Bool) (x y : Opd T)
  | eqa (neg : Bool) (ks : List K1) (x y : Opd T)
  | not (x : Opd T)
  | neg (x : Opd T)
  | len (x : Opd T)
  | slen (x : Opd T)
  | app (u : T.U) (bytes : Nat) (x y : Opd T)
  | clr (u : T.U) (z : List (DV T.toSig)) (x : Opd T)
  | call (f : FuncId) (args : List (Opd T))
  | dyn (f : Opd T) (args : List (Opd T))
  | mkf (f : FuncId) (caps : List (Opd T))
  | conv (k : IntKind) (x : Opd T)
  | same (x : Opd T)
  | nilk (x : Opd T)
  | slice (u : T.U) (x : Opd T) (lo hi mx : Option (Opd T))
  | mkm (uk uv : T.U)
  | mlook (uk uv : T.U) (z : List (CV T)) (comma : Bool) (x i : Opd T)
  | mupd (uk uv : T.U) (x k v : Opd T)
  | maxi (x y : Opd T)
  | mini (x y : Opd T)
  | maxi3 (x y z : Opd T)
  | tostr (u : T.U) (x : Opd T)
  | seqs (neg : Bool) (x y : Opd T)
  | look3 (x : Opd T) (lo hi mx : Opd T)
  | bad

structure POp (T : Uni) where
  dst : Option Nat
  guard : Option (Nat × Bool)
  k : PK T

/-- A call: the function, its arguments, the heap that they reach, the next name, the last. -/
def CallH (T : Uni) : Type 1 := (X : Type) → FuncId → List (PV T) → St T → Nat → Nat → (PV T → St T → Nat → Option X) → Option X

/-- What becomes of a loop: the state at its head, the next name, the frame's first and last. -/
def LoopG0 (T : Uni) : Type 1 := (X : Type) → St T → Nat → Nat → Nat → (Exit → St T → Nat → Option X) → Option X
/-- The same, by what the calls come to. -/
def LoopG (T : Uni) : Type 1 := CallH T → (X : Type) → St T → Nat → Nat → Nat → (Exit → St T → Nat → Option X) → Option X

/-- A function's text; a loop bears what becomes of it. -/
inductive ACode (T : Uni) : Type 1 where
  | skip
  | reg (draw : Bool) (ops : List (POp T)) (deps : List (List Nat))
  | seq (a b : ACode T)
  | cond (c : Opd T) (a b : ACode T)
  | block (id : Nat) (c : ACode T)
  | loop (c : ACode T) (g : LoopG T)
  | unroll (k : Nat) (c : ACode T)
  | rfn (f : Opd T) (ps : List Nat) (a b : ACode T) (g : LoopG T)
  | exit (id : Nat)
  | ret

/-! ### The evaluator -/
section
variable {X : Type}

def rdv (σ : St T) (x : Opd T) (K : PV T → Option X) : Option X :=
  match x with
  | .c q => K q
  | .t i => match look σ (.s i) with
    | some (.v true p) => K p
    | _ => none

def rdvs (σ : St T) : List (Opd T) → (List (PV T) → Option X) → Option X
  | [], K => K []
  | x :: xs, K => rdv σ x fun p => rdvs σ xs fun ps => K (p :: ps)

def rdb (σ : St T) (x : Opd T) (K : Bool → Option X) : Option X :=
  rdv σ x fun p => match p with
    | .one (.d (.bool b)) => K b
    | _ => none

def rdi (σ : St T) (x : Opd T) (K : IntKind → Int → Option X) : Option X :=
  rdv σ x fun p => match p with
    | .one (.d (.int k i)) => K k i
    | _ => none

def rdc (σ : St T) (x : Opd T) (K : CV T → Option X) : Option X :=
  rdv σ x fun p => match p with
    | .one c => K c
    | _ => none

def pcells : PV T → Option (List (CV T))
  | .one c => some [c]
  | .agg cs => some cs
  | _ => none

def rdps (σ : St T) : List (Nat × Nat × Opd T) → (List (Nat × Nat × List (CV T)) → Option X) → Option X
  | [], K => K []
  | (off, size, x) :: r, K => rdv σ x fun p => match pcells p with
    | some cs => rdps σ r fun qs => K ((off, size, cs) :: qs)
    | none => none

def fillC : List (CV T) → List (Nat × Nat × List (CV T)) → Option (List (CV T))
  | z, [] => some z
  | z, (off, size, cs) :: r => match Nat.beq cs.length size && Nat.ble (off + size) z.length with
    | true => fillC (z.take off ++ cs ++ z.drop (off + size)) r
    | false => none

def ldv (m : Nat) (ag : Bool) (cells : List (CV T)) (K : PV T → Option X) : Option X :=
  match ag with
  | true => match Nat.beq cells.length m with
    | true => K (.agg cells)
    | false => none
  | false => match cells with
    | [c] => K (.one c)
    | _ => none

/-- A cell as a datum: of which type a nil slice is, the shape says; a buffer is frozen by it. -/
def cvD (σ : St T) : Option T.U → CV T → Option (DV T.toSig × List Nat)
  | _, .d x => some (x, [])
  | some u, .nl => some (.sl u [], [])
  | _, .own _ nm => match look σ (.h nm) with
    | some (.r u l _) => some (.sl u l, [nm])
    | _ => none
  | _, .buf u0 nm off len => match look σ (.h nm) with
    | some (.r u l _) => match T.deq u0 u with
      | .isTrue _ => some (.sl u (dcut l off (oadd off len)), [nm])
      | .isFalse _ => none
    | _ => none
  | _, _ => none

def rowOf (σ : St T) : List (Option T.U) → List (CV T) → Option (List (DV T.toSig) × List Nat)
  | [], [] => some ([], [])
  | sh :: shs, c :: cs => match cvD σ sh c with
    | some (x, fs) => match rowOf σ shs cs with
      | some (xs, gs) => some (x :: xs, fs ++ gs)
      | none => none
    | none => none
  | _, _ => none

def frz (σ : St T) : List Nat → Wr T
  | [] => []
  | nm :: r => match look σ (.h nm) with
    | some (.r u l _) => (.h nm, some (.r u l true)) :: frz σ r
    | _ => frz σ r

def hs (nms : List Nat) : List Loc := nms.map .h

/-- The elements that a slice value stands for. -/
def elems (σ : St T) (u : T.U) (c : CV T) (K : List (T.El u) → List Loc → Option X) : Option X :=
  match c with
  | .d (.sl u' l) => match T.deq u' u with
    | .isTrue h => K (h ▸ l) []
    | .isFalse _ => none
  | .nl => K [] []
  | .own _ nm => match look σ (.h nm) with
    | some (.r u' l _) => match T.deq u' u with
      | .isTrue h => K (h ▸ l) [.h nm]
      | .isFalse _ => none
    | _ => none
  | .buf u0 nm off len => match look σ (.h nm) with
    | some (.r u' l _) => match T.deq u0 u', T.deq u' u with
      | .isTrue _, .isTrue h => K (dcut (h ▸ l : List (T.El u)) off (oadd off len)) [.h nm]
      | _, _ => none
    | _ => none
  | _ => none

def i64 (n : Int) : PV T := .one (.d (.int .i64 n))
def bl (b : Bool) : PV T := .one (.d (.bool b))

def binI (op : BinOp) (k : IntKind) (a b : Int) (K : PV T → Option X) : Option X :=
  match op with
  | .add => K (.one (.d (.int k (iadd k a b))))
  | .sub => K (.one (.d (.int k (isub k a b))))
  | .mul => K (.one (.d (.int k (imul k a b))))
  | .quo => match ieq b 0 with
    | true => none
    | false => K (.one (.d (.int k (iquo k a b))))
  | .rem => match ieq b 0 with
    | true => none
    | false => K (.one (.d (.int k (irem k a b))))
  | .shr => match ilt b 0 with
    | true => none
    | false => K (.one (.d (.int k (ishr k a b))))
  | .shl => match ilt b 0 with
    | true => none
    | false => K (.one (.d (.int k (ishl k a b))))
  | .and => K (.one (.d (.int k (iand k a b))))
  | .or => K (.one (.d (.int k (ior k a b))))
  | .xor => K (.one (.d (.int k (ixor k a b))))
  | .andNot => K (.one (.d (.int k (iandn k a b))))
  | .eql => K (bl (ieq a b))
  | .neq => K (bl (!ieq a b))
  | .lss => K (bl (ilt a b))
  | .leq => K (bl (ile a b))
  | .gtr => K (bl (ilt b a))
  | .geq => K (bl (ile b a))

def ceq : K1 → CV T → CV T → Option Bool
  | k, .d x, .d y => deq1 k x y
  | _, _, _ => none

def ceqs : List K1 → List (CV T) → List (CV T) → Option Bool
  | [], [], [] => some true
  | k :: ks, c :: cs, d :: ds => match ceq k c d, ceqs ks cs ds with
    | some a, some b => some (a && b)
    | _, _ => none
  | _, _, _ => none

def namesC : CV T → List Nat
  | .ref nm _ | .own _ nm | .buf _ nm _ _ | .elm _ nm _ _ | .mp nm => [nm]
  | .fn _ caps => caps
  | _ => []

def namesCs : List (CV T) → List Nat
  | [] => []
  | c :: cs => namesC c ++ namesCs cs

mutual
def namesP : PV T → List Nat
  | .one c => namesC c
  | .agg cs => namesCs cs
  | .tup ps => namesPs ps
  | .junk => []
def namesPs : List (PV T) → List Nat
  | [] => []
  | p :: ps => namesP p ++ namesPs ps
end

def namesF : Option (Fact T) → List Nat
  | some (.b cs) => namesCs cs
  | _ => []

def insN (x : Nat) (l : List Nat) : List Nat := match l.any (Nat.beq x) with
  | true => l
  | false => x :: l

/-- Names that can be reached. -/
def reach (σ : St T) : Nat → List Nat → List Nat → List Nat
  | 0, _, acc => acc
  | _ + 1, [], acc => acc
  | k + 1, nm :: r, acc => match acc.any (Nat.beq nm) with
    | true => reach σ k r acc
    | false => reach σ k (namesF (look σ (.h nm)) ++ r) (nm :: acc)

def heapAt (σ : St T) : List Nat → St T
  | [] => []
  | nm :: r => match look σ (.h nm) with
    | some f => (.h nm, f) :: heapAt σ r
    | none => heapAt σ r

def heapOf (σ : St T) : St T := go σ []
where go : St T → List Nat → St T
  | [], _ => []
  | (.h nm, f) :: r, seen => match seen.any (Nat.beq nm) with
    | true => go r seen
    | false => (.h nm, f) :: go r (nm :: seen)
  | (.s _, _) :: r, seen => go r seen

def hnames : St T → List Nat
  | [] => []
  | (.h nm, _) :: r => nm :: hnames r
  | _ :: r => hnames r

/-- What is handed back of the heap: what was handed in, and what the frame has made. -/
def heapIn (H : St T) (lo hi : Nat) (σ : St T) : St T :=
  (heapOf σ).filter fun x => match x.1 with
    | .h nm => (hnames H).any (Nat.beq nm) || (Nat.ble lo nm && Nat.blt nm hi)
    | .s _ => false

def locs (w : Wr T) : List Loc := w.map (·.1)

def doCall (call : CallH T) (σ : St T) (n lim : Nat) (f : FuncId) (ps : List (PV T)) (K : PV T → List Loc → Wr T → Nat → Option X) : Option X :=
  let nms := reach σ 100 (namesPs ps) []
  match nms.all fun nm => Nat.blt nm n with
  | true => call X f ps (heapAt σ nms) n lim fun r H' n' => K r ((heapAt σ nms).map (·.1)) (((heapAt σ nms).map fun x => (x.1, none)) ++ H'.map fun x => (x.1, some x.2)) n'
  | false => none

def refIds : List (PV T) → Option (List Nat)
  | [] => some []
  | .one (.ref nm 0) :: ps => match refIds ps with
    | some ids => some (nm :: ids)
    | none => none
  | _ => none

def refs (ids : List Nat) : List (PV T) := ids.map fun nm => .one (.ref nm 0)

def keyOf (ag : Bool) (p : PV T) : Option (List (CV T)) :=
  match ag, p with
  | true, .agg cs => some cs
  | false, .one c => some [c]
  | _, _ => none

def shp (ag : Bool) (cells : List (CV T)) : PV T :=
  match ag, cells with
  | true, cs => .agg cs
  | false, [c] => .one c
  | false, _ => .junk

def toIs (σ : St T) : List (Opd T) → (List Int → Option X) → Option X
  | [], K => K []
  | x :: xs, K => rdi σ x fun k i => match k with
    | .i64 => toIs σ xs fun is => K (i :: is)
    | _ => none

def rowsOf (σ : St T) (u : T.U) : List (PV T) → Option (List (T.El u) × List Nat)
  | [] => some ([], [])
  | p :: ps => match pcells p with
    | some cs => match rowOf σ (T.shape u) cs with
      | some (xs, fs) => match T.dec u xs with
        | some a => match rowsOf σ u ps with
          | some (as, gs) => some (a :: as, fs ++ gs)
          | none => none
        | none => none
      | none => none
    | none => none

/-- Cells that are numbers of one kind. -/
def intsK (k : IntKind) : List (CV T) → Option (List Int)
  | [] => some []
  | .d (.int k' n) :: r => match IntKind.same k' k, intsK k r with
    | true, some l => some (n :: l)
    | _, _ => none
  | _ => none

def rdo (σ : St T) (x : Option (Opd T)) (d : Int) (K : Int → Option X) : Option X :=
  match x with
  | none => K d
  | some y => rdi σ y fun _ l => K l

def evK (call : CallH T) (σ : St T) (n lim : Nat) (dst : Option Nat) (K : PV T → List Loc → Wr T → Nat → Option X) : PK T → Option X
  | .move x => rdv σ x fun p => K p [] [] n
  | .and c x => rdb σ c fun cb => match cb with
    | false => K (bl false) [] [] n
    | true => rdb σ x fun xb => K (bl xb) [] [] n
  | .or c x => rdb σ c fun cb => match cb with
    | true => K (bl true) [] [] n
    | false => rdb σ x fun xb => K (bl xb) [] [] n
  | .alloc z => match Nat.blt n lim with
    | true => K (.one (.ref n 0)) [] [(.h n, some (.b z))] (n + 1)
    | false => none
  | .box x => match Nat.blt n lim with
    | true => rdv σ x fun p => match pcells p with
      | some cs => K (.one (.ref n 0)) [] [(.h n, some (.b cs))] (n + 1)
      | none => none
    | false => none
  | .build z ps => rdps σ ps fun qs => match fillC z qs with
    | some out => K (.agg out) [] [] n
    | none => none
  | .mks u xs => match xs with
    | [] => K (.one .nl) [] [] n
    | x :: xs => match Nat.blt n lim with
      | true => rdvs σ (x :: xs) fun ps => match rowsOf σ u ps with
        | some (as, fs) => K (.one (.own u n)) (hs fs) ((.h n, some (.r u as false)) :: frz σ fs) (n + 1)
        | none => none
      | false => none
  | .mksl u bytes z x => match Nat.blt n lim with
    | true => rdi σ x fun _ i => match T.dec u z with
      | some a => match dmk bytes i a with
        | some l => K (.one (.own u n)) [] [(.h n, some (.r u l false))] (n + 1)
        | none => none
      | none => none
    | false => none
  | .load m ag x => rdc σ x fun c => match c with
    | .ref nm off => match look σ (.h nm) with
      | some (.b cs) => ldv m ag ((cs.drop off).take m) fun p => K p [.h nm] [] n
      | _ => none
    | .cur cs => ldv m ag ((cs.map CV.d).take m) fun p => K p [] [] n
    | .elm u0 nm i f => match look σ (.h nm) with
      | some (.r u l _) => match T.deq u0 u with
        | .isTrue _ => match dat l i with
          | some a => ldv m ag ((((T.enc u a).map CV.d).drop f).take m) fun p => K p [.h nm] [] n
          | none => none
        | .isFalse _ => none
      | _ => none
    | _ => none
  | .store m x y => rdc σ x fun c => rdv σ y fun q => match pcells q with
    | some new => match Nat.beq new.length m with
      | true => match c with
        | .ref nm off => match look σ (.h nm) with
          | some (.b cs) => match Nat.ble (off + m) cs.length with
            | true => K .junk [.h nm] [(.h nm, some (.b (cs.take off ++ new ++ cs.drop (off + m))))] n
            | false => none
          | _ => none
        | .elm u0 nm i f => match look σ (.h nm) with
          | some (.r u l false) => match T.deq u0 u with
            | .isTrue _ => match dat l i with
              | some a => match rowOf σ (((T.shape u).drop f).take m) new with
                | some (xs, []) => match T.dec u ((T.enc u a).take f ++ xs ++ (T.enc u a).drop (f + m)) with
                  | some a' => match Nat.ble (f + m) (T.size u) with
                    | true => K .junk [.h nm] [(.h nm, some (.r u (dset l i a') false))] n
                    | false => none
                  | none => none
                | _ => none
              | none => none
            | .isFalse _ => none
          | _ => none
        | _ => none
      | false => none
    | none => none
  | .faddr d x => rdc σ x fun c => match c with
    | .ref nm off => K (.one (.ref nm (off + d))) [] [] n
    | .cur cs => match Nat.ble d cs.length with
      | true => K (.one (.cur (cs.drop d))) [] [] n
      | false => none
    | .elm u nm i f => K (.one (.elm u nm i (f + d))) [] [] n
    | _ => none
  | .fld off m ag x => rdv σ x fun p => match p with
    | .agg cs => ldv m ag ((cs.drop off).take m) fun p => K p [] [] n
    | _ => none
  | .iaddr u x i => rdc σ x fun c => rdi σ i fun _ iv => match c with
    | .d (.sl u' l) => match T.deq u' u with
      | .isTrue _ => match dat l iv with
        | some a => K (.one (.cur (T.enc u' a))) [] [] n
        | none => none
      | .isFalse _ => none
    | .own _ nm => match look σ (.h nm) with
      | some (.r u' l _) => match T.deq u' u with
        | .isTrue _ => match dat l iv with
          | some _ => K (.one (.elm u' nm iv 0)) [.h nm] [] n
          | none => none
        | .isFalse _ => none
      | _ => none
    | .buf u0 nm off len => match look σ (.h nm) with
      | some (.r u' l _) => match T.deq u0 u', T.deq u' u with
        | .isTrue _, .isTrue _ => match ile 0 iv && ilt iv len with
          | true => match dat l (oadd off iv) with
            | some _ => K (.one (.elm u' nm (oadd off iv) 0)) [.h nm] [] n
            | none => none
          | false => none
        | _, _ => none
      | _ => none
    | _ => none
  | .iarr size len x i => rdc σ x fun c => rdi σ i fun _ iv => match ile 0 iv && ilt iv len with
    | true => match c with
      | .ref nm off => K (.one (.ref nm (off + iv.toNat * size))) [] [] n
      | .cur cs => match Nat.ble (iv.toNat * size) cs.length with
        | true => K (.one (.cur (cs.drop (iv.toNat * size)))) [] [] n
        | false => none
      | _ => none
    | false => none
  | .gat g i => rdi σ i fun _ iv => match T.glob g with
    | some ⟨u, l⟩ => match dat l iv with
      | some a => K (.one (.cur (T.enc u a))) [] [] n
      | none => none
    | none => none
  | .idi len k x i => rdv σ x fun p => rdi σ i fun _ iv => match p with
    | .agg cs => match intsK k cs with
      | some l => match Nat.beq l.length len with
        | true => match dat l iv with
          | some v => K (.one (.d (.int k v))) [] [] n
          | none => none
        | false => none
      | none => none
    | _ => none
  | .idx size len ag x i => rdv σ x fun p => rdi σ i fun _ iv => match p with
    | .agg cs => match ile 0 iv && ilt iv len with
      | true => ldv size ag ((cs.drop (iv.toNat * size)).take size) fun p => K p [] [] n
      | false => none
    | _ => none
  | .sidx x i => rdv σ x fun p => rdi σ i fun _ iv => match p with
    | .one (.d (.str s)) => match sat s iv with
      | some b => K (.one (.d (.int .u8 b))) [] [] n
      | none => none
    | _ => none
  | .ext i x => rdv σ x fun p => match p with
    | .tup ps => match ps[i]? with
      | some q => K q [] [] n
      | none => none
    | _ => none
  | .bin op x y => rdi σ x fun k a => rdi σ y fun k' b => match IntKind.same k k' with
    | true => binI op k a b fun p => K p [] [] n
    | false => none
  | .eqb neg x y => rdb σ x fun a => rdb σ y fun b => match neg with
    | false => K (bl (beqb a b)) [] [] n
    | true => K (bl (!beqb a b)) [] [] n
  | .eqa neg ks x y => rdv σ x fun p => rdv σ y fun q => match p, q with
    | .agg cs, .agg ds => match ceqs ks cs ds with
      | some r => match neg with
        | false => K (bl r) [] [] n
        | true => K (bl (!r)) [] [] n
      | none => none
    | _, _ => none
  | .not x => rdb σ x fun b => K (bl (!b)) [] [] n
  | .neg x => rdi σ x fun k b => K (.one (.d (.int k (isub k 0 b)))) [] [] n
  | .len x => rdc σ x fun c => match c with
    | .d (.sl _ l) => K (i64 (dlen l)) [] [] n
    | .nl => K (i64 0) [] [] n
    | .own _ nm => match look σ (.h nm) with
      | some (.r _ l _) => K (i64 (dlen l)) [.h nm] [] n
      | _ => none
    | .buf _ _ _ len => K (i64 len) [] [] n
    | _ => none
  | .slen x => rdc σ x fun c => match c with
    | .d (.str s) => K (i64 (slen s)) [] [] n
    | _ => none
  | .app u bytes x y => match Nat.blt n lim with
    | true => rdc σ x fun c => rdc σ y fun c2 => elems σ u c2 fun ys rd => match c with
      | .nl => match dapp bytes [] ys with
        | some l => K (.one (.own u n)) rd [(.h n, some (.r u l false))] (n + 1)
        | none => none
      | .own _ nm => match look σ (.h nm) with
        | some (.r u' l fz) => match T.deq u' u with
          | .isTrue h => match dapp bytes (h ▸ l : List (T.El u)) ys with
            | some l' => K (.one (.own u n)) (.h nm :: rd) [(.h nm, none), (.h n, some (.r u l' fz))] (n + 1)
            | none => none
          | .isFalse _ => none
        | _ => none
      | .buf u0 nm off len => match look σ (.h nm) with
        | some (.r u' l false) => match T.deq u0 u', T.deq u' u with
          | .isTrue _, .isTrue h => match ile 0 off && ile 0 len with
            | true => match dput (h ▸ l : List (T.El u)) (oadd off len) ys with
              | some l' => K (.one (.buf u nm off (oadd len (dlen ys)))) (.h nm :: rd) [(.h nm, some (.r u l' false))] n
              | none => none
            | false => none
          | _, _ => none
        | _ => none
      | _ => none
    | false => none
  | .clr u z x => rdc σ x fun c => match c with
    | .buf u0 nm off len => match look σ (.h nm) with
      | some (.r u' l false) => match T.deq u0 u', T.deq u' u with
        | .isTrue _, .isTrue _ => match T.dec u' z with
          | some a => match ile 0 off && ile 0 len with
            | true => match dput l off (drep len a) with
              | some l' => K .junk [.h nm] [(.h nm, some (.r u' l' false))] n
              | none => none
            | false => none
          | none => none
        | _, _ => none
      | _ => none
    | _ => none
  | .call f xs => rdvs σ xs fun ps => doCall call σ n lim f ps K
  | .dyn f xs => rdc σ f fun c => rdvs σ xs fun ps => match c with
    | .fn g ids => doCall call σ n lim g (ps ++ refs ids) K
    | _ => none
  | .mkf f xs => rdvs σ xs fun ps => match refIds ps with
    | some ids => K (.one (.fn f ids)) [] [] n
    | none => none
  | .conv k x => rdi σ x fun _ b => K (.one (.d (.int k (iwrap k b)))) [] [] n
  | .same x => rdv σ x fun p => K p [] [] n
  | .nilk x => rdc σ x fun c => match c with
    | .ref _ _ | .cur _ | .elm _ _ _ _ | .fn _ _ => K (.one c) [] [] n
    | _ => none
  | .slice u x lo hi mx => rdc σ x fun c => match mx with
    | some _ => none
    | none => match c with
      | .d (.sl u' l) => match T.deq u' u with
        | .isTrue _ => rdo σ lo 0 fun a => rdo σ hi (dlen l) fun b => match dsub l a b with
          | some l' => K (.one (.d (.sl u' l'))) [] [] n
          | none => none
        | .isFalse _ => none
      | .nl => rdo σ lo 0 fun a => rdo σ hi 0 fun b => match ieq a 0 && ieq b 0 with
        | true => K (.one .nl) [] [] n
        | false => none
      | .own _ nm => match look σ (.h nm) with
        | some (.r u' l _) => match T.deq u' u with
          | .isTrue _ => rdo σ lo 0 fun a => rdo σ hi (dlen l) fun b => match ile 0 a && (ile a b && ile b (dlen l)) with
            | true => K (.one (.buf u' nm a (osub b a))) [.h nm] [] n
            | false => none
          | .isFalse _ => none
        | _ => none
      | .buf u' nm off len => match T.deq u' u with
        | .isTrue _ => rdo σ lo 0 fun a => rdo σ hi len fun b => match ile 0 a && (ile a b && ile b len) with
          | true => K (.one (.buf u' nm (oadd off a) (osub b a))) [] [] n
          | false => match look σ (.h nm) with
            | some (.r _ l _) => match ile 0 off && (ile 0 a && (ile a b && ile (oadd off b) (dlen l))) with
              | true => K (.one (.buf u' nm (oadd off a) (osub b a))) [.h nm] [] n
              | false => none
            | _ => none
        | .isFalse _ => none
      | _ => none
  | .mkm uk uv => match Nat.blt n lim with
    | true => K (.one (.mp n)) [] [(.h n, some (.m uk uv []))] (n + 1)
    | false => none
  | .mlook uk uv z comma x i => rdc σ x fun c => match c with
    | .mp nm => match look σ (.h nm) with
      | some (.m uk' uv' l) => match T.deq uk' uk, T.deq uv' uv with
        | .isTrue _, .isTrue _ => rdv σ i fun p => match keyOf (T.ag uk') p with
          | some cs => match rowOf σ (T.shape uk') cs with
            | some (xs, []) => match T.dec uk' xs with
              | some k => match mfind (T.keq uk') l k with
                | some v => match comma with
                  | true => K (.tup [shp (T.ag uv') ((T.enc uv' v).map CV.d), bl true]) [.h nm] [] n
                  | false => K (shp (T.ag uv') ((T.enc uv' v).map CV.d)) [.h nm] [] n
                | none => match comma with
                  | true => K (.tup [shp (T.ag uv') z, bl false]) [.h nm] [] n
                  | false => K (shp (T.ag uv') z) [.h nm] [] n
              | none => none
            | _ => none
          | none => none
        | _, _ => none
      | _ => none
    | _ => none
  | .mupd uk uv x k v => rdc σ x fun c => match c with
    | .mp nm => match look σ (.h nm) with
      | some (.m uk' uv' l) => match T.deq uk' uk, T.deq uv' uv with
        | .isTrue _, .isTrue _ => rdv σ k fun p => rdv σ v fun q => match keyOf (T.ag uk') p, keyOf (T.ag uv') q with
          | some cs, some ds => match rowOf σ (T.shape uk') cs, rowOf σ (T.shape uv') ds with
            | some (xs, []), some (ys, []) => match T.dec uk' xs, T.dec uv' ys with
              | some kk, some vv => K .junk [.h nm] [(.h nm, some (.m uk' uv' (mset (T.keq uk') l kk vv)))] n
              | _, _ => none
            | _, _ => none
          | _, _ => none
        | _, _ => none
      | _ => none
    | _ => none
  | .maxi x y => rdi σ x fun k a => rdi σ y fun k' b => match IntKind.same k k' with
    | true => K (.one (.d (.int k (imax a b)))) [] [] n
    | false => none
  | .mini x y => rdi σ x fun k a => rdi σ y fun k' b => match IntKind.same k k' with
    | true => K (.one (.d (.int k (imin a b)))) [] [] n
    | false => none
  | .maxi3 x y z => rdi σ x fun k a => rdi σ y fun k' b => rdi σ z fun k'' c => match IntKind.same k k' && IntKind.same k k'' with
    | true => K (.one (.d (.int k (imax (imax a b) c)))) [] [] n
    | false => none
  | .tostr u x => rdc σ x fun c => elems σ u c fun ys rd => match T.byt u with
    | true => K (.one (.d (.str (dstr (T.nums u ys))))) rd [] n
    | false => none
  | .seqs neg x y => rdc σ x fun c => rdc σ y fun c2 => match c, c2 with
    | .d (.str s), .d (.str t) => match neg with
      | false => K (bl (seqb s t)) [] [] n
      | true => K (bl (!seqb s t)) [] [] n
    | _, _ => none
  | .look3 x lo hi mx => rdc σ x fun c => rdi σ lo fun _ a => rdi σ hi fun _ b => rdi σ mx fun _ m => match c with
    | .own _ nm => match look σ (.h nm) with
      | some (.r _ l _) => match ile 0 a && (ile a b && (ile b m && ile m (dlen l))) with
        | true => K .junk [.h nm] [] n
        | false => none
      | _ => none
    | _ => none
  | .bad => none

/-! ### Regions -/
def dw (d : Option Nat) (c : Bool) (x : PV T) : Wr T :=
  match d with
  | some d => [(.s d, some (.v c x))]
  | none => []

def gdv (σ : St T) (g : Option (Nat × Bool)) (A : St T → Option X) (B : St T → Option X) : Option X :=
  match g with
  | none => A σ
  | some (g, want) => match look σ (.s g) with
    | some (.v true (.one (.d (.bool x)))) => match x with
      | true => match want with
        | true => A ((.s g, .v true (bl true)) :: σ)
        | false => B ((.s g, .v true (bl true)) :: σ)
      | false => match want with
        | true => B ((.s g, .v true (bl false)) :: σ)
        | false => A ((.s g, .v true (bl false)) :: σ)
    | some (.v false _) => B σ
    | _ => none

def evSeq (call : CallH T) (lim : Nat) : List (POp T) → St T → Nat → (St T → Nat → Option X) → Option X
  | [], σ, n, K => K σ n
  | p :: ps, σ, n, K => gdv σ p.guard
      (fun σ => evK call σ n lim p.dst (fun x _ wr n' => evSeq call lim ps (upd σ (dw p.dst true x ++ wr)) n' K) p.k)
      (fun σ => evSeq call lim ps (upd σ (dw p.dst false .junk)) n K)

/-- What has been read and written so far, in memory, operation by operation (its number first). -/
abbrev Acc := List (Nat × List Loc × List Loc)

def disjB (a b : List Loc) : Bool := a.all fun l => b.all fun l' => !Loc.eqb l l'

def mchk (dep : List Nat) (rd wr : List Loc) : Acc → Bool
  | [] => true
  | (i, r, w) :: acc => (dep.any (Nat.beq i) || (disjB w rd && (disjB w wr && disjB wr r))) && mchk dep rd wr acc

def evDraw (call : CallH T) (lim : Nat) : List (POp T) → List (List Nat) → Nat → Acc → St T → Nat → (St T → Nat → Option X) → Option X
  | [], _, _, _, σ, n, K => K σ n
  | p :: ps, deps, i, acc, σ, n, K => gdv σ p.guard
      (fun σ => evK call σ n lim p.dst (fun x rd wr n' => match mchk (deps.headD []) rd (locs wr) acc with
        | true => match rd, wr with
          | [], [] => evDraw call lim ps deps.tail (i + 1) acc (upd σ (dw p.dst true x)) n' K
          | rd, wr => evDraw call lim ps deps.tail (i + 1) ((i, rd, locs wr) :: acc) (upd σ (dw p.dst true x ++ wr)) n' K
        | false => none) p.k)
      (fun σ => evDraw call lim ps deps.tail (i + 1) acc (upd σ (dw p.dst false .junk)) n K)

/-! ### Code -/
def unrollF (body : St T → Nat → (Exit → St T → Nat → Option X) → Option X) : Nat → St T → Nat → (Exit → St T → Nat → Option X) → Option X
  | 0, _, _, _ => none
  | k + 1, σ, n, K => body σ n fun e σ' n' => match e with
    | .normal => unrollF body k σ' n' K
    | e => K e σ' n'

def ev (call : CallH T) (base lim : Nat) : ACode T → St T → Nat → (Exit → St T → Nat → Option X) → Option X
  | .skip, σ, n, K => K .normal σ n
  | .reg draw ops deps, σ, n, K => match draw with
    | true => evDraw call lim ops deps 0 [] σ n fun σ n => K .normal σ n
    | false => evSeq call lim ops σ n fun σ n => K .normal σ n
  | .seq a b, σ, n, K => ev call base lim a σ n fun e σ n => match e with
    | .normal => ev call base lim b σ n K
    | e => K e σ n
  | .cond c a b, σ, n, K => rdb σ c fun t => match t with
    | true => ev call base lim a σ n K
    | false => ev call base lim b σ n K
  | .block id a, σ, n, K => ev call base lim a σ n fun e σ n => match e with
    | .exit id' => match Nat.beq id' id with
      | true => K .normal σ n
      | false => K (.exit id') σ n
    | e => K e σ n
  | .loop _ g, σ, n, K => g call X σ n base lim K
  | .rfn _ _ _ _ g, σ, n, K => g call X σ n base lim K
  | .unroll k c, σ, n, K => unrollF (fun σ n K => ev call base lim c σ n K) k σ n K
  | .exit id, σ, n, K => K (.exit id) σ n
  | .ret, σ, n, K => K .ret σ n

inductive RV where
  | t (i : Nat)
  | c (i m : Nat) (ag : Bool)

def rdR (σ : St T) : RV → (PV T → Option X) → Option X
  | .t i, K => match look σ (.s i) with
    | some (.v true p) => K p
    | _ => none
  | .c i m ag, K => match look σ (.s i) with
    | some (.v true (.one (.ref nm off))) => match look σ (.h nm) with
      | some (.b cs) => ldv m ag ((cs.drop off).take m) K
      | _ => none
    | _ => none

def rdRs (σ : St T) : List RV → (List (PV T) → Option X) → Option X
  | [], K => K []
  | r :: rs, K => rdR σ r fun p => rdRs σ rs fun ps => K (p :: ps)

def resPV : List (PV T) → PV T
  | [p] => p
  | ps => .tup ps

structure AFn (T : Uni) : Type 1 where
  pc : ACode T
  N : Nat
  rv : List RV

def argSt : Nat → List (PV T) → St T
  | _, [] => []
  | i, p :: ps => (.s i, .v true p) :: argSt (i + 1) ps

def evFn (call : CallH T) (lim : Nat) (F : AFn T) (args : List (PV T)) (H : St T) (n : Nat) (K : PV T → St T → Nat → Option X) : Option X :=
  match Nat.ble args.length F.N with
  | true => ev call n lim F.pc (argSt 0 args ++ H) n fun e σ n' => match e with
    | .normal => rdRs σ F.rv fun ps => K (resPV ps) (heapIn H n lim σ) n'
    | .ret => rdRs σ F.rv fun ps => K (resPV ps) (heapIn H n lim σ) n'
    | _ => none
  | false => none
end

inductive Ent (T : Uni) : Type 1 where
  | text (F : AFn T)
  | con (h : (X : Type) → List (PV T) → St T → Nat → Nat → (PV T → St T → Nat → Option X) → Option X)

def findE : List (FuncId × Ent T) → FuncId → Option (Ent T)
  | [], _ => none
  | (g, e) :: r, f => match Nat.beq g f with
    | true => some e
    | false => findE r f

def budget : Nat → Nat
  | 0 => 1048576
  | d + 1 => 1048576 * budget d

def callH (ents : List (FuncId × Ent T)) : Nat → CallH T
  | 0 => fun _ _ _ _ _ _ _ => none
  | d + 1 => fun X f args H n lim K => match findE ents f with
    | some (.text F) => match Nat.ble (n + budget d) lim with
      | true => evFn (callH ents d) (n + budget d) F args H n fun p H' _ => K p H' (n + budget d)
      | false => none
    | some (.con h) => h X args H n lim K
    | none => none
end Go.G
namespace Go.G
variable {T : Uni}

inductive GV where
  | blk (b : Nat)
  | row (A : Option Addr) (len cap : Nat)

structure Gh where
  bt : Nat → Option GV
  own : Nat → Option Nat
  imm : Nat → Nat

inductive RepD (T : Uni) (imm : Nat → Nat) (w : World) : DV T.toSig → Value → Prop
  | int (k n) : RepD T imm w (.int k n) (.int k n)
  | bool (b) : RepD T imm w (.bool b) (.bool b)
  | str (s) : RepD T imm w (.str s) (.string s)
  | nil (u A cap) : RepD T imm w (.sl u []) (.slice A 0 cap)
  | sl (u) (l : List (T.El u)) (b off cap : Nat) (vals : Nat → Nat → Value) (hc : l.length ≤ cap) (hb : b < w.heap.size) (hi : off + l.length * T.size u ≤ imm b)
      (hv : ∀ i a, l[i]? = some a → ∀ j d, (T.enc u a)[j]? = some d → w.cell? ⟨b, off + i * T.size u + j, none⟩ = some (vals i j))
      (hr : ∀ i a, l[i]? = some a → ∀ j d, (T.enc u a)[j]? = some d → RepD T imm w d (vals i j)) : RepD T imm w (.sl u l) (.slice (some ⟨b, off, none⟩) l.length cap)

section
variable {imm imm' : Nat → Nat} {w w' : World}

/-- From this cell on these data. -/
def RowAt (imm : Nat → Nat) (w : World) (b off : Nat) (xs : List (DV T.toSig)) : Prop :=
  ∀ j d, xs[j]? = some d → ∃ v, w.cell? ⟨b, off + j, none⟩ = some v ∧ RepD T imm w d v

def RowsAt (imm : Nat → Nat) (w : World) (b off : Nat) (u : T.U) (l : List (T.El u)) : Prop :=
  ∀ i a, l[i]? = some a → RowAt imm w b (off + i * T.size u) (T.enc u a)

theorem RepD.int_iff {k n v} : RepD T imm w (.int k n) v ↔ v = .int k n := ⟨fun h => by cases h; rfl, fun h => h ▸ .int k n⟩
theorem RepD.bool_iff {b v} : RepD T imm w (.bool b) v ↔ v = .bool b := ⟨fun h => by cases h; rfl, fun h => h ▸ .bool b⟩
theorem RepD.str_iff {s v} : RepD T imm w (.str s) v ↔ v = .string s := ⟨fun h => by cases h; rfl, fun h => h ▸ .str s⟩
theorem RepD.sl_iff {u : T.U} {l : List (T.El u)} {v : Value} : RepD T imm w (.sl u l) v ↔ ∃ A cap, v = .slice A l.length cap ∧ l.length ≤ cap ∧
    (l = [] ∨ ∃ b off, A = some ⟨b, off, none⟩ ∧ b < w.heap.size ∧ off + l.length * T.size u ≤ imm b ∧ RowsAt imm w b off u l) := by
  constructor
  · intro h
    cases h with
    | nil _ A cap => exact ⟨A, cap, rfl, Nat.zero_le _, .inl rfl⟩
    | sl _ _ b off cap vals hc hb hi hv hr => exact ⟨_, cap, rfl, hc, .inr ⟨b, off, rfl, hb, hi, fun i a ha j d hd => ⟨_, hv i a ha j d hd, hr i a ha j d hd⟩⟩⟩
  · rintro ⟨A, cap, rfl, hc, rfl | ⟨b, off, rfl, hb, hi, hr⟩⟩
    · exact .nil u A cap
    · refine .sl u l b off cap (fun i j => (w.cell? ⟨b, off + i * T.size u + j, none⟩).getD undef) hc hb hi (fun i a ha j d hd => ?_) fun i a ha j d hd => ?_
      · obtain ⟨v, h1, _⟩ := hr i a ha j d hd
        rw [h1]; rfl
      · obtain ⟨v, h1, h2⟩ := hr i a ha j d hd
        rw [h1]; exact h2

/-- Data that were there are still there. -/
structure DEvo (imm : Nat → Nat) (w : World) (imm' : Nat → Nat) (w' : World) : Prop where
  size : w.heap.size ≤ w'.heap.size
  mono : ∀ b, b < w.heap.size → imm b ≤ imm' b
  low : ∀ b i, b < w.heap.size → i < imm b → w'.cell? ⟨b, i, none⟩ = w.cell? ⟨b, i, none⟩

theorem DEvo.refl (imm : Nat → Nat) (w : World) : DEvo imm w imm w := ⟨Nat.le_refl _, fun _ _ => Nat.le_refl _, fun _ _ _ _ => rfl⟩
theorem DEvo.trans {imm'' : Nat → Nat} {w'' : World} (h : DEvo imm w imm' w') (k : DEvo imm' w' imm'' w'') : DEvo imm w imm'' w'' :=
  ⟨Nat.le_trans h.size k.size, fun b hb => Nat.le_trans (h.mono b hb) (k.mono b (Nat.lt_of_lt_of_le hb h.size)),
    fun b i hb hi => (k.low b i (Nat.lt_of_lt_of_le hb h.size) (Nat.lt_of_lt_of_le hi (h.mono b hb))).trans (h.low b i hb hi)⟩

theorem getElem?_lt {α : Type} {l : List α} {i : Nat} {a : α} (h : l[i]? = some a) : i < l.length := (List.getElem?_eq_some_iff.1 h).1

theorem row_bound {u : T.U} {l : List (T.El u)} {i j : Nat} {a : T.El u} {d : DV T.toSig} (ha : l[i]? = some a) (hd : (T.enc u a)[j]? = some d) : i * T.size u + j < l.length * T.size u := by
  have h1 := getElem?_lt ha
  have h2 := getElem?_lt hd
  rw [T.enc_len] at h2
  have : (i + 1) * T.size u ≤ l.length * T.size u := Nat.mul_le_mul_right _ h1
  rw [Nat.add_mul] at this
  omega

theorem RepD.evo (E : DEvo imm w imm' w') {d : DV T.toSig} {v : Value} (h : RepD T imm w d v) : RepD T imm' w' d v := by
  induction h with
  | int k n => exact .int k n
  | bool b => exact .bool b
  | str s => exact .str s
  | nil u A cap => exact .nil u A cap
  | sl u l b off cap vals hc hb hi hv hr ih =>
    refine .sl u l b off cap vals hc (Nat.lt_of_lt_of_le hb E.size) (Nat.le_trans hi (E.mono b hb)) (fun i a ha j d hd => ?_) ih
    have := row_bound ha hd
    rw [E.low b _ hb (by omega)]
    exact hv i a ha j d hd

theorem RowAt.evo (E : DEvo imm w imm' w') {b off : Nat} {xs : List (DV T.toSig)} (hb : b < w.heap.size) (hi : off + xs.length ≤ imm b) (h : RowAt imm w b off xs) : RowAt imm' w' b off xs := by
  intro j d hd
  obtain ⟨v, h1, h2⟩ := h j d hd
  have := getElem?_lt hd
  exact ⟨v, by rw [E.low b _ hb (by omega)]; exact h1, h2.evo E⟩

/-- What the program's variables hold. -/
def GlobOK (T : Uni) (imm : Nat → Nat) (w : World) : Prop :=
  ∀ g u (l : List (T.El u)), T.glob g = some ⟨u, l⟩ → g < w.heap.size ∧ l.length * T.size u ≤ imm g ∧ RowsAt imm w g 0 u l

theorem RowsAt.evoG (E : DEvo imm w imm' w') {b off : Nat} {u : T.U} {l : List (T.El u)} (hb : b < w.heap.size) (hi : off + l.length * T.size u ≤ imm b) (h : RowsAt imm w b off u l) : RowsAt imm' w' b off u l := by
  intro i a ha
  refine (h i a ha).evo E hb ?_
  rw [T.enc_len]
  have h1 := getElem?_lt ha
  have : (i + 1) * T.size u ≤ l.length * T.size u := Nat.mul_le_mul_right _ h1
  rw [Nat.add_mul] at this
  omega

theorem GlobOK.evo (E : DEvo imm w imm' w') (h : GlobOK T imm w) : GlobOK T imm' w' := fun g u l hg => by
  obtain ⟨h1, h2, h3⟩ := h g u l hg
  exact ⟨Nat.lt_of_lt_of_le h1 E.size, Nat.le_trans h2 (E.mono g h1), h3.evoG E h1 (by omega)⟩

def RepDs (imm : Nat → Nat) (w : World) : List (DV T.toSig) → List Value → Prop
  | [], [] => True
  | x :: xs, v :: vs => RepD T imm w x v ∧ RepDs imm w xs vs
  | _, _ => False

theorem RepDs.evo (E : DEvo imm w imm' w') : ∀ {xs : List (DV T.toSig)} {vs : List Value}, RepDs imm w xs vs → RepDs imm' w' xs vs
  | [], [], _ => trivial
  | _ :: _, _ :: _, h => ⟨h.1.evo E, RepDs.evo E h.2⟩
  | [], _ :: _, h => h.elim
  | _ :: _, [], h => h.elim

theorem RepDs.length : ∀ {xs : List (DV T.toSig)} {vs : List Value}, RepDs imm w xs vs → xs.length = vs.length
  | [], [], _ => rfl
  | _ :: _, _ :: _, h => by simp [RepDs.length h.2]
  | [], _ :: _, h => h.elim
  | _ :: _, [], h => h.elim

theorem RepDs.append : ∀ {xs ys : List (DV T.toSig)} {vs us : List Value}, RepDs imm w xs vs → RepDs imm w ys us → RepDs imm w (xs ++ ys) (vs ++ us)
  | [], _, [], _, _, k => k
  | _ :: _, _, _ :: _, _, h, k => ⟨h.1, RepDs.append h.2 k⟩
  | [], _, _ :: _, _, h, _ => h.elim
  | _ :: _, _, [], _, h, _ => h.elim

theorem RepDs.get : ∀ {xs : List (DV T.toSig)} {vs : List Value} {j : Nat} {d : DV T.toSig}, RepDs imm w xs vs → xs[j]? = some d → ∃ v, vs[j]? = some v ∧ RepD T imm w d v
  | x :: xs, v :: vs, 0, d, h, hd => by simp at hd; subst hd; exact ⟨v, rfl, h.1⟩
  | x :: xs, v :: vs, j + 1, d, h, hd => by simpa using RepDs.get (j := j) h.2 (by simpa using hd)
  | [], _, _, _, _, hd => by simp at hd
  | _ :: _, [], _, _, h, _ => h.elim

theorem RepD.one {d : DV T.toSig} {v : Value} (h : RepD T imm w d v) : v.oneCell' = true := by cases h <;> rfl

theorem RepDs.one : ∀ {xs : List (DV T.toSig)} {vs : List Value}, RepDs imm w xs vs → ∀ u ∈ vs, u.oneCell' = true
  | [], [], _, _, hu => by cases hu
  | _ :: _, v :: vs, h, u, hu => by
    rcases List.mem_cons.1 hu with rfl | hu
    · exact h.1.one
    · exact RepDs.one h.2 u hu
  | [], _ :: _, h, _, _ => h.elim
  | _ :: _, [], h, _, _ => h.elim

theorem cells_one {v : Value} (h : v.oneCell' = true) : v.cells = #[v] := by cases v <;> first | rfl | cases h

/-- A row's cells as a list of values. -/
theorem RowAt.values {b : Nat} : ∀ {xs : List (DV T.toSig)} {off : Nat}, RowAt imm w b off xs → ∃ vs : List Value, vs.length = xs.length ∧ (∀ (j : Nat) (v : Value), vs[j]? = some v → w.cell? ⟨b, off + j, none⟩ = some v) ∧ RepDs imm w xs vs
  | [], off, _ => ⟨[], rfl, by simp, trivial⟩
  | x :: xs, off, h => by
    obtain ⟨v, h1, h2⟩ := h 0 x rfl
    obtain ⟨vs, k1, k2, k3⟩ := RowAt.values (b := b) (xs := xs) (off := off + 1) fun j d hd => by
      have := h (j + 1) d (by simpa using hd)
      rw [show off + 1 + j = off + (j + 1) by omega]
      exact this
    refine ⟨v :: vs, by simp [k1], fun j u hj => ?_, h2, k3⟩
    cases j with
    | zero => simp at hj; subst hj; simpa using h1
    | succ j =>
      simp at hj
      have := k2 j u hj
      rw [show off + 1 + j = off + (j + 1) by omega] at this
      exact this

theorem RowAt.of {b off : Nat} {xs : List (DV T.toSig)} {vs : List Value} (h : RepDs imm w xs vs) (hc : ∀ (j : Nat) (v : Value), vs[j]? = some v → w.cell? ⟨b, off + j, none⟩ = some v) : RowAt imm w b off xs := by
  intro j d hd
  obtain ⟨v, h1, h2⟩ := h.get hd
  exact ⟨v, hc j v h1, h2⟩
end

/-! ### Values -/
def RepC (γ : Gh) (w : World) : CV T → Value → Prop
  | .d x, v => RepD T γ.imm w x v
  | .nl, v => ∃ A, v = .slice A 0 0
  | .ref nm off, v => ∃ b, γ.bt nm = some (.blk b) ∧ v = .pointer (some ⟨b, off, none⟩)
  | .cur cs, v => ∃ b off, v = .pointer (some ⟨b, off, none⟩) ∧ b < w.heap.size ∧ off + cs.length ≤ γ.imm b ∧ RowAt γ.imm w b off cs
  | .own _ nm, v => ∃ A len cap, γ.bt nm = some (.row A len cap) ∧ v = .slice A len cap
  | .buf u nm off len, v => ∃ A l cap A', γ.bt nm = some (.row A l cap) ∧ 0 ≤ off ∧ 0 ≤ len ∧ off + len ≤ l ∧ l ≤ cap ∧ v = .slice A' len.toNat (cap - off.toNat) ∧
      (off < cap → A' = A.map (·.add (off.toNat * T.size u)))
  | .elm u nm i f, v => ∃ b o l cap, γ.bt nm = some (.row (some ⟨b, o, none⟩) l cap) ∧ 0 ≤ i ∧ i < l ∧ v = .pointer (some ⟨b, o + i.toNat * T.size u + f, none⟩)
  | .fn f caps, v => ∃ bs : List Nat, caps.map γ.bt = bs.map (fun b => some (.blk b)) ∧ v = .func (.func f) #[] (bs.map fun b => Value.pointer (some ⟨b, 0, none⟩)).toArray
  | .mp nm, v => ∃ b, γ.bt nm = some (.blk b) ∧ v = .map (some b)
  | .val u, v => v = u ∧ u.oneCell' = true

def RepCs (γ : Gh) (w : World) : List (CV T) → List Value → Prop
  | [], [] => True
  | c :: cs, v :: vs => RepC γ w c v ∧ RepCs γ w cs vs
  | _, _ => False

mutual
def RepP (γ : Gh) (w : World) : PV T → Value → Prop
  | .one c, v => RepC γ w c v
  | .agg cs, v => ∃ vs : List Value, v = .agg vs.toArray ∧ RepCs γ w cs vs
  | .tup ps, v => ∃ vs : List Value, v = .tuple vs.toArray ∧ RepPs γ w ps vs
  | .junk, _ => True
def RepPs (γ : Gh) (w : World) : List (PV T) → List Value → Prop
  | [], [] => True
  | p :: ps, v :: vs => RepP γ w p v ∧ RepPs γ w ps vs
  | _, _ => False
end

def mkV (ag : Bool) (vs : List Value) : Value := if ag then .agg vs.toArray else vs.getD 0 undef

/-- A map's entries, in whatever order they were laid. -/
def RepM (imm : Nat → Nat) (w : World) (uk uv : T.U) : List (T.El uk × T.El uv) → List MapEntry → Prop
  | [], [] => True
  | (k, v) :: r, e :: es => (∃ vs, e.key = mkV (T.ag uk) vs ∧ RepDs imm w (T.enc uk k) vs) ∧ (∃ vs, e.val = mkV (T.ag uv) vs ∧ RepDs imm w (T.enc uv v) vs) ∧ RepM imm w uk uv r es
  | _, _ => False

def RowOK (γ : Gh) (w : World) (nm : Nat) (u : T.U) (l : List (T.El u)) (fz : Bool) (A : Option Addr) (cap : Nat) : Prop :=
  (cap = 0 ∧ l = []) ∨ ∃ b off c t, A = some ⟨b, off, none⟩ ∧ γ.own b = some nm ∧ b < w.heap.size ∧ w.heap[b]? = some (.cells c t (0, 0)) ∧ off + cap * T.size u ≤ c.size ∧
    γ.imm b ≤ off + (if fz then l.length * T.size u else 0) ∧ RowsAt γ.imm w b off u l

def FactOK (γ : Gh) (w : World) (tm : Nat → Value) : Loc → Fact T → Prop
  | .s i, .v c x => (c = true → RepP γ w x (tm i)) ∧ (c = false → tm i = undef)
  | .h nm, .b cs => ∃ b vs t, γ.bt nm = some (.blk b) ∧ γ.own b = some nm ∧ γ.imm b = 0 ∧ b < w.heap.size ∧ w.heap[b]? = some (.cells vs t (0, 0)) ∧ RepCs γ w cs vs.toList
  | .h nm, .r u l fz => ∃ A cap, γ.bt nm = some (.row A l.length cap) ∧ l.length ≤ cap ∧ RowOK γ w nm u l fz A cap
  | .h nm, .m uk uv l => ∃ b es clock, γ.bt nm = some (.blk b) ∧ γ.own b = some nm ∧ b < w.heap.size ∧ w.heap[b]? = some (.map es clock) ∧ RepM γ.imm w uk uv l es.toList
  | _, _ => False

/-! ### How the world moves on -/
structure Evo (X : Nat → Prop) (γ : Gh) (w : World) (γ' : Gh) (w' : World) : Prop extends DEvo γ.imm w γ'.imm w' where
  os : w'.os = w.os
  tape : w'.tape = w.tape
  output : w'.output = w.output
  same : ∀ b, b < w.heap.size → (∀ nm, γ.own b = some nm → ¬ X nm) → w'.heap[b]? = w.heap[b]? ∧ γ'.own b = γ.own b ∧ γ'.imm b = γ.imm b
  bt : ∀ nm v, γ.bt nm = some v → γ'.bt nm = some v

section
variable {X : Nat → Prop} {γ γ' γ'' : Gh} {w w' w'' : World}

theorem Evo.refl (X : Nat → Prop) (γ : Gh) (w : World) : Evo X γ w γ w := { DEvo.refl γ.imm w with os := rfl, tape := rfl, output := rfl, same := fun _ _ _ => ⟨rfl, rfl, rfl⟩, bt := fun _ _ h => h }

theorem Evo.trans (h : Evo X γ w γ' w') (k : Evo X γ' w' γ'' w'') : Evo X γ w γ'' w'' :=
  { h.toDEvo.trans k.toDEvo with
    os := k.os.trans h.os, tape := k.tape.trans h.tape, output := k.output.trans h.output
    same := fun b hb hx => by
      obtain ⟨h1, h2, h3⟩ := h.same b hb hx
      obtain ⟨k1, k2, k3⟩ := k.same b (Nat.lt_of_lt_of_le hb h.size) (by rw [h2]; exact hx)
      exact ⟨k1.trans h1, k2.trans h2, k3.trans h3⟩
    bt := fun nm v hv => k.bt nm v (h.bt nm v hv) }

theorem Evo.weaken {Y : Nat → Prop} (h : Evo X γ w γ' w') (hXY : ∀ n, X n → Y n) : Evo Y γ w γ' w' :=
  { h with same := fun b hb hy => h.same b hb fun nm hn hx => hy nm hn (hXY nm hx) }

theorem map_bt_evo (E : Evo X γ w γ' w') : ∀ (caps : List Nat) (bs : List Nat), caps.map γ.bt = bs.map (fun b => some (GV.blk b)) → caps.map γ'.bt = bs.map (fun b => some (GV.blk b))
  | [], bs, h => by cases bs <;> simp_all
  | nm :: caps, bs, h => by
    cases bs with
    | nil => simp at h
    | cons b bs =>
      simp only [List.map_cons, List.cons.injEq] at h ⊢
      exact ⟨E.bt _ _ h.1, map_bt_evo E caps bs h.2⟩

theorem RepC.evo (E : Evo X γ w γ' w') {c : CV T} {v : Value} (h : RepC γ w c v) : RepC γ' w' c v := by
  cases c with
  | d x => exact RepD.evo E.toDEvo h
  | nl => exact h
  | ref nm off => obtain ⟨b, h1, h2⟩ := h; exact ⟨b, E.bt _ _ h1, h2⟩
  | cur cs =>
    obtain ⟨b, off, h1, h2, h3, h4⟩ := h
    exact ⟨b, off, h1, Nat.lt_of_lt_of_le h2 E.size, Nat.le_trans h3 (E.mono b h2), h4.evo E.toDEvo h2 h3⟩
  | own u nm => obtain ⟨A, len, cap, h1, h2⟩ := h; exact ⟨A, len, cap, E.bt _ _ h1, h2⟩
  | buf u nm off len => obtain ⟨A, l, cap, A', h1, h2⟩ := h; exact ⟨A, l, cap, A', E.bt _ _ h1, h2⟩
  | elm u nm i f => obtain ⟨b, o, l, cap, h1, h2⟩ := h; exact ⟨b, o, l, cap, E.bt _ _ h1, h2⟩
  | fn f caps => obtain ⟨bs, h1, h2⟩ := h; exact ⟨bs, map_bt_evo E caps bs h1, h2⟩
  | mp nm => obtain ⟨b, h1, h2⟩ := h; exact ⟨b, E.bt _ _ h1, h2⟩
  | val u => exact h

theorem RepCs.evo (E : Evo X γ w γ' w') : ∀ {cs : List (CV T)} {vs : List Value}, RepCs γ w cs vs → RepCs γ' w' cs vs
  | [], [], _ => trivial
  | _ :: _, _ :: _, h => ⟨RepC.evo E h.1, RepCs.evo E h.2⟩
  | [], _ :: _, h => h.elim
  | _ :: _, [], h => h.elim

mutual
theorem RepP.evo (E : Evo X γ w γ' w') : ∀ (p : PV T) (v : Value), RepP γ w p v → RepP γ' w' p v
  | .one c, v, h => by simp only [RepP] at h ⊢; exact RepC.evo E h
  | .agg cs, v, h => by
    simp only [RepP] at h ⊢
    obtain ⟨vs, e, h⟩ := h
    exact ⟨vs, e, RepCs.evo E h⟩
  | .tup ps, v, h => by
    simp only [RepP] at h ⊢
    obtain ⟨vs, e, h⟩ := h
    exact ⟨vs, e, RepPs.evo E ps vs h⟩
  | .junk, _, _ => by simp only [RepP]
theorem RepPs.evo (E : Evo X γ w γ' w') : ∀ (ps : List (PV T)) (vs : List Value), RepPs γ w ps vs → RepPs γ' w' ps vs
  | [], [], _ => by simp only [RepPs]
  | p :: ps, v :: vs, h => by
    simp only [RepPs] at h ⊢
    exact ⟨RepP.evo E p v h.1, RepPs.evo E ps vs h.2⟩
  | [], _ :: _, h => by simp only [RepPs] at h
  | _ :: _, [], h => by simp only [RepPs] at h
end

theorem RepM.evo (E : DEvo γ.imm w γ'.imm w') {uk uv : T.U} : ∀ {l : List (T.El uk × T.El uv)} {es : List MapEntry}, RepM γ.imm w uk uv l es → RepM γ'.imm w' uk uv l es
  | [], [], _ => trivial
  | (_, _) :: _, _ :: _, ⟨⟨vs, h1, h2⟩, ⟨us, h3, h4⟩, h5⟩ => ⟨⟨vs, h1, h2.evo E⟩, ⟨us, h3, h4.evo E⟩, RepM.evo E h5⟩
  | [], _ :: _, h => h.elim
  | _ :: _, [], h => h.elim

theorem RowAt.same (E : DEvo γ.imm w γ'.imm w') {b off : Nat} {xs : List (DV T.toSig)} (hs : w'.heap[b]? = w.heap[b]?) (h : RowAt γ.imm w b off xs) : RowAt γ'.imm w' b off xs := by
  intro j d hd
  obtain ⟨v, h1, h2⟩ := h j d hd
  refine ⟨v, ?_, h2.evo E⟩
  unfold World.cell? at h1 ⊢
  simp only [hs]
  exact h1

theorem FactOK.evo (E : Evo X γ w γ' w') {tm tm' : Nat → Value} {l : Loc} {f : Fact T} (hl : ∀ nm, l = .h nm → ¬ X nm) (ht : ∀ i, l = .s i → tm' i = tm i) (h : FactOK γ w tm l f) : FactOK γ' w' tm' l f := by
  cases l with
  | s i =>
    cases f with
    | v c x => exact ⟨fun hc => by rw [ht i rfl]; exact RepP.evo E _ _ (h.1 hc), fun hc => by rw [ht i rfl]; exact h.2 hc⟩
    | _ => exact h.elim
  | h nm =>
    have hx := hl nm rfl
    cases f with
    | v c x => exact h.elim
    | b cs =>
      obtain ⟨b, vs, t, h1, h2, h3, h4, h5, h6⟩ := h
      obtain ⟨k1, k2, k3⟩ := E.same b h4 fun nm' hn => by rw [h2] at hn; cases hn; exact hx
      exact ⟨b, vs, t, E.bt _ _ h1, k2.trans h2, k3.trans h3, Nat.lt_of_lt_of_le h4 E.size, k1.trans h5, RepCs.evo E h6⟩
    | r u l fz =>
      obtain ⟨A, cap, h1, h2, h3⟩ := h
      refine ⟨A, cap, E.bt _ _ h1, h2, ?_⟩
      rcases h3 with h3 | ⟨b, off, c, t, e1, e2, e3, e4, e5, e6, e7⟩
      · exact .inl h3
      · obtain ⟨k1, k2, k3⟩ := E.same b e3 fun nm' hn => by rw [e2] at hn; cases hn; exact hx
        exact .inr ⟨b, off, c, t, e1, k2.trans e2, Nat.lt_of_lt_of_le e3 E.size, k1.trans e4, e5, by rw [k3]; exact e6, fun i a ha => (e7 i a ha).same E.toDEvo k1⟩
    | m uk uv l =>
      obtain ⟨b, es, t, h1, h2, h4, h5, h6⟩ := h
      obtain ⟨k1, k2, k3⟩ := E.same b h4 fun nm' hn => by rw [h2] at hn; cases hn; exact hx
      exact ⟨b, es, t, E.bt _ _ h1, k2.trans h2, Nat.lt_of_lt_of_le h4 E.size, k1.trans h5, h6.evo E.toDEvo⟩

theorem FactOK.mem {tm tm' : Nat → Value} {l : Loc} {f : Fact T} (hl : ∀ i, l ≠ .s i) (h : FactOK γ w tm l f) : FactOK γ w tm' l f := by
  cases l with
  | s i => exact absurd rfl (hl i)
  | h nm => cases f <;> exact h
end
end Go.G
namespace Go.G
variable {T : Uni}

theorem Loc.eqb_iff {l l' : Loc} : Loc.eqb l l' = true ↔ l = l' := by
  cases l <;> cases l' <;> simp [Loc.eqb, Nat.beq_eq]
theorem Loc.eqb_self (l : Loc) : Loc.eqb l l = true := Loc.eqb_iff.2 rfl
theorem Loc.eqb_ne {l l' : Loc} (h : l ≠ l') : Loc.eqb l l' = false := by
  cases hh : Loc.eqb l l' with
  | false => rfl
  | true => exact absurd (Loc.eqb_iff.1 hh) h

theorem look_cons (l' : Loc) (f : Fact T) (σ : St T) (l : Loc) : look ((l', f) :: σ) l = if l' = l then some f else look σ l := by
  by_cases h : l' = l
  · subst h; simp [look, Loc.eqb_self]
  · simp [look, Loc.eqb_ne h, h]

def memL : Loc → Bool
  | .s _ => false
  | .h _ => true

def wl : Wr T → Loc → Option (Fact T) → Option (Fact T)
  | [], _, x => x
  | (l', o) :: r, l, x => wl r l (if l' = l then o else x)

theorem look_era (l l' : Loc) : ∀ σ : St T, look (era l σ) l' = if l = l' then none else look σ l'
  | [] => by simp [era, look]
  | (l0, f) :: r => by
    have ih := look_era l l' r
    by_cases h : l0 = l
    · subst h
      simp only [era, Loc.eqb_self, ih, look_cons]
      by_cases h2 : l0 = l' <;> simp [h2]
    · simp only [era, Loc.eqb_ne h, look_cons, ih]
      by_cases h2 : l0 = l'
      · subst h2; simp [Ne.symm h]
      · simp [h2]

theorem look_upd : ∀ (wrs : Wr T) (σ : St T) (l : Loc), look (upd σ wrs) l = wl wrs l (look σ l)
  | [], _, _ => rfl
  | (l', some f) :: r, σ, l => by simp only [upd, wl, look_upd r, look_cons]
  | (l', none) :: r, σ, l => by simp only [upd, wl, look_upd r, look_era]

theorem wl_not : ∀ (wrs : Wr T) (l : Loc) (x : Option (Fact T)), l ∉ locs wrs → wl wrs l x = x
  | [], _, _, _ => rfl
  | (l', o) :: r, l, x, h => by
    simp only [locs, List.map_cons, List.mem_cons, not_or] at h
    simp only [wl, if_neg (Ne.symm h.1)]
    exact wl_not r l x h.2

theorem wl_some_mem : ∀ (wrs : Wr T) (l : Loc) (x : Option (Fact T)) (f : Fact T), wl wrs l x = some f → x = some f ∧ l ∉ locs wrs ∨ (l, some f) ∈ wrs
  | [], _, _, _, h => .inl ⟨h, by simp [locs]⟩
  | (l', o) :: r, l, x, f, h => by
    simp only [wl] at h
    by_cases h1 : l' = l
    · subst h1
      simp only [if_true] at h
      rcases wl_some_mem r l' o f h with ⟨rfl, _⟩ | h2
      · exact .inr (by simp)
      · exact .inr (by simp [h2])
    · simp only [h1, if_false] at h
      rcases wl_some_mem r l x f h with ⟨h2, h3⟩ | h2
      · exact .inl ⟨h2, by simp only [locs, List.map_cons, List.mem_cons, not_or]; exact ⟨Ne.symm h1, h3⟩⟩
      · exact .inr (by simp [h2])

theorem look_mem : ∀ {σ : St T} {l : Loc} {f : Fact T}, look σ l = some f → (l, f) ∈ σ
  | [], _, _, h => by simp [look] at h
  | (l', f') :: r, l, f, h => by
    rw [look_cons] at h
    split at h
    · rename_i he; subst he; cases h; simp
    · exact List.mem_cons_of_mem _ (look_mem h)

theorem look_append (σ τ : St T) (l : Loc) : look (σ ++ τ) l = match look σ l with
    | some f => some f
    | none => look τ l := by
  induction σ with
  | nil => rfl
  | cons x σ ih =>
    obtain ⟨l', f⟩ := x
    simp only [List.cons_append, look_cons]
    split
    · rfl
    · exact ih

/-- Where a frame began: the ghost, the world, its names (from base on, below lim), the names of its caller that it may change. -/
structure Entry where
  γ0 : Gh
  w0 : World
  base : Nat
  lim : Nat
  X : Nat → Prop

def Entry.perm (E : Entry) (nm : Nat) : Prop := E.X nm ∨ (E.base ≤ nm ∧ nm < E.lim)
def Entry.loc (E : Entry) (nm : Nat) : Prop := E.base ≤ nm ∧ nm < E.lim

structure EntryOK (E : Entry) : Prop where
  fresh : ∀ nm, E.loc nm → E.γ0.bt nm = none ∧ ∀ b, E.γ0.own b ≠ some nm
  ok : ∀ b, E.w0.heap.size ≤ b → E.γ0.own b = none

/-- What holds throughout a frame. -/
structure Inv (E : Entry) (γ : Gh) (w : World) : Prop where
  evo : DEvo E.γ0.imm E.w0 γ.imm w
  os : w.os = E.w0.os
  tape : w.tape = E.w0.tape
  output : w.output = E.w0.output
  same : ∀ b, b < E.w0.heap.size → (∀ nm, E.γ0.own b = some nm → ¬ E.X nm) → w.heap[b]? = E.w0.heap[b]? ∧ γ.own b = E.γ0.own b ∧ γ.imm b = E.γ0.imm b
  bt : ∀ nm v, ¬ E.loc nm → E.γ0.bt nm = some v → γ.bt nm = some v
  out : ∀ nm, ¬ E.loc nm → E.γ0.bt nm = none → γ.bt nm = none
  new : ∀ b nm, γ.own b = some nm → E.loc nm ∨ (b < E.w0.heap.size ∧ E.γ0.own b = some nm)
  ok : ∀ b, w.heap.size ≤ b → γ.own b = none

def Fresh (lo hi : Nat) (γ : Gh) : Prop := ∀ nm, lo ≤ nm → nm < hi → γ.bt nm = none ∧ ∀ b, γ.own b ≠ some nm

/-- The marks among a frame's deferred calls: each names a block that nobody else tells of. -/
def Marks (E : Entry) (γ : Gh) (w : World) (ds : List Deferred) : Prop :=
  ∃ Ds : List Nat, ds = Ds.map (fun D => ({ target := .collected D, args := #[] } : Deferred)) ∧ Ds.Nodup ∧ ∀ D ∈ Ds, E.w0.heap.size ≤ D ∧ D < w.heap.size ∧ γ.own D = none ∧ w.heap[D]? = some (.deferred (some []))

theorem Marks.nil (E : Entry) (γ : Gh) (w : World) : Marks E γ w [] := ⟨[], rfl, List.nodup_nil, fun _ h => by cases h⟩
theorem Marks.evo {E : Entry} {X : Nat → Prop} {γ γ' : Gh} {w w' : World} {ds : List Deferred} (ev : Evo X γ w γ' w') (h : Marks E γ w ds) : Marks E γ' w' ds := by
  obtain ⟨Ds, e, nd, h⟩ := h
  refine ⟨Ds, e, nd, fun D hD => ?_⟩
  obtain ⟨h1, h2, h3, h4⟩ := h D hD
  obtain ⟨k1, k2, _⟩ := ev.same D h2 fun nm hn => by rw [h3] at hn; cases hn
  exact ⟨h1, Nat.lt_of_lt_of_le h2 ev.size, k2.trans h3, k1.trans h4⟩
theorem Marks.gh {E : Entry} {γ γ' : Gh} {w : World} {ds : List Deferred} (h : Marks E γ w ds) (ho : ∀ b, γ.own b = none → γ'.own b = none) : Marks E γ' w ds := by
  obtain ⟨Ds, e, nd, h⟩ := h
  exact ⟨Ds, e, nd, fun D hD => ⟨(h D hD).1, (h D hD).2.1, ho D (h D hD).2.2.1, (h D hD).2.2.2⟩⟩

structure Sat (E : Entry) (N : Nat) (γ : Gh) (w : World) (a : Act) (σ : St T) : Prop where
  size : a.tmps.size = N
  defers : Marks E γ w a.defers
  glob : GlobOK T γ.imm w
  facts : ∀ l f, look σ l = some f → FactOK γ w (fun i => a.tmps.getD i undef) l f
  perm : ∀ nm f, look σ (.h nm) = some f → E.perm nm

def HSat (γ : Gh) (w : World) (H : St T) : Prop := ∀ l f, (l, f) ∈ H → FactOK γ w (fun _ => undef) l f ∧ ∀ i, l ≠ .s i

theorem getD_set (ts : Array Value) (i d : Nat) (v : Value) (hd : d < ts.size) : (ts.setIfInBounds d v).getD i undef = if i = d then v else ts.getD i undef := by
  by_cases h : i = d
  · subst h; simp [hd]
  · simp [h, Array.getElem?_setIfInBounds_ne (Ne.symm h)]

section
variable {E : Entry} {N : Nat} {γ γ' : Gh} {w w' : World} {a : Act} {σ σ' : St T}

theorem Inv.refl (hE : EntryOK E) : Inv E E.γ0 E.w0 where
  evo := DEvo.refl _ _
  os := rfl
  tape := rfl
  output := rfl
  same := fun _ _ _ => ⟨rfl, rfl, rfl⟩
  bt := fun _ _ _ h => h
  out := fun _ _ h => h
  new := fun b nm h => .inr ⟨(by
    rcases Nat.lt_or_ge b E.w0.heap.size with h' | h'
    · exact h'
    · rw [hE.ok b h'] at h
      cases h), h⟩
  ok := hE.ok

/-- A step within the frame: it has changed blocks of names that it may change. -/
theorem Inv.step {Y : Nat → Prop} (hi : Inv E γ w) (ev : Evo Y γ w γ' w') (hE : EntryOK E) (hY : ∀ nm, Y nm → E.perm nm)
    (hbt : ∀ nm, ¬ E.loc nm → γ'.bt nm = γ.bt nm) (hown : ∀ b nm, γ'.own b = some nm → E.loc nm ∨ γ.own b = some nm) (hok : ∀ b, w'.heap.size ≤ b → γ'.own b = none) : Inv E γ' w' where
  evo := hi.evo.trans ev.toDEvo
  os := ev.os.trans hi.os
  tape := ev.tape.trans hi.tape
  output := ev.output.trans hi.output
  same := fun b hb hx => by
    obtain ⟨h1, h2, h3⟩ := hi.same b hb hx
    obtain ⟨k1, k2, k3⟩ := ev.same b (Nat.lt_of_lt_of_le hb hi.evo.size) fun nm hn hy => by
      rw [h2] at hn
      rcases hY nm hy with h | h
      · exact hx nm hn h
      · exact (hE.fresh nm h).2 b hn
    exact ⟨k1.trans h1, k2.trans h2, k3.trans h3⟩
  bt := fun nm v hn hv => by rw [hbt nm hn]; exact hi.bt nm v hn hv
  out := fun nm hn hv => by rw [hbt nm hn]; exact hi.out nm hn hv
  new := fun b nm hb => (hown b nm hb).elim .inl (hi.new b nm)
  ok := hok

/-- The one lemma by which a state is kept: an operation has written 'dst' and the facts 'wrs'; memory has moved on, within Y. -/
theorem Sat.upd {Y : Nat → Prop} (hs : Sat E N γ w a σ) (ev : Evo Y γ w γ' w') {dst : Option Nat} {v : Value} {wrs : Wr T}
    (hd : ∀ d, dst = some d → d < N ∧ Loc.s d ∈ locs wrs) (hY : ∀ nm, Y nm → Loc.h nm ∈ locs wrs)
    (hn : ∀ l f, (l, some f) ∈ wrs → FactOK γ' w' (fun i => (a.put dst v).tmps.getD i undef) l f ∧ ∀ nm, l = .h nm → E.perm nm) : Sat E N γ' w' (a.put dst v) (upd σ wrs) := by
  refine ⟨?_, ?_, hs.glob.evo ev.toDEvo, fun l f h => ?_, fun nm f h => ?_⟩
  · cases dst <;> simp [Act.put, hs.size]
  · have := hs.defers.evo ev
    cases dst <;> exact this
  · rw [look_upd] at h
    rcases wl_some_mem wrs l _ f h with ⟨h1, h2⟩ | h1
    · refine (hs.facts l f h1).evo ev (fun nm e hx => h2 (e ▸ hY nm hx)) ?_
      intro i hi
      subst hi
      cases dst with
      | none => rfl
      | some d =>
        have hne : i ≠ d := fun e => h2 (by rw [e]; exact (hd d rfl).2)
        simp only [Act.put]
        rw [getD_set _ _ _ _ (by rw [hs.size]; exact (hd d rfl).1), if_neg hne]
    · exact (hn l f h1).1
  · rw [look_upd] at h
    rcases wl_some_mem wrs _ _ f h with ⟨h1, _⟩ | h1
    · exact hs.perm nm f h1
    · exact (hn _ f h1).2 nm rfl

theorem Sat.congr (h : ∀ l, look σ' l = look σ l) (hs : Sat E N γ w a σ) : Sat E N γ w a σ' :=
  ⟨hs.size, hs.defers, hs.glob, fun l f hl => hs.facts l f ((h l).symm.trans hl), fun l f hl => hs.perm l f ((h _).symm.trans hl)⟩

theorem HSat.evo {X : Nat → Prop} (ev : Evo X γ w γ' w') {H : St T} (hH : ∀ nm f, (Loc.h nm, f) ∈ H → ¬ X nm) (h : HSat γ w H) : HSat γ' w' H :=
  fun l f hm => ⟨(h l f hm).1.evo ev (fun nm e => hH nm f (e ▸ hm)) (fun _ _ => rfl), (h l f hm).2⟩
end
end Go.G
namespace Go.G
variable {T : Uni}

structure Inst (T : Uni) where
  rds : List Loc
  wrs : Wr T
  lo : Nat
  hi : Nat

structure Ctx where
  P : Program
  E : Entry
  N : Nat
  ok : EntryOK E

/-- What contexts have in common, wherever the frame began. -/
structure Cls where
  P : Program
  N : Nat
  base : Nat
  lim : Nat
  X : Nat → Prop

abbrev Cls.entry (S : Cls) (γ0 : Gh) (w0 : World) : Entry := ⟨γ0, w0, S.base, S.lim, S.X⟩
abbrev Cls.ctx (S : Cls) (γ0 : Gh) (w0 : World) (ok : EntryOK (S.entry γ0 w0)) : Ctx := ⟨S.P, S.entry γ0 w0, S.N, ok⟩

/-- Of these names nothing has become anything else. -/
def Kept (E : Entry) (S : Nat → Prop) (γ γ' : Gh) : Prop := ∀ nm, S nm → E.loc nm → γ'.bt nm = γ.bt nm ∧ ∀ b, γ'.own b = some nm → γ.own b = some nm

theorem Kept.refl (E : Entry) (S : Nat → Prop) (γ : Gh) : Kept E S γ γ := fun _ _ _ => ⟨rfl, fun _ h => h⟩
theorem Kept.trans {E : Entry} {S : Nat → Prop} {a b c : Gh} (h : Kept E S a b) (k : Kept E S b c) : Kept E S a c :=
  fun nm hs hl => ⟨((k nm hs hl).1).trans (h nm hs hl).1, fun bb hb => (h nm hs hl).2 bb ((k nm hs hl).2 bb hb)⟩
theorem Kept.mono {E : Entry} {S S' : Nat → Prop} {a b : Gh} (h : Kept E S a b) (hs : ∀ nm, S' nm → S nm) : Kept E S' a b := fun nm hh hl => h nm (hs nm hh) hl

theorem Fresh.kept {E : Entry} {S : Nat → Prop} {lo hi : Nat} {γ γ' : Gh} (h : Fresh lo hi γ) (k : Kept E S γ γ') (hl : ∀ nm, lo ≤ nm → nm < hi → S nm ∧ E.loc nm) : Fresh lo hi γ' :=
  fun nm h1 h2 => ⟨((k nm (hl nm h1 h2).1 (hl nm h1 h2).2).1).trans (h nm h1 h2).1, fun b hb => (h nm h1 h2).2 b ((k nm (hl nm h1 h2).1 (hl nm h1 h2).2).2 b hb)⟩

def StepPost (C : Ctx) (σ : St T) (I : Inst T) (γ : Gh) (a' : Act) (w' : World) : Prop :=
  ∃ γ', Inv C.E γ' w' ∧ Sat C.E C.N γ' w' a' (upd σ I.wrs) ∧ Kept C.E (fun nm => nm < I.lo ∨ I.hi ≤ nm) γ γ'

def Valid (C : Ctx) (ops : Array Oper) (o : Oper) (σ : St T) (I : Inst T) : Prop :=
  ∀ σ', (∀ l ∈ I.rds, look σ' l = look σ l) → ∀ γ a w, Inv C.E γ w → Sat C.E C.N γ w a σ' → Fresh I.lo I.hi γ →
    if Region.wanted o (yielded ops a.tmps) = true then ∀ Q, o.wp C.P a w (StepPost C σ' I γ) Q
    else StepPost C σ' I γ (a.put o.dst undef) w

abbrev Rem (T : Uni) := List (Nat × Oper × Inst T)

def RunV (C : Ctx) (ops : Array Oper) : Rem T → St T → Prop
  | [], _ => True
  | x :: r, σ => Valid C ops x.2.1 σ x.2.2 ∧ RunV C ops r (upd σ x.2.2.wrs)

def fin : Rem T → St T → St T
  | [], σ => σ
  | x :: r, σ => fin r (upd σ x.2.2.wrs)

def Inst.free (i j : Inst T) : Prop :=
  (∀ l ∈ locs i.wrs, l ∉ j.rds ∧ l ∉ locs j.wrs) ∧ (∀ l ∈ locs j.wrs, l ∉ i.rds)

section
variable {C : Ctx} {ops : Array Oper}

theorem upd_congr {σ σ' : St T} (h : ∀ l, look σ l = look σ' l) (wrs : Wr T) (l : Loc) : look (upd σ wrs) l = look (upd σ' wrs) l := by
  rw [look_upd, look_upd, h]

theorem fin_congr : ∀ (r : Rem T) {σ σ' : St T}, (∀ l, look σ l = look σ' l) → ∀ l, look (fin r σ) l = look (fin r σ') l
  | [], _, _, h => h
  | x :: r, _, _, h => fin_congr r (upd_congr h x.2.2.wrs)

theorem Valid.of_rds {o : Oper} {σ σ' : St T} {I : Inst T} (h : Valid C ops o σ I) (hl : ∀ l ∈ I.rds, look σ' l = look σ l) : Valid C ops o σ' I :=
  fun σ'' h'' => h σ'' (fun l hm => (h'' l hm).trans (hl l hm))

theorem RunV.congr : ∀ (r : Rem T) {σ σ' : St T}, (∀ l, look σ l = look σ' l) → RunV C ops r σ → RunV C ops r σ'
  | [], _, _, _, _ => trivial
  | x :: r, _, _, h, hv => ⟨hv.1.of_rds fun l _ => (h l).symm, RunV.congr r (upd_congr h x.2.2.wrs) hv.2⟩

theorem look_upd_not {σ : St T} {wrs : Wr T} {l : Loc} (h : l ∉ locs wrs) : look (upd σ wrs) l = look σ l := by
  rw [look_upd, wl_not _ _ _ h]

theorem upd_comm {σ : St T} {a b : Wr T} (h : ∀ l ∈ locs a, l ∉ locs b) (l : Loc) : look (upd (upd σ a) b) l = look (upd (upd σ b) a) l := by
  rw [look_upd, look_upd, look_upd, look_upd]
  by_cases ha : l ∈ locs a
  · rw [wl_not b _ _ (h l ha), wl_not b _ _ (h l ha)]
  · rw [wl_not a _ _ ha, wl_not a _ _ ha]

theorem pull (x : Nat × Oper × Inst T) (l2 : Rem T) : ∀ (l1 : Rem T) (σ : St T), RunV C ops (l1 ++ x :: l2) σ → (∀ y ∈ l1, y.2.2.free x.2.2) →
    Valid C ops x.2.1 σ x.2.2 ∧ RunV C ops (l1 ++ l2) (upd σ x.2.2.wrs) ∧ ∀ l, look (fin (l1 ++ l2) (upd σ x.2.2.wrs)) l = look (fin (l1 ++ x :: l2) σ) l
  | [], σ, h, _ => ⟨h.1, h.2, fun _ => rfl⟩
  | y :: l1, σ, h, hf => by
    obtain ⟨hy, h⟩ := h
    obtain ⟨h1, h2, h3⟩ := pull x l2 l1 _ h (fun z hz => hf z (by simp [hz]))
    obtain ⟨f1, f2⟩ := hf y (by simp)
    have comm : ∀ l, look (upd (upd σ y.2.2.wrs) x.2.2.wrs) l = look (upd (upd σ x.2.2.wrs) y.2.2.wrs) l := upd_comm fun l hl => (f1 l hl).2
    refine ⟨h1.of_rds fun l hl => (look_upd_not fun hm => (f1 l hm).1 hl).symm, ⟨hy.of_rds fun l hl => look_upd_not fun hm => f2 l hm hl, RunV.congr _ comm h2⟩, fun l => ?_⟩
    exact (fin_congr (l1 ++ l2) comm l).symm.trans (h3 l)

/-- x comes up before y. -/
inductive Anc (ops : Array Oper) : Nat → Nat → Prop
  | edge {x y : Nat} {oj : Oper} : ops[y]? = some oj → (∃ e ∈ oj.after, Region.binds .any e = true ∧ e.on = x) → Anc ops x y
  | trans {x y z : Nat} : Anc ops x y → Anc ops y z → Anc ops x z

theorem anc_listed {ops : Array Oper} {listed : Array Bool} (hcl : ∀ y oj, ops[y]? = some oj → listed.getD y false = true → ∀ e ∈ oj.after, Region.binds .any e = true → listed.getD e.on false = true) {x y : Nat} (h : Anc ops x y) :
    (listed.getD y false = true ∨ ∃ oj, ops[y]? = some oj ∧ ∀ e ∈ oj.after, Region.binds .any e = true → listed.getD e.on false = true) → listed.getD x false = true := by
  induction h with
  | edge ho he =>
    intro hy
    obtain ⟨e, he, hb, rfl⟩ := he
    rcases hy with hy | ⟨oj, hj, hd⟩
    · exact hcl _ _ ho hy e he hb
    · rw [ho] at hj
      cases hj
      exact hd e he hb
  | trans _ _ ih1 ih2 => exact fun hy => ih1 (.inl (ih2 hy))

/-- The pairs of a region: whichever two of them can come up in either order do not meet. -/
def Apart (ops : Array Oper) (r : Rem T) : Prop :=
  r.Pairwise fun x y => x.1 < y.1 ∧ (Anc ops x.1 y.1 ∨ x.2.2.free y.2.2)

/-- Their names follow one another. -/
def Rising (r : Rem T) : Prop := r.Pairwise fun x y => x.2.2.hi ≤ y.2.2.lo

def Inside (E : Entry) (r : Rem T) : Prop := ∀ x ∈ r, ∀ nm, x.2.2.lo ≤ nm → nm < x.2.2.hi → E.loc nm

def Beyond (r : Rem T) (nm : Nat) : Prop := ∀ x ∈ r, nm < x.2.2.lo ∨ x.2.2.hi ≤ nm

theorem wpAny_run {Q : Exit → Act → World → Prop} (hedge : ∀ i o, ops[i]? = some o → ∀ e ∈ o.after, Region.binds .any e = true → e.on < i) :
    ∀ (fuel : Nat) (rem : Rem T) (listed : Array Bool) (σ : St T) (γ : Gh) (a : Act) (w : World), rem.length = fuel → listed.size = ops.size →
      (∀ y oj, ops[y]? = some oj → listed.getD y false = true → ∀ e ∈ oj.after, Region.binds .any e = true → listed.getD e.on false = true) →
      (∀ x ∈ rem, ops[x.1]? = some x.2.1 ∧ listed.getD x.1 true = false) → (∀ i, listed.getD i true = false → ∃ x ∈ rem, x.1 = i) →
      Apart ops rem → RunV C ops rem σ → (rem.Pairwise fun x y => x.2.2.hi ≤ y.2.2.lo ∨ y.2.2.hi ≤ x.2.2.lo) → Inside C.E rem → (∀ x ∈ rem, Fresh x.2.2.lo x.2.2.hi γ) →
      Inv C.E γ w → Sat C.E C.N γ w a σ →
      (∀ a' w' γ', Inv C.E γ' w' → Sat C.E C.N γ' w' a' (fin rem σ) → Kept C.E (Beyond rem) γ γ' → Q .normal a' w') →
      wpAny C.P .any ops Q fuel listed a w := by
  intro fuel
  induction fuel with
  | zero =>
    intro rem listed σ γ a w hlen hsz hcl hrem hall hap hrun hris hins hfr hinv hsat hQ
    have h0 : rem = [] := List.length_eq_zero_iff.1 hlen
    subst h0
    refine ⟨?_, hQ a w γ hinv hsat (.refl _ _ _)⟩
    refine List.eq_nil_iff_forall_not_mem.2 fun i hi => ?_
    obtain ⟨h1, _⟩ := mem_ready.1 hi
    obtain ⟨x, hx, _⟩ := hall i h1
    cases hx
  | succ fuel ih =>
    intro rem listed σ γ a w hlen hsz hcl hrem hall hap hrun hris hins hfr hinv hsat hQ
    refine ⟨fun h0 => ?_, fun i hi => ?_⟩
    · exfalso
      match rem, hlen with
      | x :: r, _ =>
        obtain ⟨hxo, hxl⟩ := hrem x (by simp)
        have : x.1 ∈ Region.ready .any ops listed := by
          refine mem_ready.2 ⟨hxl, x.2.1, hxo, fun e he hb => ?_⟩
          have hlt := hedge _ _ hxo e he hb
          have hxs : x.1 < listed.size := by rw [hsz]; exact (Array.getElem?_eq_some_iff.1 hxo).1
          have hes : e.on < listed.size := by omega
          cases hl : listed.getD e.on false with
          | true => rfl
          | false =>
            have hl' : listed.getD e.on true = false := by simp [hes] at hl ⊢; exact hl
            obtain ⟨y, hy, hye⟩ := hall _ hl'
            rcases List.mem_cons.1 hy with rfl | hy
            · omega
            · have := ((List.pairwise_cons.1 hap).1 y hy).1
              omega
        rw [h0] at this
        cases this
    · obtain ⟨hun, oi, hoi, hdeps⟩ := mem_ready.1 hi
      obtain ⟨x, hx, hxi⟩ := hall i hun
      subst hxi
      obtain ⟨l1, l2, rfl⟩ := List.append_of_mem hx
      have hfree : ∀ y ∈ l1, y.2.2.free x.2.2 := by
        intro y hy
        have h1 := (List.pairwise_append.1 hap).2.2 y hy x (by simp)
        rcases h1.2 with hanc | h1
        · exfalso
          have h2 := anc_listed hcl hanc (.inr ⟨oi, hoi, hdeps⟩)
          have h3 := (hrem y (by simp [hy])).2
          rcases Nat.lt_or_ge y.1 listed.size with h' | h'
          · simp [h'] at h2 h3; rw [h2] at h3; cases h3
          · simp [Array.getElem?_eq_none h'] at h3
        · exact h1
      obtain ⟨hv, hrun', hfin⟩ := pull x l2 l1 σ hrun hfree
      have hsub : List.Sublist (l1 ++ l2) (l1 ++ x :: l2) := List.Sublist.append (List.Sublist.refl _) (List.sublist_cons_self _ _)
      have hap' : Apart ops (l1 ++ l2) := List.Pairwise.sublist hsub hap
      have hris' := List.Pairwise.sublist hsub hris
      have hxo := (hrem x (by simp)).1
      have hsorted : ∀ y ∈ l1 ++ l2, y.1 ≠ x.1 := by
        intro y hy
        rcases List.mem_append.1 hy with hy | hy
        · exact Nat.ne_of_lt ((List.pairwise_append.1 hap).2.2 y hy x (by simp)).1
        · exact Nat.ne_of_gt ((List.pairwise_cons.1 (List.pairwise_append.1 hap).2.1).1 y hy).1
      have hdis : ∀ y ∈ l1 ++ l2, x.2.2.hi ≤ y.2.2.lo ∨ y.2.2.hi ≤ x.2.2.lo := by
        intro y hy
        rcases List.mem_append.1 hy with hy | hy
        · exact ((List.pairwise_append.1 hris).2.2 y hy x (by simp)).symm
        · exact (List.pairwise_cons.1 (List.pairwise_append.1 hris).2.1).1 y hy
      have next : ∀ a' w', StepPost C σ x.2.2 γ a' w' → wpAny C.P .any ops Q fuel (listed.setIfInBounds x.1 true) a' w' := by
        rintro a' w' ⟨γ', hinv', hsat', hkept⟩
        refine ih (l1 ++ l2) _ _ γ' a' w' (by simp at hlen ⊢; omega) (by simp [hsz]) (fun y oj hoj hly e he hb => ?_) (fun y hy => ?_) (fun j hj => ?_) hap' hrun' hris' (fun y hy => hins y (hsub.subset hy)) (fun y hy => ?_) hinv' hsat' (fun a'' w'' γ'' i1 s1 k1 => hQ a'' w'' γ'' i1 (s1.congr fun l => (hfin l).symm) ?_)
        · have up : ∀ k, listed.getD k false = true → (listed.setIfInBounds x.1 true).getD k false = true := by
            intro k hk
            by_cases hkx : x.1 = k
            · subst hkx
              have hxs : x.1 < listed.size := by rw [hsz]; exact (Array.getElem?_eq_some_iff.1 hxo).1
              simp [hxs]
            · rw [getD_set_ne false hkx]; exact hk
          by_cases hyx : x.1 = y
          · subst hyx
            rw [hoi] at hoj
            cases hoj
            exact up _ (hdeps e he hb)
          · rw [getD_set_ne false hyx] at hly
            exact up _ (hcl y oj hoj hly e he hb)
        · obtain ⟨h1, h2⟩ := hrem y (hsub.subset hy)
          exact ⟨h1, by rw [getD_set_ne true (Ne.symm (hsorted y hy))]; exact h2⟩
        · by_cases hjx : x.1 = j
          · subst hjx
            exfalso
            have hxs : x.1 < listed.size := by rw [hsz]; exact (Array.getElem?_eq_some_iff.1 hxo).1
            simp [hxs] at hj
          · rw [getD_set_ne true hjx] at hj
            obtain ⟨y, hy, hyj⟩ := hall j hj
            refine ⟨y, ?_, hyj⟩
            rcases List.mem_append.1 hy with h | h
            · simp [h]
            · rcases List.mem_cons.1 h with rfl | h
              · exact absurd hyj hjx
              · simp [h]
        · refine (hfr y (hsub.subset hy)).kept hkept fun nm h1 h2 => ⟨?_, hins y (hsub.subset hy) nm h1 h2⟩
          rcases hdis y hy with h | h <;> omega
        · exact (hkept.mono fun nm hb => hb x (by simp)).trans (k1.mono fun nm hb y hy => hb y (hsub.subset hy))
      have hval := hv σ (fun _ _ => rfl) γ a w hinv hsat (hfr x (by simp))
      unfold wpOp
      simp only [hxo]
      by_cases hw : Region.wanted x.2.1 (yielded ops a.tmps) = true
      · rw [if_pos hw] at hval ⊢
        exact .inl (Oper.wp_mono next (hval Q))
      · rw [if_neg hw] at hval ⊢
        exact next _ _ hval

/-- In the order of the text. -/
theorem wpOps_run {Q : Exit → Act → World → Prop} : ∀ (rem : Rem T) (σ : St T) (γ : Gh) (a : Act) (w : World), (∀ x ∈ rem, ops[x.1]? = some x.2.1) →
      RunV C ops rem σ → Rising rem → Inside C.E rem → (∀ x ∈ rem, Fresh x.2.2.lo x.2.2.hi γ) → Inv C.E γ w → Sat C.E C.N γ w a σ →
      (∀ a' w' γ', Inv C.E γ' w' → Sat C.E C.N γ' w' a' (fin rem σ) → Kept C.E (Beyond rem) γ γ' → Q .normal a' w') →
      wpOps C.P ops Q (rem.map (·.1)) a w
  | [], σ, γ, a, w, _, _, _, _, _, hinv, hsat, hQ => hQ a w γ hinv hsat (.refl _ _ _)
  | x :: r, σ, γ, a, w, hrem, hrun, hris, hins, hfr, hinv, hsat, hQ => by
    have hxo := hrem x (by simp)
    have next : ∀ a' w', StepPost C σ x.2.2 γ a' w' → wpOps C.P ops Q (r.map (·.1)) a' w' := by
      rintro a' w' ⟨γ', hinv', hsat', hkept⟩
      refine wpOps_run r _ γ' a' w' (fun y hy => hrem y (by simp [hy])) hrun.2 (List.pairwise_cons.1 hris).2 (fun y hy => hins y (by simp [hy])) (fun y hy => ?_) hinv' hsat' (fun a'' w'' γ'' i1 s1 k1 => hQ a'' w'' γ'' i1 s1 ?_)
      · refine (hfr y (by simp [hy])).kept hkept fun nm h1 h2 => ⟨?_, hins y (by simp [hy]) nm h1 h2⟩
        have := (List.pairwise_cons.1 hris).1 y hy
        omega
      · exact (hkept.mono fun nm hb => hb x (by simp)).trans (k1.mono fun nm hb y hy => hb y (by simp [hy]))
    have hval := hrun.1 σ (fun _ _ => rfl) γ a w hinv hsat (hfr x (by simp))
    rw [List.map_cons, wpOps_cons]
    unfold wpOp
    simp only [hxo]
    by_cases hw : Region.wanted x.2.1 (yielded ops a.tmps) = true
    · rw [if_pos hw] at hval ⊢
      exact .inl (Oper.wp_mono next (hval Q))
    · rw [if_neg hw] at hval ⊢
      exact next _ _ hval
end
end Go.G
namespace Go.G
variable {T : Uni}

/-! ### From the model's operands -/
def Opd.slots : Opd T → List Nat
  | .t i => [i]
  | .c _ => []
def Opd.all (xs : List (Opd T)) : List Nat := xs.flatMap Opd.slots

def cOpd : Operand → Option (Opd T)
  | .tmp t => some (.t t)
  | .const (.int k n) => some (.c (.one (.d (.int k n))))
  | .const (.bool b) => some (.c (.one (.d (.bool b))))
  | .const (.string s) => some (.c (.one (.d (.str s))))
  | .const (.slice none 0 0) => some (.c (.one .nl))
  | .const v => if v.oneCell' then some (.c (.one (.val v))) else none
  | .func f => some (.c (.one (.fn f [])))
  | .global _ => none

def cOpds : List Operand → Option (List (Opd T))
  | [] => some []
  | x :: xs => match cOpd x, cOpds xs with
    | some y, some ys => some (y :: ys)
    | _, _ => none

def cOpo : Option Operand → Option (Option (Opd T))
  | none => some none
  | some x => match cOpd x with
    | some y => some (some y)
    | none => none

def zCV : Value → Option (CV T)
  | .int k n => some (.d (.int k n))
  | .bool b => some (.d (.bool b))
  | .string s => some (.d (.str s))
  | .slice none 0 0 => some .nl
  | .agg _ => none
  | .tuple _ => none
  | v => some (.val v)

def zCVs : List Value → Option (List (CV T))
  | [] => some []
  | x :: xs => match zCV x, zCVs xs with
    | some y, some ys => some (y :: ys)
    | _, _ => none

def zCells (P : Program) (t : TypeId) : Option (List (CV T)) :=
  match P.info? t with
  | some i => match i.zero with
    | some z => zCVs z.cells.toList
    | none => none
  | none => none

def tySz (P : Program) (t : TypeId) : Option Nat := (P.info? t).map (·.size)
def tyAg (P : Program) (t : TypeId) : Option Bool :=
  match P.underlying t with
  | some (.struct _) | some (.array _ _) => some true
  | some _ => some false
  | none => none

/-! ### The operands' values -/
def Rd (σ : St T) : Opd T → PV T → Prop
  | .c q, p => p = q
  | .t i, p => look σ (.s i) = some (.v true p)

def Rds (σ : St T) : List (Opd T) → List (PV T) → Prop
  | [], [] => True
  | x :: xs, p :: ps => Rd σ x p ∧ Rds σ xs ps
  | _, _ => False

section
variable {X : Type} {σ : St T} {r : X}
theorem rdv_inv {x : Opd T} {K : PV T → Option X} (h : rdv σ x K = some r) : ∃ p, Rd σ x p ∧ K p = some r := by
  cases x with
  | c q => exact ⟨q, rfl, h⟩
  | t i =>
    simp only [rdv] at h
    split at h
    · rename_i p hl; exact ⟨p, hl, h⟩
    · cases h

theorem rdvs_inv : ∀ {xs : List (Opd T)} {K : List (PV T) → Option X}, rdvs σ xs K = some r → ∃ ps, Rds σ xs ps ∧ K ps = some r
  | [], _, h => ⟨[], trivial, h⟩
  | x :: xs, K, h => by
    obtain ⟨p, hp, h⟩ := rdv_inv (x := x) h
    obtain ⟨ps, hps, h⟩ := rdvs_inv h
    exact ⟨p :: ps, ⟨hp, hps⟩, h⟩

theorem rdb_inv {x : Opd T} {K : Bool → Option X} (h : rdb σ x K = some r) : ∃ b, Rd σ x (.one (.d (.bool b))) ∧ K b = some r := by
  obtain ⟨p, hp, h⟩ := rdv_inv (x := x) h
  split at h
  · exact ⟨_, hp, h⟩
  · cases h

theorem rdi_inv {x : Opd T} {K : IntKind → Int → Option X} (h : rdi σ x K = some r) : ∃ k i, Rd σ x (.one (.d (.int k i))) ∧ K k i = some r := by
  obtain ⟨p, hp, h⟩ := rdv_inv (x := x) h
  split at h
  · exact ⟨_, _, hp, h⟩
  · cases h

theorem rdc_inv {x : Opd T} {K : CV T → Option X} (h : rdc σ x K = some r) : ∃ c, Rd σ x (.one c) ∧ K c = some r := by
  obtain ⟨p, hp, h⟩ := rdv_inv (x := x) h
  split at h
  · exact ⟨_, hp, h⟩
  · cases h
end

section
variable {E : Entry} {N : Nat} {γ : Gh} {w : World} {a : Act} {σ σ' : St T}

theorem RepC.one {c : CV T} {v : Value} (h : RepC γ w c v) : v.oneCell' = true := by
  cases c with
  | d x => exact RepD.one h
  | nl => obtain ⟨_, h⟩ := h; subst h; rfl
  | ref nm off => obtain ⟨_, _, h⟩ := h; subst h; rfl
  | cur cs => obtain ⟨_, _, h, _⟩ := h; subst h; rfl
  | own u nm => obtain ⟨_, _, _, _, h⟩ := h; subst h; rfl
  | buf u nm off len => obtain ⟨_, _, _, _, _, _, _, _, _, h, _⟩ := h; subst h; rfl
  | elm u nm i f => obtain ⟨_, _, _, _, _, _, _, h⟩ := h; subst h; rfl
  | fn f caps => obtain ⟨_, _, h⟩ := h; subst h; rfl
  | mp nm => obtain ⟨_, _, h⟩ := h; subst h; rfl
  | val u => obtain ⟨rfl, h⟩ := h; exact h

theorem cOpd_const {v : Value} {x : Opd T} (h : cOpd (.const v) = some x) : ∃ q, x = .c q ∧ RepP γ w q v := by
  cases v <;> simp only [cOpd, Value.oneCell', if_true, if_false, Option.some.injEq, Bool.false_eq_true, reduceCtorEq] at h <;> first | (subst h; exact ⟨_, rfl, by simp only [RepP, RepC]; first | exact .int _ _ | exact .bool _ | exact .str _⟩) | (subst h; exact ⟨_, rfl, rfl, rfl⟩) | skip
  rename_i A l c
  cases A with
  | some A => simp only [if_true, Option.some.injEq] at h; subst h; exact ⟨_, rfl, rfl, rfl⟩
  | none =>
    cases l with
    | succ l => simp only [if_true, Option.some.injEq] at h; subst h; exact ⟨_, rfl, rfl, rfl⟩
    | zero =>
      cases c with
      | succ c => simp only [if_true, Option.some.injEq] at h; subst h; exact ⟨_, rfl, rfl, rfl⟩
      | zero => simp only [Option.some.injEq] at h; subst h; exact ⟨_, rfl, none, rfl⟩

theorem Rd.rep (hs : Sat E N γ w a σ') {o : Operand} {x : Opd T} {p : PV T} (hx : cOpd o = some x) (hl : ∀ i ∈ x.slots, look σ' (.s i) = look σ (.s i)) (h : Rd σ x p) : RepP γ w p (a.eval o) := by
  cases o with
  | tmp t =>
    simp only [cOpd, Option.some.injEq] at hx
    subst hx
    have := hs.facts (.s t) (.v true p) ((hl t (by simp [Opd.slots])).trans h)
    exact this.1 rfl
  | const v =>
    obtain ⟨q, rfl, hq⟩ := cOpd_const (γ := γ) (w := w) hx
    cases h
    exact hq
  | global g => simp [cOpd] at hx
  | func f =>
    simp only [cOpd, Option.some.injEq] at hx
    subst hx
    cases h
    simp only [RepP, RepC]
    exact ⟨[], by simp, by simp [Act.eval]⟩

theorem Rds.rep (hs : Sat E N γ w a σ') : ∀ {os : List Operand} {xs : List (Opd T)} {ps : List (PV T)}, cOpds os = some xs → (∀ i ∈ Opd.all xs, look σ' (.s i) = look σ (.s i)) → Rds σ xs ps → RepPs γ w ps (os.map a.eval)
  | [], xs, ps, hx, _, h => by
    simp only [cOpds, Option.some.injEq] at hx
    subst hx
    cases ps with
    | nil => simp only [List.map_nil, RepPs]
    | cons _ _ => exact h.elim
  | o :: os, xs, ps, hx, hl, h => by
    simp only [cOpds] at hx
    split at hx
    · rename_i y ys h1 h2
      cases hx
      cases ps with
      | nil => exact h.elim
      | cons p ps =>
        simp only [List.map_cons, RepPs]
        exact ⟨Rd.rep hs h1 (fun i hi => hl i (by simp [Opd.all, hi])) h.1, Rds.rep hs h2 (fun i hi => hl i (by simp [Opd.all] at hi ⊢; exact .inr hi)) h.2⟩
    · cases hx
end

/-! ### What an operation has done -/
def OpDone (C : Ctx) (dst : Option Nat) (a : Act) (γ : Gh) (w : World) (x : PV T) (mwr : Wr T) (lo hi : Nat) (a' : Act) (w' : World) : Prop :=
  ∃ γ' v Y, a' = a.put dst v ∧ (∀ d, dst = some d → RepP γ' w' x v) ∧ Evo Y γ w γ' w' ∧ (∀ nm, Y nm → C.E.perm nm ∧ Loc.h nm ∈ locs mwr) ∧
    (∀ l f, (l, some f) ∈ mwr → ∃ nm, l = .h nm ∧ C.E.perm nm ∧ ∀ tm, FactOK γ' w' tm l f) ∧
    (∀ nm, ¬ C.E.loc nm → γ'.bt nm = γ.bt nm) ∧ (∀ b nm, γ'.own b = some nm → C.E.loc nm ∨ γ.own b = some nm) ∧ (∀ b, w'.heap.size ≤ b → γ'.own b = none) ∧
    Kept C.E (fun nm => nm < lo ∨ hi ≤ nm) γ γ'

def KValid (C : Ctx) (o : Oper) (σ : St T) (sl : List Nat) (x : PV T) (mrd : List Loc) (mwr : Wr T) (lo hi : Nat) : Prop :=
  ∀ σ', (∀ i ∈ sl, look σ' (.s i) = look σ (.s i)) → (∀ l ∈ mrd, look σ' l = look σ l) → ∀ γ a w, Inv C.E γ w → Sat C.E C.N γ w a σ' → Fresh lo hi γ →
    ∀ Q, o.wp C.P a w (OpDone C o.dst a γ w x mwr lo hi) Q

section
variable {C : Ctx} {o : Oper} {σ : St T} {lo hi : Nat}

theorem OpDone.same {dst : Option Nat} {a : Act} {γ : Gh} {w : World} {x : PV T} {v : Value} (hi' : Inv C.E γ w) (h : RepP γ w x v) : OpDone C dst a γ w x [] lo hi (a.put dst v) w :=
  ⟨γ, v, fun _ => False, rfl, fun _ _ => h, .refl _ _ _, fun _ h => h.elim, (fun _ _ h => by cases h), fun _ _ => rfl, fun _ _ h => .inr h, hi'.ok, .refl _ _ _⟩

/-- An operation that only computes or reads. -/
theorem kv_pure {sl : List Nat} {x : PV T} {mrd : List Loc}
    (h : ∀ σ', (∀ i ∈ sl, look σ' (.s i) = look σ (.s i)) → (∀ l ∈ mrd, look σ' l = look σ l) → ∀ γ a w, Inv C.E γ w → Sat C.E C.N γ w a σ' →
      ∃ v, (execOp a.eval o).run C.P w = .ok (.value v) w ∧ RepP γ w x v) : KValid C o σ sl x mrd [] lo hi := by
  intro σ' h1 h2 γ a w hi hs _ Q
  obtain ⟨v, hr, hx⟩ := h σ' h1 h2 γ a w hi hs
  unfold Oper.wp
  rw [hr, Oper.upon_value]
  exact .same hi hx

theorem left {α : Type} {x y : List α} {i : α} (h : i ∈ x) : i ∈ x ++ y := List.mem_append_left _ h
theorem right {α : Type} {x y : List α} {i : α} (h : i ∈ y) : i ∈ x ++ y := List.mem_append_right _ h

theorem kv_move {x : Operand} {X : Opd T} {p : PV T} (ho : o.op = .move x ∨ o.op = .assign x) (hx : cOpd x = some X) (h : Rd σ X p) : KValid C o σ X.slots p [] [] lo hi := by
  refine kv_pure fun σ' h1 _ γ a w _ hs => ⟨a.eval x, ?_, Rd.rep hs hx h1 h⟩
  rcases ho with ho | ho <;> simp [execOp, ho]

theorem KValid.slots {sl sl' : List Nat} {x : PV T} {mrd : List Loc} {mwr : Wr T} (h : KValid C o σ sl x mrd mwr lo hi) (hs : ∀ i ∈ sl, i ∈ sl') : KValid C o σ sl' x mrd mwr lo hi :=
  fun σ' h1 => h σ' fun i hi => h1 i (hs i hi)

theorem repB {γ : Gh} {w : World} {b : Bool} {v : Value} (h : RepP (T := T) γ w (.one (.d (.bool b))) v) : v = .bool b := by
  simp only [RepP, RepC] at h; exact RepD.bool_iff.1 h
theorem repI {γ : Gh} {w : World} {k : IntKind} {i : Int} {v : Value} (h : RepP (T := T) γ w (.one (.d (.int k i))) v) : v = .int k i := by
  simp only [RepP, RepC] at h; exact RepD.int_iff.1 h
theorem repS {γ : Gh} {w : World} {s : ByteArray} {v : Value} (h : RepP (T := T) γ w (.one (.d (.str s))) v) : v = .string s := by
  simp only [RepP, RepC] at h; exact RepD.str_iff.1 h
theorem mkB {γ : Gh} {w : World} {b : Bool} : RepP (T := T) γ w (bl b) (.bool b) := by simp only [bl, RepP, RepC]; exact .bool b
theorem mkI {γ : Gh} {w : World} {k : IntKind} {i : Int} : RepP (T := T) γ w (.one (.d (.int k i))) (.int k i) := by simp only [RepP, RepC]; exact .int k i

theorem eval_const (a : Act) (v : Value) : a.eval (.const v) = v := rfl

theorem kv_and_f {c x : Operand} {Cc : Opd T} {sl : List Nat} (ho : o.op = .pick c x (.const (.bool false))) (hc : cOpd c = some Cc)
    (h1 : Rd σ Cc (.one (.d (.bool false)))) : KValid C o σ (Cc.slots ++ sl) (bl false) [] [] lo hi := by
  refine kv_pure fun σ' g1 _ γ a w _ hs => ?_
  have e1 := repB (Rd.rep hs hc (fun i hi => g1 i (left hi)) h1)
  exact ⟨.bool false, by simp [execOp, ho, e1, asBool, eval_const], mkB⟩

theorem kv_and_t {c x : Operand} {Cc Xx : Opd T} {xb : Bool} (ho : o.op = .pick c x (.const (.bool false))) (hc : cOpd c = some Cc) (hx : cOpd x = some Xx)
    (h1 : Rd σ Cc (.one (.d (.bool true)))) (h2 : Rd σ Xx (.one (.d (.bool xb)))) : KValid C o σ (Cc.slots ++ Xx.slots) (bl xb) [] [] lo hi := by
  refine kv_pure fun σ' g1 _ γ a w _ hs => ?_
  have e1 := repB (Rd.rep hs hc (fun i hi => g1 i (left hi)) h1)
  have e2 := repB (Rd.rep hs hx (fun i hi => g1 i (right hi)) h2)
  exact ⟨.bool xb, by simp [execOp, ho, e1, e2, asBool], mkB⟩

theorem kv_or_t {c x : Operand} {Cc : Opd T} {sl : List Nat} (ho : o.op = .pick c (.const (.bool true)) x) (hc : cOpd c = some Cc)
    (h1 : Rd σ Cc (.one (.d (.bool true)))) : KValid C o σ (Cc.slots ++ sl) (bl true) [] [] lo hi := by
  refine kv_pure fun σ' g1 _ γ a w _ hs => ?_
  have e1 := repB (Rd.rep hs hc (fun i hi => g1 i (left hi)) h1)
  exact ⟨.bool true, by simp [execOp, ho, e1, asBool, eval_const], mkB⟩

theorem kv_or_f {c x : Operand} {Cc Xx : Opd T} {xb : Bool} (ho : o.op = .pick c (.const (.bool true)) x) (hc : cOpd c = some Cc) (hx : cOpd x = some Xx)
    (h1 : Rd σ Cc (.one (.d (.bool false)))) (h2 : Rd σ Xx (.one (.d (.bool xb)))) : KValid C o σ (Cc.slots ++ Xx.slots) (bl xb) [] [] lo hi := by
  refine kv_pure fun σ' g1 _ γ a w _ hs => ?_
  have e1 := repB (Rd.rep hs hc (fun i hi => g1 i (left hi)) h1)
  have e2 := repB (Rd.rep hs hx (fun i hi => g1 i (right hi)) h2)
  exact ⟨.bool xb, by simp [execOp, ho, e1, e2, asBool], mkB⟩

/-! ### Cells of values -/
theorem pcells_rep {γ : Gh} {w : World} {p : PV T} {cs : List (CV T)} {v : Value} (h : pcells p = some cs) (hr : RepP γ w p v) : RepCs γ w cs v.cells.toList := by
  cases p with
  | one c =>
    simp only [pcells, Option.some.injEq] at h
    subst h
    simp only [RepP] at hr
    rw [cells_one hr.one]
    exact ⟨hr, trivial⟩
  | agg cs' =>
    simp only [pcells, Option.some.injEq] at h
    subst h
    simp only [RepP] at hr
    obtain ⟨vs, rfl, hr⟩ := hr
    simpa [Value.cells] using hr
  | tup ps => simp [pcells] at h
  | junk => simp [pcells] at h

theorem RepCs.length {γ : Gh} {w : World} : ∀ {cs : List (CV T)} {vs : List Value}, RepCs γ w cs vs → cs.length = vs.length
  | [], [], _ => rfl
  | _ :: _, _ :: _, h => by simp [RepCs.length h.2]
  | [], _ :: _, h => h.elim
  | _ :: _, [], h => h.elim

theorem RepCs.append {γ : Gh} {w : World} : ∀ {cs ds : List (CV T)} {vs us : List Value}, RepCs γ w cs vs → RepCs γ w ds us → RepCs γ w (cs ++ ds) (vs ++ us)
  | [], _, [], _, _, k => k
  | _ :: _, _, _ :: _, _, h, k => ⟨h.1, RepCs.append h.2 k⟩
  | [], _, _ :: _, _, h, _ => h.elim
  | _ :: _, _, [], _, h, _ => h.elim

theorem RepCs.take {γ : Gh} {w : World} : ∀ {cs : List (CV T)} {vs : List Value} (k : Nat), RepCs γ w cs vs → RepCs γ w (cs.take k) (vs.take k)
  | _, _, 0, _ => by simp [RepCs]
  | [], [], _ + 1, _ => by simp [RepCs]
  | _ :: _, _ :: _, k + 1, h => ⟨h.1, RepCs.take k h.2⟩
  | [], _ :: _, _ + 1, h => h.elim
  | _ :: _, [], _ + 1, h => h.elim

theorem RepCs.drop {γ : Gh} {w : World} : ∀ {cs : List (CV T)} {vs : List Value} (k : Nat), RepCs γ w cs vs → RepCs γ w (cs.drop k) (vs.drop k)
  | _, _, 0, h => by simpa using h
  | [], [], _ + 1, _ => by simp [RepCs]
  | _ :: _, _ :: _, k + 1, h => by simpa using RepCs.drop k h.2
  | [], _ :: _, _ + 1, h => h.elim
  | _ :: _, [], _ + 1, h => h.elim

theorem RepCs.one {γ : Gh} {w : World} : ∀ {cs : List (CV T)} {vs : List Value}, RepCs γ w cs vs → ∀ u ∈ vs, u.oneCell' = true
  | [], [], _, _, hu => by cases hu
  | c :: cs, v :: vs, h, u, hu => by
    rcases List.mem_cons.1 hu with rfl | hu
    · exact h.1.one
    · exact RepCs.one h.2 u hu
  | [], _ :: _, h, _, _ => h.elim
  | _ :: _, [], h, _, _ => h.elim

theorem RepDs.cs {γ : Gh} {w : World} : ∀ {xs : List (DV T.toSig)} {vs : List Value}, RepDs γ.imm w xs vs → RepCs γ w (xs.map CV.d) vs
  | [], [], _ => trivial
  | _ :: _, _ :: _, h => ⟨h.1, RepDs.cs h.2⟩
  | [], _ :: _, h => h.elim
  | _ :: _, [], h => h.elim

theorem zCV_rep {γ : Gh} {w : World} {v : Value} {c : CV T} (h : zCV v = some c) : RepC γ w c v := by
  unfold zCV at h
  split at h <;> first | (cases h; done) | cases h
  · exact .int _ _
  · exact .bool _
  · exact .str _
  · exact ⟨none, rfl⟩
  · refine ⟨rfl, ?_⟩
    cases v <;> simp_all [Value.oneCell']

theorem zCVs_rep {γ : Gh} {w : World} : ∀ {vs : List Value} {cs : List (CV T)}, zCVs vs = some cs → RepCs γ w cs vs
  | [], cs, h => by simp only [zCVs, Option.some.injEq] at h; subst h; trivial
  | v :: vs, cs, h => by
    simp only [zCVs] at h
    split at h
    · rename_i y ys h1 h2
      cases h
      exact ⟨zCV_rep h1, zCVs_rep h2⟩
    · cases h

/-! ### New blocks -/
def Gh.newBlk (γ : Gh) (b nm : Nat) (g : GV) (im : Nat) : Gh :=
  { bt := fun n => if n = nm then some g else γ.bt n, own := fun k => if k = b then some nm else γ.own k, imm := fun k => if k = b then im else γ.imm k }

theorem heap_alloc_at (w : World) (o : Obj) : (w.alloc o).heap[w.heap.size]? = some o := by
  show (w.heap.push o)[w.heap.size]? = _
  simp

theorem cell_alloc_old (w : World) (o : Obj) (b i : Nat) (h : b < w.heap.size) : (w.alloc o).cell? ⟨b, i, none⟩ = w.cell? ⟨b, i, none⟩ := by
  unfold World.cell?
  rw [show (w.alloc o).heap[b]? = w.heap[b]? from Go.RowKit.Below.heap_alloc _ _ _ h]

theorem Evo.newBlk {γ : Gh} {w : World} {nm : Nat} (hf : γ.bt nm = none) (o : Obj) (g : GV) (im : Nat) : Evo (fun _ => False) γ w (γ.newBlk w.heap.size nm g im) (w.alloc o) where
  size := by simp
  mono := fun b hb => by simp only [Gh.newBlk]; rw [if_neg (by omega)]; exact Nat.le_refl _
  low := fun b i hb _ => cell_alloc_old w o b i hb
  os := rfl
  tape := rfl
  output := rfl
  same := fun b hb _ => ⟨Go.RowKit.Below.heap_alloc _ _ _ hb, by simp only [Gh.newBlk]; rw [if_neg (by omega)], by simp only [Gh.newBlk]; rw [if_neg (by omega)]⟩
  bt := fun n v hv => by
    simp only [Gh.newBlk]
    rw [if_neg (by rintro rfl; rw [hf] at hv; cases hv)]
    exact hv

/-- The plain ghost's part of a new block: it has a name of the frame. -/
theorem newBlk_parts {γ : Gh} {w : World} {nm : Nat} {g : GV} {im : Nat} {o : Obj} (hi' : Inv C.E γ w) (hl : C.E.loc nm) : (∀ n, ¬ C.E.loc n → (γ.newBlk w.heap.size nm g im).bt n = γ.bt n) ∧
    (∀ b n, (γ.newBlk w.heap.size nm g im).own b = some n → C.E.loc n ∨ γ.own b = some n) ∧ (∀ b, (w.alloc o).heap.size ≤ b → (γ.newBlk w.heap.size nm g im).own b = none) ∧
    Kept C.E (fun n => n < nm ∨ nm + 1 ≤ n) γ (γ.newBlk w.heap.size nm g im) := by
  refine ⟨fun n hn => ?_, fun b n h => ?_, fun b hb => ?_, fun n hn _ => ⟨?_, fun b hb => ?_⟩⟩
  · simp only [Gh.newBlk]; rw [if_neg (by rintro rfl; exact hn hl)]
  · simp only [Gh.newBlk] at h
    split at h
    · cases h; exact .inl hl
    · exact .inr h
  · simp at hb
    simp only [Gh.newBlk]; rw [if_neg (by omega)]; exact hi'.ok b (by omega)
  · simp only [Gh.newBlk]; rw [if_neg (by omega)]
  · simp only [Gh.newBlk] at hb
    split at hb
    · cases hb; omega
    · exact hb

/-- An operation that makes a block with a name. -/
theorem kv_newO {sl : List Nat} {n : Nat} {x : PV T} {fct : Fact T} {mrd : List Loc} {g : Nat → GV} {im : Nat} (hl : C.E.loc n)
    (h : ∀ σ', (∀ i ∈ sl, look σ' (.s i) = look σ (.s i)) → (∀ l ∈ mrd, look σ' l = look σ l) → ∀ γ a w, Inv C.E γ w → Sat C.E C.N γ w a σ' →
      ∃ (ob : Obj) (v : Value), (execOp a.eval o).run C.P w = .ok (.value v) (w.alloc ob) ∧ ∀ γ', Evo (fun _ => False) γ w γ' (w.alloc ob) → γ'.bt n = some (g w.heap.size) → γ'.own w.heap.size = some n → γ'.imm w.heap.size = im →
        RepP γ' (w.alloc ob) x v ∧ ∀ tm, FactOK γ' (w.alloc ob) tm (.h n) fct) :
    KValid C o σ sl x mrd [(.h n, some fct)] n (n + 1) := by
  intro σ' h1 h2 γ a w hi hs hf Q
  obtain ⟨ob, v, hr, hx⟩ := h σ' h1 h2 γ a w hi hs
  obtain ⟨hf1, hf2⟩ := hf n (Nat.le_refl _) (Nat.lt_succ_self _)
  unfold Oper.wp
  rw [hr, Oper.upon_value]
  obtain ⟨p1, p2, p3, p4⟩ := newBlk_parts (C := C) (g := g w.heap.size) (im := im) (o := ob) hi hl
  have ev : Evo (fun _ => False) γ w (γ.newBlk w.heap.size n (g w.heap.size) im) (w.alloc ob) := Evo.newBlk hf1 ob _ _
  obtain ⟨k1, k2⟩ := hx _ ev (by simp [Gh.newBlk]) (by simp [Gh.newBlk]) (by simp [Gh.newBlk])
  refine ⟨γ.newBlk w.heap.size n (g w.heap.size) im, v, fun _ => False, rfl, fun _ _ => k1, ev, fun _ h => h.elim, fun l f hm => ?_, p1, p2, p3, p4⟩
  simp only [List.mem_singleton, Prod.mk.injEq, Option.some.injEq] at hm
  obtain ⟨rfl, rfl⟩ := hm
  exact ⟨n, rfl, .inr hl, k2⟩

theorem kv_alloc {e : TypeId} {z : List (CV T)} {n : Nat} (ho : o.op = .alloc e) (hz : zCells C.P e = some z) (hl : C.E.loc n) : KValid C o σ [] (.one (.ref n 0)) [] [(.h n, some (.b z))] n (n + 1) := by
  refine kv_newO (g := .blk) (im := 0) hl fun σ' _ _ γ a w hinv hs => ?_
  unfold zCells at hz
  split at hz
  · rename_i i hi
    split at hz
    · rename_i zv hzv
      refine ⟨.cells zv.cells e, .pointer (some ⟨w.heap.size, 0, none⟩), by simp [execOp, ho, Instr.alloc, zeroValue, typeInfo, hi, hzv, newVar, newRow], fun γ' ev b1 b2 b3 => ⟨?_, fun tm => ?_⟩⟩
      · simp only [RepP, RepC]; exact ⟨_, b1, rfl⟩
      · exact ⟨w.heap.size, zv.cells, e, b1, b2, b3, by simp, heap_alloc_at _ _, zCVs_rep hz⟩
    · cases hz
  · cases hz

theorem kv_box {e : TypeId} {x : Operand} {X : Opd T} {p : PV T} {cs : List (CV T)} {n : Nat} (ho : o.op = .box e x) (hx : cOpd x = some X) (h : Rd σ X p) (hp : pcells p = some cs) (hl : C.E.loc n) :
    KValid C o σ X.slots (.one (.ref n 0)) [] [(.h n, some (.b cs))] n (n + 1) := by
  refine kv_newO (g := .blk) (im := 0) hl fun σ' g1 _ γ a w hinv hs => ?_
  have e1 := pcells_rep hp (Rd.rep hs hx g1 h)
  refine ⟨.cells (a.eval x).cells e, .pointer (some ⟨w.heap.size, 0, none⟩), by simp [execOp, ho, Instr.box, newVar, newRow], fun γ' ev b1 b2 b3 => ⟨?_, fun tm => ?_⟩⟩
  · simp only [RepP, RepC]; exact ⟨_, b1, rfl⟩
  · exact ⟨w.heap.size, _, e, b1, b2, b3, by simp, heap_alloc_at _ _, RepCs.evo ev e1⟩
end
end Go.G
namespace Go.G
variable {T : Uni}
section
variable {C : Ctx} {o : Oper} {σ : St T} {lo hi : Nat}

theorem addr_add (b off j : Nat) : (⟨b, off, none⟩ : Addr).add j = ⟨b, off + j, none⟩ := by
  unfold Addr.add
  by_cases h : j = 0
  · subst h; simp
  · simp [h]

theorem run_sizeOf {P : Program} {t : TypeId} {m : Nat} (h : tySz P t = some m) (w : World) : (sizeOf t).run P w = .ok m w := by
  unfold tySz at h
  cases hi : P.info? t with
  | none => simp [hi] at h
  | some i => simp [hi] at h; simp [sizeOf, typeInfo, hi, h]

theorem run_isAgg {P : Program} {t : TypeId} {ag : Bool} (h : tyAg P t = some ag) (w : World) : (isAgg t).run P w = .ok ag w := by
  unfold tyAg at h
  cases hu : P.underlying t with
  | none => simp [hu] at h
  | some d =>
    cases d <;> simp [hu] at h <;> subst h <;> simp [isAgg, run_underlying hu]

theorem run_part {P : Program} {t : TypeId} {ag : Bool} {m : Nat} (ha : tyAg P t = some ag) (hm : tySz P t = some m) (cs : List Value) (off : Nat) (w : World) :
    (part t cs.toArray off).run P w = if ag then .ok (.agg ((cs.drop off).take m).toArray) w else match cs[off]? with
      | some v => .ok v w
      | none => .halt (.stuck "part: no such cell") w := by
  cases ag with
  | true =>
    simp only [part, Sem.run_bind, run_isAgg ha, Result.andThen_ok, if_true, run_sizeOf hm, Sem.run_pure]
    congr 2
    apply Array.ext'
    simp
  | false =>
    simp only [part, Sem.run_bind, run_isAgg ha, Result.andThen_ok, if_false, Bool.false_eq_true]
    simp only [List.getElem?_toArray]
    cases cs[off]? <;> rfl

/-- What is read at an address that holds these cells. -/
theorem run_loadVar_list {P : Program} {t : TypeId} {ag : Bool} {m : Nat} (ha : tyAg P t = some ag) (hm : tySz P t = some m) (w : World) (b off : Nat) (vs : List Value) (hl : vs.length = m) (h1 : ag = false → m = 1)
    (h : ∀ j v, vs[j]? = some v → w.cell? ⟨b, off + j, none⟩ = some v) : (loadVar t ⟨b, off, none⟩).run P w = .ok (if ag then .agg vs.toArray else vs.getD 0 undef) w := by
  have h' : ∀ j v, vs[j]? = some v → w.cell? ((⟨b, off, none⟩ : Addr).add j) = some v := fun j v hj => by rw [addr_add]; exact h j v hj
  cases ag with
  | true =>
    have := run_loadCells_list (P := P) w ⟨b, off, none⟩ vs h'
    rw [hl] at this
    simp [loadVar, run_isAgg ha, run_sizeOf hm, this]
  | false =>
    have hm1 := h1 rfl
    match vs, hl with
    | [v], _ =>
      have h0 := h 0 v rfl
      simp only [Nat.add_zero] at h0
      simp [loadVar, run_isAgg ha, h0]
    | [], hl => simp at hl; omega
    | _ :: _ :: _, hl => simp at hl; omega

theorem ldv_inv {X : Type} {r : X} {m : Nat} {ag : Bool} {cells : List (CV T)} {K : PV T → Option X} (h1 : ag = false → m = 1) (h : ldv m ag cells K = some r) : ∃ p, K p = some r ∧ cells.length = m ∧ p = shp ag cells := by
  unfold ldv at h
  cases ag with
  | true =>
    simp only at h
    split at h
    · rename_i hb; exact ⟨_, h, Nat.eq_of_beq_eq_true hb, rfl⟩
    · cases h
  | false =>
    simp only at h
    split at h
    · exact ⟨_, h, by simp [h1 rfl], rfl⟩
    · cases h

theorem ld_rep {γ : Gh} {w : World} {m : Nat} {ag : Bool} {cells : List (CV T)} {vs : List Value} (h1 : ag = false → m = 1) (hl : cells.length = m) (h : RepCs γ w cells vs) :
    RepP γ w (shp ag cells) (if ag then .agg vs.toArray else vs.getD 0 undef) := by
  cases ag with
  | true => simp only [shp, if_true, RepP]; exact ⟨vs, rfl, h⟩
  | false =>
    simp only [Bool.false_eq_true, if_false]
    match cells, vs, h with
    | [c], [v], h => simp only [shp, RepP, List.getD_cons_zero]; exact h.1
    | [], [], _ => simp at hl; have := h1 rfl; omega
    | _ :: _ :: _, _, _ => simp [shp, RepP]

/-- A load from cells that are known. -/
theorem kv_load {t : TypeId} {x : Operand} {X : Opd T} {c : CV T} {m : Nat} {ag : Bool} {cells : List (CV T)} {mrd : List Loc} (ho : o.op = .load t x) (hx : cOpd x = some X) (ha : tyAg C.P t = some ag) (hm : tySz C.P t = some m) (h1 : ag = false → m = 1)
    (h : Rd σ X (.one c)) (hl : cells.length = m)
    (hb : ∀ σ', (∀ l ∈ mrd, look σ' l = look σ l) → ∀ γ a w, Inv C.E γ w → Sat C.E C.N γ w a σ' → ∀ v, RepC γ w c v → ∃ b off vs, v = .pointer (some ⟨b, off, none⟩) ∧ (∀ (j : Nat) (u : Value), vs[j]? = some u → w.cell? ⟨b, off + j, none⟩ = some u) ∧ RepCs γ w cells vs) :
    KValid C o σ X.slots (shp ag cells) mrd [] lo hi := by
  refine kv_pure fun σ' g1 g2 γ a w hi hs => ?_
  have e1 := Rd.rep hs hx g1 h
  simp only [RepP] at e1
  obtain ⟨b, off, vs, e2, e3, e4⟩ := hb σ' g2 γ a w hi hs _ e1
  have hlv : vs.length = m := by rw [← e4.length]; exact hl
  have hrun := run_loadVar_list ha hm w b off _ hlv h1 e3
  refine ⟨_, ?_, ld_rep h1 hl e4⟩
  simp [execOp, ho, e2, Instr.loadAt, Instr.sureAddr, hrun]

theorem load_ref {m nm off : Nat} {cs : List (CV T)} (hb : look σ (.h nm) = some (.b cs)) {σ' : St T} (g2 : ∀ l ∈ [Loc.h nm], look σ' l = look σ l) {γ : Gh} {a : Act} {w : World} (hs : Sat C.E C.N γ w a σ') {v : Value} (hv : RepC (T := T) γ w (.ref nm off) v) :
    ∃ b off' vs, v = .pointer (some ⟨b, off', none⟩) ∧ (∀ (j : Nat) (u : Value), vs[j]? = some u → w.cell? ⟨b, off' + j, none⟩ = some u) ∧ RepCs γ w ((cs.drop off).take m) vs := by
  obtain ⟨b, h1, rfl⟩ := hv
  obtain ⟨b', vs, ty, k1, k2, k3, k4, k5, k6⟩ := hs.facts (.h nm) (.b cs) ((g2 _ (by simp)).trans hb)
  rw [h1] at k1; cases k1
  refine ⟨b, off, (vs.toList.drop off).take m, rfl, fun j u hj => ?_, (k6.drop off).take m⟩
  rw [List.getElem?_take] at hj
  split at hj
  · rw [List.getElem?_drop] at hj
    simp only [World.cell?, k5]
    simpa using hj
  · cases hj

theorem load_cur {m : Nat} {cs : List (DV T.toSig)} {γ : Gh} {w : World} {v : Value} (hv : RepC (T := T) γ w (.cur cs) v) :
    ∃ b off' vs, v = .pointer (some ⟨b, off', none⟩) ∧ (∀ (j : Nat) (u : Value), vs[j]? = some u → w.cell? ⟨b, off' + j, none⟩ = some u) ∧ RepCs γ w ((cs.map CV.d).take m) vs := by
  obtain ⟨b, off, rfl, h2, h3, h4⟩ := hv
  obtain ⟨vs, k1, k2, k3⟩ := h4.values
  refine ⟨b, off, vs.take m, rfl, fun j u hj => ?_, k3.cs.take m⟩
  rw [List.getElem?_take] at hj
  split at hj
  · exact k2 j u hj
  · cases hj

theorem dat_some {α : Type} {l : List α} {i : Int} {a : α} (h : dat l i = some a) : 0 ≤ i ∧ i < l.length ∧ l[i.toNat]? = some a := by
  unfold dat at h
  split at h
  · rename_i h0
    have := getElem?_lt h
    exact ⟨h0, by omega, h⟩
  · cases h

theorem load_elm {m nm f : Nat} {i : Int} {u u' : T.U} {l : List (T.El u')} {fz : Bool} {x : T.El u'} (hu : T.size u = T.size u') (hb : look σ (.h nm) = some (.r u' l fz)) (hx : dat l i = some x) {σ' : St T} (g2 : ∀ l ∈ [Loc.h nm], look σ' l = look σ l) {γ : Gh} {a : Act} {w : World} (hs : Sat C.E C.N γ w a σ') {v : Value}
    (hv : RepC (T := T) γ w (.elm u nm i f) v) :
    ∃ b off' vs, v = .pointer (some ⟨b, off', none⟩) ∧ (∀ (j : Nat) (u : Value), vs[j]? = some u → w.cell? ⟨b, off' + j, none⟩ = some u) ∧ RepCs γ w ((((T.enc u' x).map CV.d).drop f).take m) vs := by
  obtain ⟨h0, h1, h2⟩ := dat_some hx
  obtain ⟨b, o, L, cap, k1, k2, k3, rfl⟩ := hv
  obtain ⟨A, cap', e1, e2, e3⟩ := hs.facts (.h nm) (.r u' l fz) ((g2 _ (by simp)).trans hb)
  rw [k1] at e1; cases e1
  rcases e3 with ⟨_, e3⟩ | ⟨b', off, c, t, e4, e5, e6, e7, e8, e9, e10⟩
  · subst e3; simp at h1; omega
  · cases e4
    obtain ⟨vs, j1, j2, j3⟩ := (e10 _ _ h2).values
    refine ⟨b, o + i.toNat * T.size u + f, (vs.drop f).take m, rfl, fun j u'' hj => ?_, (j3.cs.drop f).take m⟩
    rw [List.getElem?_take] at hj
    split at hj
    · rw [List.getElem?_drop] at hj
      have := j2 _ _ hj
      rw [hu, show o + i.toNat * T.size u' + f + j = o + i.toNat * T.size u' + (f + j) by omega]
      exact this
    · cases hj

/-! ### Places -/
theorem run_fieldAt {P : Program} {s : TypeId} {fs : Array Field} {i : Nat} {f : Field} {m : Nat} (hu : P.underlying s = some (.struct fs)) (hf : fs[i]? = some f) (hm : tySz P f.type = some m) (h0 : m ≠ 0) (b off : Nat) (w : World) :
    (Instr.fieldAt s (.pointer (some ⟨b, off, none⟩)) i).run P w = .ok (.pointer (some ⟨b, off + f.offset, none⟩)) w := by
  simp [Instr.fieldAt, run_underlying hu, hf, Instr.sureAddr, fieldPlace, run_sizeOf hm, h0, addr_add]

def fieldOff (P : Program) (s : TypeId) (i : Nat) : Option Nat :=
  match P.underlying s with
  | some (.struct fs) => match fs[i]? with
    | some f => match tySz P f.type with
      | some (_ + 1) => some f.offset
      | _ => none
    | none => none
  | _ => none

theorem run_fieldAt' {P : Program} {s : TypeId} {i d : Nat} (h : fieldOff P s i = some d) (b off : Nat) (w : World) :
    (Instr.fieldAt s (.pointer (some ⟨b, off, none⟩)) i).run P w = .ok (.pointer (some ⟨b, off + d, none⟩)) w := by
  unfold fieldOff at h
  split at h
  · rename_i fs hu
    split at h
    · rename_i f hf
      split at h
      · rename_i m hm
        cases h
        exact run_fieldAt hu hf hm (by omega) b off w
      · cases h
    · cases h
  · cases h

theorem kv_faddr {s : TypeId} {x : Operand} {X : Opd T} {i d : Nat} {c c' : CV T} (ho : o.op = .fieldAddr s x i) (hx : cOpd x = some X) (hf : fieldOff C.P s i = some d)
    (h : Rd σ X (.one c)) (hc : ∀ γ w v, RepC γ w c v → ∃ b off, v = .pointer (some ⟨b, off, none⟩) ∧ RepC γ w c' (.pointer (some ⟨b, off + d, none⟩))) : KValid C o σ X.slots (.one c') [] [] lo hi := by
  refine kv_pure fun σ' g1 _ γ a w hi hs => ?_
  have e1 := Rd.rep hs hx g1 h
  simp only [RepP] at e1
  obtain ⟨b, off, e2, e3⟩ := hc γ w _ e1
  exact ⟨.pointer (some ⟨b, off + d, none⟩), by simp [execOp, ho, e2, run_fieldAt' hf], by simp only [RepP]; exact e3⟩

theorem faddr_ref {γ : Gh} {w : World} {nm off d : Nat} {v : Value} (h : RepC (T := T) γ w (.ref nm off) v) : ∃ b o, v = .pointer (some ⟨b, o, none⟩) ∧ RepC (T := T) γ w (.ref nm (off + d)) (.pointer (some ⟨b, o + d, none⟩)) := by
  obtain ⟨b, h1, rfl⟩ := h
  exact ⟨b, off, rfl, b, h1, rfl⟩

theorem RowAt.drop {imm : Nat → Nat} {w : World} {b off : Nat} {xs : List (DV T.toSig)} (d : Nat) (h : RowAt imm w b off xs) : RowAt imm w b (off + d) (xs.drop d) := by
  intro j x hx
  rw [List.getElem?_drop] at hx
  have := h (d + j) x hx
  rw [show off + d + j = off + (d + j) by omega]
  exact this

theorem faddr_cur {γ : Gh} {w : World} {cs : List (DV T.toSig)} {d : Nat} (hd : d ≤ cs.length) {v : Value} (h : RepC (T := T) γ w (.cur cs) v) : ∃ b o, v = .pointer (some ⟨b, o, none⟩) ∧ RepC (T := T) γ w (.cur (cs.drop d)) (.pointer (some ⟨b, o + d, none⟩)) := by
  obtain ⟨b, off, rfl, h2, h3, h4⟩ := h
  refine ⟨b, off, rfl, b, off + d, rfl, h2, ?_, h4.drop d⟩
  simp; omega

theorem faddr_elm {γ : Gh} {w : World} {u : T.U} {nm f d : Nat} {i : Int} {v : Value} (h : RepC (T := T) γ w (.elm u nm i f) v) : ∃ b o, v = .pointer (some ⟨b, o, none⟩) ∧ RepC (T := T) γ w (.elm u nm i (f + d)) (.pointer (some ⟨b, o + d, none⟩)) := by
  obtain ⟨b, o, l, cap, h1, h2, h3, rfl⟩ := h
  exact ⟨b, _, rfl, b, o, l, cap, h1, h2, h3, by rw [Nat.add_assoc _ f d]⟩

theorem kv_fld {s : TypeId} {x : Operand} {X : Opd T} {i : Nat} {fs : Array Field} {f : Field} {m : Nat} {ag : Bool} {cs : List (CV T)} (ho : o.op = .field s x i) (hx : cOpd x = some X)
    (hu : C.P.underlying s = some (.struct fs)) (hf : fs[i]? = some f) (ha : tyAg C.P f.type = some ag) (hm : tySz C.P f.type = some m) (h1 : ag = false → m = 1)
    (h : Rd σ X (.agg cs)) (hl : ((cs.drop f.offset).take m).length = m) :
    KValid C o σ X.slots (shp ag ((cs.drop f.offset).take m)) [] [] lo hi := by
  refine kv_pure fun σ' g1 _ γ a w hi hs => ?_
  have e1 := Rd.rep hs hx g1 h
  simp only [RepP] at e1
  obtain ⟨vs, e1, h2⟩ := e1
  have hr : RepCs γ w ((cs.drop f.offset).take m) ((vs.drop f.offset).take m) := (h2.drop _).take m
  have hlv : ((vs.drop f.offset).take m).length = m := by rw [← hr.length]; exact hl
  refine ⟨_, ?_, ld_rep h1 hl hr⟩
  have hp := run_part ha hm vs f.offset w
  cases ag with
  | true => simp [execOp, ho, e1, Instr.field, run_underlying hu, hf, asAgg, hp]
  | false =>
    have hm1 := h1 rfl
    subst hm1
    have hlt : f.offset < vs.length := by simp at hlv; omega
    rw [List.getElem?_eq_getElem hlt] at hp
    simp only [Bool.false_eq_true, if_false] at hp
    have hg : ((vs.drop f.offset).take 1).getD 0 undef = vs[f.offset] := by
      simp [List.getD, List.getElem?_drop, hlt]
    simp only [Bool.false_eq_true, if_false, hg]
    simp [execOp, ho, e1, Instr.field, run_underlying hu, hf, asAgg, hp]

theorem kv_iaddr_d {t e : TypeId} {x i : Operand} {Xx Ii : Opd T} {u : T.U} {l : List (T.El u)} {k : IntKind} {iv : Int} {y : T.El u} (ho : o.op = .indexAddr t x i) (hx : cOpd x = some Xx) (hi' : cOpd i = some Ii)
    (hu : C.P.underlying t = some (.slice e)) (hm : tySz C.P e = some (T.size u)) (h : Rd σ Xx (.one (.d (.sl u l)))) (h2 : Rd σ Ii (.one (.d (.int k iv)))) (hb : dat l iv = some y) :
    KValid C o σ (Xx.slots ++ Ii.slots) (.one (.cur (T.enc u y))) [] [] lo hi := by
  refine kv_pure fun σ' g1 _ γ a w hinv hs => ?_
  have e1 := Rd.rep hs hx (fun j hj => g1 j (left hj)) h
  have e2 := repI (Rd.rep hs hi' (fun j hj => g1 j (right hj)) h2)
  simp only [RepP, RepC] at e1
  obtain ⟨A, cap, e3, hcap, h4⟩ := RepD.sl_iff.1 e1
  obtain ⟨b0, b1, b2⟩ := dat_some hb
  rcases h4 with h4 | ⟨b, off, rfl, hbl, hsh, hr⟩
  · subst h4; simp at b2
  · refine ⟨.pointer (some ⟨b, off + iv.toNat * T.size u, none⟩), ?_, ?_⟩
    · simp [execOp, ho, e2, e3, Instr.indexAt, asIntOf, run_underlying hu, run_sizeOf hm, b0, b1, addr_add]
    · simp only [RepP, RepC]
      refine ⟨b, off + iv.toNat * T.size u, rfl, hbl, ?_, hr _ _ b2⟩
      rw [T.enc_len]
      have : (iv.toNat + 1) * T.size u ≤ l.length * T.size u := Nat.mul_le_mul_right _ (by omega)
      rw [Nat.add_mul] at this
      omega

theorem kv_iaddr_row {t e : TypeId} {x i : Operand} {Xx Ii : Opd T} {u : T.U} {c : CV T} {l : List (T.El u)} {fz : Bool} {k : IntKind} {iv j : Int} {nm : Nat} {y : T.El u} (ho : o.op = .indexAddr t x i) (hx : cOpd x = some Xx) (hi' : cOpd i = some Ii)
    (hu : C.P.underlying t = some (.slice e)) (hm : tySz C.P e = some (T.size u)) (h : Rd σ Xx (.one c)) (hb : look σ (.h nm) = some (.r u l fz)) (h2 : Rd σ Ii (.one (.d (.int k iv)))) (hy : dat l j = some y) (h0 : 0 ≤ iv)
    (hc : ∀ γ w v, RepC γ w c v → ∀ A cap, γ.bt nm = some (.row A l.length cap) → l.length ≤ cap → ∃ A' len c', v = .slice A' len c' ∧ iv < len ∧ ∀ b o, A = some ⟨b, o, none⟩ → A' = some ⟨b, o + (j - iv).toNat * T.size u, none⟩ ∧ iv ≤ j) :
    KValid C o σ (Xx.slots ++ Ii.slots) (.one (.elm u nm j 0)) [.h nm] [] lo hi := by
  refine kv_pure fun σ' g1 g2 γ a w hinv hs => ?_
  have e1 := Rd.rep hs hx (fun j hj => g1 j (left hj)) h
  have e2 := repI (Rd.rep hs hi' (fun j hj => g1 j (right hj)) h2)
  simp only [RepP] at e1
  obtain ⟨A, cap, f1, f2, f3⟩ := hs.facts (.h nm) (.r u l fz) ((g2 _ (by simp)).trans hb)
  obtain ⟨A', len, c', e3, e4, e5⟩ := hc γ w _ e1 A cap f1 f2
  obtain ⟨b0, b1, b2⟩ := dat_some hy
  rcases f3 with ⟨_, f3⟩ | ⟨b, off, cc, tt, rfl, f5, f6, f7, f8, f9, f10⟩
  · subst f3; simp at b2
  · obtain ⟨rfl, e6⟩ := e5 b off rfl
    refine ⟨.pointer (some ⟨b, off + j.toNat * T.size u, none⟩), ?_, ?_⟩
    · have hj : (j - iv).toNat * T.size u + iv.toNat * T.size u = j.toNat * T.size u := by
        rw [← Nat.add_mul]; congr 1; omega
      simp [execOp, ho, e2, e3, Instr.indexAt, asIntOf, run_underlying hu, run_sizeOf hm, h0, e4, addr_add, Nat.add_assoc, hj]
    · simp only [RepP, RepC]
      exact ⟨b, off, l.length, cap, f1, b0, b1, by simp⟩

theorem iaddr_own {γ : Gh} {w : World} {u u' : T.U} {nm : Nat} {L : Nat} {iv : Int} (h0 : 0 ≤ iv) (hl : iv < L) {v : Value} (h : RepC (T := T) γ w (.own u' nm) v) (A : Option Addr) (cap : Nat) (hb : γ.bt nm = some (.row A L cap)) :
    ∃ A' len c', v = .slice A' len c' ∧ iv < len ∧ ∀ b o, A = some ⟨b, o, none⟩ → A' = some ⟨b, o + (iv - iv).toNat * T.size u, none⟩ ∧ iv ≤ iv := by
  obtain ⟨A', len, cap', h1, rfl⟩ := h
  rw [hb] at h1
  cases h1
  exact ⟨A, L, cap, rfl, hl, fun b o e => ⟨by simp [e], Int.le_refl _⟩⟩

theorem iaddr_buf {γ : Gh} {w : World} {u u' : T.U} (hu : T.size u' = T.size u) {nm : Nat} {off len : Int} {L : Nat} {iv : Int} (h0 : 0 ≤ iv) (hl : iv < len) {v : Value} (h : RepC (T := T) γ w (.buf u' nm off len) v) (A : Option Addr) (cap : Nat) (hb : γ.bt nm = some (.row A L cap)) :
    ∃ A' len c', v = .slice A' len c' ∧ iv < len ∧ ∀ b o, A = some ⟨b, o, none⟩ → A' = some ⟨b, o + (off + iv - iv).toNat * T.size u, none⟩ ∧ iv ≤ off + iv := by
  obtain ⟨A0, l, cap', A', h1, h2, h3, h4, h5, rfl, h7⟩ := h
  rw [hb] at h1
  cases h1
  refine ⟨A', len.toNat, cap - off.toNat, rfl, by omega, fun b o e => ⟨?_, by omega⟩⟩
  rw [h7 (by omega), e]
  simp only [Option.map_some, addr_add, hu]
  congr 4
  omega

theorem kv_iarr {t e : TypeId} {x i : Operand} {Xx Ii : Opd T} {size len : Nat} {c c' : CV T} {k : IntKind} {iv : Int} (ho : o.op = .indexAddr t x i) (hx : cOpd x = some Xx) (hi' : cOpd i = some Ii)
    (hu : C.P.underlying t = some (.array len e)) (hm : tySz C.P e = some size) (h : Rd σ Xx (.one c)) (h2 : Rd σ Ii (.one (.d (.int k iv)))) (b0 : 0 ≤ iv) (b1 : iv < len)
    (hc : ∀ γ w v, RepC γ w c v → ∃ b off, v = .pointer (some ⟨b, off, none⟩) ∧ RepC γ w c' (.pointer (some ⟨b, off + iv.toNat * size, none⟩))) :
    KValid C o σ (Xx.slots ++ Ii.slots) (.one c') [] [] lo hi := by
  refine kv_pure fun σ' g1 _ γ a w hinv hs => ?_
  have e1 := Rd.rep hs hx (fun j hj => g1 j (left hj)) h
  have e2 := repI (Rd.rep hs hi' (fun j hj => g1 j (right hj)) h2)
  simp only [RepP] at e1
  obtain ⟨b, off, e3, e4⟩ := hc γ w _ e1
  refine ⟨.pointer (some ⟨b, off + iv.toNat * size, none⟩), ?_, by simp only [RepP]; exact e4⟩
  simp [execOp, ho, e2, e3, Instr.indexAt, Instr.sureAddr, asIntOf, run_underlying hu, run_sizeOf hm, b0, b1, addr_add]

theorem RepPs.get {γ : Gh} {w : World} : ∀ {ps : List (PV T)} {vs : List Value} {i : Nat} {p : PV T}, RepPs γ w ps vs → ps[i]? = some p → ∃ v, vs[i]? = some v ∧ RepP γ w p v
  | [], _, _, _, _, h => by simp at h
  | p :: ps, v :: vs, 0, q, h, hq => by simp only [RepPs] at h; simp at hq; subst hq; exact ⟨v, rfl, h.1⟩
  | p :: ps, v :: vs, i + 1, q, h, hq => by simp only [RepPs] at h; simpa using RepPs.get (i := i) h.2 (by simpa using hq)
  | _ :: _, [], _, _, h, _ => by simp only [RepPs] at h

theorem kv_ext {x : Operand} {X : Opd T} {i : Nat} {ps : List (PV T)} {p : PV T} (ho : o.op = .extract x i) (hx : cOpd x = some X) (h : Rd σ X (.tup ps)) (hp : ps[i]? = some p) : KValid C o σ X.slots p [] [] lo hi := by
  refine kv_pure fun σ' g1 _ γ a w hinv hs => ?_
  have e1 := Rd.rep hs hx g1 h
  simp only [RepP] at e1
  obtain ⟨vs, e1, h2⟩ := e1
  obtain ⟨v, h3, h4⟩ := h2.get hp
  exact ⟨v, by simp [execOp, ho, e1, Instr.extract, h3], h4⟩

/-! ### Numbers -/
theorem run_eqGuard_int {P : Program} (op : BinOp) (t : TypeId) (x y : Operand) (k k' : IntKind) (a b : Int) (w : World) : (eqGuard op t x y (.int k a) (.int k' b)).run P w = .ok () w := by
  unfold eqGuard; cases op <;> simp

theorem beq_dec (a b : Int) : (a == b) = decide (a = b) := by by_cases h : a = b <;> simp [h]

def binP (op : BinOp) (k : IntKind) (a b : Int) : Option (PV T) := binI (X := PV T) op k a b some

theorem binI_inv {X : Type} {r : X} {op : BinOp} {k : IntKind} {a b : Int} {K : PV T → Option X} (h : binI op k a b K = some r) : ∃ p, binP op k a b = some p ∧ K p = some r := by
  cases op <;> simp only [binI, reduceCtorEq] at h <;> first | (split at h; cases h; rename_i hb; exact ⟨_, by simp only [binP, binI, hb], h⟩) | exact ⟨_, rfl, h⟩

theorem kv_bin {op : BinOp} {t t' : TypeId} {x y : Operand} {Xx Yy : Opd T} {k : IntKind} {a b : Int} {p : PV T} (ho : o.op = .binOp op t x y t') (hx : cOpd x = some Xx) (hy : cOpd y = some Yy)
    (h1 : Rd σ Xx (.one (.d (.int k a)))) (h2 : Rd σ Yy (.one (.d (.int k b)))) (hp : binP op k a b = some p) : KValid C o σ (Xx.slots ++ Yy.slots) p [] [] lo hi := by
  refine kv_pure fun σ' g1 _ γ ac w hinv hs => ?_
  have e1 := repI (Rd.rep hs hx (fun j hj => g1 j (left hj)) h1)
  have e2 := repI (Rd.rep hs hy (fun j hj => g1 j (right hj)) h2)
  cases op <;> simp only [binP, binI, Option.some.injEq, reduceCtorEq] at hp
  case quo =>
    split at hp
    · cases hp
    · rename_i hb
      simp only [ieq, decide_eq_false_iff_not] at hb
      cases hp
      exact ⟨_, by simp [execOp, ho, e1, e2, run_eqGuard_int, binOp, Op.intDiv, hb]; rfl, mkI⟩
  case rem =>
    split at hp
    · cases hp
    · rename_i hb
      simp only [ieq, decide_eq_false_iff_not] at hb
      cases hp
      exact ⟨_, by simp [execOp, ho, e1, e2, run_eqGuard_int, binOp, Op.intDiv, hb]; rfl, mkI⟩
  case shr =>
    split at hp
    · cases hp
    · rename_i hb
      simp only [ilt, decide_eq_false_iff_not] at hb
      cases hp
      exact ⟨_, by simp [execOp, ho, e1, e2, run_eqGuard_int, binOp, Op.shift, hb]; rfl, mkI⟩
  case shl =>
    split at hp
    · cases hp
    · rename_i hb
      simp only [ilt, decide_eq_false_iff_not] at hb
      cases hp
      exact ⟨_, by simp [execOp, ho, e1, e2, run_eqGuard_int, binOp, Op.shift, hb]; rfl, mkI⟩
  case and => cases hp; exact ⟨.int k (iand k a b), by simp [execOp, ho, e1, e2, run_eqGuard_int, binOp, Op.intBits, iand], mkI⟩
  case or => cases hp; exact ⟨.int k (ior k a b), by simp [execOp, ho, e1, e2, run_eqGuard_int, binOp, Op.intBits, ior], mkI⟩
  case xor => cases hp; exact ⟨.int k (ixor k a b), by simp [execOp, ho, e1, e2, run_eqGuard_int, binOp, Op.intBits, ixor], mkI⟩
  case andNot => cases hp; exact ⟨.int k (iandn k a b), by simp [execOp, ho, e1, e2, run_eqGuard_int, binOp, Op.intBits, iandn], mkI⟩
  all_goals
    subst hp
    first
      | exact ⟨_, by simp [execOp, ho, e1, e2, run_eqGuard_int, binOp, Op.intArith, Op.intCmp, bne, beq_dec]; rfl, mkI⟩
      | exact ⟨_, by simp [execOp, ho, e1, e2, run_eqGuard_int, binOp, Op.intArith, Op.intCmp, bne, beq_dec]; rfl, mkB⟩

theorem run_eqGuard_bool {P : Program} (op : BinOp) (t : TypeId) (x y : Operand) (a b : Bool) (w : World) : (eqGuard op t x y (.bool a) (.bool b)).run P w = .ok () w := by
  unfold eqGuard; cases op <;> simp

theorem kv_eqb {op : BinOp} {neg : Bool} {t t' : TypeId} {x y : Operand} {Xx Yy : Opd T} {a b : Bool} (ho : o.op = .binOp op t x y t') (hop : op = if neg then .neq else .eql) (hx : cOpd x = some Xx) (hy : cOpd y = some Yy) (hu : C.P.underlying t = some .bool)
    (h1 : Rd σ Xx (.one (.d (.bool a)))) (h2 : Rd σ Yy (.one (.d (.bool b)))) : KValid C o σ (Xx.slots ++ Yy.slots) (bl (if neg then !beqb a b else beqb a b)) [] [] lo hi := by
  refine kv_pure fun σ' g1 _ γ ac w hinv hs => ?_
  have e1 := repB (Rd.rep hs hx (fun j hj => g1 j (left hj)) h1)
  have e2 := repB (Rd.rep hs hy (fun j hj => g1 j (right hj)) h2)
  cases neg <;> simp only [Bool.false_eq_true, if_false, if_true] at hop ⊢ <;> subst hop
  · exact ⟨.bool (a == b), by simp [execOp, ho, e1, e2, run_eqGuard_bool, run_eql_bool _ _ _ _ hu], mkB⟩
  · exact ⟨.bool (!(a == b)), by simp [execOp, ho, e1, e2, run_eqGuard_bool, run_neq_bool _ _ _ _ hu], mkB⟩

theorem kv_not {t : TypeId} {x : Operand} {X : Opd T} {b : Bool} (ho : o.op = .unOp .not t x) (hx : cOpd x = some X) (h : Rd σ X (.one (.d (.bool b)))) : KValid C o σ X.slots (bl (!b)) [] [] lo hi := by
  refine kv_pure fun σ' g1 _ γ ac w hinv hs => ?_
  have e1 := repB (Rd.rep hs hx g1 h)
  exact ⟨.bool (!b), by simp [execOp, ho, e1, Op.unary], mkB⟩

theorem kv_neg {t : TypeId} {x : Operand} {X : Opd T} {k : IntKind} {b : Int} (ho : o.op = .unOp .neg t x) (hx : cOpd x = some X) (h : Rd σ X (.one (.d (.int k b)))) : KValid C o σ X.slots (.one (.d (.int k (isub k 0 b)))) [] [] lo hi := by
  refine kv_pure fun σ' g1 _ γ ac w hinv hs => ?_
  have e1 := repI (Rd.rep hs hx g1 h)
  exact ⟨.int k (k.wrap (0 - b)), by simp [execOp, ho, e1, Op.unary, Op.intArith], mkI⟩

theorem kv_conv {s t : TypeId} {x : Operand} {X : Opd T} {k k' : IntKind} {b : Int} {d : TypeDesc} (ho : o.op = .convert s t x) (hx : cOpd x = some X) (hs' : C.P.underlying s = some d) (hu : C.P.underlying t = some (.int k))
    (h : Rd σ X (.one (.d (.int k' b)))) : KValid C o σ X.slots (.one (.d (.int k (iwrap k b)))) [] [] lo hi := by
  refine kv_pure fun σ' g1 _ γ ac w hinv hs => ?_
  have e1 := repI (Rd.rep hs hx g1 h)
  exact ⟨.int k (k.wrap b), by simp [execOp, ho, e1, convert, run_underlying hs', run_underlying hu, Conv.intToInt], mkI⟩

theorem kv_len {t e : TypeId} {x : Operand} {X : Opd T} {c : CV T} {l : Int} {mrd : List Loc} (ho : o.op = .call { callee := .builtin .len, args := #[x], argTypes := #[t] }) (hx : cOpd x = some X) (hu : C.P.underlying t = some (.slice e))
    (h : Rd σ X (.one c)) (hl : ∀ σ', (∀ l ∈ mrd, look σ' l = look σ l) → ∀ γ a w, Sat C.E C.N γ w a σ' → ∀ v, RepC γ w c v → ∃ A c', v = .slice A l.toNat c' ∧ 0 ≤ l) : KValid C o σ X.slots (i64 l) mrd [] lo hi := by
  refine kv_pure fun σ' g1 g2 γ ac w hinv hs => ?_
  have e1 := Rd.rep hs hx g1 h
  simp only [RepP] at e1
  obtain ⟨A, c', e2, e3⟩ := hl σ' g2 γ ac w hs _ e1
  have e4 : (l.toNat : Int) = l := by omega
  refine ⟨.int .i64 l, ?_, mkI⟩
  simp [execOp, ho, resolve, invoke, builtin, e2, Builtin.len_, run_underlying hu, goInt, e4]

theorem kv_slen {t : TypeId} {x : Operand} {X : Opd T} {s : ByteArray} (ho : o.op = .call { callee := .builtin .len, args := #[x], argTypes := #[t] }) (hx : cOpd x = some X) (hu : C.P.underlying t = some .string)
    (h : Rd σ X (.one (.d (.str s)))) : KValid C o σ X.slots (i64 (slen s)) [] [] lo hi := by
  refine kv_pure fun σ' g1 _ γ ac w hinv hs => ?_
  have e1 := repS (Rd.rep hs hx g1 h)
  refine ⟨.int .i64 s.size, ?_, mkI⟩
  simp [execOp, ho, resolve, invoke, builtin, e1, Builtin.len_, run_underlying hu, goInt]

theorem kv_nilk {x : Operand} {X : Opd T} {c : CV T} (ho : o.op = .nilCheck x) (hx : cOpd x = some X) (h : Rd σ X (.one c)) (hc : match c with | .ref .. | .cur _ | .elm .. | .fn .. => True | _ => False) : KValid C o σ X.slots (.one c) [] [] lo hi := by
  refine kv_pure fun σ' g1 _ γ ac w hinv hs => ?_
  have e1 := Rd.rep hs hx g1 h
  refine ⟨ac.eval x, ?_, e1⟩
  simp only [RepP] at e1
  cases c with
  | ref id off => obtain ⟨b, _, e1⟩ := e1; simp [execOp, ho, e1]
  | cur cs => obtain ⟨b, off, e1, _⟩ := e1; simp [execOp, ho, e1]
  | elm u nm i f => obtain ⟨b, o, l, cap, _, _, _, e1⟩ := e1; simp [execOp, ho, e1]
  | fn f caps => obtain ⟨bs, _, e1⟩ := e1; simp [execOp, ho, e1]
  | _ => exact hc.elim
end
end Go.G
namespace Go.G
variable {T : Uni}
section
mutual
def kinds (P : Program) : Nat → TypeId → Option (List K1)
  | 0, _ => none
  | d + 1, t => match P.underlying t with
    | some (.int _) => if tySz P t = some 1 then some [.i] else none
    | some .bool => if tySz P t = some 1 then some [.b] else none
    | some (.struct fs) => if P.stoodInHeld t then none else kindsF P d fs.toList 0
    | some (.array n e) => match kinds P d e with
      | some ks => if tySz P e = some ks.length then some (List.replicate n ks).flatten else none
      | none => none
    | _ => none
def kindsF (P : Program) : Nat → List Field → Nat → Option (List K1)
  | _, [], _ => some []
  | 0, _ :: _, _ => none
  | d + 1, f :: fs, off => if f.offset = off ∧ f.name ≠ "_" then match kinds P d f.type with
      | some ks => if tySz P f.type = some ks.length then match kindsF P d fs (off + ks.length) with
          | some r => some (ks ++ r)
          | none => none
        else none
      | none => none
    else none
end

theorem ceqs_cons {k : K1} {ks : List K1} {c d : CV T} {cs ds : List (CV T)} {r : Bool} (h : ceqs (k :: ks) (c :: cs) (d :: ds) = some r) : ∃ a b, ceq k c d = some a ∧ ceqs ks cs ds = some b ∧ r = (a && b) := by
  simp only [ceqs] at h
  split at h
  · rename_i a b h4 h5
    cases h
    exact ⟨a, b, h4, h5, rfl⟩
  · cases h

theorem ceqs_split : ∀ {ks ks' : List K1} {cs ds : List (CV T)} {r : Bool}, ceqs (ks ++ ks') cs ds = some r → ∃ a b, ceqs ks (cs.take ks.length) (ds.take ks.length) = some a ∧ ceqs ks' (cs.drop ks.length) (ds.drop ks.length) = some b ∧ r = (a && b)
  | [], ks', cs, ds, r, h => ⟨true, r, rfl, by simpa using h, by simp⟩
  | k :: ks, ks', [], _, r, h => by simp [ceqs] at h
  | k :: ks, ks', _ :: _, [], r, h => by simp [ceqs] at h
  | k :: ks, ks', c :: cs, d :: ds, r, h => by
    rw [List.cons_append] at h
    obtain ⟨a, b, h1, h2, rfl⟩ := ceqs_cons h
    obtain ⟨a', b', h3, h4, rfl⟩ := ceqs_split h2
    refine ⟨a && a', b', ?_, by simpa using h4, by simp [Bool.and_assoc]⟩
    simp only [List.length_cons, List.take_succ_cons, ceqs, h1, h3]

theorem flatLen {α : Type} (k : Nat) (l : List α) : (List.replicate k l).flatten.length = k * l.length := by
  induction k with
  | zero => simp
  | succ k ih => rw [List.replicate_succ, List.flatten_cons, List.length_append, ih, Nat.add_mul]; omega

theorem ceqs_len : ∀ {ks : List K1} {cs ds : List (CV T)} {r : Bool}, ceqs ks cs ds = some r → cs.length = ks.length ∧ ds.length = ks.length
  | [], [], [], _, _ => ⟨rfl, rfl⟩
  | [], _ :: _, _, _, h => by simp [ceqs] at h
  | [], [], _ :: _, _, h => by simp [ceqs] at h
  | _ :: _, [], _, _, h => by simp [ceqs] at h
  | _ :: _, _ :: _, [], _, h => by simp [ceqs] at h
  | k :: ks, c :: cs, d :: ds, r, h => by
    obtain ⟨a, b, _, h2, _⟩ := ceqs_cons h
    have := ceqs_len h2
    simp [this]

theorem run_part_mk {P : Program} {t : TypeId} {ag : Bool} {m : Nat} (ha : tyAg P t = some ag) (hm : tySz P t = some m) (h1 : ag = false → m = 1) (vs : List Value) (off : Nat) (hl : off + m ≤ vs.length) (w : World) :
    (part t vs.toArray off).run P w = .ok (mkV ag ((vs.drop off).take m)) w := by
  rw [run_part ha hm]
  cases ag with
  | true => simp [mkV]
  | false =>
    have hm1 := h1 rfl
    subst hm1
    have hlt : off < vs.length := by omega
    simp only [Bool.false_eq_true, if_false, List.getElem?_eq_getElem hlt, mkV]
    congr 1
    simp [List.getD, List.getElem?_drop, hlt]

/-- Whether a type's value is written as an aggregate, along with its kinds. -/
theorem kinds_ag {P : Program} {d : Nat} {t : TypeId} {ks : List K1} (h : kinds P d t = some ks) : ∃ ag, tyAg P t = some ag ∧ (ag = false → ks.length = 1) := by
  cases d with
  | zero => simp [kinds] at h
  | succ d =>
    unfold kinds at h
    unfold tyAg
    cases hu : P.underlying t with
    | none => simp [hu] at h
    | some x =>
      cases x <;> simp only [hu] at h <;> first | (cases h; done) | skip
      case bool => split at h <;> cases h; exact ⟨false, rfl, fun _ => rfl⟩
      case int => split at h <;> cases h; exact ⟨false, rfl, fun _ => rfl⟩
      case array => exact ⟨true, rfl, fun h => by cases h⟩
      case struct => exact ⟨true, rfl, fun h => by cases h⟩

theorem same_eq {k k' : IntKind} (h : IntKind.same k k' = true) : k = k' := by
  cases k <;> cases k' <;> first | rfl | (exact absurd h (by decide))

mutual
theorem kinds_eq {P : Program} (γ : Gh) (w : World) : ∀ (d : Nat) (t : TypeId) (ks : List K1) (cs ds : List (CV T)) (xs ys : List Value) (r : Bool) (ag : Bool) (dd : Nat), kinds P d t = some ks → tyAg P t = some ag → d ≤ dd → RepCs γ w cs xs → RepCs γ w ds ys → ceqs ks cs ds = some r →
    (Op.equalIn dd t (mkV ag xs) (mkV ag ys)).run P w = .ok r w
  | 0, t, ks, cs, ds, xs, ys, r, ag, dd, h, _, _, _, _, _ => by simp [kinds] at h
  | d + 1, t, ks, cs, ds, xs, ys, r, ag, 0, h, ha, hd, hx, hy, he => by omega
  | d + 1, t, ks, cs, ds, xs, ys, r, ag, dd + 1, h, ha, hd, hx, hy, he => by
    unfold kinds at h
    unfold tyAg at ha
    have hxl := hx.length
    have hyl := hy.length
    obtain ⟨hcl, hdl⟩ := ceqs_len he
    cases hu : P.underlying t with
    | none => simp [hu] at h
    | some x =>
      cases x <;> simp only [hu] at h ha <;> first | (cases h; done) | skip
      case int k0 =>
        split at h <;> cases h
        cases ha
        match cs, ds, xs, ys, hx, hy, he with
        | [c], [d'], [x], [y], hx, hy, he =>
          obtain ⟨a0, b0, he1, hb0, rfl⟩ := ceqs_cons he
          simp only [ceqs, Option.some.injEq] at hb0
          subst hb0
          rw [Bool.and_true]
          unfold ceq at he1
          split at he1
          · rename_i X Y
            unfold deq1 at he1
            split at he1
            · rename_i k a k' b heq
              split at he1
              · rename_i hk
                have hk := same_eq hk
                subst hk
                cases he1
                have e1 := RepD.int_iff.1 hx.1; have e2 := RepD.int_iff.1 hy.1
                subst e1; subst e2
                simp [mkV, run_equalIn_int _ dd t k k0 a b hu, beq_dec, ieq]
              · cases he1
            · rename_i heq; cases heq
            · cases he1
          · cases he1
        | [], _, _, _, _, _, _ => simp at hcl
        | _ :: _ :: _, _, _, _, _, _, _ => simp at hcl
      case bool =>
        split at h <;> cases h
        cases ha
        match cs, ds, xs, ys, hx, hy, he with
        | [c], [d'], [x], [y], hx, hy, he =>
          obtain ⟨a0, b0, he1, hb0, rfl⟩ := ceqs_cons he
          simp only [ceqs, Option.some.injEq] at hb0
          subst hb0
          rw [Bool.and_true]
          unfold ceq at he1
          split at he1
          · unfold deq1 at he1
            split at he1
            · rename_i heq; cases heq
            · cases he1
              have e1 := RepD.bool_iff.1 hx.1; have e2 := RepD.bool_iff.1 hy.1
              subst e1; subst e2
              simp [mkV, run_equalIn_bool' _ dd t _ _ hu, beqb]
            · cases he1
          · cases he1
        | [], _, _, _, _, _, _ => simp at hcl
        | _ :: _ :: _, _, _, _, _, _, _ => simp at hcl
      case struct fs =>
        cases ha
        split at h
        · cases h
        · rename_i hst
          simp only [mkV, if_true]
          have hf : P.fieldsOf t = fs := by simp [Program.fieldsOf, hu]
          rw [run_equalIn_struct (P := P) w dd t _ _ (by rw [hf]; exact hu) (by simpa using hst), hf]
          exact kindsF_eq γ w d fs.toList 0 ks cs ds xs ys r dd h (by omega) hx hy (by simpa using he) (by omega) (by omega)
      case array n e =>
        cases ha
        split at h
        · rename_i ks' hks
          split at h
          · rename_i hsz
            cases h
            obtain ⟨i, hi, hii⟩ : ∃ i, P.info? e = some i ∧ i.size = ks'.length := by
              unfold tySz at hsz
              cases hi : P.info? e with
              | none => simp [hi] at hsz
              | some i => simp [hi] at hsz; exact ⟨i, rfl, hsz⟩
            have hce : P.cellsOf e = ks'.length := by simp [Program.cellsOf, hi, hii]
            obtain ⟨ag, ha, h1⟩ := kinds_ag hks
            simp only [mkV, if_true]
            rw [run_equalIn_array w dd _ _ hu hi, hce]
            -- the items one after the other
            have key : ∀ (k j : Nat) (r : Bool), ceqs (List.replicate k ks').flatten (cs.drop (j * ks'.length)) (ds.drop (j * ks'.length)) = some r → j + k = n →
                (Op.eqItems dd e ks'.length xs.toArray ys.toArray (List.range' j k)).run P w = .ok r w := by
              intro k
              induction k with
              | zero =>
                intro j r hr _
                have hr2 := ceqs_len hr
                rw [flatLen, Nat.zero_mul] at hr2
                have e1 : cs.drop (j * ks'.length) = [] := List.eq_nil_of_length_eq_zero hr2.1
                have e2 : ds.drop (j * ks'.length) = [] := List.eq_nil_of_length_eq_zero hr2.2
                rw [e1, e2] at hr
                simp [ceqs] at hr
                subst hr
                simp [Op.eqItems]
              | succ k ih =>
                intro j r hr hjk
                have hlen := ceqs_len hr
                simp only [List.replicate_succ, List.flatten_cons] at hr
                obtain ⟨a, b, h3, h4, rfl⟩ := ceqs_split hr
                have hlx : j * ks'.length + ks'.length ≤ xs.length ∨ ks'.length = 0 := by
                  have h7 := hlen.1
                  rw [flatLen, List.length_drop] at h7
                  rw [← hxl]
                  have h8 : (k + 1) * ks'.length = k * ks'.length + ks'.length := by rw [Nat.add_mul]; omega
                  omega
                have hly : j * ks'.length + ks'.length ≤ ys.length ∨ ks'.length = 0 := by
                  have h7 := hlen.2
                  rw [flatLen, List.length_drop] at h7
                  rw [← hyl]
                  have h8 : (k + 1) * ks'.length = k * ks'.length + ks'.length := by rw [Nat.add_mul]; omega
                  omega
                have hlx' : j * ks'.length + ks'.length ≤ xs.length := by
                  rcases hlx with h | h
                  · exact h
                  · rw [h]; simp
                have hly' : j * ks'.length + ks'.length ≤ ys.length := by
                  rcases hly with h | h
                  · exact h
                  · rw [h]; simp
                have p1 := run_part_mk ha hsz h1 xs (j * ks'.length) hlx' w
                have p2 := run_part_mk ha hsz h1 ys (j * ks'.length) hly' w
                have p3 := kinds_eq γ w d e ks' _ _ _ _ a ag dd hks ha (by omega) ((hx.drop (j * ks'.length)).take ks'.length) ((hy.drop (j * ks'.length)).take ks'.length) h3
                rw [List.drop_drop, List.drop_drop] at h4
                have := ih (j + 1) b (by rw [Nat.add_mul, Nat.one_mul]; exact h4) (by omega)
                simp only [List.range'_succ, Op.eqItems, Sem.run_bind, p1, p2, p3, Result.andThen_ok]
                cases a
                · simp
                · simpa using this
            have := key n 0 r (by simpa using he) (by omega)
            rw [List.range_eq_range']
            exact this
          · cases h
        · cases h
theorem kindsF_eq {P : Program} (γ : Gh) (w : World) : ∀ (d : Nat) (fs : List Field) (off : Nat) (ks : List K1) (cs ds : List (CV T)) (xs ys : List Value) (r : Bool) (dd : Nat), kindsF P d fs off = some ks → d ≤ dd → RepCs γ w cs xs → RepCs γ w ds ys →
    ceqs ks (cs.drop off) (ds.drop off) = some r → off + ks.length ≤ cs.length → off + ks.length ≤ ds.length → (Op.eqFields dd xs.toArray ys.toArray fs).run P w = .ok r w
  | d, [], off, ks, cs, ds, xs, ys, r, dd, h, _, _, _, he, _, _ => by
    have hk : ks = [] := by cases d <;> (unfold kindsF at h; cases h; rfl)
    subst hk
    have hr : r = true := by
      have := ceqs_len he
      have e1 : cs.drop off = [] := List.eq_nil_of_length_eq_zero (by simpa using this.1)
      have e2 : ds.drop off = [] := List.eq_nil_of_length_eq_zero (by simpa using this.2)
      rw [e1, e2] at he
      simpa [ceqs] using he.symm
    subst hr
    simp [Op.eqFields]
  | 0, _ :: _, off, ks, cs, ds, xs, ys, r, dd, h, _, _, _, he, _, _ => by simp [kindsF] at h
  | d + 1, f :: fs, off, ks, cs, ds, xs, ys, r, 0, h, hd, _, _, he, _, _ => by omega
  | d + 1, f :: fs, off, ks, cs, ds, xs, ys, r, dd + 1, h, hd, hx, hy, he, hl1, hl2 => by
    unfold kindsF at h
    split at h
    · rename_i hcond
      obtain ⟨hoff, hname⟩ := hcond
      split at h
      · rename_i ks' hks
        split at h
        · rename_i hsz
          split at h
          · rename_i rest hrest
            cases h
            obtain ⟨ag, ha, h1⟩ := kinds_ag hks
            obtain ⟨a, b, h3, h4, rfl⟩ := ceqs_split he
            have hxl := hx.length
            have hyl := hy.length
            simp only [List.length_append] at hl1 hl2
            have p1 := run_part_mk ha hsz h1 xs off (by omega) w
            have p2 := run_part_mk ha hsz h1 ys off (by omega) w
            have p3 := kinds_eq γ w d f.type ks' _ _ _ _ a ag (dd + 1) hks ha (by omega) ((hx.drop off).take ks'.length) ((hy.drop off).take ks'.length) h3
            rw [List.drop_drop, List.drop_drop] at h4
            have ih := kindsF_eq γ w d fs (off + ks'.length) rest cs ds xs ys b (dd + 1) hrest (by omega) hx hy h4 (by omega) (by omega)
            simp only [Op.eqFields, hname, hoff, ne_eq, not_false_eq_true, if_true, Sem.run_bind, p1, p2, p3, Result.andThen_ok]
            cases a
            · simp
            · simpa using ih
          · cases h
        · cases h
      · cases h
    · cases h
end
end
end Go.G
namespace Go.G
variable {T : Uni}
section
variable {C : Ctx} {o : Oper} {σ : St T} {lo hi : Nat}

theorem kv_eqa {op : BinOp} {neg : Bool} {t t' : TypeId} {x y : Operand} {Xx Yy : Opd T} {ks : List K1} {cs ds : List (CV T)} {r : Bool} (ho : o.op = .binOp op t x y t') (hop : op = if neg then .neq else .eql) (hx : cOpd x = some Xx) (hy : cOpd y = some Yy)
    (ha : tyAg C.P t = some true) (hg : C.P.eqGuardType C.P.depth t = false) (hk : kinds C.P 50 t = some ks) (h1 : Rd σ Xx (.agg cs)) (h2 : Rd σ Yy (.agg ds)) (he : ceqs ks cs ds = some r) :
    KValid C o σ (Xx.slots ++ Yy.slots) (bl (if neg then !r else r)) [] [] lo hi := by
  refine kv_pure fun σ' g1 _ γ ac w hinv hs => ?_
  have e1 := Rd.rep hs hx (fun j hj => g1 j (left hj)) h1
  have e2 := Rd.rep hs hy (fun j hj => g1 j (right hj)) h2
  simp only [RepP] at e1 e2
  obtain ⟨xs, e1, r1⟩ := e1
  obtain ⟨ys, e2, r2⟩ := e2
  have key := kinds_eq (P := C.P) γ w 50 t ks cs ds xs ys r true 10000 hk ha (by omega) r1 r2 he
  simp only [mkV, if_true] at key
  cases neg <;> simp only [Bool.false_eq_true, if_false, if_true] at hop ⊢ <;> subst hop
  · exact ⟨.bool r, by simp [execOp, ho, e1, e2, run_eqGuard_agg, hg, run_eql_struct, key], mkB⟩
  · exact ⟨.bool (!r), by simp [execOp, ho, e1, e2, run_eqGuard_agg, hg, run_neq_struct, key], mkB⟩

/-! ### Stores -/
theorem cell_setRow_other (w : World) (b : Nat) (cs : Array Value) (a : Addr) (h : a.block ≠ b) : (w.setRow b cs).cell? a = w.cell? a := by
  unfold World.cell?
  rw [setRow_other _ _ _ _ h]

theorem Evo.setRow {γ : Gh} {w : World} {b nm : Nat} {cs cs' : Array Value} {t : TypeId} (hb : w.heap[b]? = some (.cells cs t (0, 0))) (ho : γ.own b = some nm)
    (hlow : ∀ i, i < γ.imm b → cs'[i]? = cs[i]?) : Evo (fun n => n = nm) γ w γ (w.setRow b cs') where
  size := by rw [setRow_size]; exact Nat.le_refl _
  mono := fun _ _ => Nat.le_refl _
  low := fun k i hk hi => by
    by_cases hkb : k = b
    · subst hkb
      rw [cell_setRow_same _ _ _ _ _ _ _ hb, hlow i hi]
      simp [World.cell?, hb]
    · exact cell_setRow_other _ _ _ _ hkb
  os := rfl
  tape := rfl
  output := rfl
  same := fun k hk hx => by
    have hkb : k ≠ b := by rintro rfl; exact hx nm ho rfl
    exact ⟨setRow_other _ _ _ _ hkb, rfl, rfl⟩
  bt := fun _ _ h => h

theorem kv_store_ref {t : TypeId} {x y : Operand} {Xx Yy : Opd T} {m : Nat} {nm off : Nat} {q : PV T} {new cs : List (CV T)} (ho : o.op = .store t x y) (hd : o.dst = none) (hx : cOpd x = some Xx) (hy : cOpd y = some Yy) (hm : tySz C.P t = some m)
    (h1 : Rd σ Xx (.one (.ref nm off))) (h2 : Rd σ Yy q) (hq : pcells q = some new) (hl : new.length = m) (hb : look σ (.h nm) = some (.b cs)) (hlen : off + m ≤ cs.length) :
    KValid C o σ (Xx.slots ++ Yy.slots) .junk [.h nm] [(.h nm, some (.b (cs.take off ++ new ++ cs.drop (off + m))))] lo lo := by
  intro σ' g1 g2 γ a w hi hs _ Q
  have e1 := Rd.rep hs hx (fun j hj => g1 j (left hj)) h1
  have e2 := Rd.rep hs hy (fun j hj => g1 j (right hj)) h2
  have e3 := pcells_rep hq e2
  simp only [RepP, RepC] at e1
  obtain ⟨b, hbox, e1⟩ := e1
  have hlk := (g2 _ (by simp)).trans hb
  obtain ⟨b', vs, ty, h3, h3o, h3i, hblt, h4, h5⟩ := hs.facts (.h nm) (.b cs) hlk
  rw [hbox] at h3; cases h3
  have hcl : cs.length = vs.size := by have := h5.length; simpa using this
  have hnl : (a.eval y).cells.size = m := by have := e3.length; simp at this; omega
  have hst := run_storeCells_at C.P b off ty (a.eval y).cells.toList 0 vs w h4 (by simp; omega) e3.one
  have hln : (a.eval y).cells.toList.length = m := by simpa using hnl
  simp only [Nat.add_zero, hln] at hst
  have hrun : (Instr.storeAt t (a.eval x) (a.eval y)).run C.P w = .ok () (w.setRow b (vs.toList.take off ++ (a.eval y).cells.toList ++ vs.toList.drop (off + m)).toArray) := by
    rw [e1]
    simp only [Instr.storeAt, Instr.sureAddr, Sem.run_bind, Sem.run_pure, Result.andThen_ok, storeVar, run_sizeOf hm, Sem.run_ite, hnl, ne_eq, not_true_eq_false, if_false, hst]
  have hE : Evo (fun n => n = nm) γ w γ (w.setRow b (vs.toList.take off ++ (a.eval y).cells.toList ++ vs.toList.drop (off + m)).toArray) := Evo.setRow h4 h3o fun i hi => by omega
  unfold Oper.wp execOp
  simp only [ho, Sem.run_bind, hrun, Result.andThen_ok, Sem.run_pure, Oper.upon_skip]
  refine ⟨γ, undef, fun n => n = nm, rfl, (by intro d hd'; rw [hd] at hd'; cases hd'), hE, fun n hn => ?_, fun l f hm' => ?_, fun _ _ => rfl, fun _ _ h => .inr h, fun k hk => hi.ok k (by rw [setRow_size] at hk; exact hk), .refl _ _ _⟩
  · subst hn
    exact ⟨hs.perm _ _ hlk, by simp [locs]⟩
  · simp only [List.mem_singleton, Prod.mk.injEq, Option.some.injEq] at hm'
    obtain ⟨rfl, rfl⟩ := hm'
    refine ⟨nm, rfl, hs.perm _ _ hlk, fun tm => ⟨b, _, ty, hbox, h3o, h3i, by rw [setRow_size]; exact hblt, setRow_heap _ _ _ _ _ _ h4, ?_⟩⟩
    exact RepCs.evo hE (((h5.take off).append e3).append (h5.drop (off + m)))

/-! ### Rows -/
theorem RowsAt.values {imm : Nat → Nat} {w : World} {b : Nat} {u : T.U} : ∀ {l : List (T.El u)} {off : Nat}, RowsAt imm w b off u l → ∃ vs : List Value, vs.length = l.length * T.size u ∧ (∀ (j : Nat) (v : Value), vs[j]? = some v → w.cell? ⟨b, off + j, none⟩ = some v) ∧ RepDs imm w (l.flatMap (T.enc u)) vs
  | [], off, _ => ⟨[], by simp, by simp, trivial⟩
  | x :: xs, off, h => by
    have h0 := h 0 x rfl
    simp only [Nat.zero_mul, Nat.add_zero] at h0
    obtain ⟨vs1, k1, k2, k3⟩ := h0.values
    obtain ⟨vs2, m1, m2, m3⟩ := RowsAt.values (l := xs) (off := off + T.size u) fun i a ha => by
      have := h (i + 1) a (by simpa using ha)
      rw [show off + T.size u + i * T.size u = off + (i + 1) * T.size u by rw [Nat.add_mul]; omega]
      exact this
    rw [T.enc_len] at k1
    refine ⟨vs1 ++ vs2, by simp [k1, m1, Nat.add_mul, Nat.add_comm], fun j v hj => ?_, by rw [List.flatMap_cons]; exact k3.append m3⟩
    by_cases hlt : j < vs1.length
    · rw [List.getElem?_append_left hlt] at hj
      exact k2 j v hj
    · rw [List.getElem?_append_right (by omega)] at hj
      have := m2 _ v hj
      rw [k1, show off + T.size u + (j - T.size u) = off + j by rw [k1] at hlt; omega] at this
      exact this

theorem RepDs.split {imm : Nat → Nat} {w : World} : ∀ {xs ys : List (DV T.toSig)} {vs : List Value}, RepDs imm w (xs ++ ys) vs → RepDs imm w xs (vs.take xs.length) ∧ RepDs imm w ys (vs.drop xs.length)
  | [], ys, vs, h => ⟨by simp [RepDs], by simpa using h⟩
  | x :: xs, ys, v :: vs, h => by
    have := RepDs.split (xs := xs) h.2
    exact ⟨⟨h.1, this.1⟩, by simpa using this.2⟩
  | _ :: _, _, [], h => h.elim

theorem RowsAt.of {imm : Nat → Nat} {w : World} {b : Nat} {u : T.U} : ∀ {l : List (T.El u)} {off : Nat} {vs : List Value}, RepDs imm w (l.flatMap (T.enc u)) vs → (∀ (j : Nat) (v : Value), vs[j]? = some v → w.cell? ⟨b, off + j, none⟩ = some v) → RowsAt imm w b off u l
  | [], _, _, _, _ => fun i a ha => by simp at ha
  | x :: xs, off, vs, h, hc => by
    rw [List.flatMap_cons] at h
    obtain ⟨h1, h2⟩ := h.split
    have he := T.enc_len u x
    have ih := RowsAt.of (l := xs) (off := off + T.size u) h2 fun j v hj => by
      rw [List.getElem?_drop, he] at hj
      rw [show off + T.size u + j = off + (T.size u + j) by omega]
      exact hc _ v hj
    intro i a ha
    cases i with
    | zero =>
      simp at ha
      subst ha
      simp only [Nat.zero_mul, Nat.add_zero]
      refine RowAt.of h1 fun j v hj => hc j v ?_
      rw [List.getElem?_take] at hj
      split at hj
      · exact hj
      · cases hj
    | succ i =>
      have := ih i a (by simpa using ha)
      rw [show off + T.size u + i * T.size u = off + (i + 1) * T.size u by rw [Nat.add_mul]; omega] at this
      exact this

theorem RowsAt.evo {imm imm' : Nat → Nat} {w w' : World} (E : DEvo imm w imm' w') {b off : Nat} {u : T.U} {l : List (T.El u)} (hb : b < w.heap.size) (hi : off + l.length * T.size u ≤ imm b) (h : RowsAt imm w b off u l) : RowsAt imm' w' b off u l := by
  intro i a ha
  refine (h i a ha).evo E hb ?_
  rw [T.enc_len]
  have : (i + 1) * T.size u ≤ l.length * T.size u := Nat.mul_le_mul_right _ (getElem?_lt ha)
  rw [Nat.add_mul] at this
  omega

theorem RowsAt.same {γ γ' : Gh} {w w' : World} (E : DEvo γ.imm w γ'.imm w') {b off : Nat} {u : T.U} {l : List (T.El u)} (hs : w'.heap[b]? = w.heap[b]?) (h : RowsAt γ.imm w b off u l) : RowsAt γ'.imm w' b off u l :=
  fun i a ha => (h i a ha).same E hs

/-! ### Freezing -/
theorem RowOK.frozen {γ : Gh} {w : World} {nm : Nat} {u : T.U} {l : List (T.El u)} {fz : Bool} {A : Option Addr} {cap : Nat} (h : RowOK γ w nm u l fz A cap) : RowOK γ w nm u l true A cap := by
  rcases h with h | ⟨b, off, c, t, e1, e2, e3, e4, e5, e6, e7⟩
  · exact .inl h
  · refine .inr ⟨b, off, c, t, e1, e2, e3, e4, e5, ?_, e7⟩
    simp only [if_true]
    split at e6 <;> omega

theorem FactOK.frozen {γ : Gh} {w : World} {tm : Nat → Value} {nm : Nat} {u : T.U} {l : List (T.El u)} {fz : Bool} (h : FactOK γ w tm (.h nm) (.r u l fz)) : FactOK γ w tm (.h nm) (.r u l true) := by
  obtain ⟨A, cap, h1, h2, h3⟩ := h
  exact ⟨A, cap, h1, h2, h3.frozen⟩

theorem freeze_one {γ : Gh} {w : World} {tm : Nat → Value} {nm : Nat} {u : T.U} {l : List (T.El u)} (h : FactOK γ w tm (.h nm) (.r u l true)) :
    ∃ γ', γ'.bt = γ.bt ∧ γ'.own = γ.own ∧ Evo (fun n => n = nm) γ w γ' w ∧ FactOK γ' w tm (.h nm) (.r u l true) ∧ (∀ A len cap, γ.bt nm = some (.row A len cap) → len = l.length ∧ RepD T γ'.imm w (.sl u l) (.slice A len cap)) := by
  obtain ⟨A, cap, h1, h2, h3⟩ := h
  rcases h3 with ⟨h3, h4⟩ | ⟨b, off, c, t, e1, e2, e3, e4, e5, e6, e7⟩
  · refine ⟨γ, rfl, rfl, .refl _ _ _, ⟨A, cap, h1, h2, .inl ⟨h3, h4⟩⟩, fun A' len cap' hb => ?_⟩
    rw [h1] at hb; cases hb
    subst h4
    exact ⟨rfl, .nil _ _ _⟩
  · simp only [if_true] at e6
    let γ' : Gh := { γ with imm := fun k => if k = b then off + l.length * T.size u else γ.imm k }
    have ev : Evo (fun n => n = nm) γ w γ' w := {
      size := Nat.le_refl _
      mono := fun k _ => by
        show γ.imm k ≤ if k = b then _ else _
        split
        · rename_i hk; subst hk; exact e6
        · exact Nat.le_refl _
      low := fun _ _ _ _ => rfl
      os := rfl, tape := rfl, output := rfl
      same := fun k _ hx => by
        have hkb : k ≠ b := by rintro rfl; exact hx nm e2 rfl
        exact ⟨rfl, rfl, by show (if k = b then _ else _) = _; rw [if_neg hkb]⟩
      bt := fun _ _ h => h }
    have e7' : RowsAt γ'.imm w b off u l := e7.same ev.toDEvo rfl
    have him : γ'.imm b = off + l.length * T.size u := by show (if b = b then _ else _) = _; rw [if_pos rfl]
    refine ⟨γ', rfl, rfl, ev, ⟨A, cap, h1, h2, .inr ⟨b, off, c, t, e1, e2, e3, e4, e5, by rw [him]; simp, e7'⟩⟩, fun A' len cap' hb => ?_⟩
    rw [h1] at hb; cases hb
    exact ⟨rfl, RepD.sl_iff.2 ⟨A, cap, rfl, h2, .inr ⟨b, off, e1, e3, by rw [him]; exact Nat.le_refl _, e7'⟩⟩⟩

theorem RepD.sub {imm : Nat → Nat} {w : World} {u : T.U} {l : List (T.El u)} {A : Option Addr} {len cap : Nat} {a b : Nat} (hr : RepD T imm w (.sl u l) (.slice A len cap)) (h1 : a ≤ b) (h2 : b ≤ l.length) {A' : Option Addr} (hA : a < cap → A' = A.map (·.add (a * T.size u))) :
    RepD T imm w (.sl u ((l.take b).drop a)) (.slice A' (b - a) (cap - a)) := by
  obtain ⟨A0, cap0, e, hc, hr2⟩ := RepD.sl_iff.1 hr
  clear hr
  cases e
  have hlen : ((l.take b).drop a).length = b - a := by simp; omega
  refine RepD.sl_iff.2 ⟨A', cap - a, by rw [hlen], by rw [hlen]; omega, ?_⟩
  by_cases he : b - a = 0
  · exact .inl (List.eq_nil_of_length_eq_zero (by rw [hlen]; exact he))
  · rcases hr2 with hr | ⟨bb, off, rfl, hb, hs, hr⟩
    · subst hr; simp at h2; omega
    · refine .inr ⟨bb, off + a * T.size u, by rw [hA (by omega)]; simp [addr_add], hb, ?_, fun i x hx => ?_⟩
      · rw [hlen]
        have : (a + (b - a)) * T.size u ≤ l.length * T.size u := Nat.mul_le_mul_right _ (by omega)
        rw [Nat.add_mul] at this
        omega
      · rw [List.getElem?_drop, List.getElem?_take] at hx
        split at hx
        · have := hr _ _ hx
          rw [show off + a * T.size u + i * T.size u = off + (a + i) * T.size u by rw [Nat.add_mul]; omega]
          exact this
        · cases hx

theorem dsub_some {α : Type} {l l' : List α} {a b : Int} (h : dsub l a b = some l') : 0 ≤ a ∧ a ≤ b ∧ b ≤ l.length ∧ l' = (l.take b.toNat).drop a.toNat := by
  unfold dsub at h
  split at h
  · rename_i hh; cases h; exact ⟨hh.1, hh.2.1, hh.2.2, rfl⟩
  · cases h

/-- The rows that a state knows, as rows that may be frozen. -/
def RowsOK (σ : St T) (γ : Gh) (w : World) (S : List Nat) : Prop := ∀ nm ∈ S, ∀ u l fz, look σ (.h nm) = some (.r u l fz) → FactOK γ w (fun _ => undef) (.h nm) (.r u l true)

theorem RowsOK.of_sat {E : Entry} {N : Nat} {γ : Gh} {w : World} {a : Act} {σ σ' : St T} (hs : Sat E N γ w a σ') {S : List Nat} (hl : ∀ nm ∈ S, look σ' (.h nm) = look σ (.h nm)) : RowsOK σ γ w S :=
  fun nm hm u l fz hlk => ((hs.facts (.h nm) (.r u l fz) ((hl nm hm).trans hlk)).frozen).mem (by simp)

theorem RowsOK.evo {σ : St T} {γ γ' : Gh} {w w' : World} {X : Nat → Prop} {S : List Nat} (h : RowsOK σ γ w S) (ev : Evo X γ w γ' w') (hx : ∀ nm ∈ S, X nm → ∀ u l fz, look σ (.h nm) = some (.r u l fz) → FactOK γ' w' (fun _ => undef) (.h nm) (.r u l true)) : RowsOK σ γ' w' S := by
  intro nm hm u l fz hlk
  rcases Classical.em (X nm) with h' | h'
  · exact hx nm hm h' u l fz hlk
  · exact (h nm hm u l fz hlk).evo ev (fun n e => by cases e; exact h') (fun _ _ => rfl)

theorem cvD_rep {γ : Gh} {w : World} {sh : Option T.U} {c : CV T} {x : DV T.toSig} {fs S : List Nat} {v : Value} (hc : cvD σ sh c = some (x, fs)) (H : RowsOK σ γ w S) (hS : ∀ nm ∈ fs, nm ∈ S) (hr : RepC γ w c v) :
    ∃ γ', γ'.bt = γ.bt ∧ γ'.own = γ.own ∧ Evo (fun n => n ∈ fs) γ w γ' w ∧ RepD T γ'.imm w x v ∧ RowsOK σ γ' w S := by
  have pure : ∀ {x : DV T.toSig}, fs = [] → RepD T γ.imm w x v → ∃ γ', γ'.bt = γ.bt ∧ γ'.own = γ.own ∧ Evo (fun n => n ∈ fs) γ w γ' w ∧ RepD T γ'.imm w x v ∧ RowsOK σ γ' w S := fun _ h => ⟨γ, rfl, rfl, .refl _ _ _, h, H⟩
  have row : ∀ {nm : Nat} {u : T.U} {l : List (T.El u)} {fz : Bool}, fs = [nm] → look σ (.h nm) = some (.r u l fz) →
      ∃ γ', γ'.bt = γ.bt ∧ γ'.own = γ.own ∧ Evo (fun n => n ∈ fs) γ w γ' w ∧ (∀ A len cap, γ.bt nm = some (.row A len cap) → len = l.length ∧ RepD T γ'.imm w (.sl u l) (.slice A len cap)) ∧ RowsOK σ γ' w S := by
    intro nm u l fz hfs hlk
    subst hfs
    obtain ⟨γ', h1, h2, h3, h4, h5⟩ := freeze_one (H nm (hS nm (by simp)) u l fz hlk)
    refine ⟨γ', h1, h2, h3.weaken (by simp), h5, H.evo h3 fun nm' hm hx u' l' fz' hlk' => ?_⟩
    subst hx
    rw [hlk] at hlk'
    cases hlk'
    exact h4
  cases c with
  | d y => simp only [cvD, Option.some.injEq, Prod.mk.injEq] at hc; obtain ⟨rfl, rfl⟩ := hc; exact pure rfl hr
  | nl =>
    cases sh with
    | none => simp [cvD] at hc
    | some u =>
      simp only [cvD, Option.some.injEq, Prod.mk.injEq] at hc
      obtain ⟨rfl, rfl⟩ := hc
      obtain ⟨A, rfl⟩ := hr
      exact pure rfl (.nil _ _ _)
  | own u0 nm =>
    simp only [cvD] at hc
    split at hc
    · rename_i u l fz hlk
      simp only [Option.some.injEq, Prod.mk.injEq] at hc
      obtain ⟨rfl, rfl⟩ := hc
      obtain ⟨γ', h1, h2, h3, h4, h5⟩ := row rfl hlk
      obtain ⟨A, len, cap, k1, rfl⟩ := hr
      exact ⟨γ', h1, h2, h3, (h4 A len cap k1).2, h5⟩
    · cases hc
  | buf u0 nm off len =>
    simp only [cvD] at hc
    split at hc
    · rename_i u l fz hlk
      split at hc
      · rename_i hu _
        simp only [Option.some.injEq, Prod.mk.injEq] at hc
        obtain ⟨rfl, rfl⟩ := hc
        obtain ⟨γ', h1, h2, h3, h4, h5⟩ := row rfl hlk
        obtain ⟨A, L, cap, A', k1, k2, k3, k4, k5, rfl, k6⟩ := hr
        obtain ⟨m1, m2⟩ := h4 A L cap k1
        refine ⟨γ', h1, h2, h3, ?_, h5⟩
        have := RepD.sub (a := off.toNat) (b := (off + len).toNat) m2 (by omega) (by omega) (A' := A') (fun hlt => by rw [← hu]; exact k6 (by omega))
        rw [show (off + len).toNat - off.toNat = len.toNat by omega] at this
        exact this
      · cases hc
    · cases hc
  | _ => cases sh <;> simp [cvD] at hc

theorem rowOf_rep {γ : Gh} {w : World} : ∀ {shs : List (Option T.U)} {cs : List (CV T)} {xs : List (DV T.toSig)} {fs S : List Nat} {vs : List Value}, rowOf σ shs cs = some (xs, fs) → RowsOK σ γ w S → (∀ nm ∈ fs, nm ∈ S) → RepCs γ w cs vs →
    ∃ γ', γ'.bt = γ.bt ∧ γ'.own = γ.own ∧ Evo (fun n => n ∈ fs) γ w γ' w ∧ RepDs γ'.imm w xs vs ∧ RowsOK σ γ' w S
  | [], [], xs, fs, S, vs, h, H, _, hr => by
    simp only [rowOf, Option.some.injEq, Prod.mk.injEq] at h
    obtain ⟨rfl, rfl⟩ := h
    cases vs with
    | nil => exact ⟨γ, rfl, rfl, .refl _ _ _, trivial, H⟩
    | cons _ _ => exact hr.elim
  | sh :: shs, c :: cs, xs, fs, S, vs, h, H, hS, hr => by
    simp only [rowOf] at h
    split at h
    · rename_i x f1 hx
      split at h
      · rename_i ys f2 hy
        simp only [Option.some.injEq, Prod.mk.injEq] at h
        obtain ⟨rfl, rfl⟩ := h
        cases vs with
        | nil => exact hr.elim
        | cons v vs =>
          obtain ⟨γ1, a1, a2, a3, a4, a5⟩ := cvD_rep hx H (fun nm hm => hS nm (left hm)) hr.1
          obtain ⟨γ2, b1, b2, b3, b4, b5⟩ := rowOf_rep (γ := γ1) hy a5 (fun nm hm => hS nm (right hm)) (RepCs.evo a3 hr.2)
          exact ⟨γ2, b1.trans a1, b2.trans a2, (a3.weaken fun n h => left h).trans (b3.weaken fun n h => right h), ⟨a4.evo b3.toDEvo, b4⟩, b5⟩
      · cases h
    · cases h
  | [], _ :: _, _, _, _, _, h, _, _, _ => by simp [rowOf] at h
  | _ :: _, [], _, _, _, _, h, _, _, _ => by simp [rowOf] at h

theorem rowOf_len : ∀ {shs : List (Option T.U)} {cs : List (CV T)} {xs : List (DV T.toSig)} {fs : List Nat}, rowOf σ shs cs = some (xs, fs) → xs.length = cs.length ∧ shs.length = cs.length
  | [], [], xs, fs, h => by simp only [rowOf, Option.some.injEq, Prod.mk.injEq] at h; obtain ⟨rfl, rfl⟩ := h; simp
  | sh :: shs, c :: cs, xs, fs, h => by
    simp only [rowOf] at h
    split at h
    · split at h
      · rename_i hy
        simp only [Option.some.injEq, Prod.mk.injEq] at h
        obtain ⟨rfl, rfl⟩ := h
        have := rowOf_len hy
        simp [this]
      · cases h
    · cases h
  | [], _ :: _, _, _, h => by simp [rowOf] at h
  | _ :: _, [], _, _, h => by simp [rowOf] at h

theorem mem_frz : ∀ {fs : List Nat} {l : Loc} {f : Fact T}, (l, some f) ∈ frz σ fs → ∃ nm u ll fz, nm ∈ fs ∧ l = .h nm ∧ look σ (.h nm) = some (.r u ll fz) ∧ f = .r u ll true
  | [], _, _, h => by simp [frz] at h
  | nm :: r, l, f, h => by
    simp only [frz] at h
    split at h
    · rename_i u ll fz hlk
      rcases List.mem_cons.1 h with h | h
      · simp only [Prod.mk.injEq, Option.some.injEq] at h
        obtain ⟨rfl, rfl⟩ := h
        exact ⟨nm, u, ll, fz, by simp, rfl, hlk, rfl⟩
      · obtain ⟨nm', u', l', fz', h1, h2⟩ := mem_frz h
        exact ⟨nm', u', l', fz', by simp [h1], h2⟩
    · obtain ⟨nm', u', l', fz', h1, h2⟩ := mem_frz h
      exact ⟨nm', u', l', fz', by simp [h1], h2⟩

theorem frz_locs : ∀ {fs : List Nat} {nm : Nat} {u : T.U} {ll : List (T.El u)} {fz : Bool}, nm ∈ fs → look σ (.h nm) = some (.r u ll fz) → Loc.h nm ∈ locs (frz σ fs)
  | nm' :: r, nm, u, ll, fz, h, hlk => by
    simp only [frz]
    rcases List.mem_cons.1 h with rfl | h
    · rw [hlk]; simp [locs]
    · have := frz_locs h hlk
      split
      · simp only [locs, List.map_cons, List.mem_cons]; exact .inr this
      · exact this

theorem cvD_fs {sh : Option T.U} {c : CV T} {x : DV T.toSig} {fs : List Nat} (hc : cvD σ sh c = some (x, fs)) : ∀ nm ∈ fs, ∃ u l fz, look σ (.h nm) = some (.r u l fz) := by
  cases c with
  | d y => simp only [cvD, Option.some.injEq, Prod.mk.injEq] at hc; obtain ⟨rfl, rfl⟩ := hc; simp
  | nl =>
    cases sh with
    | none => simp [cvD] at hc
    | some u => simp only [cvD, Option.some.injEq, Prod.mk.injEq] at hc; obtain ⟨rfl, rfl⟩ := hc; simp
  | own u0 nm =>
    simp only [cvD] at hc
    split at hc
    · rename_i u l fz hlk
      simp only [Option.some.injEq, Prod.mk.injEq] at hc
      obtain ⟨rfl, rfl⟩ := hc
      intro nm' hm
      simp at hm; subst hm
      exact ⟨u, l, fz, hlk⟩
    · cases hc
  | buf u0 nm off len =>
    simp only [cvD] at hc
    split at hc
    · rename_i u l fz hlk
      split at hc
      · simp only [Option.some.injEq, Prod.mk.injEq] at hc
        obtain ⟨rfl, rfl⟩ := hc
        intro nm' hm
        simp at hm; subst hm
        exact ⟨u, l, fz, hlk⟩
      · cases hc
    · cases hc
  | _ => cases sh <;> simp [cvD] at hc

theorem rowOf_fs : ∀ {shs : List (Option T.U)} {cs : List (CV T)} {xs : List (DV T.toSig)} {fs : List Nat}, rowOf σ shs cs = some (xs, fs) → ∀ nm ∈ fs, ∃ u l fz, look σ (.h nm) = some (.r u l fz)
  | [], [], xs, fs, h => by simp only [rowOf, Option.some.injEq, Prod.mk.injEq] at h; obtain ⟨rfl, rfl⟩ := h; simp
  | sh :: shs, c :: cs, xs, fs, h => by
    simp only [rowOf] at h
    split at h
    · rename_i hx
      split at h
      · rename_i hy
        simp only [Option.some.injEq, Prod.mk.injEq] at h
        obtain ⟨rfl, rfl⟩ := h
        intro nm hm
        rcases List.mem_append.1 hm with hm | hm
        · exact cvD_fs hx nm hm
        · exact rowOf_fs hy nm hm
      · cases h
    · cases h
  | [], _ :: _, _, _, h => by simp [rowOf] at h
  | _ :: _, [], _, _, h => by simp [rowOf] at h
end
end Go.G
