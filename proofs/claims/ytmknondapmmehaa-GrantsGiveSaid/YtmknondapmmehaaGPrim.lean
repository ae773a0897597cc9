import Derived.Control
set_option linter.unusedVariables false
set_option linter.unusedSimpArgs false
namespace Go.G

/-! ### What can stay open: the primitive operations on data -/
def iadd (k : IntKind) (a b : Int) : Int := k.wrap (a + b)
def isub (k : IntKind) (a b : Int) : Int := k.wrap (a - b)
def imul (k : IntKind) (a b : Int) : Int := k.wrap (a * b)
def iquo (k : IntKind) (a b : Int) : Int := k.wrap (a.tdiv b)
def irem (_k : IntKind) (a b : Int) : Int := a.tmod b
def ishr (k : IntKind) (a b : Int) : Int := a.fdiv (2 ^ (min b.toNat k.bits))
def ishl (k : IntKind) (a b : Int) : Int := k.wrap (a * 2 ^ (min b.toNat k.bits))
def iand (k : IntKind) (a b : Int) : Int := k.wrap (BitVec.ofInt k.bits a &&& BitVec.ofInt k.bits b).toNat
def ior (k : IntKind) (a b : Int) : Int := k.wrap (BitVec.ofInt k.bits a ||| BitVec.ofInt k.bits b).toNat
def ixor (k : IntKind) (a b : Int) : Int := k.wrap (BitVec.ofInt k.bits a ^^^ BitVec.ofInt k.bits b).toNat
def iandn (k : IntKind) (a b : Int) : Int := k.wrap (BitVec.ofInt k.bits a &&& ~~~ BitVec.ofInt k.bits b).toNat
def iwrap (k : IntKind) (a : Int) : Int := k.wrap a
def ieq (a b : Int) : Bool := decide (a = b)
def ilt (a b : Int) : Bool := decide (a < b)
def ile (a b : Int) : Bool := decide (a ≤ b)
def beqb (a b : Bool) : Bool := a == b
def dlen {α : Type} (l : List α) : Int := (l.length : Int)
def dat {α : Type} (l : List α) (i : Int) : Option α := if 0 ≤ i then l[i.toNat]? else none
def dsub {α : Type} (l : List α) (lo hi : Int) : Option (List α) := if 0 ≤ lo ∧ lo ≤ hi ∧ hi ≤ l.length then some ((l.take hi.toNat).drop lo.toNat) else none
def dcut {α : Type} (l : List α) (lo hi : Int) : List α := (l.take hi.toNat).drop lo.toNat
def dapp {α : Type} (bytes : Nat) (l ys : List α) : Option (List α) := if (l.length + ys.length) * bytes ≤ 140737488355328 ∧ l.length + ys.length ≤ 9223372036854775807 then some (l ++ ys) else none
def dset {α : Type} (l : List α) (i : Int) (a : α) : List α := l.set i.toNat a
def dmk {α : Type} (bytes : Nat) (n : Int) (a : α) : Option (List α) := if 0 ≤ n ∧ n.toNat * bytes ≤ 140737488355328 then some (List.replicate n.toNat a) else none
def oadd (a b : Int) : Int := a + b
def osub (a b : Int) : Int := a - b
def imax (a b : Int) : Int := if b > a then b else a
def imin (a b : Int) : Int := if b < a then b else a
/-- These from this place on. -/
def dput {α : Type} (l : List α) (i : Int) (ys : List α) : Option (List α) := if 0 ≤ i ∧ i + ys.length ≤ l.length then some (l.take i.toNat ++ ys ++ l.drop (i.toNat + ys.length)) else none
def drep {α : Type} (n : Int) (a : α) : List α := List.replicate n.toNat a
def slen (s : ByteArray) : Int := (s.size : Int)
def sat (s : ByteArray) (i : Int) : Option Int := if 0 ≤ i then (s.data[i.toNat]?).map (fun b => (b.toNat : Int)) else none
def mfind {α β : Type} (eq : α → α → Bool) (l : List (α × β)) (k : α) : Option β := (l.find? fun x => eq k x.1).map (·.2)
def mset {α β : Type} (eq : α → α → Bool) (l : List (α × β)) (k : α) (v : β) : List (α × β) :=
  match l with
  | [] => [(k, v)]
  | x :: r => if eq k x.1 then (k, v) :: r else x :: mset eq r k v
end Go.G
