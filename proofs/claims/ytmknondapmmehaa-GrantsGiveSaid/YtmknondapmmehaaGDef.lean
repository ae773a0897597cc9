import Derived.Test.YtmknondapmmehaaGPrim
import Derived.Control
set_option linter.unusedVariables false
set_option linter.unusedSimpArgs false
namespace Go.G

structure Sig where
  U : Type
  El : U → Type

/-- A datum. -/
inductive DV (S : Sig) where
  | int (k : IntKind) (n : Int)
  | bool (b : Bool)
  | str (s : ByteArray)
  | sl (u : S.U) (l : List (S.El u))

def IntKind.same (k k' : IntKind) : Bool := k.ctorIdx == k'.ctorIdx

inductive K1 where
  | i | b
deriving DecidableEq

def deq1 {S : Sig} : K1 → DV S → DV S → Option Bool
  | .i, .int k a, .int k' b => match IntKind.same k k' with
    | true => some (ieq a b)
    | false => none
  | .b, .bool a, .bool b => some (beqb a b)
  | _, _, _ => none

def deqs {S : Sig} : List K1 → List (DV S) → List (DV S) → Option Bool
  | [], [], [] => some true
  | k :: ks, x :: xs, y :: ys => match deq1 k x y, deqs ks xs ys with
    | some a, some b => some (a && b)
    | _, _ => none
  | _, _, _ => none

/-- The element types of a chapter's slices and maps. -/
structure Uni extends Sig where
  deq : DecidableEq U
  size : U → Nat
  ag : U → Bool
  enc : (u : U) → El u → List (DV toSig)
  dec : (u : U) → List (DV toSig) → Option (El u)
  shape : U → List (Option U)
  keq : (u : U) → El u → El u → Bool
  isKey : U → Bool
  kds : U → List K1
  size_pos : ∀ u, 0 < size u
  enc_len : ∀ u a, (enc u a).length = size u
  shape_len : ∀ u, (shape u).length = size u
  ag_size : ∀ u, ag u = false → size u = 1
  dec_enc : ∀ u xs a, dec u xs = some a → enc u a = xs
  keq_row : ∀ u a b, isKey u = true → deqs (kds u) (enc u a) (enc u b) = some (keq u a b)

variable (T : Uni)

inductive CV where
  | d (x : DV T.toSig)
  | nl
  | ref (nm off : Nat)
  | cur (cs : List (DV T.toSig))
  | own (u : T.U) (nm : Nat)
  | buf (u : T.U) (nm : Nat) (off len : Int)
  | elm (u : T.U) (nm : Nat) (i : Int) (f : Nat)
  | fn (f : FuncId) (caps : List Nat)
  | mp (nm : Nat)
  | val (v : Value)

inductive PV where
  | one (c : CV T)
  | agg (cs : List (CV T))
  | tup (ps : List PV)
  | junk

inductive Fact where
  | v (c : Bool) (x : PV T)
  | b (cs : List (CV T))
  | r (u : T.U) (l : List (T.El u)) (fz : Bool)
  | m (uk uv : T.U) (l : List (T.El uk × T.El uv))

inductive Loc where
  | s (i : Nat)
  | h (nm : Nat)
deriving DecidableEq

def Loc.eqb : Loc → Loc → Bool
  | .s i, .s j => Nat.beq i j
  | .h i, .h j => Nat.beq i j
  | _, _ => false

abbrev St := List (Loc × Fact T)
abbrev Wr := List (Loc × Option (Fact T))

variable {T}

def look : St T → Loc → Option (Fact T)
  | [], _ => none
  | (l', f) :: r, l => match Loc.eqb l' l with
    | true => some f
    | false => look r l

def era (l : Loc) : St T → St T
  | [] => []
  | (l', f) :: r => match Loc.eqb l' l with
    | true => era l r
    | false => (l', f) :: era l r

def upd : St T → Wr T → St T
  | σ, [] => σ
  | σ, (l, some f) :: r => upd ((l, f) :: σ) r
  | σ, (l, none) :: r => upd (era l σ) r

/-! ### Operations -/
inductive Opd (T : Uni) where
  | t (i : Nat)
  | c (x : PV T)

inductive PK (T : Uni) where
  | move (x : Opd T)
  | and (c x : Opd T)
  | or (c x : Opd T)
  | alloc (z : List (CV T))
  | box (x : Opd T)
  | build (z : List (CV T)) (ps : List (Nat × Nat × Opd T))
  | mks (u : T.U) (xs : List (Opd T))
  | mksl (u : T.U) (bytes : Nat) (z : List (DV T.toSig)) (x : Opd T)
  | load (m : Nat) (ag : Bool) (x : Opd T)
  | store (m : Nat) (x v : Opd T)
  | faddr (off : Nat) (x : Opd T)
  | fld (off m : Nat) (ag : Bool) (x : Opd T)
  | iaddr (u : T.U) (x i : Opd T)
  | iarr (size len : Nat) (x i : Opd T)
  | idx (size len : Nat) (ag : Bool) (x i : Opd T)
  | sidx (x i : Opd T)
  | ext (i : Nat) (x : Opd T)
  | bin (op : BinOp) (x y : Opd T)
  | eqb (neg : Bool) (x y : Opd T)
  | eqa (neg : Bool) (ks : List K1) (x y : Opd T)
  | not (x : Opd T)
  | neg (x : Opd T)
  | len (x : Opd T)
  | slen (x : Opd T)
  | app (u : T.U) (bytes : Nat) (x y : Opd T)
  | clr (u : T.U) (z : List (DV T.toSig)) (x : Opd T)
  | call (f : FuncId) (args : List (Opd T))
  | dyn (f : Opd T) (args : List (Opd T))
  | mkf (f : FuncId) (caps : List (Opd T))
  | conv (k : IntKind) (x : Opd T)
  | same (x : Opd T)
  | nilk (x : Opd T)
  | slice (u : T.U) (x : Opd T) (lo hi mx : Option (Opd T))
  | mkm (uk uv : T.U)
  | mlook (uk uv : T.U) (z : List (CV T)) (comma : Bool) (x i : Opd T)
  | mupd (uk uv : T.U) (x k v : Opd T)
  | maxi (x y : Opd T)
  | mini (x y : Opd T)
  | look3 (x : Opd T) (lo hi mx : Opd T)
  | bad

structure POp (T : Uni) where
  dst : Option Nat
  guard : Option (Nat × Bool)
  k : PK T

/-- A call: the function, its arguments, the heap that they reach, the next name, the last. -/
def CallH (T : Uni) : Type 1 := (X : Type) → FuncId → List (PV T) → St T → Nat → Nat → (PV T → St T → Nat → Option X) → Option X

/-- What becomes of a loop: the state at its head, the next name, the frame's first and last. -/
def LoopG0 (T : Uni) : Type 1 := (X : Type) → St T → Nat → Nat → Nat → (Exit → St T → Nat → Option X) → Option X
/-- The same, by what the calls come to. -/
def LoopG (T : Uni) : Type 1 := CallH T → (X : Type) → St T → Nat → Nat → Nat → (Exit → St T → Nat → Option X) → Option X

/-- A function's text; a loop bears what becomes of it. -/
inductive ACode (T : Uni) : Type 1 where
  | skip
  | reg (draw : Bool) (ops : List (POp T)) (deps : List (List Nat))
  | seq (a b : ACode T)
  | cond (c : Opd T) (a b : ACode T)
  | block (id : Nat) (c : ACode T)
  | loop (c : ACode T) (g : LoopG T)
  | unroll (k : Nat) (c : ACode T)
  | exit (id : Nat)
  | ret

/-! ### The evaluator -/
section
variable {X : Type}

def rdv (σ : St T) (x : Opd T) (K : PV T → Option X) : Option X :=
  match x with
  | .c q => K q
  | .t i => match look σ (.s i) with
    | some (.v true p) => K p
    | _ => none

def rdvs (σ : St T) : List (Opd T) → (List (PV T) → Option X) → Option X
  | [], K => K []
  | x :: xs, K => rdv σ x fun p => rdvs σ xs fun ps => K (p :: ps)

def rdb (σ : St T) (x : Opd T) (K : Bool → Option X) : Option X :=
  rdv σ x fun p => match p with
    | .one (.d (.bool b)) => K b
    | _ => none

def rdi (σ : St T) (x : Opd T) (K : IntKind → Int → Option X) : Option X :=
  rdv σ x fun p => match p with
    | .one (.d (.int k i)) => K k i
    | _ => none

def rdc (σ : St T) (x : Opd T) (K : CV T → Option X) : Option X :=
  rdv σ x fun p => match p with
    | .one c => K c
    | _ => none

def pcells : PV T → Option (List (CV T))
  | .one c => some [c]
  | .agg cs => some cs
  | _ => none

def rdps (σ : St T) : List (Nat × Nat × Opd T) → (List (Nat × Nat × List (CV T)) → Option X) → Option X
  | [], K => K []
  | (off, size, x) :: r, K => rdv σ x fun p => match pcells p with
    | some cs => rdps σ r fun qs => K ((off, size, cs) :: qs)
    | none => none

def fillC : List (CV T) → List (Nat × Nat × List (CV T)) → Option (List (CV T))
  | z, [] => some z
  | z, (off, size, cs) :: r => match Nat.beq cs.length size && Nat.ble (off + size) z.length with
    | true => fillC (z.take off ++ cs ++ z.drop (off + size)) r
    | false => none

def ldv (m : Nat) (ag : Bool) (cells : List (CV T)) (K : PV T → Option X) : Option X :=
  match ag with
  | true => match Nat.beq cells.length m with
    | true => K (.agg cells)
    | false => none
  | false => match cells with
    | [c] => K (.one c)
    | _ => none

/-- A cell as a datum: of which type a nil slice is, the shape says; a buffer is frozen by it. -/
def cvD (σ : St T) : Option T.U → CV T → Option (DV T.toSig × List Nat)
  | _, .d x => some (x, [])
  | some u, .nl => some (.sl u [], [])
  | _, .own _ nm => match look σ (.h nm) with
    | some (.r u l _) => some (.sl u l, [nm])
    | _ => none
  | _, .buf u0 nm off len => match look σ (.h nm) with
    | some (.r u l _) => match T.deq u0 u with
      | .isTrue _ => some (.sl u (dcut l off (oadd off len)), [nm])
      | .isFalse _ => none
    | _ => none
  | _, _ => none

def rowOf (σ : St T) : List (Option T.U) → List (CV T) → Option (List (DV T.toSig) × List Nat)
  | [], [] => some ([], [])
  | sh :: shs, c :: cs => match cvD σ sh c with
    | some (x, fs) => match rowOf σ shs cs with
      | some (xs, gs) => some (x :: xs, fs ++ gs)
      | none => none
    | none => none
  | _, _ => none

def frz (σ : St T) : List Nat → Wr T
  | [] => []
  | nm :: r => match look σ (.h nm) with
    | some (.r u l _) => (.h nm, some (.r u l true)) :: frz σ r
    | _ => frz σ r

def hs (nms : List Nat) : List Loc := nms.map .h

/-- The elements that a slice value stands for. -/
def elems (σ : St T) (u : T.U) (c : CV T) (K : List (T.El u) → List Loc → Option X) : Option X :=
  match c with
  | .d (.sl u' l) => match T.deq u' u with
    | .isTrue h => K (h ▸ l) []
    | .isFalse _ => none
  | .nl => K [] []
  | .own _ nm => match look σ (.h nm) with
    | some (.r u' l _) => match T.deq u' u with
      | .isTrue h => K (h ▸ l) [.h nm]
      | .isFalse _ => none
    | _ => none
  | .buf u0 nm off len => match look σ (.h nm) with
    | some (.r u' l _) => match T.deq u0 u', T.deq u' u with
      | .isTrue _, .isTrue h => K (dcut (h ▸ l : List (T.El u)) off (oadd off len)) [.h nm]
      | _, _ => none
    | _ => none
  | _ => none

def i64 (n : Int) : PV T := .one (.d (.int .i64 n))
def bl (b : Bool) : PV T := .one (.d (.bool b))

def binI (op : BinOp) (k : IntKind) (a b : Int) (K : PV T → Option X) : Option X :=
  match op with
  | .add => K (.one (.d (.int k (iadd k a b))))
  | .sub => K (.one (.d (.int k (isub k a b))))
  | .mul => K (.one (.d (.int k (imul k a b))))
  | .quo => match ieq b 0 with
    | true => none
    | false => K (.one (.d (.int k (iquo k a b))))
  | .rem => match ieq b 0 with
    | true => none
    | false => K (.one (.d (.int k (irem k a b))))
  | .shr => match ilt b 0 with
    | true => none
    | false => K (.one (.d (.int k (ishr k a b))))
  | .shl => match ilt b 0 with
    | true => none
    | false => K (.one (.d (.int k (ishl k a b))))
  | .and => K (.one (.d (.int k (iand k a b))))
  | .or => K (.one (.d (.int k (ior k a b))))
  | .xor => K (.one (.d (.int k (ixor k a b))))
  | .andNot => K (.one (.d (.int k (iandn k a b))))
  | .eql => K (bl (ieq a b))
  | .neq => K (bl (!ieq a b))
  | .lss => K (bl (ilt a b))
  | .leq => K (bl (ile a b))
  | .gtr => K (bl (ilt b a))
  | .geq => K (bl (ile b a))

def ceq : K1 → CV T → CV T → Option Bool
  | k, .d x, .d y => deq1 k x y
  | _, _, _ => none

def ceqs : List K1 → List (CV T) → List (CV T) → Option Bool
  | [], [], [] => some true
  | k :: ks, c :: cs, d :: ds => match ceq k c d, ceqs ks cs ds with
    | some a, some b => some (a && b)
    | _, _ => none
  | _, _, _ => none

def namesC : CV T → List Nat
  | .ref nm _ | .own _ nm | .buf _ nm _ _ | .elm _ nm _ _ | .mp nm => [nm]
  | .fn _ caps => caps
  | _ => []

def namesCs : List (CV T) → List Nat
  | [] => []
  | c :: cs => namesC c ++ namesCs cs

mutual
def namesP : PV T → List Nat
  | .one c => namesC c
  | .agg cs => namesCs cs
  | .tup ps => namesPs ps
  | .junk => []
def namesPs : List (PV T) → List Nat
  | [] => []
  | p :: ps => namesP p ++ namesPs ps
end

def namesF : Option (Fact T) → List Nat
  | some (.b cs) => namesCs cs
  | _ => []

def insN (x : Nat) (l : List Nat) : List Nat := match l.any (Nat.beq x) with
  | true => l
  | false => x :: l

/-- Names that can be reached. -/
def reach (σ : St T) : Nat → List Nat → List Nat → List Nat
  | 0, _, acc => acc
  | _ + 1, [], acc => acc
  | k + 1, nm :: r, acc => match acc.any (Nat.beq nm) with
    | true => reach σ k r acc
    | false => reach σ k (namesF (look σ (.h nm)) ++ r) (nm :: acc)

def heapAt (σ : St T) : List Nat → St T
  | [] => []
  | nm :: r => match look σ (.h nm) with
    | some f => (.h nm, f) :: heapAt σ r
    | none => heapAt σ r

def heapOf (σ : St T) : St T := go σ []
where go : St T → List Nat → St T
  | [], _ => []
  | (.h nm, f) :: r, seen => match seen.any (Nat.beq nm) with
    | true => go r seen
    | false => (.h nm, f) :: go r (nm :: seen)
  | (.s _, _) :: r, seen => go r seen

def hnames : St T → List Nat
  | [] => []
  | (.h nm, _) :: r => nm :: hnames r
  | _ :: r => hnames r

/-- What is handed back of the heap: what was handed in, and what the frame has made. -/
def heapIn (H : St T) (lo hi : Nat) (σ : St T) : St T :=
  (heapOf σ).filter fun x => match x.1 with
    | .h nm => (hnames H).any (Nat.beq nm) || (Nat.ble lo nm && Nat.blt nm hi)
    | .s _ => false

def locs (w : Wr T) : List Loc := w.map (·.1)

def doCall (call : CallH T) (σ : St T) (n lim : Nat) (f : FuncId) (ps : List (PV T)) (K : PV T → List Loc → Wr T → Nat → Option X) : Option X :=
  let nms := reach σ 100 (namesPs ps) []
  match nms.all fun nm => Nat.blt nm n with
  | true => call X f ps (heapAt σ nms) n lim fun r H' n' => K r ((heapAt σ nms).map (·.1)) (((heapAt σ nms).map fun x => (x.1, none)) ++ H'.map fun x => (x.1, some x.2)) n'
  | false => none

def refIds : List (PV T) → Option (List Nat)
  | [] => some []
  | .one (.ref nm 0) :: ps => match refIds ps with
    | some ids => some (nm :: ids)
    | none => none
  | _ => none

def refs (ids : List Nat) : List (PV T) := ids.map fun nm => .one (.ref nm 0)

def keyOf (ag : Bool) (p : PV T) : Option (List (CV T)) :=
  match ag, p with
  | true, .agg cs => some cs
  | false, .one c => some [c]
  | _, _ => none

def shp (ag : Bool) (cells : List (CV T)) : PV T :=
  match ag, cells with
  | true, cs => .agg cs
  | false, [c] => .one c
  | false, _ => .junk

def toIs (σ : St T) : List (Opd T) → (List Int → Option X) → Option X
  | [], K => K []
  | x :: xs, K => rdi σ x fun k i => match k with
    | .i64 => toIs σ xs fun is => K (i :: is)
    | _ => none

def rowsOf (σ : St T) (u : T.U) : List (PV T) → Option (List (T.El u) × List Nat)
  | [] => some ([], [])
  | p :: ps => match pcells p with
    | some cs => match rowOf σ (T.shape u) cs with
      | some (xs, fs) => match T.dec u xs with
        | some a => match rowsOf σ u ps with
          | some (as, gs) => some (a :: as, fs ++ gs)
          | none => none
        | none => none
      | none => none
    | none => none

def rdo (σ : St T) (x : Option (Opd T)) (d : Int) (K : Int → Option X) : Option X :=
  match x with
  | none => K d
  | some y => rdi σ y fun _ l => K l

def evK (call : CallH T) (σ : St T) (n lim : Nat) (dst : Option Nat) (K : PV T → List Loc → Wr T → Nat → Option X) : PK T → Option X
  | .move x => rdv σ x fun p => K p [] [] n
  | .and c x => rdb σ c fun cb => match cb with
    | false => K (bl false) [] [] n
    | true => rdb σ x fun xb => K (bl xb) [] [] n
  | .or c x => rdb σ c fun cb => match cb with
    | true => K (bl true) [] [] n
    | false => rdb σ x fun xb => K (bl xb) [] [] n
  | .alloc z => match Nat.blt n lim with
    | true => K (.one (.ref n 0)) [] [(.h n, some (.b z))] (n + 1)
    | false => none
  | .box x => match Nat.blt n lim with
    | true => rdv σ x fun p => match pcells p with
      | some cs => K (.one (.ref n 0)) [] [(.h n, some (.b cs))] (n + 1)
      | none => none
    | false => none
  | .build z ps => rdps σ ps fun qs => match fillC z qs with
    | some out => K (.agg out) [] [] n
    | none => none
  | .mks u xs => match xs with
    | [] => K (.one .nl) [] [] n
    | x :: xs => match Nat.blt n lim with
      | true => rdvs σ (x :: xs) fun ps => match rowsOf σ u ps with
        | some (as, fs) => K (.one (.own u n)) (hs fs) ((.h n, some (.r u as false)) :: frz σ fs) (n + 1)
        | none => none
      | false => none
  | .mksl u bytes z x => match Nat.blt n lim with
    | true => rdi σ x fun _ i => match T.dec u z with
      | some a => match dmk bytes i a with
        | some l => K (.one (.own u n)) [] [(.h n, some (.r u l false))] (n + 1)
        | none => none
      | none => none
    | false => none
  | .load m ag x => rdc σ x fun c => match c with
    | .ref nm off => match look σ (.h nm) with
      | some (.b cs) => ldv m ag ((cs.drop off).take m) fun p => K p [.h nm] [] n
      | _ => none
    | .cur cs => ldv m ag ((cs.map CV.d).take m) fun p => K p [] [] n
    | .elm u0 nm i f => match look σ (.h nm) with
      | some (.r u l _) => match T.deq u0 u with
        | .isTrue _ => match dat l i with
          | some a => ldv m ag ((((T.enc u a).map CV.d).drop f).take m) fun p => K p [.h nm] [] n
          | none => none
        | .isFalse _ => none
      | _ => none
    | _ => none
  | .store m x y => rdc σ x fun c => rdv σ y fun q => match pcells q with
    | some new => match Nat.beq new.length m with
      | true => match c with
        | .ref nm off => match look σ (.h nm) with
          | some (.b cs) => match Nat.ble (off + m) cs.length with
            | true => K .junk [.h nm] [(.h nm, some (.b (cs.take off ++ new ++ cs.drop (off + m))))] n
            | false => none
          | _ => none
        | .elm u0 nm i f => match look σ (.h nm) with
          | some (.r u l false) => match T.deq u0 u with
            | .isTrue _ => match dat l i with
              | some a => match rowOf σ (((T.shape u).drop f).take m) new with
                | some (xs, []) => match T.dec u ((T.enc u a).take f ++ xs ++ (T.enc u a).drop (f + m)) with
                  | some a' => match Nat.ble (f + m) (T.size u) with
                    | true => K .junk [.h nm] [(.h nm, some (.r u (dset l i a') false))] n
                    | false => none
                  | none => none
                | _ => none
              | none => none
            | .isFalse _ => none
          | _ => none
        | _ => none
      | false => none
    | none => none
  | .faddr d x => rdc σ x fun c => match c with
    | .ref nm off => K (.one (.ref nm (off + d))) [] [] n
    | .cur cs => match Nat.ble d cs.length with
      | true => K (.one (.cur (cs.drop d))) [] [] n
      | false => none
    | .elm u nm i f => K (.one (.elm u nm i (f + d))) [] [] n
    | _ => none
  | .fld off m ag x => rdv σ x fun p => match p with
    | .agg cs => ldv m ag ((cs.drop off).take m) fun p => K p [] [] n
    | _ => none
  | .iaddr u x i => rdc σ x fun c => rdi σ i fun _ iv => match c with
    | .d (.sl u' l) => match T.deq u' u with
      | .isTrue _ => match dat l iv with
        | some a => K (.one (.cur (T.enc u' a))) [] [] n
        | none => none
      | .isFalse _ => none
    | .own _ nm => match look σ (.h nm) with
      | some (.r u' l _) => match T.deq u' u with
        | .isTrue _ => match dat l iv with
          | some _ => K (.one (.elm u' nm iv 0)) [.h nm] [] n
          | none => none
        | .isFalse _ => none
      | _ => none
    | .buf u0 nm off len => match look σ (.h nm) with
      | some (.r u' l _) => match T.deq u0 u', T.deq u' u with
        | .isTrue _, .isTrue _ => match ile 0 iv && ilt iv len with
          | true => match dat l (oadd off iv) with
            | some _ => K (.one (.elm u' nm (oadd off iv) 0)) [.h nm] [] n
            | none => none
          | false => none
        | _, _ => none
      | _ => none
    | _ => none
  | .iarr size len x i => rdc σ x fun c => rdi σ i fun _ iv => match ile 0 iv && ilt iv len with
    | true => match c with
      | .ref nm off => K (.one (.ref nm (off + iv.toNat * size))) [] [] n
      | .cur cs => match Nat.ble (iv.toNat * size) cs.length with
        | true => K (.one (.cur (cs.drop (iv.toNat * size)))) [] [] n
        | false => none
      | _ => none
    | false => none
  | .idx size len ag x i => rdv σ x fun p => rdi σ i fun _ iv => match p with
    | .agg cs => match ile 0 iv && ilt iv len with
      | true => ldv size ag ((cs.drop (iv.toNat * size)).take size) fun p => K p [] [] n
      | false => none
    | _ => none
  | .sidx x i => rdv σ x fun p => rdi σ i fun _ iv => match p with
    | .one (.d (.str s)) => match sat s iv with
      | some b => K (.one (.d (.int .u8 b))) [] [] n
      | none => none
    | _ => none
  | .ext i x => rdv σ x fun p => match p with
    | .tup ps => match ps[i]? with
      | some q => K q [] [] n
      | none => none
    | _ => none
  | .bin op x y => rdi σ x fun k a => rdi σ y fun k' b => match IntKind.same k k' with
    | true => binI op k a b fun p => K p [] [] n
    | false => none
  | .eqb neg x y => rdb σ x fun a => rdb σ y fun b => match neg with
    | false => K (bl (beqb a b)) [] [] n
    | true => K (bl (!beqb a b)) [] [] n
  | .eqa neg ks x y => rdv σ x fun p => rdv σ y fun q => match p, q with
    | .agg cs, .agg ds => match ceqs ks cs ds with
      | some r => match neg with
        | false => K (bl r) [] [] n
        | true => K (bl (!r)) [] [] n
      | none => none
    | _, _ => none
  | .not x => rdb σ x fun b => K (bl (!b)) [] [] n
  | .neg x => rdi σ x fun k b => K (.one (.d (.int k (isub k 0 b)))) [] [] n
  | .len x => rdc σ x fun c => match c with
    | .d (.sl _ l) => K (i64 (dlen l)) [] [] n
    | .nl => K (i64 0) [] [] n
    | .own _ nm => match look σ (.h nm) with
      | some (.r _ l _) => K (i64 (dlen l)) [.h nm] [] n
      | _ => none
    | .buf _ _ _ len => K (i64 len) [] [] n
    | _ => none
  | .slen x => rdc σ x fun c => match c with
    | .d (.str s) => K (i64 (slen s)) [] [] n
    | _ => none
  | .app u bytes x y => match Nat.blt n lim with
    | true => rdc σ x fun c => rdc σ y fun c2 => elems σ u c2 fun ys rd => match c with
      | .nl => match dapp bytes [] ys with
        | some l => K (.one (.own u n)) rd [(.h n, some (.r u l false))] (n + 1)
        | none => none
      | .own _ nm => match look σ (.h nm) with
        | some (.r u' l fz) => match T.deq u' u with
          | .isTrue h => match dapp bytes (h ▸ l : List (T.El u)) ys with
            | some l' => K (.one (.own u n)) (.h nm :: rd) [(.h nm, none), (.h n, some (.r u l' fz))] (n + 1)
            | none => none
          | .isFalse _ => none
        | _ => none
      | .buf u0 nm off len => match look σ (.h nm) with
        | some (.r u' l false) => match T.deq u0 u', T.deq u' u with
          | .isTrue _, .isTrue h => match ile 0 off && ile 0 len with
            | true => match dput (h ▸ l : List (T.El u)) (oadd off len) ys with
              | some l' => K (.one (.buf u nm off (oadd len (dlen ys)))) (.h nm :: rd) [(.h nm, some (.r u l' false))] n
              | none => none
            | false => none
          | _, _ => none
        | _ => none
      | _ => none
    | false => none
  | .clr u z x => rdc σ x fun c => match c with
    | .buf u0 nm off len => match look σ (.h nm) with
      | some (.r u' l false) => match T.deq u0 u', T.deq u' u with
        | .isTrue _, .isTrue _ => match T.dec u' z with
          | some a => match ile 0 off && ile 0 len with
            | true => match dput l off (drep len a) with
              | some l' => K .junk [.h nm] [(.h nm, some (.r u' l' false))] n
              | none => none
            | false => none
          | none => none
        | _, _ => none
      | _ => none
    | _ => none
  | .call f xs => rdvs σ xs fun ps => doCall call σ n lim f ps K
  | .dyn f xs => rdc σ f fun c => rdvs σ xs fun ps => match c with
    | .fn g ids => doCall call σ n lim g (ps ++ refs ids) K
    | _ => none
  | .mkf f xs => rdvs σ xs fun ps => match refIds ps with
    | some ids => K (.one (.fn f ids)) [] [] n
    | none => none
  | .conv k x => rdi σ x fun _ b => K (.one (.d (.int k (iwrap k b)))) [] [] n
  | .same x => rdv σ x fun p => K p [] [] n
  | .nilk x => rdc σ x fun c => match c with
    | .ref _ _ | .cur _ | .elm _ _ _ _ | .fn _ _ => K (.one c) [] [] n
    | _ => none
  | .slice u x lo hi mx => rdc σ x fun c => match mx with
    | some _ => none
    | none => match c with
      | .d (.sl u' l) => match T.deq u' u with
        | .isTrue _ => rdo σ lo 0 fun a => rdo σ hi (dlen l) fun b => match dsub l a b with
          | some l' => K (.one (.d (.sl u' l'))) [] [] n
          | none => none
        | .isFalse _ => none
      | .nl => rdo σ lo 0 fun a => rdo σ hi 0 fun b => match ieq a 0 && ieq b 0 with
        | true => K (.one .nl) [] [] n
        | false => none
      | .own _ nm => match look σ (.h nm) with
        | some (.r u' l _) => match T.deq u' u with
          | .isTrue _ => rdo σ lo 0 fun a => rdo σ hi (dlen l) fun b => match ile 0 a && (ile a b && ile b (dlen l)) with
            | true => K (.one (.buf u' nm a (osub b a))) [.h nm] [] n
            | false => none
          | .isFalse _ => none
        | _ => none
      | .buf u' nm off len => match T.deq u' u with
        | .isTrue _ => rdo σ lo 0 fun a => rdo σ hi len fun b => match ile 0 a && (ile a b && ile b len) with
          | true => K (.one (.buf u' nm (oadd off a) (osub b a))) [] [] n
          | false => match look σ (.h nm) with
            | some (.r _ l _) => match ile 0 off && (ile 0 a && (ile a b && ile (oadd off b) (dlen l))) with
              | true => K (.one (.buf u' nm (oadd off a) (osub b a))) [.h nm] [] n
              | false => none
            | _ => none
        | .isFalse _ => none
      | _ => none
  | .mkm uk uv => match Nat.blt n lim with
    | true => K (.one (.mp n)) [] [(.h n, some (.m uk uv []))] (n + 1)
    | false => none
  | .mlook uk uv z comma x i => rdc σ x fun c => match c with
    | .mp nm => match look σ (.h nm) with
      | some (.m uk' uv' l) => match T.deq uk' uk, T.deq uv' uv with
        | .isTrue _, .isTrue _ => rdv σ i fun p => match keyOf (T.ag uk') p with
          | some cs => match rowOf σ (T.shape uk') cs with
            | some (xs, []) => match T.dec uk' xs with
              | some k => match mfind (T.keq uk') l k with
                | some v => match comma with
                  | true => K (.tup [shp (T.ag uv') ((T.enc uv' v).map CV.d), bl true]) [.h nm] [] n
                  | false => K (shp (T.ag uv') ((T.enc uv' v).map CV.d)) [.h nm] [] n
                | none => match comma with
                  | true => K (.tup [shp (T.ag uv') z, bl false]) [.h nm] [] n
                  | false => K (shp (T.ag uv') z) [.h nm] [] n
              | none => none
            | _ => none
          | none => none
        | _, _ => none
      | _ => none
    | _ => none
  | .mupd uk uv x k v => rdc σ x fun c => match c with
    | .mp nm => match look σ (.h nm) with
      | some (.m uk' uv' l) => match T.deq uk' uk, T.deq uv' uv with
        | .isTrue _, .isTrue _ => rdv σ k fun p => rdv σ v fun q => match keyOf (T.ag uk') p, keyOf (T.ag uv') q with
          | some cs, some ds => match rowOf σ (T.shape uk') cs, rowOf σ (T.shape uv') ds with
            | some (xs, []), some (ys, []) => match T.dec uk' xs, T.dec uv' ys with
              | some kk, some vv => K .junk [.h nm] [(.h nm, some (.m uk' uv' (mset (T.keq uk') l kk vv)))] n
              | _, _ => none
            | _, _ => none
          | _, _ => none
        | _, _ => none
      | _ => none
    | _ => none
  | .maxi x y => rdi σ x fun k a => rdi σ y fun k' b => match IntKind.same k k' with
    | true => K (.one (.d (.int k (imax a b)))) [] [] n
    | false => none
  | .mini x y => rdi σ x fun k a => rdi σ y fun k' b => match IntKind.same k k' with
    | true => K (.one (.d (.int k (imin a b)))) [] [] n
    | false => none
  | .look3 x lo hi mx => rdc σ x fun c => rdi σ lo fun _ a => rdi σ hi fun _ b => rdi σ mx fun _ m => match c with
    | .own _ nm => match look σ (.h nm) with
      | some (.r _ l _) => match ile 0 a && (ile a b && (ile b m && ile m (dlen l))) with
        | true => K .junk [.h nm] [] n
        | false => none
      | _ => none
    | _ => none
  | .bad => none

/-! ### Regions -/
def dw (d : Option Nat) (c : Bool) (x : PV T) : Wr T :=
  match d with
  | some d => [(.s d, some (.v c x))]
  | none => []

def gdv (σ : St T) (g : Option (Nat × Bool)) (A : St T → Option X) (B : St T → Option X) : Option X :=
  match g with
  | none => A σ
  | some (g, want) => match look σ (.s g) with
    | some (.v true (.one (.d (.bool x)))) => match x with
      | true => match want with
        | true => A ((.s g, .v true (bl true)) :: σ)
        | false => B ((.s g, .v true (bl true)) :: σ)
      | false => match want with
        | true => B ((.s g, .v true (bl false)) :: σ)
        | false => A ((.s g, .v true (bl false)) :: σ)
    | some (.v false _) => B σ
    | _ => none

def evSeq (call : CallH T) (lim : Nat) : List (POp T) → St T → Nat → (St T → Nat → Option X) → Option X
  | [], σ, n, K => K σ n
  | p :: ps, σ, n, K => gdv σ p.guard
      (fun σ => evK call σ n lim p.dst (fun x _ wr n' => evSeq call lim ps (upd σ (dw p.dst true x ++ wr)) n' K) p.k)
      (fun σ => evSeq call lim ps (upd σ (dw p.dst false .junk)) n K)

/-- What has been read and written so far, in memory, operation by operation (its number first). -/
abbrev Acc := List (Nat × List Loc × List Loc)

def disjB (a b : List Loc) : Bool := a.all fun l => b.all fun l' => !Loc.eqb l l'

def mchk (dep : List Nat) (rd wr : List Loc) : Acc → Bool
  | [] => true
  | (i, r, w) :: acc => (dep.any (Nat.beq i) || (disjB w rd && (disjB w wr && disjB wr r))) && mchk dep rd wr acc

def evDraw (call : CallH T) (lim : Nat) : List (POp T) → List (List Nat) → Nat → Acc → St T → Nat → (St T → Nat → Option X) → Option X
  | [], _, _, _, σ, n, K => K σ n
  | p :: ps, deps, i, acc, σ, n, K => gdv σ p.guard
      (fun σ => evK call σ n lim p.dst (fun x rd wr n' => match mchk (deps.headD []) rd (locs wr) acc with
        | true => match rd, wr with
          | [], [] => evDraw call lim ps deps.tail (i + 1) acc (upd σ (dw p.dst true x)) n' K
          | rd, wr => evDraw call lim ps deps.tail (i + 1) ((i, rd, locs wr) :: acc) (upd σ (dw p.dst true x ++ wr)) n' K
        | false => none) p.k)
      (fun σ => evDraw call lim ps deps.tail (i + 1) acc (upd σ (dw p.dst false .junk)) n K)

/-! ### Code -/
def unrollF (body : St T → Nat → (Exit → St T → Nat → Option X) → Option X) : Nat → St T → Nat → (Exit → St T → Nat → Option X) → Option X
  | 0, _, _, _ => none
  | k + 1, σ, n, K => body σ n fun e σ' n' => match e with
    | .normal => unrollF body k σ' n' K
    | e => K e σ' n'

def ev (call : CallH T) (base lim : Nat) : ACode T → St T → Nat → (Exit → St T → Nat → Option X) → Option X
  | .skip, σ, n, K => K .normal σ n
  | .reg draw ops deps, σ, n, K => match draw with
    | true => evDraw call lim ops deps 0 [] σ n fun σ n => K .normal σ n
    | false => evSeq call lim ops σ n fun σ n => K .normal σ n
  | .seq a b, σ, n, K => ev call base lim a σ n fun e σ n => match e with
    | .normal => ev call base lim b σ n K
    | e => K e σ n
  | .cond c a b, σ, n, K => rdb σ c fun t => match t with
    | true => ev call base lim a σ n K
    | false => ev call base lim b σ n K
  | .block id a, σ, n, K => ev call base lim a σ n fun e σ n => match e with
    | .exit id' => match Nat.beq id' id with
      | true => K .normal σ n
      | false => K (.exit id') σ n
    | e => K e σ n
  | .loop _ g, σ, n, K => g call X σ n base lim K
  | .unroll k c, σ, n, K => unrollF (fun σ n K => ev call base lim c σ n K) k σ n K
  | .exit id, σ, n, K => K (.exit id) σ n
  | .ret, σ, n, K => K .ret σ n

inductive RV where
  | t (i : Nat)
  | c (i m : Nat) (ag : Bool)

def rdR (σ : St T) : RV → (PV T → Option X) → Option X
  | .t i, K => match look σ (.s i) with
    | some (.v true p) => K p
    | _ => none
  | .c i m ag, K => match look σ (.s i) with
    | some (.v true (.one (.ref nm off))) => match look σ (.h nm) with
      | some (.b cs) => ldv m ag ((cs.drop off).take m) K
      | _ => none
    | _ => none

def rdRs (σ : St T) : List RV → (List (PV T) → Option X) → Option X
  | [], K => K []
  | r :: rs, K => rdR σ r fun p => rdRs σ rs fun ps => K (p :: ps)

def resPV : List (PV T) → PV T
  | [p] => p
  | ps => .tup ps

structure AFn (T : Uni) : Type 1 where
  pc : ACode T
  N : Nat
  rv : List RV

def argSt : Nat → List (PV T) → St T
  | _, [] => []
  | i, p :: ps => (.s i, .v true p) :: argSt (i + 1) ps

def evFn (call : CallH T) (lim : Nat) (F : AFn T) (args : List (PV T)) (H : St T) (n : Nat) (K : PV T → St T → Nat → Option X) : Option X :=
  match Nat.ble args.length F.N with
  | true => ev call n lim F.pc (argSt 0 args ++ H) n fun e σ n' => match e with
    | .normal => rdRs σ F.rv fun ps => K (resPV ps) (heapIn H n lim σ) n'
    | .ret => rdRs σ F.rv fun ps => K (resPV ps) (heapIn H n lim σ) n'
    | _ => none
  | false => none
end

inductive Ent (T : Uni) : Type 1 where
  | text (F : AFn T)
  | con (h : (X : Type) → List (PV T) → St T → Nat → Nat → (PV T → St T → Nat → Option X) → Option X)

def findE : List (FuncId × Ent T) → FuncId → Option (Ent T)
  | [], _ => none
  | (g, e) :: r, f => match Nat.beq g f with
    | true => some e
    | false => findE r f

def budget : Nat → Nat
  | 0 => 1048576
  | d + 1 => 1048576 * budget d

def callH (ents : List (FuncId × Ent T)) : Nat → CallH T
  | 0 => fun _ _ _ _ _ _ _ => none
  | d + 1 => fun X f args H n lim K => match findE ents f with
    | some (.text F) => match Nat.ble (n + budget d) lim with
      | true => evFn (callH ents d) (n + budget d) F args H n fun p H' _ => K p H' (n + budget d)
      | false => none
    | some (.con h) => h X args H n lim K
    | none => none
end Go.G
