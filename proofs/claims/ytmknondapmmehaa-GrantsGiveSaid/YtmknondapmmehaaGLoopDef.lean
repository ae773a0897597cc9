import Derived.Test.YtmknondapmmehaaGDef
set_option linter.unusedVariables false
set_option linter.unusedSimpArgs false
namespace Go.G

def iter {α ε : Type} (step : α → Option (α ⊕ ε)) : Nat → α → Option ε
  | 0, _ => none
  | n + 1, a => match step a with
    | none => none
    | some (.inl a') => iter step n a'
    | some (.inr e) => some e

/-- What a cell is known to be. -/
inductive Pt (T : Uni) where
  | int (k : IntKind)
  | bool
  | str
  | sl (u : T.U)
  | own (u : T.U) (nm : Nat)
  | buf (u : T.U) (nm : Nat)
  | ref (nm off : Nat)
  | fn (f : FuncId) (caps : List Nat)
  | mp (nm : Nat)
  | nl

/-- What a place is known to hold. -/
inductive Lp (T : Uni) where
  | one (p : Pt T)
  | agg (ps : List (Pt T))
  | b (ps : List (Pt T))
  | r (u : T.U) (fz : Bool)
  | m (uk uv : T.U)

abbrev Desc (T : Uni) := List (Loc × Lp T)

variable {T : Uni}

def Pt.ty : Pt T → Type
  | .int _ => Int
  | .bool => Bool
  | .str => ByteArray
  | .sl u => List (T.El u)
  | .buf _ _ => Int × Int
  | _ => Unit

def tys : List (Pt T) → Type
  | [] => Unit
  | p :: ps => p.ty × tys ps

def Lp.ty : Lp T → Type
  | .one p => p.ty
  | .agg ps => tys ps
  | .b ps => tys ps
  | .r u _ => List (T.El u)
  | .m uk uv => List (T.El uk × T.El uv)

def Dty : Desc T → Type
  | [] => Unit
  | (_, p) :: r => p.ty × Dty r

def embC : (p : Pt T) → p.ty → CV T
  | .int k, n => .d (.int k n)
  | .bool, b => .d (.bool b)
  | .str, s => .d (.str s)
  | .sl u, l => .d (.sl u l)
  | .own u nm, _ => .own u nm
  | .buf u nm, x => .buf u nm x.1 x.2
  | .ref nm off, _ => .ref nm off
  | .fn f caps, _ => .fn f caps
  | .mp nm, _ => .mp nm
  | .nl, _ => .nl

def embCs : (ps : List (Pt T)) → tys ps → List (CV T)
  | [], _ => []
  | p :: ps, x => embC p x.1 :: embCs ps x.2

def embL : (p : Lp T) → p.ty → Fact T
  | .one p, x => .v true (.one (embC p x))
  | .agg ps, x => .v true (.agg (embCs ps x))
  | .b ps, x => .b (embCs ps x)
  | .r u fz, l => .r u l fz
  | .m uk uv, l => .m uk uv l

def embD : (D : Desc T) → Dty D → St T
  | [], _ => []
  | (l, p) :: r, x => (l, embL p x.1) :: embD r x.2

def natsEq : List Nat → List Nat → Bool
  | [], [] => true
  | x :: xs, y :: ys => Nat.beq x y && natsEq xs ys
  | _, _ => false

def readC : (p : Pt T) → CV T → Option p.ty
  | .int k, .d (.int k' n) => match IntKind.same k' k with
    | true => some n
    | false => none
  | .bool, .d (.bool b) => some b
  | .str, .d (.str s) => some s
  | .sl u, .d (.sl u' l) => match T.deq u' u with
    | .isTrue h => some (h ▸ l)
    | .isFalse _ => none
  | .sl _, .nl => some []
  | .own u nm, .own u' nm' => match T.deq u' u with
    | .isTrue _ => match Nat.beq nm' nm with
      | true => some ()
      | false => none
    | .isFalse _ => none
  | .buf u nm, .buf u' nm' off len => match T.deq u' u with
    | .isTrue _ => match Nat.beq nm' nm with
      | true => some (off, len)
      | false => none
    | .isFalse _ => none
  | .ref nm off, .ref nm' off' => match Nat.beq nm' nm && Nat.beq off' off with
    | true => some ()
    | false => none
  | .fn f caps, .fn f' caps' => match Nat.beq f' f && natsEq caps' caps with
    | true => some ()
    | false => none
  | .mp nm, .mp nm' => match Nat.beq nm' nm with
    | true => some ()
    | false => none
  | .nl, .nl => some ()
  | _, _ => none

def readCs : (ps : List (Pt T)) → List (CV T) → Option (tys ps)
  | [], [] => some ()
  | p :: ps, c :: cs => match readC p c, readCs ps cs with
    | some x, some y => some (x, y)
    | _, _ => none
  | _, _ => none

def readR (u : T.U) (fz : Bool) (u' : T.U) (l : List (T.El u')) (fz' : Bool) : Option (List (T.El u)) :=
  match fz || !fz' with
  | true => match T.deq u' u with
    | .isTrue h => some (h ▸ l)
    | .isFalse _ => none
  | false => none

def readM (uk uv uk' uv' : T.U) (l : List (T.El uk' × T.El uv')) : Option (List (T.El uk × T.El uv)) :=
  match T.deq uk' uk, T.deq uv' uv with
  | .isTrue h, .isTrue k => some (h ▸ k ▸ l)
  | _, _ => none

def readL : (p : Lp T) → Fact T → Option p.ty
  | .one p, .v true (.one c) => readC p c
  | .agg ps, .v true (.agg cs) => readCs ps cs
  | .b ps, .b cs => readCs ps cs
  | .r u fz, .r u' l fz' => readR u fz u' l fz'
  | .m uk uv, .m uk' uv' l => readM uk uv uk' uv' l
  | _, _ => none

def readD : (D : Desc T) → St T → Option (Dty D)
  | [], _ => some ()
  | (l, p) :: r, σ => match look σ l with
    | some f => match readL p f, readD r σ with
      | some x, some y => some (x, y)
      | _, _ => none
    | none => none

/-! ### Names -/
def swN (p q nm : Nat) : Nat := match Nat.beq nm p with
  | true => q
  | false => match Nat.beq nm q with
    | true => p
    | false => nm

def swC (p q : Nat) : CV T → CV T
  | .ref nm off => .ref (swN p q nm) off
  | .own u nm => .own u (swN p q nm)
  | .buf u nm off len => .buf u (swN p q nm) off len
  | .elm u nm i f => .elm u (swN p q nm) i f
  | .fn f caps => .fn f (caps.map (swN p q))
  | .mp nm => .mp (swN p q nm)
  | c => c

mutual
def swP (p q : Nat) : PV T → PV T
  | .one c => .one (swC p q c)
  | .agg cs => .agg (cs.map (swC p q))
  | .tup ps => .tup (swPs p q ps)
  | .junk => .junk
def swPs (p q : Nat) : List (PV T) → List (PV T)
  | [] => []
  | x :: xs => swP p q x :: swPs p q xs
end

def swF (p q : Nat) : Fact T → Fact T
  | .v c x => .v c (swP p q x)
  | .b cs => .b (cs.map (swC p q))
  | f => f

def swL (p q : Nat) : Loc → Loc
  | .s i => .s i
  | .h nm => .h (swN p q nm)

def swSt (p q : Nat) : St T → St T
  | [] => []
  | (l, f) :: r => (swL p q l, swF p q f) :: swSt p q r

/-- The names that a description asks for, with their places. -/
def ptName : Pt T → Option Nat
  | .own _ nm | .buf _ nm | .ref nm _ | .mp nm => some nm
  | _ => none

def cName : CV T → Option Nat
  | .own _ nm | .buf _ nm _ _ | .ref nm _ | .mp nm => some nm
  | _ => none

def cellAt (σ : St T) (l : Loc) (i : Nat) : Option (CV T) :=
  match look σ l with
  | some (.v true (.one c)) => match i with
    | 0 => some c
    | _ => none
  | some (.v true (.agg cs)) => cs[i]?
  | some (.b cs) => cs[i]?
  | _ => none

/-- One place is brought to the name that is asked for. -/
def align1 (base lim : Nat) (l : Loc) (i nm : Nat) (σ : St T) : St T :=
  match cellAt σ l i with
  | some c => match cName c with
    | some nm' => match Nat.beq nm' nm with
      | true => σ
      | false => match (Nat.ble base nm && Nat.blt nm lim) && (Nat.ble base nm' && Nat.blt nm' lim) with
        | true => swSt nm nm' σ
        | false => σ
    | none => σ
  | none => σ

def alignPs (base lim : Nat) (l : Loc) : Nat → List (Pt T) → St T → St T
  | _, [], σ => σ
  | i, p :: ps, σ => match ptName p with
    | some nm => alignPs base lim l (i + 1) ps (align1 base lim l i nm σ)
    | none => alignPs base lim l (i + 1) ps σ

def align (base lim : Nat) : Desc T → St T → St T
  | [], σ => σ
  | (l, p) :: r, σ => match p with
    | .one q => align base lim r (alignPs base lim l 0 [q] σ)
    | .agg ps => align base lim r (alignPs base lim l 0 ps σ)
    | .b ps => align base lim r (alignPs base lim l 0 ps σ)
    | _ => align base lim r σ

def setCell (σ : St T) (l : Loc) (i : Nat) (c : CV T) : St T :=
  match look σ l with
  | some (.v true (.one _)) => (l, .v true (.one c)) :: σ
  | some (.v true (.agg cs)) => (l, .v true (.agg (cs.set i c))) :: σ
  | some (.b cs) => (l, .b (cs.set i c)) :: σ
  | _ => σ

/-- Slices of no capacity are given names. -/
def fixNl (lim : Nat) : List (Loc × Nat × T.U × Nat) → Nat → St T → Option (St T × Nat)
  | [], n, σ => some (σ, n)
  | (l, i, u, nm) :: r, n, σ => match cellAt σ l i with
    | some .nl => match Nat.ble n nm && Nat.blt nm lim with
      | true => fixNl lim r (nm + 1) ((.h nm, .r u [] false) :: setCell σ l i (.own u nm))
      | false => none
    | _ => fixNl lim r n σ

/-! ### A loop's summary -/
structure OutD (T : Uni) where
  e : Option Nat
  D : Desc T
  n : Nat

def OutD.exit (o : OutD T) : Exit := match o.e with
  | some id => .exit id
  | none => .ret

def outTy : List (OutD T) → Type
  | [] => Empty
  | o :: os => Dty o.D ⊕ outTy os

def decOut (base lim : Nat) : (os : List (OutD T)) → Exit → St T → Option (outTy os)
  | [], _, _ => none
  | o :: os, e, σ => match (match e, o.e with
      | .exit id, some id' => Nat.beq id id'
      | .ret, none => true
      | _, _ => false) with
    | true => match readD o.D (align base lim o.D σ) with
      | some x => some (.inl x)
      | none => none
    | false => match decOut base lim os e σ with
      | some y => some (.inr y)
      | none => none

def encOut {X : Type} : (os : List (OutD T)) → outTy os → (Exit → St T → Nat → Option X) → Option X
  | [], y, _ => Empty.elim y
  | o :: os, y, K => match y with
    | .inl x => K o.exit (embD o.D x) o.n
    | .inr y => encOut os y K

structure LoopD (T : Uni) where
  base : Nat
  lim : Nat
  n0 : Nat
  D : Desc T
  fix : List (Loc × Nat × T.U × Nat)
  outs : List (OutD T)

def LoopD.dec (L : LoopD T) (e : Exit) (σ : St T) (_n : Nat) : Option (Dty L.D ⊕ outTy L.outs) :=
  match e with
  | .normal => match readD L.D (align L.base L.lim L.D σ) with
    | some x => some (.inl x)
    | none => none
  | e => match decOut L.base L.lim L.outs e σ with
    | some y => some (.inr y)
    | none => none

def LoopD.g (L : LoopD T) (fu : Nat) (step : Dty L.D → Option (Dty L.D ⊕ outTy L.outs)) : LoopG0 T := fun X σ n base lim K =>
  match Nat.beq base L.base && Nat.beq lim L.lim with
  | true => match fixNl L.lim L.fix n σ with
    | some (σ', _) => match readD L.D (align L.base L.lim L.D σ') with
      | some x => match iter step fu x with
        | some y => encOut (X := X) L.outs y K
        | none => none
      | none => none
    | none => none
  | false => none

def LoopD.body (L : LoopD T) (call : CallH T) (c : ACode T) (x : Dty L.D) : Option (Dty L.D ⊕ outTy L.outs) :=
  ev call L.base L.lim c (embD L.D x) L.n0 L.dec

def namesLp : Lp T → List Nat
  | .one p => namesPt p
  | .agg ps => ps.flatMap namesPt
  | .b ps => ps.flatMap namesPt
  | _ => []
where namesPt : Pt T → List Nat
  | .own _ nm | .buf _ nm | .ref nm _ | .mp nm => [nm]
  | .fn _ caps => caps
  | _ => []

def namesD : Desc T → List Nat
  | [] => []
  | (.h nm, p) :: r => nm :: (namesLp p ++ namesD r)
  | (.s _, p) :: r => namesLp p ++ namesD r

/-- What must hold of a description. -/
def LoopD.ok (L : LoopD T) : Bool :=
  (namesD L.D).all (Nat.blt · L.n0) && (Nat.ble L.base L.n0 && (Nat.ble L.n0 L.lim &&
    L.outs.all fun o => (namesD o.D).all (Nat.blt · o.n) && (Nat.ble L.base o.n && Nat.ble o.n L.lim)))
end Go.G
