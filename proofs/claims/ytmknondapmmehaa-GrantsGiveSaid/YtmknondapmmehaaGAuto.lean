import Derived.Test.YtmknondapmmehaaGLoop2
set_option linter.unusedVariables false
set_option linter.unusedSimpArgs false
namespace Go.G
variable {T : Uni}

/-- Which exit; which slots are carried over; what else is known there; the next name, counted from the loop's. -/
structure OutS (T : Uni) where
  e : Option Nat
  keep : List Nat
  new : Desc T
  up : Nat

/-- What a cell is. -/
def ptOf : CV T → Option (Pt T)
  | .d (.int k _) => some (.int k)
  | .d (.bool _) => some .bool
  | .d (.str _) => some .str
  | .d (.sl u _) => some (.sl u)
  | .nl => some .nl
  | .ref nm off => some (.ref nm off)
  | .own u nm => some (.own u nm)
  | .buf u nm _ _ => some (.buf u nm)
  | .fn f caps => some (.fn f caps)
  | .mp nm => some (.mp nm)
  | _ => none

def ptsOf : List (CV T) → Option (List (Pt T))
  | [] => some []
  | c :: cs => match ptOf c, ptsOf cs with
    | some p, some ps => some (p :: ps)
    | _, _ => none

def lpOf : Fact T → Option (Lp T)
  | .v true (.one c) => match ptOf c with
    | some p => some (.one p)
    | none => none
  | .v true (.agg cs) => match ptsOf cs with
    | some ps => some (.agg ps)
    | none => none
  | .b cs => match ptsOf cs with
    | some ps => some (.b ps)
    | none => none
  | .r u _ fz => some (.r u fz)
  | .m uk uv _ => some (.m uk uv)
  | _ => none

def descS (σ : St T) : List Nat → Desc T
  | [] => []
  | i :: r => match look σ (.s i) with
    | some f => match lpOf f with
      | some p => (.s i, p) :: descS σ r
      | none => descS σ r
    | none => descS σ r

def namesS (σ : St T) : List Nat → List Nat
  | [] => []
  | i :: r => match look σ (.s i) with
    | some (.v true p) => namesP p ++ namesS σ r
    | _ => namesS σ r

def descH (σ : St T) : List Nat → Desc T
  | [] => []
  | nm :: r => match look σ (.h nm) with
    | some f => match lpOf f with
      | some p => (.h nm, p) :: descH σ r
      | none => descH σ r
    | none => descH σ r

/-- What is kept of a state, by the slots that are live. -/
def descOf (σ : St T) (live : List Nat) : Desc T :=
  descS σ live ++ descH σ (reach σ 100 (namesS σ live) [])

def isH : Loc → Bool
  | .h _ => true
  | .s _ => false

def keepD (keep : List Nat) : Desc T → Desc T
  | [] => []
  | (l, p) :: r => match l with
    | .h nm => (.h nm, p) :: keepD keep r
    | .s i => match keep.any (Nat.beq i) with
      | true => (.s i, p) :: keepD keep r
      | false => keepD keep r

/-- The nil slices that are given names: at which place of what. -/
def fixAt (σ : St T) : List (Nat × Option Nat × T.U) → Nat → List (Loc × Nat × T.U × Nat)
  | [], _ => []
  | (i, none, u) :: r, n => (.s i, 0, u, n) :: fixAt σ r (n + 1)
  | (i, some j, u) :: r, n => match look σ (.s i) with
    | some (.v true (.one (.ref nm off))) => (.h nm, off + j, u, n) :: fixAt σ r (n + 1)
    | some (.v true (.agg _)) => (.s i, j, u, n) :: fixAt σ r (n + 1)
    | some (.v true (.one (.fn _ caps))) => match caps[j / 100 - 1]? with
      | some nm => (.h nm, j % 100, u, n) :: fixAt σ r (n + 1)
      | none => fixAt σ r n
    | _ => fixAt σ r n

def rePt (u : T.U) : Pt T → Pt T
  | .nl => .sl u
  | p => p
def rePts (u : T.U) : List (Pt T) → Nat → List (Pt T)
  | [], _ => []
  | p :: ps, 0 => rePt u p :: ps
  | p :: ps, j + 1 => p :: rePts u ps j
def reLp (u : T.U) (j : Nat) : Lp T → Lp T
  | .one p => .one (rePt u p)
  | .agg ps => .agg (rePts u ps j)
  | .b ps => .b (rePts u ps j)
  | p => p
/-- Here a nil slice is told of as data. -/
def re1 (l : Loc) (j : Nat) (u : T.U) : Desc T → Desc T
  | [] => []
  | (l', p) :: r => match Loc.eqb l' l with
    | true => (l', reLp u j p) :: re1 l j u r
    | false => (l', p) :: re1 l j u r
def reD : List (Loc × Nat × T.U × Nat) → Desc T → Desc T
  | [], D => D
  | (l, j, u, _) :: r, D => reD r (re1 l j u D)

/-- Rows told of as frozen. -/
def fzD (fz : Bool) : Desc T → Desc T
  | [] => []
  | (l, .r u b) :: r => (l, .r u (fz || b)) :: fzD fz r
  | x :: r => x :: fzD fz r

def mkD (live : List Nat) (dat : List (Nat × Option Nat × T.U)) (fz : Bool) (σ : St T) : Desc T := fzD fz (reD (fixAt σ dat 0) (descOf σ live))

def mkL (live : List Nat) (fix dat : List (Nat × Option Nat × T.U)) (fz : Bool) (outs : List (OutS T)) (σ : St T) (n base lim : Nat) : LoopD T :=
  match fixNl lim (fixAt σ fix n) n σ with
  | some (σ', n') => ⟨base, lim, n', mkD live dat fz σ', fixAt σ fix n, outs.map fun o => ⟨o.e, o.new ++ keepD o.keep (mkD live dat fz σ'), n' + o.up⟩⟩
  | none => ⟨base, lim, n, [], [], []⟩

def auto (fu : Nat) (body : ACode T) (live : List Nat) (fix dat : List (Nat × Option Nat × T.U)) (fz : Bool) (outs : List (OutS T)) : LoopG T := fun call X σ n base lim K =>
  match (mkL live fix dat fz outs σ n base lim).ok with
  | true => (mkL live fix dat fz outs σ n base lim).g fu (fun x => (mkL live fix dat fz outs σ n base lim).body call body x) X σ n base lim K
  | false => none

theorem auto_ok {P : Program} {cu : TypeId → Option T.U} {N : Nat} {body : ACode T} (hgood : Good P cu N body) (fu : Nat) (live : List Nat) (fix dat : List (Nat × Option Nat × T.U)) (fz : Bool) (outs : List (OutS T)) :
    LoopOK P cu N (erase body) (auto fu body live fix dat fz outs) := by
  intro call hcall S hP hN code hc X σ n K r hb hl h
  unfold auto at h
  split at h
  · rename_i hok
    exact loop_ok hgood hcall _ hok fu rfl S hP hN code hc X σ n K r hb hl h
  · cases h
end Go.G
