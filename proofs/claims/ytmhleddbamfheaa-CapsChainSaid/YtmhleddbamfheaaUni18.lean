import Derived.Test.YtmhleddbamfheaaGTop
set_option linter.unusedVariables false
set_option linter.unusedSimpArgs false
namespace Go.G
inductive U18 where
  | cap
  | i64
  | line
  | right
  | held
  | bool
deriving DecidableEq
structure Cap18 where
  ID : Int
  Parent : Int
  Owner : Int
  Right_Type : Int
  Right_Peer : Int
  Right_Code : Int
deriving DecidableEq
structure Line18 where
  right_Type : Int
  right_Peer : Int
  right_Code : Int
  holders : List Int
deriving DecidableEq
structure Right18 where
  Type_ : Int
  Peer : Int
  Code : Int
deriving DecidableEq
structure Held18 where
  owner : Int
  right_Type : Int
  right_Peer : Int
  right_Code : Int
deriving DecidableEq
abbrev S18 : Sig := ⟨U18, fun
  | .cap => Cap18
  | .i64 => Int
  | .line => Line18
  | .right => Right18
  | .held => Held18
  | .bool => Bool⟩
def enc18 : (u : U18) → S18.El u → List (DV S18)
  | .cap, (x : Cap18) => [.int .i64 x.ID, .int .i64 x.Parent, .int .i64 x.Owner, .int .i64 x.Right_Type, .int .i64 x.Right_Peer, .int .i64 x.Right_Code]
  | .i64, (x : Int) => [.int .i64 x]
  | .line, (x : Line18) => [.int .i64 x.right_Type, .int .i64 x.right_Peer, .int .i64 x.right_Code, .sl U18.i64 x.holders]
  | .right, (x : Right18) => [.int .i64 x.Type_, .int .i64 x.Peer, .int .i64 x.Code]
  | .held, (x : Held18) => [.int .i64 x.owner, .int .i64 x.right_Type, .int .i64 x.right_Peer, .int .i64 x.right_Code]
  | .bool, (x : Bool) => [.bool x]
def dec18 : (u : U18) → List (DV S18) → Option (S18.El u)
  | .cap, [.int .i64 a0, .int .i64 a1, .int .i64 a2, .int .i64 a3, .int .i64 a4, .int .i64 a5] => some (show Cap18 from ⟨a0, a1, a2, a3, a4, a5⟩)
  | .i64, [.int .i64 a0] => some (show Int from a0)
  | .line, [.int .i64 a0, .int .i64 a1, .int .i64 a2, .sl U18.i64 a3] => some (show Line18 from ⟨a0, a1, a2, a3⟩)
  | .right, [.int .i64 a0, .int .i64 a1, .int .i64 a2] => some (show Right18 from ⟨a0, a1, a2⟩)
  | .held, [.int .i64 a0, .int .i64 a1, .int .i64 a2, .int .i64 a3] => some (show Held18 from ⟨a0, a1, a2, a3⟩)
  | .bool, [.bool a0] => some (show Bool from a0)
  | _, _ => none
theorem dec_enc18 : ∀ (u : U18) (xs : List (DV S18)) (a : S18.El u), dec18 u xs = some a → enc18 u a = xs := by
  intro u xs a h
  unfold dec18 at h
  split at h <;> first | (cases h; rfl) | cases h
def keq18_i64 (a b : Int) : Bool := ieq a b && true
def keq18_held (a b : Held18) : Bool := ieq a.owner b.owner && (ieq a.right_Type b.right_Type && (ieq a.right_Peer b.right_Peer && (ieq a.right_Code b.right_Code && true)))
def keq18 : (u : U18) → S18.El u → S18.El u → Bool
  | .cap => fun _ _ => false
  | .i64 => keq18_i64
  | .line => fun _ _ => false
  | .right => fun _ _ => false
  | .held => keq18_held
  | .bool => fun _ _ => false
def C18 : Uni where
  toSig := S18
  deq := instDecidableEqU18
  size := fun | .cap => 6 | .i64 => 1 | .line => 4 | .right => 3 | .held => 4 | .bool => 1
  ag := fun | .cap => true | .i64 => false | .line => true | .right => true | .held => true | .bool => false
  enc := enc18
  dec := dec18
  shape := fun | .cap => [none, none, none, none, none, none] | .i64 => [none] | .line => [none, none, none, some .i64] | .right => [none, none, none] | .held => [none, none, none, none] | .bool => [none]
  keq := keq18
  isKey := fun | .cap => false | .i64 => true | .line => false | .right => false | .held => true | .bool => false
  kds := fun | .cap => [] | .i64 => [.i] | .line => [] | .right => [] | .held => [.i, .i, .i, .i] | .bool => []
  size_pos := by intro u; cases u <;> decide
  enc_len := by intro u a; cases u <;> rfl
  shape_len := by intro u; cases u <;> rfl
  ag_size := by intro u; cases u <;> simp
  dec_enc := dec_enc18
  keq_row := by intro u a b h; cases u <;> first | rfl | cases h
def cu18 : TypeId → Option U18 := fun t =>
  match t with
  | 3 => some .i64
  | 4 => some .bool
  | 36 => some .right
  | 41 => some .cap
  | 63 => some .cap
  | 69 => some .line
  | 75 => some .line
  | 81 => some .held
  | _ => none
end Go.G
