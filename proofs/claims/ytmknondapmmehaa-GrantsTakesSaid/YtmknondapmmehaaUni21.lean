import Derived.Test.YtmknondapmmehaaGE4
set_option linter.unusedVariables false
set_option linter.unusedSimpArgs false
namespace Go.G
inductive U21 where
  | grant
  | i64
  | bool
deriving DecidableEq
structure Grant21 where
  Owner : Int
  Grantee : Int
  Frame : Int
  Rights : Int
deriving DecidableEq
abbrev S21 : Sig := ⟨U21, fun
  | .grant => Grant21
  | .i64 => Int
  | .bool => Bool⟩
def enc21 : (u : U21) → S21.El u → List (DV S21)
  | .grant, (x : Grant21) => [.int .i64 x.Owner, .int .i64 x.Grantee, .int .i64 x.Frame, .int .i64 x.Rights]
  | .i64, (x : Int) => [.int .i64 x]
  | .bool, (x : Bool) => [.bool x]
def dec21 : (u : U21) → List (DV S21) → Option (S21.El u)
  | .grant, [.int .i64 a0, .int .i64 a1, .int .i64 a2, .int .i64 a3] => some (show Grant21 from ⟨a0, a1, a2, a3⟩)
  | .i64, [.int .i64 a0] => some (show Int from a0)
  | .bool, [.bool a0] => some (show Bool from a0)
  | _, _ => none
theorem dec_enc21 : ∀ (u : U21) (xs : List (DV S21)) (a : S21.El u), dec21 u xs = some a → enc21 u a = xs := by
  intro u xs a h
  unfold dec21 at h
  split at h <;> first | (cases h; rfl) | cases h
def keq21 : (u : U21) → S21.El u → S21.El u → Bool
  | .grant => fun _ _ => false
  | .i64 => fun _ _ => false
  | .bool => fun _ _ => false
def C21 : Uni where
  toSig := S21
  deq := instDecidableEqU21
  size := fun | .grant => 4 | .i64 => 1 | .bool => 1
  ag := fun | .grant => true | .i64 => false | .bool => false
  enc := enc21
  dec := dec21
  shape := fun | .grant => [none, none, none, none] | .i64 => [none] | .bool => [none]
  keq := keq21
  isKey := fun | .grant => false | .i64 => false | .bool => false
  kds := fun | .grant => [] | .i64 => [] | .bool => []
  size_pos := by intro u; cases u <;> decide
  enc_len := by intro u a; cases u <;> rfl
  shape_len := by intro u; cases u <;> rfl
  ag_size := by intro u; cases u <;> simp
  dec_enc := dec_enc21
  keq_row := by intro u a b h; cases u <;> first | rfl | cases h
def cu21 : TypeId → Option U21 := fun t =>
  match t with
  | 3 => some .i64
  | 4 => some .bool
  | 25 => some .grant
  | 33 => some .grant
  | _ => none
end Go.G
