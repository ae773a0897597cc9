import Derived.Test.YtmbblacaodapcaaGTop
set_option linter.unusedVariables false
set_option linter.unusedSimpArgs false
namespace Go.G
inductive U10 where
  | window
  | i64
deriving DecidableEq
structure Window10 where
  Device : Int
  Tag : Int
  Frame : Int
  Write : Bool
deriving DecidableEq
abbrev S10 : Sig := ⟨U10, fun
  | .window => Window10
  | .i64 => Int⟩
def enc10 : (u : U10) → S10.El u → List (DV S10)
  | .window, (x : Window10) => [.int .i64 x.Device, .int .i64 x.Tag, .int .i64 x.Frame, .bool x.Write]
  | .i64, (x : Int) => [.int .i64 x]
def dec10 : (u : U10) → List (DV S10) → Option (S10.El u)
  | .window, [.int .i64 a0, .int .i64 a1, .int .i64 a2, .bool a3] => some (show Window10 from ⟨a0, a1, a2, a3⟩)
  | .i64, [.int .i64 a0] => some (show Int from a0)
  | _, _ => none
theorem dec_enc10 : ∀ (u : U10) (xs : List (DV S10)) (a : S10.El u), dec10 u xs = some a → enc10 u a = xs := by
  intro u xs a h
  unfold dec10 at h
  split at h <;> first | (cases h; rfl) | cases h
def keq10 : (u : U10) → S10.El u → S10.El u → Bool
  | .window => fun _ _ => false
  | .i64 => fun _ _ => false
def C10 : Uni where
  toSig := S10
  deq := instDecidableEqU10
  size := fun | .window => 4 | .i64 => 1
  ag := fun | .window => true | .i64 => false
  enc := enc10
  dec := dec10
  shape := fun | .window => [none, none, none, none] | .i64 => [none]
  keq := keq10
  isKey := fun | .window => false | .i64 => false
  kds := fun | .window => [] | .i64 => []
  size_pos := by intro u; cases u <;> decide
  enc_len := by intro u a; cases u <;> rfl
  shape_len := by intro u; cases u <;> rfl
  ag_size := by intro u; cases u <;> simp
  dec_enc := dec_enc10
  keq_row := by intro u a b h; cases u <;> first | rfl | cases h
def cu10 : TypeId → Option U10 := fun t =>
  match t with
  | 3 => some .i64
  | 25 => some .window
  | 33 => some .window
  | _ => none
end Go.G
