import Derived.Test.YtbldiioafmcbmaaGTop
set_option linter.unusedVariables false
set_option linter.unusedSimpArgs false
namespace Go.G
inductive U14 where
  | alarm
  | i64
deriving DecidableEq
structure Alarm14 where
  ID : Int
  At : Int
deriving DecidableEq
abbrev S14 : Sig := ⟨U14, fun
  | .alarm => Alarm14
  | .i64 => Int⟩
def enc14 : (u : U14) → S14.El u → List (DV S14)
  | .alarm, (x : Alarm14) => [.int .i64 x.ID, .int .i64 x.At]
  | .i64, (x : Int) => [.int .i64 x]
def dec14 : (u : U14) → List (DV S14) → Option (S14.El u)
  | .alarm, [.int .i64 a0, .int .i64 a1] => some (show Alarm14 from ⟨a0, a1⟩)
  | .i64, [.int .i64 a0] => some (show Int from a0)
  | _, _ => none
theorem dec_enc14 : ∀ (u : U14) (xs : List (DV S14)) (a : S14.El u), dec14 u xs = some a → enc14 u a = xs := by
  intro u xs a h
  unfold dec14 at h
  split at h <;> first | (cases h; rfl) | cases h
def keq14 : (u : U14) → S14.El u → S14.El u → Bool
  | .alarm => fun _ _ => false
  | .i64 => fun _ _ => false
def C14 : Uni where
  toSig := S14
  deq := instDecidableEqU14
  size := fun | .alarm => 2 | .i64 => 1
  ag := fun | .alarm => true | .i64 => false
  enc := enc14
  dec := dec14
  shape := fun | .alarm => [none, none] | .i64 => [none]
  keq := keq14
  isKey := fun | .alarm => false | .i64 => false
  kds := fun | .alarm => [] | .i64 => []
  size_pos := by intro u; cases u <;> decide
  enc_len := by intro u a; cases u <;> rfl
  shape_len := by intro u; cases u <;> rfl
  ag_size := by intro u; cases u <;> simp
  dec_enc := dec_enc14
  keq_row := by intro u a b h; cases u <;> first | rfl | cases h
def cu14 : TypeId → Option U14 := fun t =>
  match t with
  | 3 => some .i64
  | 53 => some .alarm
  | 56 => some .alarm
  | _ => none
end Go.G
