import Derived.Test.YtffmffcnfhcgbaaGE4
set_option linter.unusedVariables false
set_option linter.unusedSimpArgs false
namespace Go.G
inductive U22 where
  | timer
  | i64
deriving DecidableEq
structure Timer22 where
  Owner : Int
  Tag : Int
  Due : Int
deriving DecidableEq
abbrev S22 : Sig := ⟨U22, fun
  | .timer => Timer22
  | .i64 => Int⟩
def enc22 : (u : U22) → S22.El u → List (DV S22)
  | .timer, (x : Timer22) => [.int .i64 x.Owner, .int .i64 x.Tag, .int .i64 x.Due]
  | .i64, (x : Int) => [.int .i64 x]
def dec22 : (u : U22) → List (DV S22) → Option (S22.El u)
  | .timer, [.int .i64 a0, .int .i64 a1, .int .i64 a2] => some (show Timer22 from ⟨a0, a1, a2⟩)
  | .i64, [.int .i64 a0] => some (show Int from a0)
  | _, _ => none
theorem dec_enc22 : ∀ (u : U22) (xs : List (DV S22)) (a : S22.El u), dec22 u xs = some a → enc22 u a = xs := by
  intro u xs a h
  unfold dec22 at h
  split at h <;> first | (cases h; rfl) | cases h
theorem bytes_flat : ∀ l : List Int, l.flatMap (fun x => [(DV.int .u8 x : DV S22)]) = l.map (fun n => DV.int .u8 n)
  | [] => rfl
  | x :: l => by rw [List.flatMap_cons, bytes_flat l]; rfl
def keq22 : (u : U22) → S22.El u → S22.El u → Bool
  | .timer => fun _ _ => false
  | .i64 => fun _ _ => false
def C22 : Uni where
  toSig := S22
  deq := instDecidableEqU22
  size := fun | .timer => 3 | .i64 => 1
  ag := fun | .timer => true | .i64 => false
  enc := enc22
  dec := dec22
  shape := fun | .timer => [none, none, none] | .i64 => [none]
  keq := keq22
  isKey := fun | .timer => false | .i64 => false
  kds := fun | .timer => [] | .i64 => []
  bys := fun | .timer => 24 | .i64 => 8
  byt := fun | .timer => false | .i64 => false
  nums := fun | .timer => fun _ => [] | .i64 => fun _ => []
  byt_size := by intro u h; cases u <;> first | rfl | cases h
  nums_enc := by intro u l h; cases u <;> first | exact bytes_flat l | cases h
  size_pos := by intro u; cases u <;> decide
  enc_len := by intro u a; cases u <;> rfl
  shape_len := by intro u; cases u <;> rfl
  ag_size := by intro u; cases u <;> simp
  dec_enc := dec_enc22
  keq_row := by intro u a b h; cases u <;> first | rfl | cases h
def cu22 : TypeId → Option U22 := fun t =>
  match t with
  | 3 => some .i64
  | 32 => some .timer
  | 33 => some .timer
  | _ => none
end Go.G
