import Derived.Test.YtjmhaeegcaapeaaGE4
set_option linter.unusedVariables false
set_option linter.unusedSimpArgs false
namespace Go.G
inductive U12 where
  | u8
  | flight
  | sl_u8
  | i64
  | answer
deriving DecidableEq
structure Flight12 where
  Due : Int
  Data : List Int
deriving DecidableEq
structure Answer12 where
  Tag : Int
  Answer : Int
  Data : List Int
deriving DecidableEq
abbrev S12 : Sig := ⟨U12, fun
  | .u8 => Int
  | .flight => Flight12
  | .sl_u8 => List Int
  | .i64 => Int
  | .answer => Answer12⟩
def enc12 : (u : U12) → S12.El u → List (DV S12)
  | .u8, (x : Int) => [.int .u8 x]
  | .flight, (x : Flight12) => [.int .i64 x.Due, .sl U12.u8 x.Data]
  | .sl_u8, (x : List Int) => [.sl U12.u8 x]
  | .i64, (x : Int) => [.int .i64 x]
  | .answer, (x : Answer12) => [.int .i64 x.Tag, .int .i64 x.Answer, .sl U12.u8 x.Data]
def dec12 : (u : U12) → List (DV S12) → Option (S12.El u)
  | .u8, [.int .u8 a0] => some (show Int from a0)
  | .flight, [.int .i64 a0, .sl U12.u8 a1] => some (show Flight12 from ⟨a0, a1⟩)
  | .sl_u8, [.sl U12.u8 a0] => some (show List Int from a0)
  | .i64, [.int .i64 a0] => some (show Int from a0)
  | .answer, [.int .i64 a0, .int .i64 a1, .sl U12.u8 a2] => some (show Answer12 from ⟨a0, a1, a2⟩)
  | _, _ => none
theorem dec_enc12 : ∀ (u : U12) (xs : List (DV S12)) (a : S12.El u), dec12 u xs = some a → enc12 u a = xs := by
  intro u xs a h
  unfold dec12 at h
  split at h <;> first | (cases h; rfl) | cases h
theorem bytes_flat : ∀ l : List Int, l.flatMap (fun x => [(DV.int .u8 x : DV S12)]) = l.map (fun n => DV.int .u8 n)
  | [] => rfl
  | x :: l => by rw [List.flatMap_cons, bytes_flat l]; rfl
def keq12 : (u : U12) → S12.El u → S12.El u → Bool
  | .u8 => fun _ _ => false
  | .flight => fun _ _ => false
  | .sl_u8 => fun _ _ => false
  | .i64 => fun _ _ => false
  | .answer => fun _ _ => false
def C12 : Uni where
  toSig := S12
  deq := instDecidableEqU12
  size := fun | .u8 => 1 | .flight => 2 | .sl_u8 => 1 | .i64 => 1 | .answer => 3
  ag := fun | .u8 => false | .flight => true | .sl_u8 => false | .i64 => false | .answer => true
  enc := enc12
  dec := dec12
  shape := fun | .u8 => [none] | .flight => [none, some .u8] | .sl_u8 => [some .u8] | .i64 => [none] | .answer => [none, none, some .u8]
  keq := keq12
  isKey := fun | .u8 => false | .flight => false | .sl_u8 => false | .i64 => false | .answer => false
  kds := fun | .u8 => [] | .flight => [] | .sl_u8 => [] | .i64 => [] | .answer => []
  bys := fun | .u8 => 1 | .flight => 32 | .sl_u8 => 24 | .i64 => 8 | .answer => 40
  byt := fun | .u8 => true | .flight => false | .sl_u8 => false | .i64 => false | .answer => false
  nums := fun | .u8 => fun l => l | .flight => fun _ => [] | .sl_u8 => fun _ => [] | .i64 => fun _ => [] | .answer => fun _ => []
  byt_size := by intro u h; cases u <;> first | rfl | cases h
  nums_enc := by intro u l h; cases u <;> first | exact bytes_flat l | cases h
  size_pos := by intro u; cases u <;> decide
  enc_len := by intro u a; cases u <;> rfl
  shape_len := by intro u; cases u <;> rfl
  ag_size := by intro u; cases u <;> simp
  dec_enc := dec_enc12
  keq_row := by intro u a b h; cases u <;> first | rfl | cases h
def cu12 : TypeId → Option U12 := fun t =>
  match t with
  | 3 => some .i64
  | 5 => some .u8
  | 22 => some .sl_u8
  | 29 => some .answer
  | 39 => some .answer
  | 79 => some .flight
  | 84 => some .flight
  | _ => none
end Go.G
