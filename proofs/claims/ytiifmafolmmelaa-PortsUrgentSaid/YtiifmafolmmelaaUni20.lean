import Derived.Test.YtiifmafolmmelaaGE4
set_option linter.unusedVariables false
set_option linter.unusedSimpArgs false
namespace Go.G
inductive U20 where
  | u8
  | msg
  | pair
  | state
  | i64
deriving DecidableEq
structure Msg20 where
  Src : Int
  Dst : Int
  Kind : Int
  Seq : Int
  Args_0 : Int
  Args_1 : Int
  Args_2 : Int
  Args_3 : Int
  Data : List Int
deriving DecidableEq
structure Pair20 where
  Src : Int
  Dst : Int
  Seq : Int
deriving DecidableEq
structure State20 where
  Queue : List Msg20
  Pairs : List Pair20
deriving DecidableEq
abbrev S20 : Sig := ⟨U20, fun
  | .u8 => Int
  | .msg => Msg20
  | .pair => Pair20
  | .state => State20
  | .i64 => Int⟩
def enc20 : (u : U20) → S20.El u → List (DV S20)
  | .u8, (x : Int) => [.int .u8 x]
  | .msg, (x : Msg20) => [.int .i64 x.Src, .int .i64 x.Dst, .int .i64 x.Kind, .int .i64 x.Seq, .int .i64 x.Args_0, .int .i64 x.Args_1, .int .i64 x.Args_2, .int .i64 x.Args_3, .sl U20.u8 x.Data]
  | .pair, (x : Pair20) => [.int .i64 x.Src, .int .i64 x.Dst, .int .i64 x.Seq]
  | .state, (x : State20) => [.sl U20.msg x.Queue, .sl U20.pair x.Pairs]
  | .i64, (x : Int) => [.int .i64 x]
def dec20 : (u : U20) → List (DV S20) → Option (S20.El u)
  | .u8, [.int .u8 a0] => some (show Int from a0)
  | .msg, [.int .i64 a0, .int .i64 a1, .int .i64 a2, .int .i64 a3, .int .i64 a4, .int .i64 a5, .int .i64 a6, .int .i64 a7, .sl U20.u8 a8] => some (show Msg20 from ⟨a0, a1, a2, a3, a4, a5, a6, a7, a8⟩)
  | .pair, [.int .i64 a0, .int .i64 a1, .int .i64 a2] => some (show Pair20 from ⟨a0, a1, a2⟩)
  | .state, [.sl U20.msg a0, .sl U20.pair a1] => some (show State20 from ⟨a0, a1⟩)
  | .i64, [.int .i64 a0] => some (show Int from a0)
  | _, _ => none
theorem dec_enc20 : ∀ (u : U20) (xs : List (DV S20)) (a : S20.El u), dec20 u xs = some a → enc20 u a = xs := by
  intro u xs a h
  unfold dec20 at h
  split at h <;> first | (cases h; rfl) | cases h
theorem bytes_flat : ∀ l : List Int, l.flatMap (fun x => [(DV.int .u8 x : DV S20)]) = l.map (fun n => DV.int .u8 n)
  | [] => rfl
  | x :: l => by rw [List.flatMap_cons, bytes_flat l]; rfl
def keq20_pair (a b : Pair20) : Bool := ieq a.Src b.Src && (ieq a.Dst b.Dst && (ieq a.Seq b.Seq && true))
def keq20 : (u : U20) → S20.El u → S20.El u → Bool
  | .u8 => fun _ _ => false
  | .msg => fun _ _ => false
  | .pair => keq20_pair
  | .state => fun _ _ => false
  | .i64 => fun _ _ => false
def C20 : Uni where
  toSig := S20
  deq := instDecidableEqU20
  size := fun | .u8 => 1 | .msg => 9 | .pair => 3 | .state => 2 | .i64 => 1
  ag := fun | .u8 => false | .msg => true | .pair => true | .state => true | .i64 => false
  enc := enc20
  dec := dec20
  shape := fun | .u8 => [none] | .msg => [none, none, none, none, none, none, none, none, some .u8] | .pair => [none, none, none] | .state => [some .msg, some .pair] | .i64 => [none]
  keq := keq20
  isKey := fun | .u8 => false | .msg => false | .pair => true | .state => false | .i64 => false
  kds := fun | .u8 => [] | .msg => [] | .pair => [.i, .i, .i] | .state => [] | .i64 => []
  bys := fun | .u8 => 1 | .msg => 88 | .pair => 24 | .state => 48 | .i64 => 8
  byt := fun | .u8 => true | .msg => false | .pair => false | .state => false | .i64 => false
  nums := fun | .u8 => fun l => l | .msg => fun _ => [] | .pair => fun _ => [] | .state => fun _ => [] | .i64 => fun _ => []
  byt_size := by intro u h; cases u <;> first | rfl | cases h
  nums_enc := by intro u l h; cases u <;> first | exact bytes_flat l | cases h
  size_pos := by intro u; cases u <;> decide
  enc_len := by intro u a; cases u <;> rfl
  shape_len := by intro u; cases u <;> rfl
  ag_size := by intro u; cases u <;> simp
  dec_enc := dec_enc20
  keq_row := by intro u a b h; cases u <;> first | rfl | cases h
def cu20 : TypeId → Option U20 := fun t =>
  match t with
  | 3 => some .i64
  | 5 => some .u8
  | 26 => some .state
  | 31 => some .msg
  | 51 => some .pair
  | 69 => some .pair
  | _ => none
end Go.G
