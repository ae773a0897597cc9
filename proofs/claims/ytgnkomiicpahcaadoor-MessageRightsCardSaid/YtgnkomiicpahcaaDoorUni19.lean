import Derived.Test.YtgnkomiicpahcaaDoorGE4
set_option linter.unusedVariables false
set_option linter.unusedSimpArgs false
namespace Go.G
inductive U19 where
  | u8
  | effect
  | right
  | cap
  | i64
  | line
  | held
  | bool
  | form
deriving DecidableEq
structure Effect19 where
  Kind : Int
  Args_0 : Int
  Args_1 : Int
  Args_2 : Int
  Args_3 : Int
  Msg_Src : Int
  Msg_Dst : Int
  Msg_Kind : Int
  Msg_Seq : Int
  Msg_Args_0 : Int
  Msg_Args_1 : Int
  Msg_Args_2 : Int
  Msg_Args_3 : Int
  Msg_Data : List Int
  Data : List Int
deriving DecidableEq
structure Right19 where
  Type_ : Int
  Peer : Int
  Code : Int
deriving DecidableEq
structure Cap19 where
  ID : Int
  Parent : Int
  Owner : Int
  Right_Type : Int
  Right_Peer : Int
  Right_Code : Int
deriving DecidableEq
structure Line19 where
  right_Type : Int
  right_Peer : Int
  right_Code : Int
  holders : List Int
deriving DecidableEq
structure Held19 where
  owner : Int
  right_Type : Int
  right_Peer : Int
  right_Code : Int
deriving DecidableEq
structure Form19 where
  from_ : Int
  to : Int
  args : ByteArray
  data : Int
deriving DecidableEq
abbrev S19 : Sig := ⟨U19, fun
  | .u8 => Int
  | .effect => Effect19
  | .right => Right19
  | .cap => Cap19
  | .i64 => Int
  | .line => Line19
  | .held => Held19
  | .bool => Bool
  | .form => Form19⟩
def enc19 : (u : U19) → S19.El u → List (DV S19)
  | .u8, (x : Int) => [.int .u8 x]
  | .effect, (x : Effect19) => [.int .i64 x.Kind, .int .i64 x.Args_0, .int .i64 x.Args_1, .int .i64 x.Args_2, .int .i64 x.Args_3, .int .i64 x.Msg_Src, .int .i64 x.Msg_Dst, .int .i64 x.Msg_Kind, .int .i64 x.Msg_Seq, .int .i64 x.Msg_Args_0, .int .i64 x.Msg_Args_1, .int .i64 x.Msg_Args_2, .int .i64 x.Msg_Args_3, .sl U19.u8 x.Msg_Data, .sl U19.u8 x.Data]
  | .right, (x : Right19) => [.int .i64 x.Type_, .int .i64 x.Peer, .int .i64 x.Code]
  | .cap, (x : Cap19) => [.int .i64 x.ID, .int .i64 x.Parent, .int .i64 x.Owner, .int .i64 x.Right_Type, .int .i64 x.Right_Peer, .int .i64 x.Right_Code]
  | .i64, (x : Int) => [.int .i64 x]
  | .line, (x : Line19) => [.int .i64 x.right_Type, .int .i64 x.right_Peer, .int .i64 x.right_Code, .sl U19.i64 x.holders]
  | .held, (x : Held19) => [.int .i64 x.owner, .int .i64 x.right_Type, .int .i64 x.right_Peer, .int .i64 x.right_Code]
  | .bool, (x : Bool) => [.bool x]
  | .form, (x : Form19) => [.int .i64 x.from_, .int .i64 x.to, .str x.args, .int .i64 x.data]
def dec19 : (u : U19) → List (DV S19) → Option (S19.El u)
  | .u8, [.int .u8 a0] => some (show Int from a0)
  | .effect, [.int .i64 a0, .int .i64 a1, .int .i64 a2, .int .i64 a3, .int .i64 a4, .int .i64 a5, .int .i64 a6, .int .i64 a7, .int .i64 a8, .int .i64 a9, .int .i64 a10, .int .i64 a11, .int .i64 a12, .sl U19.u8 a13, .sl U19.u8 a14] => some (show Effect19 from ⟨a0, a1, a2, a3, a4, a5, a6, a7, a8, a9, a10, a11, a12, a13, a14⟩)
  | .right, [.int .i64 a0, .int .i64 a1, .int .i64 a2] => some (show Right19 from ⟨a0, a1, a2⟩)
  | .cap, [.int .i64 a0, .int .i64 a1, .int .i64 a2, .int .i64 a3, .int .i64 a4, .int .i64 a5] => some (show Cap19 from ⟨a0, a1, a2, a3, a4, a5⟩)
  | .i64, [.int .i64 a0] => some (show Int from a0)
  | .line, [.int .i64 a0, .int .i64 a1, .int .i64 a2, .sl U19.i64 a3] => some (show Line19 from ⟨a0, a1, a2, a3⟩)
  | .held, [.int .i64 a0, .int .i64 a1, .int .i64 a2, .int .i64 a3] => some (show Held19 from ⟨a0, a1, a2, a3⟩)
  | .bool, [.bool a0] => some (show Bool from a0)
  | .form, [.int .i64 a0, .int .i64 a1, .str a2, .int .i64 a3] => some (show Form19 from ⟨a0, a1, a2, a3⟩)
  | _, _ => none
theorem dec_enc19 : ∀ (u : U19) (xs : List (DV S19)) (a : S19.El u), dec19 u xs = some a → enc19 u a = xs := by
  intro u xs a h
  unfold dec19 at h
  split at h <;> first | (cases h; rfl) | cases h
theorem bytes_flat : ∀ l : List Int, l.flatMap (fun x => [(DV.int .u8 x : DV S19)]) = l.map (fun n => DV.int .u8 n)
  | [] => rfl
  | x :: l => by rw [List.flatMap_cons, bytes_flat l]; rfl
def keq19_i64 (a b : Int) : Bool := ieq a b && true
def keq19_held (a b : Held19) : Bool := ieq a.owner b.owner && (ieq a.right_Type b.right_Type && (ieq a.right_Peer b.right_Peer && (ieq a.right_Code b.right_Code && true)))
def keq19 : (u : U19) → S19.El u → S19.El u → Bool
  | .u8 => fun _ _ => false
  | .effect => fun _ _ => false
  | .right => fun _ _ => false
  | .cap => fun _ _ => false
  | .i64 => keq19_i64
  | .line => fun _ _ => false
  | .held => keq19_held
  | .bool => fun _ _ => false
  | .form => fun _ _ => false
def glob19_0 : List Form19 := [⟨0, 0, ⟨#[]⟩, 0⟩, ⟨(-1), (-1), ⟨#[115, 42, 42, 42]⟩, 128⟩, ⟨(-1), 4, ⟨#[112, 98]⟩, 0⟩, ⟨0, (-1), ⟨#[100, 110, 42, 42]⟩, 128⟩, ⟨0, (-1), ⟨#[42, 110]⟩, 0⟩, ⟨0, 1, ⟨#[99, 120]⟩, 0⟩, ⟨1, (-1), ⟨#[110]⟩, 0⟩, ⟨(-1), 1, ⟨#[110]⟩, 0⟩, ⟨3, 4, ⟨#[117, 117]⟩, 0⟩, ⟨3, 4, ⟨#[117]⟩, 1536⟩, ⟨3, 4, ⟨#[117]⟩, 0⟩, ⟨4, 3, ⟨#[117, 101, 110]⟩, 0⟩, ⟨3, 5, ⟨#[117, 117]⟩, 0⟩, ⟨3, 5, ⟨#[117]⟩, 128⟩, ⟨3, 5, ⟨#[117]⟩, 0⟩, ⟨5, 3, ⟨#[117, 101]⟩, 1536⟩, ⟨3, 10, ⟨#[117]⟩, 0⟩, ⟨10, 3, ⟨#[117]⟩, 0⟩, ⟨5, 6, ⟨#[111, 42, 42, 42]⟩, 128⟩, ⟨6, 5, ⟨#[101, 42, 121]⟩, 1536⟩, ⟨(-1), 7, ⟨#[98, 107, 103]⟩, 128⟩, ⟨7, (-1), ⟨#[101, 107]⟩, 128⟩, ⟨5, 9, ⟨#[109, 117, 110]⟩, 128⟩, ⟨9, 5, ⟨#[117, 101]⟩, 128⟩, ⟨5, 8, ⟨#[113, 42, 42, 42]⟩, 128⟩, ⟨8, 5, ⟨#[117, 101, 42]⟩, 128⟩, ⟨(-1), 2, ⟨#[122, 42]⟩, 128⟩, ⟨2, (-1), ⟨#[101, 42]⟩, 128⟩]
def C19 : Uni where
  toSig := S19
  deq := instDecidableEqU19
  size := fun | .u8 => 1 | .effect => 15 | .right => 3 | .cap => 6 | .i64 => 1 | .line => 4 | .held => 4 | .bool => 1 | .form => 4
  ag := fun | .u8 => false | .effect => true | .right => true | .cap => true | .i64 => false | .line => true | .held => true | .bool => false | .form => true
  enc := enc19
  dec := dec19
  shape := fun | .u8 => [none] | .effect => [none, none, none, none, none, none, none, none, none, none, none, none, none, some .u8, some .u8] | .right => [none, none, none] | .cap => [none, none, none, none, none, none] | .i64 => [none] | .line => [none, none, none, some .i64] | .held => [none, none, none, none] | .bool => [none] | .form => [none, none, none, none]
  keq := keq19
  isKey := fun | .u8 => false | .effect => false | .right => false | .cap => false | .i64 => true | .line => false | .held => true | .bool => false | .form => false
  kds := fun | .u8 => [] | .effect => [] | .right => [] | .cap => [] | .i64 => [.i] | .line => [] | .held => [.i, .i, .i, .i] | .bool => [] | .form => []
  bys := fun | .u8 => 1 | .effect => 152 | .right => 24 | .cap => 48 | .i64 => 8 | .line => 48 | .held => 32 | .bool => 1 | .form => 40
  glob := fun g => match g with | 0 => some ⟨.form, glob19_0⟩ | _ => none
  byt := fun | .u8 => true | .effect => false | .right => false | .cap => false | .i64 => false | .line => false | .held => false | .bool => false | .form => false
  nums := fun | .u8 => fun l => l | .effect => fun _ => [] | .right => fun _ => [] | .cap => fun _ => [] | .i64 => fun _ => [] | .line => fun _ => [] | .held => fun _ => [] | .bool => fun _ => [] | .form => fun _ => []
  byt_size := by intro u h; cases u <;> first | rfl | cases h
  nums_enc := by intro u l h; cases u <;> first | exact bytes_flat l | cases h
  size_pos := by intro u; cases u <;> decide
  enc_len := by intro u a; cases u <;> rfl
  shape_len := by intro u; cases u <;> rfl
  ag_size := by intro u; cases u <;> simp
  dec_enc := dec_enc19
  keq_row := by intro u a b h; cases u <;> first | rfl | cases h
def cu19 : TypeId → Option U19 := fun t =>
  match t with
  | 3 => some .i64
  | 4 => some .bool
  | 5 => some .u8
  | 32 => some .effect
  | 44 => some .right
  | 45 => some .right
  | 54 => some .form
  | 69 => some .line
  | 76 => some .cap
  | 92 => some .held
  | _ => none
end Go.G
