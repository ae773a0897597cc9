import Derived.Test.YtmhleddbamfheaaP18l
import Derived.Test.YtmhleddbamfheaaP18boot
set_option linter.unusedVariables false
set_option linter.unusedSimpArgs false
namespace Go.G
set_option maxRecDepth 1000000
def idc : Nat → Int
  | 0 => 123
  | j + 1 => 168 + (j : Int)
def chainE (j : Nat) : Cap18 := ⟨168 + (j : Int), idc j, 17 + (j : Int), 2, 0, 4⟩
def chainL (k : Nat) : List Cap18 := (List.range k).map chainE
theorem chain_ok : ∀ j : Nat, j < 10 → deriveS (168 + (j : Int)) (bootL ++ chainL j) (idc j) (17 + (j : Int)) = ((168 + ((j + 1 : Nat) : Int), (bootL ++ chainL (j + 1), ())), (168 + (j : Int), (0, ()))) := by decide +kernel
theorem chain_val : ∀ j : Nat, j < 11 → validB (168 + (j : Int)) (bootL ++ chainL j) = true := by decide +kernel
theorem chain_spec : ∀ n : Nat, n < 11 → ∀ k : Nat, k < n → specW gF (bootL ++ chainL n) (fun j => ieq j (168 + (k : Int))) = bootL ++ chainL (k + 1) := by decide +kernel
theorem chain_has : ∀ n : Nat, n < 11 → ∀ i : Nat, i < 10 → (bootL ++ chainL n).any (isHas (17 + (i : Int)) 2 0 4) = decide (i < n) := by decide +kernel
theorem chain_comp : ∀ i : Nat, i < 11 → 1 ≤ i → bootL.any (isHas (i : Int) 2 0 4) = true := by decide +kernel
theorem chain_root : bootL.foldl (fun (s : Int) (y : Cap18) => bif ieq y.Right_Type 2 && (ieq y.Right_Peer 0 && ieq y.Right_Code 4) then (bif ieq y.Parent 0 then y.ID else s) else s) 0 = 123 := by decide +kernel
theorem boot_len2 : bootL.length = 168 - 1 := by decide +kernel
end Go.G
