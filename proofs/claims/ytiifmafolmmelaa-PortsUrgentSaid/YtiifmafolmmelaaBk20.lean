import Derived.Test.YtiifmafolmmelaaGE4
import Derived.Test.YtiifmafolmmelaaUni20
import Derived.Shelf.Abstract
import Derived.WalkKit
import Derived.OwnWalkIn
import Derived.TacticsInMore
import Derived.LoopNIn
import Derived.LoopIn
import Derived.KernelRfl
import Derived.Test.YtiifmafolmmelaaProg
set_option linter.unusedVariables false
set_option linter.unusedSimpArgs false
set_option linter.unusedVariables false
namespace Go.Proofs
open Go.RowKit Go.Shelf Go.G

attribute [local go_sem] Oper.semAt_some

set_option maxRecDepth 100000 in
set_option maxHeartbeats 4000000 in
theorem back62_in (F : Fence) (n : Nat) (h62 : F.fn 62) (hro : F.round = none) (hn : 1 ≤ n) (l Bs : Nat) (A : Option Addr) (len cap : Nat) (J : Int → World → Prop) (W : World)
    (hhead : ∀ i W', J i W' → W'.cell? ⟨Bs, 0, none⟩ = some (.slice A len cap))
    (hmem : ∀ i W', J i W' → 0 ≤ i → i < len ∧ ∃ (b off : Nat) (vs : List Value), A = some ⟨b, off, none⟩ ∧ vs.length = 9 ∧ (∀ j v, vs[j]? = some v → W'.cell? ⟨b, off + i.toNat * 9 + j, none⟩ = some v) ∧
      ∃ fn tmps assign body, (Instr.yield l #[.int .i64 i, .agg vs.toArray]).run Try.prog W' = .ok (.round l fn tmps assign body) W' ∧ RoundIn F (n - 1) Try.prog l fn tmps assign body W' (fun e W'' => e = .returned (.bool true) ∧ J (isub .i64 i 1) W''))
    (h0 : J (isub .i64 len 1) W) :
    CallsIn F n Try.prog 62 #[.func (.yield l) #[] #[], .pointer (some ⟨Bs, 0, none⟩)] W fun e W' => ∃ v i, e = .returned v ∧ J i W' ∧ ¬ (0 : Int) ≤ i := by
  refine callsIn_of_wp Try.func62 rfl h62 ?_ hro
  simp only [Try.ntmps62, List.size_toArray, List.length_cons, List.length_nil, Nat.reduceAdd, Nat.reduceSub, Array.replicate_succ, Array.replicate_zero, List.push_toArray, List.append_toArray, List.nil_append, List.cons_append]
  have hW0 := hhead _ _ h0
  have hsub : ∀ x y : Int, isub .i64 x y = wrap64 (x - y) := fun x y => Go.IntWalk.i64_left _
  gi_wp2
  gi_loopw [3] (fun p wr => ∃ i, p = .int .i64 i ∧ J i wr) (fun p _ => (intOf p + 1).toNat)
  case atStart => exact ⟨_, rfl, by rw [← hsub]; exact h0⟩
  case round =>
    obtain ⟨i, rfl, hJ⟩ := hrel
    have hh := hhead _ _ hJ
    by_cases hi : 0 ≤ i
    · obtain ⟨hlt, b, off, vs, rfl, hvs, hcells, fn, tmps, assign, body, hy, hR⟩ := hmem i wr hJ hi
      obtain ⟨v0, v1, v2, v3, v4, v5, v6, v7, v8, rfl⟩ : ∃ v0 v1 v2 v3 v4 v5 v6 v7 v8, vs = [v0, v1, v2, v3, v4, v5, v6, v7, v8] := by
        match vs, hvs with
        | [v0, v1, v2, v3, v4, v5, v6, v7, v8], _ => exact ⟨_, _, _, _, _, _, _, _, _, rfl⟩
      have c0 : wr.cell? ⟨b, off + i.toNat * 9, none⟩ = some v0 := hcells 0 v0 rfl
      have c1 := hcells 1 v1 rfl
      have c2 := hcells 2 v2 rfl
      have c3 := hcells 3 v3 rfl
      have c4 := hcells 4 v4 rfl
      have c5 := hcells 5 v5 rfl
      have c6 := hcells 6 v6 rfl
      have c7 := hcells 7 v7 rfl
      have c8 := hcells 8 v8 rfl
      clear hmem hhead hcells hvs
      gi_wp2
      refine hR.mono ?_
      rintro e W3 ⟨rfl, hJ3⟩
      gi_wp2
      go_roundw
      case rel => exact ⟨_, rfl, by rw [← hsub]; exact hJ3⟩
      case measure =>
        have := isub_lt hi
        rw [hsub] at this
        simp [intOf]
        omega
    · gi_wp2
      go_end0
      exact ⟨⟨_, rfl⟩, i, hJ, by omega⟩

theorem back62 : BackWalk C20 Try.prog 62 U20.msg := fun lp cbb A len cap J W h1 h2 h3 =>
  back62_in (fenceR none) 1 trivial rfl (Nat.le_refl _) lp cbb A len cap J W h1 (fun i W' hJ hi => h2 i W' hJ hi) h3
end Go.Proofs
