import Derived.Test.YtmknondapmmehaaGSort2
set_option linter.unusedVariables false
set_option linter.unusedSimpArgs false
namespace Go.G
set_option maxRecDepth 100000
/-- What slices.Delete of one element asks and comes to. -/
structure DelF {α : Type} (l : List α) (p : Nat) (z : α) : Prop where
  c1 : ile 0 ((p : Nat) : Int) = true
  c2 : ile ((p : Nat) : Int) ((p + 1 : Nat) : Int) = true
  c3 : ile ((p + 1 : Nat) : Int) (l.length : Int) = true
  c4 : ile (l.length : Int) (l.length : Int) = true
  c5 : ieq ((p : Nat) : Int) ((p + 1 : Nat) : Int) = false
  c6 : ile 0 0 = true
  c7 : ile ((p : Nat) : Int) (l.length : Int) = true
  c8 : ile 0 ((p + 1 : Nat) : Int) = true
  c9 : ile 0 (osub ((p : Nat) : Int) 0) = true
  c10 : ile 0 ((l.length - 1 : Nat) : Int) = true
  c11 : ile ((l.length - 1 : Nat) : Int) (l.length : Int) = true
  c12 : ile (l.length : Int) ((l.length - 1 : Nat) : Int) = false
  c13 : ile (oadd 0 (l.length : Int)) (dlen (l.take p ++ l.drop (p + 1) ++ l.drop (l.length - 1))) = true
  c14 : ile 0 (oadd 0 ((l.length - 1 : Nat) : Int)) = true
  c15 : ile 0 (osub (l.length : Int) ((l.length - 1 : Nat) : Int)) = true
  c16 : iadd .i64 (p : Int) 1 = ((p + 1 : Nat) : Int)
  c17 : dlen l = (l.length : Int)
  k1 : dcut l ((p + 1 : Nat) : Int) (oadd ((p + 1 : Nat) : Int) (osub (l.length : Int) ((p + 1 : Nat) : Int))) = l.drop (p + 1)
  k2 : oadd (osub (p : Int) 0) (dlen (l.drop (p + 1))) = ((l.length - 1 : Nat) : Int)
  k3 : dput l (oadd 0 (osub (p : Int) 0)) (l.drop (p + 1)) = some (l.take p ++ l.drop (p + 1) ++ l.drop (l.length - 1))
  k4 : dput (l.take p ++ l.drop (p + 1) ++ l.drop (l.length - 1)) (oadd 0 ((l.length - 1 : Nat) : Int)) (drep (osub (l.length : Int) ((l.length - 1 : Nat) : Int)) z) = some (l.take p ++ l.drop (p + 1) ++ [z])
  k5 : dcut (l.take p ++ l.drop (p + 1) ++ [z]) 0 (oadd 0 ((l.length - 1 : Nat) : Int)) = l.take p ++ l.drop (p + 1)
theorem del_facts {α : Type} {l : List α} {p : Nat} (hlt : p < l.length) (hl : l.length < 1000000000) (z : α) : DelF l p z := by
  have hml : (l.take p ++ l.drop (p + 1)).length = l.length - 1 := by simp; omega
  have hdl : (l.drop (l.length - 1)).length = 1 := by simp; omega
  refine ⟨ile_iff.2 (by omega), ile_iff.2 (by omega), ile_iff.2 (by omega), ile_iff.2 (by omega), ieq_f.2 (by omega), rfl, ile_iff.2 (by omega), ile_iff.2 (by omega), ile_iff.2 (by unfold osub; omega), ile_iff.2 (by omega), ile_iff.2 (by omega), ile_f.2 (by omega), ile_iff.2 (by rw [dlen_def, List.length_append, hml, hdl]; unfold oadd; omega), ile_iff.2 (by unfold oadd; omega), ile_iff.2 (by unfold osub; omega), iadd1 (by omega), rfl, ?_, del_len hlt, del_put hlt, ?_, del_cut2 hml⟩
  · have := del_cut hlt; rwa [dlen_def] at this
  · have := del_put2 (z := z) hml hdl
    rwa [show l.length - 1 + 1 = l.length by omega] at this
theorem dapp_nil {α : Type} {bytes : Nat} {l : List α} (h : l.length * bytes ≤ 140737488355328) (h2 : l.length ≤ 9223372036854775807) : dapp bytes [] l = some l := by
  have := dapp_ok (bytes := bytes) (l := ([] : List α)) (ys := l) (by simpa using h) (by simpa using h2)
  simpa using this
end Go.G
