import Derived.Test.YtmknondapmmehaaGPut
import Derived.Laws.MakeOwn
set_option linter.unusedVariables false
set_option linter.unusedSimpArgs false
namespace Go.G
variable {T : Uni}
section
variable {C : Ctx} {o : Oper} {σ : St T}
theorem madeCells_zero (z : Array Value) (n : Nat) : madeCells z (n * z.size) = Builtin.zeroCells z n := rfl
/-- make of a slice. -/
theorem kv_mksl {t e : TypeId} {x : Operand} {X : Opd T} {u : T.U} {bytes : Nat} {k : IntKind} {iv : Int} {z : List (DV T.toSig)} {a0 : T.El u} {l : List (T.El u)} {n : Nat}
    (ho : o.op = .makeSlice t x x) (hx : cOpd x = some X) (ht : C.P.underlying t = some (.slice e))
    (hz : ∃ i zv, C.P.info? e = some i ∧ i.zero = some zv ∧ i.bytes = bytes ∧ 0 < bytes ∧ i.size = zv.cells.size ∧ ∀ (imm : Nat → Nat) (w : World), RepDs imm w z zv.cells.toList) (hdec : T.dec u z = some a0)
    (h1 : Rd σ X (.one (.d (.int k iv)))) (hd : dmk bytes iv a0 = some l) (hl : C.E.loc n) : KValid C o σ X.slots (.one (.own u n)) [] [(.h n, some (.r u l false))] n (n + 1) := by
  obtain ⟨i, zv, hi, hzv, hby, hb0, hsz, hrz⟩ := hz
  unfold dmk at hd
  split at hd
  · rename_i hc
    cases hd
    obtain ⟨c1, c2⟩ := hc
    refine kv_newO (g := fun b => .row (some ⟨b, 0, none⟩) iv.toNat iv.toNat) (im := 0) hl fun σ' g1 _ γ a w hinv hs => ?_
    have e1 := repI (Rd.rep hs hx (fun j hj => g1 j hj) h1)
    have hza := T.dec_enc u z a0 hdec
    have hr0 : RepDs γ.imm w (T.enc u a0) zv.cells.toList := by rw [hza]; exact hrz _ _
    have hsu : zv.cells.size = T.size u := by
      have h1 := hr0.length
      rw [T.enc_len] at h1
      simpa using h1.symm
    have hle : iv.toNat ≤ iv.toNat * bytes := Nat.le_mul_of_pos_right _ hb0
    have hmul : (i.bytes : Int) * iv = ((iv.toNat * bytes : Nat) : Int) := by
      rw [hby, Int.natCast_mul, Int.toNat_of_nonneg c1, Int.mul_comm]
    have hrun := run_make (P := C.P) w t e i zv ht hi hzv k k iv iv c1 (by omega) (by rw [hmul]; omega) (by omega)
    rw [hsz, madeCells_zero] at hrun
    refine ⟨_, _, by simp only [execOp, ho, e1, Sem.run_bind, hrun, Result.andThen_ok, Sem.run_pure]; rfl, fun γ' ev b1 b2 b3 => ⟨?_, fun tm => ?_⟩⟩
    · simp only [RepP, RepC]
      exact ⟨some ⟨w.heap.size, 0, none⟩, iv.toNat, iv.toNat, b1, rfl⟩
    · refine row_new (cap := iv.toNat) (b := w.heap.size) ev (zeroCells_rep hr0 iv.toNat) (heap_alloc_at _ _) (fun j v hj => by simpa using hj) (by simp) ?_ (by simpa using b1) b2 (by rw [b3]; simp) tm
      have h1 := (zeroCells_rep hr0 iv.toNat).length
      have h2 := flat_len u (List.replicate iv.toNat a0)
      rw [List.length_replicate] at h2
      rw [← Array.length_toList, ← h1, h2]
      exact Nat.le_refl _
  · cases hd
end
end Go.G
