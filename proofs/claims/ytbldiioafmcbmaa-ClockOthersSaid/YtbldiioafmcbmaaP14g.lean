import Derived.Test.YtbldiioafmcbmaaP14f
set_option linter.unusedVariables false
set_option linter.unusedSimpArgs false
namespace Go.G
set_option maxRecDepth 100000
theorem walk_scan {α σ ε : Type} (c : α → Bool) (upd : Nat → α → σ → σ) (e : ε) (I : Nat → σ → Prop) : ∀ (r : List α) (k : Nat) (s : σ), I k s → (∀ i a s, r[i]? = some a → c a = false → I (k + i) s → I (k + i + 1) (upd (k + i) a s)) →
    (r.any c = true ∧ walkI (fun i x s => if c x then .inr e else .inl (upd i x s)) r k s = .inr e) ∨ (r.any c = false ∧ ∃ s', walkI (fun i x s => if c x then Sum.inr e else Sum.inl (upd i x s)) r k s = .inl s' ∧ I (k + r.length) s')
  | [], k, s, h, _ => .inr ⟨rfl, s, rfl, h⟩
  | a :: r, k, s, h, hs => by
    simp only [walkI, List.any_cons]
    cases hc : c a with
    | true => exact .inl ⟨rfl, by simp⟩
    | false =>
      have h1 := hs 0 a s rfl hc h
      rcases walk_scan c upd e I r (k + 1) (upd k a s) h1 (fun i b t hb hcb ht => by
        have := hs (i + 1) b t (by simpa using hb) hcb (by rw [show k + (i + 1) = k + 1 + i by omega]; exact ht)
        rw [show k + (i + 1) = k + 1 + i by omega] at this
        exact this) with ⟨q1, q2⟩ | ⟨q1, s', q2, q3⟩
      · exact .inl ⟨by simpa using q1, by simpa using q2⟩
      · refine .inr ⟨by simpa using q1, s', by simpa using q2, ?_⟩
        rw [List.length_cons, show k + (r.length + 1) = k + 1 + r.length by omega]
        exact q3

/-- Through a list, with what holds on the way. -/
theorem iter_inv {X ε α σ : Type} {step : X → Option (X ⊕ ε)} {fu : Nat} (l : List α) (st : Nat → σ → X) (g : Nat → α → σ → σ) (I : Nat → σ → Prop) (fin : σ → ε) (s0 : σ) (hf : l.length < fu) (h0 : I 0 s0)
    (h : ∀ i a s, l[i]? = some a → I i s → step (st i s) = some (.inl (st (i + 1) (g i a s))) ∧ I (i + 1) (g i a s))
    (he : ∀ s, I l.length s → step (st l.length s) = some (.inr (fin s))) : ∃ s, I l.length s ∧ iter step fu (st 0 s0) = some (fin s) := by
  have := iter_walk (step := step) (fu := fu) (ε := ε) l st (fun i a s => .inl (g i a s)) I fin s0 hf h0 (fun i a s hi hI => h i a s hi hI) he
  have key : ∀ (r : List α) (k : Nat) (s : σ), I k s → (∀ i a s, r[i]? = some a → I (k + i) s → I (k + i + 1) (g (k + i) a s)) → ∃ s', walkI (ε := ε) (fun i a s => .inl (g i a s)) r k s = .inl s' ∧ I (k + r.length) s' := by
    intro r
    induction r with
    | nil => exact fun k s hs _ => ⟨s, rfl, hs⟩
    | cons a r ih =>
      intro k s hs hg
      obtain ⟨s', h1, h2⟩ := ih (k + 1) (g k a s) (hg 0 a s rfl hs) (fun i b t hb ht => by
        have := hg (i + 1) b t (by simpa using hb) (by rw [show k + (i + 1) = k + 1 + i by omega]; exact ht)
        rw [show k + (i + 1) = k + 1 + i by omega] at this
        exact this)
      refine ⟨s', by simpa [walkI] using h1, ?_⟩
      rw [List.length_cons, show k + (r.length + 1) = k + 1 + r.length by omega]
      exact h2
  obtain ⟨s', h1, h2⟩ := key l 0 s0 h0 (fun i a s hi hI => by
    rw [Nat.zero_add] at hI ⊢
    exact (h i a s hi hI).2)
  rw [h1] at this
  rw [Nat.zero_add] at h2
  exact ⟨s', h2, this⟩

def due (n : Int) (x : Alarm14) : Bool := ieq x.At n
def dueIDs (n : Int) (l : List Alarm14) : List Int := (l.filter (due n)).map (·.ID)
def rest (n : Int) (l : List Alarm14) : List Alarm14 := l.filter (fun x => !due n x)
def tickF (n : Int) (l : List Alarm14) : (Int × List Alarm14 × Unit) × List Int × Unit :=
  bif !validB n l || ieq n 1099511627776 then (stT 0 [], [], ()) else (stT (n + 1) (rest (n + 1) l), dueIDs (n + 1) l, ())

theorem tickR (fu : Nat) (n : Int) (l : List Alarm14) (hf : l.length < fu) (hl : l.length < 1000000000) : s12 fu n l = some (tickF n l) := by
  unfold s12 tickF
  rw [validR fu n l hf (by omega)]
  cases hv : validB n l with
  | false => rfl
  | true =>
    obtain ⟨hV, e1, e2, hlen⟩ := (valid_iff n l).1 hv
    simp only [Bool.not_true, Bool.false_or]
    cases hm : ieq n 1099511627776 with
    | true => rfl
    | false =>
      simp only [cond_false]
      rw [iadd64 (by omega)]
      obtain ⟨s, hs, hit⟩ := iter_inv (step := t12_1 fu) (fu := fu) l (fun j (s : List Int × List Alarm14) => ((), ((), ((), ((), ((j : Int), (s.1, (s.2, ((n + 1, ((), ())), ((0, ((), ())), ((n, (l, ())), ())))))))))))
        (fun _ x s => bif due (n + 1) x then (s.1 ++ [x.ID], s.2) else (s.1, s.2 ++ [x])) (fun i s => s.1 = dueIDs (n + 1) (l.take i) ∧ s.2 = rest (n + 1) (l.take i))
        (fun s => .inl ((), ((), ((), (s.1, (s.2, ((n + 1, ((), ())), ((0, ((), ())), ((n, (l, ())), ()))))))))) ([], []) hf ⟨rfl, rfl⟩
        (fun i x s hi hI => by
          have h1 := getElem?_lt hi
          obtain ⟨a, b⟩ := s
          obtain ⟨hI1, hI2⟩ := hI
          simp only at hI1 hI2
          have la : a.length ≤ i := by rw [hI1]; unfold dueIDs; rw [List.length_map]; have := List.length_filter_le (due (n + 1)) (l.take i); rw [List.length_take] at this; omega
          have lb : b.length ≤ i := by rw [hI2]; have := List.length_filter_le (fun x => !due (n + 1) x) (l.take i); rw [List.length_take] at this; unfold rest; omega
          have d1 : dapp 8 a [x.ID] = some (a ++ [x.ID]) := dapp_ok (by simp; omega) (by simp; omega)
          have d2 : dapp 16 b [(⟨x.ID, x.At⟩ : Alarm14)] = some (b ++ [x]) := dapp_ok (by simp; omega) (by simp; omega)
          have ht : l.take (i + 1) = l.take i ++ [x] := by rw [List.take_add_one, hi]; rfl
          simp only [t12_1, dlen_def, ilt_len h1, dat_nat, hi, iadd1 (show i < 9223372036854775807 by omega), d1, d2, ht]
          have hdu : ieq x.At (n + 1) = due (n + 1) x := rfl
          rw [hdu]
          cases hd : due (n + 1) x with
          | true => exact ⟨rfl, by simp [hI1, dueIDs, hd], by simp [hI2, rest, hd]⟩
          | false => exact ⟨rfl, by simp [hI1, dueIDs, hd], by simp [hI2, rest, hd]⟩)
        (fun s _ => by simp only [t12_1, dlen_def, ilt_end])
      rw [show ((0 : Nat) : Int) = 0 from rfl] at hit
      rw [hit]
      simp only [List.take_length] at hs
      simp only [hs.1, hs.2, stT]
end Go.G
