import Derived.Test.YtmknondapmmehaaGOps2
import Derived.ChangeKeysEq
set_option linter.unusedVariables false
set_option linter.unusedSimpArgs false
namespace Go.G
variable {T : Uni}
section
mutual
def kinds (P : Program) : Nat → TypeId → Option (List K1)
  | 0, _ => none
  | d + 1, t => match P.underlying t with
    | some (.int _) => if tySz P t = some 1 then some [.i] else none
    | some .bool => if tySz P t = some 1 then some [.b] else none
    | some (.struct fs) => if P.stoodInHeld t then none else kindsF P d fs.toList 0
    | some (.array n e) => match kinds P d e with
      | some ks => if tySz P e = some ks.length then some (List.replicate n ks).flatten else none
      | none => none
    | _ => none
def kindsF (P : Program) : Nat → List Field → Nat → Option (List K1)
  | _, [], _ => some []
  | 0, _ :: _, _ => none
  | d + 1, f :: fs, off => if f.offset = off ∧ f.name ≠ "_" then match kinds P d f.type with
      | some ks => if tySz P f.type = some ks.length then match kindsF P d fs (off + ks.length) with
          | some r => some (ks ++ r)
          | none => none
        else none
      | none => none
    else none
end

theorem ceqs_cons {k : K1} {ks : List K1} {c d : CV T} {cs ds : List (CV T)} {r : Bool} (h : ceqs (k :: ks) (c :: cs) (d :: ds) = some r) : ∃ a b, ceq k c d = some a ∧ ceqs ks cs ds = some b ∧ r = (a && b) := by
  simp only [ceqs] at h
  split at h
  · rename_i a b h4 h5
    cases h
    exact ⟨a, b, h4, h5, rfl⟩
  · cases h

theorem ceqs_split : ∀ {ks ks' : List K1} {cs ds : List (CV T)} {r : Bool}, ceqs (ks ++ ks') cs ds = some r → ∃ a b, ceqs ks (cs.take ks.length) (ds.take ks.length) = some a ∧ ceqs ks' (cs.drop ks.length) (ds.drop ks.length) = some b ∧ r = (a && b)
  | [], ks', cs, ds, r, h => ⟨true, r, rfl, by simpa using h, by simp⟩
  | k :: ks, ks', [], _, r, h => by simp [ceqs] at h
  | k :: ks, ks', _ :: _, [], r, h => by simp [ceqs] at h
  | k :: ks, ks', c :: cs, d :: ds, r, h => by
    rw [List.cons_append] at h
    obtain ⟨a, b, h1, h2, rfl⟩ := ceqs_cons h
    obtain ⟨a', b', h3, h4, rfl⟩ := ceqs_split h2
    refine ⟨a && a', b', ?_, by simpa using h4, by simp [Bool.and_assoc]⟩
    simp only [List.length_cons, List.take_succ_cons, ceqs, h1, h3]

theorem flatLen {α : Type} (k : Nat) (l : List α) : (List.replicate k l).flatten.length = k * l.length := by
  induction k with
  | zero => simp
  | succ k ih => rw [List.replicate_succ, List.flatten_cons, List.length_append, ih, Nat.add_mul]; omega

theorem ceqs_len : ∀ {ks : List K1} {cs ds : List (CV T)} {r : Bool}, ceqs ks cs ds = some r → cs.length = ks.length ∧ ds.length = ks.length
  | [], [], [], _, _ => ⟨rfl, rfl⟩
  | [], _ :: _, _, _, h => by simp [ceqs] at h
  | [], [], _ :: _, _, h => by simp [ceqs] at h
  | _ :: _, [], _, _, h => by simp [ceqs] at h
  | _ :: _, _ :: _, [], _, h => by simp [ceqs] at h
  | k :: ks, c :: cs, d :: ds, r, h => by
    obtain ⟨a, b, _, h2, _⟩ := ceqs_cons h
    have := ceqs_len h2
    simp [this]

theorem run_part_mk {P : Program} {t : TypeId} {ag : Bool} {m : Nat} (ha : tyAg P t = some ag) (hm : tySz P t = some m) (h1 : ag = false → m = 1) (vs : List Value) (off : Nat) (hl : off + m ≤ vs.length) (w : World) :
    (part t vs.toArray off).run P w = .ok (mkV ag ((vs.drop off).take m)) w := by
  rw [run_part ha hm]
  cases ag with
  | true => simp [mkV]
  | false =>
    have hm1 := h1 rfl
    subst hm1
    have hlt : off < vs.length := by omega
    simp only [Bool.false_eq_true, if_false, List.getElem?_eq_getElem hlt, mkV]
    congr 1
    simp [List.getD, List.getElem?_drop, hlt]

/-- Whether a type's value is written as an aggregate, along with its kinds. -/
theorem kinds_ag {P : Program} {d : Nat} {t : TypeId} {ks : List K1} (h : kinds P d t = some ks) : ∃ ag, tyAg P t = some ag ∧ (ag = false → ks.length = 1) := by
  cases d with
  | zero => simp [kinds] at h
  | succ d =>
    unfold kinds at h
    unfold tyAg
    cases hu : P.underlying t with
    | none => simp [hu] at h
    | some x =>
      cases x <;> simp only [hu] at h <;> first | (cases h; done) | skip
      case bool => split at h <;> cases h; exact ⟨false, rfl, fun _ => rfl⟩
      case int => split at h <;> cases h; exact ⟨false, rfl, fun _ => rfl⟩
      case array => exact ⟨true, rfl, fun h => by cases h⟩
      case struct => exact ⟨true, rfl, fun h => by cases h⟩

theorem same_eq {k k' : IntKind} (h : IntKind.same k k' = true) : k = k' := by
  cases k <;> cases k' <;> first | rfl | (exact absurd h (by decide))

mutual
theorem kinds_eq {P : Program} (γ : Gh) (w : World) : ∀ (d : Nat) (t : TypeId) (ks : List K1) (cs ds : List (CV T)) (xs ys : List Value) (r : Bool) (ag : Bool) (dd : Nat), kinds P d t = some ks → tyAg P t = some ag → d ≤ dd → RepCs γ w cs xs → RepCs γ w ds ys → ceqs ks cs ds = some r →
    (Op.equalIn dd t (mkV ag xs) (mkV ag ys)).run P w = .ok r w
  | 0, t, ks, cs, ds, xs, ys, r, ag, dd, h, _, _, _, _, _ => by simp [kinds] at h
  | d + 1, t, ks, cs, ds, xs, ys, r, ag, 0, h, ha, hd, hx, hy, he => by omega
  | d + 1, t, ks, cs, ds, xs, ys, r, ag, dd + 1, h, ha, hd, hx, hy, he => by
    unfold kinds at h
    unfold tyAg at ha
    have hxl := hx.length
    have hyl := hy.length
    obtain ⟨hcl, hdl⟩ := ceqs_len he
    cases hu : P.underlying t with
    | none => simp [hu] at h
    | some x =>
      cases x <;> simp only [hu] at h ha <;> first | (cases h; done) | skip
      case int k0 =>
        split at h <;> cases h
        cases ha
        match cs, ds, xs, ys, hx, hy, he with
        | [c], [d'], [x], [y], hx, hy, he =>
          obtain ⟨a0, b0, he1, hb0, rfl⟩ := ceqs_cons he
          simp only [ceqs, Option.some.injEq] at hb0
          subst hb0
          rw [Bool.and_true]
          unfold ceq at he1
          split at he1
          · rename_i X Y
            unfold deq1 at he1
            split at he1
            · rename_i k a k' b heq
              split at he1
              · rename_i hk
                have hk := same_eq hk
                subst hk
                cases he1
                have e1 := RepD.int_iff.1 hx.1; have e2 := RepD.int_iff.1 hy.1
                subst e1; subst e2
                simp [mkV, run_equalIn_int _ dd t k k0 a b hu, beq_dec, ieq]
              · cases he1
            · rename_i heq; cases heq
            · cases he1
          · cases he1
        | [], _, _, _, _, _, _ => simp at hcl
        | _ :: _ :: _, _, _, _, _, _, _ => simp at hcl
      case bool =>
        split at h <;> cases h
        cases ha
        match cs, ds, xs, ys, hx, hy, he with
        | [c], [d'], [x], [y], hx, hy, he =>
          obtain ⟨a0, b0, he1, hb0, rfl⟩ := ceqs_cons he
          simp only [ceqs, Option.some.injEq] at hb0
          subst hb0
          rw [Bool.and_true]
          unfold ceq at he1
          split at he1
          · unfold deq1 at he1
            split at he1
            · rename_i heq; cases heq
            · cases he1
              have e1 := RepD.bool_iff.1 hx.1; have e2 := RepD.bool_iff.1 hy.1
              subst e1; subst e2
              simp [mkV, run_equalIn_bool' _ dd t _ _ hu, beqb]
            · cases he1
          · cases he1
        | [], _, _, _, _, _, _ => simp at hcl
        | _ :: _ :: _, _, _, _, _, _, _ => simp at hcl
      case struct fs =>
        cases ha
        split at h
        · cases h
        · rename_i hst
          simp only [mkV, if_true]
          have hf : P.fieldsOf t = fs := by simp [Program.fieldsOf, hu]
          rw [run_equalIn_struct (P := P) w dd t _ _ (by rw [hf]; exact hu) (by simpa using hst), hf]
          exact kindsF_eq γ w d fs.toList 0 ks cs ds xs ys r dd h (by omega) hx hy (by simpa using he) (by omega) (by omega)
      case array n e =>
        cases ha
        split at h
        · rename_i ks' hks
          split at h
          · rename_i hsz
            cases h
            obtain ⟨i, hi, hii⟩ : ∃ i, P.info? e = some i ∧ i.size = ks'.length := by
              unfold tySz at hsz
              cases hi : P.info? e with
              | none => simp [hi] at hsz
              | some i => simp [hi] at hsz; exact ⟨i, rfl, hsz⟩
            have hce : P.cellsOf e = ks'.length := by simp [Program.cellsOf, hi, hii]
            obtain ⟨ag, ha, h1⟩ := kinds_ag hks
            simp only [mkV, if_true]
            rw [run_equalIn_array w dd _ _ hu hi, hce]
            -- the items one after the other
            have key : ∀ (k j : Nat) (r : Bool), ceqs (List.replicate k ks').flatten (cs.drop (j * ks'.length)) (ds.drop (j * ks'.length)) = some r → j + k = n →
                (Op.eqItems dd e ks'.length xs.toArray ys.toArray (List.range' j k)).run P w = .ok r w := by
              intro k
              induction k with
              | zero =>
                intro j r hr _
                have hr2 := ceqs_len hr
                rw [flatLen, Nat.zero_mul] at hr2
                have e1 : cs.drop (j * ks'.length) = [] := List.eq_nil_of_length_eq_zero hr2.1
                have e2 : ds.drop (j * ks'.length) = [] := List.eq_nil_of_length_eq_zero hr2.2
                rw [e1, e2] at hr
                simp [ceqs] at hr
                subst hr
                simp [Op.eqItems]
              | succ k ih =>
                intro j r hr hjk
                have hlen := ceqs_len hr
                simp only [List.replicate_succ, List.flatten_cons] at hr
                obtain ⟨a, b, h3, h4, rfl⟩ := ceqs_split hr
                have hlx : j * ks'.length + ks'.length ≤ xs.length ∨ ks'.length = 0 := by
                  have h7 := hlen.1
                  rw [flatLen, List.length_drop] at h7
                  rw [← hxl]
                  have h8 : (k + 1) * ks'.length = k * ks'.length + ks'.length := by rw [Nat.add_mul]; omega
                  omega
                have hly : j * ks'.length + ks'.length ≤ ys.length ∨ ks'.length = 0 := by
                  have h7 := hlen.2
                  rw [flatLen, List.length_drop] at h7
                  rw [← hyl]
                  have h8 : (k + 1) * ks'.length = k * ks'.length + ks'.length := by rw [Nat.add_mul]; omega
                  omega
                have hlx' : j * ks'.length + ks'.length ≤ xs.length := by
                  rcases hlx with h | h
                  · exact h
                  · rw [h]; simp
                have hly' : j * ks'.length + ks'.length ≤ ys.length := by
                  rcases hly with h | h
                  · exact h
                  · rw [h]; simp
                have p1 := run_part_mk ha hsz h1 xs (j * ks'.length) hlx' w
                have p2 := run_part_mk ha hsz h1 ys (j * ks'.length) hly' w
                have p3 := kinds_eq γ w d e ks' _ _ _ _ a ag dd hks ha (by omega) ((hx.drop (j * ks'.length)).take ks'.length) ((hy.drop (j * ks'.length)).take ks'.length) h3
                rw [List.drop_drop, List.drop_drop] at h4
                have := ih (j + 1) b (by rw [Nat.add_mul, Nat.one_mul]; exact h4) (by omega)
                simp only [List.range'_succ, Op.eqItems, Sem.run_bind, p1, p2, p3, Result.andThen_ok]
                cases a
                · simp
                · simpa using this
            have := key n 0 r (by simpa using he) (by omega)
            rw [List.range_eq_range']
            exact this
          · cases h
        · cases h
theorem kindsF_eq {P : Program} (γ : Gh) (w : World) : ∀ (d : Nat) (fs : List Field) (off : Nat) (ks : List K1) (cs ds : List (CV T)) (xs ys : List Value) (r : Bool) (dd : Nat), kindsF P d fs off = some ks → d ≤ dd → RepCs γ w cs xs → RepCs γ w ds ys →
    ceqs ks (cs.drop off) (ds.drop off) = some r → off + ks.length ≤ cs.length → off + ks.length ≤ ds.length → (Op.eqFields dd xs.toArray ys.toArray fs).run P w = .ok r w
  | d, [], off, ks, cs, ds, xs, ys, r, dd, h, _, _, _, he, _, _ => by
    have hk : ks = [] := by cases d <;> (unfold kindsF at h; cases h; rfl)
    subst hk
    have hr : r = true := by
      have := ceqs_len he
      have e1 : cs.drop off = [] := List.eq_nil_of_length_eq_zero (by simpa using this.1)
      have e2 : ds.drop off = [] := List.eq_nil_of_length_eq_zero (by simpa using this.2)
      rw [e1, e2] at he
      simpa [ceqs] using he.symm
    subst hr
    simp [Op.eqFields]
  | 0, _ :: _, off, ks, cs, ds, xs, ys, r, dd, h, _, _, _, he, _, _ => by simp [kindsF] at h
  | d + 1, f :: fs, off, ks, cs, ds, xs, ys, r, 0, h, hd, _, _, he, _, _ => by omega
  | d + 1, f :: fs, off, ks, cs, ds, xs, ys, r, dd + 1, h, hd, hx, hy, he, hl1, hl2 => by
    unfold kindsF at h
    split at h
    · rename_i hcond
      obtain ⟨hoff, hname⟩ := hcond
      split at h
      · rename_i ks' hks
        split at h
        · rename_i hsz
          split at h
          · rename_i rest hrest
            cases h
            obtain ⟨ag, ha, h1⟩ := kinds_ag hks
            obtain ⟨a, b, h3, h4, rfl⟩ := ceqs_split he
            have hxl := hx.length
            have hyl := hy.length
            simp only [List.length_append] at hl1 hl2
            have p1 := run_part_mk ha hsz h1 xs off (by omega) w
            have p2 := run_part_mk ha hsz h1 ys off (by omega) w
            have p3 := kinds_eq γ w d f.type ks' _ _ _ _ a ag (dd + 1) hks ha (by omega) ((hx.drop off).take ks'.length) ((hy.drop off).take ks'.length) h3
            rw [List.drop_drop, List.drop_drop] at h4
            have ih := kindsF_eq γ w d fs (off + ks'.length) rest cs ds xs ys b (dd + 1) hrest (by omega) hx hy h4 (by omega) (by omega)
            simp only [Op.eqFields, hname, hoff, ne_eq, not_false_eq_true, if_true, Sem.run_bind, p1, p2, p3, Result.andThen_ok]
            cases a
            · simp
            · simpa using ih
          · cases h
        · cases h
      · cases h
    · cases h
end
end
end Go.G
