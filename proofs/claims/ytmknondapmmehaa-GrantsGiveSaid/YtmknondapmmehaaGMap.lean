import Derived.Test.YtmknondapmmehaaGOps7
import Derived.MapKept
set_option linter.unusedVariables false
set_option linter.unusedSimpArgs false
namespace Go.G
variable {T : Uni}

def zShape (P : Program) (t : TypeId) : Option (List (CV T)) :=
  match P.info? t with
  | some i => match i.zero with
    | some (.agg cs) => match tyAg P t with
      | some true => zCVs cs.toList
      | _ => none
    | some v => match tyAg P t, zCV v with
      | some false, some c => some [c]
      | _, _ => none
    | none => none
  | none => none

theorem zShape_run {P : Program} {γ : Gh} {w : World} {t : TypeId} {q : List (CV T)} {ag : Bool} (h : zShape P t = some q) (ha : tyAg P t = some ag) : ∃ z, (zeroValue t).run P w = .ok z w ∧ RepP γ w (shp ag q) z := by
  unfold zShape at h
  split at h
  · rename_i i hi
    split at h
    · rename_i cs hz
      rw [ha] at h
      cases ag with
      | false => simp at h
      | true =>
        simp only at h
        refine ⟨.agg cs, by simp [zeroValue, typeInfo, hi, hz], ?_⟩
        simp only [shp, RepP]
        exact ⟨cs.toList, by simp, zCVs_rep h⟩
    · rename_i v _ hz
      rw [ha] at h
      cases ag with
      | true => simp at h
      | false =>
        split at h
        · rename_i x hx
          cases h
          refine ⟨v, by simp [zeroValue, typeInfo, hi, hz], ?_⟩
          simp only [shp, RepP]
          rename_i h1
          exact zCV_rep (by assumption)
        · cases h
    · cases h
  · cases h

/-- What a search has found, beside what it should find. -/
def Found (imm : Nat → Nat) (w : World) (uv : T.U) (key : Value) (es : List MapEntry) (i0 : Nat) : Option (Nat × T.El uv) → Option (Nat × Value) → Prop
  | none, none => True
  | some (i, q), some (j, v) => i = j ∧ (∃ vs, v = mkV (T.ag uv) vs ∧ RepDs imm w (T.enc uv q) vs) ∧ i0 ≤ i ∧ ∃ e, es[i - i0]? = some e ∧ e.key = key
  | _, _ => False

def mfindI {α β : Type} (eq : α → α → Bool) : List (α × β) → α → Nat → Option (Nat × β)
  | [], _, _ => none
  | (k', v) :: r, k, i => if eq k k' then some (i, v) else mfindI eq r k (i + 1)

theorem mfindI_find {α β : Type} (eq : α → α → Bool) (k : α) : ∀ (l : List (α × β)) (i : Nat), (mfindI eq l k i).map (·.2) = mfind eq l k
  | [], _ => rfl
  | (k', v) :: r, i => by
    have ih := mfindI_find eq k r (i + 1)
    simp only [mfindI, mfind, List.find?_cons] at ih ⊢
    by_cases h : eq k k' = true
    · simp [h]
    · simp only [h, Bool.false_eq_true, if_false]
      exact ih

def mputI {α β : Type} (l : List (α × β)) (k : α) (v : β) : Option (Nat × β) → List (α × β)
  | some (i, _) => l.set i (k, v)
  | none => l ++ [(k, v)]

theorem mputI_set {α β : Type} (eq : α → α → Bool) (k : α) (v : β) : ∀ (l : List (α × β)) (i : Nat), mset eq l k v = match mfindI eq l k i with
    | some (j, _) => l.set (j - i) (k, v)
    | none => l ++ [(k, v)]
  | [], _ => rfl
  | (k', x) :: r, i => by
    have ih := mputI_set eq k v r (i + 1)
    simp only [mset, mfindI]
    by_cases h : eq k k' = true
    · simp [h]
    · simp only [h, Bool.false_eq_true, if_false]
      rw [ih]
      cases hf : mfindI eq r k (i + 1) with
      | none => rfl
      | some q =>
        obtain ⟨j, q⟩ := q
        have hj : ∀ (l : List (α × β)) (i j : Nat) (q : β), mfindI eq l k i = some (j, q) → i ≤ j := by
          intro l
          induction l with
          | nil => intro i j q h; simp [mfindI] at h
          | cons y ys ih2 =>
            intro i j q h
            obtain ⟨y1, y2⟩ := y
            simp only [mfindI] at h
            split at h
            · simp at h; omega
            · have := ih2 _ _ _ h; omega
        have := hj _ _ _ _ hf
        simp only
        rw [show j - i = (j - (i + 1)) + 1 by omega]
        rfl

section
variable {P : Program} {imm : Nat → Nat} {γ : Gh} {w : World}

theorem deqs_ceqs : ∀ (ks : List K1) (xs ys : List (DV T.toSig)), ceqs ks (xs.map CV.d) (ys.map CV.d) = deqs ks xs ys
  | [], [], [] => rfl
  | k :: ks, x :: xs, y :: ys => by simp only [List.map_cons, ceqs, deqs, ceq, deqs_ceqs ks xs ys]
  | [], [], _ :: _ => rfl
  | [], _ :: _, _ => rfl
  | _ :: _, [], _ => rfl
  | _ :: _, _ :: _, [] => rfl

theorem deqs_true : ∀ {ks : List K1} {cs ds : List (DV T.toSig)} {xs ys : List Value}, deqs ks cs ds = some true → RepDs imm w cs xs → RepDs imm w ds ys → xs = ys
  | [], [], [], [], [], _, _, _ => rfl
  | k :: ks, c :: cs, d :: ds, x :: xs, y :: ys, h, hx, hy => by
    simp only [deqs] at h
    split at h
    · rename_i a b h1 h2
      simp only [Option.some.injEq, Bool.and_eq_true] at h
      obtain ⟨rfl, rfl⟩ := h
      rw [deqs_true h2 hx.2 hy.2]
      congr 1
      have e1 := hx.1
      have e2 := hy.1
      unfold deq1 at h1
      split at h1
      · split at h1
        · rename_i hk
          simp only [Option.some.injEq, ieq, decide_eq_true_eq] at h1
          have hk := same_eq hk
          subst h1; subst hk
          rw [RepD.int_iff.1 e1, RepD.int_iff.1 e2]
        · cases h1
      · simp only [Option.some.injEq, beqb, beq_iff_eq] at h1
        subst h1
        rw [RepD.bool_iff.1 e1, RepD.bool_iff.1 e2]
      · cases h1
    · cases h
  | [], _ :: _, _, _, _, h, _, _ => by simp [deqs] at h
  | [], [], _ :: _, _, _, h, _, _ => by simp [deqs] at h
  | _ :: _, [], _, _, _, h, _, _ => by simp [deqs] at h
  | _ :: _, _ :: _, [], _, _, h, _, _ => by simp [deqs] at h
  | [], [], [], _ :: _, _, _, h, _ => h.elim
  | [], [], [], [], _ :: _, _, _, h => h.elim
  | _ :: _, _ :: _, _ :: _, [], _, _, h, _ => h.elim
  | _ :: _, _ :: _, _ :: _, _ :: _, [], _, _, h => h.elim

def Plain1 (v : Value) : Prop := match v with
  | .int .. | .bool _ => True
  | _ => False

theorem deqs_plain : ∀ {ks : List K1} {cs ds : List (DV T.toSig)} {xs : List Value} {r : Bool}, deqs ks cs ds = some r → RepDs imm w cs xs → ∀ x ∈ xs, Plain1 x
  | [], [], [], [], _, _, _ => by simp
  | k :: ks, c :: cs, d :: ds, x :: xs, r, h, hx => by
    simp only [deqs] at h
    split at h
    · rename_i a b h1 h2
      intro y hy
      rcases List.mem_cons.1 hy with rfl | hy
      · have e1 := hx.1
        unfold deq1 at h1
        split at h1
        · rw [RepD.int_iff.1 e1]; trivial
        · rw [RepD.bool_iff.1 e1]; trivial
        · cases h1
      · exact deqs_plain h2 hx.2 y hy
    · cases h
  | [], _ :: _, _, _, _, h, _ => by simp [deqs] at h
  | [], [], _ :: _, _, _, h, _ => by simp [deqs] at h
  | _ :: _, [], _, _, _, h, _ => by simp [deqs] at h
  | _ :: _, _ :: _, [], _, _, h, _ => by simp [deqs] at h
  | [], [], [], _ :: _, _, _, h => h.elim
  | _ :: _, _ :: _, _ :: _, [], _, _, h => h.elim

theorem sameBits_plain {v : Value} (h : Plain1 v) (n : Nat) : Instr.sameBits n v v = true := by
  cases v <;> first | exact h.elim | skip
  all_goals (cases n <;> simp [Instr.sameBits])

theorem sameBits_mkV {ag : Bool} {vs : List Value} (h : ∀ x ∈ vs, Plain1 x) (h1 : ag = false → vs.length = 1) (n : Nat) : Instr.sameBits (n + 1) (mkV ag vs) (mkV ag vs) = true := by
  cases ag with
  | false =>
    match vs, h1 rfl with
    | [v], _ => exact sameBits_plain (h v (by simp)) _
  | true =>
    simp only [mkV, if_true, Instr.sameBits, beq_self_eq_true, Bool.true_and]
    rw [List.all_eq_true]
    rintro ⟨x, y⟩ hm
    have : x = y ∧ x ∈ vs := by
      clear h h1
      induction vs with
      | nil => simp at hm
      | cons v vs ih =>
        simp only [List.zip_cons_cons, List.mem_cons, Prod.mk.injEq] at hm
        rcases hm with ⟨rfl, rfl⟩ | hm
        · simp
        · have := ih hm
          exact ⟨this.1, by simp [this.2]⟩
    obtain ⟨rfl, hx⟩ := this
    exact sameBits_plain (h x hx) _

theorem Found.cons {uv : T.U} {es : List MapEntry} {e : MapEntry} {i0 : Nat} {a : Option (Nat × T.El uv)} {key : Value} {b : Option (Nat × Value)} (h : Found imm w uv key es (i0 + 1) a b) : Found imm w uv key (e :: es) i0 a b := by
  cases a with
  | none => cases b <;> exact h
  | some x =>
    cases b with
    | none => exact h
    | some y =>
      obtain ⟨h1, h2, h3, h4⟩ := h
      refine ⟨h1, h2, by omega, ?_⟩
      rw [show x.1 - i0 = (x.1 - (i0 + 1)) + 1 by omega]
      simpa using h4

structure KeyT (P : Program) (uk : T.U) (t : TypeId) : Prop where
  hk : kinds P 50 t = some (T.kds uk)
  ha : tyAg P t = some (T.ag uk)
  ik : T.isKey uk = true

theorem key_equal {t : TypeId} {uk : T.U} (K : KeyT P uk t) {k k' : T.El uk} {kv vs : List Value} (hr : RepDs γ.imm w (T.enc uk k) kv) (hr' : RepDs γ.imm w (T.enc uk k') vs) : (Op.equal t (mkV (T.ag uk) kv) (mkV (T.ag uk) vs)).run P w = .ok (T.keq uk k k') w :=
  kinds_eq γ w 50 t (T.kds uk) _ _ kv vs _ (T.ag uk) 10000 K.hk K.ha (by omega) hr.cs hr'.cs (by rw [deqs_ceqs]; exact T.keq_row uk k k' K.ik)

theorem findAsking_run {t : TypeId} {uk uv : T.U} (K : KeyT P uk t) {k : T.El uk} {kv : List Value} (hr : RepDs γ.imm w (T.enc uk k) kv) :
    ∀ (l : List (T.El uk × T.El uv)) (es : List MapEntry) (i : Nat), RepM γ.imm w uk uv l es → ∃ r', (Instr.findAsking t (mkV (T.ag uk) kv) es i).run P w = .ok r' w ∧ Found γ.imm w uv (mkV (T.ag uk) kv) es i (mfindI (T.keq uk) l k i) r'
  | [], [], i, _ => ⟨none, by simp [Instr.findAsking], trivial⟩
  | (k', v) :: l, e :: es, i, hm => by
    obtain ⟨⟨vs, h1, h2⟩, h3, h4⟩ := hm
    have key := key_equal K hr h2
    rw [← h1] at key
    simp only [mfindI]
    by_cases he : T.keq uk k k' = true
    · rw [he] at key
      rw [if_pos he]
      refine ⟨some (i, e.val), by simp [Instr.findAsking, key], rfl, h3, Nat.le_refl _, e, by simp, ?_⟩
      rw [h1, deqs_true (by rw [T.keq_row uk k k' K.ik, he]) hr h2]
    · rw [Bool.not_eq_true] at he
      rw [he] at key
      rw [if_neg (by simp [he])]
      obtain ⟨r', g1, g2⟩ := findAsking_run K hr l es (i + 1) h4
      exact ⟨r', by simp [Instr.findAsking, key, g1], g2.cons⟩
  | [], _ :: _, _, hm => hm.elim
  | _ :: _, [], _, hm => hm.elim

theorem eq_str (a b : ByteArray) : (a == b) = (a.toList == b.toList) := Go.beq_toListBytes a b

theorem sameNow_eq {t : TypeId} {d : TypeDesc} {x y : Value} {b b' : Bool} (hu : P.underlying t = some d) (hs : Instr.sameNow d x y = some b) (he : (Op.equal t x y).run P w = .ok b' w) : b = b' := by
  have hm : Op.equal t x y = Op.equalIn (9999 + 1) t x y := rfl
  rw [hm] at he
  unfold Instr.sameNow at hs
  split at hs
  · split at hs
    · rename_i hk
      subst hk
      cases hs
      rw [run_equalIn_int w 9999 t _ _ _ _ hu] at he
      cases he
      rfl
    · cases hs
  · cases hs
    rw [run_equalIn_string w 9999 t _ _ hu] at he
    cases he
    rw [eq_str]
  · cases hs
    rw [run_equalIn_bool' w 9999 t _ _ hu] at he
    cases he
    rfl
  · cases hs

theorem findNow_run {t : TypeId} {d : TypeDesc} {uk uv : T.U} (K : KeyT P uk t) {k : T.El uk} {kv : List Value} (hu : P.underlying t = some d) (hr : RepDs γ.imm w (T.enc uk k) kv) :
    ∀ (l : List (T.El uk × T.El uv)) (es : List MapEntry) (i : Nat) (r' : Option (Nat × Value)), RepM γ.imm w uk uv l es → Instr.findNow d (mkV (T.ag uk) kv) es i = some r' → Found γ.imm w uv (mkV (T.ag uk) kv) es i (mfindI (T.keq uk) l k i) r'
  | [], [], i, r', _, hf => by
    simp only [Instr.findNow, Option.some.injEq] at hf
    subst hf
    trivial
  | (k', v) :: l, e :: es, i, r', hm, hf => by
    obtain ⟨⟨vs, h1, h2⟩, h3, h4⟩ := hm
    have key := key_equal K hr h2
    rw [← h1] at key
    simp only [mfindI]
    simp only [Instr.findNow] at hf
    split at hf
    · rename_i hs
      cases hf
      have he := sameNow_eq hu hs key
      rw [if_pos he.symm]
      exact ⟨rfl, h3, Nat.le_refl _, e, by simp, by rw [h1, deqs_true (by rw [T.keq_row uk k k' K.ik, ← he]) hr h2]⟩
    · rename_i hs
      have he := sameNow_eq hu hs key
      rw [if_neg (by simp [← he])]
      exact (findNow_run K hu hr l es (i + 1) r' h4 hf).cons
    · cases hf
  | [], _ :: _, _, _, hm, _ => hm.elim
  | _ :: _, [], _, _, hm, _ => hm.elim

theorem findKey_run {t : TypeId} {uk uv : T.U} (K : KeyT P uk t) {k : T.El uk} {kv : List Value} (hr : RepDs γ.imm w (T.enc uk k) kv) {l : List (T.El uk × T.El uv)} {es : List MapEntry} (hm : RepM γ.imm w uk uv l es) :
    ∃ r', (Instr.findKey t (mkV (T.ag uk) kv) es).run P w = .ok r' w ∧ Found γ.imm w uv (mkV (T.ag uk) kv) es 0 (mfindI (T.keq uk) l k 0) r' := by
  cases hu : P.underlying t with
  | none => have := K.ha; simp [tyAg, hu] at this
  | some d =>
    cases hf : Instr.findNow d (mkV (T.ag uk) kv) es 0 with
    | some r' => exact ⟨r', by simp [Instr.findKey, run_underlying hu, hf], findNow_run K hu hr _ _ _ _ hm hf⟩
    | none =>
      obtain ⟨r', g1, g2⟩ := findAsking_run K hr l es 0 hm
      exact ⟨r', by simp [Instr.findKey, run_underlying hu, hf, g1], g2⟩

mutual
theorem checkKey_run (em : Bool) : ∀ (d : Nat) (t : TypeId) (ks : List K1) (ag : Bool) (vs : List Value) (dd : Nat), kinds P d t = some ks → tyAg P t = some ag → d ≤ dd → vs.length = ks.length → (Instr.checkKey em dd t (mkV ag vs)).run P w = .ok () w
  | 0, t, ks, ag, vs, dd, h, _, _, _ => by simp [kinds] at h
  | d + 1, t, ks, ag, vs, 0, h, ha, hd, hl => by omega
  | d + 1, t, ks, ag, vs, dd + 1, h, ha, hd, hl => by
    unfold kinds at h
    unfold tyAg at ha
    cases hu : P.underlying t with
    | none => simp [hu] at h
    | some x =>
      cases x <;> simp only [hu] at h ha <;> first | (cases h; done) | skip
      case int => simp [Instr.checkKey, run_underlying hu]
      case bool => simp [Instr.checkKey, run_underlying hu]
      case struct fs =>
        cases ha
        split at h
        · cases h
        · simp only [mkV, if_true]
          rw [Instr.checkKey]
          simp only [Sem.run_bind, run_underlying hu, Result.andThen_ok]
          rw [← Array.forIn_toList]
          have h5 := checkFields_run em d fs.toList 0 ks vs dd h (by omega) (by omega)
          simp only [h5, Result.andThen_ok, Sem.run_pure]
      case array n e =>
        cases ha
        split at h
        · rename_i ks' hks
          split at h
          · rename_i hsz
            cases h
            obtain ⟨ag, ha, h1⟩ := kinds_ag hks
            rw [flatLen] at hl
            simp only [mkV, if_true]
            rw [Instr.checkKey]
            simp only [Sem.run_bind, run_underlying hu, Result.andThen_ok]
            simp only [Std.Legacy.Range.forIn_eq_forIn_range', Std.Legacy.Range.size, Nat.sub_zero, Nat.add_one_sub_one, Nat.div_one]
            have key : ∀ (k j : Nat), j + k = n → (forIn (List.range' j k) PUnit.unit fun i _ => do
                Instr.checkKey em dd e (← part e vs.toArray (i * (← sizeOf e)))
                pure (ForInStep.yield PUnit.unit) : Sem PUnit).run P w = .ok () w := by
              intro k
              induction k with
              | zero => intro j _; simp
              | succ k ih =>
                intro j hj
                have h8 : n * ks'.length = j * ks'.length + (k + 1) * ks'.length := by rw [← hj, Nat.add_mul]
                have h9 : (k + 1) * ks'.length = k * ks'.length + ks'.length := by rw [Nat.add_mul]; omega
                have p1 := run_part_mk ha hsz h1 vs (j * ks'.length) (by omega) w
                have p2 := checkKey_run em d e ks' ag ((vs.drop (j * ks'.length)).take ks'.length) dd hks ha (by omega) (by simp; omega)
                simp only [List.range'_succ, List.forIn_cons, Sem.run_bind, run_sizeOf hsz, Result.andThen_ok, p1, p2, Sem.run_pure]
                have := ih (j + 1) (by omega)
                simpa using this
            have h5 := key n 0 (by omega)
            simp only [h5, Result.andThen_ok, Sem.run_pure]
          · cases h
        · cases h
theorem checkFields_run (em : Bool) : ∀ (d : Nat) (fs : List Field) (off : Nat) (ks : List K1) (vs : List Value) (dd : Nat), kindsF P d fs off = some ks → d ≤ dd → off + ks.length ≤ vs.length →
    (forIn fs PUnit.unit fun f _ => if f.name ≠ "_" then do
        let x ← part f.type vs.toArray f.offset
        Instr.checkKey em dd f.type x
        pure (ForInStep.yield PUnit.unit)
      else pure (ForInStep.yield PUnit.unit) : Sem PUnit).run P w = .ok () w
  | d, [], off, ks, vs, dd, _, _, _ => by simp
  | 0, _ :: _, off, ks, vs, dd, h, _, _ => by simp [kindsF] at h
  | d + 1, f :: fs, off, ks, vs, 0, h, hd, hl => by omega
  | d + 1, f :: fs, off, ks, vs, dd + 1, h, hd, hl => by
    unfold kindsF at h
    split at h
    · rename_i hcond
      obtain ⟨hoff, hname⟩ := hcond
      split at h
      · rename_i ks' hks
        split at h
        · rename_i hsz
          split at h
          · rename_i rest hrest
            cases h
            obtain ⟨ag, ha, h1⟩ := kinds_ag hks
            simp only [List.length_append] at hl
            have p1 := run_part_mk ha hsz h1 vs off (by omega) w
            have p2 := checkKey_run em d f.type ks' ag ((vs.drop off).take ks'.length) (dd + 1) hks ha (by omega) (by simp; omega)
            have ih := checkFields_run em d fs (off + ks'.length) rest vs (dd + 1) hrest (by omega) (by omega)
            simp only [List.forIn_cons, Sem.run_bind, hname, hoff, ne_eq, not_false_eq_true, if_true, p1, p2, Result.andThen_ok, Sem.run_pure]
            simpa using ih
          · cases h
        · cases h
      · cases h
    · cases h
end
end
end Go.G
