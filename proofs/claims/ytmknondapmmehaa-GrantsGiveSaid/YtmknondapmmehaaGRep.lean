import Derived.Test.YtmknondapmmehaaGDef
import Derived.Orders
import Derived.Below
import Derived.Tactics2
set_option linter.unusedVariables false
set_option linter.unusedSimpArgs false
namespace Go.G
variable {T : Uni}

inductive GV where
  | blk (b : Nat)
  | row (A : Option Addr) (len cap : Nat)

structure Gh where
  bt : Nat → Option GV
  own : Nat → Option Nat
  imm : Nat → Nat

inductive RepD (T : Uni) (imm : Nat → Nat) (w : World) : DV T.toSig → Value → Prop
  | int (k n) : RepD T imm w (.int k n) (.int k n)
  | bool (b) : RepD T imm w (.bool b) (.bool b)
  | str (s) : RepD T imm w (.str s) (.string s)
  | nil (u A cap) : RepD T imm w (.sl u []) (.slice A 0 cap)
  | sl (u) (l : List (T.El u)) (b off cap : Nat) (vals : Nat → Nat → Value) (hc : l.length ≤ cap) (hb : b < w.heap.size) (hi : off + l.length * T.size u ≤ imm b)
      (hv : ∀ i a, l[i]? = some a → ∀ j d, (T.enc u a)[j]? = some d → w.cell? ⟨b, off + i * T.size u + j, none⟩ = some (vals i j))
      (hr : ∀ i a, l[i]? = some a → ∀ j d, (T.enc u a)[j]? = some d → RepD T imm w d (vals i j)) : RepD T imm w (.sl u l) (.slice (some ⟨b, off, none⟩) l.length cap)

section
variable {imm imm' : Nat → Nat} {w w' : World}

/-- From this cell on these data. -/
def RowAt (imm : Nat → Nat) (w : World) (b off : Nat) (xs : List (DV T.toSig)) : Prop :=
  ∀ j d, xs[j]? = some d → ∃ v, w.cell? ⟨b, off + j, none⟩ = some v ∧ RepD T imm w d v

def RowsAt (imm : Nat → Nat) (w : World) (b off : Nat) (u : T.U) (l : List (T.El u)) : Prop :=
  ∀ i a, l[i]? = some a → RowAt imm w b (off + i * T.size u) (T.enc u a)

theorem RepD.int_iff {k n v} : RepD T imm w (.int k n) v ↔ v = .int k n := ⟨fun h => by cases h; rfl, fun h => h ▸ .int k n⟩
theorem RepD.bool_iff {b v} : RepD T imm w (.bool b) v ↔ v = .bool b := ⟨fun h => by cases h; rfl, fun h => h ▸ .bool b⟩
theorem RepD.str_iff {s v} : RepD T imm w (.str s) v ↔ v = .string s := ⟨fun h => by cases h; rfl, fun h => h ▸ .str s⟩
theorem RepD.sl_iff {u : T.U} {l : List (T.El u)} {v : Value} : RepD T imm w (.sl u l) v ↔ ∃ A cap, v = .slice A l.length cap ∧ l.length ≤ cap ∧
    (l = [] ∨ ∃ b off, A = some ⟨b, off, none⟩ ∧ b < w.heap.size ∧ off + l.length * T.size u ≤ imm b ∧ RowsAt imm w b off u l) := by
  constructor
  · intro h
    cases h with
    | nil _ A cap => exact ⟨A, cap, rfl, Nat.zero_le _, .inl rfl⟩
    | sl _ _ b off cap vals hc hb hi hv hr => exact ⟨_, cap, rfl, hc, .inr ⟨b, off, rfl, hb, hi, fun i a ha j d hd => ⟨_, hv i a ha j d hd, hr i a ha j d hd⟩⟩⟩
  · rintro ⟨A, cap, rfl, hc, rfl | ⟨b, off, rfl, hb, hi, hr⟩⟩
    · exact .nil u A cap
    · refine .sl u l b off cap (fun i j => (w.cell? ⟨b, off + i * T.size u + j, none⟩).getD undef) hc hb hi (fun i a ha j d hd => ?_) fun i a ha j d hd => ?_
      · obtain ⟨v, h1, _⟩ := hr i a ha j d hd
        rw [h1]; rfl
      · obtain ⟨v, h1, h2⟩ := hr i a ha j d hd
        rw [h1]; exact h2

/-- Data that were there are still there. -/
structure DEvo (imm : Nat → Nat) (w : World) (imm' : Nat → Nat) (w' : World) : Prop where
  size : w.heap.size ≤ w'.heap.size
  mono : ∀ b, b < w.heap.size → imm b ≤ imm' b
  low : ∀ b i, b < w.heap.size → i < imm b → w'.cell? ⟨b, i, none⟩ = w.cell? ⟨b, i, none⟩

theorem DEvo.refl (imm : Nat → Nat) (w : World) : DEvo imm w imm w := ⟨Nat.le_refl _, fun _ _ => Nat.le_refl _, fun _ _ _ _ => rfl⟩
theorem DEvo.trans {imm'' : Nat → Nat} {w'' : World} (h : DEvo imm w imm' w') (k : DEvo imm' w' imm'' w'') : DEvo imm w imm'' w'' :=
  ⟨Nat.le_trans h.size k.size, fun b hb => Nat.le_trans (h.mono b hb) (k.mono b (Nat.lt_of_lt_of_le hb h.size)),
    fun b i hb hi => (k.low b i (Nat.lt_of_lt_of_le hb h.size) (Nat.lt_of_lt_of_le hi (h.mono b hb))).trans (h.low b i hb hi)⟩

theorem getElem?_lt {α : Type} {l : List α} {i : Nat} {a : α} (h : l[i]? = some a) : i < l.length := (List.getElem?_eq_some_iff.1 h).1

theorem row_bound {u : T.U} {l : List (T.El u)} {i j : Nat} {a : T.El u} {d : DV T.toSig} (ha : l[i]? = some a) (hd : (T.enc u a)[j]? = some d) : i * T.size u + j < l.length * T.size u := by
  have h1 := getElem?_lt ha
  have h2 := getElem?_lt hd
  rw [T.enc_len] at h2
  have : (i + 1) * T.size u ≤ l.length * T.size u := Nat.mul_le_mul_right _ h1
  rw [Nat.add_mul] at this
  omega

theorem RepD.evo (E : DEvo imm w imm' w') {d : DV T.toSig} {v : Value} (h : RepD T imm w d v) : RepD T imm' w' d v := by
  induction h with
  | int k n => exact .int k n
  | bool b => exact .bool b
  | str s => exact .str s
  | nil u A cap => exact .nil u A cap
  | sl u l b off cap vals hc hb hi hv hr ih =>
    refine .sl u l b off cap vals hc (Nat.lt_of_lt_of_le hb E.size) (Nat.le_trans hi (E.mono b hb)) (fun i a ha j d hd => ?_) ih
    have := row_bound ha hd
    rw [E.low b _ hb (by omega)]
    exact hv i a ha j d hd

theorem RowAt.evo (E : DEvo imm w imm' w') {b off : Nat} {xs : List (DV T.toSig)} (hb : b < w.heap.size) (hi : off + xs.length ≤ imm b) (h : RowAt imm w b off xs) : RowAt imm' w' b off xs := by
  intro j d hd
  obtain ⟨v, h1, h2⟩ := h j d hd
  have := getElem?_lt hd
  exact ⟨v, by rw [E.low b _ hb (by omega)]; exact h1, h2.evo E⟩

def RepDs (imm : Nat → Nat) (w : World) : List (DV T.toSig) → List Value → Prop
  | [], [] => True
  | x :: xs, v :: vs => RepD T imm w x v ∧ RepDs imm w xs vs
  | _, _ => False

theorem RepDs.evo (E : DEvo imm w imm' w') : ∀ {xs : List (DV T.toSig)} {vs : List Value}, RepDs imm w xs vs → RepDs imm' w' xs vs
  | [], [], _ => trivial
  | _ :: _, _ :: _, h => ⟨h.1.evo E, RepDs.evo E h.2⟩
  | [], _ :: _, h => h.elim
  | _ :: _, [], h => h.elim

theorem RepDs.length : ∀ {xs : List (DV T.toSig)} {vs : List Value}, RepDs imm w xs vs → xs.length = vs.length
  | [], [], _ => rfl
  | _ :: _, _ :: _, h => by simp [RepDs.length h.2]
  | [], _ :: _, h => h.elim
  | _ :: _, [], h => h.elim

theorem RepDs.append : ∀ {xs ys : List (DV T.toSig)} {vs us : List Value}, RepDs imm w xs vs → RepDs imm w ys us → RepDs imm w (xs ++ ys) (vs ++ us)
  | [], _, [], _, _, k => k
  | _ :: _, _, _ :: _, _, h, k => ⟨h.1, RepDs.append h.2 k⟩
  | [], _, _ :: _, _, h, _ => h.elim
  | _ :: _, _, [], _, h, _ => h.elim

theorem RepDs.get : ∀ {xs : List (DV T.toSig)} {vs : List Value} {j : Nat} {d : DV T.toSig}, RepDs imm w xs vs → xs[j]? = some d → ∃ v, vs[j]? = some v ∧ RepD T imm w d v
  | x :: xs, v :: vs, 0, d, h, hd => by simp at hd; subst hd; exact ⟨v, rfl, h.1⟩
  | x :: xs, v :: vs, j + 1, d, h, hd => by simpa using RepDs.get (j := j) h.2 (by simpa using hd)
  | [], _, _, _, _, hd => by simp at hd
  | _ :: _, [], _, _, h, _ => h.elim

theorem RepD.one {d : DV T.toSig} {v : Value} (h : RepD T imm w d v) : v.oneCell' = true := by cases h <;> rfl

theorem RepDs.one : ∀ {xs : List (DV T.toSig)} {vs : List Value}, RepDs imm w xs vs → ∀ u ∈ vs, u.oneCell' = true
  | [], [], _, _, hu => by cases hu
  | _ :: _, v :: vs, h, u, hu => by
    rcases List.mem_cons.1 hu with rfl | hu
    · exact h.1.one
    · exact RepDs.one h.2 u hu
  | [], _ :: _, h, _, _ => h.elim
  | _ :: _, [], h, _, _ => h.elim

theorem cells_one {v : Value} (h : v.oneCell' = true) : v.cells = #[v] := by cases v <;> first | rfl | cases h

/-- A row's cells as a list of values. -/
theorem RowAt.values {b : Nat} : ∀ {xs : List (DV T.toSig)} {off : Nat}, RowAt imm w b off xs → ∃ vs : List Value, vs.length = xs.length ∧ (∀ (j : Nat) (v : Value), vs[j]? = some v → w.cell? ⟨b, off + j, none⟩ = some v) ∧ RepDs imm w xs vs
  | [], off, _ => ⟨[], rfl, by simp, trivial⟩
  | x :: xs, off, h => by
    obtain ⟨v, h1, h2⟩ := h 0 x rfl
    obtain ⟨vs, k1, k2, k3⟩ := RowAt.values (b := b) (xs := xs) (off := off + 1) fun j d hd => by
      have := h (j + 1) d (by simpa using hd)
      rw [show off + 1 + j = off + (j + 1) by omega]
      exact this
    refine ⟨v :: vs, by simp [k1], fun j u hj => ?_, h2, k3⟩
    cases j with
    | zero => simp at hj; subst hj; simpa using h1
    | succ j =>
      simp at hj
      have := k2 j u hj
      rw [show off + 1 + j = off + (j + 1) by omega] at this
      exact this

theorem RowAt.of {b off : Nat} {xs : List (DV T.toSig)} {vs : List Value} (h : RepDs imm w xs vs) (hc : ∀ (j : Nat) (v : Value), vs[j]? = some v → w.cell? ⟨b, off + j, none⟩ = some v) : RowAt imm w b off xs := by
  intro j d hd
  obtain ⟨v, h1, h2⟩ := h.get hd
  exact ⟨v, hc j v h1, h2⟩
end

/-! ### Values -/
def RepC (γ : Gh) (w : World) : CV T → Value → Prop
  | .d x, v => RepD T γ.imm w x v
  | .nl, v => ∃ A, v = .slice A 0 0
  | .ref nm off, v => ∃ b, γ.bt nm = some (.blk b) ∧ v = .pointer (some ⟨b, off, none⟩)
  | .cur cs, v => ∃ b off, v = .pointer (some ⟨b, off, none⟩) ∧ b < w.heap.size ∧ off + cs.length ≤ γ.imm b ∧ RowAt γ.imm w b off cs
  | .own _ nm, v => ∃ A len cap, γ.bt nm = some (.row A len cap) ∧ v = .slice A len cap
  | .buf u nm off len, v => ∃ A l cap A', γ.bt nm = some (.row A l cap) ∧ 0 ≤ off ∧ 0 ≤ len ∧ off + len ≤ l ∧ l ≤ cap ∧ v = .slice A' len.toNat (cap - off.toNat) ∧
      (off < cap → A' = A.map (·.add (off.toNat * T.size u)))
  | .elm u nm i f, v => ∃ b o l cap, γ.bt nm = some (.row (some ⟨b, o, none⟩) l cap) ∧ 0 ≤ i ∧ i < l ∧ v = .pointer (some ⟨b, o + i.toNat * T.size u + f, none⟩)
  | .fn f caps, v => ∃ bs : List Nat, caps.map γ.bt = bs.map (fun b => some (.blk b)) ∧ v = .func (.func f) #[] (bs.map fun b => Value.pointer (some ⟨b, 0, none⟩)).toArray
  | .mp nm, v => ∃ b, γ.bt nm = some (.blk b) ∧ v = .map (some b)
  | .val u, v => v = u ∧ u.oneCell' = true

def RepCs (γ : Gh) (w : World) : List (CV T) → List Value → Prop
  | [], [] => True
  | c :: cs, v :: vs => RepC γ w c v ∧ RepCs γ w cs vs
  | _, _ => False

mutual
def RepP (γ : Gh) (w : World) : PV T → Value → Prop
  | .one c, v => RepC γ w c v
  | .agg cs, v => ∃ vs : List Value, v = .agg vs.toArray ∧ RepCs γ w cs vs
  | .tup ps, v => ∃ vs : List Value, v = .tuple vs.toArray ∧ RepPs γ w ps vs
  | .junk, _ => True
def RepPs (γ : Gh) (w : World) : List (PV T) → List Value → Prop
  | [], [] => True
  | p :: ps, v :: vs => RepP γ w p v ∧ RepPs γ w ps vs
  | _, _ => False
end

def mkV (ag : Bool) (vs : List Value) : Value := if ag then .agg vs.toArray else vs.getD 0 undef

/-- A map's entries, in whatever order they were laid. -/
def RepM (imm : Nat → Nat) (w : World) (uk uv : T.U) : List (T.El uk × T.El uv) → List MapEntry → Prop
  | [], [] => True
  | (k, v) :: r, e :: es => (∃ vs, e.key = mkV (T.ag uk) vs ∧ RepDs imm w (T.enc uk k) vs) ∧ (∃ vs, e.val = mkV (T.ag uv) vs ∧ RepDs imm w (T.enc uv v) vs) ∧ RepM imm w uk uv r es
  | _, _ => False

def RowOK (γ : Gh) (w : World) (nm : Nat) (u : T.U) (l : List (T.El u)) (fz : Bool) (A : Option Addr) (cap : Nat) : Prop :=
  (cap = 0 ∧ l = []) ∨ ∃ b off c t, A = some ⟨b, off, none⟩ ∧ γ.own b = some nm ∧ b < w.heap.size ∧ w.heap[b]? = some (.cells c t (0, 0)) ∧ off + cap * T.size u ≤ c.size ∧
    γ.imm b ≤ off + (if fz then l.length * T.size u else 0) ∧ RowsAt γ.imm w b off u l

def FactOK (γ : Gh) (w : World) (tm : Nat → Value) : Loc → Fact T → Prop
  | .s i, .v c x => (c = true → RepP γ w x (tm i)) ∧ (c = false → tm i = undef)
  | .h nm, .b cs => ∃ b vs t, γ.bt nm = some (.blk b) ∧ γ.own b = some nm ∧ γ.imm b = 0 ∧ b < w.heap.size ∧ w.heap[b]? = some (.cells vs t (0, 0)) ∧ RepCs γ w cs vs.toList
  | .h nm, .r u l fz => ∃ A cap, γ.bt nm = some (.row A l.length cap) ∧ l.length ≤ cap ∧ RowOK γ w nm u l fz A cap
  | .h nm, .m uk uv l => ∃ b es clock, γ.bt nm = some (.blk b) ∧ γ.own b = some nm ∧ b < w.heap.size ∧ w.heap[b]? = some (.map es clock) ∧ RepM γ.imm w uk uv l es.toList
  | _, _ => False

/-! ### How the world moves on -/
structure Evo (X : Nat → Prop) (γ : Gh) (w : World) (γ' : Gh) (w' : World) : Prop extends DEvo γ.imm w γ'.imm w' where
  os : w'.os = w.os
  tape : w'.tape = w.tape
  output : w'.output = w.output
  same : ∀ b, b < w.heap.size → (∀ nm, γ.own b = some nm → ¬ X nm) → w'.heap[b]? = w.heap[b]? ∧ γ'.own b = γ.own b ∧ γ'.imm b = γ.imm b
  bt : ∀ nm v, γ.bt nm = some v → γ'.bt nm = some v

section
variable {X : Nat → Prop} {γ γ' γ'' : Gh} {w w' w'' : World}

theorem Evo.refl (X : Nat → Prop) (γ : Gh) (w : World) : Evo X γ w γ w := { DEvo.refl γ.imm w with os := rfl, tape := rfl, output := rfl, same := fun _ _ _ => ⟨rfl, rfl, rfl⟩, bt := fun _ _ h => h }

theorem Evo.trans (h : Evo X γ w γ' w') (k : Evo X γ' w' γ'' w'') : Evo X γ w γ'' w'' :=
  { h.toDEvo.trans k.toDEvo with
    os := k.os.trans h.os, tape := k.tape.trans h.tape, output := k.output.trans h.output
    same := fun b hb hx => by
      obtain ⟨h1, h2, h3⟩ := h.same b hb hx
      obtain ⟨k1, k2, k3⟩ := k.same b (Nat.lt_of_lt_of_le hb h.size) (by rw [h2]; exact hx)
      exact ⟨k1.trans h1, k2.trans h2, k3.trans h3⟩
    bt := fun nm v hv => k.bt nm v (h.bt nm v hv) }

theorem Evo.weaken {Y : Nat → Prop} (h : Evo X γ w γ' w') (hXY : ∀ n, X n → Y n) : Evo Y γ w γ' w' :=
  { h with same := fun b hb hy => h.same b hb fun nm hn hx => hy nm hn (hXY nm hx) }

theorem map_bt_evo (E : Evo X γ w γ' w') : ∀ (caps : List Nat) (bs : List Nat), caps.map γ.bt = bs.map (fun b => some (GV.blk b)) → caps.map γ'.bt = bs.map (fun b => some (GV.blk b))
  | [], bs, h => by cases bs <;> simp_all
  | nm :: caps, bs, h => by
    cases bs with
    | nil => simp at h
    | cons b bs =>
      simp only [List.map_cons, List.cons.injEq] at h ⊢
      exact ⟨E.bt _ _ h.1, map_bt_evo E caps bs h.2⟩

theorem RepC.evo (E : Evo X γ w γ' w') {c : CV T} {v : Value} (h : RepC γ w c v) : RepC γ' w' c v := by
  cases c with
  | d x => exact RepD.evo E.toDEvo h
  | nl => exact h
  | ref nm off => obtain ⟨b, h1, h2⟩ := h; exact ⟨b, E.bt _ _ h1, h2⟩
  | cur cs =>
    obtain ⟨b, off, h1, h2, h3, h4⟩ := h
    exact ⟨b, off, h1, Nat.lt_of_lt_of_le h2 E.size, Nat.le_trans h3 (E.mono b h2), h4.evo E.toDEvo h2 h3⟩
  | own u nm => obtain ⟨A, len, cap, h1, h2⟩ := h; exact ⟨A, len, cap, E.bt _ _ h1, h2⟩
  | buf u nm off len => obtain ⟨A, l, cap, A', h1, h2⟩ := h; exact ⟨A, l, cap, A', E.bt _ _ h1, h2⟩
  | elm u nm i f => obtain ⟨b, o, l, cap, h1, h2⟩ := h; exact ⟨b, o, l, cap, E.bt _ _ h1, h2⟩
  | fn f caps => obtain ⟨bs, h1, h2⟩ := h; exact ⟨bs, map_bt_evo E caps bs h1, h2⟩
  | mp nm => obtain ⟨b, h1, h2⟩ := h; exact ⟨b, E.bt _ _ h1, h2⟩
  | val u => exact h

theorem RepCs.evo (E : Evo X γ w γ' w') : ∀ {cs : List (CV T)} {vs : List Value}, RepCs γ w cs vs → RepCs γ' w' cs vs
  | [], [], _ => trivial
  | _ :: _, _ :: _, h => ⟨RepC.evo E h.1, RepCs.evo E h.2⟩
  | [], _ :: _, h => h.elim
  | _ :: _, [], h => h.elim

mutual
theorem RepP.evo (E : Evo X γ w γ' w') : ∀ (p : PV T) (v : Value), RepP γ w p v → RepP γ' w' p v
  | .one c, v, h => by simp only [RepP] at h ⊢; exact RepC.evo E h
  | .agg cs, v, h => by
    simp only [RepP] at h ⊢
    obtain ⟨vs, e, h⟩ := h
    exact ⟨vs, e, RepCs.evo E h⟩
  | .tup ps, v, h => by
    simp only [RepP] at h ⊢
    obtain ⟨vs, e, h⟩ := h
    exact ⟨vs, e, RepPs.evo E ps vs h⟩
  | .junk, _, _ => by simp only [RepP]
theorem RepPs.evo (E : Evo X γ w γ' w') : ∀ (ps : List (PV T)) (vs : List Value), RepPs γ w ps vs → RepPs γ' w' ps vs
  | [], [], _ => by simp only [RepPs]
  | p :: ps, v :: vs, h => by
    simp only [RepPs] at h ⊢
    exact ⟨RepP.evo E p v h.1, RepPs.evo E ps vs h.2⟩
  | [], _ :: _, h => by simp only [RepPs] at h
  | _ :: _, [], h => by simp only [RepPs] at h
end

theorem RepM.evo (E : DEvo γ.imm w γ'.imm w') {uk uv : T.U} : ∀ {l : List (T.El uk × T.El uv)} {es : List MapEntry}, RepM γ.imm w uk uv l es → RepM γ'.imm w' uk uv l es
  | [], [], _ => trivial
  | (_, _) :: _, _ :: _, ⟨⟨vs, h1, h2⟩, ⟨us, h3, h4⟩, h5⟩ => ⟨⟨vs, h1, h2.evo E⟩, ⟨us, h3, h4.evo E⟩, RepM.evo E h5⟩
  | [], _ :: _, h => h.elim
  | _ :: _, [], h => h.elim

theorem RowAt.same (E : DEvo γ.imm w γ'.imm w') {b off : Nat} {xs : List (DV T.toSig)} (hs : w'.heap[b]? = w.heap[b]?) (h : RowAt γ.imm w b off xs) : RowAt γ'.imm w' b off xs := by
  intro j d hd
  obtain ⟨v, h1, h2⟩ := h j d hd
  refine ⟨v, ?_, h2.evo E⟩
  unfold World.cell? at h1 ⊢
  simp only [hs]
  exact h1

theorem FactOK.evo (E : Evo X γ w γ' w') {tm tm' : Nat → Value} {l : Loc} {f : Fact T} (hl : ∀ nm, l = .h nm → ¬ X nm) (ht : ∀ i, l = .s i → tm' i = tm i) (h : FactOK γ w tm l f) : FactOK γ' w' tm' l f := by
  cases l with
  | s i =>
    cases f with
    | v c x => exact ⟨fun hc => by rw [ht i rfl]; exact RepP.evo E _ _ (h.1 hc), fun hc => by rw [ht i rfl]; exact h.2 hc⟩
    | _ => exact h.elim
  | h nm =>
    have hx := hl nm rfl
    cases f with
    | v c x => exact h.elim
    | b cs =>
      obtain ⟨b, vs, t, h1, h2, h3, h4, h5, h6⟩ := h
      obtain ⟨k1, k2, k3⟩ := E.same b h4 fun nm' hn => by rw [h2] at hn; cases hn; exact hx
      exact ⟨b, vs, t, E.bt _ _ h1, k2.trans h2, k3.trans h3, Nat.lt_of_lt_of_le h4 E.size, k1.trans h5, RepCs.evo E h6⟩
    | r u l fz =>
      obtain ⟨A, cap, h1, h2, h3⟩ := h
      refine ⟨A, cap, E.bt _ _ h1, h2, ?_⟩
      rcases h3 with h3 | ⟨b, off, c, t, e1, e2, e3, e4, e5, e6, e7⟩
      · exact .inl h3
      · obtain ⟨k1, k2, k3⟩ := E.same b e3 fun nm' hn => by rw [e2] at hn; cases hn; exact hx
        exact .inr ⟨b, off, c, t, e1, k2.trans e2, Nat.lt_of_lt_of_le e3 E.size, k1.trans e4, e5, by rw [k3]; exact e6, fun i a ha => (e7 i a ha).same E.toDEvo k1⟩
    | m uk uv l =>
      obtain ⟨b, es, t, h1, h2, h4, h5, h6⟩ := h
      obtain ⟨k1, k2, k3⟩ := E.same b h4 fun nm' hn => by rw [h2] at hn; cases hn; exact hx
      exact ⟨b, es, t, E.bt _ _ h1, k2.trans h2, Nat.lt_of_lt_of_le h4 E.size, k1.trans h5, h6.evo E.toDEvo⟩

theorem FactOK.mem {tm tm' : Nat → Value} {l : Loc} {f : Fact T} (hl : ∀ i, l ≠ .s i) (h : FactOK γ w tm l f) : FactOK γ w tm' l f := by
  cases l with
  | s i => exact absurd rfl (hl i)
  | h nm => cases f <;> exact h
end
end Go.G
