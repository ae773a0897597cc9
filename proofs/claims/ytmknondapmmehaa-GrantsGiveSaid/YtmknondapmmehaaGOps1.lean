import Derived.Test.YtmknondapmmehaaGComm
import Derived.Laws.Tables
import Derived.Laws.StructEq
import Derived.Laws.Slices
import Derived.Laws.CopyRow
import Derived.Great.BuildSlice
set_option linter.unusedVariables false
set_option linter.unusedSimpArgs false
namespace Go.G
variable {T : Uni}

/-! ### From the model's operands -/
def Opd.slots : Opd T → List Nat
  | .t i => [i]
  | .c _ => []
def Opd.all (xs : List (Opd T)) : List Nat := xs.flatMap Opd.slots

def cOpd : Operand → Option (Opd T)
  | .tmp t => some (.t t)
  | .const (.int k n) => some (.c (.one (.d (.int k n))))
  | .const (.bool b) => some (.c (.one (.d (.bool b))))
  | .const (.string s) => some (.c (.one (.d (.str s))))
  | .const (.slice none 0 0) => some (.c (.one .nl))
  | .const v => if v.oneCell' then some (.c (.one (.val v))) else none
  | .func f => some (.c (.one (.fn f [])))
  | .global _ => none

def cOpds : List Operand → Option (List (Opd T))
  | [] => some []
  | x :: xs => match cOpd x, cOpds xs with
    | some y, some ys => some (y :: ys)
    | _, _ => none

def cOpo : Option Operand → Option (Option (Opd T))
  | none => some none
  | some x => match cOpd x with
    | some y => some (some y)
    | none => none

def zCV : Value → Option (CV T)
  | .int k n => some (.d (.int k n))
  | .bool b => some (.d (.bool b))
  | .string s => some (.d (.str s))
  | .slice none 0 0 => some .nl
  | .agg _ => none
  | .tuple _ => none
  | v => some (.val v)

def zCVs : List Value → Option (List (CV T))
  | [] => some []
  | x :: xs => match zCV x, zCVs xs with
    | some y, some ys => some (y :: ys)
    | _, _ => none

def zCells (P : Program) (t : TypeId) : Option (List (CV T)) :=
  match P.info? t with
  | some i => match i.zero with
    | some z => zCVs z.cells.toList
    | none => none
  | none => none

def tySz (P : Program) (t : TypeId) : Option Nat := (P.info? t).map (·.size)
def tyAg (P : Program) (t : TypeId) : Option Bool :=
  match P.underlying t with
  | some (.struct _) | some (.array _ _) => some true
  | some _ => some false
  | none => none

/-! ### The operands' values -/
def Rd (σ : St T) : Opd T → PV T → Prop
  | .c q, p => p = q
  | .t i, p => look σ (.s i) = some (.v true p)

def Rds (σ : St T) : List (Opd T) → List (PV T) → Prop
  | [], [] => True
  | x :: xs, p :: ps => Rd σ x p ∧ Rds σ xs ps
  | _, _ => False

section
variable {X : Type} {σ : St T} {r : X}
theorem rdv_inv {x : Opd T} {K : PV T → Option X} (h : rdv σ x K = some r) : ∃ p, Rd σ x p ∧ K p = some r := by
  cases x with
  | c q => exact ⟨q, rfl, h⟩
  | t i =>
    simp only [rdv] at h
    split at h
    · rename_i p hl; exact ⟨p, hl, h⟩
    · cases h

theorem rdvs_inv : ∀ {xs : List (Opd T)} {K : List (PV T) → Option X}, rdvs σ xs K = some r → ∃ ps, Rds σ xs ps ∧ K ps = some r
  | [], _, h => ⟨[], trivial, h⟩
  | x :: xs, K, h => by
    obtain ⟨p, hp, h⟩ := rdv_inv (x := x) h
    obtain ⟨ps, hps, h⟩ := rdvs_inv h
    exact ⟨p :: ps, ⟨hp, hps⟩, h⟩

theorem rdb_inv {x : Opd T} {K : Bool → Option X} (h : rdb σ x K = some r) : ∃ b, Rd σ x (.one (.d (.bool b))) ∧ K b = some r := by
  obtain ⟨p, hp, h⟩ := rdv_inv (x := x) h
  split at h
  · exact ⟨_, hp, h⟩
  · cases h

theorem rdi_inv {x : Opd T} {K : IntKind → Int → Option X} (h : rdi σ x K = some r) : ∃ k i, Rd σ x (.one (.d (.int k i))) ∧ K k i = some r := by
  obtain ⟨p, hp, h⟩ := rdv_inv (x := x) h
  split at h
  · exact ⟨_, _, hp, h⟩
  · cases h

theorem rdc_inv {x : Opd T} {K : CV T → Option X} (h : rdc σ x K = some r) : ∃ c, Rd σ x (.one c) ∧ K c = some r := by
  obtain ⟨p, hp, h⟩ := rdv_inv (x := x) h
  split at h
  · exact ⟨_, hp, h⟩
  · cases h
end

section
variable {E : Entry} {N : Nat} {γ : Gh} {w : World} {a : Act} {σ σ' : St T}

theorem RepC.one {c : CV T} {v : Value} (h : RepC γ w c v) : v.oneCell' = true := by
  cases c with
  | d x => exact RepD.one h
  | nl => obtain ⟨_, h⟩ := h; subst h; rfl
  | ref nm off => obtain ⟨_, _, h⟩ := h; subst h; rfl
  | cur cs => obtain ⟨_, _, h, _⟩ := h; subst h; rfl
  | own u nm => obtain ⟨_, _, _, _, h⟩ := h; subst h; rfl
  | buf u nm off len => obtain ⟨_, _, _, _, _, _, _, _, _, h, _⟩ := h; subst h; rfl
  | elm u nm i f => obtain ⟨_, _, _, _, _, _, _, h⟩ := h; subst h; rfl
  | fn f caps => obtain ⟨_, _, h⟩ := h; subst h; rfl
  | mp nm => obtain ⟨_, _, h⟩ := h; subst h; rfl
  | val u => obtain ⟨rfl, h⟩ := h; exact h

theorem cOpd_const {v : Value} {x : Opd T} (h : cOpd (.const v) = some x) : ∃ q, x = .c q ∧ RepP γ w q v := by
  cases v <;> simp only [cOpd, Value.oneCell', if_true, if_false, Option.some.injEq, Bool.false_eq_true, reduceCtorEq] at h <;> first | (subst h; exact ⟨_, rfl, by simp only [RepP, RepC]; first | exact .int _ _ | exact .bool _ | exact .str _⟩) | (subst h; exact ⟨_, rfl, rfl, rfl⟩) | skip
  rename_i A l c
  cases A with
  | some A => simp only [if_true, Option.some.injEq] at h; subst h; exact ⟨_, rfl, rfl, rfl⟩
  | none =>
    cases l with
    | succ l => simp only [if_true, Option.some.injEq] at h; subst h; exact ⟨_, rfl, rfl, rfl⟩
    | zero =>
      cases c with
      | succ c => simp only [if_true, Option.some.injEq] at h; subst h; exact ⟨_, rfl, rfl, rfl⟩
      | zero => simp only [Option.some.injEq] at h; subst h; exact ⟨_, rfl, none, rfl⟩

theorem Rd.rep (hs : Sat E N γ w a σ') {o : Operand} {x : Opd T} {p : PV T} (hx : cOpd o = some x) (hl : ∀ i ∈ x.slots, look σ' (.s i) = look σ (.s i)) (h : Rd σ x p) : RepP γ w p (a.eval o) := by
  cases o with
  | tmp t =>
    simp only [cOpd, Option.some.injEq] at hx
    subst hx
    have := hs.facts (.s t) (.v true p) ((hl t (by simp [Opd.slots])).trans h)
    exact this.1 rfl
  | const v =>
    obtain ⟨q, rfl, hq⟩ := cOpd_const (γ := γ) (w := w) hx
    cases h
    exact hq
  | global g => simp [cOpd] at hx
  | func f =>
    simp only [cOpd, Option.some.injEq] at hx
    subst hx
    cases h
    simp only [RepP, RepC]
    exact ⟨[], by simp, by simp [Act.eval]⟩

theorem Rds.rep (hs : Sat E N γ w a σ') : ∀ {os : List Operand} {xs : List (Opd T)} {ps : List (PV T)}, cOpds os = some xs → (∀ i ∈ Opd.all xs, look σ' (.s i) = look σ (.s i)) → Rds σ xs ps → RepPs γ w ps (os.map a.eval)
  | [], xs, ps, hx, _, h => by
    simp only [cOpds, Option.some.injEq] at hx
    subst hx
    cases ps with
    | nil => simp only [List.map_nil, RepPs]
    | cons _ _ => exact h.elim
  | o :: os, xs, ps, hx, hl, h => by
    simp only [cOpds] at hx
    split at hx
    · rename_i y ys h1 h2
      cases hx
      cases ps with
      | nil => exact h.elim
      | cons p ps =>
        simp only [List.map_cons, RepPs]
        exact ⟨Rd.rep hs h1 (fun i hi => hl i (by simp [Opd.all, hi])) h.1, Rds.rep hs h2 (fun i hi => hl i (by simp [Opd.all] at hi ⊢; exact .inr hi)) h.2⟩
    · cases hx
end

/-! ### What an operation has done -/
def OpDone (C : Ctx) (dst : Option Nat) (a : Act) (γ : Gh) (w : World) (x : PV T) (mwr : Wr T) (lo hi : Nat) (a' : Act) (w' : World) : Prop :=
  ∃ γ' v Y, a' = a.put dst v ∧ (∀ d, dst = some d → RepP γ' w' x v) ∧ Evo Y γ w γ' w' ∧ (∀ nm, Y nm → C.E.perm nm ∧ Loc.h nm ∈ locs mwr) ∧
    (∀ l f, (l, some f) ∈ mwr → ∃ nm, l = .h nm ∧ C.E.perm nm ∧ ∀ tm, FactOK γ' w' tm l f) ∧
    (∀ nm, ¬ C.E.loc nm → γ'.bt nm = γ.bt nm) ∧ (∀ b nm, γ'.own b = some nm → C.E.loc nm ∨ γ.own b = some nm) ∧ (∀ b, w'.heap.size ≤ b → γ'.own b = none) ∧
    Kept C.E (fun nm => nm < lo ∨ hi ≤ nm) γ γ'

def KValid (C : Ctx) (o : Oper) (σ : St T) (sl : List Nat) (x : PV T) (mrd : List Loc) (mwr : Wr T) (lo hi : Nat) : Prop :=
  ∀ σ', (∀ i ∈ sl, look σ' (.s i) = look σ (.s i)) → (∀ l ∈ mrd, look σ' l = look σ l) → ∀ γ a w, Inv C.E γ w → Sat C.E C.N γ w a σ' → Fresh lo hi γ →
    ∀ Q, o.wp C.P a w (OpDone C o.dst a γ w x mwr lo hi) Q

section
variable {C : Ctx} {o : Oper} {σ : St T} {lo hi : Nat}

theorem OpDone.same {dst : Option Nat} {a : Act} {γ : Gh} {w : World} {x : PV T} {v : Value} (hi' : Inv C.E γ w) (h : RepP γ w x v) : OpDone C dst a γ w x [] lo hi (a.put dst v) w :=
  ⟨γ, v, fun _ => False, rfl, fun _ _ => h, .refl _ _ _, fun _ h => h.elim, (fun _ _ h => by cases h), fun _ _ => rfl, fun _ _ h => .inr h, hi'.ok, .refl _ _ _⟩

/-- An operation that only computes or reads. -/
theorem kv_pure {sl : List Nat} {x : PV T} {mrd : List Loc}
    (h : ∀ σ', (∀ i ∈ sl, look σ' (.s i) = look σ (.s i)) → (∀ l ∈ mrd, look σ' l = look σ l) → ∀ γ a w, Inv C.E γ w → Sat C.E C.N γ w a σ' →
      ∃ v, (execOp a.eval o).run C.P w = .ok (.value v) w ∧ RepP γ w x v) : KValid C o σ sl x mrd [] lo hi := by
  intro σ' h1 h2 γ a w hi hs _ Q
  obtain ⟨v, hr, hx⟩ := h σ' h1 h2 γ a w hi hs
  unfold Oper.wp
  rw [hr, Oper.upon_value]
  exact .same hi hx

theorem left {α : Type} {x y : List α} {i : α} (h : i ∈ x) : i ∈ x ++ y := List.mem_append_left _ h
theorem right {α : Type} {x y : List α} {i : α} (h : i ∈ y) : i ∈ x ++ y := List.mem_append_right _ h

theorem kv_move {x : Operand} {X : Opd T} {p : PV T} (ho : o.op = .move x ∨ o.op = .assign x) (hx : cOpd x = some X) (h : Rd σ X p) : KValid C o σ X.slots p [] [] lo hi := by
  refine kv_pure fun σ' h1 _ γ a w _ hs => ⟨a.eval x, ?_, Rd.rep hs hx h1 h⟩
  rcases ho with ho | ho <;> simp [execOp, ho]

theorem KValid.slots {sl sl' : List Nat} {x : PV T} {mrd : List Loc} {mwr : Wr T} (h : KValid C o σ sl x mrd mwr lo hi) (hs : ∀ i ∈ sl, i ∈ sl') : KValid C o σ sl' x mrd mwr lo hi :=
  fun σ' h1 => h σ' fun i hi => h1 i (hs i hi)

theorem repB {γ : Gh} {w : World} {b : Bool} {v : Value} (h : RepP (T := T) γ w (.one (.d (.bool b))) v) : v = .bool b := by
  simp only [RepP, RepC] at h; exact RepD.bool_iff.1 h
theorem repI {γ : Gh} {w : World} {k : IntKind} {i : Int} {v : Value} (h : RepP (T := T) γ w (.one (.d (.int k i))) v) : v = .int k i := by
  simp only [RepP, RepC] at h; exact RepD.int_iff.1 h
theorem repS {γ : Gh} {w : World} {s : ByteArray} {v : Value} (h : RepP (T := T) γ w (.one (.d (.str s))) v) : v = .string s := by
  simp only [RepP, RepC] at h; exact RepD.str_iff.1 h
theorem mkB {γ : Gh} {w : World} {b : Bool} : RepP (T := T) γ w (bl b) (.bool b) := by simp only [bl, RepP, RepC]; exact .bool b
theorem mkI {γ : Gh} {w : World} {k : IntKind} {i : Int} : RepP (T := T) γ w (.one (.d (.int k i))) (.int k i) := by simp only [RepP, RepC]; exact .int k i

theorem eval_const (a : Act) (v : Value) : a.eval (.const v) = v := rfl

theorem kv_and_f {c x : Operand} {Cc : Opd T} {sl : List Nat} (ho : o.op = .pick c x (.const (.bool false))) (hc : cOpd c = some Cc)
    (h1 : Rd σ Cc (.one (.d (.bool false)))) : KValid C o σ (Cc.slots ++ sl) (bl false) [] [] lo hi := by
  refine kv_pure fun σ' g1 _ γ a w _ hs => ?_
  have e1 := repB (Rd.rep hs hc (fun i hi => g1 i (left hi)) h1)
  exact ⟨.bool false, by simp [execOp, ho, e1, asBool, eval_const], mkB⟩

theorem kv_and_t {c x : Operand} {Cc Xx : Opd T} {xb : Bool} (ho : o.op = .pick c x (.const (.bool false))) (hc : cOpd c = some Cc) (hx : cOpd x = some Xx)
    (h1 : Rd σ Cc (.one (.d (.bool true)))) (h2 : Rd σ Xx (.one (.d (.bool xb)))) : KValid C o σ (Cc.slots ++ Xx.slots) (bl xb) [] [] lo hi := by
  refine kv_pure fun σ' g1 _ γ a w _ hs => ?_
  have e1 := repB (Rd.rep hs hc (fun i hi => g1 i (left hi)) h1)
  have e2 := repB (Rd.rep hs hx (fun i hi => g1 i (right hi)) h2)
  exact ⟨.bool xb, by simp [execOp, ho, e1, e2, asBool], mkB⟩

theorem kv_or_t {c x : Operand} {Cc : Opd T} {sl : List Nat} (ho : o.op = .pick c (.const (.bool true)) x) (hc : cOpd c = some Cc)
    (h1 : Rd σ Cc (.one (.d (.bool true)))) : KValid C o σ (Cc.slots ++ sl) (bl true) [] [] lo hi := by
  refine kv_pure fun σ' g1 _ γ a w _ hs => ?_
  have e1 := repB (Rd.rep hs hc (fun i hi => g1 i (left hi)) h1)
  exact ⟨.bool true, by simp [execOp, ho, e1, asBool, eval_const], mkB⟩

theorem kv_or_f {c x : Operand} {Cc Xx : Opd T} {xb : Bool} (ho : o.op = .pick c (.const (.bool true)) x) (hc : cOpd c = some Cc) (hx : cOpd x = some Xx)
    (h1 : Rd σ Cc (.one (.d (.bool false)))) (h2 : Rd σ Xx (.one (.d (.bool xb)))) : KValid C o σ (Cc.slots ++ Xx.slots) (bl xb) [] [] lo hi := by
  refine kv_pure fun σ' g1 _ γ a w _ hs => ?_
  have e1 := repB (Rd.rep hs hc (fun i hi => g1 i (left hi)) h1)
  have e2 := repB (Rd.rep hs hx (fun i hi => g1 i (right hi)) h2)
  exact ⟨.bool xb, by simp [execOp, ho, e1, e2, asBool], mkB⟩

/-! ### Cells of values -/
theorem pcells_rep {γ : Gh} {w : World} {p : PV T} {cs : List (CV T)} {v : Value} (h : pcells p = some cs) (hr : RepP γ w p v) : RepCs γ w cs v.cells.toList := by
  cases p with
  | one c =>
    simp only [pcells, Option.some.injEq] at h
    subst h
    simp only [RepP] at hr
    rw [cells_one hr.one]
    exact ⟨hr, trivial⟩
  | agg cs' =>
    simp only [pcells, Option.some.injEq] at h
    subst h
    simp only [RepP] at hr
    obtain ⟨vs, rfl, hr⟩ := hr
    simpa [Value.cells] using hr
  | tup ps => simp [pcells] at h
  | junk => simp [pcells] at h

theorem RepCs.length {γ : Gh} {w : World} : ∀ {cs : List (CV T)} {vs : List Value}, RepCs γ w cs vs → cs.length = vs.length
  | [], [], _ => rfl
  | _ :: _, _ :: _, h => by simp [RepCs.length h.2]
  | [], _ :: _, h => h.elim
  | _ :: _, [], h => h.elim

theorem RepCs.append {γ : Gh} {w : World} : ∀ {cs ds : List (CV T)} {vs us : List Value}, RepCs γ w cs vs → RepCs γ w ds us → RepCs γ w (cs ++ ds) (vs ++ us)
  | [], _, [], _, _, k => k
  | _ :: _, _, _ :: _, _, h, k => ⟨h.1, RepCs.append h.2 k⟩
  | [], _, _ :: _, _, h, _ => h.elim
  | _ :: _, _, [], _, h, _ => h.elim

theorem RepCs.take {γ : Gh} {w : World} : ∀ {cs : List (CV T)} {vs : List Value} (k : Nat), RepCs γ w cs vs → RepCs γ w (cs.take k) (vs.take k)
  | _, _, 0, _ => by simp [RepCs]
  | [], [], _ + 1, _ => by simp [RepCs]
  | _ :: _, _ :: _, k + 1, h => ⟨h.1, RepCs.take k h.2⟩
  | [], _ :: _, _ + 1, h => h.elim
  | _ :: _, [], _ + 1, h => h.elim

theorem RepCs.drop {γ : Gh} {w : World} : ∀ {cs : List (CV T)} {vs : List Value} (k : Nat), RepCs γ w cs vs → RepCs γ w (cs.drop k) (vs.drop k)
  | _, _, 0, h => by simpa using h
  | [], [], _ + 1, _ => by simp [RepCs]
  | _ :: _, _ :: _, k + 1, h => by simpa using RepCs.drop k h.2
  | [], _ :: _, _ + 1, h => h.elim
  | _ :: _, [], _ + 1, h => h.elim

theorem RepCs.one {γ : Gh} {w : World} : ∀ {cs : List (CV T)} {vs : List Value}, RepCs γ w cs vs → ∀ u ∈ vs, u.oneCell' = true
  | [], [], _, _, hu => by cases hu
  | c :: cs, v :: vs, h, u, hu => by
    rcases List.mem_cons.1 hu with rfl | hu
    · exact h.1.one
    · exact RepCs.one h.2 u hu
  | [], _ :: _, h, _, _ => h.elim
  | _ :: _, [], h, _, _ => h.elim

theorem RepDs.cs {γ : Gh} {w : World} : ∀ {xs : List (DV T.toSig)} {vs : List Value}, RepDs γ.imm w xs vs → RepCs γ w (xs.map CV.d) vs
  | [], [], _ => trivial
  | _ :: _, _ :: _, h => ⟨h.1, RepDs.cs h.2⟩
  | [], _ :: _, h => h.elim
  | _ :: _, [], h => h.elim

theorem zCV_rep {γ : Gh} {w : World} {v : Value} {c : CV T} (h : zCV v = some c) : RepC γ w c v := by
  unfold zCV at h
  split at h <;> first | (cases h; done) | cases h
  · exact .int _ _
  · exact .bool _
  · exact .str _
  · exact ⟨none, rfl⟩
  · refine ⟨rfl, ?_⟩
    cases v <;> simp_all [Value.oneCell']

theorem zCVs_rep {γ : Gh} {w : World} : ∀ {vs : List Value} {cs : List (CV T)}, zCVs vs = some cs → RepCs γ w cs vs
  | [], cs, h => by simp only [zCVs, Option.some.injEq] at h; subst h; trivial
  | v :: vs, cs, h => by
    simp only [zCVs] at h
    split at h
    · rename_i y ys h1 h2
      cases h
      exact ⟨zCV_rep h1, zCVs_rep h2⟩
    · cases h

/-! ### New blocks -/
def Gh.newBlk (γ : Gh) (b nm : Nat) (g : GV) (im : Nat) : Gh :=
  { bt := fun n => if n = nm then some g else γ.bt n, own := fun k => if k = b then some nm else γ.own k, imm := fun k => if k = b then im else γ.imm k }

theorem heap_alloc_at (w : World) (o : Obj) : (w.alloc o).heap[w.heap.size]? = some o := by
  show (w.heap.push o)[w.heap.size]? = _
  simp

theorem cell_alloc_old (w : World) (o : Obj) (b i : Nat) (h : b < w.heap.size) : (w.alloc o).cell? ⟨b, i, none⟩ = w.cell? ⟨b, i, none⟩ := by
  unfold World.cell?
  rw [show (w.alloc o).heap[b]? = w.heap[b]? from Go.RowKit.Below.heap_alloc _ _ _ h]

theorem Evo.newBlk {γ : Gh} {w : World} {nm : Nat} (hf : γ.bt nm = none) (o : Obj) (g : GV) (im : Nat) : Evo (fun _ => False) γ w (γ.newBlk w.heap.size nm g im) (w.alloc o) where
  size := by simp
  mono := fun b hb => by simp only [Gh.newBlk]; rw [if_neg (by omega)]; exact Nat.le_refl _
  low := fun b i hb _ => cell_alloc_old w o b i hb
  os := rfl
  tape := rfl
  output := rfl
  same := fun b hb _ => ⟨Go.RowKit.Below.heap_alloc _ _ _ hb, by simp only [Gh.newBlk]; rw [if_neg (by omega)], by simp only [Gh.newBlk]; rw [if_neg (by omega)]⟩
  bt := fun n v hv => by
    simp only [Gh.newBlk]
    rw [if_neg (by rintro rfl; rw [hf] at hv; cases hv)]
    exact hv

/-- The plain ghost's part of a new block: it has a name of the frame. -/
theorem newBlk_parts {γ : Gh} {w : World} {nm : Nat} {g : GV} {im : Nat} {o : Obj} (hi' : Inv C.E γ w) (hl : C.E.loc nm) : (∀ n, ¬ C.E.loc n → (γ.newBlk w.heap.size nm g im).bt n = γ.bt n) ∧
    (∀ b n, (γ.newBlk w.heap.size nm g im).own b = some n → C.E.loc n ∨ γ.own b = some n) ∧ (∀ b, (w.alloc o).heap.size ≤ b → (γ.newBlk w.heap.size nm g im).own b = none) ∧
    Kept C.E (fun n => n < nm ∨ nm + 1 ≤ n) γ (γ.newBlk w.heap.size nm g im) := by
  refine ⟨fun n hn => ?_, fun b n h => ?_, fun b hb => ?_, fun n hn _ => ⟨?_, fun b hb => ?_⟩⟩
  · simp only [Gh.newBlk]; rw [if_neg (by rintro rfl; exact hn hl)]
  · simp only [Gh.newBlk] at h
    split at h
    · cases h; exact .inl hl
    · exact .inr h
  · simp at hb
    simp only [Gh.newBlk]; rw [if_neg (by omega)]; exact hi'.ok b (by omega)
  · simp only [Gh.newBlk]; rw [if_neg (by omega)]
  · simp only [Gh.newBlk] at hb
    split at hb
    · cases hb; omega
    · exact hb

/-- An operation that makes a block with a name. -/
theorem kv_newO {sl : List Nat} {n : Nat} {x : PV T} {fct : Fact T} {mrd : List Loc} {g : Nat → GV} {im : Nat} (hl : C.E.loc n)
    (h : ∀ σ', (∀ i ∈ sl, look σ' (.s i) = look σ (.s i)) → (∀ l ∈ mrd, look σ' l = look σ l) → ∀ γ a w, Inv C.E γ w → Sat C.E C.N γ w a σ' →
      ∃ (ob : Obj) (v : Value), (execOp a.eval o).run C.P w = .ok (.value v) (w.alloc ob) ∧ ∀ γ', Evo (fun _ => False) γ w γ' (w.alloc ob) → γ'.bt n = some (g w.heap.size) → γ'.own w.heap.size = some n → γ'.imm w.heap.size = im →
        RepP γ' (w.alloc ob) x v ∧ ∀ tm, FactOK γ' (w.alloc ob) tm (.h n) fct) :
    KValid C o σ sl x mrd [(.h n, some fct)] n (n + 1) := by
  intro σ' h1 h2 γ a w hi hs hf Q
  obtain ⟨ob, v, hr, hx⟩ := h σ' h1 h2 γ a w hi hs
  obtain ⟨hf1, hf2⟩ := hf n (Nat.le_refl _) (Nat.lt_succ_self _)
  unfold Oper.wp
  rw [hr, Oper.upon_value]
  obtain ⟨p1, p2, p3, p4⟩ := newBlk_parts (C := C) (g := g w.heap.size) (im := im) (o := ob) hi hl
  have ev : Evo (fun _ => False) γ w (γ.newBlk w.heap.size n (g w.heap.size) im) (w.alloc ob) := Evo.newBlk hf1 ob _ _
  obtain ⟨k1, k2⟩ := hx _ ev (by simp [Gh.newBlk]) (by simp [Gh.newBlk]) (by simp [Gh.newBlk])
  refine ⟨γ.newBlk w.heap.size n (g w.heap.size) im, v, fun _ => False, rfl, fun _ _ => k1, ev, fun _ h => h.elim, fun l f hm => ?_, p1, p2, p3, p4⟩
  simp only [List.mem_singleton, Prod.mk.injEq, Option.some.injEq] at hm
  obtain ⟨rfl, rfl⟩ := hm
  exact ⟨n, rfl, .inr hl, k2⟩

theorem kv_alloc {e : TypeId} {z : List (CV T)} {n : Nat} (ho : o.op = .alloc e) (hz : zCells C.P e = some z) (hl : C.E.loc n) : KValid C o σ [] (.one (.ref n 0)) [] [(.h n, some (.b z))] n (n + 1) := by
  refine kv_newO (g := .blk) (im := 0) hl fun σ' _ _ γ a w hinv hs => ?_
  unfold zCells at hz
  split at hz
  · rename_i i hi
    split at hz
    · rename_i zv hzv
      refine ⟨.cells zv.cells e, .pointer (some ⟨w.heap.size, 0, none⟩), by simp [execOp, ho, Instr.alloc, zeroValue, typeInfo, hi, hzv, newVar, newRow], fun γ' ev b1 b2 b3 => ⟨?_, fun tm => ?_⟩⟩
      · simp only [RepP, RepC]; exact ⟨_, b1, rfl⟩
      · exact ⟨w.heap.size, zv.cells, e, b1, b2, b3, by simp, heap_alloc_at _ _, zCVs_rep hz⟩
    · cases hz
  · cases hz

theorem kv_box {e : TypeId} {x : Operand} {X : Opd T} {p : PV T} {cs : List (CV T)} {n : Nat} (ho : o.op = .box e x) (hx : cOpd x = some X) (h : Rd σ X p) (hp : pcells p = some cs) (hl : C.E.loc n) :
    KValid C o σ X.slots (.one (.ref n 0)) [] [(.h n, some (.b cs))] n (n + 1) := by
  refine kv_newO (g := .blk) (im := 0) hl fun σ' g1 _ γ a w hinv hs => ?_
  have e1 := pcells_rep hp (Rd.rep hs hx g1 h)
  refine ⟨.cells (a.eval x).cells e, .pointer (some ⟨w.heap.size, 0, none⟩), by simp [execOp, ho, Instr.box, newVar, newRow], fun γ' ev b1 b2 b3 => ⟨?_, fun tm => ?_⟩⟩
  · simp only [RepP, RepC]; exact ⟨_, b1, rfl⟩
  · exact ⟨w.heap.size, _, e, b1, b2, b3, by simp, heap_alloc_at _ _, RepCs.evo ev e1⟩
end
end Go.G
