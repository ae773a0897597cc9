import Derived.Test.YtmknondapmmehaaGAuto
set_option linter.unusedVariables false
set_option linter.unusedSimpArgs false
namespace Go.G
variable {T : Uni}

def shP : Pt T → Option T.U
  | .sl u => some u
  | _ => none

def tyL : List (Lp T) → Type
  | [] => Unit
  | p :: ps => p.ty × tyL ps

def embP : (p : Lp T) → p.ty → PV T
  | .one p, x => .one (embC p x)
  | .agg ps, x => .agg (embCs ps x)
  | _, _ => .junk

def embPs : (Ls : List (Lp T)) → tyL Ls → List (PV T)
  | [], _ => []
  | p :: ps, x => embP p x.1 :: embPs ps x.2

/-- Data that a value stands for; which rows are frozen by it. -/
def rdP (σ : St T) : (p : Lp T) → PV T → Option (p.ty × List Nat)
  | .one p, .one c => match cvD σ (shP p) c with
    | some (x, fs) => match readC p (.d x) with
      | some a => some (a, fs)
      | none => none
    | none => none
  | .agg ps, .agg cs => match rowOf σ (ps.map shP) cs with
    | some (xs, fs) => match readCs ps (xs.map CV.d) with
      | some a => some (a, fs)
      | none => none
    | none => none
  | _, _ => none

def rdPs (σ : St T) : (Ls : List (Lp T)) → List (PV T) → Option (tyL Ls × List Nat)
  | [], [] => some ((), [])
  | p :: ps, q :: qs => match rdP σ p q, rdPs σ ps qs with
    | some (x, fs), some (y, gs) => some ((x, y), fs ++ gs)
    | _, _ => none
  | _, _ => none

def embR (Rs : List (Lp T)) (y : tyL Rs) : PV T := resPV (embPs Rs y)

def rdRes (σ : St T) : (Rs : List (Lp T)) → PV T → Option (tyL Rs × List Nat)
  | [p], q => rdPs σ [p] [q]
  | [], .tup [] => some ((), [])
  | p :: p' :: ps, .tup qs => rdPs σ (p :: p' :: ps) qs
  | _, _ => none

def finR (Rs : List (Lp T)) (pv : PV T) (H : St T) (_ : Nat) : Option (tyL Rs) := match rdRes H Rs pv with
  | some (y, _) => some y
  | none => none

def frzH (H : St T) (fs : List Nat) : St T := H.flatMap fun (l, f) => match l with
  | .h nm => match fs.any (Nat.beq nm) with
    | true => match look H (.h nm) with
      | some (.r u ll _) => [(.h nm, .r u ll true)]
      | _ => []
    | false => [(.h nm, f)]
  | .s _ => []

/-- A call by what its function does to data. -/
def conD (As Rs : List (Lp T)) (fn : tyL As → Option (tyL Rs)) : (X : Type) → List (PV T) → St T → Nat → Nat → (PV T → St T → Nat → Option X) → Option X := fun _ args H n lim K =>
  match Nat.ble n lim with
  | true => match rdPs H As args with
    | some (x, fs) => match fn x with
      | some y => K (embR Rs y) (frzH H fs) n
      | none => none
    | none => none
  | false => none

/-! ### Data values -/
def isDC : CV T → Prop
  | .d _ => True
  | _ => False

def isDP : PV T → Prop
  | .one c => isDC c
  | .agg cs => ∀ c ∈ cs, isDC c
  | _ => False

theorem RepC.data {γ γ' : Gh} {w : World} {c : CV T} {v : Value} (hc : isDC c) (hi : γ'.imm = γ.imm) (h : RepC γ w c v) : RepC γ' w c v := by
  cases c with
  | d x => simp only [RepC] at h ⊢; rw [hi]; exact h
  | _ => exact hc.elim

theorem RepCs.data {γ γ' : Gh} {w : World} (hi : γ'.imm = γ.imm) : ∀ {cs : List (CV T)} {vs : List Value}, (∀ c ∈ cs, isDC c) → RepCs γ w cs vs → RepCs γ' w cs vs
  | [], [], _, _ => trivial
  | c :: cs, v :: vs, hc, h => ⟨h.1.data (hc c (by simp)) hi, RepCs.data hi (fun c hm => hc c (by simp [hm])) h.2⟩
  | [], _ :: _, _, h => h.elim
  | _ :: _, [], _, h => h.elim

theorem RepP.data {γ γ' : Gh} {w : World} {p : PV T} {v : Value} (hc : isDP p) (hi : γ'.imm = γ.imm) (h : RepP γ w p v) : RepP γ' w p v := by
  cases p with
  | one c => simp only [RepP] at h ⊢; exact h.data hc hi
  | agg cs => simp only [RepP] at h ⊢; obtain ⟨vs, e, h⟩ := h; exact ⟨vs, e, h.data hi hc⟩
  | tup ps => exact hc.elim
  | junk => exact hc.elim

theorem RepPs.data {γ γ' : Gh} {w : World} (hi : γ'.imm = γ.imm) : ∀ {ps : List (PV T)} {vs : List Value}, (∀ p ∈ ps, isDP p) → RepPs γ w ps vs → RepPs γ' w ps vs
  | [], [], _, _ => by simp only [RepPs]
  | p :: ps, v :: vs, hc, h => by
    simp only [RepPs] at h ⊢
    exact ⟨h.1.data (hc p (by simp)) hi, RepPs.data hi (fun c hm => hc c (by simp [hm])) h.2⟩
  | [], _ :: _, _, h => by simp only [RepPs] at h
  | _ :: _, [], _, h => by simp only [RepPs] at h

theorem readC_d {p : Pt T} {x : DV T.toSig} {a : p.ty} (h : readC p (.d x) = some a) : embC p a = .d x := by
  cases p with
  | int k =>
    cases x with
    | int k' n =>
      simp only [readC] at h
      split at h
      · rename_i hk
        cases h
        cases k <;> cases k' <;> first | rfl | cases hk
      · cases h
    | _ => simp [readC] at h
  | bool => cases x <;> simp only [readC, reduceCtorEq] at h; cases h; rfl
  | str => cases x <;> simp only [readC, reduceCtorEq] at h; cases h; rfl
  | sl u =>
    cases x with
    | sl u' l =>
      simp only [readC] at h
      split at h
      · rename_i hu _
        cases hu
        cases h
        rfl
      · cases h
    | _ => simp [readC] at h
  | _ => cases x <;> simp [readC] at h

theorem readCs_d : ∀ {ps : List (Pt T)} {xs : List (DV T.toSig)} {a : tys ps}, readCs ps (xs.map CV.d) = some a → embCs ps a = xs.map CV.d
  | [], [], _, _ => rfl
  | p :: ps, x :: xs, a, h => by
    simp only [List.map_cons, readCs] at h
    split at h
    · rename_i y z h1 h2
      cases h
      simp only [embCs, List.map_cons, readC_d h1, readCs_d h2]
    · cases h
  | [], _ :: _, _, h => by simp [readCs] at h
  | _ :: _, [], _, h => by simp [readCs] at h

section
variable {σ : St T} {γ : Gh} {w : World}

theorem rdP_rep {p : Lp T} {pv : PV T} {x : p.ty} {fs S : List Nat} {v : Value} (h : rdP σ p pv = some (x, fs)) (H : RowsOK σ γ w S) (hS : ∀ nm ∈ fs, nm ∈ S) (hr : RepP γ w pv v) :
    ∃ γ', γ'.bt = γ.bt ∧ γ'.own = γ.own ∧ Evo (fun n => n ∈ fs) γ w γ' w ∧ RepP γ' w (embP p x) v ∧ RowsOK σ γ' w S ∧ isDP (embP p x) := by
  cases p with
  | one p =>
    cases pv with
    | one c =>
      simp only [rdP] at h
      split at h
      · rename_i y gs hy
        split at h
        · rename_i a ha
          cases h
          simp only [RepP] at hr
          obtain ⟨γ', h1, h2, h3, h4, h5⟩ := cvD_rep hy H hS hr
          refine ⟨γ', h1, h2, h3, ?_, h5, ?_⟩
          · simp only [embP, readC_d ha, RepP, RepC]; exact h4
          · simp only [embP, readC_d ha, isDP, isDC]
        · cases h
      · cases h
    | _ => simp [rdP] at h
  | agg ps =>
    cases pv with
    | agg cs =>
      simp only [rdP] at h
      split at h
      · rename_i y gs hy
        split at h
        · rename_i a ha
          cases h
          simp only [RepP] at hr
          obtain ⟨vs, rfl, hr⟩ := hr
          obtain ⟨γ', h1, h2, h3, h4, h5⟩ := rowOf_rep hy H hS hr
          refine ⟨γ', h1, h2, h3, ?_, h5, ?_⟩
          · simp only [embP, readCs_d ha, RepP]; exact ⟨vs, rfl, h4.cs⟩
          · simp only [embP, readCs_d ha, isDP]
            intro c hc
            obtain ⟨z, _, rfl⟩ := List.mem_map.1 hc
            trivial
        · cases h
      · cases h
    | _ => simp [rdP] at h
  | _ => cases pv <;> simp [rdP] at h

theorem rdPs_rep : ∀ {ps : List (Lp T)} {qs : List (PV T)} {γ : Gh} {x : tyL ps} {fs S : List Nat} {vs : List Value}, rdPs σ ps qs = some (x, fs) → RowsOK σ γ w S → (∀ nm ∈ fs, nm ∈ S) → RepPs γ w qs vs →
    ∃ γ', γ'.bt = γ.bt ∧ γ'.own = γ.own ∧ Evo (fun n => n ∈ fs) γ w γ' w ∧ RepPs γ' w (embPs ps x) vs ∧ RowsOK σ γ' w S ∧ ∀ q ∈ embPs ps x, isDP q
  | [], [], γ, x, fs, S, vs, h, H, _, hr => by
    simp only [rdPs, Option.some.injEq, Prod.mk.injEq] at h
    obtain ⟨_, rfl⟩ := h
    cases vs with
    | nil => exact ⟨γ, rfl, rfl, .refl _ _ _, by simp only [embPs, RepPs], H, by simp [embPs]⟩
    | cons _ _ => simp only [RepPs] at hr
  | p :: ps, q :: qs, γ, x, fs, S, vs, h, H, hS, hr => by
    simp only [rdPs] at h
    split at h
    · rename_i x1 f1 x2 f2 h1 h2
      cases h
      cases vs with
      | nil => simp only [RepPs] at hr
      | cons v vs =>
        simp only [RepPs] at hr
        obtain ⟨γ1, a1, a2, a3, a4, a5, a6⟩ := rdP_rep h1 H (fun nm hm => hS nm (List.mem_append_left _ hm)) hr.1
        obtain ⟨γ2, b1, b2, b3, b4, b5, b6⟩ := rdPs_rep (γ := γ1) h2 a5 (fun nm hm => hS nm (List.mem_append_right _ hm)) (RepPs.evo a3 _ _ hr.2)
        refine ⟨γ2, b1.trans a1, b2.trans a2, (a3.weaken fun n h => List.mem_append_left _ h).trans (b3.weaken fun n h => List.mem_append_right _ h), ?_, b5, ?_⟩
        · simp only [embPs, RepPs]
          exact ⟨RepP.evo b3 _ _ a4, b4⟩
        · intro q hq
          simp only [embPs, List.mem_cons] at hq
          rcases hq with rfl | hq
          · exact a6
          · exact b6 q hq
    · cases h
  | [], _ :: _, _, _, _, _, _, h, _, _, _ => by simp [rdPs] at h
  | _ :: _, [], _, _, _, _, _, h, _, _, _ => by simp [rdPs] at h

def isRow (σ : St T) (nm : Nat) : Prop := ∃ u l fz, look σ (.h nm) = some (.r u l fz)

theorem cvD_row {sh : Option T.U} {c : CV T} {x : DV T.toSig} {fs : List Nat} (h : cvD σ sh c = some (x, fs)) : ∀ nm ∈ fs, isRow σ nm := by
  intro nm hm
  cases c with
  | d y => simp only [cvD, Option.some.injEq, Prod.mk.injEq] at h; obtain ⟨_, rfl⟩ := h; cases hm
  | nl => cases sh <;> simp only [cvD, Option.some.injEq, Prod.mk.injEq, reduceCtorEq] at h; obtain ⟨_, rfl⟩ := h; cases hm
  | own u0 k =>
    simp only [cvD] at h
    split at h
    · rename_i u l fz hl
      simp only [Option.some.injEq, Prod.mk.injEq] at h
      obtain ⟨_, rfl⟩ := h
      simp only [List.mem_singleton] at hm
      subst hm
      exact ⟨u, l, fz, hl⟩
    · cases h
  | buf u0 k off len =>
    simp only [cvD] at h
    split at h
    · rename_i u l fz hl
      split at h
      · simp only [Option.some.injEq, Prod.mk.injEq] at h
        obtain ⟨_, rfl⟩ := h
        simp only [List.mem_singleton] at hm
        subst hm
        exact ⟨u, l, fz, hl⟩
      · cases h
    · cases h
  | _ => cases sh <;> simp [cvD] at h

theorem rowOf_row : ∀ {shs : List (Option T.U)} {cs : List (CV T)} {xs : List (DV T.toSig)} {fs : List Nat}, rowOf σ shs cs = some (xs, fs) → ∀ nm ∈ fs, isRow σ nm
  | [], [], _, _, h, nm, hm => by
    simp only [rowOf, Option.some.injEq, Prod.mk.injEq] at h
    obtain ⟨_, rfl⟩ := h
    cases hm
  | sh :: shs, c :: cs, xs, fs, h, nm, hm => by
    simp only [rowOf] at h
    split at h
    · rename_i h1
      split at h
      · rename_i h2
        simp only [Option.some.injEq, Prod.mk.injEq] at h
        obtain ⟨_, rfl⟩ := h
        rcases List.mem_append.1 hm with hm | hm
        · exact cvD_row h1 nm hm
        · exact rowOf_row h2 nm hm
      · cases h
    · cases h
  | [], _ :: _, _, _, h, _, _ => by simp [rowOf] at h
  | _ :: _, [], _, _, h, _, _ => by simp [rowOf] at h

theorem rdP_row {p : Lp T} {pv : PV T} {x : p.ty} {fs : List Nat} (h : rdP σ p pv = some (x, fs)) : ∀ nm ∈ fs, isRow σ nm := by
  cases p with
  | one p =>
    cases pv with
    | one c =>
      simp only [rdP] at h
      split at h
      · rename_i hy
        split at h
        · cases h; exact cvD_row hy
        · cases h
      · cases h
    | _ => simp [rdP] at h
  | agg ps =>
    cases pv with
    | agg cs =>
      simp only [rdP] at h
      split at h
      · rename_i hy
        split at h
        · cases h; exact rowOf_row hy
        · cases h
      · cases h
    | _ => simp [rdP] at h
  | _ => cases pv <;> simp [rdP] at h

theorem rdPs_row : ∀ {ps : List (Lp T)} {qs : List (PV T)} {x : tyL ps} {fs : List Nat}, rdPs σ ps qs = some (x, fs) → ∀ nm ∈ fs, isRow σ nm
  | [], [], _, _, h, nm, hm => by
    simp only [rdPs, Option.some.injEq, Prod.mk.injEq] at h
    obtain ⟨_, rfl⟩ := h
    cases hm
  | p :: ps, q :: qs, x, fs, h, nm, hm => by
    simp only [rdPs] at h
    split at h
    · rename_i h1 h2
      cases h
      rcases List.mem_append.1 hm with hm | hm
      · exact rdP_row h1 nm hm
      · exact rdPs_row h2 nm hm
    · cases h
  | [], _ :: _, _, _, h, _, _ => by simp [rdPs] at h
  | _ :: _, [], _, _, h, _, _ => by simp [rdPs] at h

theorem rdRes_rep : ∀ {Rs : List (Lp T)} {pv : PV T} {y : tyL Rs} {fs S : List Nat} {v : Value}, rdRes σ Rs pv = some (y, fs) → RowsOK σ γ w S → (∀ nm ∈ fs, nm ∈ S) → RepP γ w pv v →
    ∃ γ', γ'.bt = γ.bt ∧ γ'.own = γ.own ∧ Evo (fun n => n ∈ fs) γ w γ' w ∧ RepP γ' w (embR Rs y) v ∧ ∀ q ∈ embPs Rs y, isDP q
  | [p], q, y, fs, S, v, h, H, hS, hr => by
    simp only [rdRes] at h
    obtain ⟨γ', h1, h2, h3, h4, _, h6⟩ := rdPs_rep (vs := [v]) h H hS (by simp only [RepPs]; exact ⟨hr, trivial⟩)
    refine ⟨γ', h1, h2, h3, ?_, h6⟩
    simp only [embPs, RepPs] at h4
    exact h4.1
  | [], .tup [], y, fs, S, v, h, H, hS, hr => by
    simp only [rdRes, Option.some.injEq, Prod.mk.injEq] at h
    obtain ⟨_, rfl⟩ := h
    exact ⟨γ, rfl, rfl, .refl _ _ _, hr, by simp [embPs]⟩
  | p :: p' :: ps, .tup qs, y, fs, S, v, h, H, hS, hr => by
    simp only [rdRes] at h
    simp only [RepP] at hr
    obtain ⟨vs, rfl, hr⟩ := hr
    obtain ⟨γ', h1, h2, h3, h4, _, h6⟩ := rdPs_rep h H hS hr
    refine ⟨γ', h1, h2, h3, ?_, h6⟩
    show RepP γ' w (.tup (embPs (p :: p' :: ps) y)) _
    simp only [RepP]
    exact ⟨vs, rfl, h4⟩
  | [], .one _, _, _, _, _, h, _, _, _ => by simp [rdRes] at h
  | [], .agg _, _, _, _, _, h, _, _, _ => by simp [rdRes] at h
  | [], .junk, _, _, _, _, h, _, _, _ => by simp [rdRes] at h
  | [], .tup (_ :: _), _, _, _, _, h, _, _, _ => by simp [rdRes] at h
  | _ :: _ :: _, .one _, _, _, _, _, h, _, _, _ => by simp [rdRes] at h
  | _ :: _ :: _, .agg _, _, _, _, _, h, _, _, _ => by simp [rdRes] at h
  | _ :: _ :: _, .junk, _, _, _, _, h, _, _, _ => by simp [rdRes] at h
end

/-! ### The law of a function over data -/
def g0 (imm : Nat → Nat) : Gh := ⟨fun _ => none, fun _ => none, imm⟩

def DataOK (P : Program) (f : FuncId) (As Rs : List (Lp T)) (fn : tyL As → Option (tyL Rs)) : Prop :=
  ∀ x y, fn x = some y → ∀ imm w vs, RepPs (g0 imm) w (embPs As x) vs → Calls P f vs.toArray w fun e w' => ∃ imm' v, e = .returned v ∧
    DEvo imm w imm' w' ∧ w'.os = w.os ∧ w'.tape = w.tape ∧ w'.output = w.output ∧ (∀ b, b < w.heap.size → w'.heap[b]? = w.heap[b]? ∧ imm' b = imm b) ∧ RepP (g0 imm') w' (embR Rs y) v

theorem RowsOK.of_heap {γ : Gh} {w : World} {H : St T} (h : HSat γ w H) (S : List Nat) : RowsOK H γ w S :=
  fun _ _ _ _ _ hlk => ((h _ _ (look_mem hlk)).1.frozen)

theorem embR_data {Rs : List (Lp T)} {y : tyL Rs} {γ γ' : Gh} {w : World} {v : Value} (hd : ∀ q ∈ embPs Rs y, isDP q) (hi : γ'.imm = γ.imm) (h : RepP γ w (embR Rs y) v) : RepP γ' w (embR Rs y) v := by
  unfold embR resPV at h ⊢
  split at h
  · rename_i p hp
    exact h.data (hd p (by rw [hp]; simp)) hi
  · simp only [RepP] at h ⊢
    obtain ⟨vs, e, h⟩ := h
    exact ⟨vs, e, RepPs.data hi hd h⟩

theorem data_of_ev {P : Program} {cu : TypeId → Option T.U} {f : FuncId} {F : AFn T} (hF : TextOK P cu f F) {call : CallH T} (hcall : CallSound P call) {As Rs : List (Lp T)} {fn : tyL As → Option (tyL Rs)} (lim : Nat)
    (h : (fun x => evFn call lim F (embPs As x) [] 0 (finR Rs)) = fn) : DataOK P f As Rs fn := by
  intro x y hx imm w vs hr
  rw [← h] at hx
  obtain ⟨pv, H', n', h1, h2, h3⟩ := fn_sound hF hcall (Nat.zero_le _) hx
  unfold finR at h1
  split at h1
  · rename_i y' fs hy
    cases h1
    have hE : EntryOK ⟨g0 imm, w, 0, lim, fun nm => ∃ g, (Loc.h nm, g) ∈ ([] : St T)⟩ := ⟨fun _ _ => ⟨rfl, fun _ h => by cases h⟩, fun _ _ => rfl⟩
    refine (h2 (g0 imm) w vs hE (fun l f hm => by cases hm) hr (fun _ _ hm => by cases hm)).mono ?_
    rintro e w' ⟨γ', v, rfl, i, hs, hv⟩
    obtain ⟨γ2, e1, e2, ev, hv2, hd⟩ := rdRes_rep hy (RowsOK.of_heap hs fs) (fun _ h => h) hv
    have hold : ∀ b, b < w.heap.size → w'.heap[b]? = w.heap[b]? ∧ γ'.own b = none ∧ γ'.imm b = imm b := fun b hb => i.same b hb fun nm h => by cases h
    refine ⟨γ2.imm, v, rfl, i.evo.trans ev.toDEvo, i.os, i.tape, i.output, fun b hb => ⟨(hold b hb).1, ?_⟩, embR_data (γ := γ2) (γ' := g0 γ2.imm) hd rfl hv2⟩
    rw [← (hold b hb).2.2]
    exact (ev.same b (Nat.lt_of_lt_of_le hb i.evo.size) fun nm h => by rw [(hold b hb).2.1] at h; cases h).2.2
  · cases h1

theorem con_of_data {P : Program} {f : FuncId} {As Rs : List (Lp T)} {fn : tyL As → Option (tyL Rs)} (hf : isFn P f = true) (h : DataOK P f As Rs fn) (hR : ∀ y, ∀ q ∈ embPs Rs y, isDP q) : ConOK P f (conD As Rs fn) := by
  intro X args H n lim K r hk
  unfold conD at hk
  split at hk
  · rename_i hn
    have hn : n ≤ lim := by simpa using hn
    split at hk
    · rename_i x fs hx
      split at hk
      · rename_i y hy
        refine ⟨_, _, n, hk, Nat.le_refl _, hn, isFn_ok hf, ?_, ?_⟩
        · intro γ w vs hE hH hr _
          obtain ⟨γ1, a1, a2, a3, a4, a5, a6⟩ := rdPs_rep hx (RowsOK.of_heap hH fs) (fun _ h => h) hr
          refine (h x y hy γ1.imm w vs (RepPs.data (γ := γ1) (γ' := g0 γ1.imm) rfl a6 a4)).mono ?_
          rintro e w' ⟨imm', v, rfl, d1, d2, d3, d4, d5, d6⟩
          let γ' : Gh := ⟨γ1.bt, γ1.own, imm'⟩
          have ev2 : Evo (fun _ => False) γ1 w γ' w' := { d1 with
            os := d2, tape := d3, output := d4
            same := fun b hb _ => ⟨(d5 b hb).1, rfl, (d5 b hb).2⟩
            bt := fun _ _ h => h }
          have ev : Evo (fun n => n ∈ fs) γ w γ' w' := a3.trans (ev2.weaken fun _ h => h.elim)
          have hin : ∀ nm ∈ fs, ∃ g, (Loc.h nm, g) ∈ H := fun nm hm => by
            obtain ⟨u, l, fz, hl⟩ := rdPs_row hx nm hm
            exact ⟨_, look_mem hl⟩
          refine ⟨γ', v, rfl, ?_, ?_, embR_data (γ := g0 imm') (γ' := γ') (hR y) rfl d6⟩
          · exact {
              evo := ev.toDEvo, os := ev.os, tape := ev.tape, output := ev.output
              same := fun b hb hx => ev.same b hb fun nm hn hm => hx nm hn (hin nm hm)
              bt := fun nm v _ hv => by show γ1.bt nm = _; rw [a1]; exact hv
              out := fun nm _ hv => by show γ1.bt nm = _; rw [a1]; exact hv
              new := fun b nm hb => by
                have hb : γ.own b = some nm := by rw [← a2]; exact hb
                refine .inr ⟨?_, hb⟩
                rcases Nat.lt_or_ge b w.heap.size with h' | h'
                · exact h'
                · rw [hE.ok b h'] at hb; cases hb
              ok := fun b hb => by
                show γ1.own b = none
                rw [a2]
                exact hE.ok b (Nat.le_trans ev.size hb) }
          · intro l g hm
            obtain ⟨⟨l', g'⟩, hm', hg⟩ := List.mem_flatMap.1 hm
            cases l' with
            | s i => cases hg
            | h nm =>
              simp only at hg
              split at hg
              · rename_i hany
                split at hg
                · rename_i u ll fz hl
                  simp only [List.mem_singleton, Prod.mk.injEq] at hg
                  obtain ⟨rfl, rfl⟩ := hg
                  have hmem : nm ∈ fs := by
                    obtain ⟨k, hk, he⟩ := List.any_eq_true.1 hany
                    have := Nat.eq_of_beq_eq_true he
                    subst this
                    exact hk
                  exact ⟨(a5 nm hmem u ll fz hl).evo ev2 (fun _ _ h => h) (fun _ _ => rfl), by simp⟩
                · cases hg
              · rename_i hany
                simp only [List.mem_singleton, Prod.mk.injEq] at hg
                obtain ⟨rfl, rfl⟩ := hg
                refine ⟨(hH _ _ hm').1.evo ev (fun k e hk => ?_) (fun _ _ => rfl), by simp⟩
                cases e
                have : fs.any (Nat.beq nm) = true := List.any_eq_true.2 ⟨nm, hk, Nat.beq_refl nm⟩
                rw [this] at hany
                cases hany
        · intro l g hm
          obtain ⟨⟨l', g'⟩, hm', hg⟩ := List.mem_flatMap.1 hm
          cases l' with
          | s i => cases hg
          | h nm =>
            refine ⟨nm, ?_, .inl ⟨g', ?_⟩⟩
            · simp only at hg
              split at hg
              · split at hg
                · simp only [List.mem_singleton, Prod.mk.injEq] at hg; exact hg.1
                · cases hg
              · simp only [List.mem_singleton, Prod.mk.injEq] at hg; exact hg.1
            · have : l = .h nm := by
                simp only at hg
                split at hg
                · split at hg
                  · simp only [List.mem_singleton, Prod.mk.injEq] at hg; exact hg.1
                  · cases hg
                · simp only [List.mem_singleton, Prod.mk.injEq] at hg; exact hg.1
              rw [this]; exact hm'
      · cases hk
    · cases hk
  · cases hk
end Go.G
