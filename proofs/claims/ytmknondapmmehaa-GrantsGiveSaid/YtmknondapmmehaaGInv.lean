import Derived.Test.YtmknondapmmehaaGRep
set_option linter.unusedVariables false
set_option linter.unusedSimpArgs false
namespace Go.G
variable {T : Uni}

theorem Loc.eqb_iff {l l' : Loc} : Loc.eqb l l' = true ↔ l = l' := by
  cases l <;> cases l' <;> simp [Loc.eqb, Nat.beq_eq]
theorem Loc.eqb_self (l : Loc) : Loc.eqb l l = true := Loc.eqb_iff.2 rfl
theorem Loc.eqb_ne {l l' : Loc} (h : l ≠ l') : Loc.eqb l l' = false := by
  cases hh : Loc.eqb l l' with
  | false => rfl
  | true => exact absurd (Loc.eqb_iff.1 hh) h

theorem look_cons (l' : Loc) (f : Fact T) (σ : St T) (l : Loc) : look ((l', f) :: σ) l = if l' = l then some f else look σ l := by
  by_cases h : l' = l
  · subst h; simp [look, Loc.eqb_self]
  · simp [look, Loc.eqb_ne h, h]

def memL : Loc → Bool
  | .s _ => false
  | .h _ => true

def wl : Wr T → Loc → Option (Fact T) → Option (Fact T)
  | [], _, x => x
  | (l', o) :: r, l, x => wl r l (if l' = l then o else x)

theorem look_era (l l' : Loc) : ∀ σ : St T, look (era l σ) l' = if l = l' then none else look σ l'
  | [] => by simp [era, look]
  | (l0, f) :: r => by
    have ih := look_era l l' r
    by_cases h : l0 = l
    · subst h
      simp only [era, Loc.eqb_self, ih, look_cons]
      by_cases h2 : l0 = l' <;> simp [h2]
    · simp only [era, Loc.eqb_ne h, look_cons, ih]
      by_cases h2 : l0 = l'
      · subst h2; simp [Ne.symm h]
      · simp [h2]

theorem look_upd : ∀ (wrs : Wr T) (σ : St T) (l : Loc), look (upd σ wrs) l = wl wrs l (look σ l)
  | [], _, _ => rfl
  | (l', some f) :: r, σ, l => by simp only [upd, wl, look_upd r, look_cons]
  | (l', none) :: r, σ, l => by simp only [upd, wl, look_upd r, look_era]

theorem wl_not : ∀ (wrs : Wr T) (l : Loc) (x : Option (Fact T)), l ∉ locs wrs → wl wrs l x = x
  | [], _, _, _ => rfl
  | (l', o) :: r, l, x, h => by
    simp only [locs, List.map_cons, List.mem_cons, not_or] at h
    simp only [wl, if_neg (Ne.symm h.1)]
    exact wl_not r l x h.2

theorem wl_some_mem : ∀ (wrs : Wr T) (l : Loc) (x : Option (Fact T)) (f : Fact T), wl wrs l x = some f → x = some f ∧ l ∉ locs wrs ∨ (l, some f) ∈ wrs
  | [], _, _, _, h => .inl ⟨h, by simp [locs]⟩
  | (l', o) :: r, l, x, f, h => by
    simp only [wl] at h
    by_cases h1 : l' = l
    · subst h1
      simp only [if_true] at h
      rcases wl_some_mem r l' o f h with ⟨rfl, _⟩ | h2
      · exact .inr (by simp)
      · exact .inr (by simp [h2])
    · simp only [h1, if_false] at h
      rcases wl_some_mem r l x f h with ⟨h2, h3⟩ | h2
      · exact .inl ⟨h2, by simp only [locs, List.map_cons, List.mem_cons, not_or]; exact ⟨Ne.symm h1, h3⟩⟩
      · exact .inr (by simp [h2])

theorem look_mem : ∀ {σ : St T} {l : Loc} {f : Fact T}, look σ l = some f → (l, f) ∈ σ
  | [], _, _, h => by simp [look] at h
  | (l', f') :: r, l, f, h => by
    rw [look_cons] at h
    split at h
    · rename_i he; subst he; cases h; simp
    · exact List.mem_cons_of_mem _ (look_mem h)

theorem look_append (σ τ : St T) (l : Loc) : look (σ ++ τ) l = match look σ l with
    | some f => some f
    | none => look τ l := by
  induction σ with
  | nil => rfl
  | cons x σ ih =>
    obtain ⟨l', f⟩ := x
    simp only [List.cons_append, look_cons]
    split
    · rfl
    · exact ih

/-- Where a frame began: the ghost, the world, its names (from base on, below lim), the names of its caller that it may change. -/
structure Entry where
  γ0 : Gh
  w0 : World
  base : Nat
  lim : Nat
  X : Nat → Prop

def Entry.perm (E : Entry) (nm : Nat) : Prop := E.X nm ∨ (E.base ≤ nm ∧ nm < E.lim)
def Entry.loc (E : Entry) (nm : Nat) : Prop := E.base ≤ nm ∧ nm < E.lim

structure EntryOK (E : Entry) : Prop where
  fresh : ∀ nm, E.loc nm → E.γ0.bt nm = none ∧ ∀ b, E.γ0.own b ≠ some nm
  ok : ∀ b, E.w0.heap.size ≤ b → E.γ0.own b = none

/-- What holds throughout a frame. -/
structure Inv (E : Entry) (γ : Gh) (w : World) : Prop where
  evo : DEvo E.γ0.imm E.w0 γ.imm w
  os : w.os = E.w0.os
  tape : w.tape = E.w0.tape
  output : w.output = E.w0.output
  same : ∀ b, b < E.w0.heap.size → (∀ nm, E.γ0.own b = some nm → ¬ E.X nm) → w.heap[b]? = E.w0.heap[b]? ∧ γ.own b = E.γ0.own b ∧ γ.imm b = E.γ0.imm b
  bt : ∀ nm v, ¬ E.loc nm → E.γ0.bt nm = some v → γ.bt nm = some v
  out : ∀ nm, ¬ E.loc nm → E.γ0.bt nm = none → γ.bt nm = none
  new : ∀ b nm, γ.own b = some nm → E.loc nm ∨ (b < E.w0.heap.size ∧ E.γ0.own b = some nm)
  ok : ∀ b, w.heap.size ≤ b → γ.own b = none

def Fresh (lo hi : Nat) (γ : Gh) : Prop := ∀ nm, lo ≤ nm → nm < hi → γ.bt nm = none ∧ ∀ b, γ.own b ≠ some nm

structure Sat (E : Entry) (N : Nat) (γ : Gh) (w : World) (a : Act) (σ : St T) : Prop where
  size : a.tmps.size = N
  defers : a.defers = []
  facts : ∀ l f, look σ l = some f → FactOK γ w (fun i => a.tmps.getD i undef) l f
  perm : ∀ nm f, look σ (.h nm) = some f → E.perm nm

def HSat (γ : Gh) (w : World) (H : St T) : Prop := ∀ l f, (l, f) ∈ H → FactOK γ w (fun _ => undef) l f ∧ ∀ i, l ≠ .s i

theorem getD_set (ts : Array Value) (i d : Nat) (v : Value) (hd : d < ts.size) : (ts.setIfInBounds d v).getD i undef = if i = d then v else ts.getD i undef := by
  by_cases h : i = d
  · subst h; simp [hd]
  · simp [h, Array.getElem?_setIfInBounds_ne (Ne.symm h)]

section
variable {E : Entry} {N : Nat} {γ γ' : Gh} {w w' : World} {a : Act} {σ σ' : St T}

theorem Inv.refl (hE : EntryOK E) : Inv E E.γ0 E.w0 where
  evo := DEvo.refl _ _
  os := rfl
  tape := rfl
  output := rfl
  same := fun _ _ _ => ⟨rfl, rfl, rfl⟩
  bt := fun _ _ _ h => h
  out := fun _ _ h => h
  new := fun b nm h => .inr ⟨(by
    rcases Nat.lt_or_ge b E.w0.heap.size with h' | h'
    · exact h'
    · rw [hE.ok b h'] at h
      cases h), h⟩
  ok := hE.ok

/-- A step within the frame: it has changed blocks of names that it may change. -/
theorem Inv.step {Y : Nat → Prop} (hi : Inv E γ w) (ev : Evo Y γ w γ' w') (hE : EntryOK E) (hY : ∀ nm, Y nm → E.perm nm)
    (hbt : ∀ nm, ¬ E.loc nm → γ'.bt nm = γ.bt nm) (hown : ∀ b nm, γ'.own b = some nm → E.loc nm ∨ γ.own b = some nm) (hok : ∀ b, w'.heap.size ≤ b → γ'.own b = none) : Inv E γ' w' where
  evo := hi.evo.trans ev.toDEvo
  os := ev.os.trans hi.os
  tape := ev.tape.trans hi.tape
  output := ev.output.trans hi.output
  same := fun b hb hx => by
    obtain ⟨h1, h2, h3⟩ := hi.same b hb hx
    obtain ⟨k1, k2, k3⟩ := ev.same b (Nat.lt_of_lt_of_le hb hi.evo.size) fun nm hn hy => by
      rw [h2] at hn
      rcases hY nm hy with h | h
      · exact hx nm hn h
      · exact (hE.fresh nm h).2 b hn
    exact ⟨k1.trans h1, k2.trans h2, k3.trans h3⟩
  bt := fun nm v hn hv => by rw [hbt nm hn]; exact hi.bt nm v hn hv
  out := fun nm hn hv => by rw [hbt nm hn]; exact hi.out nm hn hv
  new := fun b nm hb => (hown b nm hb).elim .inl (hi.new b nm)
  ok := hok

/-- The one lemma by which a state is kept: an operation has written 'dst' and the facts 'wrs'; memory has moved on, within Y. -/
theorem Sat.upd {Y : Nat → Prop} (hs : Sat E N γ w a σ) (ev : Evo Y γ w γ' w') {dst : Option Nat} {v : Value} {wrs : Wr T}
    (hd : ∀ d, dst = some d → d < N ∧ Loc.s d ∈ locs wrs) (hY : ∀ nm, Y nm → Loc.h nm ∈ locs wrs)
    (hn : ∀ l f, (l, some f) ∈ wrs → FactOK γ' w' (fun i => (a.put dst v).tmps.getD i undef) l f ∧ ∀ nm, l = .h nm → E.perm nm) : Sat E N γ' w' (a.put dst v) (upd σ wrs) := by
  refine ⟨?_, ?_, fun l f h => ?_, fun nm f h => ?_⟩
  · cases dst <;> simp [Act.put, hs.size]
  · cases dst <;> simp [Act.put, hs.defers]
  · rw [look_upd] at h
    rcases wl_some_mem wrs l _ f h with ⟨h1, h2⟩ | h1
    · refine (hs.facts l f h1).evo ev (fun nm e hx => h2 (e ▸ hY nm hx)) ?_
      intro i hi
      subst hi
      cases dst with
      | none => rfl
      | some d =>
        have hne : i ≠ d := fun e => h2 (by rw [e]; exact (hd d rfl).2)
        simp only [Act.put]
        rw [getD_set _ _ _ _ (by rw [hs.size]; exact (hd d rfl).1), if_neg hne]
    · exact (hn l f h1).1
  · rw [look_upd] at h
    rcases wl_some_mem wrs _ _ f h with ⟨h1, _⟩ | h1
    · exact hs.perm nm f h1
    · exact (hn _ f h1).2 nm rfl

theorem Sat.congr (h : ∀ l, look σ' l = look σ l) (hs : Sat E N γ w a σ) : Sat E N γ w a σ' :=
  ⟨hs.size, hs.defers, fun l f hl => hs.facts l f ((h l).symm.trans hl), fun l f hl => hs.perm l f ((h _).symm.trans hl)⟩

theorem HSat.evo {X : Nat → Prop} (ev : Evo X γ w γ' w') {H : St T} (hH : ∀ nm f, (Loc.h nm, f) ∈ H → ¬ X nm) (h : HSat γ w H) : HSat γ' w' H :=
  fun l f hm => ⟨(h l f hm).1.evo ev (fun nm e => hH nm f (e ▸ hm)) (fun _ _ => rfl), (h l f hm).2⟩
end
end Go.G
