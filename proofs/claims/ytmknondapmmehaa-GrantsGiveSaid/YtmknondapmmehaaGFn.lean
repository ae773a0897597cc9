import Derived.Test.YtmknondapmmehaaGCode
set_option linter.unusedVariables false
set_option linter.unusedSimpArgs false
namespace Go.G
variable {T : Uni}

def cRV (P : Program) : ResultVar → Option RV
  | .tmp t => some (.t t)
  | .cell a t => match tyAg P t, tySz P t with
    | some ag, some m => if ag = false ∧ m ≠ 1 then none else some (.c a m ag)
    | _, _ => none

def cRVs (P : Program) : List ResultVar → Option (List RV)
  | [] => some []
  | r :: rs => match cRV P r, cRVs P rs with
    | some x, some xs => some (x :: xs)
    | _, _ => none

structure PFn (T : Uni) where
  pc : PCode T
  N : Nat
  rv : List RV

def compFn (P : Program) (cu : TypeId → Option T.U) (f : FuncId) : Option (PFn T) :=
  match P.funcs[f]? with
  | some fn => match fn.body with
    | some code => match compile P cu fn.ntmps code, cRVs P fn.results.toList with
      | some pc, some rv => some ⟨pc, fn.ntmps, rv⟩
      | _, _ => none
    | none => none
  | none => none

def eraseFn (F : AFn T) : PFn T := ⟨erase F.pc, F.N, F.rv⟩

def rvRun (tm : Array Value) : ResultVar → Sem Value
  | .tmp t => pure (tm.getD t undef)
  | .cell b t => do loadVar t (← asAddr (tm.getD b undef))

section
variable {P : Program} {σ : St T} {X : Type} {q : X}

theorem rdR_run {r : ResultVar} {x : RV} (hr : cRV P r = some x) {K : PV T → Option X} (h : rdR σ x K = some q) :
    ∃ p, K p = some q ∧ (∀ E N γ' w' a', Sat E N γ' w' a' σ → ∃ v, RepP γ' w' p v ∧ (rvRun a'.tmps r).run P w' = .ok v w') := by
  cases r with
  | tmp t =>
    simp only [cRV, Option.some.injEq] at hr
    subst hr
    simp only [rdR] at h
    split at h
    · rename_i p hl
      exact ⟨p, h, fun E N γ' w' a' hs => ⟨_, (hs.facts _ _ hl).1 rfl, rfl⟩⟩
    · cases h
  | cell i t =>
    simp only [cRV] at hr
    split at hr
    · rename_i ag m ha hm
      split at hr
      · cases hr
      · rename_i hcond
        cases hr
        have h1 : ag = false → m = 1 := fun e => by
          rcases Nat.decEq m 1 with h' | h'
          · exact absurd ⟨e, h'⟩ hcond
          · exact h'
        simp only [rdR] at h
        split at h
        · rename_i nm off hl
          split at h
          · rename_i cs hb
            obtain ⟨p, hp, hl', rfl⟩ := ldv_inv h1 h
            refine ⟨_, hp, fun E N γ' w' a' hs => ?_⟩
            have e1 := (hs.facts _ _ hl).1 rfl
            simp only [RepP] at e1
            obtain ⟨b, hbox, e1⟩ := e1
            obtain ⟨b', vs, ty, h3, _, _, _, h4, h5⟩ := hs.facts (.h nm) (.b cs) hb
            rw [hbox] at h3; cases h3
            have hr : RepCs γ' w' ((cs.drop off).take m) ((vs.toList.drop off).take m) := (h5.drop off).take m
            have hlv : ((vs.toList.drop off).take m).length = m := by rw [← hr.length]; exact hl'
            have hrun := run_loadVar_list ha hm w' b off _ hlv h1 (fun j v hj => by
              have hj' : j < m := by rw [← hlv]; exact (List.getElem?_eq_some_iff.1 hj).1
              rw [List.getElem?_take_of_lt hj', List.getElem?_drop] at hj
              simp only [World.cell?, h4]
              simpa using hj)
            refine ⟨_, ld_rep h1 hl' hr, ?_⟩
            simp [rvRun, e1, asAddr, hrun]
          · cases h
        · cases h
    · cases hr

theorem rdRs_run : ∀ {rs : List ResultVar} {xs : List RV}, cRVs P rs = some xs → ∀ {K : List (PV T) → Option X}, rdRs σ xs K = some q →
    ∃ ps, K ps = some q ∧ (∀ E N γ' w' a', Sat E N γ' w' a' σ → ∃ vs, RepPs γ' w' ps vs ∧ (rs.mapM (rvRun a'.tmps)).run P w' = .ok vs w')
  | [], xs, hc, K, h => by
    simp only [cRVs, Option.some.injEq] at hc
    subst hc
    exact ⟨[], h, fun _ _ _ _ _ _ => ⟨[], by simp only [RepPs], rfl⟩⟩
  | r :: rs, xs, hc, K, h => by
    simp only [cRVs] at hc
    split at hc
    · rename_i x xs' h1 h2
      cases hc
      have key := rdR_run h1 h
      obtain ⟨p, k1, k2⟩ := key
      obtain ⟨ps, j1, j2⟩ := rdRs_run h2 k1
      refine ⟨p :: ps, j1, fun E N γ' w' a' hs => ?_⟩
      obtain ⟨v, v1, v2⟩ := k2 E N γ' w' a' hs
      obtain ⟨vs, u1, u2⟩ := j2 E N γ' w' a' hs
      refine ⟨v :: vs, by simp only [RepPs]; exact ⟨v1, u1⟩, ?_⟩
      simp only [List.mapM_cons, Sem.run_bind, v2, Result.andThen_ok, u2, Sem.run_pure]
    · cases hc

theorem results_run {fn : Func} {xs : List RV} (hc : cRVs P fn.results.toList = some xs) {K : List (PV T) → Option X} (h : rdRs σ xs K = some q) :
    ∃ ps, K ps = some q ∧ (∀ E N γ' w' a', Sat E N γ' w' a' σ → ∃ v, RepP γ' w' (resPV ps) v ∧ (results fn a'.tmps).run P w' = .ok v w') := by
  obtain ⟨ps, h1, h2⟩ := rdRs_run hc h
  refine ⟨ps, h1, fun E N γ' w' a' hs => ?_⟩
  obtain ⟨vs, h2, h3⟩ := h2 E N γ' w' a' hs
  refine ⟨if hh : vs.toArray.size = 1 then vs.toArray[0] else .tuple vs.toArray, ?_, ?_⟩
  · match ps, vs, h2 with
    | [], [], h2 => simp [resPV, RepP, RepPs]
    | [p], [v], h2 => simp only [RepPs] at h2; simpa [resPV] using h2.1
    | p :: q :: ps, v :: u :: vs, h2 => simp only [resPV, RepP]; exact ⟨_, by simp, h2⟩
    | [], _ :: _, h2 => simp only [RepPs] at h2
    | _ :: _, [], h2 => simp only [RepPs] at h2
    | [_], _ :: _ :: _, h2 => simp only [RepPs, and_false] at h2
    | _ :: _ :: _, [_], h2 => simp only [RepPs, and_false] at h2
  · have e : results fn a'.tmps = (do let vs ← fn.results.mapM (rvRun a'.tmps); pure (if h : vs.size = 1 then vs[0] else .tuple vs)) := by
      unfold results
      rfl
    rw [e]
    have e2 : fn.results.mapM (rvRun a'.tmps) = Functor.map List.toArray (fn.results.toList.mapM (rvRun a'.tmps)) := by
      rw [Array.mapM_eq_mapM_toList]
    rw [e2]
    simp [h3]

theorem look_argSt : ∀ (ps : List (PV T)) (i : Nat) (l : Loc) (f : Fact T), look (argSt i ps) l = some f → ∃ j p, l = .s (i + j) ∧ f = .v true p ∧ ps[j]? = some p
  | [], _, _, _, h => by simp [argSt, look] at h
  | p :: ps, i, l, f, h => by
    simp only [argSt, look_cons] at h
    split at h
    · rename_i he; cases h; exact ⟨0, p, he.symm, rfl, rfl⟩
    · obtain ⟨j, q, e, e2, e3⟩ := look_argSt ps (i + 1) l f h
      exact ⟨j + 1, q, by rw [e]; congr 1; omega, e2, by simpa using e3⟩

theorem heapOf_go : ∀ (σ : St T) (seen : List Nat) (l : Loc) (f : Fact T), (l, f) ∈ heapOf.go σ seen → ∃ nm, l = .h nm ∧ nm ∉ seen ∧ look σ (.h nm) = some f
  | [], _, _, _, h => by simp [heapOf.go] at h
  | (.s i, g) :: r, seen, l, f, h => by
    simp only [heapOf.go] at h
    obtain ⟨nm, e, h1, h2⟩ := heapOf_go r seen l f h
    exact ⟨nm, e, h1, by rw [look_cons, if_neg (by simp)]; exact h2⟩
  | (.h k, g) :: r, seen, l, f, h => by
    simp only [heapOf.go] at h
    split at h
    · rename_i hk
      obtain ⟨nm, e, h1, h2⟩ := heapOf_go r seen l f h
      refine ⟨nm, e, h1, ?_⟩
      rw [look_cons, if_neg (by
        intro he; cases he
        obtain ⟨x, hx, hxe⟩ := List.any_eq_true.1 hk
        have := Nat.eq_of_beq_eq_true hxe
        subst this
        exact h1 hx)]
      exact h2
    · rename_i hk
      rcases List.mem_cons.1 h with h | h
      · cases h
        refine ⟨k, rfl, fun hm => ?_, by rw [look_cons, if_pos rfl]⟩
        have : seen.any (Nat.beq k) = true := List.any_eq_true.2 ⟨k, hm, by simp⟩
        rw [hk] at this; cases this
      · obtain ⟨nm, e, h1, h2⟩ := heapOf_go r (k :: seen) l f h
        simp only [List.mem_cons, not_or] at h1
        exact ⟨nm, e, h1.2, by rw [look_cons, if_neg (by intro he; cases he; exact h1.1 rfl)]; exact h2⟩

theorem heapOf_mem {σ : St T} {l : Loc} {f : Fact T} (h : (l, f) ∈ heapOf σ) : ∃ nm, l = .h nm ∧ look σ (.h nm) = some f := by
  obtain ⟨nm, e, _, h2⟩ := heapOf_go σ [] l f h
  exact ⟨nm, e, h2⟩
end

def isFnOK (P : Program) (f : FuncId) : Bool := isFn P f

/-- A function's text is as its entry says. -/
structure TextOK (P : Program) (cu : TypeId → Option T.U) (f : FuncId) (F : AFn T) : Prop where
  comp : compFn P cu f = some (eraseFn F)
  good : Good P cu F.N F.pc
  fn : isFn P f = true

theorem RepPs.length {γ : Gh} {w : World} : ∀ {ps : List (PV T)} {vs : List Value}, RepPs γ w ps vs → ps.length = vs.length
  | [], [], _ => rfl
  | _ :: ps, _ :: vs, h => by simp only [RepPs] at h; simp [RepPs.length h.2]
  | [], _ :: _, h => by simp only [RepPs] at h
  | _ :: _, [], h => by simp only [RepPs] at h

theorem hnames_mem : ∀ {H : St T} {nm : Nat}, nm ∈ hnames H → ∃ g, (Loc.h nm, g) ∈ H
  | [], _, h => by simp [hnames] at h
  | (.h k, g) :: r, nm, h => by
    simp only [hnames, List.mem_cons] at h
    rcases h with rfl | h
    · exact ⟨g, by simp⟩
    · obtain ⟨g', hg⟩ := hnames_mem h; exact ⟨g', by simp [hg]⟩
  | (.s k, g) :: r, nm, h => by
    simp only [hnames] at h
    obtain ⟨g', hg⟩ := hnames_mem h; exact ⟨g', by simp [hg]⟩

theorem heapIn_mem {H σ : St T} {lo hi : Nat} {l : Loc} {f : Fact T} (h : (l, f) ∈ heapIn H lo hi σ) : ∃ nm, l = .h nm ∧ look σ (.h nm) = some f ∧ ((∃ g, (Loc.h nm, g) ∈ H) ∨ (lo ≤ nm ∧ nm < hi)) := by
  unfold heapIn at h
  rw [List.mem_filter] at h
  obtain ⟨h1, h2⟩ := h
  obtain ⟨nm, rfl, h3⟩ := heapOf_mem h1
  refine ⟨nm, rfl, h3, ?_⟩
  simp only [Bool.or_eq_true, Bool.and_eq_true, Nat.ble_eq] at h2
  rcases h2 with h2 | h2
  · obtain ⟨x, hx, he⟩ := List.any_eq_true.1 h2
    have := Nat.eq_of_beq_eq_true he
    subst this
    exact .inl (hnames_mem hx)
  · exact .inr ⟨h2.1, blt_lt h2.2⟩

theorem fn_sound {P : Program} {cu : TypeId → Option T.U} {f : FuncId} {F : AFn T} (hF : TextOK P cu f F) {call : CallH T} (hcall : CallSound P call) {X : Type} {q : X} {args : List (PV T)} {H : St T} {n lim : Nat} {K : PV T → St T → Nat → Option X} (hn : n ≤ lim)
    (h : evFn call lim F args H n K = some q) : ∃ pv H' n', K pv H' n' = some q ∧ CallOK P f args H n lim pv H' ∧ (∀ l g, (l, g) ∈ H' → ∃ nm, l = .h nm ∧ ((∃ g', (l, g') ∈ H) ∨ (n ≤ nm ∧ nm < lim))) := by
  have hc := hF.comp
  unfold compFn at hc
  split at hc
  · rename_i fn hfn
    split at hc
    · rename_i code hcode
      split at hc
      · rename_i pc rv hpc hrv
        simp only [eraseFn, Option.some.injEq, PFn.mk.injEq] at hc
        obtain ⟨rfl, hN, rfl⟩ := hc
        unfold evFn at h
        split at h
        · rename_i hlen
          have hlen : args.length ≤ F.N := by simpa using hlen
          let S : Cls := ⟨P, F.N, n, lim, fun nm => ∃ g, (Loc.h nm, g) ∈ H⟩
          rw [hN] at hpc
          obtain ⟨e, σ', n', k1, k2, k3, k4⟩ := ev_sound (S := S) (cu := cu) (r := q) hcall F.pc code (argSt 0 args ++ H) n _ hpc hF.good (Nat.le_refl _) hn h
          have key : ∃ ps, K (resPV ps) (heapIn H n lim σ') n' = some q ∧ (e = .normal ∨ e = .ret) ∧ (∀ E N γ' w' a', Sat E N γ' w' a' σ' → ∃ v, RepP γ' w' (resPV ps) v ∧ (results fn a'.tmps).run P w' = .ok v w') := by
            cases e with
            | normal =>
              obtain ⟨ps, h1, h2⟩ := results_run hrv k1
              exact ⟨ps, h1, .inl rfl, h2⟩
            | ret =>
              obtain ⟨ps, h1, h2⟩ := results_run hrv k1
              exact ⟨ps, h1, .inr rfl, h2⟩
            | exit id => cases k1
            | goto l => cases k1
            | panic ch => cases k1
            | outgrown => cases k1
          obtain ⟨ps, h1, h2, h3⟩ := key
          -- the heap that is handed back: of names that may be changed
          refine ⟨_, _, _, h1, ?_, ?_⟩
          · intro γ w vs hE hH hr hHn
            have hvl := RepPs.length hr
            refine calls_of_wp hfn hcode ?_
            have hs : Sat (S.entry γ w) S.N γ w { tmps := vs.toArray ++ Array.replicate (fn.ntmps - vs.toArray.size) undef, defers := [] } (argSt 0 args ++ H) := by
              refine ⟨by simp [S]; omega, rfl, fun l g hl => ?_, fun nm g hl => ?_⟩
              · rw [look_append] at hl
                split at hl
                · rename_i g' hg'
                  cases hl
                  obtain ⟨j, p, rfl, rfl, hj⟩ := look_argSt _ _ _ _ hg'
                  obtain ⟨v, hv, hrep⟩ := hr.get hj
                  have hjl : j < vs.length := (List.getElem?_eq_some_iff.1 hv).1
                  refine ⟨fun _ => ?_, fun h => by cases h⟩
                  have : (vs.toArray ++ Array.replicate (fn.ntmps - vs.toArray.size) undef).getD (0 + j) undef = v := by
                    rw [Nat.zero_add, Array.getD_eq_getD_getElem?, Array.getElem?_append_left (by simpa using hjl)]
                    simp [hv]
                  simp only [this]
                  exact hrep
                · have := hH l g (look_mem hl)
                  exact this.1.mem this.2
              · rw [look_append] at hl
                split at hl
                · rename_i g' hg'
                  obtain ⟨j, p, e1, _, _⟩ := look_argSt _ _ _ _ hg'
                  cases e1
                · exact .inl ⟨g, look_mem hl⟩
            have hfr : Fresh n S.lim γ := fun nm a b => hE.fresh nm ⟨a, b⟩
            refine wp_mono (k4 γ w hE γ _ w (Inv.refl hE) hfr hs) fun e' a' w' ⟨q1, γ', i1, f1, s1⟩ => ?_
            subst q1
            obtain ⟨v, v1, v2⟩ := h3 _ _ _ _ _ s1
            have hres : ∃ v, (results fn a'.tmps).run P w' = .ok v w' ∧ ∃ γ' v', Ending.returned v = .returned v' ∧ Inv ⟨γ, w, n, lim, fun nm => ∃ g, (Loc.h nm, g) ∈ H⟩ γ' w' ∧ HSat γ' w' (heapIn H n lim σ') ∧ RepP γ' w' (resPV ps) v' := by
              refine ⟨v, v2, γ', v, rfl, i1, fun l g hm => ?_, v1⟩
              obtain ⟨nm, rfl, hlk, _⟩ := heapIn_mem hm
              exact ⟨(s1.facts _ _ hlk).mem (by simp), by simp⟩
            rcases h2 with h2 | h2
            · subst h2; exact ⟨s1.defers, hres⟩
            · subst h2; exact ⟨s1.defers, hres⟩
          · intro l g hm
            obtain ⟨nm, rfl, _, h4⟩ := heapIn_mem hm
            exact ⟨nm, rfl, h4⟩
        · cases h
      · cases hc
    · cases hc
  · cases hc

/-! ### The calls that a text makes -/
/-- An entry for a call that is not run as a text. -/
def ConOK (P : Program) (f : FuncId) (h : (X : Type) → List (PV T) → St T → Nat → Nat → (PV T → St T → Nat → Option X) → Option X) : Prop :=
  ∀ (X : Type) (args : List (PV T)) (H : St T) (n lim : Nat) (K : PV T → St T → Nat → Option X) (r : X), h X args H n lim K = some r →
    ∃ pv H' n', K pv H' n' = some r ∧ n ≤ n' ∧ n' ≤ lim ∧ FnOK P f ∧ CallOK P f args H n n' pv H' ∧ (∀ l g, (l, g) ∈ H' → ∃ nm, l = .h nm ∧ ((∃ g', (l, g') ∈ H) ∨ (n ≤ nm ∧ nm < n')))

def EntOK (P : Program) (cu : TypeId → Option T.U) (f : FuncId) : Ent T → Prop
  | .text F => TextOK P cu f F
  | .con h => ConOK P f h

def EntsOK (P : Program) (cu : TypeId → Option T.U) : List (FuncId × Ent T) → Prop
  | [] => True
  | (f, e) :: r => EntOK P cu f e ∧ EntsOK P cu r

theorem findE_ok {P : Program} {cu : TypeId → Option T.U} : ∀ {ents : List (FuncId × Ent T)} {f : FuncId} {e : Ent T}, EntsOK P cu ents → findE ents f = some e → EntOK P cu f e
  | [], _, _, _, h => by simp [findE] at h
  | (g, e0) :: r, f, e, hk, h => by
    simp only [findE] at h
    split at h
    · rename_i hg
      have := Nat.eq_of_beq_eq_true hg
      subst this
      cases h
      exact hk.1
    · exact findE_ok hk.2 h

theorem callH_sound {P : Program} {cu : TypeId → Option T.U} {ents : List (FuncId × Ent T)} (hk : EntsOK P cu ents) : ∀ d, CallSound P (callH ents d)
  | 0 => fun _ _ _ _ _ _ _ _ h => by simp [callH] at h
  | d + 1 => fun X f args H n lim K r h => by
    simp only [callH] at h
    split at h
    · rename_i F hf
      have hF : TextOK P cu f F := findE_ok hk hf
      split at h
      · rename_i hb
        have hb : n + budget d ≤ lim := by simpa using hb
        obtain ⟨pv, H', n', h1, h2, h3⟩ := fn_sound hF (callH_sound hk d) (Nat.le_add_right _ _) h
        exact ⟨pv, H', n + budget d, h1, by omega, hb, isFn_ok hF.fn, h2, h3⟩
      · cases h
    · rename_i hcon hf
      exact (findE_ok hk hf : ConOK P f hcon) X args H n lim K r h
    · cases h
end Go.G
