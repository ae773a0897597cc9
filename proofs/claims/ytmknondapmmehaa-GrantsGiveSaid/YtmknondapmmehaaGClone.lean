import Derived.Test.YtmknondapmmehaaGTop
import Derived.Lib.SliceRun
import Derived.Laws.Entries
set_option linter.unusedVariables false
set_option linter.unusedSimpArgs false
namespace Go.G
variable {T : Uni}

theorem sat_init {P : Program} {fn : Func} {N n lim : Nat} {X : Nat → Prop} {γ : Gh} {w : World} {args : List (PV T)} {vs : List Value} {H : St T} (hN : fn.ntmps = N) (hX : ∀ nm, X nm ↔ ∃ g, (Loc.h nm, g) ∈ H) (hlen : args.length ≤ N) (hH : HSat γ w H) (hr : RepPs γ w args vs) :
    Sat ((⟨P, N, n, lim, X⟩ : Cls).entry γ w) N γ w { tmps := vs.toArray ++ Array.replicate (fn.ntmps - vs.toArray.size) undef, defers := [] } (argSt 0 args ++ H) := by
  have hvl := RepPs.length hr
  refine ⟨by simp; omega, rfl, fun l g hl => ?_, fun nm g hl => ?_⟩
  · rw [look_append] at hl
    split at hl
    · rename_i g' hg'
      cases hl
      obtain ⟨j, p, rfl, rfl, hj⟩ := look_argSt _ _ _ _ hg'
      obtain ⟨v, hv, hrep⟩ := hr.get hj
      have hjl : j < vs.length := (List.getElem?_eq_some_iff.1 hv).1
      refine ⟨fun _ => ?_, fun h => by cases h⟩
      have : (vs.toArray ++ Array.replicate (fn.ntmps - vs.toArray.size) undef).getD (0 + j) undef = v := by
        rw [Nat.zero_add, Array.getD_eq_getD_getElem?, Array.getElem?_append_left (by simpa using hjl)]
        simp [hv]
      simp only [this]
      exact hrep
    · have := hH l g (look_mem hl)
      exact this.1.mem this.2
  · rw [look_append] at hl
    split at hl
    · rename_i g' hg'
      obtain ⟨j, p, e1, _, _⟩ := look_argSt _ _ _ _ hg'
      cases e1
    · exact .inl ((hX nm).2 ⟨g, look_mem hl⟩)

theorem Sat.sub {E : Entry} {N : Nat} {γ : Gh} {w : World} {a : Act} {σ σ' : St T} (h : ∀ l f, look σ' l = some f → look σ l = some f) (hs : Sat E N γ w a σ) : Sat E N γ w a σ' :=
  ⟨hs.size, hs.defers, fun l f hl => hs.facts l f (h l f hl), fun l f hl => hs.perm l f (h _ _ hl)⟩

/-- A heap by what is looked up in it. -/
def relook (H : St T) : St T := H.flatMap fun x => match x.1 with
  | .h nm => match look H (.h nm) with
    | some g => [(.h nm, g)]
    | none => []
  | .s _ => []

theorem relook_mem {H : St T} {l : Loc} {g : Fact T} (h : (l, g) ∈ relook H) : look H l = some g ∧ ∃ nm, l = .h nm := by
  obtain ⟨⟨l', g'⟩, _, h2⟩ := List.mem_flatMap.1 h
  cases l' with
  | s i => cases h2
  | h nm =>
    simp only at h2
    split at h2
    · rename_i g2 hg
      simp only [List.mem_singleton, Prod.mk.injEq] at h2
      obtain ⟨rfl, rfl⟩ := h2
      exact ⟨hg, nm, rfl⟩
    · cases h2

def conClone (u : T.U) (bytes : Nat) : (X : Type) → List (PV T) → St T → Nat → Nat → (PV T → St T → Nat → Option X) → Option X := fun _ args H n lim K =>
  match Nat.blt n lim with
  | true => match args with
    | [.one c] => elems H u c fun ys _ => match dapp bytes [] ys with
      | some l => K (.one (.own u n)) ((.h n, .r u l false) :: relook H) (n + 1)
      | none => none
    | _ => none
  | false => none

def noCall : CallH T := fun _ _ _ _ _ _ _ => none
theorem noCall_sound (P : Program) : CallSound P (noCall : CallH T) := fun _ _ _ _ _ _ _ _ h => by simp [noCall] at h

theorem elems_congr {σ σ' : St T} (h : ∀ nm, look σ (.h nm) = look σ' (.h nm)) {X : Type} (u : T.U) (c : CV T) (K : List (T.El u) → List Loc → Option X) : elems σ u c K = elems σ' u c K := by
  cases c <;> simp only [elems, h]

theorem elems_fun {σ : St T} {X : Type} {r : X} {u : T.U} {c : CV T} {K : List (T.El u) → List Loc → Option X} (h : elems σ u c K = some r) : ∃ ys rd, (∀ (Y : Type) (K : List (T.El u) → List Loc → Option Y), elems σ u c K = K ys rd) ∧ rd.all memL = true ∧ ∀ C, ElemsOf C σ u c ys rd := by
  have key : ∃ ys rd, ∀ (Y : Type) (K : List (T.El u) → List Loc → Option Y), elems σ u c K = K ys rd := by
    have dq : ∀ u : T.U, T.deq u u = .isTrue rfl := fun u => by
      cases h : T.deq u u with
      | isTrue _ => rfl
      | isFalse hh => exact absurd rfl hh
    unfold elems at h
    split at h
    · rename_i u' l
      split at h
      · rename_i hu _
        subst hu
        exact ⟨l, [], fun Y K => by simp only [elems, dq]⟩
      · cases h
    · exact ⟨[], [], fun Y K => rfl⟩
    · rename_i u0 nm
      split at h
      · rename_i u' l fz hlk
        split at h
        · rename_i hu _
          subst hu
          exact ⟨l, [.h nm], fun Y K => by simp only [elems, hlk, dq]⟩
        · cases h
      · cases h
    · rename_i u0 nm off len
      split at h
      · rename_i u' l fz hlk
        split at h
        · rename_i hu0 hu _ _
          subst hu
          subst hu0
          exact ⟨dcut l off (oadd off len), [.h nm], fun Y K => by simp only [elems, hlk, dq]⟩
        · cases h
      · cases h
    · cases h
  obtain ⟨ys, rd, hk⟩ := key
  obtain ⟨ys', rd', h1, h2, h3⟩ := elems_inv (hk _ fun ys rd => some (ys, rd))
  simp only [Option.some.injEq, Prod.mk.injEq] at h1
  obtain ⟨rfl, rfl⟩ := h1
  exact ⟨ys', rd', hk, h2, h3⟩

structure CloneText (P : Program) (cu : TypeId → Option T.U) (f : FuncId) (u : T.U) (bytes : Nat) : Prop where
  ex : ∃ fn i0 i1 i2 i3 o0 o1a o1b o2 o3 t e, P.funcs[f]? = some fn ∧ fn.ntmps = 8 ∧ fn.results.toList = [.tmp 2] ∧
    fn.body = some (.seq (.region i0 o0 false) (.seq (.seq (.region i1 #[o1a, o1b] false) (.cond (.tmp 4) (.seq (.region i2 o2 false) .ret) .skip)) (.seq (.region i3 o3 false) .ret))) ∧
    compReg P cu 8 o0 false = some ([⟨some 2, none, .move (.c (.one .nl))⟩], []) ∧
    o1a.op = .move (.tmp 0) ∧ o1a.dst = some 3 ∧ o1a.guard = none ∧
    (∃ ty, o1b.op = .binOp .eql t (.tmp 3) (.const (.slice none 0 0)) ty) ∧ o1b.dst = some 4 ∧ o1b.guard = none ∧ P.underlying t = some (.slice e) ∧
    compReg P cu 8 o2 false = some ([⟨some 2, none, .move (.c (.one .nl))⟩], []) ∧
    compReg P cu 8 o3 false = some ([⟨some 5, none, .mks u []⟩, ⟨some 6, none, .move (.t 0)⟩, ⟨some 7, none, .app u bytes (.t 5) (.t 6)⟩, ⟨some 2, none, .move (.t 7)⟩], [])
  fn : isFn P f = true

theorem clone_ok {P : Program} {cu : TypeId → Option T.U} {f : FuncId} {u : T.U} {bytes : Nat} (hT : CloneText P cu f u bytes) : ConOK P f (conClone u bytes) := by
  intro X args H n lim K r hk
  unfold conClone at hk
  split at hk
  · rename_i hn
    have hn := blt_lt hn
    split at hk
    · rename_i c
      obtain ⟨ys, rd, hall, hrd, hel⟩ := elems_fun hk
      rw [hall] at hk
      split at hk
      · rename_i l hl
        have hl2 : l = ys := by
          unfold dapp at hl
          split at hl
          · cases hl; rfl
          · cases hl
        subst hl2
        refine ⟨_, _, n + 1, hk, by omega, by omega, isFn_ok hT.fn, ?_, ?_⟩
        · obtain ⟨⟨fn, i0, i1, i2, i3, o0, o1a, o1b, o2, o3, t, e, hfn, hN, hres, hbody, h0, ha1, ha2, ha3, ⟨ty, hb1⟩, hb2, hb3, hu, h2, h3⟩, _⟩ := hT
          intro γ w vs hE hH hr hHn
          have hHn' : ∀ nm f, (Loc.h nm, f) ∈ H → nm ≠ n := fun nm f hm => by have := hHn nm f hm; omega
          have hlook : look H (.h n) = none := by
            cases hh : look H (.h n) with
            | none => rfl
            | some g => exact absurd rfl (hHn' n g (look_mem hh))
          let S : Cls := ⟨P, 8, n, n + 1, fun nm => ∃ g, (Loc.h nm, g) ∈ H⟩
          refine calls_of_wp hfn hbody ?_
          have hs := sat_init (P := P) (n := n) (lim := n + 1) (X := S.X) hN (fun _ => Iff.rfl) (by simp) hH hr
          have hfr : Fresh n S.lim γ := fun nm a b => hE.fresh nm ⟨a, b⟩
          generalize hA : ({ tmps := vs.toArray ++ Array.replicate (fn.ntmps - vs.toArray.size) undef, defers := [] } : Act) = a0 at hs ⊢
          let τ : St T := (.s 2, .v true (.one (.own u n))) :: (.h n, .r u l false) :: H
          -- the end: the result is the new slice
          have fin : ∀ γ' a' w', Inv (S.entry γ w) γ' w' → Sat (S.entry γ w) 8 γ' w' a' τ → bodyPost P fn (fun e w' => ∃ γ' v, e = .returned v ∧ Inv ⟨γ, w, n, n + 1, fun nm => ∃ g, (Loc.h nm, g) ∈ H⟩ γ' w' ∧ HSat γ' w' ((.h n, .r u l false) :: relook H) ∧ RepP γ' w' (.one (.own u n)) v) .ret a' w' := by
            intro γ' a' w' hi hs'
            have hrv : cRVs P fn.results.toList = some [.t 2] := by rw [hres]; rfl
            obtain ⟨ps, e1, e2⟩ := results_run (T := T) (σ := τ) (q := PV.one (.own u n)) (K := fun ps => some (resPV ps)) hrv (by simp [rdRs, rdR, τ, look, Loc.eqb, resPV])
            obtain ⟨v, v1, v2⟩ := e2 _ _ _ _ _ hs'
            simp only [Option.some.injEq] at e1
            rw [e1] at v1
            refine ⟨hs'.defers, v, v2, γ', v, rfl, hi, fun l' g hm => ?_, v1⟩
            rcases List.mem_cons.1 hm with hm | hm
            · cases hm
              exact ⟨(hs'.facts (.h n) (.r u l false) (by simp [τ, look, Loc.eqb])).mem (by simp), by simp⟩
            · have hm := (relook_mem hm).1
              obtain ⟨q1, q2⟩ := hH l' g (look_mem hm)
              cases l' with
              | s i => exact absurd rfl (q2 i)
              | h nm =>
                have hne := hHn' nm g (look_mem hm)
                refine ⟨(hs'.facts (.h nm) g ?_).mem (by simp), q2⟩
                simp only [τ, look_cons, reduceCtorEq, if_false, Loc.h.injEq, Ne.symm hne]
                exact hm
          have slA : ∀ {γ' : Gh} {w' : World} {a' : Act} {σ : St T}, Sat (S.entry γ w) 8 γ' w' a' σ → look σ (.s 0) = some (.v true (.one c)) → (∀ nm, look σ (.h nm) = look H (.h nm)) → SlAt γ' w' u l (a'.tmps.getD 0 undef) := by
            intro γ' w' a' σ hs h0 hH'
            have := (hs.facts _ _ h0).1 rfl
            simp only [RepP] at this
            refine hel (S.ctx γ w hE) σ (fun l' hl' => ?_) γ' a' w' hs _ this
            have := List.all_eq_true.1 hrd l' hl'
            cases l' with
            | s i => cases this
            | h nm => exact hH' nm
          let σ1 : St T := (.s 2, .v true (.one .nl)) :: (argSt 0 [.one c] ++ H)
          have hσ0 : look σ1 (.s 0) = some (.v true (.one c)) := by simp [σ1, look, Loc.eqb, argSt]
          have hσH : ∀ nm, look σ1 (.h nm) = look H (.h nm) := fun nm => by simp [σ1, look, Loc.eqb, argSt]
          refine wp_seq ?_
          obtain ⟨σ', n', e1, _, _, r0⟩ := w_region (S := S) (cu := cu) (call := noCall) (r := (σ1, n)) (K := fun σ n => some (σ, n)) (id := i0) (noCall_sound P) rfl (Nat.le_refl _) (Nat.le_succ n) h0 (σ := argSt 0 [.one c] ++ H) (by rfl)
          simp only [Option.some.injEq, Prod.mk.injEq] at e1
          obtain ⟨e1, hn'⟩ := e1
          rw [hn', e1] at r0
          refine wp_mono (r0 γ w hE γ a0 w (Inv.refl hE) hfr hs) fun e1 a1 w1 ⟨q1, γ1, in1, fr1, s1⟩ => ?_
          subst q1
          show Code.wp _ _ _ _ _
          refine wp_seq (wp_seq ?_)
          have toτ : ∀ σ : St T, (∀ l', l' ≠ .h n → l' ≠ .s 2 → ∀ nm, l' = .h nm → look σ l' = look H l') → look σ (.s 2) = some (.v true (.one (.own u n))) → look σ (.h n) = some (.r u l false) → ∀ l' f, look τ l' = some f → look σ l' = some f := by
            intro σ h1 h2 h3 l' f hl'
            simp only [τ, look_cons] at hl'
            split at hl'
            · rename_i he; subst he; rw [h2]; exact hl'
            · rename_i he
              split at hl'
              · rename_i he'; subst he'; rw [h3]; exact hl'
              · rename_i he'
                cases l' with
                | s i => exact absurd rfl ((hH _ _ (look_mem hl')).2 i)
                | h nm => rw [h1 _ (Ne.symm he') (Ne.symm he) nm rfl]; exact hl'
          -- the comparison
          obtain ⟨A, cap, hv, hcap, hrow⟩ := slA s1 hσ0 hσH
          have hnil : A = none → l = [] := fun hA => hrow.elim id fun ⟨b, off, h, _⟩ => by rw [hA] at h; cases h
          refine wp_region ?_
          have g3 : ∀ (a : Act) (i : Nat) (v : Value) (d : Nat), i ≠ d → (a.put (some d) v).tmps.getD i undef = a.tmps.getD i undef := by
            intro a i v d hne
            simp only [Act.put]
            simp [Array.getElem?_setIfInBounds_ne (Ne.symm hne)]
          have g4 : ∀ (a : Act) (v : Value) (d : Nat), d < a.tmps.size → (a.put (some d) v).tmps.getD d undef = v := by
            intro a v d hd
            simp only [Act.put]
            rw [getD_set _ _ _ _ hd, if_pos rfl]
          let a2 := (a1.put (some 3) (.slice A l.length cap)).put (some 4) (.bool A.isNone)
          have s2 : Sat (S.entry γ w) 8 γ1 w1 a2 σ1 := by
            have t1 := s1.upd (Evo.refl (fun _ => False) _ _) (dst := some 3) (v := .slice A l.length cap) (wrs := [(.s 3, none)]) (fun d hd => by cases hd; exact ⟨(show 3 < 8 by omega), by simp [locs]⟩) (fun _ h => h.elim) (fun l f hm => by simp at hm)
            have t2 := t1.upd (Evo.refl (fun _ => False) _ _) (dst := some 4) (v := .bool A.isNone) (wrs := [(.s 4, none)]) (fun d hd => by cases hd; exact ⟨(show 4 < 8 by omega), by simp [locs]⟩) (fun _ h => h.elim) (fun l f hm => by simp at hm)
            refine t2.sub fun l' f hl' => ?_
            rw [look_upd, look_upd]
            simp only [wl]
            by_cases h3 : Loc.s 3 = l'
            · subst h3
              simp only [σ1, argSt, look_cons, List.cons_append, List.nil_append, Loc.s.injEq, reduceIte, Nat.reduceEqDiff] at hl'
              exact absurd rfl ((hH _ _ (look_mem hl')).2 3)
            · by_cases h4 : Loc.s 4 = l'
              · subst h4
                simp only [σ1, argSt, look_cons, List.cons_append, List.nil_append, Loc.s.injEq, reduceIte, Nat.reduceEqDiff] at hl'
                exact absurd rfl ((hH _ _ (look_mem hl')).2 4)
              · simp [h3, h4, hl']
          have ev4 : a2.eval (.tmp 4) = .bool A.isNone := by
            show a2.tmps.getD 4 undef = _
            exact g4 _ _ 4 (by simp only [Act.put, Array.size_setIfInBounds]; have : a1.tmps.size = 8 := s1.size; omega)
          have key : (Code.cond (.tmp 4) (.seq (.region i2 o2 false) .ret) .skip).wp P (Exit.then (Code.wp P (.seq (.region i3 o3 false) .ret) (bodyPost P fn (fun e w' => ∃ γ' v, e = .returned v ∧ Inv ⟨γ, w, n, n + 1, fun nm => ∃ g, (Loc.h nm, g) ∈ H⟩ γ' w' ∧ HSat γ' w' ((.h n, .r u l false) :: relook H) ∧ RepP γ' w' (.one (.own u n)) v))) (bodyPost P fn (fun e w' => ∃ γ' v, e = .returned v ∧ Inv ⟨γ, w, n, n + 1, fun nm => ∃ g, (Loc.h nm, g) ∈ H⟩ γ' w' ∧ HSat γ' w' ((.h n, .r u l false) :: relook H) ∧ RepP γ' w' (.one (.own u n)) v))) a2 w1 := by
            refine wp_cond_split ev4 (fun hA => ?_) (fun hA => ?_)
            · have hl0 : l = [] := hnil (Option.isNone_iff_eq_none.1 hA)
              subst hl0
              refine wp_seq ?_
              obtain ⟨σ', n', e1, _, _, r2⟩ := w_region (S := S) (cu := cu) (call := noCall) (r := ((.s 2, .v true (.one .nl)) :: σ1, n)) (K := fun σ n => some (σ, n)) (id := i2) (noCall_sound P) rfl (Nat.le_refl _) (Nat.le_succ n) h2 (σ := σ1) (by rfl)
              simp only [Option.some.injEq, Prod.mk.injEq] at e1
              obtain ⟨e1, hn'⟩ := e1
              rw [hn', e1] at r2
              refine wp_mono (r2 γ w hE γ1 a2 w1 in1 fr1 s2) fun e2 a3 w3 ⟨q2, γ3, in3, fr3, s3⟩ => ?_
              subst q2
              refine wp_ret ?_
              have hfx : fixNl S.lim [(.s 2, 0, u, n)] n ((.s 2, .v true (.one .nl)) :: σ1) = some ((.h n, .r u [] false) :: (.s 2, .v true (.one (.own u n))) :: (.s 2, .v true (.one .nl)) :: σ1, n + 1) := by
                have b1 : Nat.ble n n = true := by simp
                have b2 : Nat.blt n (n + 1) = true := by simp [Nat.blt]
                simp only [fixNl, cellAt, look, Loc.eqb, setCell, S, b1, b2, Nat.beq, Bool.and_self]
              obtain ⟨γ4, in4, _, s4⟩ := goes_fixNl (S := S) _ n _ _ _ (Nat.le_refl _) hfx γ w hE γ3 a3 w3 in3 fr3 s3
              refine fin γ4 a3 w3 in4 (s4.sub fun l' f hl' => ?_)
              exact toτ _ (fun x hx1 hx2 nm e => by subst e; rw [look_cons, if_neg (Ne.symm hx1), look_cons, if_neg (by simp), look_cons, if_neg (by simp)]; exact hσH nm) (by simp [look_cons]) (by simp [look_cons]) l' f hl'
            · refine wp_skip ?_
              show Code.wp _ _ _ _ _
              refine wp_seq ?_
              have hrun : evSeq (noCall : CallH T) (n + 1) [⟨some 5, none, .mks u []⟩, ⟨some 6, none, .move (.t 0)⟩, ⟨some 7, none, .app u bytes (.t 5) (.t 6)⟩, ⟨some 2, none, .move (.t 7)⟩] σ1 n (fun σ n => some (σ, n)) =
                  elems ((.s 6, .v true (.one c)) :: (.s 5, .v true (.one .nl)) :: σ1) u c fun ys rd => match dapp bytes [] ys with
                    | some l => some ((.s 2, .v true (.one (.own u n))) :: (.h n, .r u l false) :: (.s 7, .v true (.one (.own u n))) :: (.s 6, .v true (.one c)) :: (.s 5, .v true (.one .nl)) :: σ1, n + 1)
                    | none => none := by
                have b2 : Nat.blt n (n + 1) = true := by simp [Nat.blt]
                have e0 : evSeq (noCall : CallH T) (n + 1) [⟨some 5, none, .mks u []⟩, ⟨some 6, none, .move (.t 0)⟩, ⟨some 7, none, .app u bytes (.t 5) (.t 6)⟩, ⟨some 2, none, .move (.t 7)⟩] σ1 n (fun σ n => some (σ, n)) =
                    (match Nat.blt n (n + 1) with
                    | true => elems ((.s 6, .v true (.one c)) :: (.s 5, .v true (.one .nl)) :: σ1) u c fun ys rd => match dapp bytes [] ys with
                      | some l => some ((.s 2, .v true (.one (.own u n))) :: (.h n, .r u l false) :: (.s 7, .v true (.one (.own u n))) :: (.s 6, .v true (.one c)) :: (.s 5, .v true (.one .nl)) :: σ1, n + 1)
                      | none => none
                    | false => none) := rfl
                rw [e0, b2]
              rw [elems_congr (σ' := H) (fun nm => by rw [look_cons, if_neg (by simp), look_cons, if_neg (by simp)]; exact hσH nm), hall, hl] at hrun
              obtain ⟨σ', n', e1, _, _, r3⟩ := w_region (S := S) (cu := cu) (id := i3) (noCall_sound P) rfl (Nat.le_refl _) (Nat.le_succ n) h3 (σ := σ1) hrun
              simp only [Option.some.injEq, Prod.mk.injEq] at e1
              obtain ⟨e1, hn'⟩ := e1
              rw [hn', e1] at r3
              refine wp_mono (r3 γ w hE γ1 a2 w1 in1 fr1 s2) fun e2 a3 w3 ⟨q2, γ3, in3, fr3, s3⟩ => ?_
              subst q2
              refine wp_ret ?_
              refine fin γ3 a3 w3 in3 (s3.sub fun l' f hl' => ?_)
              exact toτ _ (fun x hx1 hx2 nm e => by subst e; rw [look_cons, if_neg (by simp), look_cons, if_neg (Ne.symm hx1), look_cons, if_neg (by simp), look_cons, if_neg (by simp), look_cons, if_neg (by simp)]; exact hσH nm) (by simp [look_cons]) (by simp [look_cons]) l' f hl'
          -- the two operations of the comparison
          have hw1 : Region.wanted o1a (yielded #[o1a, o1b] a1.tmps) = true := by simp [Region.wanted, ha3]
          have hw2 : Region.wanted o1b (yielded #[o1a, o1b] (a1.put (some 3) (.slice A l.length cap)).tmps) = true := by simp [Region.wanted, hb3]
          show wpOps P #[o1a, o1b] _ [0, 1] a1 w1
          have x1 : (execOp a1.eval o1a).run P w1 = .ok (.value (.slice A l.length cap)) w1 := by
            have : a1.eval (.tmp 0) = .slice A l.length cap := hv
            simp only [execOp, ha1, Sem.run_pure, this]
          have x2 : (execOp (a1.put (some 3) (.slice A l.length cap)).eval o1b).run P w1 = .ok (.value (.bool A.isNone)) w1 := by
            have h3 : (a1.put (some 3) (.slice A l.length cap)).eval (.tmp 3) = .slice A l.length cap := g4 _ _ 3 (by have : a1.tmps.size = 8 := s1.size; omega)
            simp only [execOp, hb1]
            have h4 : (a1.put (some 3) (.slice A l.length cap)).eval (.const (.slice none 0 0)) = .slice none 0 0 := rfl
            rw [h3, h4]
            simp only [Sem.run_bind, eqGuard_at_slice, Sem.run_pure, Result.andThen_ok, Lib.run_eql_slice_nil w1 t e A l.length cap 0 0 hu]
          have o0e : (#[o1a, o1b] : Array Oper)[0]? = some o1a := rfl
          have o1e : (#[o1a, o1b] : Array Oper)[1]? = some o1b := rfl
          unfold wpOps
          rw [o0e]
          simp only [hw1, if_true]
          refine .inl ?_
          unfold Oper.wp
          rw [x1]
          simp only [Oper.upon, ha2]
          unfold wpOps
          rw [o1e]
          simp only [hw2, if_true]
          refine .inl ?_
          unfold Oper.wp
          rw [x2]
          simp only [Oper.upon, hb2]
          unfold wpOps
          exact key
        · intro l' g hm
          rcases List.mem_cons.1 hm with hm | hm
          · cases hm
            exact ⟨n, rfl, .inr ⟨Nat.le_refl _, Nat.lt_succ_self _⟩⟩
          · obtain ⟨hm, nm, rfl⟩ := relook_mem hm
            exact ⟨nm, rfl, .inl ⟨g, look_mem hm⟩⟩
      · cases hk
    · cases hk
  · cases hk
end Go.G
namespace Go.G
variable {T : Uni}
def regsC : Code → List (Array Oper)
  | .region _ ops _ => [ops]
  | .seq a b => regsC a ++ regsC b
  | .cond _ a b => regsC a ++ regsC b
  | .block _ a => regsC a
  | .loop a => regsC a
  | _ => []
def nth {α : Type} : List α → Nat → Option α
  | [], _ => none
  | a :: _, 0 => some a
  | _ :: r, n + 1 => nth r n
def fnAt (P : Program) (f : FuncId) : Func := match P.funcs[f]? with
  | some fn => fn
  | none => { name := "", origin := "", params := #[], resultTypes := #[], nfree := 0, ntmps := 0, results := #[], body := none, norace := false, tmpNames := #[] }
def regAt (P : Program) (f : FuncId) (k : Nat) : Array Oper := match (fnAt P f).body with
  | some c => match nth (regsC c) k with
    | some r => r
    | none => #[]
  | none => #[]
def opAt (P : Program) (f : FuncId) (k i : Nat) : Oper := match nth (regAt P f k).toList i with
  | some o => o
  | none => { dst := none, op := .move (.tmp 0), type := 0, pos := "", after := #[], guard := none }
end Go.G
