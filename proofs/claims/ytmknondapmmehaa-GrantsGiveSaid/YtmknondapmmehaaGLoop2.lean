import Derived.Test.YtmknondapmmehaaGLoop
set_option linter.unusedVariables false
set_option linter.unusedSimpArgs false
namespace Go.G
variable {T : Uni}
section
variable {S : Cls} {σ : St T}

theorem setCell_look {l : Loc} {i : Nat} {c c0 : CV T} (h : cellAt σ l i = some c0) : ∀ l' f, look (setCell σ l i c) l' = some f →
    (look σ l' = some f ∧ l' ≠ l) ∨ (l' = l ∧ ((∃ c1, look σ l = some (.v true (.one c1)) ∧ c1 = c0 ∧ f = .v true (.one c)) ∨ (∃ cs, look σ l = some (.v true (.agg cs)) ∧ cs[i]? = some c0 ∧ f = .v true (.agg (cs.set i c))) ∨ (∃ cs, look σ l = some (.b cs) ∧ cs[i]? = some c0 ∧ f = .b (cs.set i c)))) := by
  intro l' f hlk
  unfold cellAt at h
  unfold setCell at hlk
  split at h
  · rename_i c1 hl
    rw [hl] at hlk
    simp only [look_cons] at hlk
    split at hlk
    · rename_i e; subst e
      cases hlk
      split at h
      · cases h; exact .inr ⟨rfl, .inl ⟨_, hl, rfl, rfl⟩⟩
      · cases h
    · rename_i e; exact .inl ⟨hlk, fun e' => e e'.symm⟩
  · rename_i cs hl
    rw [hl] at hlk
    simp only [look_cons] at hlk
    split at hlk
    · rename_i e; subst e
      cases hlk
      exact .inr ⟨rfl, .inr (.inl ⟨cs, hl, h, rfl⟩)⟩
    · rename_i e; exact .inl ⟨hlk, fun e' => e e'.symm⟩
  · rename_i cs hl
    rw [hl] at hlk
    simp only [look_cons] at hlk
    split at hlk
    · rename_i e; subst e
      cases hlk
      exact .inr ⟨rfl, .inr (.inr ⟨cs, hl, h, rfl⟩)⟩
    · rename_i e; exact .inl ⟨hlk, fun e' => e e'.symm⟩
  · cases h

theorem RepCs.get {γ : Gh} {w : World} : ∀ {cs : List (CV T)} {vs : List Value} {i : Nat} {c : CV T}, RepCs γ w cs vs → cs[i]? = some c → ∃ v, vs[i]? = some v ∧ RepC γ w c v
  | c :: cs, v :: vs, 0, d, h, hd => by simp at hd; subst hd; exact ⟨v, rfl, h.1⟩
  | c :: cs, v :: vs, i + 1, d, h, hd => by simpa using RepCs.get (i := i) h.2 (by simpa using hd)
  | [], _, _, _, _, hd => by simp at hd
  | _ :: _, [], _, _, h, _ => h.elim

theorem RepCs.set {γ : Gh} {w : World} : ∀ {cs : List (CV T)} {vs : List Value} {i : Nat} {c : CV T} {v : Value}, RepCs γ w cs vs → vs[i]? = some v → RepC γ w c v → RepCs γ w (cs.set i c) vs
  | [], [], _, _, _, _, _, _ => by simp [RepCs]
  | c0 :: cs, v0 :: vs, 0, c, v, h, hv, hc => by simp at hv; subst hv; exact ⟨hc, h.2⟩
  | c0 :: cs, v0 :: vs, i + 1, c, v, h, hv, hc => ⟨h.1, RepCs.set h.2 (by simpa using hv) hc⟩
  | [], _ :: _, _, _, _, h, _, _ => h.elim
  | _ :: _, [], _, _, _, h, _, _ => h.elim

/-- One slice of no capacity is given a name. -/
theorem goes_fix {l : Loc} {i nm n : Nat} {u : T.U} (hc : cellAt σ l i = some .nl) (hn : n ≤ nm) (hl : nm < S.lim) (hb : S.base ≤ n) : Goes S σ n ((.h nm, .r u [] false) :: setCell σ l i (.own u nm)) (nm + 1) := by
  intro γ0 w0 ok γ a w hi hf hs
  obtain ⟨f1, f2⟩ := hf nm hn hl
  have hloc : (S.entry γ0 w0).loc nm := ⟨by show S.base ≤ nm; omega, hl⟩
  -- the address that the slice has
  have key : ∃ A, ∀ (f : Fact T), (∃ c1, look σ l = some (.v true (.one c1)) ∧ c1 = .nl ∧ f = .v true (.one (.own u nm))) ∨ (∃ cs, look σ l = some (.v true (.agg cs)) ∧ cs[i]? = some .nl ∧ f = .v true (.agg (cs.set i (.own u nm)))) ∨ (∃ cs, look σ l = some (.b cs) ∧ cs[i]? = some .nl ∧ f = .b (cs.set i (.own u nm))) →
      ∀ γ', Evo (fun _ => False) γ w γ' w → γ'.bt nm = some (.row A 0 0) → FactOK γ' w (fun i => a.tmps.getD i undef) l f := by
    have hown : ∀ {A : Option Addr} {γ' : Gh}, γ'.bt nm = some (.row A 0 0) → RepC (T := T) γ' w (.own u nm) (.slice A 0 0) := fun hb => ⟨_, 0, 0, hb, rfl⟩
    unfold cellAt at hc
    split at hc
    · rename_i c1 hlk
      have hf := hs.facts l _ hlk
      split at hc
      · cases hc
        cases l with
        | h k => exact hf.elim
        | s k =>
          have h1 := hf.1 rfl
          simp only [RepP] at h1
          obtain ⟨A, hA⟩ := h1
          refine ⟨A, fun f hf' γ' ev hb => ?_⟩
          rcases hf' with ⟨c1, e1, _, rfl⟩ | ⟨cs, e1, _⟩ | ⟨cs, e1, _⟩
          · have h2 : RepP (T := T) γ' w (.one (.own u nm)) (a.tmps.getD k undef) := by simp only [RepP]; rw [hA]; exact hown hb
            exact ⟨fun _ => h2, fun h => by cases h⟩
          · rw [hlk] at e1; cases e1
          · rw [hlk] at e1; cases e1
      · cases hc
    · rename_i cs hlk
      have hf := hs.facts l _ hlk
      cases l with
      | h k => exact hf.elim
      | s k =>
        have h1 := hf.1 rfl
        simp only [RepP] at h1
        obtain ⟨vs, hv, hr⟩ := h1
        obtain ⟨v, hvi, A, rfl⟩ := hr.get hc
        refine ⟨A, fun f hf' γ' ev hb => ?_⟩
        rcases hf' with ⟨c1, e1, _⟩ | ⟨cs', e1, _, rfl⟩ | ⟨cs, e1, _⟩
        · rw [hlk] at e1; cases e1
        · rw [hlk] at e1; cases e1
          have h2 : RepP (T := T) γ' w (.agg (cs.set i (.own u nm))) (a.tmps.getD k undef) := by
            simp only [RepP]
            exact ⟨vs, hv, (RepCs.evo ev hr).set hvi (hown hb)⟩
          exact ⟨fun _ => h2, fun h => by cases h⟩
        · rw [hlk] at e1; cases e1
    · rename_i cs hlk
      have hf := hs.facts l _ hlk
      cases l with
      | s k => exact hf.elim
      | h k =>
        obtain ⟨b, vs, t, k1, k2, k3, k4, k5, k6⟩ := hf
        obtain ⟨v, hvi, A, rfl⟩ := k6.get hc
        refine ⟨A, fun f hf' γ' ev hb => ?_⟩
        rcases hf' with ⟨c1, e1, _⟩ | ⟨cs', e1, _⟩ | ⟨cs', e1, _, rfl⟩
        · rw [hlk] at e1; cases e1
        · rw [hlk] at e1; cases e1
        · rw [hlk] at e1; cases e1
          obtain ⟨q1, q2, q3⟩ := ev.same b k4 fun _ _ h => h
          exact ⟨b, vs, t, ev.bt _ _ k1, q2.trans k2, q3.trans k3, k4, k5, (RepCs.evo ev k6).set hvi (hown hb)⟩
    · cases hc
  obtain ⟨A, key⟩ := key
  let γ' : Gh := { γ with bt := fun k => if k = nm then some (.row A 0 0) else γ.bt k }
  have hbt : ∀ k, k ≠ nm → γ'.bt k = γ.bt k := fun k hk => by show (if k = nm then _ else _) = _; rw [if_neg hk]
  have hbn : γ'.bt nm = some (.row A 0 0) := by show (if nm = nm then _ else _) = _; rw [if_pos rfl]
  have ev : Evo (fun _ => False) γ w γ' w := ⟨DEvo.refl _ _, rfl, rfl, rfl, fun _ _ _ => ⟨rfl, rfl, rfl⟩, fun k v hv => by
    rw [hbt k (by rintro rfl; rw [f1] at hv; cases hv)]; exact hv⟩
  have hne : ∀ k, ¬ (S.entry γ0 w0).loc k → k ≠ nm := fun k hk e => hk (e ▸ hloc)
  refine ⟨γ', hi.step ev ok (fun _ h => h.elim) (fun k hk => hbt k (hne k hk)) (fun _ _ h => .inr h) hi.ok, fun k h1 h2 => ⟨?_, fun b hb' => ?_⟩, hs.size, hs.defers, fun l' f hlk => ?_, fun k f hlk => ?_⟩
  · rw [hbt k (by omega)]; exact (hf k (by omega) h2).1
  · exact (hf k (by omega) h2).2 b hb'
  · rw [look_cons] at hlk
    split at hlk
    · rename_i e; subst e
      cases hlk
      exact ⟨A, 0, hbn, Nat.le_refl _, .inl ⟨rfl, rfl⟩⟩
    · rcases setCell_look hc l' f hlk with ⟨h1, _⟩ | ⟨rfl, h1⟩
      · exact (hs.facts l' f h1).evo ev (fun _ _ h => h) (fun _ _ => rfl)
      · exact key f h1 γ' ev hbn
  · rw [look_cons] at hlk
    split at hlk
    · rename_i e; cases e; exact .inr hloc
    · rcases setCell_look hc _ f hlk with ⟨h1, _⟩ | ⟨rfl, h1⟩
      · exact hs.perm k f h1
      · rcases h1 with ⟨_, h1, _⟩ | ⟨_, h1, _⟩ | ⟨_, h1, _⟩ <;> exact hs.perm k _ h1

theorem Goes.trans {a b c : St T} {n m k : Nat} (h : Goes S a n b m) (g : Goes S b m c k) : Goes S a n c k := fun γ0 w0 ok γ x w h1 h2 h3 => by
  obtain ⟨γ1, i1, f1, s1⟩ := h γ0 w0 ok γ x w h1 h2 h3
  exact g γ0 w0 ok γ1 x w i1 f1 s1

theorem goes_fixNl : ∀ (fx : List (Loc × Nat × T.U × Nat)) (n : Nat) (σ σ' : St T) (n' : Nat), S.base ≤ n → fixNl S.lim fx n σ = some (σ', n') → Goes S σ n σ' n'
  | [], n, σ, σ', n', _, h => by
    simp only [fixNl, Option.some.injEq, Prod.mk.injEq] at h
    obtain ⟨rfl, rfl⟩ := h
    exact .refl _ _ _
  | (l, i, u, nm) :: r, n, σ, σ', n', hb, h => by
    simp only [fixNl] at h
    split at h
    · rename_i hc
      split at h
      · rename_i hn
        simp only [Bool.and_eq_true, Nat.ble_eq] at hn
        have h2 := blt_lt hn.2
        exact (goes_fix hc hn.1 h2 hb).trans (goes_fixNl r _ _ _ _ (by omega) h)
      · cases h
    · exact goes_fixNl r _ _ _ _ hb h

theorem go1_goes {τ : St T} {n m : Nat} {D : Desc T} {x : Dty D} (h : Goes S σ n τ m) (g : Go1 S τ (embD D x)) {n0 : Nat} (hn : ∀ nm ∈ namesD D, nm < n0) (h0 : S.base ≤ n0) : Goes S σ n (embD D x) n0 :=
  h.trans (goes_clear g hn h0)

theorem Runs.then {code : Code} {σ1 σ2 : St T} {n n1 n2 : Nat} {e : Exit} (h : Runs S code σ n e σ1 n1) (g : Goes S σ1 n1 σ2 n2) : Runs S code σ n e σ2 n2 := fun γ0 w0 ok γ a w hi hf hs =>
  wp_mono (h γ0 w0 ok γ a w hi hf hs) fun e' a' w' ⟨q1, γ1, i1, f1, s1⟩ => ⟨q1, g γ0 w0 ok γ1 a' w' i1 f1 s1⟩

/-- Which exit, state and next name an out stands for. -/
def outSt : (os : List (OutD T)) → outTy os → Exit × St T × Nat
  | [], y => Empty.elim y
  | o :: os, y => match y with
    | .inl x => (o.exit, embD o.D x, o.n)
    | .inr y => outSt os y

theorem encOut_eq {X : Type} : ∀ (os : List (OutD T)) (y : outTy os) (K : Exit → St T → Nat → Option X), encOut os y K = K (outSt os y).1 (outSt os y).2.1 (outSt os y).2.2
  | [], y, _ => Empty.elim y
  | o :: os, .inl x, K => rfl
  | o :: os, .inr y, K => encOut_eq os y K

theorem decOut_ok : ∀ (os : List (OutD T)) (e : Exit) (σ1 : St T) (y : outTy os) (n1 : Nat), (os.all fun o => (namesD o.D).all (Nat.blt · o.n) && (Nat.ble S.base o.n && Nat.ble o.n S.lim)) = true → decOut S.base S.lim os e σ1 = some y →
    (outSt os y).1 = e ∧ Goes S σ1 n1 (outSt os y).2.1 (outSt os y).2.2 ∧ S.base ≤ (outSt os y).2.2 ∧ (outSt os y).2.2 ≤ S.lim ∧ e ≠ .normal
  | [], _, _, y, _, _, _ => Empty.elim y
  | o :: os, e, σ1, y, n1, hall, h => by
    simp only [List.all_cons, Bool.and_eq_true] at hall
    obtain ⟨⟨h1, h2, h3⟩, h4⟩ := hall
    simp only [decOut] at h
    split at h
    · rename_i hm
      split at h
      · rename_i x hx
        cases h
        have he : o.exit = e ∧ e ≠ .normal := by
          unfold OutD.exit
          split at hm
          · rename_i id id' heq
            have := Nat.eq_of_beq_eq_true hm
            subst this
            rw [heq]; exact ⟨rfl, by simp⟩
          · rename_i heq
            rw [heq]; exact ⟨rfl, by simp⟩
          · cases hm
        refine ⟨he.1, ?_, show S.base ≤ o.n from (by simpa using h2), show o.n ≤ S.lim from (by simpa using h3), he.2⟩
        exact go1_goes (.refl _ _ _) ((go_align o.D σ1).trans (go_read hx)) (fun nm hm => blt_lt (List.all_eq_true.1 h1 nm hm)) (show S.base ≤ o.n from (by simpa using h2))
      · cases h
    · split at h
      · rename_i y' hy
        cases h
        exact decOut_ok os e σ1 y' n1 h4 hy
      · cases h

theorem iter_chain {α ε : Type} {step : α → Option (α ⊕ ε)} {c : Code} {emb : α → St T} {n0 : Nat} {out : ε → Exit × St T × Nat}
    (hin : ∀ x x', step x = some (.inl x') → ∃ σ1 n1, Runs S c (emb x) n0 .normal σ1 n1 ∧ Goes S σ1 n1 (emb x') n0)
    (hout : ∀ x y, step x = some (.inr y) → (out y).1 ≠ .normal ∧ Runs S c (emb x) n0 (out y).1 (out y).2.1 (out y).2.2) : ∀ (k : Nat) (x : α) (y : ε), iter step k x = some y → ∃ j, Chain S c (out y).1 (out y).2.1 (out y).2.2 j (emb x) n0
  | 0, _, _, h => by simp [iter] at h
  | k + 1, x, y, h => by
    simp only [iter] at h
    split at h
    · cases h
    · rename_i x' hx
      obtain ⟨σ1, n1, h1, h2⟩ := hin x _ hx
      obtain ⟨j, hj⟩ := iter_chain hin hout k x' y h
      exact ⟨j + 1, .step h1 h2 hj⟩
    · rename_i e hx
      cases h
      obtain ⟨h1, h2⟩ := hout x _ hx
      exact ⟨0, .last h1 h2⟩

/-- A loop's summary is what the loop comes to. -/
theorem loop_ok {P : Program} {cu : TypeId → Option T.U} {N : Nat} {body : ACode T} (hgood : Good P cu N body) {call : CallH T} (hcall : CallSound P call) (L : LoopD T) (hL : L.ok = true) (fu : Nat) {step : Dty L.D → Option (Dty L.D ⊕ outTy L.outs)}
    (hbody : (fun x => L.body call body x) = step) : LoopOK0 P cu N (erase body) (L.g fu step) := by
  intro S hP hN code hc X σ n K r hb hl h
  obtain ⟨P', N', b', l', X'⟩ := S
  replace hP : P' = P := hP
  replace hN : N' = N := hN
  subst hP; subst hN
  obtain ⟨c, rfl, hx⟩ := compile_loop hc
  unfold LoopD.g at h
  split at h
  · rename_i hbl
    simp only [Bool.and_eq_true] at hbl
    have e1 := Nat.eq_of_beq_eq_true hbl.1
    have e2 := Nat.eq_of_beq_eq_true hbl.2
    replace e1 : b' = L.base := e1
    replace e2 : l' = L.lim := e2
    subst e1; subst e2
    split at h
    · rename_i σ' n' hfix
      split at h
      · rename_i x hread
        split at h
        · rename_i y hit
          rw [encOut_eq] at h
          simp only [LoopD.ok, Bool.and_eq_true] at hL
          obtain ⟨g1, g2, g3, g4⟩ := hL
          have g2 : L.base ≤ L.n0 := by simpa using g2
          have g3 : L.n0 ≤ L.lim := by simpa using g3
          have hD : ∀ nm ∈ namesD L.D, nm < L.n0 := fun nm hm => blt_lt (List.all_eq_true.1 g1 nm hm)
          let S : Cls := ⟨P', N', L.base, L.lim, X'⟩
          have hstep : ∀ x r, step x = some r → match r with
              | .inl x' => ∃ σ1 n1, Runs S c (embD L.D x) L.n0 .normal σ1 n1 ∧ Goes S σ1 n1 (embD L.D x') L.n0
              | .inr y => (outSt L.outs y).1 ≠ .normal ∧ Runs S c (embD L.D x) L.n0 (outSt L.outs y).1 (outSt L.outs y).2.1 (outSt L.outs y).2.2 := by
            intro x r hr
            rw [← hbody] at hr
            simp only [LoopD.body] at hr
            obtain ⟨e, σ1, n1, k1, k2, k3, k4⟩ := ev_sound (S := S) (cu := cu) hcall body c (embD L.D x) L.n0 L.dec hx hgood g2 g3 hr
            unfold LoopD.dec at k1
            split at k1
            · split at k1
              · rename_i x' hx'
                cases k1
                exact ⟨σ1, n1, k4, go1_goes (.refl _ _ _) ((go_align L.D σ1).trans (go_read hx')) hD g2⟩
              · cases k1
            · split at k1
              · rename_i y hy
                cases k1
                obtain ⟨q1, q2, _, _, q5⟩ := decOut_ok (S := S) L.outs e σ1 y n1 g4 hy
                have k4' : Runs S c (embD L.D x) L.n0 (outSt L.outs y).1 σ1 n1 := q1 ▸ k4
                exact (⟨fun hh => q5 (q1.symm.trans hh), k4'.then q2⟩ : (outSt L.outs y).1 ≠ .normal ∧ Runs S c (embD L.D x) L.n0 (outSt L.outs y).1 (outSt L.outs y).2.1 (outSt L.outs y).2.2)
              · cases k1
          obtain ⟨j, hj⟩ := iter_chain (S := S) (c := c) (emb := embD L.D) (n0 := L.n0) (out := outSt L.outs) (fun x x' hx => hstep x _ hx) (fun x y hx => hstep x _ hx) fu x y hit
          have hgo : Goes S σ n (embD L.D x) L.n0 := go1_goes (goes_fixNl (S := S) L.fix n σ σ' n' hb hfix) ((go_align L.D σ').trans (go_read hread)) hD g2
          have hbd : S.base ≤ (outSt L.outs y).2.2 ∧ (outSt L.outs y).2.2 ≤ S.lim := by
            have key : ∀ (os : List (OutD T)) (y : outTy os), (os.all fun o => (namesD o.D).all (Nat.blt · o.n) && (Nat.ble L.base o.n && Nat.ble o.n L.lim)) = true → L.base ≤ (outSt os y).2.2 ∧ (outSt os y).2.2 ≤ L.lim := by
              intro os
              induction os with
              | nil => intro y _; exact Empty.elim y
              | cons o os ih =>
                intro y hall
                simp only [List.all_cons, Bool.and_eq_true] at hall
                cases y with
                | inl x => exact ⟨show L.base ≤ o.n from (by simpa using hall.1.2.1), show o.n ≤ L.lim from (by simpa using hall.1.2.2)⟩
                | inr y => exact ih y hall.2
            exact key _ _ g4
          exact ⟨_, _, _, h, hbd.1, hbd.2, hj.runs.goes hgo⟩
        · cases h
      · cases h
    · cases h
  · cases h
end
end Go.G
