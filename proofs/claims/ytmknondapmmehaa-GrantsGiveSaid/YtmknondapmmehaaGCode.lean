import Derived.Test.YtmknondapmmehaaGDraw
set_option linter.unusedVariables false
set_option linter.unusedSimpArgs false
namespace Go.G
variable {T : Uni}

/-- A function's text without what its loops come to. -/
inductive PCode (T : Uni) where
  | skip
  | reg (draw : Bool) (ops : List (POp T)) (deps : List (List Nat))
  | seq (a b : PCode T)
  | cond (c : Opd T) (a b : PCode T)
  | block (id : Nat) (c : PCode T)
  | loop (c : PCode T)
  | exit (id : Nat)
  | ret

def compile (P : Program) (cu : TypeId → Option T.U) (N : Nat) : Code → Option (PCode T)
  | .skip => some .skip
  | .region _ ops draw => match compReg P cu N ops draw with
    | some (ps, deps) => some (.reg draw ps deps)
    | none => none
  | .seq a b => match compile P cu N a, compile P cu N b with
    | some x, some y => some (.seq x y)
    | _, _ => none
  | .cond c a b => match cOpd c, compile P cu N a, compile P cu N b with
    | some z, some x, some y => some (.cond z x y)
    | _, _, _ => none
  | .block id c => match compile P cu N c with
    | some x => some (.block id x)
    | none => none
  | .loop c => match compile P cu N c with
    | some x => some (.loop x)
    | none => none
  | .exit id => some (.exit id)
  | .ret => some .ret
  | _ => none

def erase : ACode T → PCode T
  | .skip => .skip
  | .reg d ops deps => .reg d ops deps
  | .seq a b => .seq (erase a) (erase b)
  | .cond c a b => .cond c (erase a) (erase b)
  | .block id c => .block id (erase c)
  | .loop c _ => .loop (erase c)
  | .unroll _ c => .loop (erase c)
  | .exit id => .exit id
  | .ret => .ret

/-- From this state and next name, the code comes to that exit, state, next name. -/
def Runs (S : Cls) (code : Code) (σ : St T) (n : Nat) (e : Exit) (σ' : St T) (n' : Nat) : Prop :=
  ∀ γ0 w0, EntryOK (S.entry γ0 w0) → ∀ γ a w, Inv (S.entry γ0 w0) γ w → Fresh n S.lim γ → Sat (S.entry γ0 w0) S.N γ w a σ → code.wp S.P (fun e' a' w' => e' = e ∧ ∃ γ', Inv (S.entry γ0 w0) γ' w' ∧ Fresh n' S.lim γ' ∧ Sat (S.entry γ0 w0) S.N γ' w' a' σ') a w

def Comes (S : Cls) (code : Code) (σ : St T) (n : Nat) {X : Type} (K : Exit → St T → Nat → Option X) (r : X) : Prop :=
  ∃ e σ' n', K e σ' n' = some r ∧ S.base ≤ n' ∧ n' ≤ S.lim ∧ Runs S code σ n e σ' n'

def LoopOK0 (P : Program) (cu : TypeId → Option T.U) (N : Nat) (pb : PCode T) (g : LoopG0 T) : Prop :=
  ∀ (S : Cls), S.P = P → S.N = N → ∀ code, compile P cu N code = some (.loop pb) → ∀ (X : Type) (σ : St T) (n : Nat) (K : Exit → St T → Nat → Option X) (r : X), S.base ≤ n → n ≤ S.lim → g X σ n S.base S.lim K = some r → Comes S code σ n K r

def LoopOK (P : Program) (cu : TypeId → Option T.U) (N : Nat) (pb : PCode T) (g : LoopG T) : Prop :=
  ∀ call : CallH T, CallSound P call → LoopOK0 P cu N pb (g call)

def Good (P : Program) (cu : TypeId → Option T.U) (N : Nat) : ACode T → Prop
  | .seq a b | .cond _ a b => Good P cu N a ∧ Good P cu N b
  | .block _ c | .unroll _ c => Good P cu N c
  | .loop c g => LoopOK P cu N (erase c) g
  | _ => True

theorem wp_loop_ghost {P : Program} {c : Code} {Q : Exit → Act → World → Prop} {a : Act} {w : World} (I : Nat → Act → World → Prop) (n : Nat) (h₀ : I n a w)
    (round : ∀ n a w, I n a w → c.wp P (Exit.then (fun a' w' => ∃ m, m < n ∧ I m a' w') Q) a w) : (Code.loop c).wp P Q a w := by
  intro b k cs
  have key : ∀ n a w, I n a w → ∃ e a' w', Q e a' w' ∧ Arrives P (lone (b.at a (.code c :: .inLoop c :: k)) cs w) b k cs e a' w' := by
    intro n
    induction n using Nat.strongRecOn with
    | _ n ih =>
      intro a w hI
      obtain ⟨e, a₁, w₁, hq, harr⟩ := round n a w hI b (.inLoop c :: k) cs
      cases e with
      | normal =>
        obtain ⟨m, hlt, hI₁⟩ := hq
        obtain ⟨e₂, a₂, w₂, hq₂, harr₂⟩ := ih m hlt a₁ w₁ hI₁
        exact ⟨e₂, a₂, w₂, hq₂, .of_steps (Steps.trans harr (.one step_inLoop)) harr₂⟩
      | exit id => exact ⟨_, a₁, w₁, hq, .pass (x := .inLoop c) rfl (fun _ _ => .inl (by simp)) harr⟩
      | goto l => exact ⟨_, a₁, w₁, hq, .pass (x := .inLoop c) rfl (fun _ _ => .inl (by simp)) harr⟩
      | ret => exact ⟨_, a₁, w₁, hq, .pass (x := .inLoop c) rfl (fun _ _ => .inl (by simp)) harr⟩
      | panic ch => exact ⟨_, a₁, w₁, hq, .pass (x := .inLoop c) rfl (fun _ _ => .inl (by simp)) harr⟩
      | outgrown => exact ⟨_, a₁, w₁, hq, .pass (x := .inLoop c) rfl (fun _ _ => .inl (by simp)) harr⟩
  obtain ⟨e, a', w', hq, harr⟩ := key n a w h₀
  exact ⟨e, a', w', hq, .of_steps (.one step_loop) harr⟩

/-- What is known may be said anew, under other names. -/
def Goes (S : Cls) (σ : St T) (n : Nat) (σ' : St T) (n' : Nat) : Prop :=
  ∀ γ0 w0, EntryOK (S.entry γ0 w0) → ∀ γ a w, Inv (S.entry γ0 w0) γ w → Fresh n S.lim γ → Sat (S.entry γ0 w0) S.N γ w a σ → ∃ γ', Inv (S.entry γ0 w0) γ' w ∧ Fresh n' S.lim γ' ∧ Sat (S.entry γ0 w0) S.N γ' w a σ'

theorem Goes.refl (S : Cls) (σ : St T) (n : Nat) : Goes S σ n σ n := fun _ _ _ γ _ _ h1 h2 h3 => ⟨γ, h1, h2, h3⟩

inductive Chain (S : Cls) (c : Code) (e : Exit) (σ' : St T) (n' : Nat) : Nat → St T → Nat → Prop
  | last {σ n} (he : e ≠ .normal) (h : Runs S c σ n e σ' n') : Chain S c e σ' n' 0 σ n
  | step {j σ n σ1 n1 σ2 n2} (h : Runs S c σ n .normal σ1 n1) (g : Goes S σ1 n1 σ2 n2) (k : Chain S c e σ' n' j σ2 n2) : Chain S c e σ' n' (j + 1) σ n

theorem Runs.goes {S : Cls} {code : Code} {σ σ1 σ2 : St T} {n n1 n2 : Nat} {e : Exit} (h : Runs S code σ1 n1 e σ2 n2) (g : Goes S σ n σ1 n1) : Runs S code σ n e σ2 n2 := by
  intro γ0 w0 ok γ a w hi hf hs
  obtain ⟨γ', i1, f1, s1⟩ := g γ0 w0 ok γ a w hi hf hs
  exact h γ0 w0 ok γ' a w i1 f1 s1

theorem Chain.runs {S : Cls} {c : Code} {e : Exit} {σ' : St T} {n' j : Nat} {σ : St T} {n : Nat} (h : Chain S c e σ' n' j σ n) : Runs S (.loop c) σ n e σ' n' := by
  intro γ0 w0 ok γ a w hi hf hs
  refine wp_loop_ghost (fun j a w => ∃ σ n γ, Chain S c e σ' n' j σ n ∧ Inv (S.entry γ0 w0) γ w ∧ Fresh n S.lim γ ∧ Sat (S.entry γ0 w0) S.N γ w a σ) j ⟨σ, n, γ, h, hi, hf, hs⟩ ?_
  rintro j a w ⟨σ, n, γ, hc, hi, hf, hs⟩
  cases hc with
  | last he h =>
    refine wp_mono (h γ0 w0 ok γ a w hi hf hs) fun e' a' w' ⟨h1, h2⟩ => ?_
    subst h1
    cases e' with
    | normal => exact absurd rfl he
    | exit id => exact ⟨rfl, h2⟩
    | goto l => exact ⟨rfl, h2⟩
    | ret => exact ⟨rfl, h2⟩
    | panic ch => exact ⟨rfl, h2⟩
    | outgrown => exact ⟨rfl, h2⟩
  | step h g k =>
    refine wp_mono (h γ0 w0 ok γ a w hi hf hs) fun e' a' w' ⟨h1, γ1, i1, f1, s1⟩ => ?_
    subst h1
    obtain ⟨γ2, i2, f2, s2⟩ := g γ0 w0 ok γ1 a' w' i1 f1 s1
    exact ⟨_, Nat.lt_succ_self _, _, _, γ2, k, i2, f2, s2⟩

section
variable {S : Cls} {cu : TypeId → Option T.U} {call : CallH T} {X : Type} {r : X}

theorem compile_seq {P : Program} {N : Nat} {code : Code} {x y : PCode T} (hc : compile P cu N code = some (.seq x y)) : ∃ c1 c2, code = .seq c1 c2 ∧ compile P cu N c1 = some x ∧ compile P cu N c2 = some y := by
  cases code <;> simp only [compile, Option.some.injEq, reduceCtorEq] at hc <;> (split at hc <;> cases hc)
  exact ⟨_, _, rfl, by assumption, by assumption⟩

theorem compile_cond {P : Program} {N : Nat} {code : Code} {z : Opd T} {x y : PCode T} (hc : compile P cu N code = some (.cond z x y)) : ∃ c0 c1 c2, code = .cond c0 c1 c2 ∧ cOpd c0 = some z ∧ compile P cu N c1 = some x ∧ compile P cu N c2 = some y := by
  cases code <;> simp only [compile, Option.some.injEq, reduceCtorEq] at hc <;> (split at hc <;> cases hc)
  exact ⟨_, _, _, rfl, by assumption, by assumption, by assumption⟩

theorem compile_block {P : Program} {N id : Nat} {code : Code} {x : PCode T} (hc : compile P cu N code = some (.block id x)) : ∃ c, code = .block id c ∧ compile P cu N c = some x := by
  cases code <;> simp only [compile, Option.some.injEq, reduceCtorEq] at hc <;> (split at hc <;> cases hc)
  exact ⟨_, rfl, by assumption⟩

theorem compile_loop {P : Program} {N : Nat} {code : Code} {x : PCode T} (hc : compile P cu N code = some (.loop x)) : ∃ c, code = .loop c ∧ compile P cu N c = some x := by
  cases code <;> simp only [compile, Option.some.injEq, reduceCtorEq] at hc <;> (split at hc <;> cases hc)
  exact ⟨_, rfl, by assumption⟩

theorem compile_reg {P : Program} {N : Nat} {code : Code} {d : Bool} {ps : List (POp T)} {deps : List (List Nat)} (hc : compile P cu N code = some (.reg d ps deps)) : ∃ id ops, code = .region id ops d ∧ compReg P cu N ops d = some (ps, deps) := by
  cases code <;> simp only [compile, Option.some.injEq, reduceCtorEq] at hc <;> (split at hc <;> cases hc)
  exact ⟨_, _, rfl, by assumption⟩

theorem compile_skip {P : Program} {N : Nat} {code : Code} (hc : compile (T := T) P cu N code = some .skip) : code = .skip := by
  cases code <;> simp only [compile, Option.some.injEq, reduceCtorEq] at hc <;> first | rfl | (split at hc <;> cases hc)
theorem compile_ret {P : Program} {N : Nat} {code : Code} (hc : compile (T := T) P cu N code = some .ret) : code = .ret := by
  cases code <;> simp only [compile, Option.some.injEq, reduceCtorEq] at hc <;> first | rfl | (split at hc <;> cases hc)
theorem compile_exit {P : Program} {N id : Nat} {code : Code} (hc : compile (T := T) P cu N code = some (.exit id)) : code = .exit id := by
  cases code <;> simp only [compile, Option.some.injEq, reduceCtorEq, PCode.exit.injEq] at hc <;> first | (subst hc; rfl) | (split at hc <;> cases hc)

theorem unroll_sound {c : Code} {body : St T → Nat → (Exit → St T → Nat → Option X) → Option X} (hb : ∀ σ n K, S.base ≤ n → n ≤ S.lim → body σ n K = some r → Comes S c σ n K r) : ∀ (k : Nat) (σ : St T) (n : Nat) (K : Exit → St T → Nat → Option X), S.base ≤ n → n ≤ S.lim → unrollF body k σ n K = some r →
    ∃ e σ' n' j, K e σ' n' = some r ∧ S.base ≤ n' ∧ n' ≤ S.lim ∧ Chain S c e σ' n' j σ n
  | 0, _, _, _, _, _, h => by simp [unrollF] at h
  | k + 1, σ, n, K, h1, h2, h => by
    simp only [unrollF] at h
    obtain ⟨e, σ1, n1, k1, k2, k3, k4⟩ := hb σ n _ h1 h2 h
    simp only at k1
    split at k1
    · obtain ⟨e, σ', n', j, m1, m2, m3, m4⟩ := unroll_sound hb k σ1 n1 K k2 k3 k1
      exact ⟨e, σ', n', j + 1, m1, m2, m3, .step k4 (.refl _ _ _) m4⟩
    · rename_i hne
      exact ⟨e, σ1, n1, 0, k1, k2, k3, .last (fun he => hne he) k4⟩

theorem ev_sound (hcall : CallSound S.P call) : ∀ (A : ACode T) (code : Code) (σ : St T) (n : Nat) (K : Exit → St T → Nat → Option X), compile S.P cu S.N code = some (erase A) → Good S.P cu S.N A → S.base ≤ n → n ≤ S.lim → ev call S.base S.lim A σ n K = some r → Comes S code σ n K r
  | .skip, code, σ, n, K, hc, _, h1, h2, h => by
    have hc := compile_skip hc
    subst hc
    exact ⟨.normal, σ, n, h, h1, h2, fun γ0 w0 ok γ a w hi hf hs => wp_skip ⟨rfl, γ, hi, hf, hs⟩⟩
  | .exit id, code, σ, n, K, hc, _, h1, h2, h => by
    have hc := compile_exit hc
    subst hc
    exact ⟨.exit id, σ, n, h, h1, h2, fun γ0 w0 ok γ a w hi hf hs => wp_exit ⟨rfl, γ, hi, hf, hs⟩⟩
  | .ret, code, σ, n, K, hc, _, h1, h2, h => by
    have hc := compile_ret hc
    subst hc
    exact ⟨.ret, σ, n, h, h1, h2, fun γ0 w0 ok γ a w hi hf hs => wp_ret ⟨rfl, γ, hi, hf, hs⟩⟩
  | .reg d ps deps, code, σ, n, K, hc, _, h1, h2, h => by
    obtain ⟨id, ops, rfl, hr⟩ := compile_reg hc
    cases d with
    | true =>
      obtain ⟨σf, n', k1, k2, k3, k4⟩ := w_region (id := id) (draw := true) (K := fun σ n => K .normal σ n) hcall rfl h1 h2 hr h
      exact ⟨.normal, σf, n', k1, by omega, k3, k4⟩
    | false =>
      obtain ⟨σf, n', k1, k2, k3, k4⟩ := w_region (id := id) (draw := false) (K := fun σ n => K .normal σ n) hcall rfl h1 h2 hr h
      exact ⟨.normal, σf, n', k1, by omega, k3, k4⟩
  | .seq x y, code, σ, n, K, hc, hg, h1, h2, h => by
    obtain ⟨c1, c2, rfl, hx, hy⟩ := compile_seq hc
    obtain ⟨e, σ1, n1, k1, k2, k3, k4⟩ := ev_sound hcall x c1 σ n _ hx hg.1 h1 h2 h
    simp only at k1
    split at k1
    · obtain ⟨e, σ', n', m1, m2, m3, m4⟩ := ev_sound hcall y c2 σ1 n1 K hy hg.2 k2 k3 k1
      refine ⟨e, σ', n', m1, m2, m3, fun γ0 w0 ok γ a w hi hf hs => wp_seq (wp_mono (k4 γ0 w0 ok γ a w hi hf hs) fun e' a' w' ⟨q1, γ1, q2, q3, q4⟩ => ?_)⟩
      subst q1
      exact m4 γ0 w0 ok γ1 a' w' q2 q3 q4
    · rename_i hne
      refine ⟨e, σ1, n1, k1, k2, k3, fun γ0 w0 ok γ a w hi hf hs => wp_seq (wp_mono (k4 γ0 w0 ok γ a w hi hf hs) fun e' a' w' ⟨q1, q2⟩ => ?_)⟩
      subst q1
      cases e' with
      | normal => exact absurd rfl hne
      | exit id => exact ⟨rfl, q2⟩
      | goto l => exact ⟨rfl, q2⟩
      | ret => exact ⟨rfl, q2⟩
      | panic ch => exact ⟨rfl, q2⟩
      | outgrown => exact ⟨rfl, q2⟩
  | .cond z x y, code, σ, n, K, hc, hg, h1, h2, h => by
    obtain ⟨c0, c1, c2, rfl, hz, hx, hy⟩ := compile_cond hc
    obtain ⟨t, ht, h⟩ := rdb_inv h
    have hv : ∀ {E : Entry} γ a w, Sat E S.N γ w a σ → a.eval c0 = .bool t := fun γ a w hs => repB (Rd.rep hs hz (fun _ _ => rfl) ht)
    cases t with
    | true =>
      obtain ⟨e, σ', n', m1, m2, m3, m4⟩ := ev_sound hcall x c1 σ n K hx hg.1 h1 h2 h
      exact ⟨e, σ', n', m1, m2, m3, fun γ0 w0 ok γ a w hi hf hs => wp_cond_split (hv γ a w hs) (fun _ => m4 γ0 w0 ok γ a w hi hf hs) (fun he => by cases he)⟩
    | false =>
      obtain ⟨e, σ', n', m1, m2, m3, m4⟩ := ev_sound hcall y c2 σ n K hy hg.2 h1 h2 h
      exact ⟨e, σ', n', m1, m2, m3, fun γ0 w0 ok γ a w hi hf hs => wp_cond_split (hv γ a w hs) (fun he => by cases he) (fun _ => m4 γ0 w0 ok γ a w hi hf hs)⟩
  | .block id x, code, σ, n, K, hc, hg, h1, h2, h => by
    obtain ⟨c, rfl, hx⟩ := compile_block hc
    obtain ⟨e, σ1, n1, k1, k2, k3, k4⟩ := ev_sound hcall x c σ n _ hx hg h1 h2 h
    have pass : ∀ e2, (∀ (R : Act → World → Prop) a' w', R a' w' → Exit.inBlock id (fun e' a' w' => e' = e2 ∧ R a' w') e a' w') → Runs S (.block id c) σ n e2 σ1 n1 := by
      intro e2 hp γ0 w0 ok γ a w hi hf hs
      refine wp_block (wp_mono (k4 γ0 w0 ok γ a w hi hf hs) fun e' a' w' ⟨q1, q2⟩ => ?_)
      subst q1
      exact hp (fun a' w' => ∃ γ', Inv (S.entry γ0 w0) γ' w' ∧ Fresh n1 S.lim γ' ∧ Sat (S.entry γ0 w0) S.N γ' w' a' σ1) a' w' q2
    cases e with
    | exit j =>
      simp only at k1
      split at k1
      · rename_i hj
        have hj := Nat.eq_of_beq_eq_true hj
        subst hj
        exact ⟨.normal, σ1, n1, k1, k2, k3, pass _ fun R a' w' q => by simp only [Exit.inBlock, if_true]; exact ⟨trivial, q⟩⟩
      · rename_i hj
        have hj : ¬ j = id := fun e => by subst e; simp at hj
        exact ⟨.exit j, σ1, n1, k1, k2, k3, pass _ fun R a' w' q => by simp only [Exit.inBlock, if_neg hj]; exact ⟨trivial, q⟩⟩
    | normal => exact ⟨.normal, σ1, n1, k1, k2, k3, pass _ fun R a' w' q => ⟨rfl, q⟩⟩
    | goto l => exact ⟨.goto l, σ1, n1, k1, k2, k3, pass _ fun R a' w' q => ⟨rfl, q⟩⟩
    | ret => exact ⟨.ret, σ1, n1, k1, k2, k3, pass _ fun R a' w' q => ⟨rfl, q⟩⟩
    | panic ch => exact ⟨.panic ch, σ1, n1, k1, k2, k3, pass _ fun R a' w' q => ⟨rfl, q⟩⟩
    | outgrown => exact ⟨.outgrown, σ1, n1, k1, k2, k3, pass _ fun R a' w' q => ⟨rfl, q⟩⟩
  | .loop x g, code, σ, n, K, hc, hg, h1, h2, h => hg call hcall S rfl rfl code hc X σ n K r h1 h2 h
  | .unroll k x, code, σ, n, K, hc, hg, h1, h2, h => by
    obtain ⟨c, rfl, hx⟩ := compile_loop hc
    obtain ⟨e, σ', n', j, m1, m2, m3, m4⟩ := unroll_sound (S := S) (c := c) (fun σ n K g1 g2 hh => ev_sound hcall x c σ n K hx hg g1 g2 hh) k σ n K h1 h2 h
    exact ⟨e, σ', n', m1, m2, m3, m4.runs⟩
end
end Go.G
