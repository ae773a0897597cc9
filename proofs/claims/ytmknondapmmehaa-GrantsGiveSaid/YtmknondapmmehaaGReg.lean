import Derived.Test.YtmknondapmmehaaGComp
set_option linter.unusedVariables false
set_option linter.unusedSimpArgs false
namespace Go.G
variable {T : Uni}

def POp.gslots (p : POp T) : List Nat :=
  match p.guard with
  | some (g, _) => [g]
  | none => []
def POp.slots (p : POp T) : List Nat := p.gslots ++ p.k.slots

def compG (ops : Array Oper) (g : Option (Nat × Bool)) : Option (Option (Nat × Bool)) :=
  match g with
  | none => some none
  | some (j, b) => match (ops[j]?).bind (·.dst) with
    | some s => some (some (s, b))
    | none => none

def dstOk (N : Nat) (d : Option Nat) : Bool :=
  match d with
  | some d => decide (d < N)
  | none => true

def compOp (P : Program) (cu : TypeId → Option T.U) (N : Nat) (ops : Array Oper) (o : Oper) : Option (POp T) :=
  match compKB P cu o, compG ops o.guard with
  | some k, some g => if dstOk N o.dst then some ⟨o.dst, g, k⟩ else none
  | _, _ => none

def compOps (P : Program) (cu : TypeId → Option T.U) (N : Nat) (ops : Array Oper) : List Oper → Option (List (POp T))
  | [] => some []
  | o :: os => match compOp P cu N ops o, compOps P cu N ops os with
    | some p, some ps => some (p :: ps)
    | _, _ => none

def depsOf (ops : List Oper) : List (List Nat) := ops.map fun o => (o.after.toList.filter (Region.binds .any ·)).map (·.on)

def mergeN : List Nat → List Nat → List Nat
  | [], l => l
  | x :: r, l => mergeN r (match l.any (Nat.beq x) with
    | true => l
    | false => x :: l)
/-- All that come before, at some remove. -/
def clo : List (List Nat) → List (List Nat) → List (List Nat)
  | acc, [] => acc
  | acc, d :: ds => clo (acc ++ [mergeN (d.flatMap fun k => acc.getD k []) (mergeN d [])]) ds
def depsC (ops : List Oper) : List (List Nat) := clo [] (depsOf ops)

/-- The slots of two operations that can come up in either order do not meet. -/
def slotFree (p q : POp T) : Bool :=
  (match p.dst with | some d => !q.slots.contains d && q.dst != some d | none => true) && (match q.dst with | some d => !p.slots.contains d | none => true)

def slotsChk (i : Nat) (dep : List Nat) (q : POp T) : List (POp T) → Bool
  | [] => true
  | p :: ps => (dep.contains i || slotFree p q) && slotsChk (i + 1) dep q ps

def slotsOk (pre : List (POp T)) : List (POp T) → List (List Nat) → Bool
  | [], _ => true
  | q :: qs, deps => slotsChk 0 (deps.headD []) q pre && slotsOk (pre ++ [q]) qs deps.tail

def edgesOk (i : Nat) : List (List Nat) → Bool
  | [] => true
  | d :: ds => d.all (· < i) && edgesOk (i + 1) ds

def compReg (P : Program) (cu : TypeId → Option T.U) (N : Nat) (ops : Array Oper) (draw : Bool) : Option (List (POp T) × List (List Nat)) :=
  match compOps P cu N ops ops.toList with
  | some ps => if draw then if P.follows .mixedOrders && slotsOk [] ps (depsC ops.toList) && edgesOk 0 (depsOf ops.toList) then some (ps, depsC ops.toList) else none
      else some (ps, [])
  | none => none

section
variable {C : Ctx} {σ : St T} {ops : Array Oper} {o : Oper} {p : POp T}

def runInst (p : POp T) (x : PV T) (mrd : List Loc) (mwr : Wr T) (lo hi : Nat) : Inst T := ⟨p.slots.map .s ++ mrd, dw p.dst true x ++ mwr, lo, hi⟩
def skipInst (p : POp T) (n : Nat) : Inst T := ⟨p.slots.map .s, dw p.dst false .junk, n, n⟩

theorem step_of_done {x : PV T} {mrd : List Loc} {mwr : Wr T} {lo hi : Nat} {σ' : St T} {γ : Gh} {w : World} {a a' : Act} {w' : World} (hdst : p.dst = o.dst) (hd : dstOk C.N o.dst = true) (hi' : Inv C.E γ w) (hs : Sat C.E C.N γ w a σ')
    (h : OpDone C o.dst a γ w x mwr lo hi a' w') : StepPost C σ' (runInst p x mrd mwr lo hi) γ a' w' := by
  obtain ⟨γ', v, Y, rfl, k1, k2, k3, k4, k5, k6, k7, k8⟩ := h
  refine ⟨γ', hi'.step k2 C.ok (fun nm hy => (k3 nm hy).1) k5 k6 k7, ?_, k8⟩
  refine hs.upd k2 (fun d hdd => ?_) (fun nm hy => ?_) fun l f hm => ?_
  · rw [hdd] at hd
    refine ⟨by simpa [dstOk] using hd, ?_⟩
    simp [runInst, dw, hdst, hdd, locs]
  · have := (k3 nm hy).2
    simp only [runInst, locs, List.map_append, List.mem_append] at this ⊢
    exact .inr this
  · simp only [runInst, List.mem_append] at hm
    rcases hm with hm | hm
    · rw [hdst] at hm
      cases hod : o.dst with
      | none => rw [hod] at hm; simp [dw] at hm
      | some d =>
        rw [hod] at hm hd
        simp only [dw, List.mem_singleton, Prod.mk.injEq, Option.some.injEq] at hm
        obtain ⟨rfl, rfl⟩ := hm
        refine ⟨⟨fun _ => ?_, fun hc => by cases hc⟩, fun nm e => by cases e⟩
        simp only [Act.put]
        rw [getD_set _ _ _ _ (by rw [hs.size]; simpa [dstOk] using hd), if_pos rfl]
        exact k1 d hod
    · obtain ⟨nm, rfl, h2, h3⟩ := k4 l f hm
      exact ⟨h3 _, fun nm' e => by cases e; exact h2⟩

theorem step_of_skip {n : Nat} {σ' : St T} {γ : Gh} {w : World} {a : Act} (hdst : p.dst = o.dst) (hd : dstOk C.N o.dst = true) (hi : Inv C.E γ w) (hs : Sat C.E C.N γ w a σ') :
    StepPost C σ' (skipInst p n) γ (a.put o.dst undef) w := by
  refine ⟨γ, hi, ?_, .refl _ _ _⟩
  refine hs.upd (Evo.refl (fun _ => False) _ _) (fun d hdd => ?_) (fun nm hy => hy.elim) fun l f hm => ?_
  · rw [hdd] at hd
    refine ⟨by simpa [dstOk] using hd, ?_⟩
    simp [skipInst, dw, hdst, hdd, locs]
  · simp only [skipInst] at hm
    rw [hdst] at hm
    cases hod : o.dst with
    | none => rw [hod] at hm; simp [dw] at hm
    | some d =>
      rw [hod] at hm hd
      simp only [dw, List.mem_singleton, Prod.mk.injEq, Option.some.injEq] at hm
      obtain ⟨rfl, rfl⟩ := hm
      refine ⟨⟨fun hc => (by cases hc), fun _ => ?_⟩, fun nm e => (by cases e)⟩
      simp only [Act.put]
      rw [getD_set _ _ _ _ (by rw [hs.size]; simpa [dstOk] using hd), if_pos rfl]

/-- What a guard comes to. -/
def GuardIs (C : Ctx) (ops : Array Oper) (o : Oper) (p : POp T) (σ : St T) (pc : Bool) : Prop :=
  ∀ σ', (∀ i ∈ p.gslots, look σ' (.s i) = look σ (.s i)) → ∀ γ a w, Sat C.E C.N γ w a σ' → Region.wanted o (yielded ops a.tmps) = pc

theorem valid_run {x : PV T} {mrd : List Loc} {mwr : Wr T} {lo hi : Nat} (hdst : p.dst = o.dst) (hd : dstOk C.N o.dst = true) (hg : GuardIs C ops o p σ true) (hv : KValid C o σ p.k.slots x mrd mwr lo hi) : Valid C ops o σ (runInst p x mrd mwr lo hi) := by
  intro σ' hrd γ a w hi' hs hf
  have hl1 : ∀ i ∈ p.gslots, look σ' (.s i) = look σ (.s i) := fun i hm => hrd _ (by
    simp only [runInst, POp.slots, List.mem_append, List.mem_map]
    exact .inl ⟨i, by simp [hm], rfl⟩)
  have hl2 : ∀ i ∈ p.k.slots, look σ' (.s i) = look σ (.s i) := fun i hm => hrd _ (by
    simp only [runInst, POp.slots, List.mem_append, List.mem_map]
    exact .inl ⟨i, by simp [hm], rfl⟩)
  have hl3 : ∀ l ∈ mrd, look σ' l = look σ l := fun l hm => hrd _ (by
    simp only [runInst, List.mem_append]
    exact .inr hm)
  rw [hg σ' hl1 γ a w hs, if_pos rfl]
  intro Q
  exact Oper.wp_mono (fun a' w' h => step_of_done hdst hd hi' hs h) (hv σ' hl2 hl3 γ a w hi' hs hf Q)

theorem valid_skip {n : Nat} (hdst : p.dst = o.dst) (hd : dstOk C.N o.dst = true) (hg : GuardIs C ops o p σ false) : Valid C ops o σ (skipInst p n) := by
  intro σ' hrd γ a w hi' hs hf
  have hl1 : ∀ i ∈ p.gslots, look σ' (.s i) = look σ (.s i) := fun i hm => hrd _ (by
    simp only [skipInst, POp.slots, List.mem_map]
    exact ⟨i, by simp [hm], rfl⟩)
  rw [hg σ' hl1 γ a w hs, if_neg (by simp)]
  exact step_of_skip hdst hd hi' hs

theorem compOp_inv {P : Program} {cu : TypeId → Option T.U} {N : Nat} (hc : compOp P cu N ops o = some p) : compKB P cu o = some p.k ∧ compG ops o.guard = some p.guard ∧ dstOk N o.dst = true ∧ p.dst = o.dst := by
  unfold compOp at hc
  split at hc
  · rename_i k g hk hg
    split at hc
    · rename_i hd; cases hc; exact ⟨hk, hg, hd, rfl⟩
    · cases hc
  · cases hc

theorem gdv_inv {X : Type} {r : X} {A B : St T → Option X} (hg : compG ops o.guard = some p.guard) (h : gdv σ p.guard A B = some r) :
    ∃ σ', (∀ l, look σ' l = look σ l) ∧ ((A σ' = some r ∧ ∀ C, GuardIs C ops o p σ true) ∨ (B σ' = some r ∧ ∀ C, GuardIs C ops o p σ false)) := by
  unfold gdv at h
  cases hgd : p.guard with
  | none =>
    rw [hgd] at h
    refine ⟨σ, fun _ => rfl, .inl ⟨h, fun C σ' _ γ a w _ => ?_⟩⟩
    have : o.guard = none := by
      rw [hgd] at hg
      unfold compG at hg
      split at hg
      · assumption
      · split at hg <;> cases hg
    simp [Region.wanted, this]
  | some gb =>
    obtain ⟨gs, b⟩ := gb
    rw [hgd] at h hg
    simp only at h
    obtain ⟨j, hj1, hj2⟩ : ∃ j, o.guard = some (j, b) ∧ (ops[j]?).bind (·.dst) = some gs := by
      unfold compG at hg
      split at hg
      · cases hg
      · rename_i j b' hgd'
        split at hg
        · rename_i s hs'
          cases hg
          exact ⟨j, hgd', hs'⟩
        · cases hg
    have hgs : gs ∈ p.gslots := by simp [POp.gslots, hgd]
    have hdef : ∀ xb, look σ (.s gs) = some (.v true (.one (.d (.bool xb)))) → ∀ C, GuardIs C ops o p σ (xb == b) := by
      intro xb hlk C σ' hl γ a w hs
      have hf := hs.facts (.s gs) _ ((hl gs hgs).trans hlk)
      have hv := repB (hf.1 rfl)
      simp only [Region.wanted, hj1, yielded, hj2, Option.bind_some]
      cases ht : a.tmps[gs]? with
      | none => simp [Array.getD_eq_getD_getElem?, ht, undef] at hv
      | some u =>
        simp [Array.getD_eq_getD_getElem?, ht] at hv
        subst hv
        simp
    split at h
    · rename_i xb hlk
      have hsame : ∀ l, look ((.s gs, .v true (bl xb)) :: σ) l = look σ l := fun l => by
        rw [look_cons]
        split
        · rename_i e; subst e; exact hlk.symm
        · rfl
      have hG := hdef xb hlk
      cases xb with
      | true =>
        cases b with
        | true => exact ⟨_, hsame, .inl ⟨h, hG⟩⟩
        | false => exact ⟨_, hsame, .inr ⟨h, hG⟩⟩
      | false =>
        cases b with
        | true => exact ⟨_, hsame, .inr ⟨h, hG⟩⟩
        | false => exact ⟨_, hsame, .inl ⟨h, hG⟩⟩
    · rename_i x hlk
      refine ⟨σ, fun _ => rfl, .inr ⟨h, fun C σ' hl γ a w hs => ?_⟩⟩
      have hf := hs.facts (.s gs) _ ((hl gs hgs).trans hlk)
      have hv := hf.2 rfl
      simp only [Region.wanted, hj1, yielded, hj2, Option.bind_some]
      cases ht : a.tmps[gs]? with
      | none => simp
      | some u =>
        simp [Array.getD_eq_getD_getElem?, ht] at hv
        subst hv
        simp [undef]
    · cases h

theorem KValid.congr {σ' : St T} {sl : List Nat} {x : PV T} {mrd : List Loc} {mwr : Wr T} {lo hi : Nat} (hσ : ∀ l, look σ' l = look σ l) (h : KValid C o σ' sl x mrd mwr lo hi) : KValid C o σ sl x mrd mwr lo hi :=
  fun σ'' h1 h2 => h σ'' (fun i hi => (h1 i hi).trans (hσ _).symm) (fun l hl => (h2 l hl).trans (hσ _).symm)

/-- Of a run: its numbers, its operations, that it is valid, where its names lie. -/
structure RunOK (S : Cls) (ops : Array Oper) (i k : Nat) (rem : Rem T) (σ : St T) (n n' : Nat) : Prop where
  nums : rem.map (·.1) = List.range' i k
  opsOk : ∀ x ∈ rem, ops[x.1]? = some x.2.1
  run : ∀ γ0 w0 ok, RunV (S.ctx γ0 w0 ok) ops rem σ
  rise : Rising rem
  rng : ∀ x ∈ rem, n ≤ x.2.2.lo ∧ x.2.2.lo ≤ x.2.2.hi ∧ x.2.2.hi ≤ n'
  le : n ≤ n'

theorem seq_run {cu : TypeId → Option T.U} {call : CallH T} {S : Cls} (hcall : CallSound S.P call) {lim : Nat} (hlim : lim ≤ S.lim) {X : Type} {r : X} {K : St T → Nat → Option X} : ∀ (os : List Oper) (ps : List (POp T)) (i n : Nat) (σ : St T), (∀ j, os[j]? = ops[i + j]?) → S.base ≤ n → n ≤ lim → compOps S.P cu S.N ops os = some ps → evSeq call lim ps σ n K = some r →
    ∃ rem σf n', K σf n' = some r ∧ (∀ l, look σf l = look (fin rem σ) l) ∧ RunOK S ops i os.length rem σ n n' ∧ n' ≤ lim
  | [], ps, i, n, σ, _, _, hn, hc, h => by
    simp only [compOps, Option.some.injEq] at hc
    subst hc
    exact ⟨[], σ, n, h, fun _ => rfl, ⟨rfl, by simp, fun _ _ _ => trivial, List.Pairwise.nil, by simp, Nat.le_refl _⟩, hn⟩
  | o :: os, ps, i, n, σ, ho, hb, hn, hc, h => by
    simp only [compOps] at hc
    split at hc
    · rename_i p ps' h1 h2
      cases hc
      obtain ⟨c1, c2, c3, c4⟩ := compOp_inv h1
      have ho0 : ops[i]? = some o := by simpa using (ho 0).symm
      have ho' : ∀ j, os[j]? = ops[i + 1 + j]? := fun j => by have := ho (j + 1); simpa [Nat.add_assoc, Nat.add_comm 1 j] using this
      simp only [evSeq] at h
      have key : ∀ (I : Inst T) (σ2 : St T) (n2 : Nat), (∀ γ0 w0 ok, Valid (S.ctx γ0 w0 ok) ops o σ I) → (∀ l, look σ2 l = look (upd σ I.wrs) l) → I.lo = n → I.hi = n2 → n ≤ n2 → n2 ≤ lim → evSeq call lim ps' σ2 n2 K = some r →
          ∃ rem σf n', K σf n' = some r ∧ (∀ l, look σf l = look (fin rem σ) l) ∧ RunOK S ops i (o :: os).length rem σ n n' ∧ n' ≤ lim := by
        intro I σ2 n2 hI h2' e1 e2 hle hle2 hev
        obtain ⟨rem, σf, n', k1, k2, k3, k4⟩ := seq_run hcall hlim os ps' (i + 1) n2 σ2 ho' (by omega) hle2 h2 hev
        refine ⟨(i, o, I) :: rem, σf, n', k1, fun l => (k2 l).trans (fin_congr rem h2' l), ⟨by simp [k3.nums, List.range'_succ], fun y hy => ?_, fun γ0 w0 ok => ⟨hI γ0 w0 ok, RunV.congr rem h2' (k3.run γ0 w0 ok)⟩, List.pairwise_cons.2 ⟨fun y hy => ?_, k3.rise⟩, fun y hy => ?_, by have := k3.le; omega⟩, k4⟩
        · rcases List.mem_cons.1 hy with rfl | hy
          · exact ho0
          · exact k3.opsOk y hy
        · have := (k3.rng y hy).1; simp only [e2]; omega
        · rcases List.mem_cons.1 hy with rfl | hy
          · simp only [e1, e2]; have := k3.le; omega
          · have := k3.rng y hy; omega
      obtain ⟨σ', hsame, ⟨hA, hG⟩ | ⟨hB, hG⟩⟩ := gdv_inv c2 h
      · rw [c4] at hA
        obtain ⟨x, mrd, mwr, n', hk, hle, hle2, hv, _, _⟩ := evKB_sound c1 hcall hlim hb hA
        refine key (runInst p x mrd mwr n n') _ n' (fun γ0 w0 ok => valid_run c4 c3 (hG _) ((hv γ0 w0 ok).congr hsame)) (fun l => ?_) rfl rfl hle (by omega) (by rw [← c4] at hk; exact hk)
        exact upd_congr hsame _ l
      · refine key (skipInst p n) _ n (fun _ _ _ => valid_skip c4 c3 (hG _)) (fun l => ?_) rfl rfl (Nat.le_refl _) hn hB
        exact upd_congr hsame _ l
    · cases hc
end
end Go.G
