import Derived.Test.YtmknondapmmehaaGOps6
set_option linter.unusedVariables false
set_option linter.unusedSimpArgs false
namespace Go.G
variable {T : Uni}
section
variable {C : Ctx} {o : Oper} {σ : St T} {lo hi : Nat}

/-! ### x[lo:hi] -/
def boundOf (v : Option Value) (d : Nat) : Option Int :=
  match v with
  | none => some d
  | some (.int _ l) => some l
  | some _ => none

theorem run_bound (P : Program) (w : World) (k : IntKind) (i : Int) (y : Nat) (code : BoundsCode) (h0 : 0 ≤ i) (h1 : i ≤ y) : (Instr.sliceBound (.int k i) y code).run P w = .ok i.toNat w := by
  simp [Instr.sliceBound, asIntOf, h0, h1]

theorem run_slice_none {P : Program} {t e : TypeId} {size : Nat} (hu : P.underlying t = some (.slice e)) (hm : tySz P e = some size) (w : World) (A : Option Addr) (len cap : Nat) (lo hi : Option Value) (l h : Int)
    (hl : boundOf lo 0 = some l) (hh : boundOf hi len = some h) (h0 : 0 ≤ l) (h1 : l ≤ h) (h2 : h ≤ cap) :
    (Instr.sliceAt t (.slice A len cap) lo hi none).run P w = .ok (.slice (if cap = l.toNat then A else A.map (·.add (l.toNat * size))) (h.toNat - l.toNat) (cap - l.toNat)) w := by
  have key : ∀ (lo hi : Option Value), boundOf lo 0 = some l → boundOf hi len = some h → (Instr.sliceBounds true len cap lo hi none).run P w = .ok (l.toNat, h.toNat, cap) w := by
    intro lo hi hl hh
    have hhn : (h.toNat : Int) = h := by omega
    unfold Instr.sliceBounds
    cases lo with
    | none =>
      simp only [boundOf, Option.some.injEq] at hl
      subst hl
      cases hi with
      | none =>
        simp only [boundOf, Option.some.injEq] at hh
        subst hh
        simp
      | some v =>
        cases v <;> simp only [boundOf, Option.some.injEq, reduceCtorEq] at hh
        subst hh
        rename_i k h
        have hb := run_bound P w k h cap .sliceAcap (by omega) h2
        simp [hb]
    | some v =>
      cases v <;> simp only [boundOf, Option.some.injEq, reduceCtorEq] at hl
      subst hl
      cases hi with
      | none =>
        simp only [boundOf, Option.some.injEq] at hh
        subst hh
        rename_i k l
        have hb := run_bound P w k l len .sliceB h0 h1
        simp [hb]
      | some v =>
        cases v <;> simp only [boundOf, Option.some.injEq, reduceCtorEq] at hh
        subst hh
        rename_i k l k' h
        have hb := run_bound P w k' h cap .sliceAcap (by omega) h2
        have hb2 := run_bound P w k l h.toNat .sliceB h0 (by omega)
        simp [hb, hb2]
  simp [Instr.sliceAt, run_underlying hu, Instr.slice, key lo hi hl hh, run_sizeOf hm]

def Rdo (σ : St T) : Option (Opd T) → Int → Int → Prop
  | none, d, l => l = d
  | some y, _, l => ∃ k, Rd σ y (.one (.d (.int k l)))

theorem rdo_inv {X : Type} {r : X} {x : Option (Opd T)} {d : Int} {K : Int → Option X} (h : rdo σ x d K = some r) : ∃ l, Rdo σ x d l ∧ K l = some r := by
  cases x with
  | none => exact ⟨d, rfl, h⟩
  | some y =>
    obtain ⟨k, l, hp, h⟩ := rdi_inv (x := y) h
    exact ⟨l, ⟨k, hp⟩, h⟩

theorem Rdo.bound {E : Entry} {N : Nat} {γ : Gh} {w : World} {a : Act} {σ' : St T} (hs : Sat E N γ w a σ') {x : Option Operand} {y : Option (Opd T)} (hx : cOpo x = some y) {d : Nat} {l : Int} (hl : ∀ i ∈ Opd.all y.toList, look σ' (.s i) = look σ (.s i)) (h : Rdo σ y d l) :
    boundOf (x.map a.eval) d = some l := by
  cases x with
  | none =>
    simp only [cOpo, Option.some.injEq] at hx
    subst hx
    simp only [Rdo] at h
    subst h
    rfl
  | some x =>
    simp only [cOpo] at hx
    split at hx
    · rename_i y' hy'
      cases hx
      obtain ⟨k, h⟩ := h
      have := repI (Rd.rep hs hy' (fun i hi => hl i (by simpa [Opd.all] using hi)) h)
      simp [boundOf, this]
    · cases hx

theorem kv_slice {t e : TypeId} {size : Nat} {x : Operand} {lo' hi' : Option Operand} {Xx : Opd T} {Lo Hi : Option (Opd T)} {c c' : CV T} {d : Nat} {l h : Int} {mrd : List Loc} (ho : o.op = .slice t x lo' hi' none) (hx : cOpd x = some Xx) (hlo : cOpo lo' = some Lo) (hhi : cOpo hi' = some Hi)
    (hu : C.P.underlying t = some (.slice e)) (hm : tySz C.P e = some size) (h1 : Rd σ Xx (.one c)) (hl : Rdo σ Lo 0 l) (hh : Rdo σ Hi d h) (h0 : 0 ≤ l) (hlh : l ≤ h) (hhd : h ≤ d)
    (hc : ∀ σ', (∀ q ∈ mrd, look σ' q = look σ q) → ∀ γ a w, Sat C.E C.N γ w a σ' → ∀ v, RepC γ w c v → ∃ A cap, v = .slice A d cap ∧ d ≤ cap ∧ ∀ A', (l.toNat < cap → A' = A.map (·.add (l.toNat * size))) → RepC γ w c' (.slice A' (h.toNat - l.toNat) (cap - l.toNat))) :
    KValid C o σ (Xx.slots ++ (Opd.all Lo.toList ++ Opd.all Hi.toList)) (.one c') mrd [] lo hi := by
  refine kv_pure fun σ' g1 g2 γ a w hinv hs => ?_
  have e1 := Rd.rep hs hx (fun j hj => g1 j (left hj)) h1
  simp only [RepP] at e1
  obtain ⟨A, cap, e2, e3, e4⟩ := hc σ' g2 γ a w hs _ e1
  have k1 := Rdo.bound (d := 0) hs hlo (fun j hj => g1 j (right (left hj))) hl
  have k2 := Rdo.bound (d := d) hs hhi (fun j hj => g1 j (right (right hj))) hh
  have hrun := run_slice_none hu hm w A d cap _ _ l h k1 k2 h0 hlh (by omega)
  refine ⟨.slice (if cap = l.toNat then A else A.map (·.add (l.toNat * size))) (h.toNat - l.toNat) (cap - l.toNat), by simp only [execOp, ho, e2, Option.map_none, Sem.run_bind, hrun, Result.andThen_ok, Sem.run_pure], ?_⟩
  simp only [RepP]
  refine e4 _ fun hlt => ?_
  rw [if_neg (by omega)]

theorem slice_d {γ : Gh} {w : World} {u : T.U} {xs ys : List (T.El u)} {a b : Int} (hd : dsub xs a b = some ys) {v : Value} (h : RepC (T := T) γ w (.d (.sl u xs)) v) :
    ∃ A cap, v = .slice A xs.length cap ∧ xs.length ≤ cap ∧ ∀ A', (a.toNat < cap → A' = A.map (·.add (a.toNat * T.size u))) → RepC (T := T) γ w (.d (.sl u ys)) (.slice A' (b.toNat - a.toNat) (cap - a.toNat)) := by
  obtain ⟨d1, d2, d3, rfl⟩ := dsub_some hd
  obtain ⟨A, cap, rfl, hc, h'⟩ := RepD.sl_iff.1 h
  exact ⟨A, cap, rfl, hc, fun A' hA => RepD.sub h (by omega) (by omega) hA⟩

theorem slice_own {γ : Gh} {w : World} {u u' : T.U} {nm L : Nat} {a b : Int} (h0 : 0 ≤ a) (h1 : a ≤ b) (h2 : b ≤ L) {v : Value} (h : RepC (T := T) γ w (.own u' nm) v) (hb : ∃ A cap, γ.bt nm = some (.row A L cap) ∧ L ≤ cap) :
    ∃ A cap, v = .slice A L cap ∧ L ≤ cap ∧ ∀ A', (a.toNat < cap → A' = A.map (·.add (a.toNat * T.size u))) → RepC (T := T) γ w (.buf u nm a (b - a)) (.slice A' (b.toNat - a.toNat) (cap - a.toNat)) := by
  obtain ⟨A, cap, k1, k2⟩ := hb
  obtain ⟨A0, l, cap0, j1, rfl⟩ := h
  rw [k1] at j1; cases j1
  refine ⟨A, cap, rfl, k2, fun A' hA => ⟨A, L, cap, A', k1, h0, by omega, by omega, k2, ?_, fun hlt => hA (by omega)⟩⟩
  congr 1
  omega

theorem add_add (x : Addr) (p q : Nat) : (x.add p).add q = x.add (p + q) := by
  unfold Addr.add
  by_cases hp : p = 0
  · subst hp; simp
  · by_cases hq : q = 0
    · subst hq; simp [hp]
    · simp [hp, hq, Nat.add_assoc]

theorem slice_buf {γ : Gh} {w : World} {u : T.U} {nm : Nat} {off len a b : Int} (h0 : 0 ≤ a) (h1 : a ≤ b) (h2 : b ≤ len) {v : Value} (h : RepC (T := T) γ w (.buf u nm off len) v) :
    ∃ A cap, v = .slice A len.toNat cap ∧ len.toNat ≤ cap ∧ ∀ A', (a.toNat < cap → A' = A.map (·.add (a.toNat * T.size u))) → RepC (T := T) γ w (.buf u nm (off + a) (b - a)) (.slice A' (b.toNat - a.toNat) (cap - a.toNat)) := by
  obtain ⟨A0, L, cap0, A1, k1, k2, k3, k4, k5, rfl, k7⟩ := h
  refine ⟨A1, cap0 - off.toNat, rfl, by omega, fun A' hA => ⟨A0, L, cap0, A', k1, by omega, by omega, by omega, k5, ?_, fun hlt => ?_⟩⟩
  · congr 1 <;> omega
  · rw [hA (by omega), k7 (by omega)]
    cases A0 with
    | none => rfl
    | some ad =>
      simp only [Option.map_some, add_add, Option.some.injEq]
      congr 1
      rw [← Nat.add_mul]
      congr 1
      omega

/-! ### Function values and calls -/
theorem refIds_rep {γ : Gh} {w : World} : ∀ {ps : List (PV T)} {ids : List Nat} {vs : List Value}, refIds ps = some ids → RepPs γ w ps vs → ∃ bs : List Nat, ids.map γ.bt = bs.map (fun b => some (.blk b)) ∧ vs = bs.map fun b => Value.pointer (some ⟨b, 0, none⟩)
  | [], ids, vs, h, hr => by
    simp only [refIds, Option.some.injEq] at h
    subst h
    cases vs with
    | nil => exact ⟨[], rfl, rfl⟩
    | cons _ _ => simp only [RepPs] at hr
  | p :: ps, ids, vs, h, hr => by
    unfold refIds at h
    split at h
    · rename_i h0; cases h0
    · rename_i id qs h0
      cases h0
      split at h
      · rename_i ids' h1
        cases h
        cases vs with
        | nil => simp only [RepPs] at hr
        | cons v vs =>
          simp only [RepPs, RepP, RepC] at hr
          obtain ⟨⟨b, hb, rfl⟩, hr⟩ := hr
          obtain ⟨bs, k1, k2⟩ := refIds_rep h1 hr
          exact ⟨b :: bs, by simp [hb, k1], by simp [k2]⟩
      · cases h
    · cases h

theorem kv_mkf {f : FuncId} {caps : Array Operand} {xs : List (Opd T)} {ps : List (PV T)} {ids : List Nat} (ho : o.op = .makeFunc (.func f) #[] caps) (hx : cOpds caps.toList = some xs) (h : Rds σ xs ps) (hi' : refIds ps = some ids) :
    KValid C o σ (Opd.all xs) (.one (.fn f ids)) [] [] lo hi := by
  refine kv_pure fun σ' g1 _ γ a w hinv hs => ?_
  have hrep := Rds.rep hs hx g1 h
  obtain ⟨bs, k1, k2⟩ := refIds_rep hi' hrep
  refine ⟨.func (.func f) #[] (caps.map a.eval), by simp [execOp, ho, Instr.makeFunc], ?_⟩
  simp only [RepP, RepC]
  refine ⟨bs, k1, ?_⟩
  congr 1
  apply Array.ext'
  rw [Array.toList_map, k2]

def FnOK (P : Program) (f : FuncId) : Prop := ∃ fn, P.funcs[f]? = some fn ∧ (fn.name == "runtime.NumGoroutine") = false ∧ fn.body.isNone = false

/-- What a call comes to: from these arguments and this heap to that result and that heap; its own names lie between n and lim. -/
def CallOK (P : Program) (f : FuncId) (args : List (PV T)) (H : St T) (n lim : Nat) (r : PV T) (H' : St T) : Prop :=
  ∀ γ w vs, EntryOK ⟨γ, w, n, lim, fun nm => ∃ g, (Loc.h nm, g) ∈ H⟩ → HSat γ w H → RepPs γ w args vs → (∀ nm f, (Loc.h nm, f) ∈ H → nm < n ∨ lim ≤ nm) → Calls P f vs.toArray w fun e w' => ∃ γ' v, e = .returned v ∧
    Inv ⟨γ, w, n, lim, fun nm => ∃ g, (Loc.h nm, g) ∈ H⟩ γ' w' ∧ HSat γ' w' H' ∧ RepP γ' w' r v

theorem run_callFunc {P : Program} {f : FuncId} (h : FnOK P f) (args : Array Value) (w : World) : (callFunc f args).run P w = .ok (.enter f args) w := by
  obtain ⟨fn, h1, h2, h3⟩ := h
  have h2' : fn.name ≠ "runtime.NumGoroutine" := by simpa using h2
  have h3' : fn.body ≠ none := by intro h; rw [h] at h3; cases h3
  simp [callFunc, h1, h2', h3']

def CallRun (C : Ctx) (o : Oper) (σ : St T) (sl : List Nat) (f : FuncId) (args : List (PV T)) : Prop :=
  ∀ σ', (∀ i ∈ sl, look σ' (.s i) = look σ (.s i)) → ∀ γ a w, Sat C.E C.N γ w a σ' → ∃ vs : List Value, (execOp a.eval o).run C.P w = (callFunc f vs.toArray).run C.P w ∧ RepPs γ w args vs

theorem callRun_call {f : FuncId} {args : Array Operand} {ts : Array TypeId} {xs : List (Opd T)} {ps : List (PV T)} (ho : o.op = .call { callee := .value (.func f), args := args, argTypes := ts }) (hx : cOpds args.toList = some xs) (h : Rds σ xs ps) :
    CallRun C o σ (Opd.all xs) f ps := by
  intro σ' g1 γ a w hs
  refine ⟨args.toList.map a.eval, ?_, Rds.rep hs hx g1 h⟩
  have e : (args.toList.map a.eval).toArray = args.map a.eval := by apply Array.ext'; simp
  rw [e]
  simp [execOp, ho, resolve, invoke, Deferred.ofValue, Act.eval]

theorem refs_rep {γ : Gh} {w : World} : ∀ {ids : List Nat} {bs : List Nat}, ids.map γ.bt = bs.map (fun b => some (.blk b)) → RepPs (T := T) γ w (refs ids) (bs.map fun b => Value.pointer (some ⟨b, 0, none⟩))
  | [], [], _ => by simp only [refs, List.map_nil, RepPs]
  | id :: ids, b :: bs, h => by
    simp only [List.map_cons, List.cons.injEq] at h
    simp only [refs, List.map_cons, RepPs, RepP, RepC]
    exact ⟨⟨b, h.1, rfl⟩, refs_rep h.2⟩
  | [], _ :: _, h => by simp at h
  | _ :: _, [], h => by simp at h

theorem RepPs.append {γ : Gh} {w : World} : ∀ {ps qs : List (PV T)} {vs us : List Value}, RepPs γ w ps vs → RepPs γ w qs us → RepPs γ w (ps ++ qs) (vs ++ us)
  | [], _, [], _, _, k => k
  | _ :: _, _, _ :: _, _, h, k => by
    simp only [RepPs] at h
    simp only [List.cons_append, RepPs]
    exact ⟨h.1, RepPs.append h.2 k⟩
  | [], _, _ :: _, _, h, _ => by simp only [RepPs] at h
  | _ :: _, _, [], _, h, _ => by simp only [RepPs] at h

theorem callRun_dyn {f : Operand} {F : Opd T} {g : FuncId} {ids : List Nat} {args : Array Operand} {ts : Array TypeId} {xs : List (Opd T)} {ps : List (PV T)} (ho : o.op = .call { callee := .value f, args := args, argTypes := ts }) (hF : cOpd f = some F) (hx : cOpds args.toList = some xs)
    (h : Rd σ F (.one (.fn g ids))) (h2 : Rds σ xs ps) : CallRun C o σ (F.slots ++ Opd.all xs) g (ps ++ refs ids) := by
  intro σ' g1 γ a w hs
  have e1 := Rd.rep hs hF (fun j hj => g1 j (left hj)) h
  have e2 := Rds.rep hs hx (fun j hj => g1 j (right hj)) h2
  simp only [RepP, RepC] at e1
  obtain ⟨bs, k1, k2⟩ := e1
  refine ⟨args.toList.map a.eval ++ bs.map fun b => Value.pointer (some ⟨b, 0, none⟩), ?_, e2.append (refs_rep k1)⟩
  have e : (args.toList.map a.eval ++ bs.map fun b => Value.pointer (some ⟨b, 0, none⟩)).toArray = args.map a.eval ++ (bs.map fun b => Value.pointer (some ⟨b, 0, none⟩)).toArray := by apply Array.ext'; simp
  rw [e]
  simp [execOp, ho, resolve, invoke, Deferred.ofValue, k2]

theorem heapAt_mem : ∀ {nms : List Nat} {l : Loc} {f : Fact T}, (l, f) ∈ heapAt σ nms → ∃ nm, l = .h nm ∧ look σ (.h nm) = some f
  | [], _, _, h => by simp [heapAt] at h
  | nm :: r, l, f, h => by
    simp only [heapAt] at h
    split at h
    · rename_i g hg
      rcases List.mem_cons.1 h with h | h
      · cases h; exact ⟨nm, rfl, hg⟩
      · exact heapAt_mem h
    · exact heapAt_mem h

theorem kv_call {f : FuncId} {args : List (PV T)} {H H' : St T} {n lim : Nat} {r : PV T} {sl : List Nat} (hf : FnOK C.P f) (hlim : lim ≤ C.E.lim) (hbase : C.E.base ≤ n) (hc : CallOK C.P f args H n lim r H')
    (hH : ∀ l g, (l, g) ∈ H → ∃ nm, l = .h nm ∧ look σ (.h nm) = some g) (hHn : ∀ nm f, (Loc.h nm, f) ∈ H → nm < n ∨ lim ≤ nm)
    (hH' : ∀ l g, (l, g) ∈ H' → ∃ nm, l = .h nm ∧ ((∃ g', (l, g') ∈ H) ∨ (n ≤ nm ∧ nm < lim))) (hrun : CallRun C o σ sl f args) :
    KValid C o σ sl r (H.map (·.1)) ((H.map fun x => (x.1, none)) ++ H'.map fun x => (x.1, some x.2)) n lim := by
  intro σ' g1 g2 γ a w hi hs hfr Q
  obtain ⟨vs, hr, hrep⟩ := hrun σ' g1 γ a w hs
  unfold Oper.wp
  rw [hr, run_callFunc hf, Oper.upon_enter]
  have hlk : ∀ nm g, (Loc.h nm, g) ∈ H → look σ' (.h nm) = some g := fun nm g hm => by
    obtain ⟨nm', e, h1⟩ := hH _ _ hm
    cases e
    exact (g2 _ (List.mem_map.2 ⟨_, hm, rfl⟩)).trans h1
  have hHs : HSat γ w H := fun l g hm => by
    obtain ⟨nm, rfl, _⟩ := hH l g hm
    exact ⟨(hs.facts _ g (hlk nm g hm)).mem (by simp), by simp⟩
  have hE : EntryOK ⟨γ, w, n, lim, fun nm => ∃ g, (Loc.h nm, g) ∈ H⟩ := ⟨fun nm hl => hfr nm hl.1 hl.2, hi.ok⟩
  refine (hc γ w vs hE hHs hrep hHn).mono ?_
  rintro e w' ⟨γ', v, rfl, k1, k2, k3⟩
  have ev : Evo (fun nm => ∃ g, (Loc.h nm, g) ∈ H) γ w γ' w' := { k1.evo with
    os := k1.os, tape := k1.tape, output := k1.output
    same := fun b hb hx => k1.same b hb hx
    bt := fun nm v hv => by
      rcases Classical.em (n ≤ nm ∧ nm < lim) with h | h
      · rw [(hfr nm h.1 h.2).1] at hv; cases hv
      · exact k1.bt nm v h hv }
  refine ⟨γ', v, _, rfl, fun _ _ => k3, ev, fun nm ⟨g, hg⟩ => ⟨hs.perm nm g (hlk nm g hg), ?_⟩, fun l g hm => ?_, fun nm hn => ?_, fun b nm hb => ?_, k1.ok, fun nm hnm hl => ⟨?_, fun b hb => ?_⟩⟩
  · simp only [locs, List.map_append, List.mem_append, List.mem_map]
    exact .inl ⟨(.h nm, none), ⟨_, hg, rfl⟩, rfl⟩
  · simp only [List.mem_append, List.mem_map, Prod.mk.injEq, reduceCtorEq, and_false, exists_false, false_or] at hm
    obtain ⟨⟨l', g'⟩, hm', rfl, hg⟩ := hm
    cases hg
    obtain ⟨nm, rfl, h4⟩ := hH' l' g' hm'
    refine ⟨nm, rfl, ?_, fun tm => (k2 _ _ hm').1.mem (by simp)⟩
    rcases h4 with ⟨g2', h4⟩ | h4
    · exact hs.perm nm g2' (hlk nm g2' h4)
    · exact .inr ⟨by omega, by omega⟩
  · have hnl : ¬ (n ≤ nm ∧ nm < lim) := fun h => hn ⟨by omega, by omega⟩
    cases hb : γ.bt nm with
    | none => exact k1.out nm hnl hb
    | some v => exact k1.bt nm v hnl hb
  · rcases k1.new b nm hb with h | ⟨_, h⟩
    · exact .inl ⟨by have := h.1; simp only at this; omega, by have := h.2; simp only at this; omega⟩
    · exact .inr h
  · have hnl : ¬ (n ≤ nm ∧ nm < lim) := by omega
    cases hb : γ.bt nm with
    | none => exact k1.out nm hnl hb
    | some v => exact k1.bt nm v hnl hb
  · rcases k1.new b nm hb with h | ⟨_, h⟩
    · exact absurd h (by simp only [Entry.loc]; omega)
    · exact h
end
end Go.G
