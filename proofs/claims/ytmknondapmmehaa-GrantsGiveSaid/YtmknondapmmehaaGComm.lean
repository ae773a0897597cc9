import Derived.Test.YtmknondapmmehaaGInv
set_option linter.unusedVariables false
set_option linter.unusedSimpArgs false
namespace Go.G
variable {T : Uni}

structure Inst (T : Uni) where
  rds : List Loc
  wrs : Wr T
  lo : Nat
  hi : Nat

structure Ctx where
  P : Program
  E : Entry
  N : Nat
  ok : EntryOK E

/-- What contexts have in common, wherever the frame began. -/
structure Cls where
  P : Program
  N : Nat
  base : Nat
  lim : Nat
  X : Nat → Prop

abbrev Cls.entry (S : Cls) (γ0 : Gh) (w0 : World) : Entry := ⟨γ0, w0, S.base, S.lim, S.X⟩
abbrev Cls.ctx (S : Cls) (γ0 : Gh) (w0 : World) (ok : EntryOK (S.entry γ0 w0)) : Ctx := ⟨S.P, S.entry γ0 w0, S.N, ok⟩

/-- Of these names nothing has become anything else. -/
def Kept (E : Entry) (S : Nat → Prop) (γ γ' : Gh) : Prop := ∀ nm, S nm → E.loc nm → γ'.bt nm = γ.bt nm ∧ ∀ b, γ'.own b = some nm → γ.own b = some nm

theorem Kept.refl (E : Entry) (S : Nat → Prop) (γ : Gh) : Kept E S γ γ := fun _ _ _ => ⟨rfl, fun _ h => h⟩
theorem Kept.trans {E : Entry} {S : Nat → Prop} {a b c : Gh} (h : Kept E S a b) (k : Kept E S b c) : Kept E S a c :=
  fun nm hs hl => ⟨((k nm hs hl).1).trans (h nm hs hl).1, fun bb hb => (h nm hs hl).2 bb ((k nm hs hl).2 bb hb)⟩
theorem Kept.mono {E : Entry} {S S' : Nat → Prop} {a b : Gh} (h : Kept E S a b) (hs : ∀ nm, S' nm → S nm) : Kept E S' a b := fun nm hh hl => h nm (hs nm hh) hl

theorem Fresh.kept {E : Entry} {S : Nat → Prop} {lo hi : Nat} {γ γ' : Gh} (h : Fresh lo hi γ) (k : Kept E S γ γ') (hl : ∀ nm, lo ≤ nm → nm < hi → S nm ∧ E.loc nm) : Fresh lo hi γ' :=
  fun nm h1 h2 => ⟨((k nm (hl nm h1 h2).1 (hl nm h1 h2).2).1).trans (h nm h1 h2).1, fun b hb => (h nm h1 h2).2 b ((k nm (hl nm h1 h2).1 (hl nm h1 h2).2).2 b hb)⟩

def StepPost (C : Ctx) (σ : St T) (I : Inst T) (γ : Gh) (a' : Act) (w' : World) : Prop :=
  ∃ γ', Inv C.E γ' w' ∧ Sat C.E C.N γ' w' a' (upd σ I.wrs) ∧ Kept C.E (fun nm => nm < I.lo ∨ I.hi ≤ nm) γ γ'

def Valid (C : Ctx) (ops : Array Oper) (o : Oper) (σ : St T) (I : Inst T) : Prop :=
  ∀ σ', (∀ l ∈ I.rds, look σ' l = look σ l) → ∀ γ a w, Inv C.E γ w → Sat C.E C.N γ w a σ' → Fresh I.lo I.hi γ →
    if Region.wanted o (yielded ops a.tmps) = true then ∀ Q, o.wp C.P a w (StepPost C σ' I γ) Q
    else StepPost C σ' I γ (a.put o.dst undef) w

abbrev Rem (T : Uni) := List (Nat × Oper × Inst T)

def RunV (C : Ctx) (ops : Array Oper) : Rem T → St T → Prop
  | [], _ => True
  | x :: r, σ => Valid C ops x.2.1 σ x.2.2 ∧ RunV C ops r (upd σ x.2.2.wrs)

def fin : Rem T → St T → St T
  | [], σ => σ
  | x :: r, σ => fin r (upd σ x.2.2.wrs)

def Inst.free (i j : Inst T) : Prop :=
  (∀ l ∈ locs i.wrs, l ∉ j.rds ∧ l ∉ locs j.wrs) ∧ (∀ l ∈ locs j.wrs, l ∉ i.rds)

section
variable {C : Ctx} {ops : Array Oper}

theorem upd_congr {σ σ' : St T} (h : ∀ l, look σ l = look σ' l) (wrs : Wr T) (l : Loc) : look (upd σ wrs) l = look (upd σ' wrs) l := by
  rw [look_upd, look_upd, h]

theorem fin_congr : ∀ (r : Rem T) {σ σ' : St T}, (∀ l, look σ l = look σ' l) → ∀ l, look (fin r σ) l = look (fin r σ') l
  | [], _, _, h => h
  | x :: r, _, _, h => fin_congr r (upd_congr h x.2.2.wrs)

theorem Valid.of_rds {o : Oper} {σ σ' : St T} {I : Inst T} (h : Valid C ops o σ I) (hl : ∀ l ∈ I.rds, look σ' l = look σ l) : Valid C ops o σ' I :=
  fun σ'' h'' => h σ'' (fun l hm => (h'' l hm).trans (hl l hm))

theorem RunV.congr : ∀ (r : Rem T) {σ σ' : St T}, (∀ l, look σ l = look σ' l) → RunV C ops r σ → RunV C ops r σ'
  | [], _, _, _, _ => trivial
  | x :: r, _, _, h, hv => ⟨hv.1.of_rds fun l _ => (h l).symm, RunV.congr r (upd_congr h x.2.2.wrs) hv.2⟩

theorem look_upd_not {σ : St T} {wrs : Wr T} {l : Loc} (h : l ∉ locs wrs) : look (upd σ wrs) l = look σ l := by
  rw [look_upd, wl_not _ _ _ h]

theorem upd_comm {σ : St T} {a b : Wr T} (h : ∀ l ∈ locs a, l ∉ locs b) (l : Loc) : look (upd (upd σ a) b) l = look (upd (upd σ b) a) l := by
  rw [look_upd, look_upd, look_upd, look_upd]
  by_cases ha : l ∈ locs a
  · rw [wl_not b _ _ (h l ha), wl_not b _ _ (h l ha)]
  · rw [wl_not a _ _ ha, wl_not a _ _ ha]

theorem pull (x : Nat × Oper × Inst T) (l2 : Rem T) : ∀ (l1 : Rem T) (σ : St T), RunV C ops (l1 ++ x :: l2) σ → (∀ y ∈ l1, y.2.2.free x.2.2) →
    Valid C ops x.2.1 σ x.2.2 ∧ RunV C ops (l1 ++ l2) (upd σ x.2.2.wrs) ∧ ∀ l, look (fin (l1 ++ l2) (upd σ x.2.2.wrs)) l = look (fin (l1 ++ x :: l2) σ) l
  | [], σ, h, _ => ⟨h.1, h.2, fun _ => rfl⟩
  | y :: l1, σ, h, hf => by
    obtain ⟨hy, h⟩ := h
    obtain ⟨h1, h2, h3⟩ := pull x l2 l1 _ h (fun z hz => hf z (by simp [hz]))
    obtain ⟨f1, f2⟩ := hf y (by simp)
    have comm : ∀ l, look (upd (upd σ y.2.2.wrs) x.2.2.wrs) l = look (upd (upd σ x.2.2.wrs) y.2.2.wrs) l := upd_comm fun l hl => (f1 l hl).2
    refine ⟨h1.of_rds fun l hl => (look_upd_not fun hm => (f1 l hm).1 hl).symm, ⟨hy.of_rds fun l hl => look_upd_not fun hm => f2 l hm hl, RunV.congr _ comm h2⟩, fun l => ?_⟩
    exact (fin_congr (l1 ++ l2) comm l).symm.trans (h3 l)

/-- x comes up before y. -/
inductive Anc (ops : Array Oper) : Nat → Nat → Prop
  | edge {x y : Nat} {oj : Oper} : ops[y]? = some oj → (∃ e ∈ oj.after, Region.binds .any e = true ∧ e.on = x) → Anc ops x y
  | trans {x y z : Nat} : Anc ops x y → Anc ops y z → Anc ops x z

theorem anc_listed {ops : Array Oper} {listed : Array Bool} (hcl : ∀ y oj, ops[y]? = some oj → listed.getD y false = true → ∀ e ∈ oj.after, Region.binds .any e = true → listed.getD e.on false = true) {x y : Nat} (h : Anc ops x y) :
    (listed.getD y false = true ∨ ∃ oj, ops[y]? = some oj ∧ ∀ e ∈ oj.after, Region.binds .any e = true → listed.getD e.on false = true) → listed.getD x false = true := by
  induction h with
  | edge ho he =>
    intro hy
    obtain ⟨e, he, hb, rfl⟩ := he
    rcases hy with hy | ⟨oj, hj, hd⟩
    · exact hcl _ _ ho hy e he hb
    · rw [ho] at hj
      cases hj
      exact hd e he hb
  | trans _ _ ih1 ih2 => exact fun hy => ih1 (.inl (ih2 hy))

/-- The pairs of a region: whichever two of them can come up in either order do not meet. -/
def Apart (ops : Array Oper) (r : Rem T) : Prop :=
  r.Pairwise fun x y => x.1 < y.1 ∧ (Anc ops x.1 y.1 ∨ x.2.2.free y.2.2)

/-- Their names follow one another. -/
def Rising (r : Rem T) : Prop := r.Pairwise fun x y => x.2.2.hi ≤ y.2.2.lo

def Inside (E : Entry) (r : Rem T) : Prop := ∀ x ∈ r, ∀ nm, x.2.2.lo ≤ nm → nm < x.2.2.hi → E.loc nm

def Beyond (r : Rem T) (nm : Nat) : Prop := ∀ x ∈ r, nm < x.2.2.lo ∨ x.2.2.hi ≤ nm

theorem wpAny_run {Q : Exit → Act → World → Prop} (hedge : ∀ i o, ops[i]? = some o → ∀ e ∈ o.after, Region.binds .any e = true → e.on < i) :
    ∀ (fuel : Nat) (rem : Rem T) (listed : Array Bool) (σ : St T) (γ : Gh) (a : Act) (w : World), rem.length = fuel → listed.size = ops.size →
      (∀ y oj, ops[y]? = some oj → listed.getD y false = true → ∀ e ∈ oj.after, Region.binds .any e = true → listed.getD e.on false = true) →
      (∀ x ∈ rem, ops[x.1]? = some x.2.1 ∧ listed.getD x.1 true = false) → (∀ i, listed.getD i true = false → ∃ x ∈ rem, x.1 = i) →
      Apart ops rem → RunV C ops rem σ → (rem.Pairwise fun x y => x.2.2.hi ≤ y.2.2.lo ∨ y.2.2.hi ≤ x.2.2.lo) → Inside C.E rem → (∀ x ∈ rem, Fresh x.2.2.lo x.2.2.hi γ) →
      Inv C.E γ w → Sat C.E C.N γ w a σ →
      (∀ a' w' γ', Inv C.E γ' w' → Sat C.E C.N γ' w' a' (fin rem σ) → Kept C.E (Beyond rem) γ γ' → Q .normal a' w') →
      wpAny C.P .any ops Q fuel listed a w := by
  intro fuel
  induction fuel with
  | zero =>
    intro rem listed σ γ a w hlen hsz hcl hrem hall hap hrun hris hins hfr hinv hsat hQ
    have h0 : rem = [] := List.length_eq_zero_iff.1 hlen
    subst h0
    refine ⟨?_, hQ a w γ hinv hsat (.refl _ _ _)⟩
    refine List.eq_nil_iff_forall_not_mem.2 fun i hi => ?_
    obtain ⟨h1, _⟩ := mem_ready.1 hi
    obtain ⟨x, hx, _⟩ := hall i h1
    cases hx
  | succ fuel ih =>
    intro rem listed σ γ a w hlen hsz hcl hrem hall hap hrun hris hins hfr hinv hsat hQ
    refine ⟨fun h0 => ?_, fun i hi => ?_⟩
    · exfalso
      match rem, hlen with
      | x :: r, _ =>
        obtain ⟨hxo, hxl⟩ := hrem x (by simp)
        have : x.1 ∈ Region.ready .any ops listed := by
          refine mem_ready.2 ⟨hxl, x.2.1, hxo, fun e he hb => ?_⟩
          have hlt := hedge _ _ hxo e he hb
          have hxs : x.1 < listed.size := by rw [hsz]; exact (Array.getElem?_eq_some_iff.1 hxo).1
          have hes : e.on < listed.size := by omega
          cases hl : listed.getD e.on false with
          | true => rfl
          | false =>
            have hl' : listed.getD e.on true = false := by simp [hes] at hl ⊢; exact hl
            obtain ⟨y, hy, hye⟩ := hall _ hl'
            rcases List.mem_cons.1 hy with rfl | hy
            · omega
            · have := ((List.pairwise_cons.1 hap).1 y hy).1
              omega
        rw [h0] at this
        cases this
    · obtain ⟨hun, oi, hoi, hdeps⟩ := mem_ready.1 hi
      obtain ⟨x, hx, hxi⟩ := hall i hun
      subst hxi
      obtain ⟨l1, l2, rfl⟩ := List.append_of_mem hx
      have hfree : ∀ y ∈ l1, y.2.2.free x.2.2 := by
        intro y hy
        have h1 := (List.pairwise_append.1 hap).2.2 y hy x (by simp)
        rcases h1.2 with hanc | h1
        · exfalso
          have h2 := anc_listed hcl hanc (.inr ⟨oi, hoi, hdeps⟩)
          have h3 := (hrem y (by simp [hy])).2
          rcases Nat.lt_or_ge y.1 listed.size with h' | h'
          · simp [h'] at h2 h3; rw [h2] at h3; cases h3
          · simp [Array.getElem?_eq_none h'] at h3
        · exact h1
      obtain ⟨hv, hrun', hfin⟩ := pull x l2 l1 σ hrun hfree
      have hsub : List.Sublist (l1 ++ l2) (l1 ++ x :: l2) := List.Sublist.append (List.Sublist.refl _) (List.sublist_cons_self _ _)
      have hap' : Apart ops (l1 ++ l2) := List.Pairwise.sublist hsub hap
      have hris' := List.Pairwise.sublist hsub hris
      have hxo := (hrem x (by simp)).1
      have hsorted : ∀ y ∈ l1 ++ l2, y.1 ≠ x.1 := by
        intro y hy
        rcases List.mem_append.1 hy with hy | hy
        · exact Nat.ne_of_lt ((List.pairwise_append.1 hap).2.2 y hy x (by simp)).1
        · exact Nat.ne_of_gt ((List.pairwise_cons.1 (List.pairwise_append.1 hap).2.1).1 y hy).1
      have hdis : ∀ y ∈ l1 ++ l2, x.2.2.hi ≤ y.2.2.lo ∨ y.2.2.hi ≤ x.2.2.lo := by
        intro y hy
        rcases List.mem_append.1 hy with hy | hy
        · exact ((List.pairwise_append.1 hris).2.2 y hy x (by simp)).symm
        · exact (List.pairwise_cons.1 (List.pairwise_append.1 hris).2.1).1 y hy
      have next : ∀ a' w', StepPost C σ x.2.2 γ a' w' → wpAny C.P .any ops Q fuel (listed.setIfInBounds x.1 true) a' w' := by
        rintro a' w' ⟨γ', hinv', hsat', hkept⟩
        refine ih (l1 ++ l2) _ _ γ' a' w' (by simp at hlen ⊢; omega) (by simp [hsz]) (fun y oj hoj hly e he hb => ?_) (fun y hy => ?_) (fun j hj => ?_) hap' hrun' hris' (fun y hy => hins y (hsub.subset hy)) (fun y hy => ?_) hinv' hsat' (fun a'' w'' γ'' i1 s1 k1 => hQ a'' w'' γ'' i1 (s1.congr fun l => (hfin l).symm) ?_)
        · have up : ∀ k, listed.getD k false = true → (listed.setIfInBounds x.1 true).getD k false = true := by
            intro k hk
            by_cases hkx : x.1 = k
            · subst hkx
              have hxs : x.1 < listed.size := by rw [hsz]; exact (Array.getElem?_eq_some_iff.1 hxo).1
              simp [hxs]
            · rw [getD_set_ne false hkx]; exact hk
          by_cases hyx : x.1 = y
          · subst hyx
            rw [hoi] at hoj
            cases hoj
            exact up _ (hdeps e he hb)
          · rw [getD_set_ne false hyx] at hly
            exact up _ (hcl y oj hoj hly e he hb)
        · obtain ⟨h1, h2⟩ := hrem y (hsub.subset hy)
          exact ⟨h1, by rw [getD_set_ne true (Ne.symm (hsorted y hy))]; exact h2⟩
        · by_cases hjx : x.1 = j
          · subst hjx
            exfalso
            have hxs : x.1 < listed.size := by rw [hsz]; exact (Array.getElem?_eq_some_iff.1 hxo).1
            simp [hxs] at hj
          · rw [getD_set_ne true hjx] at hj
            obtain ⟨y, hy, hyj⟩ := hall j hj
            refine ⟨y, ?_, hyj⟩
            rcases List.mem_append.1 hy with h | h
            · simp [h]
            · rcases List.mem_cons.1 h with rfl | h
              · exact absurd hyj hjx
              · simp [h]
        · refine (hfr y (hsub.subset hy)).kept hkept fun nm h1 h2 => ⟨?_, hins y (hsub.subset hy) nm h1 h2⟩
          rcases hdis y hy with h | h <;> omega
        · exact (hkept.mono fun nm hb => hb x (by simp)).trans (k1.mono fun nm hb y hy => hb y (hsub.subset hy))
      have hval := hv σ (fun _ _ => rfl) γ a w hinv hsat (hfr x (by simp))
      unfold wpOp
      simp only [hxo]
      by_cases hw : Region.wanted x.2.1 (yielded ops a.tmps) = true
      · rw [if_pos hw] at hval ⊢
        exact .inl (Oper.wp_mono next (hval Q))
      · rw [if_neg hw] at hval ⊢
        exact next _ _ hval

/-- In the order of the text. -/
theorem wpOps_run {Q : Exit → Act → World → Prop} : ∀ (rem : Rem T) (σ : St T) (γ : Gh) (a : Act) (w : World), (∀ x ∈ rem, ops[x.1]? = some x.2.1) →
      RunV C ops rem σ → Rising rem → Inside C.E rem → (∀ x ∈ rem, Fresh x.2.2.lo x.2.2.hi γ) → Inv C.E γ w → Sat C.E C.N γ w a σ →
      (∀ a' w' γ', Inv C.E γ' w' → Sat C.E C.N γ' w' a' (fin rem σ) → Kept C.E (Beyond rem) γ γ' → Q .normal a' w') →
      wpOps C.P ops Q (rem.map (·.1)) a w
  | [], σ, γ, a, w, _, _, _, _, _, hinv, hsat, hQ => hQ a w γ hinv hsat (.refl _ _ _)
  | x :: r, σ, γ, a, w, hrem, hrun, hris, hins, hfr, hinv, hsat, hQ => by
    have hxo := hrem x (by simp)
    have next : ∀ a' w', StepPost C σ x.2.2 γ a' w' → wpOps C.P ops Q (r.map (·.1)) a' w' := by
      rintro a' w' ⟨γ', hinv', hsat', hkept⟩
      refine wpOps_run r _ γ' a' w' (fun y hy => hrem y (by simp [hy])) hrun.2 (List.pairwise_cons.1 hris).2 (fun y hy => hins y (by simp [hy])) (fun y hy => ?_) hinv' hsat' (fun a'' w'' γ'' i1 s1 k1 => hQ a'' w'' γ'' i1 s1 ?_)
      · refine (hfr y (by simp [hy])).kept hkept fun nm h1 h2 => ⟨?_, hins y (by simp [hy]) nm h1 h2⟩
        have := (List.pairwise_cons.1 hris).1 y hy
        omega
      · exact (hkept.mono fun nm hb => hb x (by simp)).trans (k1.mono fun nm hb y hy => hb y (by simp [hy]))
    have hval := hrun.1 σ (fun _ _ => rfl) γ a w hinv hsat (hfr x (by simp))
    rw [List.map_cons, wpOps_cons]
    unfold wpOp
    simp only [hxo]
    by_cases hw : Region.wanted x.2.1 (yielded ops a.tmps) = true
    · rw [if_pos hw] at hval ⊢
      exact .inl (Oper.wp_mono next (hval Q))
    · rw [if_neg hw] at hval ⊢
      exact next _ _ hval
end
end Go.G
