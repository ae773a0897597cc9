import Derived.Test.YtmknondapmmehaaGReg
set_option linter.unusedVariables false
set_option linter.unusedSimpArgs false
namespace Go.G
variable {T : Uni}
section
variable {C : Ctx} {σ : St T} {ops : Array Oper}

/-- An operation that has come up: its number, its own form, what it read and wrote in memory, the instance. -/
structure Came (T : Uni) where
  i : Nat
  p : POp T
  r : List Loc
  w : List Loc
  I : Inst T

structure Came.OK (x : Came T) : Prop where
  rds : x.I.rds = x.p.slots.map .s ++ x.r
  wrs : locs x.I.wrs = (x.p.dst.toList.map .s) ++ x.w
  rm : x.r.all memL = true
  wm : x.w.all memL = true

theorem mem_not_slot {l : List Loc} (h : l.all memL = true) (i : Nat) : Loc.s i ∉ l := fun hm => by
  have := List.all_eq_true.1 h _ hm
  simp [memL] at this

theorem mem_slots {l : Loc} {ss : List Nat} (h : l ∈ ss.map Loc.s) : ∃ i ∈ ss, l = .s i := by
  obtain ⟨i, hi, rfl⟩ := List.mem_map.1 h
  exact ⟨i, hi, rfl⟩

def disj (a b : List Loc) : Prop := ∀ l ∈ a, l ∉ b

theorem disjB_spec {a b : List Loc} (h : disjB a b = true) : disj a b := by
  intro l hl hm
  have h1 := List.all_eq_true.1 (List.all_eq_true.1 h l hl) l hm
  rw [Loc.eqb_self] at h1
  cases h1

theorem Came.free {x y : Came T} (hx : x.OK) (hy : y.OK) (hs : slotFree x.p y.p = true) (h1 : disj x.w y.r) (h2 : disj x.w y.w) (h3 : disj y.w x.r) : x.I.free y.I := by
  simp only [slotFree, Bool.and_eq_true] at hs
  obtain ⟨s1, s2⟩ := hs
  refine ⟨fun l hl => ?_, fun l hl hm => ?_⟩
  · rw [hx.wrs, List.mem_append] at hl
    rw [hy.rds, hy.wrs, List.mem_append, List.mem_append]
    rcases hl with hl | hl
    · obtain ⟨d, hd, rfl⟩ := mem_slots hl
      cases hp : x.p.dst with
      | none => rw [hp] at hd; simp at hd
      | some d' =>
        rw [hp] at hd s1
        simp only [Option.toList_some, List.mem_singleton] at hd
        subst hd
        simp only [Bool.and_eq_true, Bool.not_eq_true', bne_iff_ne, ne_eq] at s1
        obtain ⟨s1, s1'⟩ := s1
        refine ⟨fun h => ?_, fun h => ?_⟩
        · rcases h with h | h
          · obtain ⟨i, hi, he⟩ := mem_slots h
            cases he
            have : y.p.slots.contains d = true := by simpa using hi
            rw [s1] at this
            cases this
          · exact mem_not_slot hy.rm _ h
        · rcases h with h | h
          · obtain ⟨i, hi, he⟩ := mem_slots h
            cases he
            cases hq : y.p.dst with
            | none => rw [hq] at hi; simp at hi
            | some e => rw [hq] at hi s1'; simp at hi; subst hi; exact s1' rfl
          · exact mem_not_slot hy.wm _ h
    · refine ⟨fun h => ?_, fun h => ?_⟩
      · rcases h with h | h
        · obtain ⟨i, _, rfl⟩ := mem_slots h
          exact mem_not_slot hx.wm _ hl
        · exact h1 l hl h
      · rcases h with h | h
        · obtain ⟨i, _, rfl⟩ := mem_slots h
          exact mem_not_slot hx.wm _ hl
        · exact h2 l hl h
  · rw [hy.wrs, List.mem_append] at hl
    rw [hx.rds, List.mem_append] at hm
    rcases hl with hl | hl
    · obtain ⟨d, hd, rfl⟩ := mem_slots hl
      cases hp : y.p.dst with
      | none => rw [hp] at hd; simp at hd
      | some d' =>
        rw [hp] at hd s2
        simp only [Option.toList_some, List.mem_singleton] at hd
        subst hd
        simp only [Bool.not_eq_true'] at s2
        rcases hm with h | h
        · obtain ⟨i, hi, he⟩ := mem_slots h
          cases he
          have : x.p.slots.contains d = true := by simpa using hi
          rw [s2] at this
          cases this
        · exact mem_not_slot hx.rm _ h
    · rcases hm with h | h
      · obtain ⟨i, _, rfl⟩ := mem_slots h
        exact mem_not_slot hy.wm _ hl
      · exact h3 l hl h

theorem slotsChk_spec {dep : List Nat} {q : POp T} : ∀ {ps : List (POp T)} {i k : Nat} {p : POp T}, slotsChk i dep q ps = true → ps[k]? = some p → dep.contains (i + k) = true ∨ slotFree p q = true
  | [], _, _, _, _, h => by simp at h
  | p0 :: ps, i, 0, p, h, hk => by
    simp only [slotsChk, Bool.and_eq_true, Bool.or_eq_true] at h
    simp at hk
    subst hk
    exact h.1
  | p0 :: ps, i, k + 1, p, h, hk => by
    simp only [slotsChk, Bool.and_eq_true] at h
    have := slotsChk_spec (i := i + 1) (k := k) h.2 (by simpa using hk)
    rw [show i + 1 + k = i + (k + 1) by omega] at this
    exact this

theorem any_beq {l : List Nat} {i : Nat} (h : l.any (Nat.beq i) = true) : l.contains i = true := by
  obtain ⟨x, hx, he⟩ := List.any_eq_true.1 h
  have := Nat.eq_of_beq_eq_true he
  subst this
  simpa using hx

theorem mchk_spec {dep : List Nat} {rd wr : List Loc} : ∀ {acc : Acc} {i : Nat} {r w : List Loc}, mchk dep rd wr acc = true → (i, r, w) ∈ acc → dep.contains i = true ∨ (disj w rd ∧ disj w wr ∧ disj wr r)
  | [], _, _, _, _, h => by cases h
  | (i0, r0, w0) :: acc, i, r, w, h, hm => by
    simp only [mchk, Bool.and_eq_true, Bool.or_eq_true] at h
    rcases List.mem_cons.1 hm with hm | hm
    · cases hm
      exact h.1.imp any_beq fun h => ⟨disjB_spec h.1, disjB_spec h.2.1, disjB_spec h.2.2⟩
    · exact mchk_spec h.2 hm

theorem dep_waits {o : Oper} {i : Nat} {ops : Array Oper} {j : Nat} (ho : ops[j]? = some o) (h : ((o.after.toList.filter (Region.binds .any ·)).map (·.on)).contains i = true) : ∃ oj, ops[j]? = some oj ∧ ∃ e ∈ oj.after, Region.binds .any e = true ∧ e.on = i := by
  simp only [List.contains_iff_mem, List.mem_map, List.mem_filter] at h
  obtain ⟨e, ⟨he, hb⟩, hon⟩ := h
  exact ⟨o, ho, e, by simpa using he, hb, hon⟩

theorem draw_run {cu : TypeId → Option T.U} {call : CallH T} {S : Cls} (hcall : CallSound S.P call) {lim : Nat} (hlim : lim ≤ S.lim) {X : Type} {r : X} {K : St T → Nat → Option X} : ∀ (os : List Oper) (ds : List (List Nat)) (ps : List (POp T)) (i n : Nat) (acc : Acc) (σ : St T) (pre : List (Came T)), (∀ j, os[j]? = ops[i + j]?) → (∀ j d, ds[j]? = some d → ∀ k ∈ d, Anc ops k (i + j)) → S.base ≤ n → n ≤ lim → compOps S.P cu S.N ops os = some ps →
    slotsOk (pre.map (·.p)) ps ds = true → pre.map (·.i) = List.range i → (∀ x ∈ pre, x.OK ∧ ((x.r = [] ∧ x.w = []) ∨ (x.i, x.r, x.w) ∈ acc)) → evDraw call lim ps ds i acc σ n K = some r →
    ∃ rem σf n', K σf n' = some r ∧ (∀ l, look σf l = look (fin rem σ) l) ∧ RunOK S ops i os.length rem σ n n' ∧ n' ≤ lim ∧ Apart ops rem ∧
      ∀ x ∈ pre, ∀ y ∈ rem, Anc ops x.i y.1 ∨ x.I.free y.2.2
  | [], ds, ps, i, n, acc, σ, pre, _, _, _, hn, hc, _, _, _, h => by
    simp only [compOps, Option.some.injEq] at hc
    subst hc
    exact ⟨[], σ, n, h, fun _ => rfl, ⟨rfl, by simp, fun _ _ _ => trivial, List.Pairwise.nil, by simp, Nat.le_refl _⟩, hn, List.Pairwise.nil, by simp⟩
  | o :: os, ds, ps, i, n, acc, σ, pre, ho, hds, hb, hn, hc, hs, hi, hpre, h => by
    simp only [compOps] at hc
    split at hc
    · rename_i p ps' h1 h2
      cases hc
      obtain ⟨c1, c2, c3, c4⟩ := compOp_inv h1
      have ho0 : ops[i]? = some o := by simpa using (ho 0).symm
      have ho' : ∀ j, os[j]? = ops[i + 1 + j]? := fun j => by have := ho (j + 1); simpa [Nat.add_assoc, Nat.add_comm 1 j] using this
      have hdsT : ∀ j d, ds.tail[j]? = some d → ∀ k ∈ d, Anc ops k (i + 1 + j) := fun j d hd k hk => by
        have := hds (j + 1) d (by simpa using hd) k hk
        rw [show i + 1 + j = i + (j + 1) by omega]
        exact this
      have hds0 : ∀ k, (ds.headD []).contains k = true → Anc ops k i := fun k hk => by
        cases ds with
        | nil => simp at hk
        | cons d ds => exact hds 0 d rfl k (by simpa using hk)
      simp only [slotsOk, Bool.and_eq_true, evDraw] at hs h
      have key : ∀ (I : Inst T) (mrd mw : List Loc) (acc2 : Acc) (σ2 : St T) (n2 : Nat), (∀ γ0 w0 ok, Valid (S.ctx γ0 w0 ok) ops o σ I) → I.rds = p.slots.map .s ++ mrd → locs I.wrs = (p.dst.toList.map .s) ++ mw → mrd.all memL = true → mw.all memL = true → mchk (ds.headD []) mrd mw acc = true →
          ((mrd = [] ∧ mw = []) ∧ acc2 = acc ∨ acc2 = (i, mrd, mw) :: acc) → (∀ l, look σ2 l = look (upd σ I.wrs) l) → I.lo = n → I.hi = n2 → n ≤ n2 → n2 ≤ lim → evDraw call lim ps' ds.tail (i + 1) acc2 σ2 n2 K = some r →
          ∃ rem σf n', K σf n' = some r ∧ (∀ l, look σf l = look (fin rem σ) l) ∧ RunOK S ops i (o :: os).length rem σ n n' ∧ n' ≤ lim ∧ Apart ops rem ∧
            ∀ x ∈ pre, ∀ y ∈ rem, Anc ops x.i y.1 ∨ x.I.free y.2.2 := by
        intro I mrd mw acc2 σ2 n2 hI hIr hIw m1 m2 m3 hacc h2' e1 e2 hle hle2 hev
        let me : Came T := ⟨i, p, mrd, mw, I⟩
        have hme : me.OK := ⟨hIr, hIw, m1, m2⟩
        have hfirst : ∀ y ∈ pre, Anc ops y.i i ∨ y.I.free me.I := by
          intro y hy
          obtain ⟨hyok, hyacc⟩ := hpre y hy
          obtain ⟨k, hk'⟩ := List.getElem?_of_mem hy
          have hyi : y.i = k := by
            have : (pre.map (·.i))[k]? = (List.range i)[k]? := by rw [hi]
            rw [List.getElem?_map, hk'] at this
            have hlt : k < i := by
              have := (List.getElem?_eq_some_iff.1 this.symm).1
              simpa using this
            simpa [hlt] using this
          have hsl := slotsChk_spec (k := k) hs.1 (by rw [List.getElem?_map, hk']; rfl)
          rw [Nat.zero_add, ← hyi] at hsl
          rcases hsl with hsl | hsl
          · exact .inl (hds0 _ hsl)
          · rcases hyacc with ⟨e1, e2⟩ | hin
            · refine .inr (Came.free hyok hme hsl ?_ ?_ ?_)
              · rw [e2]; intro l hl; cases hl
              · rw [e2]; intro l hl; cases hl
              · rw [e1]; intro l _ hl; cases hl
            · rcases mchk_spec m3 hin with hd | ⟨d1, d2, d3⟩
              · exact .inl (hds0 _ hd)
              · exact .inr (Came.free hyok hme hsl d1 d2 d3)
        obtain ⟨rem, σf, n', k1, k2, k3, k4, k5, k6⟩ := draw_run hcall hlim os ds.tail ps' (i + 1) n2 acc2 σ2 (pre ++ [me]) ho' hdsT (by omega) hle2 h2
          (by simpa [List.map_append] using hs.2) (by simp [List.map_append, hi, List.range_succ, me]) (fun y hy => by
            rcases List.mem_append.1 hy with hy | hy
            · obtain ⟨g1, g2⟩ := hpre y hy
              refine ⟨g1, g2.imp id fun g => ?_⟩
              rcases hacc with ⟨_, rfl⟩ | rfl
              · exact g
              · exact List.mem_cons_of_mem _ g
            · simp only [List.mem_singleton] at hy
              subst hy
              refine ⟨hme, ?_⟩
              rcases hacc with ⟨⟨e1, e2⟩, _⟩ | rfl
              · exact .inl ⟨e1, e2⟩
              · exact .inr List.mem_cons_self) hev
        have hr7 : ∀ y ∈ rem, Anc ops i y.1 ∨ me.I.free y.2.2 := fun y hy => k6 me (by simp) y hy
        have hlt : ∀ y ∈ rem, i < y.1 := fun y hy => by
          have : y.1 ∈ rem.map (·.1) := List.mem_map.2 ⟨y, hy, rfl⟩
          rw [k3.nums] at this
          have := List.mem_range'_1.1 this
          omega
        refine ⟨(i, o, I) :: rem, σf, n', k1, fun l => (k2 l).trans (fin_congr rem h2' l), ⟨by simp [k3.nums, List.range'_succ], fun y hy => ?_, fun γ0 w0 ok => ⟨hI γ0 w0 ok, RunV.congr rem h2' (k3.run γ0 w0 ok)⟩, List.pairwise_cons.2 ⟨fun y hy => ?_, k3.rise⟩, fun y hy => ?_, by have := k3.le; omega⟩, k4,
          List.pairwise_cons.2 ⟨fun y hy => ⟨hlt y hy, hr7 y hy⟩, k5⟩, fun y hy z hz => ?_⟩
        · rcases List.mem_cons.1 hy with rfl | hy
          · exact ho0
          · exact k3.opsOk y hy
        · have := (k3.rng y hy).1; simp only [e2]; omega
        · rcases List.mem_cons.1 hy with rfl | hy
          · simp only [e1, e2]; have := k3.le; omega
          · have := k3.rng y hy; omega
        · rcases List.mem_cons.1 hz with rfl | hz
          · exact hfirst y hy
          · exact k6 y (by simp [hy]) z hz
      have hdl : ∀ (c : Bool) (x : PV T), locs (dw p.dst c x) = p.dst.toList.map .s := fun c x => by cases p.dst <;> rfl
      have mnil : ∀ dep, mchk dep [] [] acc = true := by
        intro dep
        clear hpre h key
        induction acc with
        | nil => rfl
        | cons q acc ih =>
          obtain ⟨q1, q2, q3⟩ := q
          have d1 : ∀ l : List Loc, disjB l [] = true := fun l => by simp [disjB]
          have d2 : ∀ l : List Loc, disjB [] l = true := fun l => rfl
          simp [mchk, d1, d2, ih]
      obtain ⟨σ', hsame, ⟨hA, hG⟩ | ⟨hB, hG⟩⟩ := gdv_inv c2 h
      · rw [c4] at hA
        obtain ⟨x, mrd, mwr, n', hk, hle, hle2, hv, q1, q2⟩ := evKB_sound c1 hcall hlim hb hA
        rw [← c4] at hk
        have hV := fun γ0 w0 ok => valid_run c4 c3 (hG _) ((hv γ0 w0 ok).congr hsame)
        simp only at hk
        split at hk
        · rename_i hm
          have hw : locs (runInst p x mrd mwr n n').wrs = p.dst.toList.map .s ++ locs mwr := by
            simp only [runInst, locs, List.map_append]; congr 1; exact hdl true x
          split at hk
          · refine key (runInst p x [] [] n n') [] [] acc _ n' hV rfl (by simpa [locs] using hw) rfl rfl (mnil _) (.inl ⟨⟨rfl, rfl⟩, rfl⟩) (fun l => ?_) rfl rfl hle (by omega) hk
            simp only [runInst, List.append_nil]
            exact upd_congr hsame _ l
          · exact key (runInst p x mrd mwr n n') mrd (locs mwr) _ _ n' hV rfl hw q1 q2 hm (.inr rfl) (fun l => upd_congr hsame _ l) rfl rfl hle (by omega) hk
        · cases hk
      · exact key (skipInst p n) [] [] acc _ n (fun _ _ _ => valid_skip c4 c3 (hG _)) (by simp [skipInst]) (by simp [skipInst, hdl]) rfl rfl (mnil _) (.inl ⟨⟨rfl, rfl⟩, rfl⟩) (fun l => upd_congr hsame _ l) rfl rfl (Nat.le_refl _) hn hB
    · cases hc

theorem edgesOk_spec : ∀ {ds : List (List Nat)} {i j : Nat} {d : List Nat}, edgesOk i ds = true → ds[j]? = some d → ∀ k ∈ d, k < i + j
  | [], _, _, _, _, h => by simp at h
  | d0 :: ds, i, 0, d, h, hj => by
    simp only [edgesOk, Bool.and_eq_true] at h
    simp at hj
    subst hj
    intro k hk
    have := List.all_eq_true.1 h.1 k hk
    simpa using this
  | d0 :: ds, i, j + 1, d, h, hj => by
    simp only [edgesOk, Bool.and_eq_true] at h
    intro k hk
    have := edgesOk_spec (i := i + 1) (j := j) h.2 (by simpa using hj) k hk
    omega

theorem mem_mergeN : ∀ (a l : List Nat) (x : Nat), x ∈ mergeN a l → x ∈ a ∨ x ∈ l
  | [], l, x, h => .inr h
  | y :: r, l, x, h => by
    unfold mergeN at h
    rcases mem_mergeN r _ x h with h | h
    · exact .inl (by simp [h])
    · split at h
      · exact .inr h
      · rcases List.mem_cons.1 h with rfl | h
        · exact .inl (by simp)
        · exact .inr h

theorem clo_anc {ops : Array Oper} : ∀ (ds acc : List (List Nat)), (∀ j d, acc[j]? = some d → ∀ k ∈ d, Anc ops k j) → (∀ j d, ds[j]? = some d → ∀ k ∈ d, Anc ops k (acc.length + j)) → ∀ j d, (clo acc ds)[j]? = some d → ∀ k ∈ d, Anc ops k j
  | [], acc, h1, _ => h1
  | d0 :: ds, acc, h1, h2 => by
    unfold clo
    refine clo_anc ds _ (fun j d hd k hk => ?_) (fun j d hd k hk => ?_)
    · rcases Nat.lt_or_ge j acc.length with hj | hj
      · rw [List.getElem?_append_left hj] at hd
        exact h1 j d hd k hk
      · rw [List.getElem?_append_right hj] at hd
        have hj0 : j - acc.length = 0 := by
          have := getElem?_lt hd
          simp at this
          omega
        rw [hj0] at hd
        simp only [List.getElem?_cons_zero, Option.some.injEq] at hd
        have hja : j = acc.length := by omega
        subst hd
        subst hja
        rcases mem_mergeN _ _ _ hk with hk | hk
        · obtain ⟨y, hy, hky⟩ := List.mem_flatMap.1 hk
          have hy' := h2 0 d0 rfl y hy
          rw [Nat.add_zero] at hy'
          refine .trans ?_ hy'
          rw [List.getD_eq_getElem?_getD] at hky
          cases hq : acc[y]? with
          | none => rw [hq] at hky; simp at hky
          | some q => rw [hq] at hky; exact h1 y q hq k hky
        · rcases mem_mergeN _ _ _ hk with hk | hk
          · have := h2 0 d0 rfl k hk
            rwa [Nat.add_zero] at this
          · cases hk
    · have := h2 (j + 1) d (by simpa using hd) k hk
      rw [List.length_append]
      simp only [List.length_cons, List.length_nil]
      rw [show acc.length + (0 + 1) + j = acc.length + (j + 1) by omega]
      exact this

theorem depsC_anc (ops : Array Oper) : ∀ j d, (depsC ops.toList)[j]? = some d → ∀ k ∈ d, Anc ops k (0 + j) := by
  intro j d hd k hk
  rw [Nat.zero_add]
  refine clo_anc (depsOf ops.toList) [] (fun j d hd => by simp at hd) (fun j d hd k hk => ?_) j d hd k hk
  simp only [List.length_nil, Nat.zero_add]
  simp only [depsOf, List.getElem?_map] at hd
  cases ho : ops.toList[j]? with
  | none => rw [ho] at hd; simp at hd
  | some o =>
    rw [ho] at hd
    simp only [Option.map_some, Option.some.injEq] at hd
    subst hd
    obtain ⟨e, he, rfl⟩ := List.mem_map.1 hk
    obtain ⟨he, hb⟩ := List.mem_filter.1 he
    exact .edge (by simpa using ho) ⟨e, by simpa using he, hb, rfl⟩

/-- A region: from the state and the next name to that state and that next name. -/
theorem w_region {cu : TypeId → Option T.U} {call : CallH T} {S : Cls} (hcall : CallSound S.P call) {lim : Nat} (hlim : lim = S.lim) {X : Type} {r : X} {K : St T → Nat → Option X} {id n : Nat} {draw : Bool} {ps : List (POp T)} {deps : List (List Nat)} (hb : S.base ≤ n) (hn : n ≤ lim)
    (hc : compReg S.P cu S.N ops draw = some (ps, deps)) (h : (match draw with | true => evDraw call lim ps deps 0 [] σ n K | false => evSeq call lim ps σ n K) = some r) :
    ∃ σf n', K σf n' = some r ∧ n ≤ n' ∧ n' ≤ lim ∧ ∀ γ0 w0, EntryOK (S.entry γ0 w0) → ∀ γ a w, Inv (S.entry γ0 w0) γ w → Fresh n S.lim γ → Sat (S.entry γ0 w0) S.N γ w a σ →
      (Code.region id ops draw).wp S.P (fun e a' w' => e = .normal ∧ ∃ γ', Inv (S.entry γ0 w0) γ' w' ∧ Fresh n' S.lim γ' ∧ Sat (S.entry γ0 w0) S.N γ' w' a' σf) a w := by
  have fin' : ∀ {rem : Rem T} {σf : St T} {n' : Nat}, RunOK S ops 0 ops.size rem σ n n' → n' ≤ lim → (∀ l, look σf l = look (fin rem σ) l) → ∀ {γ0 : Gh} {w0 : World} {γ γ' : Gh} {a' : Act} {w' : World}, Fresh n S.lim γ → Inv (S.entry γ0 w0) γ' w' → Sat (S.entry γ0 w0) S.N γ' w' a' (fin rem σ) → Kept (S.entry γ0 w0) (Beyond rem) γ γ' →
      Exit.normal = .normal ∧ ∃ γ', Inv (S.entry γ0 w0) γ' w' ∧ Fresh n' S.lim γ' ∧ Sat (S.entry γ0 w0) S.N γ' w' a' σf := by
    intro rem σf n' hR hle hl γ0 w0 γ γ' a' w' hf i1 s1 k1
    refine ⟨rfl, γ', i1, ?_, s1.congr hl⟩
    refine Fresh.kept (S := Beyond rem) (fun nm h1 h2 => hf nm (by have := hR.le; omega) h2) k1 fun nm h1 h2 => ⟨fun x hx => ?_, by have := hR.le; show S.base ≤ nm; omega, h2⟩
    have := hR.rng x hx
    omega
  have hins : ∀ {rem : Rem T} {n' : Nat}, RunOK S ops 0 ops.size rem σ n n' → n' ≤ lim → ∀ γ0 w0, Inside (S.entry γ0 w0) rem := fun hR hle γ0 w0 x hx nm h1 h2 => by
    have := hR.rng x hx
    exact ⟨by show S.base ≤ nm; omega, by show nm < S.lim; omega⟩
  have hfr : ∀ {rem : Rem T} {n' : Nat} {γ : Gh}, RunOK S ops 0 ops.size rem σ n n' → n' ≤ lim → Fresh n S.lim γ → ∀ x ∈ rem, Fresh x.2.2.lo x.2.2.hi γ := fun hR hle hf x hx nm h1 h2 => by
    have := hR.rng x hx
    exact hf nm (by omega) (by omega)
  have step : ∀ {E : Entry} {γ : Gh} {w : World} (d : Nat), Inv E γ w → Inv E γ { w with drawn := d } := fun d hi =>
    ⟨⟨hi.evo.size, hi.evo.mono, hi.evo.low⟩, hi.os, hi.tape, hi.output, hi.same, hi.bt, hi.out, hi.new, hi.ok⟩
  have evd : ∀ (γ : Gh) (w : World) (d : Nat), Evo (fun _ => False) γ w γ { w with drawn := d } := fun γ w d =>
    ⟨⟨Nat.le_refl w.heap.size, fun _ _ => Nat.le_refl _, fun _ _ _ _ => rfl⟩, rfl, rfl, rfl, fun _ _ _ => ⟨rfl, rfl, rfl⟩, fun _ _ h => h⟩
  have stepS : ∀ {E : Entry} {γ : Gh} {w : World} {a : Act} (d : Nat), Inv E γ w → Sat E S.N γ w a σ → Sat E S.N γ { w with drawn := d } a σ := fun {E γ w a} d _ hs =>
    ⟨hs.size, hs.defers, fun l f hl => (hs.facts l f hl).evo (evd γ w d) (fun _ _ h => h) (fun _ _ => rfl), hs.perm⟩
  unfold compReg at hc
  split at hc
  · rename_i ps' hps
    cases draw with
    | false =>
      simp only [Bool.false_eq_true, if_false, Option.some.injEq, Prod.mk.injEq] at hc h
      obtain ⟨rfl, rfl⟩ := hc
      obtain ⟨rem, σf, n', k1, k2, k3, k4⟩ := seq_run hcall (by omega) ops.toList _ 0 n σ (by simp) hb hn hps h
      have k3' : RunOK S ops 0 ops.size rem σ n n' := by simpa using k3
      refine ⟨σf, n', k1, k3.le, k4, fun γ0 w0 ok γ a w hi hf hs => ?_⟩
      refine wp_region ?_
      have := wpOps_run (C := S.ctx γ0 w0 ok) (ops := ops) (Q := fun e a' w' => e = .normal ∧ ∃ γ', Inv (S.entry γ0 w0) γ' w' ∧ Fresh n' S.lim γ' ∧ Sat (S.entry γ0 w0) S.N γ' w' a' σf) rem σ γ a { w with drawn := w.drawn } k3.opsOk (k3.run _ _ ok) k3.rise (hins k3' k4 _ _) (hfr k3' k4 hf) (step _ hi) (stepS _ hi hs)
        (fun a' w' γ' i1 s1 kk => fin' k3' k4 k2 hf i1 s1 kk)
      rw [k3.nums] at this
      simpa [List.range_eq_range'] using this
    | true =>
      simp only [if_true] at hc h
      split at hc
      · rename_i hcond
        simp only [Bool.and_eq_true] at hcond
        obtain ⟨⟨hm, hslots⟩, hedges⟩ := hcond
        simp only [Option.some.injEq, Prod.mk.injEq] at hc
        obtain ⟨rfl, rfl⟩ := hc
        obtain ⟨rem, σf, n', k1, k2, k3, k4, k5, _⟩ := draw_run hcall (by omega) ops.toList (depsC ops.toList) _ 0 n [] σ [] (by simp) (depsC_anc ops) hb hn hps hslots (by simp) (by simp) h
        have k3' : RunOK S ops 0 ops.size rem σ n n' := by simpa using k3
        refine ⟨σf, n', k1, k3.le, k4, fun γ0 w0 ok γ a w hi hf hs => ?_⟩
        refine wp_region_any hm ?_
        have hsz : rem.length = ops.size := by have := congrArg List.length k3.nums; simpa using this
        refine wpAny_run (C := S.ctx γ0 w0 ok) (fun i o ho e he hb => ?_) ops.size rem (Array.replicate ops.size false) σ γ a _ hsz (by simp) (fun y oj hoj hly => by exfalso; simp [Array.getD_eq_getD_getElem?, Array.getElem?_replicate] at hly; split at hly <;> simp at hly) (fun x hx => ⟨k3.opsOk x hx, ?_⟩) (fun i hi' => ?_) k5 (k3.run _ _ ok) (k3.rise.imp fun h => .inl h) (hins k3' k4 _ _) (hfr k3' k4 hf) (step _ hi) (stepS _ hi hs)
          (fun a' w' γ' i1 s1 kk => fin' k3' k4 k2 hf i1 s1 kk)
        · have := edgesOk_spec (j := i) (d := (o.after.toList.filter (Region.binds .any ·)).map (·.on)) hedges (by simp [depsOf, ho]) e.on (by
            simp only [List.mem_map, List.mem_filter]
            exact ⟨e, ⟨by simpa using he, hb⟩, rfl⟩)
          omega
        · have hlt : x.1 < ops.size := (Array.getElem?_eq_some_iff.1 (k3.opsOk x hx)).1
          simp [hlt]
        · have hlt : i < ops.size := by
            rcases Nat.lt_or_ge i ops.size with h' | h'
            · exact h'
            · have h0 : (Array.replicate ops.size false)[i]? = none := Array.getElem?_eq_none (by simpa using h')
              simp [Array.getD_eq_getD_getElem?, h0] at hi'
          have : i ∈ rem.map (·.1) := by
            rw [k3.nums]
            exact List.mem_range'_1.2 ⟨Nat.zero_le _, by simpa using hlt⟩
          obtain ⟨x, hx, rfl⟩ := List.mem_map.1 this
          exact ⟨x, hx, rfl⟩
      · cases hc
  · cases hc
end
end Go.G
