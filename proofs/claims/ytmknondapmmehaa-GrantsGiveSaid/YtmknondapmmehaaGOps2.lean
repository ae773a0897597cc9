import Derived.Test.YtmknondapmmehaaGOps1
set_option linter.unusedVariables false
set_option linter.unusedSimpArgs false
namespace Go.G
variable {T : Uni}
section
variable {C : Ctx} {o : Oper} {σ : St T} {lo hi : Nat}

theorem addr_add (b off j : Nat) : (⟨b, off, none⟩ : Addr).add j = ⟨b, off + j, none⟩ := by
  unfold Addr.add
  by_cases h : j = 0
  · subst h; simp
  · simp [h]

theorem run_sizeOf {P : Program} {t : TypeId} {m : Nat} (h : tySz P t = some m) (w : World) : (sizeOf t).run P w = .ok m w := by
  unfold tySz at h
  cases hi : P.info? t with
  | none => simp [hi] at h
  | some i => simp [hi] at h; simp [sizeOf, typeInfo, hi, h]

theorem run_isAgg {P : Program} {t : TypeId} {ag : Bool} (h : tyAg P t = some ag) (w : World) : (isAgg t).run P w = .ok ag w := by
  unfold tyAg at h
  cases hu : P.underlying t with
  | none => simp [hu] at h
  | some d =>
    cases d <;> simp [hu] at h <;> subst h <;> simp [isAgg, run_underlying hu]

theorem run_part {P : Program} {t : TypeId} {ag : Bool} {m : Nat} (ha : tyAg P t = some ag) (hm : tySz P t = some m) (cs : List Value) (off : Nat) (w : World) :
    (part t cs.toArray off).run P w = if ag then .ok (.agg ((cs.drop off).take m).toArray) w else match cs[off]? with
      | some v => .ok v w
      | none => .halt (.stuck "part: no such cell") w := by
  cases ag with
  | true =>
    simp only [part, Sem.run_bind, run_isAgg ha, Result.andThen_ok, if_true, run_sizeOf hm, Sem.run_pure]
    congr 2
    apply Array.ext'
    simp
  | false =>
    simp only [part, Sem.run_bind, run_isAgg ha, Result.andThen_ok, if_false, Bool.false_eq_true]
    simp only [List.getElem?_toArray]
    cases cs[off]? <;> rfl

/-- What is read at an address that holds these cells. -/
theorem run_loadVar_list {P : Program} {t : TypeId} {ag : Bool} {m : Nat} (ha : tyAg P t = some ag) (hm : tySz P t = some m) (w : World) (b off : Nat) (vs : List Value) (hl : vs.length = m) (h1 : ag = false → m = 1)
    (h : ∀ j v, vs[j]? = some v → w.cell? ⟨b, off + j, none⟩ = some v) : (loadVar t ⟨b, off, none⟩).run P w = .ok (if ag then .agg vs.toArray else vs.getD 0 undef) w := by
  have h' : ∀ j v, vs[j]? = some v → w.cell? ((⟨b, off, none⟩ : Addr).add j) = some v := fun j v hj => by rw [addr_add]; exact h j v hj
  cases ag with
  | true =>
    have := run_loadCells_list (P := P) w ⟨b, off, none⟩ vs h'
    rw [hl] at this
    simp [loadVar, run_isAgg ha, run_sizeOf hm, this]
  | false =>
    have hm1 := h1 rfl
    match vs, hl with
    | [v], _ =>
      have h0 := h 0 v rfl
      simp only [Nat.add_zero] at h0
      simp [loadVar, run_isAgg ha, h0]
    | [], hl => simp at hl; omega
    | _ :: _ :: _, hl => simp at hl; omega

theorem ldv_inv {X : Type} {r : X} {m : Nat} {ag : Bool} {cells : List (CV T)} {K : PV T → Option X} (h1 : ag = false → m = 1) (h : ldv m ag cells K = some r) : ∃ p, K p = some r ∧ cells.length = m ∧ p = shp ag cells := by
  unfold ldv at h
  cases ag with
  | true =>
    simp only at h
    split at h
    · rename_i hb; exact ⟨_, h, Nat.eq_of_beq_eq_true hb, rfl⟩
    · cases h
  | false =>
    simp only at h
    split at h
    · exact ⟨_, h, by simp [h1 rfl], rfl⟩
    · cases h

theorem ld_rep {γ : Gh} {w : World} {m : Nat} {ag : Bool} {cells : List (CV T)} {vs : List Value} (h1 : ag = false → m = 1) (hl : cells.length = m) (h : RepCs γ w cells vs) :
    RepP γ w (shp ag cells) (if ag then .agg vs.toArray else vs.getD 0 undef) := by
  cases ag with
  | true => simp only [shp, if_true, RepP]; exact ⟨vs, rfl, h⟩
  | false =>
    simp only [Bool.false_eq_true, if_false]
    match cells, vs, h with
    | [c], [v], h => simp only [shp, RepP, List.getD_cons_zero]; exact h.1
    | [], [], _ => simp at hl; have := h1 rfl; omega
    | _ :: _ :: _, _, _ => simp [shp, RepP]

/-- A load from cells that are known. -/
theorem kv_load {t : TypeId} {x : Operand} {X : Opd T} {c : CV T} {m : Nat} {ag : Bool} {cells : List (CV T)} {mrd : List Loc} (ho : o.op = .load t x) (hx : cOpd x = some X) (ha : tyAg C.P t = some ag) (hm : tySz C.P t = some m) (h1 : ag = false → m = 1)
    (h : Rd σ X (.one c)) (hl : cells.length = m)
    (hb : ∀ σ', (∀ l ∈ mrd, look σ' l = look σ l) → ∀ γ a w, Inv C.E γ w → Sat C.E C.N γ w a σ' → ∀ v, RepC γ w c v → ∃ b off vs, v = .pointer (some ⟨b, off, none⟩) ∧ (∀ (j : Nat) (u : Value), vs[j]? = some u → w.cell? ⟨b, off + j, none⟩ = some u) ∧ RepCs γ w cells vs) :
    KValid C o σ X.slots (shp ag cells) mrd [] lo hi := by
  refine kv_pure fun σ' g1 g2 γ a w hi hs => ?_
  have e1 := Rd.rep hs hx g1 h
  simp only [RepP] at e1
  obtain ⟨b, off, vs, e2, e3, e4⟩ := hb σ' g2 γ a w hi hs _ e1
  have hlv : vs.length = m := by rw [← e4.length]; exact hl
  have hrun := run_loadVar_list ha hm w b off _ hlv h1 e3
  refine ⟨_, ?_, ld_rep h1 hl e4⟩
  simp [execOp, ho, e2, Instr.loadAt, Instr.sureAddr, hrun]

theorem load_ref {m nm off : Nat} {cs : List (CV T)} (hb : look σ (.h nm) = some (.b cs)) {σ' : St T} (g2 : ∀ l ∈ [Loc.h nm], look σ' l = look σ l) {γ : Gh} {a : Act} {w : World} (hs : Sat C.E C.N γ w a σ') {v : Value} (hv : RepC (T := T) γ w (.ref nm off) v) :
    ∃ b off' vs, v = .pointer (some ⟨b, off', none⟩) ∧ (∀ (j : Nat) (u : Value), vs[j]? = some u → w.cell? ⟨b, off' + j, none⟩ = some u) ∧ RepCs γ w ((cs.drop off).take m) vs := by
  obtain ⟨b, h1, rfl⟩ := hv
  obtain ⟨b', vs, ty, k1, k2, k3, k4, k5, k6⟩ := hs.facts (.h nm) (.b cs) ((g2 _ (by simp)).trans hb)
  rw [h1] at k1; cases k1
  refine ⟨b, off, (vs.toList.drop off).take m, rfl, fun j u hj => ?_, (k6.drop off).take m⟩
  rw [List.getElem?_take] at hj
  split at hj
  · rw [List.getElem?_drop] at hj
    simp only [World.cell?, k5]
    simpa using hj
  · cases hj

theorem load_cur {m : Nat} {cs : List (DV T.toSig)} {γ : Gh} {w : World} {v : Value} (hv : RepC (T := T) γ w (.cur cs) v) :
    ∃ b off' vs, v = .pointer (some ⟨b, off', none⟩) ∧ (∀ (j : Nat) (u : Value), vs[j]? = some u → w.cell? ⟨b, off' + j, none⟩ = some u) ∧ RepCs γ w ((cs.map CV.d).take m) vs := by
  obtain ⟨b, off, rfl, h2, h3, h4⟩ := hv
  obtain ⟨vs, k1, k2, k3⟩ := h4.values
  refine ⟨b, off, vs.take m, rfl, fun j u hj => ?_, k3.cs.take m⟩
  rw [List.getElem?_take] at hj
  split at hj
  · exact k2 j u hj
  · cases hj

theorem dat_some {α : Type} {l : List α} {i : Int} {a : α} (h : dat l i = some a) : 0 ≤ i ∧ i < l.length ∧ l[i.toNat]? = some a := by
  unfold dat at h
  split at h
  · rename_i h0
    have := getElem?_lt h
    exact ⟨h0, by omega, h⟩
  · cases h

theorem load_elm {m nm f : Nat} {i : Int} {u u' : T.U} {l : List (T.El u')} {fz : Bool} {x : T.El u'} (hu : T.size u = T.size u') (hb : look σ (.h nm) = some (.r u' l fz)) (hx : dat l i = some x) {σ' : St T} (g2 : ∀ l ∈ [Loc.h nm], look σ' l = look σ l) {γ : Gh} {a : Act} {w : World} (hs : Sat C.E C.N γ w a σ') {v : Value}
    (hv : RepC (T := T) γ w (.elm u nm i f) v) :
    ∃ b off' vs, v = .pointer (some ⟨b, off', none⟩) ∧ (∀ (j : Nat) (u : Value), vs[j]? = some u → w.cell? ⟨b, off' + j, none⟩ = some u) ∧ RepCs γ w ((((T.enc u' x).map CV.d).drop f).take m) vs := by
  obtain ⟨h0, h1, h2⟩ := dat_some hx
  obtain ⟨b, o, L, cap, k1, k2, k3, rfl⟩ := hv
  obtain ⟨A, cap', e1, e2, e3⟩ := hs.facts (.h nm) (.r u' l fz) ((g2 _ (by simp)).trans hb)
  rw [k1] at e1; cases e1
  rcases e3 with ⟨_, e3⟩ | ⟨b', off, c, t, e4, e5, e6, e7, e8, e9, e10⟩
  · subst e3; simp at h1; omega
  · cases e4
    obtain ⟨vs, j1, j2, j3⟩ := (e10 _ _ h2).values
    refine ⟨b, o + i.toNat * T.size u + f, (vs.drop f).take m, rfl, fun j u'' hj => ?_, (j3.cs.drop f).take m⟩
    rw [List.getElem?_take] at hj
    split at hj
    · rw [List.getElem?_drop] at hj
      have := j2 _ _ hj
      rw [hu, show o + i.toNat * T.size u' + f + j = o + i.toNat * T.size u' + (f + j) by omega]
      exact this
    · cases hj

/-! ### Places -/
theorem run_fieldAt {P : Program} {s : TypeId} {fs : Array Field} {i : Nat} {f : Field} {m : Nat} (hu : P.underlying s = some (.struct fs)) (hf : fs[i]? = some f) (hm : tySz P f.type = some m) (h0 : m ≠ 0) (b off : Nat) (w : World) :
    (Instr.fieldAt s (.pointer (some ⟨b, off, none⟩)) i).run P w = .ok (.pointer (some ⟨b, off + f.offset, none⟩)) w := by
  simp [Instr.fieldAt, run_underlying hu, hf, Instr.sureAddr, fieldPlace, run_sizeOf hm, h0, addr_add]

def fieldOff (P : Program) (s : TypeId) (i : Nat) : Option Nat :=
  match P.underlying s with
  | some (.struct fs) => match fs[i]? with
    | some f => match tySz P f.type with
      | some (_ + 1) => some f.offset
      | _ => none
    | none => none
  | _ => none

theorem run_fieldAt' {P : Program} {s : TypeId} {i d : Nat} (h : fieldOff P s i = some d) (b off : Nat) (w : World) :
    (Instr.fieldAt s (.pointer (some ⟨b, off, none⟩)) i).run P w = .ok (.pointer (some ⟨b, off + d, none⟩)) w := by
  unfold fieldOff at h
  split at h
  · rename_i fs hu
    split at h
    · rename_i f hf
      split at h
      · rename_i m hm
        cases h
        exact run_fieldAt hu hf hm (by omega) b off w
      · cases h
    · cases h
  · cases h

theorem kv_faddr {s : TypeId} {x : Operand} {X : Opd T} {i d : Nat} {c c' : CV T} (ho : o.op = .fieldAddr s x i) (hx : cOpd x = some X) (hf : fieldOff C.P s i = some d)
    (h : Rd σ X (.one c)) (hc : ∀ γ w v, RepC γ w c v → ∃ b off, v = .pointer (some ⟨b, off, none⟩) ∧ RepC γ w c' (.pointer (some ⟨b, off + d, none⟩))) : KValid C o σ X.slots (.one c') [] [] lo hi := by
  refine kv_pure fun σ' g1 _ γ a w hi hs => ?_
  have e1 := Rd.rep hs hx g1 h
  simp only [RepP] at e1
  obtain ⟨b, off, e2, e3⟩ := hc γ w _ e1
  exact ⟨.pointer (some ⟨b, off + d, none⟩), by simp [execOp, ho, e2, run_fieldAt' hf], by simp only [RepP]; exact e3⟩

theorem faddr_ref {γ : Gh} {w : World} {nm off d : Nat} {v : Value} (h : RepC (T := T) γ w (.ref nm off) v) : ∃ b o, v = .pointer (some ⟨b, o, none⟩) ∧ RepC (T := T) γ w (.ref nm (off + d)) (.pointer (some ⟨b, o + d, none⟩)) := by
  obtain ⟨b, h1, rfl⟩ := h
  exact ⟨b, off, rfl, b, h1, rfl⟩

theorem RowAt.drop {imm : Nat → Nat} {w : World} {b off : Nat} {xs : List (DV T.toSig)} (d : Nat) (h : RowAt imm w b off xs) : RowAt imm w b (off + d) (xs.drop d) := by
  intro j x hx
  rw [List.getElem?_drop] at hx
  have := h (d + j) x hx
  rw [show off + d + j = off + (d + j) by omega]
  exact this

theorem faddr_cur {γ : Gh} {w : World} {cs : List (DV T.toSig)} {d : Nat} (hd : d ≤ cs.length) {v : Value} (h : RepC (T := T) γ w (.cur cs) v) : ∃ b o, v = .pointer (some ⟨b, o, none⟩) ∧ RepC (T := T) γ w (.cur (cs.drop d)) (.pointer (some ⟨b, o + d, none⟩)) := by
  obtain ⟨b, off, rfl, h2, h3, h4⟩ := h
  refine ⟨b, off, rfl, b, off + d, rfl, h2, ?_, h4.drop d⟩
  simp; omega

theorem faddr_elm {γ : Gh} {w : World} {u : T.U} {nm f d : Nat} {i : Int} {v : Value} (h : RepC (T := T) γ w (.elm u nm i f) v) : ∃ b o, v = .pointer (some ⟨b, o, none⟩) ∧ RepC (T := T) γ w (.elm u nm i (f + d)) (.pointer (some ⟨b, o + d, none⟩)) := by
  obtain ⟨b, o, l, cap, h1, h2, h3, rfl⟩ := h
  exact ⟨b, _, rfl, b, o, l, cap, h1, h2, h3, by rw [Nat.add_assoc _ f d]⟩

theorem kv_fld {s : TypeId} {x : Operand} {X : Opd T} {i : Nat} {fs : Array Field} {f : Field} {m : Nat} {ag : Bool} {cs : List (CV T)} (ho : o.op = .field s x i) (hx : cOpd x = some X)
    (hu : C.P.underlying s = some (.struct fs)) (hf : fs[i]? = some f) (ha : tyAg C.P f.type = some ag) (hm : tySz C.P f.type = some m) (h1 : ag = false → m = 1)
    (h : Rd σ X (.agg cs)) (hl : ((cs.drop f.offset).take m).length = m) :
    KValid C o σ X.slots (shp ag ((cs.drop f.offset).take m)) [] [] lo hi := by
  refine kv_pure fun σ' g1 _ γ a w hi hs => ?_
  have e1 := Rd.rep hs hx g1 h
  simp only [RepP] at e1
  obtain ⟨vs, e1, h2⟩ := e1
  have hr : RepCs γ w ((cs.drop f.offset).take m) ((vs.drop f.offset).take m) := (h2.drop _).take m
  have hlv : ((vs.drop f.offset).take m).length = m := by rw [← hr.length]; exact hl
  refine ⟨_, ?_, ld_rep h1 hl hr⟩
  have hp := run_part ha hm vs f.offset w
  cases ag with
  | true => simp [execOp, ho, e1, Instr.field, run_underlying hu, hf, asAgg, hp]
  | false =>
    have hm1 := h1 rfl
    subst hm1
    have hlt : f.offset < vs.length := by simp at hlv; omega
    rw [List.getElem?_eq_getElem hlt] at hp
    simp only [Bool.false_eq_true, if_false] at hp
    have hg : ((vs.drop f.offset).take 1).getD 0 undef = vs[f.offset] := by
      simp [List.getD, List.getElem?_drop, hlt]
    simp only [Bool.false_eq_true, if_false, hg]
    simp [execOp, ho, e1, Instr.field, run_underlying hu, hf, asAgg, hp]

theorem kv_iaddr_d {t e : TypeId} {x i : Operand} {Xx Ii : Opd T} {u : T.U} {l : List (T.El u)} {k : IntKind} {iv : Int} {y : T.El u} (ho : o.op = .indexAddr t x i) (hx : cOpd x = some Xx) (hi' : cOpd i = some Ii)
    (hu : C.P.underlying t = some (.slice e)) (hm : tySz C.P e = some (T.size u)) (h : Rd σ Xx (.one (.d (.sl u l)))) (h2 : Rd σ Ii (.one (.d (.int k iv)))) (hb : dat l iv = some y) :
    KValid C o σ (Xx.slots ++ Ii.slots) (.one (.cur (T.enc u y))) [] [] lo hi := by
  refine kv_pure fun σ' g1 _ γ a w hinv hs => ?_
  have e1 := Rd.rep hs hx (fun j hj => g1 j (left hj)) h
  have e2 := repI (Rd.rep hs hi' (fun j hj => g1 j (right hj)) h2)
  simp only [RepP, RepC] at e1
  obtain ⟨A, cap, e3, hcap, h4⟩ := RepD.sl_iff.1 e1
  obtain ⟨b0, b1, b2⟩ := dat_some hb
  rcases h4 with h4 | ⟨b, off, rfl, hbl, hsh, hr⟩
  · subst h4; simp at b2
  · refine ⟨.pointer (some ⟨b, off + iv.toNat * T.size u, none⟩), ?_, ?_⟩
    · simp [execOp, ho, e2, e3, Instr.indexAt, asIntOf, run_underlying hu, run_sizeOf hm, b0, b1, addr_add]
    · simp only [RepP, RepC]
      refine ⟨b, off + iv.toNat * T.size u, rfl, hbl, ?_, hr _ _ b2⟩
      rw [T.enc_len]
      have : (iv.toNat + 1) * T.size u ≤ l.length * T.size u := Nat.mul_le_mul_right _ (by omega)
      rw [Nat.add_mul] at this
      omega

theorem kv_iaddr_row {t e : TypeId} {x i : Operand} {Xx Ii : Opd T} {u : T.U} {c : CV T} {l : List (T.El u)} {fz : Bool} {k : IntKind} {iv j : Int} {nm : Nat} {y : T.El u} (ho : o.op = .indexAddr t x i) (hx : cOpd x = some Xx) (hi' : cOpd i = some Ii)
    (hu : C.P.underlying t = some (.slice e)) (hm : tySz C.P e = some (T.size u)) (h : Rd σ Xx (.one c)) (hb : look σ (.h nm) = some (.r u l fz)) (h2 : Rd σ Ii (.one (.d (.int k iv)))) (hy : dat l j = some y) (h0 : 0 ≤ iv)
    (hc : ∀ γ w v, RepC γ w c v → ∀ A cap, γ.bt nm = some (.row A l.length cap) → l.length ≤ cap → ∃ A' len c', v = .slice A' len c' ∧ iv < len ∧ ∀ b o, A = some ⟨b, o, none⟩ → A' = some ⟨b, o + (j - iv).toNat * T.size u, none⟩ ∧ iv ≤ j) :
    KValid C o σ (Xx.slots ++ Ii.slots) (.one (.elm u nm j 0)) [.h nm] [] lo hi := by
  refine kv_pure fun σ' g1 g2 γ a w hinv hs => ?_
  have e1 := Rd.rep hs hx (fun j hj => g1 j (left hj)) h
  have e2 := repI (Rd.rep hs hi' (fun j hj => g1 j (right hj)) h2)
  simp only [RepP] at e1
  obtain ⟨A, cap, f1, f2, f3⟩ := hs.facts (.h nm) (.r u l fz) ((g2 _ (by simp)).trans hb)
  obtain ⟨A', len, c', e3, e4, e5⟩ := hc γ w _ e1 A cap f1 f2
  obtain ⟨b0, b1, b2⟩ := dat_some hy
  rcases f3 with ⟨_, f3⟩ | ⟨b, off, cc, tt, rfl, f5, f6, f7, f8, f9, f10⟩
  · subst f3; simp at b2
  · obtain ⟨rfl, e6⟩ := e5 b off rfl
    refine ⟨.pointer (some ⟨b, off + j.toNat * T.size u, none⟩), ?_, ?_⟩
    · have hj : (j - iv).toNat * T.size u + iv.toNat * T.size u = j.toNat * T.size u := by
        rw [← Nat.add_mul]; congr 1; omega
      simp [execOp, ho, e2, e3, Instr.indexAt, asIntOf, run_underlying hu, run_sizeOf hm, h0, e4, addr_add, Nat.add_assoc, hj]
    · simp only [RepP, RepC]
      exact ⟨b, off, l.length, cap, f1, b0, b1, by simp⟩

theorem iaddr_own {γ : Gh} {w : World} {u u' : T.U} {nm : Nat} {L : Nat} {iv : Int} (h0 : 0 ≤ iv) (hl : iv < L) {v : Value} (h : RepC (T := T) γ w (.own u' nm) v) (A : Option Addr) (cap : Nat) (hb : γ.bt nm = some (.row A L cap)) :
    ∃ A' len c', v = .slice A' len c' ∧ iv < len ∧ ∀ b o, A = some ⟨b, o, none⟩ → A' = some ⟨b, o + (iv - iv).toNat * T.size u, none⟩ ∧ iv ≤ iv := by
  obtain ⟨A', len, cap', h1, rfl⟩ := h
  rw [hb] at h1
  cases h1
  exact ⟨A, L, cap, rfl, hl, fun b o e => ⟨by simp [e], Int.le_refl _⟩⟩

theorem iaddr_buf {γ : Gh} {w : World} {u u' : T.U} (hu : T.size u' = T.size u) {nm : Nat} {off len : Int} {L : Nat} {iv : Int} (h0 : 0 ≤ iv) (hl : iv < len) {v : Value} (h : RepC (T := T) γ w (.buf u' nm off len) v) (A : Option Addr) (cap : Nat) (hb : γ.bt nm = some (.row A L cap)) :
    ∃ A' len c', v = .slice A' len c' ∧ iv < len ∧ ∀ b o, A = some ⟨b, o, none⟩ → A' = some ⟨b, o + (off + iv - iv).toNat * T.size u, none⟩ ∧ iv ≤ off + iv := by
  obtain ⟨A0, l, cap', A', h1, h2, h3, h4, h5, rfl, h7⟩ := h
  rw [hb] at h1
  cases h1
  refine ⟨A', len.toNat, cap - off.toNat, rfl, by omega, fun b o e => ⟨?_, by omega⟩⟩
  rw [h7 (by omega), e]
  simp only [Option.map_some, addr_add, hu]
  congr 4
  omega

theorem kv_iarr {t e : TypeId} {x i : Operand} {Xx Ii : Opd T} {size len : Nat} {c c' : CV T} {k : IntKind} {iv : Int} (ho : o.op = .indexAddr t x i) (hx : cOpd x = some Xx) (hi' : cOpd i = some Ii)
    (hu : C.P.underlying t = some (.array len e)) (hm : tySz C.P e = some size) (h : Rd σ Xx (.one c)) (h2 : Rd σ Ii (.one (.d (.int k iv)))) (b0 : 0 ≤ iv) (b1 : iv < len)
    (hc : ∀ γ w v, RepC γ w c v → ∃ b off, v = .pointer (some ⟨b, off, none⟩) ∧ RepC γ w c' (.pointer (some ⟨b, off + iv.toNat * size, none⟩))) :
    KValid C o σ (Xx.slots ++ Ii.slots) (.one c') [] [] lo hi := by
  refine kv_pure fun σ' g1 _ γ a w hinv hs => ?_
  have e1 := Rd.rep hs hx (fun j hj => g1 j (left hj)) h
  have e2 := repI (Rd.rep hs hi' (fun j hj => g1 j (right hj)) h2)
  simp only [RepP] at e1
  obtain ⟨b, off, e3, e4⟩ := hc γ w _ e1
  refine ⟨.pointer (some ⟨b, off + iv.toNat * size, none⟩), ?_, by simp only [RepP]; exact e4⟩
  simp [execOp, ho, e2, e3, Instr.indexAt, Instr.sureAddr, asIntOf, run_underlying hu, run_sizeOf hm, b0, b1, addr_add]

theorem RepPs.get {γ : Gh} {w : World} : ∀ {ps : List (PV T)} {vs : List Value} {i : Nat} {p : PV T}, RepPs γ w ps vs → ps[i]? = some p → ∃ v, vs[i]? = some v ∧ RepP γ w p v
  | [], _, _, _, _, h => by simp at h
  | p :: ps, v :: vs, 0, q, h, hq => by simp only [RepPs] at h; simp at hq; subst hq; exact ⟨v, rfl, h.1⟩
  | p :: ps, v :: vs, i + 1, q, h, hq => by simp only [RepPs] at h; simpa using RepPs.get (i := i) h.2 (by simpa using hq)
  | _ :: _, [], _, _, h, _ => by simp only [RepPs] at h

theorem kv_ext {x : Operand} {X : Opd T} {i : Nat} {ps : List (PV T)} {p : PV T} (ho : o.op = .extract x i) (hx : cOpd x = some X) (h : Rd σ X (.tup ps)) (hp : ps[i]? = some p) : KValid C o σ X.slots p [] [] lo hi := by
  refine kv_pure fun σ' g1 _ γ a w hinv hs => ?_
  have e1 := Rd.rep hs hx g1 h
  simp only [RepP] at e1
  obtain ⟨vs, e1, h2⟩ := e1
  obtain ⟨v, h3, h4⟩ := h2.get hp
  exact ⟨v, by simp [execOp, ho, e1, Instr.extract, h3], h4⟩

/-! ### Numbers -/
theorem run_eqGuard_int {P : Program} (op : BinOp) (t : TypeId) (x y : Operand) (k k' : IntKind) (a b : Int) (w : World) : (eqGuard op t x y (.int k a) (.int k' b)).run P w = .ok () w := by
  unfold eqGuard; cases op <;> simp

theorem beq_dec (a b : Int) : (a == b) = decide (a = b) := by by_cases h : a = b <;> simp [h]

def binP (op : BinOp) (k : IntKind) (a b : Int) : Option (PV T) := binI (X := PV T) op k a b some

theorem binI_inv {X : Type} {r : X} {op : BinOp} {k : IntKind} {a b : Int} {K : PV T → Option X} (h : binI op k a b K = some r) : ∃ p, binP op k a b = some p ∧ K p = some r := by
  cases op <;> simp only [binI, reduceCtorEq] at h <;> first | (split at h; cases h; rename_i hb; exact ⟨_, by simp only [binP, binI, hb], h⟩) | exact ⟨_, rfl, h⟩

theorem kv_bin {op : BinOp} {t t' : TypeId} {x y : Operand} {Xx Yy : Opd T} {k : IntKind} {a b : Int} {p : PV T} (ho : o.op = .binOp op t x y t') (hx : cOpd x = some Xx) (hy : cOpd y = some Yy)
    (h1 : Rd σ Xx (.one (.d (.int k a)))) (h2 : Rd σ Yy (.one (.d (.int k b)))) (hp : binP op k a b = some p) : KValid C o σ (Xx.slots ++ Yy.slots) p [] [] lo hi := by
  refine kv_pure fun σ' g1 _ γ ac w hinv hs => ?_
  have e1 := repI (Rd.rep hs hx (fun j hj => g1 j (left hj)) h1)
  have e2 := repI (Rd.rep hs hy (fun j hj => g1 j (right hj)) h2)
  cases op <;> simp only [binP, binI, Option.some.injEq, reduceCtorEq] at hp
  case quo =>
    split at hp
    · cases hp
    · rename_i hb
      simp only [ieq, decide_eq_false_iff_not] at hb
      cases hp
      exact ⟨_, by simp [execOp, ho, e1, e2, run_eqGuard_int, binOp, Op.intDiv, hb]; rfl, mkI⟩
  case rem =>
    split at hp
    · cases hp
    · rename_i hb
      simp only [ieq, decide_eq_false_iff_not] at hb
      cases hp
      exact ⟨_, by simp [execOp, ho, e1, e2, run_eqGuard_int, binOp, Op.intDiv, hb]; rfl, mkI⟩
  case shr =>
    split at hp
    · cases hp
    · rename_i hb
      simp only [ilt, decide_eq_false_iff_not] at hb
      cases hp
      exact ⟨_, by simp [execOp, ho, e1, e2, run_eqGuard_int, binOp, Op.shift, hb]; rfl, mkI⟩
  case shl =>
    split at hp
    · cases hp
    · rename_i hb
      simp only [ilt, decide_eq_false_iff_not] at hb
      cases hp
      exact ⟨_, by simp [execOp, ho, e1, e2, run_eqGuard_int, binOp, Op.shift, hb]; rfl, mkI⟩
  case and => cases hp; exact ⟨.int k (iand k a b), by simp [execOp, ho, e1, e2, run_eqGuard_int, binOp, Op.intBits, iand], mkI⟩
  case or => cases hp; exact ⟨.int k (ior k a b), by simp [execOp, ho, e1, e2, run_eqGuard_int, binOp, Op.intBits, ior], mkI⟩
  case xor => cases hp; exact ⟨.int k (ixor k a b), by simp [execOp, ho, e1, e2, run_eqGuard_int, binOp, Op.intBits, ixor], mkI⟩
  case andNot => cases hp; exact ⟨.int k (iandn k a b), by simp [execOp, ho, e1, e2, run_eqGuard_int, binOp, Op.intBits, iandn], mkI⟩
  all_goals
    subst hp
    first
      | exact ⟨_, by simp [execOp, ho, e1, e2, run_eqGuard_int, binOp, Op.intArith, Op.intCmp, bne, beq_dec]; rfl, mkI⟩
      | exact ⟨_, by simp [execOp, ho, e1, e2, run_eqGuard_int, binOp, Op.intArith, Op.intCmp, bne, beq_dec]; rfl, mkB⟩

theorem run_eqGuard_bool {P : Program} (op : BinOp) (t : TypeId) (x y : Operand) (a b : Bool) (w : World) : (eqGuard op t x y (.bool a) (.bool b)).run P w = .ok () w := by
  unfold eqGuard; cases op <;> simp

theorem kv_eqb {op : BinOp} {neg : Bool} {t t' : TypeId} {x y : Operand} {Xx Yy : Opd T} {a b : Bool} (ho : o.op = .binOp op t x y t') (hop : op = if neg then .neq else .eql) (hx : cOpd x = some Xx) (hy : cOpd y = some Yy) (hu : C.P.underlying t = some .bool)
    (h1 : Rd σ Xx (.one (.d (.bool a)))) (h2 : Rd σ Yy (.one (.d (.bool b)))) : KValid C o σ (Xx.slots ++ Yy.slots) (bl (if neg then !beqb a b else beqb a b)) [] [] lo hi := by
  refine kv_pure fun σ' g1 _ γ ac w hinv hs => ?_
  have e1 := repB (Rd.rep hs hx (fun j hj => g1 j (left hj)) h1)
  have e2 := repB (Rd.rep hs hy (fun j hj => g1 j (right hj)) h2)
  cases neg <;> simp only [Bool.false_eq_true, if_false, if_true] at hop ⊢ <;> subst hop
  · exact ⟨.bool (a == b), by simp [execOp, ho, e1, e2, run_eqGuard_bool, run_eql_bool _ _ _ _ hu], mkB⟩
  · exact ⟨.bool (!(a == b)), by simp [execOp, ho, e1, e2, run_eqGuard_bool, run_neq_bool _ _ _ _ hu], mkB⟩

theorem kv_not {t : TypeId} {x : Operand} {X : Opd T} {b : Bool} (ho : o.op = .unOp .not t x) (hx : cOpd x = some X) (h : Rd σ X (.one (.d (.bool b)))) : KValid C o σ X.slots (bl (!b)) [] [] lo hi := by
  refine kv_pure fun σ' g1 _ γ ac w hinv hs => ?_
  have e1 := repB (Rd.rep hs hx g1 h)
  exact ⟨.bool (!b), by simp [execOp, ho, e1, Op.unary], mkB⟩

theorem kv_neg {t : TypeId} {x : Operand} {X : Opd T} {k : IntKind} {b : Int} (ho : o.op = .unOp .neg t x) (hx : cOpd x = some X) (h : Rd σ X (.one (.d (.int k b)))) : KValid C o σ X.slots (.one (.d (.int k (isub k 0 b)))) [] [] lo hi := by
  refine kv_pure fun σ' g1 _ γ ac w hinv hs => ?_
  have e1 := repI (Rd.rep hs hx g1 h)
  exact ⟨.int k (k.wrap (0 - b)), by simp [execOp, ho, e1, Op.unary, Op.intArith], mkI⟩

theorem kv_conv {s t : TypeId} {x : Operand} {X : Opd T} {k k' : IntKind} {b : Int} {d : TypeDesc} (ho : o.op = .convert s t x) (hx : cOpd x = some X) (hs' : C.P.underlying s = some d) (hu : C.P.underlying t = some (.int k))
    (h : Rd σ X (.one (.d (.int k' b)))) : KValid C o σ X.slots (.one (.d (.int k (iwrap k b)))) [] [] lo hi := by
  refine kv_pure fun σ' g1 _ γ ac w hinv hs => ?_
  have e1 := repI (Rd.rep hs hx g1 h)
  exact ⟨.int k (k.wrap b), by simp [execOp, ho, e1, convert, run_underlying hs', run_underlying hu, Conv.intToInt], mkI⟩

theorem kv_len {t e : TypeId} {x : Operand} {X : Opd T} {c : CV T} {l : Int} {mrd : List Loc} (ho : o.op = .call { callee := .builtin .len, args := #[x], argTypes := #[t] }) (hx : cOpd x = some X) (hu : C.P.underlying t = some (.slice e))
    (h : Rd σ X (.one c)) (hl : ∀ σ', (∀ l ∈ mrd, look σ' l = look σ l) → ∀ γ a w, Sat C.E C.N γ w a σ' → ∀ v, RepC γ w c v → ∃ A c', v = .slice A l.toNat c' ∧ 0 ≤ l) : KValid C o σ X.slots (i64 l) mrd [] lo hi := by
  refine kv_pure fun σ' g1 g2 γ ac w hinv hs => ?_
  have e1 := Rd.rep hs hx g1 h
  simp only [RepP] at e1
  obtain ⟨A, c', e2, e3⟩ := hl σ' g2 γ ac w hs _ e1
  have e4 : (l.toNat : Int) = l := by omega
  refine ⟨.int .i64 l, ?_, mkI⟩
  simp [execOp, ho, resolve, invoke, builtin, e2, Builtin.len_, run_underlying hu, goInt, e4]

theorem kv_slen {t : TypeId} {x : Operand} {X : Opd T} {s : ByteArray} (ho : o.op = .call { callee := .builtin .len, args := #[x], argTypes := #[t] }) (hx : cOpd x = some X) (hu : C.P.underlying t = some .string)
    (h : Rd σ X (.one (.d (.str s)))) : KValid C o σ X.slots (i64 (slen s)) [] [] lo hi := by
  refine kv_pure fun σ' g1 _ γ ac w hinv hs => ?_
  have e1 := repS (Rd.rep hs hx g1 h)
  refine ⟨.int .i64 s.size, ?_, mkI⟩
  simp [execOp, ho, resolve, invoke, builtin, e1, Builtin.len_, run_underlying hu, goInt]

theorem kv_nilk {x : Operand} {X : Opd T} {c : CV T} (ho : o.op = .nilCheck x) (hx : cOpd x = some X) (h : Rd σ X (.one c)) (hc : match c with | .ref .. | .cur _ | .elm .. | .fn .. => True | _ => False) : KValid C o σ X.slots (.one c) [] [] lo hi := by
  refine kv_pure fun σ' g1 _ γ ac w hinv hs => ?_
  have e1 := Rd.rep hs hx g1 h
  refine ⟨ac.eval x, ?_, e1⟩
  simp only [RepP] at e1
  cases c with
  | ref id off => obtain ⟨b, _, e1⟩ := e1; simp [execOp, ho, e1]
  | cur cs => obtain ⟨b, off, e1, _⟩ := e1; simp [execOp, ho, e1]
  | elm u nm i f => obtain ⟨b, o, l, cap, _, _, _, e1⟩ := e1; simp [execOp, ho, e1]
  | fn f caps => obtain ⟨bs, _, e1⟩ := e1; simp [execOp, ho, e1]
  | _ => exact hc.elim
end
end Go.G
