import Derived.Test.YtmknondapmmehaaGOps4
set_option linter.unusedVariables false
set_option linter.unusedSimpArgs false
namespace Go.G
variable {T : Uni}
section
variable {C : Ctx} {o : Oper} {σ : St T} {lo hi : Nat}

/-! ### Composite values -/
def cParts (place : Nat → Option (Nat × Nat)) : List (Nat × Operand) → Option (List (Nat × Nat × Opd T))
  | [] => some []
  | (i, x) :: r => match place i, cOpd x, cParts place r with
    | some (off, size), some y, some ys => some ((off, size, y) :: ys)
    | _, _, _ => none

def Rdps (σ : St T) : List (Nat × Nat × Opd T) → List (Nat × Nat × List (CV T)) → Prop
  | [], [] => True
  | (off, size, x) :: r, (off', size', cs) :: qs => off' = off ∧ size' = size ∧ (∃ p, Rd σ x p ∧ pcells p = some cs) ∧ Rdps σ r qs
  | _, _ => False

theorem rdps_inv {X : Type} {r : X} : ∀ {xs : List (Nat × Nat × Opd T)} {K : List (Nat × Nat × List (CV T)) → Option X}, rdps σ xs K = some r → ∃ qs, Rdps σ xs qs ∧ K qs = some r
  | [], _, h => ⟨[], trivial, h⟩
  | (off, size, x) :: xs, K, h => by
    obtain ⟨p, hp, h⟩ := rdv_inv (x := x) h
    split at h
    · rename_i cs hcs
      obtain ⟨qs, h1, h2⟩ := rdps_inv h
      exact ⟨(off, size, cs) :: qs, ⟨rfl, rfl, ⟨p, hp, hcs⟩, h1⟩, h2⟩
    · cases h

theorem foldl_set_list (off : Nat) (l : List Value) (cs : Array Value) (h : off + l.length ≤ cs.size) :
    ((l.zipIdx 0).foldl (fun cs (x : Value × Nat) => cs.setIfInBounds (off + x.2) x.1) cs).toList = cs.toList.take off ++ l ++ cs.toList.drop (off + l.length) := by
  obtain ⟨h1, h2⟩ := Go.Great.foldl_set off l 0 cs
  apply List.ext_getElem?
  intro k
  rw [Array.getElem?_toList, h2 k]
  by_cases hk : k < off
  · rw [if_neg (by omega), List.append_assoc, List.getElem?_append_left (by simp; omega), List.getElem?_take_of_lt hk, Array.getElem?_toList]
  · by_cases hk2 : k < off + l.length
    · rw [if_pos (by omega), List.getElem?_append_left (by simp; omega), List.getElem?_append_right (by simp; omega)]
      congr 1
      simp; omega
    · rw [if_neg (by omega), List.getElem?_append_right (by simp; omega), List.getElem?_drop, Array.getElem?_toList]
      congr 1
      simp; omega

theorem fill_rep {γ : Gh} {w : World} {E : Entry} {N : Nat} {a : Act} {σ' : St T} (hs : Sat E N γ w a σ') (place : Nat → Option (Nat × Nat)) :
    ∀ (os : List (Nat × Operand)) (xs : List (Nat × Nat × Opd T)) (qs : List (Nat × Nat × List (CV T))) (z : List (CV T)) (cells : Array Value) (out : List (CV T)), cParts place os = some xs →
      (∀ i ∈ Opd.all (xs.map (·.2.2)), look σ' (.s i) = look σ (.s i)) → Rdps σ xs qs → RepCs γ w z cells.toList → fillC z qs = some out →
      ∃ cells', Instr.fill place cells (os.map fun (i, x) => (i, a.eval x)) = some cells' ∧ RepCs γ w out cells'.toList
  | [], xs, qs, z, cells, out, hx, _, hq, hz, hf => by
    simp only [cParts, Option.some.injEq] at hx
    subst hx
    cases qs with
    | cons _ _ => exact hq.elim
    | nil =>
      simp only [fillC, Option.some.injEq] at hf
      subst hf
      exact ⟨cells, rfl, hz⟩
  | (i, x) :: os, xs, qs, z, cells, out, hx, hl, hq, hz, hf => by
    simp only [cParts] at hx
    split at hx
    · rename_i off size y ys h1 h2 h3
      cases hx
      match qs, hq with
      | (off', size', cs) :: qs, hq =>
        obtain ⟨rfl, rfl, ⟨p, hp, hcs⟩, hq⟩ := hq
        simp only [fillC] at hf
        split at hf
        · rename_i hlen
          simp only [Bool.and_eq_true, Nat.ble_eq] at hlen
          obtain ⟨hlen1, hlen2⟩ := hlen
          have hlen1 := Nat.eq_of_beq_eq_true hlen1
          have hrep := pcells_rep hcs (Rd.rep hs h2 (fun j hj => hl j (by simp [Opd.all, hj])) hp)
          have hvl : (a.eval x).cells.size = cs.length := by have := hrep.length; simpa using this.symm
          have hcl : z.length = cells.size := by have := hz.length; simpa using this
          have hfold := foldl_set_list off' (a.eval x).cells.toList cells (by simp; omega)
          have hz' : RepCs γ w (z.take off' ++ cs ++ z.drop (off' + size')) ((((a.eval x).cells.toList.zipIdx 0).foldl (fun cs (x : Value × Nat) => cs.setIfInBounds (off' + x.2) x.1) cells)).toList := by
            rw [hfold]
            have e : off' + (a.eval x).cells.toList.length = off' + size' := by simp; omega
            rw [e]
            exact ((hz.take off').append hrep).append (hz.drop (off' + size'))
          obtain ⟨cells', h4, h5⟩ := fill_rep hs place os ys qs _ _ out h3 (fun j hj => hl j (by simp [Opd.all] at hj ⊢; exact .inr hj)) hq hz' hf
          refine ⟨cells', ?_, h5⟩
          simp only [List.map_cons, Instr.fill, h1]
          rw [if_neg (by simp; omega)]
          rw [← h4]
          congr 1
          rw [← Array.foldl_toList, Array.toList_zipIdx]
        · cases hf
    · cases hx

def cBuild (P : Program) (t : TypeId) (parts : List (Nat × Operand)) : Option (PK T) :=
  match P.info? t, P.underlying t with
  | some it, some (.array _ e) =>
    match it.zero, P.info? e with
    | some z, some ie => match zCVs z.cells.toList, cParts (fun i => some (i * ie.size, ie.size)) parts with
      | some zs, some ps => some (.build zs ps)
      | _, _ => none
    | _, _ => none
  | some it, some (.struct fields) =>
    match it.zero, fields.toList.mapM (fun f => (P.info? f.type).map fun i => (f.offset, i.size)) with
    | some z, some places => match zCVs z.cells.toList, cParts (fun i => places.toArray[i]?) parts with
      | some zs, some ps => some (.build zs ps)
      | _, _ => none
    | _, _ => none
  | _, _ => none

theorem kv_build {t : TypeId} {parts : Array (Nat × Operand)} {zs : List (CV T)} {ps : List (Nat × Nat × Opd T)} {qs : List (Nat × Nat × List (CV T))} {out : List (CV T)} (ho : o.op = .build t parts) (hc : cBuild C.P t parts.toList = some (.build zs ps))
    (h : Rdps σ ps qs) (hf : fillC zs qs = some out) : KValid C o σ (Opd.all (ps.map (·.2.2))) (.agg out) [] [] lo hi := by
  refine kv_pure fun σ' g1 _ γ a w hinv hs => ?_
  have key : ∃ cells', C.P.built t (parts.map fun (i, x) => (i, a.eval x)).toList = some cells' ∧ RepCs γ w out cells'.toList := by
    unfold cBuild at hc
    unfold Program.built
    have e : (parts.map fun (i, x) => (i, a.eval x)).toList = parts.toList.map fun (i, x) => (i, a.eval x) := by simp
    rw [e]
    split at hc
    · rename_i it _ e2 hi hu
      simp only [hi, hu]
      split at hc
      · rename_i z ie hz hie
        simp only [hz, hie]
        split at hc
        · rename_i zs' ps' h1 h2
          cases hc
          exact fill_rep hs _ _ _ _ _ _ _ h2 g1 h (zCVs_rep h1) hf
        · cases hc
      · cases hc
    · rename_i it fields hi hu
      simp only [hi, hu]
      split at hc
      · rename_i z places hz hpl
        simp only [hz, hpl]
        split at hc
        · rename_i zs' ps' h1 h2
          cases hc
          exact fill_rep hs _ _ _ _ _ _ _ h2 g1 h (zCVs_rep h1) hf
        · cases hc
      · cases hc
    · cases hc
  obtain ⟨cells', h1, h2⟩ := key
  refine ⟨.agg cells', ?_, by simp only [RepP]; exact ⟨cells'.toList, by simp, h2⟩⟩
  simp only [execOp, ho, Sem.run_bind, run_build w t _ _ h1, Result.andThen_ok, Sem.run_pure]

/-! ### Slice literals -/
def cMks (P : Program) (cu : TypeId → Option T.U) (t : TypeId) (len : Nat) (parts : List (Nat × Operand)) : Option (PK T) :=
  match P.underlying t with
  | some (.slice e) => match P.info? e, cu e with
    | some ie, some u => if parts.map (·.1) = List.range len ∧ 0 < ie.size ∧ len * ie.size ≤ 2 ^ 24 ∧ ie.zero.isSome = true ∧ ie.size = T.size u then match cOpds (parts.map (·.2)) with
        | some xs => some (.mks u xs)
        | none => none
      else none
    | _, _ => none
  | _ => none

theorem rowsOf_rep {u : T.U} {γ : Gh} {w : World} : ∀ {ps : List (PV T)} {as : List (T.El u)} {fs S : List Nat} {vs : List Value}, rowsOf σ u ps = some (as, fs) → RowsOK σ γ w S → (∀ nm ∈ fs, nm ∈ S) → RepPs γ w ps vs →
    (∃ γ', γ'.bt = γ.bt ∧ γ'.own = γ.own ∧ Evo (fun n => n ∈ fs) γ w γ' w ∧ RepDs γ'.imm w (as.flatMap (T.enc u)) (vs.flatMap fun v => v.cells.toList) ∧ RowsOK σ γ' w S) ∧ (∀ v ∈ vs, v.cells.size = T.size u) ∧ as.length = vs.length
  | [], as, fs, S, vs, h, H, _, hr => by
    simp only [rowsOf, Option.some.injEq, Prod.mk.injEq] at h
    obtain ⟨rfl, rfl⟩ := h
    cases vs with
    | nil => exact ⟨⟨γ, rfl, rfl, .refl _ _ _, trivial, H⟩, by simp, rfl⟩
    | cons _ _ => simp only [RepPs] at hr
  | p :: ps, as, fs, S, vs, h, H, hS, hr => by
    simp only [rowsOf] at h
    split at h
    · rename_i cs hcs
      split at h
      · rename_i xs f1 hx
        split at h
        · rename_i a hdec
          split at h
          · rename_i bs f2 hbs
            simp only [Option.some.injEq, Prod.mk.injEq] at h
            obtain ⟨rfl, rfl⟩ := h
            cases vs with
            | nil => simp only [RepPs] at hr
            | cons v vs =>
              simp only [RepPs] at hr
              obtain ⟨γ1, a1, a2, a3, a4, a5⟩ := rowOf_rep hx H (fun nm hm => hS nm (left hm)) (pcells_rep hcs hr.1)
              obtain ⟨⟨γ2, b1, b2, b3, b4, b5⟩, b6, b7⟩ := rowsOf_rep (γ := γ1) hbs a5 (fun nm hm => hS nm (right hm)) (RepPs.evo a3 _ _ hr.2)
              refine ⟨⟨γ2, b1.trans a1, b2.trans a2, (a3.weaken fun n h => left h).trans (b3.weaken fun n h => right h), ?_, b5⟩, fun v' hv' => ?_, by simp [b7]⟩
              · rw [List.flatMap_cons, List.flatMap_cons, T.dec_enc u _ _ hdec]
                exact (a4.evo b3.toDEvo).append b4
              · rcases List.mem_cons.1 hv' with rfl | hv'
                · have h1 := a4.length
                  rw [← T.dec_enc u _ _ hdec, T.enc_len] at h1
                  simpa using h1.symm
                · exact b6 v' hv'
          · cases h
        · cases h
      · cases h
    · cases h

theorem rowsOf_fs {u : T.U} : ∀ {ps : List (PV T)} {as : List (T.El u)} {fs : List Nat}, rowsOf σ u ps = some (as, fs) → ∀ nm ∈ fs, ∃ u l fz, look σ (.h nm) = some (.r u l fz)
  | [], as, fs, h => by simp only [rowsOf, Option.some.injEq, Prod.mk.injEq] at h; obtain ⟨rfl, rfl⟩ := h; simp
  | p :: ps, as, fs, h => by
    simp only [rowsOf] at h
    split at h
    · split at h
      · rename_i hx
        split at h
        · split at h
          · rename_i hbs
            simp only [Option.some.injEq, Prod.mk.injEq] at h
            obtain ⟨rfl, rfl⟩ := h
            intro nm hm
            rcases List.mem_append.1 hm with hm | hm
            · exact rowOf_fs hx nm hm
            · exact rowsOf_fs hbs nm hm
          · cases h
        · cases h
      · cases h
    · cases h

theorem eval_parts (a : Act) (parts : List (Nat × Operand)) (len : Nat) (h : parts.map (·.1) = List.range len) :
    (parts.map fun (i, x) => (i, a.eval x)) = (((parts.map (·.2)).map a.eval).zipIdx 0).map fun x => (x.2, x.1) := by
  apply List.ext_getElem?
  intro k
  have hk : (parts.map (·.1))[k]? = (List.range len)[k]? := by rw [h]
  simp only [List.getElem?_map, List.getElem?_zipIdx] at hk ⊢
  cases hp : parts[k]? with
  | none => simp
  | some q =>
    rw [hp] at hk
    have hlt : k < len := by
      have := (List.getElem?_eq_some_iff.1 hk.symm).1
      simpa using this
    have : q.1 = k := by simpa [hlt] using hk
    simp [this]

theorem flat_len (u : T.U) : ∀ (as : List (T.El u)), (as.flatMap (T.enc u)).length = as.length * T.size u
  | [] => by simp
  | x :: xs => by rw [List.flatMap_cons, List.length_append, T.enc_len, flat_len u xs, List.length_cons, Nat.add_mul]; omega

/-- What it is that a new row of cells is. -/
theorem row_new {γ γ' : Gh} {w w' : World} {X : Nat → Prop} (ev : Evo X γ w γ' w') {n : Nat} {u : T.U} {l : List (T.El u)} {fz : Bool} {vs : List Value} {c : Array Value} {t : TypeId} {cap b : Nat} (h : RepDs γ.imm w (l.flatMap (T.enc u)) vs)
    (hb : w'.heap[b]? = some (.cells c t (0, 0))) (hc : ∀ (j : Nat) (v : Value), vs[j]? = some v → c[j]? = some v) (hcap : l.length ≤ cap) (hsz : cap * T.size u ≤ c.size)
    (b1 : γ'.bt n = some (.row (some ⟨b, 0, none⟩) l.length cap)) (b2 : γ'.own b = some n) (b3 : γ'.imm b ≤ if fz then l.length * T.size u else 0) (tm : Nat → Value) : FactOK γ' w' tm (.h n) (.r u l fz) := by
  have hlt : b < w'.heap.size := (Array.getElem?_eq_some_iff.1 hb).1
  refine ⟨_, cap, b1, hcap, .inr ⟨b, 0, c, t, rfl, b2, hlt, hb, by omega, by simpa using b3, ?_⟩⟩
  refine RowsAt.of (h.evo ev.toDEvo) fun j v hj => ?_
  rw [Nat.zero_add]
  simp only [World.cell?, hb]
  simpa using hc j v hj

theorem kv_mks0 {cu : TypeId → Option T.U} {t : TypeId} {len : Nat} {parts : Array (Nat × Operand)} {u : T.U} (ho : o.op = .buildSlice t len parts) (hc : cMks C.P cu t len parts.toList = some (.mks u [])) : KValid C o σ [] (.one .nl) [] [] lo lo := by
  intro σ' g1 _ γ a w hi hs _ Q
  unfold cMks at hc
  split at hc
  · rename_i e hu
    split at hc
    · rename_i ie _ hie _
      split at hc
      · rename_i hcond
        obtain ⟨c1, c2, c3, c4, c5⟩ := hcond
        split at hc
        · rename_i xs' hxs
          simp only [Option.some.injEq, PK.mks.injEq] at hc
          obtain ⟨rfl, rfl⟩ := hc
          have hp : parts.toList = [] := by
            cases hq : parts.toList with
            | nil => rfl
            | cons q r =>
              rw [hq] at hxs
              simp only [List.map_cons, cOpds] at hxs
              split at hxs <;> cases hxs
          have hl : len = 0 := by
            rw [hp] at c1
            have := congrArg List.length c1
            simpa using this.symm
          subst hl
          have hp' : parts = #[] := by
            apply Array.ext'
            simpa using hp
          subst hp'
          have hrun : (Instr.buildSlice t 0 #[]).run C.P w = .ok (.slice (some ⟨w.heap.size, 0, none⟩) 0 0) (w.alloc (.cells #[] e)) := by
            have e0 : ∀ f : Nat → Value, Array.map f (Array.range 0) = #[] := fun f => Array.eq_empty_of_size_eq_zero (by simp)
            simp [Instr.buildSlice, run_underlying hu, sizeOf, typeInfo, hie, Instr.fill, newRow, e0]
          unfold Oper.wp execOp
          simp only [ho, Sem.run_bind, Array.map_empty, hrun, Result.andThen_ok, Sem.run_pure, Oper.upon_value]
          have ev : Evo (fun _ => False) γ w γ (w.alloc (.cells #[] e)) := {
            size := by simp, mono := fun _ _ => Nat.le_refl _, low := fun b i hb _ => cell_alloc_old w _ b i hb, os := rfl, tape := rfl, output := rfl
            same := fun b hb _ => ⟨Go.RowKit.Below.heap_alloc _ _ _ hb, rfl, rfl⟩, bt := fun _ _ h => h }
          refine ⟨γ, _, fun _ => False, rfl, fun _ _ => ?_, ev, fun _ h => h.elim, (fun _ _ h => by cases h), fun _ _ => rfl, fun _ _ h => .inr h, fun b hb => hi.ok b (by simp at hb; omega), .refl _ _ _⟩
          simp only [RepP, RepC]
          exact ⟨_, rfl⟩
        · cases hc
      · cases hc
    · cases hc
  · cases hc

theorem kv_mks {cu : TypeId → Option T.U} {t : TypeId} {len n : Nat} {parts : Array (Nat × Operand)} {u : T.U} {xs : List (Opd T)} {ps : List (PV T)} {as : List (T.El u)} {fs : List Nat} (ho : o.op = .buildSlice t len parts) (hc : cMks C.P cu t len parts.toList = some (.mks u xs))
    (h : Rds σ xs ps) (he : rowsOf σ u ps = some (as, fs)) (hne : xs ≠ []) (hl : C.E.loc n) : KValid C o σ (Opd.all xs) (.one (.own u n)) (hs fs) ((.h n, some (.r u as false)) :: frz σ fs) n (n + 1) := by
  intro σ' g1 g2 γ a w hi hs hf Q
  obtain ⟨hf1, hf2⟩ := hf n (Nat.le_refl _) (Nat.lt_succ_self _)
  unfold cMks at hc
  split at hc
  · rename_i e hu
    split at hc
    · rename_i ie u' hie hcu
      split at hc
      · rename_i hcond
        obtain ⟨c1, c2, c3, c4, c5⟩ := hcond
        split at hc
        · rename_i xs' hxs
          cases hc
          obtain ⟨z, hz⟩ := Option.isSome_iff_exists.1 c4
          have hrep := Rds.rep hs hxs g1 h
          have hlook : ∀ nm ∈ fs, look σ' (.h nm) = look σ (.h nm) := fun nm hm => g2 _ (by simp only [Go.G.hs, List.mem_map]; exact ⟨nm, hm, rfl⟩)
          obtain ⟨⟨γ1, a1, a2, a3, a4, a5⟩, k2, k4⟩ := rowsOf_rep he (RowsOK.of_sat hs hlook) (fun _ h => h) hrep
          have hplen : parts.toList.length = len := by have := congrArg List.length c1; simpa using this
          have hlen : ((parts.toList.map (·.2)).map a.eval).length = len := by simpa using hplen
          have hpos : 0 < len := by
            rcases Nat.eq_zero_or_pos len with h0 | h0
            · exfalso
              apply hne
              have : parts.toList = [] := List.eq_nil_of_length_eq_zero (hplen.trans h0)
              rw [this] at hxs
              simp [cOpds] at hxs
              exact hxs.symm ▸ rfl
            · exact h0
          have hfill : Instr.fill (fun i => some (i * ie.size, ie.size)) ((Array.range (len * ie.size)).map (z.cells[· % z.cells.size]!)) (parts.map fun (i, x) => (i, a.eval x)).toList = some (((parts.toList.map (·.2)).map a.eval).flatMap fun v => v.cells.toList).toArray := by
            have e1 : (parts.map fun (i, x) => (i, a.eval x)).toList = parts.toList.map fun (i, x) => (i, a.eval x) := by simp
            rw [e1, eval_parts a parts.toList len c1]
            exact Go.Great.fill_whole c2 _ _ (by rw [c5]; exact k2) (by simp [hplen])
          have hrun := run_buildSlice w t e len (parts.map fun (i, x) => (i, a.eval x)) _ ie z hu hie hz (by omega) (by
            have : 0 < len * ie.size := Nat.mul_pos hpos c2
            omega) hfill
          unfold Oper.wp execOp
          simp only [ho, Sem.run_bind, hrun, Result.andThen_ok, Sem.run_pure, Oper.upon_value]
          have hal : as.length = len := k4.trans hlen
          have hf1' : γ1.bt n = none := by rw [a1]; exact hf1
          have ev2 : Evo (fun _ => False) γ1 w (γ1.newBlk w.heap.size n (.row (some ⟨w.heap.size, 0, none⟩) len len) 0) (w.alloc (.cells (((parts.toList.map (·.2)).map a.eval).flatMap fun v => v.cells.toList).toArray e)) := Evo.newBlk hf1' _ _ _
          have hi1 : Inv C.E γ1 w := hi.step a3 C.ok (fun nm hm => by
            obtain ⟨u', l', fz', hlk⟩ := rowsOf_fs he nm hm
            exact hs.perm nm _ ((hlook nm hm).trans hlk)) (fun nm _ => by rw [a1]) (fun b nm hb => by rw [a2] at hb; exact .inr hb) (fun b hb => by rw [a2]; exact hi.ok b hb)
          obtain ⟨p1, p2, p3, p4⟩ := newBlk_parts (C := C) (g := .row (some ⟨w.heap.size, 0, none⟩) len len) (im := 0) (o := .cells (((parts.toList.map (·.2)).map a.eval).flatMap fun v => v.cells.toList).toArray e) hi1 hl
          have hnf : ∀ nm ∈ fs, nm ≠ n := fun nm hm he' => by
            subst he'
            obtain ⟨u', l', fz', hlk⟩ := rowsOf_fs he nm hm
            obtain ⟨A, cap, q1, _⟩ := hs.facts _ _ ((hlook nm hm).trans hlk)
            rw [hf1] at q1; cases q1
          refine ⟨_, _, fun nm => nm ∈ fs, rfl, fun _ _ => ?_, a3.trans (ev2.weaken fun _ h => h.elim), fun nm hm => ?_, fun l f hm => ?_, fun nm hn => by rw [p1 nm hn, a1], fun b nm hb => ?_, p3, ?_⟩
          · simp only [RepP, RepC]
            exact ⟨some ⟨w.heap.size, 0, none⟩, len, len, by simp [Gh.newBlk], rfl⟩
          · obtain ⟨u', l', fz', hlk⟩ := rowsOf_fs he nm hm
            refine ⟨hs.perm nm _ ((hlook nm hm).trans hlk), ?_⟩
            simp only [locs, List.map_cons, List.mem_cons]
            exact .inr (frz_locs hm hlk)
          · rcases List.mem_cons.1 hm with hm | hm
            · simp only [Prod.mk.injEq, Option.some.injEq] at hm
              obtain ⟨rfl, rfl⟩ := hm
              refine ⟨n, rfl, .inr hl, fun tm => ?_⟩
              refine row_new (cap := len) (b := w.heap.size) ev2 a4 (heap_alloc_at _ _) (fun j v hj => by simpa using hj) (by omega) ?_ (by simp [Gh.newBlk, hal]) (by simp [Gh.newBlk]) (by simp [Gh.newBlk]) tm
              have h1 := a4.length
              have h2 := flat_len u as
              rw [hal] at h2
              simp only [List.size_toArray]
              omega
            · obtain ⟨nm, u2, l2, fz2, m1, rfl, m3, rfl⟩ := mem_frz hm
              refine ⟨nm, rfl, hs.perm nm _ ((hlook nm m1).trans m3), fun tm => ?_⟩
              exact ((a5 nm m1 u2 l2 fz2 m3).evo ev2 (fun _ _ h => h) (fun _ _ => rfl)).mem (by simp)
          · rcases p2 b nm hb with h | h
            · exact .inl h
            · rw [a2] at h; exact .inr h
          · refine Kept.trans (b := γ1) (fun nm _ _ => ⟨by rw [a1], fun b hb => by rw [a2] at hb; exact hb⟩) p4
        · cases hc
      · cases hc
    · cases hc
  · cases hc
end
end Go.G
