import Derived.Test.YtmknondapmmehaaGEq
set_option linter.unusedVariables false
set_option linter.unusedSimpArgs false
namespace Go.G
variable {T : Uni}
section
variable {C : Ctx} {o : Oper} {σ : St T} {lo hi : Nat}

theorem kv_eqa {op : BinOp} {neg : Bool} {t t' : TypeId} {x y : Operand} {Xx Yy : Opd T} {ks : List K1} {cs ds : List (CV T)} {r : Bool} (ho : o.op = .binOp op t x y t') (hop : op = if neg then .neq else .eql) (hx : cOpd x = some Xx) (hy : cOpd y = some Yy)
    (ha : tyAg C.P t = some true) (hg : C.P.eqGuardType C.P.depth t = false) (hk : kinds C.P 50 t = some ks) (h1 : Rd σ Xx (.agg cs)) (h2 : Rd σ Yy (.agg ds)) (he : ceqs ks cs ds = some r) :
    KValid C o σ (Xx.slots ++ Yy.slots) (bl (if neg then !r else r)) [] [] lo hi := by
  refine kv_pure fun σ' g1 _ γ ac w hinv hs => ?_
  have e1 := Rd.rep hs hx (fun j hj => g1 j (left hj)) h1
  have e2 := Rd.rep hs hy (fun j hj => g1 j (right hj)) h2
  simp only [RepP] at e1 e2
  obtain ⟨xs, e1, r1⟩ := e1
  obtain ⟨ys, e2, r2⟩ := e2
  have key := kinds_eq (P := C.P) γ w 50 t ks cs ds xs ys r true 10000 hk ha (by omega) r1 r2 he
  simp only [mkV, if_true] at key
  cases neg <;> simp only [Bool.false_eq_true, if_false, if_true] at hop ⊢ <;> subst hop
  · exact ⟨.bool r, by simp [execOp, ho, e1, e2, run_eqGuard_agg, hg, run_eql_struct, key], mkB⟩
  · exact ⟨.bool (!r), by simp [execOp, ho, e1, e2, run_eqGuard_agg, hg, run_neq_struct, key], mkB⟩

/-! ### Stores -/
theorem cell_setRow_other (w : World) (b : Nat) (cs : Array Value) (a : Addr) (h : a.block ≠ b) : (w.setRow b cs).cell? a = w.cell? a := by
  unfold World.cell?
  rw [setRow_other _ _ _ _ h]

theorem Evo.setRow {γ : Gh} {w : World} {b nm : Nat} {cs cs' : Array Value} {t : TypeId} (hb : w.heap[b]? = some (.cells cs t (0, 0))) (ho : γ.own b = some nm)
    (hlow : ∀ i, i < γ.imm b → cs'[i]? = cs[i]?) : Evo (fun n => n = nm) γ w γ (w.setRow b cs') where
  size := by rw [setRow_size]; exact Nat.le_refl _
  mono := fun _ _ => Nat.le_refl _
  low := fun k i hk hi => by
    by_cases hkb : k = b
    · subst hkb
      rw [cell_setRow_same _ _ _ _ _ _ _ hb, hlow i hi]
      simp [World.cell?, hb]
    · exact cell_setRow_other _ _ _ _ hkb
  os := rfl
  tape := rfl
  output := rfl
  same := fun k hk hx => by
    have hkb : k ≠ b := by rintro rfl; exact hx nm ho rfl
    exact ⟨setRow_other _ _ _ _ hkb, rfl, rfl⟩
  bt := fun _ _ h => h

theorem kv_store_ref {t : TypeId} {x y : Operand} {Xx Yy : Opd T} {m : Nat} {nm off : Nat} {q : PV T} {new cs : List (CV T)} (ho : o.op = .store t x y) (hd : o.dst = none) (hx : cOpd x = some Xx) (hy : cOpd y = some Yy) (hm : tySz C.P t = some m)
    (h1 : Rd σ Xx (.one (.ref nm off))) (h2 : Rd σ Yy q) (hq : pcells q = some new) (hl : new.length = m) (hb : look σ (.h nm) = some (.b cs)) (hlen : off + m ≤ cs.length) :
    KValid C o σ (Xx.slots ++ Yy.slots) .junk [.h nm] [(.h nm, some (.b (cs.take off ++ new ++ cs.drop (off + m))))] lo lo := by
  intro σ' g1 g2 γ a w hi hs _ Q
  have e1 := Rd.rep hs hx (fun j hj => g1 j (left hj)) h1
  have e2 := Rd.rep hs hy (fun j hj => g1 j (right hj)) h2
  have e3 := pcells_rep hq e2
  simp only [RepP, RepC] at e1
  obtain ⟨b, hbox, e1⟩ := e1
  have hlk := (g2 _ (by simp)).trans hb
  obtain ⟨b', vs, ty, h3, h3o, h3i, hblt, h4, h5⟩ := hs.facts (.h nm) (.b cs) hlk
  rw [hbox] at h3; cases h3
  have hcl : cs.length = vs.size := by have := h5.length; simpa using this
  have hnl : (a.eval y).cells.size = m := by have := e3.length; simp at this; omega
  have hst := run_storeCells_at C.P b off ty (a.eval y).cells.toList 0 vs w h4 (by simp; omega) e3.one
  have hln : (a.eval y).cells.toList.length = m := by simpa using hnl
  simp only [Nat.add_zero, hln] at hst
  have hrun : (Instr.storeAt t (a.eval x) (a.eval y)).run C.P w = .ok () (w.setRow b (vs.toList.take off ++ (a.eval y).cells.toList ++ vs.toList.drop (off + m)).toArray) := by
    rw [e1]
    simp only [Instr.storeAt, Instr.sureAddr, Sem.run_bind, Sem.run_pure, Result.andThen_ok, storeVar, run_sizeOf hm, Sem.run_ite, hnl, ne_eq, not_true_eq_false, if_false, hst]
  have hE : Evo (fun n => n = nm) γ w γ (w.setRow b (vs.toList.take off ++ (a.eval y).cells.toList ++ vs.toList.drop (off + m)).toArray) := Evo.setRow h4 h3o fun i hi => by omega
  unfold Oper.wp execOp
  simp only [ho, Sem.run_bind, hrun, Result.andThen_ok, Sem.run_pure, Oper.upon_skip]
  refine ⟨γ, undef, fun n => n = nm, rfl, (by intro d hd'; rw [hd] at hd'; cases hd'), hE, fun n hn => ?_, fun l f hm' => ?_, fun _ _ => rfl, fun _ _ h => .inr h, fun k hk => hi.ok k (by rw [setRow_size] at hk; exact hk), .refl _ _ _⟩
  · subst hn
    exact ⟨hs.perm _ _ hlk, by simp [locs]⟩
  · simp only [List.mem_singleton, Prod.mk.injEq, Option.some.injEq] at hm'
    obtain ⟨rfl, rfl⟩ := hm'
    refine ⟨nm, rfl, hs.perm _ _ hlk, fun tm => ⟨b, _, ty, hbox, h3o, h3i, by rw [setRow_size]; exact hblt, setRow_heap _ _ _ _ _ _ h4, ?_⟩⟩
    exact RepCs.evo hE (((h5.take off).append e3).append (h5.drop (off + m)))

/-! ### Rows -/
theorem RowsAt.values {imm : Nat → Nat} {w : World} {b : Nat} {u : T.U} : ∀ {l : List (T.El u)} {off : Nat}, RowsAt imm w b off u l → ∃ vs : List Value, vs.length = l.length * T.size u ∧ (∀ (j : Nat) (v : Value), vs[j]? = some v → w.cell? ⟨b, off + j, none⟩ = some v) ∧ RepDs imm w (l.flatMap (T.enc u)) vs
  | [], off, _ => ⟨[], by simp, by simp, trivial⟩
  | x :: xs, off, h => by
    have h0 := h 0 x rfl
    simp only [Nat.zero_mul, Nat.add_zero] at h0
    obtain ⟨vs1, k1, k2, k3⟩ := h0.values
    obtain ⟨vs2, m1, m2, m3⟩ := RowsAt.values (l := xs) (off := off + T.size u) fun i a ha => by
      have := h (i + 1) a (by simpa using ha)
      rw [show off + T.size u + i * T.size u = off + (i + 1) * T.size u by rw [Nat.add_mul]; omega]
      exact this
    rw [T.enc_len] at k1
    refine ⟨vs1 ++ vs2, by simp [k1, m1, Nat.add_mul, Nat.add_comm], fun j v hj => ?_, by rw [List.flatMap_cons]; exact k3.append m3⟩
    by_cases hlt : j < vs1.length
    · rw [List.getElem?_append_left hlt] at hj
      exact k2 j v hj
    · rw [List.getElem?_append_right (by omega)] at hj
      have := m2 _ v hj
      rw [k1, show off + T.size u + (j - T.size u) = off + j by rw [k1] at hlt; omega] at this
      exact this

theorem RepDs.split {imm : Nat → Nat} {w : World} : ∀ {xs ys : List (DV T.toSig)} {vs : List Value}, RepDs imm w (xs ++ ys) vs → RepDs imm w xs (vs.take xs.length) ∧ RepDs imm w ys (vs.drop xs.length)
  | [], ys, vs, h => ⟨by simp [RepDs], by simpa using h⟩
  | x :: xs, ys, v :: vs, h => by
    have := RepDs.split (xs := xs) h.2
    exact ⟨⟨h.1, this.1⟩, by simpa using this.2⟩
  | _ :: _, _, [], h => h.elim

theorem RowsAt.of {imm : Nat → Nat} {w : World} {b : Nat} {u : T.U} : ∀ {l : List (T.El u)} {off : Nat} {vs : List Value}, RepDs imm w (l.flatMap (T.enc u)) vs → (∀ (j : Nat) (v : Value), vs[j]? = some v → w.cell? ⟨b, off + j, none⟩ = some v) → RowsAt imm w b off u l
  | [], _, _, _, _ => fun i a ha => by simp at ha
  | x :: xs, off, vs, h, hc => by
    rw [List.flatMap_cons] at h
    obtain ⟨h1, h2⟩ := h.split
    have he := T.enc_len u x
    have ih := RowsAt.of (l := xs) (off := off + T.size u) h2 fun j v hj => by
      rw [List.getElem?_drop, he] at hj
      rw [show off + T.size u + j = off + (T.size u + j) by omega]
      exact hc _ v hj
    intro i a ha
    cases i with
    | zero =>
      simp at ha
      subst ha
      simp only [Nat.zero_mul, Nat.add_zero]
      refine RowAt.of h1 fun j v hj => hc j v ?_
      rw [List.getElem?_take] at hj
      split at hj
      · exact hj
      · cases hj
    | succ i =>
      have := ih i a (by simpa using ha)
      rw [show off + T.size u + i * T.size u = off + (i + 1) * T.size u by rw [Nat.add_mul]; omega] at this
      exact this

theorem RowsAt.evo {imm imm' : Nat → Nat} {w w' : World} (E : DEvo imm w imm' w') {b off : Nat} {u : T.U} {l : List (T.El u)} (hb : b < w.heap.size) (hi : off + l.length * T.size u ≤ imm b) (h : RowsAt imm w b off u l) : RowsAt imm' w' b off u l := by
  intro i a ha
  refine (h i a ha).evo E hb ?_
  rw [T.enc_len]
  have : (i + 1) * T.size u ≤ l.length * T.size u := Nat.mul_le_mul_right _ (getElem?_lt ha)
  rw [Nat.add_mul] at this
  omega

theorem RowsAt.same {γ γ' : Gh} {w w' : World} (E : DEvo γ.imm w γ'.imm w') {b off : Nat} {u : T.U} {l : List (T.El u)} (hs : w'.heap[b]? = w.heap[b]?) (h : RowsAt γ.imm w b off u l) : RowsAt γ'.imm w' b off u l :=
  fun i a ha => (h i a ha).same E hs

/-! ### Freezing -/
theorem RowOK.frozen {γ : Gh} {w : World} {nm : Nat} {u : T.U} {l : List (T.El u)} {fz : Bool} {A : Option Addr} {cap : Nat} (h : RowOK γ w nm u l fz A cap) : RowOK γ w nm u l true A cap := by
  rcases h with h | ⟨b, off, c, t, e1, e2, e3, e4, e5, e6, e7⟩
  · exact .inl h
  · refine .inr ⟨b, off, c, t, e1, e2, e3, e4, e5, ?_, e7⟩
    simp only [if_true]
    split at e6 <;> omega

theorem FactOK.frozen {γ : Gh} {w : World} {tm : Nat → Value} {nm : Nat} {u : T.U} {l : List (T.El u)} {fz : Bool} (h : FactOK γ w tm (.h nm) (.r u l fz)) : FactOK γ w tm (.h nm) (.r u l true) := by
  obtain ⟨A, cap, h1, h2, h3⟩ := h
  exact ⟨A, cap, h1, h2, h3.frozen⟩

theorem freeze_one {γ : Gh} {w : World} {tm : Nat → Value} {nm : Nat} {u : T.U} {l : List (T.El u)} (h : FactOK γ w tm (.h nm) (.r u l true)) :
    ∃ γ', γ'.bt = γ.bt ∧ γ'.own = γ.own ∧ Evo (fun n => n = nm) γ w γ' w ∧ FactOK γ' w tm (.h nm) (.r u l true) ∧ (∀ A len cap, γ.bt nm = some (.row A len cap) → len = l.length ∧ RepD T γ'.imm w (.sl u l) (.slice A len cap)) := by
  obtain ⟨A, cap, h1, h2, h3⟩ := h
  rcases h3 with ⟨h3, h4⟩ | ⟨b, off, c, t, e1, e2, e3, e4, e5, e6, e7⟩
  · refine ⟨γ, rfl, rfl, .refl _ _ _, ⟨A, cap, h1, h2, .inl ⟨h3, h4⟩⟩, fun A' len cap' hb => ?_⟩
    rw [h1] at hb; cases hb
    subst h4
    exact ⟨rfl, .nil _ _ _⟩
  · simp only [if_true] at e6
    let γ' : Gh := { γ with imm := fun k => if k = b then off + l.length * T.size u else γ.imm k }
    have ev : Evo (fun n => n = nm) γ w γ' w := {
      size := Nat.le_refl _
      mono := fun k _ => by
        show γ.imm k ≤ if k = b then _ else _
        split
        · rename_i hk; subst hk; exact e6
        · exact Nat.le_refl _
      low := fun _ _ _ _ => rfl
      os := rfl, tape := rfl, output := rfl
      same := fun k _ hx => by
        have hkb : k ≠ b := by rintro rfl; exact hx nm e2 rfl
        exact ⟨rfl, rfl, by show (if k = b then _ else _) = _; rw [if_neg hkb]⟩
      bt := fun _ _ h => h }
    have e7' : RowsAt γ'.imm w b off u l := e7.same ev.toDEvo rfl
    have him : γ'.imm b = off + l.length * T.size u := by show (if b = b then _ else _) = _; rw [if_pos rfl]
    refine ⟨γ', rfl, rfl, ev, ⟨A, cap, h1, h2, .inr ⟨b, off, c, t, e1, e2, e3, e4, e5, by rw [him]; simp, e7'⟩⟩, fun A' len cap' hb => ?_⟩
    rw [h1] at hb; cases hb
    exact ⟨rfl, RepD.sl_iff.2 ⟨A, cap, rfl, h2, .inr ⟨b, off, e1, e3, by rw [him]; exact Nat.le_refl _, e7'⟩⟩⟩

theorem RepD.sub {imm : Nat → Nat} {w : World} {u : T.U} {l : List (T.El u)} {A : Option Addr} {len cap : Nat} {a b : Nat} (hr : RepD T imm w (.sl u l) (.slice A len cap)) (h1 : a ≤ b) (h2 : b ≤ l.length) {A' : Option Addr} (hA : a < cap → A' = A.map (·.add (a * T.size u))) :
    RepD T imm w (.sl u ((l.take b).drop a)) (.slice A' (b - a) (cap - a)) := by
  obtain ⟨A0, cap0, e, hc, hr2⟩ := RepD.sl_iff.1 hr
  clear hr
  cases e
  have hlen : ((l.take b).drop a).length = b - a := by simp; omega
  refine RepD.sl_iff.2 ⟨A', cap - a, by rw [hlen], by rw [hlen]; omega, ?_⟩
  by_cases he : b - a = 0
  · exact .inl (List.eq_nil_of_length_eq_zero (by rw [hlen]; exact he))
  · rcases hr2 with hr | ⟨bb, off, rfl, hb, hs, hr⟩
    · subst hr; simp at h2; omega
    · refine .inr ⟨bb, off + a * T.size u, by rw [hA (by omega)]; simp [addr_add], hb, ?_, fun i x hx => ?_⟩
      · rw [hlen]
        have : (a + (b - a)) * T.size u ≤ l.length * T.size u := Nat.mul_le_mul_right _ (by omega)
        rw [Nat.add_mul] at this
        omega
      · rw [List.getElem?_drop, List.getElem?_take] at hx
        split at hx
        · have := hr _ _ hx
          rw [show off + a * T.size u + i * T.size u = off + (a + i) * T.size u by rw [Nat.add_mul]; omega]
          exact this
        · cases hx

theorem dsub_some {α : Type} {l l' : List α} {a b : Int} (h : dsub l a b = some l') : 0 ≤ a ∧ a ≤ b ∧ b ≤ l.length ∧ l' = (l.take b.toNat).drop a.toNat := by
  unfold dsub at h
  split at h
  · rename_i hh; cases h; exact ⟨hh.1, hh.2.1, hh.2.2, rfl⟩
  · cases h

/-- The rows that a state knows, as rows that may be frozen. -/
def RowsOK (σ : St T) (γ : Gh) (w : World) (S : List Nat) : Prop := ∀ nm ∈ S, ∀ u l fz, look σ (.h nm) = some (.r u l fz) → FactOK γ w (fun _ => undef) (.h nm) (.r u l true)

theorem RowsOK.of_sat {E : Entry} {N : Nat} {γ : Gh} {w : World} {a : Act} {σ σ' : St T} (hs : Sat E N γ w a σ') {S : List Nat} (hl : ∀ nm ∈ S, look σ' (.h nm) = look σ (.h nm)) : RowsOK σ γ w S :=
  fun nm hm u l fz hlk => ((hs.facts (.h nm) (.r u l fz) ((hl nm hm).trans hlk)).frozen).mem (by simp)

theorem RowsOK.evo {σ : St T} {γ γ' : Gh} {w w' : World} {X : Nat → Prop} {S : List Nat} (h : RowsOK σ γ w S) (ev : Evo X γ w γ' w') (hx : ∀ nm ∈ S, X nm → ∀ u l fz, look σ (.h nm) = some (.r u l fz) → FactOK γ' w' (fun _ => undef) (.h nm) (.r u l true)) : RowsOK σ γ' w' S := by
  intro nm hm u l fz hlk
  rcases Classical.em (X nm) with h' | h'
  · exact hx nm hm h' u l fz hlk
  · exact (h nm hm u l fz hlk).evo ev (fun n e => by cases e; exact h') (fun _ _ => rfl)

theorem cvD_rep {γ : Gh} {w : World} {sh : Option T.U} {c : CV T} {x : DV T.toSig} {fs S : List Nat} {v : Value} (hc : cvD σ sh c = some (x, fs)) (H : RowsOK σ γ w S) (hS : ∀ nm ∈ fs, nm ∈ S) (hr : RepC γ w c v) :
    ∃ γ', γ'.bt = γ.bt ∧ γ'.own = γ.own ∧ Evo (fun n => n ∈ fs) γ w γ' w ∧ RepD T γ'.imm w x v ∧ RowsOK σ γ' w S := by
  have pure : ∀ {x : DV T.toSig}, fs = [] → RepD T γ.imm w x v → ∃ γ', γ'.bt = γ.bt ∧ γ'.own = γ.own ∧ Evo (fun n => n ∈ fs) γ w γ' w ∧ RepD T γ'.imm w x v ∧ RowsOK σ γ' w S := fun _ h => ⟨γ, rfl, rfl, .refl _ _ _, h, H⟩
  have row : ∀ {nm : Nat} {u : T.U} {l : List (T.El u)} {fz : Bool}, fs = [nm] → look σ (.h nm) = some (.r u l fz) →
      ∃ γ', γ'.bt = γ.bt ∧ γ'.own = γ.own ∧ Evo (fun n => n ∈ fs) γ w γ' w ∧ (∀ A len cap, γ.bt nm = some (.row A len cap) → len = l.length ∧ RepD T γ'.imm w (.sl u l) (.slice A len cap)) ∧ RowsOK σ γ' w S := by
    intro nm u l fz hfs hlk
    subst hfs
    obtain ⟨γ', h1, h2, h3, h4, h5⟩ := freeze_one (H nm (hS nm (by simp)) u l fz hlk)
    refine ⟨γ', h1, h2, h3.weaken (by simp), h5, H.evo h3 fun nm' hm hx u' l' fz' hlk' => ?_⟩
    subst hx
    rw [hlk] at hlk'
    cases hlk'
    exact h4
  cases c with
  | d y => simp only [cvD, Option.some.injEq, Prod.mk.injEq] at hc; obtain ⟨rfl, rfl⟩ := hc; exact pure rfl hr
  | nl =>
    cases sh with
    | none => simp [cvD] at hc
    | some u =>
      simp only [cvD, Option.some.injEq, Prod.mk.injEq] at hc
      obtain ⟨rfl, rfl⟩ := hc
      obtain ⟨A, rfl⟩ := hr
      exact pure rfl (.nil _ _ _)
  | own u0 nm =>
    simp only [cvD] at hc
    split at hc
    · rename_i u l fz hlk
      simp only [Option.some.injEq, Prod.mk.injEq] at hc
      obtain ⟨rfl, rfl⟩ := hc
      obtain ⟨γ', h1, h2, h3, h4, h5⟩ := row rfl hlk
      obtain ⟨A, len, cap, k1, rfl⟩ := hr
      exact ⟨γ', h1, h2, h3, (h4 A len cap k1).2, h5⟩
    · cases hc
  | buf u0 nm off len =>
    simp only [cvD] at hc
    split at hc
    · rename_i u l fz hlk
      split at hc
      · rename_i hu _
        simp only [Option.some.injEq, Prod.mk.injEq] at hc
        obtain ⟨rfl, rfl⟩ := hc
        obtain ⟨γ', h1, h2, h3, h4, h5⟩ := row rfl hlk
        obtain ⟨A, L, cap, A', k1, k2, k3, k4, k5, rfl, k6⟩ := hr
        obtain ⟨m1, m2⟩ := h4 A L cap k1
        refine ⟨γ', h1, h2, h3, ?_, h5⟩
        have := RepD.sub (a := off.toNat) (b := (off + len).toNat) m2 (by omega) (by omega) (A' := A') (fun hlt => by rw [← hu]; exact k6 (by omega))
        rw [show (off + len).toNat - off.toNat = len.toNat by omega] at this
        exact this
      · cases hc
    · cases hc
  | _ => cases sh <;> simp [cvD] at hc

theorem rowOf_rep {γ : Gh} {w : World} : ∀ {shs : List (Option T.U)} {cs : List (CV T)} {xs : List (DV T.toSig)} {fs S : List Nat} {vs : List Value}, rowOf σ shs cs = some (xs, fs) → RowsOK σ γ w S → (∀ nm ∈ fs, nm ∈ S) → RepCs γ w cs vs →
    ∃ γ', γ'.bt = γ.bt ∧ γ'.own = γ.own ∧ Evo (fun n => n ∈ fs) γ w γ' w ∧ RepDs γ'.imm w xs vs ∧ RowsOK σ γ' w S
  | [], [], xs, fs, S, vs, h, H, _, hr => by
    simp only [rowOf, Option.some.injEq, Prod.mk.injEq] at h
    obtain ⟨rfl, rfl⟩ := h
    cases vs with
    | nil => exact ⟨γ, rfl, rfl, .refl _ _ _, trivial, H⟩
    | cons _ _ => exact hr.elim
  | sh :: shs, c :: cs, xs, fs, S, vs, h, H, hS, hr => by
    simp only [rowOf] at h
    split at h
    · rename_i x f1 hx
      split at h
      · rename_i ys f2 hy
        simp only [Option.some.injEq, Prod.mk.injEq] at h
        obtain ⟨rfl, rfl⟩ := h
        cases vs with
        | nil => exact hr.elim
        | cons v vs =>
          obtain ⟨γ1, a1, a2, a3, a4, a5⟩ := cvD_rep hx H (fun nm hm => hS nm (left hm)) hr.1
          obtain ⟨γ2, b1, b2, b3, b4, b5⟩ := rowOf_rep (γ := γ1) hy a5 (fun nm hm => hS nm (right hm)) (RepCs.evo a3 hr.2)
          exact ⟨γ2, b1.trans a1, b2.trans a2, (a3.weaken fun n h => left h).trans (b3.weaken fun n h => right h), ⟨a4.evo b3.toDEvo, b4⟩, b5⟩
      · cases h
    · cases h
  | [], _ :: _, _, _, _, _, h, _, _, _ => by simp [rowOf] at h
  | _ :: _, [], _, _, _, _, h, _, _, _ => by simp [rowOf] at h

theorem rowOf_len : ∀ {shs : List (Option T.U)} {cs : List (CV T)} {xs : List (DV T.toSig)} {fs : List Nat}, rowOf σ shs cs = some (xs, fs) → xs.length = cs.length ∧ shs.length = cs.length
  | [], [], xs, fs, h => by simp only [rowOf, Option.some.injEq, Prod.mk.injEq] at h; obtain ⟨rfl, rfl⟩ := h; simp
  | sh :: shs, c :: cs, xs, fs, h => by
    simp only [rowOf] at h
    split at h
    · split at h
      · rename_i hy
        simp only [Option.some.injEq, Prod.mk.injEq] at h
        obtain ⟨rfl, rfl⟩ := h
        have := rowOf_len hy
        simp [this]
      · cases h
    · cases h
  | [], _ :: _, _, _, h => by simp [rowOf] at h
  | _ :: _, [], _, _, h => by simp [rowOf] at h

theorem mem_frz : ∀ {fs : List Nat} {l : Loc} {f : Fact T}, (l, some f) ∈ frz σ fs → ∃ nm u ll fz, nm ∈ fs ∧ l = .h nm ∧ look σ (.h nm) = some (.r u ll fz) ∧ f = .r u ll true
  | [], _, _, h => by simp [frz] at h
  | nm :: r, l, f, h => by
    simp only [frz] at h
    split at h
    · rename_i u ll fz hlk
      rcases List.mem_cons.1 h with h | h
      · simp only [Prod.mk.injEq, Option.some.injEq] at h
        obtain ⟨rfl, rfl⟩ := h
        exact ⟨nm, u, ll, fz, by simp, rfl, hlk, rfl⟩
      · obtain ⟨nm', u', l', fz', h1, h2⟩ := mem_frz h
        exact ⟨nm', u', l', fz', by simp [h1], h2⟩
    · obtain ⟨nm', u', l', fz', h1, h2⟩ := mem_frz h
      exact ⟨nm', u', l', fz', by simp [h1], h2⟩

theorem frz_locs : ∀ {fs : List Nat} {nm : Nat} {u : T.U} {ll : List (T.El u)} {fz : Bool}, nm ∈ fs → look σ (.h nm) = some (.r u ll fz) → Loc.h nm ∈ locs (frz σ fs)
  | nm' :: r, nm, u, ll, fz, h, hlk => by
    simp only [frz]
    rcases List.mem_cons.1 h with rfl | h
    · rw [hlk]; simp [locs]
    · have := frz_locs h hlk
      split
      · simp only [locs, List.map_cons, List.mem_cons]; exact .inr this
      · exact this

theorem cvD_fs {sh : Option T.U} {c : CV T} {x : DV T.toSig} {fs : List Nat} (hc : cvD σ sh c = some (x, fs)) : ∀ nm ∈ fs, ∃ u l fz, look σ (.h nm) = some (.r u l fz) := by
  cases c with
  | d y => simp only [cvD, Option.some.injEq, Prod.mk.injEq] at hc; obtain ⟨rfl, rfl⟩ := hc; simp
  | nl =>
    cases sh with
    | none => simp [cvD] at hc
    | some u => simp only [cvD, Option.some.injEq, Prod.mk.injEq] at hc; obtain ⟨rfl, rfl⟩ := hc; simp
  | own u0 nm =>
    simp only [cvD] at hc
    split at hc
    · rename_i u l fz hlk
      simp only [Option.some.injEq, Prod.mk.injEq] at hc
      obtain ⟨rfl, rfl⟩ := hc
      intro nm' hm
      simp at hm; subst hm
      exact ⟨u, l, fz, hlk⟩
    · cases hc
  | buf u0 nm off len =>
    simp only [cvD] at hc
    split at hc
    · rename_i u l fz hlk
      split at hc
      · simp only [Option.some.injEq, Prod.mk.injEq] at hc
        obtain ⟨rfl, rfl⟩ := hc
        intro nm' hm
        simp at hm; subst hm
        exact ⟨u, l, fz, hlk⟩
      · cases hc
    · cases hc
  | _ => cases sh <;> simp [cvD] at hc

theorem rowOf_fs : ∀ {shs : List (Option T.U)} {cs : List (CV T)} {xs : List (DV T.toSig)} {fs : List Nat}, rowOf σ shs cs = some (xs, fs) → ∀ nm ∈ fs, ∃ u l fz, look σ (.h nm) = some (.r u l fz)
  | [], [], xs, fs, h => by simp only [rowOf, Option.some.injEq, Prod.mk.injEq] at h; obtain ⟨rfl, rfl⟩ := h; simp
  | sh :: shs, c :: cs, xs, fs, h => by
    simp only [rowOf] at h
    split at h
    · rename_i hx
      split at h
      · rename_i hy
        simp only [Option.some.injEq, Prod.mk.injEq] at h
        obtain ⟨rfl, rfl⟩ := h
        intro nm hm
        rcases List.mem_append.1 hm with hm | hm
        · exact cvD_fs hx nm hm
        · exact rowOf_fs hy nm hm
      · cases h
    · cases h
  | [], _ :: _, _, _, h => by simp [rowOf] at h
  | _ :: _, [], _, _, h => by simp [rowOf] at h
end
end Go.G
