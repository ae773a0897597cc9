import Derived.Test.YtmknondapmmehaaGMap
set_option linter.unusedVariables false
set_option linter.unusedSimpArgs false
namespace Go.G
variable {T : Uni}

theorem RepM.push {imm : Nat → Nat} {w : World} {uk uv : T.U} {k : T.El uk} {q : T.El uv} {e : MapEntry} (hk : ∃ vs, e.key = mkV (T.ag uk) vs ∧ RepDs imm w (T.enc uk k) vs) (hv : ∃ vs, e.val = mkV (T.ag uv) vs ∧ RepDs imm w (T.enc uv q) vs) :
    ∀ {l : List (T.El uk × T.El uv)} {es : List MapEntry}, RepM imm w uk uv l es → RepM imm w uk uv (l ++ [(k, q)]) (es ++ [e])
  | [], [], _ => ⟨hk, hv, trivial⟩
  | (_, _) :: _, _ :: _, ⟨h1, h2, h3⟩ => ⟨h1, h2, RepM.push hk hv h3⟩
  | [], _ :: _, h => h.elim
  | _ :: _, [], h => h.elim

theorem RepM.set {imm : Nat → Nat} {w : World} {uk uv : T.U} {k : T.El uk} {q : T.El uv} {f : MapEntry → MapEntry} (hk : ∀ e, ∃ vs, (f e).key = mkV (T.ag uk) vs ∧ RepDs imm w (T.enc uk k) vs) (hv : ∀ e, ∃ vs, (f e).val = mkV (T.ag uv) vs ∧ RepDs imm w (T.enc uv q) vs) :
    ∀ {l : List (T.El uk × T.El uv)} {es : List MapEntry} (i : Nat), RepM imm w uk uv l es → RepM imm w uk uv (l.set i (k, q)) (es.modify i f)
  | [], [], _, _ => by simp [RepM]
  | (_, _) :: _, e :: _, 0, ⟨_, _, h3⟩ => ⟨hk e, hv e, h3⟩
  | (_, _) :: _, _ :: _, i + 1, ⟨h1, h2, h3⟩ => ⟨h1, h2, RepM.set hk hv i h3⟩
  | [], _ :: _, _, h => h.elim
  | _ :: _, [], _, h => h.elim

theorem keyOf_rep {γ : Gh} {w : World} {ag : Bool} {p : PV T} {cs : List (CV T)} {v : Value} (h : keyOf ag p = some cs) (hr : RepP γ w p v) : ∃ vs, v = mkV ag vs ∧ RepCs γ w cs vs := by
  unfold keyOf at h
  split at h
  · cases h
    simp only [RepP] at hr
    obtain ⟨vs, e, hr⟩ := hr
    exact ⟨vs, by simp [mkV, e], hr⟩
  · cases h
    simp only [RepP] at hr
    exact ⟨[v], by simp [mkV], hr, trivial⟩
  · cases h

section
variable {C : Ctx} {o : Oper} {σ : St T} {lo hi : Nat}

/-- Cells that are data without a buffer among them. -/
theorem rowOf_plain {γ : Gh} {w : World} : ∀ {shs : List (Option T.U)} {cs : List (CV T)} {xs : List (DV T.toSig)} {vs : List Value}, rowOf σ shs cs = some (xs, []) → RepCs γ w cs vs → RepDs γ.imm w xs vs
  | [], [], xs, vs, h, hr => by
    simp only [rowOf, Option.some.injEq, Prod.mk.injEq] at h
    obtain ⟨rfl, _⟩ := h
    cases vs with
    | nil => trivial
    | cons _ _ => exact hr.elim
  | sh :: shs, c :: cs, xs, vs, h, hr => by
    simp only [rowOf] at h
    split at h
    · rename_i x fs hx'
      split at h
      · rename_i ys gs hy'
        simp only [Option.some.injEq, Prod.mk.injEq, List.append_eq_nil_iff] at h
        obtain ⟨rfl, rfl, rfl⟩ := h
        cases vs with
        | nil => exact hr.elim
        | cons v vs =>
          refine ⟨?_, rowOf_plain hy' hr.2⟩
          cases c with
          | d y => simp only [cvD, Option.some.injEq, Prod.mk.injEq] at hx'; obtain ⟨rfl, _⟩ := hx'; exact hr.1
          | nl =>
            cases sh with
            | none => simp [cvD] at hx'
            | some u =>
              simp only [cvD, Option.some.injEq, Prod.mk.injEq] at hx'
              obtain ⟨rfl, _⟩ := hx'
              obtain ⟨A, h⟩ := hr.1
              subst h
              exact .nil _ _ _
          | own u0 nm => simp only [cvD] at hx'; split at hx' <;> simp at hx'
          | buf u0 nm off len =>
            simp only [cvD] at hx'
            split at hx' <;> try simp at hx'
            split at hx' <;> try simp at hx'
          | _ => cases sh <;> simp [cvD] at hx'
      · cases h
    · cases h
  | [], _ :: _, _, _, h, _ => by simp [rowOf] at h
  | _ :: _, [], _, _, h, _ => by simp [rowOf] at h

theorem kv_mkm {t : TypeId} {uk uv : T.U} {n : Nat} (ho : o.op = .makeMap t none) (hl : C.E.loc n) : KValid C o σ [] (.one (.mp n)) [] [(.h n, some (.m uk uv []))] n (n + 1) := by
  refine kv_newO (g := .blk) (im := 0) hl fun σ' _ _ γ a w _ hs => ⟨.map #[] 0, .map (some w.heap.size), ?_, fun γ' _ b1 b2 b3 => ⟨?_, fun tm => ?_⟩⟩
  · simp [execOp, ho, Instr.makeMap]
  · simp only [RepP, RepC]
    exact ⟨_, b1, rfl⟩
  · exact ⟨w.heap.size, #[], 0, b1, b2, by simp, heap_alloc_at _ _, trivial⟩

theorem shp_mkV {γ : Gh} {w : World} {ag : Bool} {cs : List (CV T)} {vs : List Value} (h : RepCs γ w cs vs) (h1 : ag = false → cs.length = 1) : RepP γ w (shp ag cs) (mkV ag vs) := by
  cases ag with
  | true => simp only [shp, mkV, if_true, RepP]; exact ⟨vs, rfl, h⟩
  | false =>
    match cs, vs, h, h1 rfl with
    | [c], [v], h, _ => simp only [shp, mkV, RepP]; exact h.1

def lookRes (z : List (CV T)) (uv : T.U) (comma : Bool) (r : Option (T.El uv)) : PV T :=
  match r with
  | some v => if comma then .tup [shp (T.ag uv) ((T.enc uv v).map CV.d), bl true] else shp (T.ag uv) ((T.enc uv v).map CV.d)
  | none => if comma then .tup [shp (T.ag uv) z, bl false] else shp (T.ag uv) z

theorem kv_mlook {xT key elem : TypeId} {x idx : Operand} {Xx Ii : Opd T} {comma : Bool} {uk uv : T.U} {z : List (CV T)} {p : PV T} {nm : Nat} {l : List (T.El uk × T.El uv)} {k : T.El uk} {cs : List (CV T)} {xs : List (DV T.toSig)} (ho : o.op = .lookup xT x idx comma) (hx : cOpd x = some Xx) (hi' : cOpd idx = some Ii)
    (hu : C.P.underlying xT = some (.map key elem)) (K : KeyT C.P uk key) (hz : zShape C.P elem = some z) (hae : tyAg C.P elem = some (T.ag uv)) (h1 : Rd σ Xx (.one (.mp nm))) (h2 : Rd σ Ii p) (hp : keyOf (T.ag uk) p = some cs) (hrow : rowOf σ (T.shape uk) cs = some (xs, [])) (hdec : T.dec uk xs = some k)
    (hb : look σ (.h nm) = some (.m uk uv l)) :
    KValid C o σ (Xx.slots ++ Ii.slots) (lookRes z uv comma (mfind (T.keq uk) l k)) [.h nm] [] lo hi := by
  refine kv_pure fun σ' g1 g2 γ a w hinv hs => ?_
  have e1 := Rd.rep hs hx (fun j hj => g1 j (left hj)) h1
  have e2 := Rd.rep hs hi' (fun j hj => g1 j (right hj)) h2
  simp only [RepP, RepC] at e1
  obtain ⟨b, hbox, e1⟩ := e1
  obtain ⟨b', es, clock, h3, _, _, h4, h5⟩ := hs.facts (.h nm) (.m uk uv l) ((g2 _ (by simp)).trans hb)
  rw [hbox] at h3; cases h3
  obtain ⟨vs, e3, h6⟩ := keyOf_rep hp e2
  have h7 := rowOf_plain hrow h6
  have h8 := T.dec_enc uk _ _ hdec
  rw [← h8] at h7
  obtain ⟨r', g3, g4⟩ := findKey_run K h7 h5
  have hkl : (T.kds uk).length = vs.length := by
    have := T.keq_row uk k k K.ik
    have h9 := h7.length
    have key : ∀ (ks : List K1) (xs ys : List (DV T.toSig)) (r : Bool), deqs ks xs ys = some r → ks.length = xs.length := by
      intro ks
      induction ks with
      | nil => intro xs ys r h; cases xs <;> cases ys <;> simp [deqs] at h ⊢
      | cons k ks ih =>
        intro xs ys r h
        cases xs with
        | nil => simp [deqs] at h
        | cons x xs =>
          cases ys with
          | nil => simp [deqs] at h
          | cons y ys =>
            simp only [deqs] at h
            split at h
            · rename_i h10
              simp [ih _ _ _ h10]
            · cases h
    rw [key _ _ _ _ this, h9]
  have ck := checkKey_run (w := w) es.isEmpty 50 key (T.kds uk) (T.ag uk) vs 10000 K.hk K.ha (by omega) hkl.symm
  obtain ⟨zv, hz1, hz2⟩ := zShape_run (w := w) (γ := γ) hz hae
  have hget : (getObj b).run C.P w = .ok (.map es clock) w := by simp [getObj, Sem.run, h4]
  have hff := mfindI_find (T.keq uk) k l 0
  rw [← hff]
  cases hr : mfindI (T.keq uk) l k 0 with
  | none =>
    rw [hr] at g4
    cases r' with
    | some _ => exact g4.elim
    | none =>
      refine ⟨if comma then .tuple #[zv, .bool false] else zv, ?_, ?_⟩
      · simp [execOp, ho, e1, e3, Instr.lookup, run_underlying hu, hget, ck, g3, hz1]
      · cases comma <;> simp only [Option.map_none, lookRes, Bool.false_eq_true, if_false, if_true]
        · exact hz2
        · simp only [RepP]
          exact ⟨[zv, .bool false], rfl, by simp only [RepPs]; exact ⟨hz2, mkB, trivial⟩⟩
  | some q =>
    rw [hr] at g4
    cases r' with
    | none => exact g4.elim
    | some q' =>
      obtain ⟨_, ⟨us, g5, g6⟩, _⟩ := g4
      have hrep : RepP γ w (shp (T.ag uv) ((T.enc uv q.2).map CV.d)) q'.2 := by
        rw [g5]
        exact shp_mkV g6.cs fun h => by rw [List.length_map, T.enc_len]; exact T.ag_size uv h
      refine ⟨if comma then .tuple #[q'.2, .bool true] else q'.2, ?_, ?_⟩
      · simp [execOp, ho, e1, e3, Instr.lookup, run_underlying hu, hget, ck, g3]
      · cases comma <;> simp only [Option.map_some, lookRes, Bool.false_eq_true, if_false, if_true]
        · exact hrep
        · simp only [RepP]
          exact ⟨[q'.2, .bool true], rfl, by simp only [RepPs]; exact ⟨hrep, mkB, trivial⟩⟩

theorem kv_mupd {mT key elem : TypeId} {x kx vx : Operand} {Xx Kk Vv : Opd T} {uk uv : T.U} {p q : PV T} {nm : Nat} {l : List (T.El uk × T.El uv)} {k : T.El uk} {vv : T.El uv} {cs ds : List (CV T)} {xs ys : List (DV T.toSig)} (ho : o.op = .mapUpdate mT x kx vx ∨ o.op = .insert mT x kx vx) (hd : o.dst = none) (hx : cOpd x = some Xx) (hkx : cOpd kx = some Kk) (hvx : cOpd vx = some Vv)
    (hu : C.P.underlying mT = some (.map key elem)) (K : KeyT C.P uk key) (h1 : Rd σ Xx (.one (.mp nm))) (h2 : Rd σ Kk p) (h3 : Rd σ Vv q) (hp : keyOf (T.ag uk) p = some cs) (hq : keyOf (T.ag uv) q = some ds) (hrow : rowOf σ (T.shape uk) cs = some (xs, [])) (hdec : T.dec uk xs = some k)
    (hrow2 : rowOf σ (T.shape uv) ds = some (ys, [])) (hdec2 : T.dec uv ys = some vv) (hb : look σ (.h nm) = some (.m uk uv l)) :
    KValid C o σ (Xx.slots ++ (Kk.slots ++ Vv.slots)) .junk [.h nm] [(.h nm, some (.m uk uv (mset (T.keq uk) l k vv)))] lo lo := by
  intro σ' g1 g2 γ a w hi hs _ Q
  have e1 := Rd.rep hs hx (fun j hj => g1 j (left hj)) h1
  have e2 := Rd.rep hs hkx (fun j hj => g1 j (right (left hj))) h2
  have e4 := Rd.rep hs hvx (fun j hj => g1 j (right (right hj))) h3
  simp only [RepP, RepC] at e1
  obtain ⟨b, hbox, e1⟩ := e1
  have hlk := (g2 _ (by simp)).trans hb
  obtain ⟨b', es, clock, h4, h4o, hblt, h5, h6⟩ := hs.facts (.h nm) (.m uk uv l) hlk
  rw [hbox] at h4; cases h4
  obtain ⟨vs, e3, h7⟩ := keyOf_rep hp e2
  obtain ⟨us, e5, h8⟩ := keyOf_rep hq e4
  have h7 := rowOf_plain hrow h7
  rw [← T.dec_enc uk _ _ hdec] at h7
  have h8 := rowOf_plain hrow2 h8
  rw [← T.dec_enc uv _ _ hdec2] at h8
  obtain ⟨r', g3, g4⟩ := findKey_run K h7 h6
  have hself := T.keq_row uk k k K.ik
  have hkl : (T.kds uk).length = vs.length := by
    have h9 := h7.length
    have key : ∀ (ks : List K1) (xs ys : List (DV T.toSig)) (r : Bool), deqs ks xs ys = some r → ks.length = xs.length := by
      intro ks
      induction ks with
      | nil => intro xs ys r h; cases xs <;> cases ys <;> simp [deqs] at h ⊢
      | cons k ks ih =>
        intro xs ys r h
        cases xs with
        | nil => simp [deqs] at h
        | cons x xs =>
          cases ys with
          | nil => simp [deqs] at h
          | cons y ys =>
            simp only [deqs] at h
            split at h
            · rename_i h10
              simp [ih _ _ _ h10]
            · cases h
    rw [key _ _ _ _ hself, h9]
  have ck := checkKey_run (w := w) false 50 key (T.kds uk) (T.ag uk) vs 10000 K.hk K.ha (by omega) hkl.symm
  have hget : (getObj b).run C.P w = .ok (.map es clock) w := by simp [getObj, Sem.run, h5]
  have hset : ∀ ob, (setObj b ob).run C.P w = .ok () { w with heap := w.heap.setIfInBounds b ob } := fun ob => by simp [setObj, Sem.run, h5]
  have hone : T.ag uk = false → vs.length = 1 := fun h => by
    rw [← h7.length, T.enc_len]; exact T.ag_size uk h
  have hbits := sameBits_mkV (deqs_plain hself h7) hone 9999
  have hms := mputI_set (T.keq uk) k vv l 0
  obtain ⟨es', clock', hrun, hrep⟩ : ∃ es' clock', (Instr.mapUpdate mT (a.eval x) (a.eval kx) (a.eval vx)).run C.P w = .ok () { w with heap := w.heap.setIfInBounds b (.map es' clock') } ∧ RepM γ.imm w uk uv (mset (T.keq uk) l k vv) es'.toList := by
    rw [hms]
    cases hr : mfindI (T.keq uk) l k 0 with
    | none =>
      rw [hr] at g4
      cases r' with
      | some _ => exact g4.elim
      | none =>
        refine ⟨es.push { key := mkV (T.ag uk) vs, val := a.eval vx, born := clock }, clock + 1, ?_, ?_⟩
        · simp [e1, e3, Instr.mapUpdate, run_underlying hu, hget, ck, g3, hset]
        · simp only [Array.toList_push]
          exact h6.push ⟨vs, rfl, h7⟩ ⟨us, e5, h8⟩
    | some y =>
      rw [hr] at g4
      cases r' with
      | none => exact g4.elim
      | some y' =>
        obtain ⟨g5, _, _, e0, g6, g7⟩ := g4
        rw [Nat.sub_zero] at g6
        have g6' : es[y'.1]? = some e0 := by rw [← g5]; simpa using g6
        refine ⟨es.modify y'.1 fun e => { e with key := mkV (T.ag uk) vs, val := a.eval vx }, clock, ?_, ?_⟩
        · simp [e1, e3, Instr.mapUpdate, run_underlying hu, hget, ck, g3, hset, Instr.keyThatStays, g6', g7, hbits]
        · simp only [Array.toList_modify, g5, Nat.sub_zero]
          exact h6.set (fun _ => ⟨vs, rfl, h7⟩) (fun _ => ⟨us, e5, h8⟩) _
  have hcell : ∀ i, ({ w with heap := w.heap.setIfInBounds b (.map es' clock') } : World).cell? ⟨b, i, none⟩ = w.cell? ⟨b, i, none⟩ := fun i => by
    have h9 : (w.heap.setIfInBounds b (.map es' clock'))[b]? = some (.map es' clock') := by simp [hblt]
    unfold World.cell?
    simp only [h9, h5]
  have hE : Evo (fun n => n = nm) γ w γ { w with heap := w.heap.setIfInBounds b (.map es' clock') } := by
    refine ⟨⟨by simp, fun _ _ => Nat.le_refl _, fun k i hk _ => ?_⟩, rfl, rfl, rfl, fun j hj hx => ?_, fun _ _ h => h⟩
    · by_cases hkb : k = b
      · subst hkb; exact hcell i
      · unfold World.cell?
        simp [Ne.symm hkb]
    · have hjb : j ≠ b := by rintro rfl; exact hx nm h4o rfl
      exact ⟨by simp [Ne.symm hjb], rfl, rfl⟩
  unfold Oper.wp execOp
  have hexec : (execOp a.eval o).run C.P w = .ok .skip { w with heap := w.heap.setIfInBounds b (.map es' clock') } := by
    rcases ho with ho | ho <;> simp only [execOp, ho, Sem.run_bind, hrun, Result.andThen_ok, Sem.run_pure]
  unfold execOp at hexec
  rw [hexec, Oper.upon_skip]
  refine ⟨γ, undef, fun n => n = nm, rfl, (by intro d hd'; rw [hd] at hd'; cases hd'), hE, fun n hn => ?_, fun l' f' hm' => ?_, fun _ _ => rfl, fun _ _ h => .inr h, fun k hk => hi.ok k (by simpa using hk), .refl _ _ _⟩
  · subst hn
    exact ⟨hs.perm _ _ hlk, by simp [locs]⟩
  · simp only [List.mem_singleton, Prod.mk.injEq, Option.some.injEq] at hm'
    obtain ⟨rfl, rfl⟩ := hm'
    exact ⟨nm, rfl, hs.perm _ _ hlk, fun tm => ⟨b, es', clock', hbox, h4o, by simpa using hblt, by simp [hblt], hrep.evo hE.toDEvo⟩⟩
end
end Go.G
