import Derived.Test.YtmknondapmmehaaGGlue
import Derived.ChangeCalls
set_option linter.unusedVariables false
set_option linter.unusedSimpArgs false
namespace Go.G
open Go.ChangeShapes Go.WideShapes Go.RowKit
variable {T : Uni}

theorem emb_ks : ∀ {ps : List (Pt T)} {ds : List (DV T.toSig)}, ksOK ps ds → ∃ x : tys ps, embCs ps x = ds.map CV.d
  | [], [], _ => ⟨(), rfl⟩
  | p :: ps, d :: ds, h => by
    obtain ⟨y, hy⟩ := emb_ks h.2
    have h1 := h.1
    cases p <;> cases d <;> first | exact h1.elim | skip
    · cases h1; rename_i n; exact ⟨(n, y), by simp only [embCs, hy, embC, List.map_cons]⟩
    · rename_i b; exact ⟨(b, y), by simp only [embCs, hy, embC, List.map_cons]⟩
    · rename_i s; exact ⟨(s, y), by simp only [embCs, hy, embC, List.map_cons]⟩
    · cases h1; rename_i l; exact ⟨(l, y), by simp only [embCs, hy, embC, List.map_cons]⟩
  | [], _ :: _, h => h.elim
  | _ :: _, [], h => h.elim

/-- A parameter's form. -/
def lpT (P : Program) (cu : TypeId → Option T.U) (n : Nat) (t : TypeId) : Option (Lp T) :=
  match flat P cu n t with
  | some ps => match P.underlying t with
    | some (.struct _) => some (.agg ps)
    | some (.array _ _) => some (.agg ps)
    | _ => match ps with
      | [p] => some (.one p)
      | _ => none
  | none => none

def lpTs (P : Program) (cu : TypeId → Option T.U) (n : Nat) : List TypeId → Option (List (Lp T))
  | [] => some []
  | t :: ts => match lpT P cu n t, lpTs P cu n ts with
    | some p, some ps => some (p :: ps)
    | _, _ => none

def WfC : CV T → Prop
  | .d d => WfD T d
  | _ => False
def WfP : PV T → Prop
  | .one c => WfC c
  | .agg cs => ∀ c ∈ cs, WfC c
  | _ => False
/-- Arguments whose numbers fit their kinds. -/
def WfA (As : List (Lp T)) (x : tyL As) : Prop := ∀ q ∈ embPs As x, WfP q

theorem rep_cs {γ : Gh} {w : World} : ∀ {ds : List (DV T.toSig)} {vs : List Value}, RepDs γ.imm w ds vs → RepCs γ w (ds.map CV.d) vs
  | [], [], _ => trivial
  | _ :: _, _ :: _, h => ⟨h.1, rep_cs h.2⟩
  | [], _ :: _, h => h.elim
  | _ :: _, [], h => h.elim

theorem okWide_one {P : Program} {W : World} {r : Reach} {base : Nat} {t : TypeId} {v : Value} {u : Value} (hs : ∀ fs, P.underlying t ≠ some (.struct fs)) (ha : ∀ n e, P.underlying t ≠ some (.array n e))
    (h : Value.okWide P W r base t v) (hc : v.cells.toList = [u]) : v = u := by
  have key : ∀ cs, v ≠ .agg cs := by
    rintro cs rfl
    unfold Value.okWide at h
    split at h
    · rename_i h1; exact hs _ h1
    · rename_i h1; exact ha _ _ h1
    · unfold Cell.okWide at h
      split at h <;> first | (rename_i h1 h2; cases h2) | skip
      unfold Cell.ok at h
      split at h <;> first | exact h | (rename_i h1 h2; cases h2)
  cases v <;> first | exact absurd rfl (key _) | (simp only [Value.cells] at hc; simpa using hc)

section
variable {H : Type} {enc : TypeId × Value → H} {P : Program} {w : World} {spare : Nat → Bool} {held : Bool} {cu : TypeId → Option T.U}

theorem rep_one (hK : Kids P (· < P.types.size)) (KD : Kinds (T := T) P cu) {m : Nat} {t : TypeId} {v : Value} {d : DataW H} {pl : List MemPlace} {p : Lp T} {r : Reach} {base : Nat} (ht : t < P.types.size)
    (h : DataW.Trod enc P w 0 spare held t v d pl) (hok : Value.okWide P w r base t v) (hl : lpT P cu m t = some p) : ∃ x : p.ty, RepP (T := T) (g0 (immW w)) w (embP p x) v ∧ WfP (embP p x) := by
  obtain ⟨n, hn⟩ := h
  unfold lpT at hl
  split at hl
  · rename_i ps hf
    obtain ⟨ds, h1, h2, h3⟩ := rep_trod (T := T) hK KD n m t _ _ ps ht hn hf
    obtain ⟨x, hx⟩ := emb_ks h2
    split at hl
    · rename_i fs hu
      cases hl
      obtain ⟨cs, rfl, _⟩ := okWide_struct hu hok
      refine ⟨x, ?_, ?_⟩
      · simp only [embP, RepP]
        exact ⟨cs.toList, rfl, by rw [hx]; exact rep_cs h1⟩
      · simp only [embP, WfP, hx]
        intro c hc
        obtain ⟨d, hd, rfl⟩ := List.mem_map.1 hc
        exact h3 d hd
    · rename_i k e hu
      cases hl
      have : ∃ cs, v = .agg cs := by
        simp only [Value.okWide, hu] at hok
        obtain ⟨cs, h1, _⟩ := hok
        exact ⟨cs, h1⟩
      obtain ⟨cs, rfl⟩ := this
      refine ⟨x, ?_, ?_⟩
      · simp only [embP, RepP]
        exact ⟨cs.toList, rfl, by rw [hx]; exact rep_cs h1⟩
      · simp only [embP, WfP, hx]
        intro c hc
        obtain ⟨d, hd, rfl⟩ := List.mem_map.1 hc
        exact h3 d hd
    · rename_i hs ha
      split at hl
      · rename_i q
        cases hl
        match ds, h2, hx, h1, h3 with
        | [d], h2, hx, h1, h3 =>
          generalize hcs : v.cells.toList = cs at h1
          match cs, h1 with
          | [u], h1 =>
            have hv := okWide_one (fun fs => hs fs) (fun n e => ha n e) hok hcs
            subst hv
            simp only [embCs, List.map_cons, List.map_nil, List.cons.injEq, and_true] at hx
            refine ⟨x.1, ?_, ?_⟩
            · simp only [embP, RepP, hx]
              exact h1.1
            · simp only [embP, WfP, hx]
              exact h3 d (by simp)
      · cases hl
  · cases hl

theorem rep_args (hK : Kids P (· < P.types.size)) (KD : Kinds (T := T) P cu) {m : Nat} {r : Reach} {base : Nat} : ∀ {ts : List TypeId} {vs : List Value} {ds : List (DataW H)} {pl : List MemPlace} {As : List (Lp T)},
    (∀ t ∈ ts, t < P.types.size) → DataW.TrodAll enc P w 0 spare held ts vs ds pl → (∀ (j : Nat) t v, ts[j]? = some t → vs[j]? = some v → Value.okWide P w r base t v) → lpTs P cu m ts = some As →
    ∃ x : tyL As, RepPs (T := T) (g0 (immW w)) w (embPs As x) vs ∧ WfA As x
  | [], vs, ds, pl, As, _, h, _, hl => by
    simp only [lpTs, Option.some.injEq] at hl
    subst hl
    obtain ⟨rfl, _, _⟩ := trodAll_nil h
    exact ⟨(), by simp [embPs, RepPs], by intro q hq; simp [embPs] at hq⟩
  | t :: ts, vs, ds, pl, As, hT, h, hok, hl => by
    obtain ⟨v, vs1, d, ds1, a, b, rfl, rfl, rfl, h1, h2⟩ := trodAll_cons h
    simp only [lpTs] at hl
    split at hl
    · rename_i p ps hp hps
      cases hl
      obtain ⟨x, x1, x2⟩ := rep_one hK KD (hT t (by simp)) h1 (hok 0 t v rfl rfl) hp
      obtain ⟨y, y1, y2⟩ := rep_args hK KD (fun t ht => hT t (by simp [ht])) h2 (fun j t v ht hv => hok (j + 1) t v (by simpa using ht) (by simpa using hv)) hps
      refine ⟨(x, y), by simp only [embPs, RepPs]; exact ⟨x1, y1⟩, fun q hq => ?_⟩
      simp only [embPs, List.mem_cons] at hq
      rcases hq with rfl | hq
      · exact x2
      · exact y2 q hq
    · cases hl
end

/-- What a program must bear, once for all its laws. -/
structure Base (P : Program) (cu : TypeId → Option T.U) : Type where
  laid : laidOutB P = true
  maps : mapsRowed P = true
  full : ((List.range P.types.size).all fun t => match P.underlying t with | some (.slice e) => decide (0 < P.cellsOf e) | _ => true) = true
  KD : Kinds (T := T) P cu

/-- A LAW's CONTRACT: where the function over data is always true, the call answers true and leaves what it was handed as it was. -/
theorem law_calls {H : Type} {enc : TypeId × Value → H} {P : Program} {cu : TypeId → Option T.U} (B : Base (T := T) P cu) {f : FuncId} {fn : Func} {s : ChangeSpec} {fuel : Nat} {As : List (Lp T)} {F : tyL As → Option (tyL [Lp.one (T := T) .bool])}
    {apart fresh handsOn again : Bool} {tb : TypeId}
    (hD : DataOK P f As [.one .bool] F) (hF : ∀ x, WfA As x → F x = some (true, ()))
    (hts : fn.params.toList.all (fun t => decide (t < P.types.size)) = true) (hl : lpTs P cu fuel fn.params.toList = some As) (hvars : s.vars = [])
    (hres : fn.resultTypes = #[tb]) (htb : P.underlying tb = some .bool)
    (hs : ∀ ds : List (DataW H), ds.length = fn.params.size → s.fn H ds = { results := [.lit (.bool true)], args := ds })
    (W : World) (base : Nat) (args : Array Value) (ds gs : List (DataW H)) (before : List MemPlace)
    (hok : ∀ (j : Nat) t v, fn.params[j]? = some t → args[j]? = some v → Value.okWide P W .any base t v)
    (hW : DataW.Whole enc P fn.params.toList s.vars apart W args.toList ds gs before) :
    Calls P f args W fun e W' => ∃ v, e = .returned v ∧ s.post enc P fn apart fresh handsOn again W args v W' := by
  have hK := kids_rows B.laid B.maps
  have hz := slices_full_of P B.full
  have hT : ∀ t ∈ fn.params.toList, t < P.types.size := fun t ht => of_decide_eq_true (List.all_eq_true.1 hts t ht)
  obtain ⟨p, q, hA, hV, hb, hfz, hnd⟩ := hW
  rw [hvars] at hV
  obtain ⟨rfl, rfl⟩ := trodVars_none hV
  rw [List.append_nil] at hb
  subst hb
  have hW0 : DataW.Whole enc P fn.params.toList s.vars apart W args.toList ds [] before := ⟨before, [], hA, by rw [hvars]; exact hV, by simp, hfz, hnd⟩
  obtain ⟨x, hx, hwf⟩ := rep_args (T := T) hK B.KD hT hA (fun j t v ht hv => hok j t v (by simpa using ht) (by simpa using hv)) hl
  have hc := hD x (true, ()) (hF x hwf) (immW W) W args.toList hx
  refine hc.mono ?_
  rintro e W' ⟨imm', v, rfl, hevo, hos, _, hout, hsame, hrep⟩
  have hv : v = .bool true := by
    simp only [embR, embPs, resPV, embP, embC, RepP, RepC] at hrep
    exact RepD.bool_iff.1 hrep
  subst hv
  have hold : ∀ i : Nat, i < W.heap.size → W'.heap[i]? = W.heap[i]? := fun i hi => (hsame i hi).1
  have hsameAt : ∀ p ∈ before, W.sameAt W' p := fun p hp => by
    have hlt := hW0.lt p hp
    cases p with
    | cell b off =>
      show W'.cell? _ = W.cell? _
      unfold World.cell?
      rw [hold b hlt]
    | map b => exact hold b hlt
  refine ⟨_, rfl, ?_⟩
  have hsz : ds.length = fn.params.size := by
    have := (trodAll_length hA).2
    simpa using this
  have hfn := hs (ds ++ []) (by simpa using hsz)
  have carry : ∀ {ts : List TypeId} {vs : List Value} {ds : List (DataW H)} {ps : List MemPlace}, (∀ p ∈ ps, W.sameAt W' p) → DataW.TrodAll enc P W 0 (fun _ => true) true ts vs ds ps → DataW.TrodAll enc P W' 0 (fun _ => true) true ts vs ds ps := by
    intro ts
    induction ts with
    | nil =>
      intro vs ds ps _ h
      obtain ⟨rfl, rfl, rfl⟩ := trodAll_nil h
      exact rfl
    | cons t ts ih =>
      intro vs ds ps hps h
      obtain ⟨v, vs1, d, ds1, a, b, rfl, rfl, rfl, ⟨n, h1⟩, h2⟩ := trodAll_cons h
      exact ⟨a, b, ⟨n, DataW.trod_carry n t _ _ h1 fun p hp => hps p (List.mem_append_left _ hp)⟩, ih (fun p hp => hps p (List.mem_append_right _ hp)) h2, rfl⟩
  have hargs : ∀ sp : Nat → Bool, (∀ p ∈ before, sp p.block = true) → DataW.TrodAll enc P W' 0 sp true fn.params.toList args.toList (s.fn H (ds ++ [])).args before := fun sp hsp => by
    rw [hfn]
    simp only [List.append_nil]
    exact (carry hsameAt hA).respare hK hz hT hsp
  have hresd : ∀ (b : Nat) (sp : Nat → Bool) (hd : Bool), DataW.TrodAll enc P W' b sp hd fn.resultTypes.toList ((Value.bool true).resultList fn.resultTypes.size) (s.fn H (ds ++ [])).results [] := fun b sp hd => by
    rw [hfn, hres]
    exact trodAll_cons_mk (shut_bool htb _) trodAll_mk0
  have hvd : ∀ sp : Nat → Bool, DataW.TrodVars enc P W' sp s.vars (s.fn H (ds ++ [])).vars [] := fun sp => by
    rw [hfn, hvars]
    exact rfl
  have hkept : W.keptBut W' (· ∈ before) := by
    refine ⟨hos, hout, fun i hi => ?_⟩
    rw [hold i hi]
    cases hh : W.heap[i]? with
    | none => rfl
    | some o => cases o <;> simp
  have hbef : ∀ p ∈ before, (fun b => decide (b < W.heap.size)) p.block = true := fun p hp => by simpa using hW0.lt p hp
  have hokr : ∀ (j : Nat) (t : TypeId) (r : Value), fn.resultTypes[j]? = some t → ((Value.bool true).resultList fn.resultTypes.size)[j]? = some r → Value.okWide P W' .any 0 t r := by
    exact ok_one hres rfl (okWide_bool_mk htb _)
  refine ⟨ds, [], before, [], before, [], hW0, hresd _ _ _, hargs _ hbef, hvd _, World.keptBut_mono (fun p hp => ⟨hp, .inr (.inl hp)⟩) hkept, fun _ => ?_⟩
  refine ⟨hokr, _, _, ([] ++ before) ++ [], ⟨[] ++ before, [], trodAll_append (hargs _ (fun _ _ => rfl)) (hresd _ _ _), hvd _, rfl, ?_, ?_⟩, ?_⟩
  · intro b off hp
    have hp : MemPlace.cell b off ∈ before := by simpa using hp
    have := hfz b off hp
    unfold World.frozen? at this ⊢
    rw [hold b (hW0.lt _ hp)]
    exact this
  · intro ha
    simpa using hnd ha
  · intro p hp _
    simpa using hp
end Go.G
