import Derived.Test.YtjmhaeegcaapeaaP12s
set_option linter.unusedVariables false
set_option linter.unusedSimpArgs false
namespace Go.G
set_option maxRecDepth 100000
set_option maxHeartbeats 4000000
structure RO where
  first : Int
  wt : List (List Int)
  o : Bool
  t : Int
  op : Int
  pl : Int
  d : List Int
  lt : Int
  la : Int
  ld : List Int
  ans : List Answer12
def recvS (first : Int) (W : List (List Int)) (io : Bool) (it iop ipl : Int) (id : List Int) (jlt jla : Int) (jld : List Int) : RO :=
  if io = false then ⟨first, W, false, it, iop, ipl, id, jlt, jla, jld, []⟩
  else if it = jlt then ⟨first, W, false, 0, 0, 0, [], jlt, jla, jld, [⟨jlt, jla, jld⟩]⟩
  else if id ≠ [] then ⟨first, W, false, 0, 0, 0, [], it, -1, [], [⟨it, -1, []⟩]⟩
  else if ipl < first ∨ (W.length : Int) < ipl - first then ⟨first, W, false, 0, 0, 0, [], it, -2, [], [⟨it, -2, []⟩]⟩
  else match W[(ipl - first).toNat]? with
    | none => ⟨first, W, io, it, iop, ipl, id, jlt, jla, jld, []⟩
    | some b => ⟨ipl, W.drop (ipl - first).toNat, false, 0, 0, 0, [], it, ipl + 1, b, [⟨it, ipl + 1, b⟩]⟩
structure SO where
  sent : Int
  fl : List Flight12
  o : Bool
  t : Int
  op : Int
  pl : Int
  d : List Int
  lt : Int
  la : Int
  ld : List Int
  ans : List Answer12
def arrL (p : Int) : List Int := match s17 0 p with
  | some (l, _) => l
  | none => []
def patS (P : List Int) (sent : Int) : Int := if P = [] then 0 else (P[(sent.tmod (P.length : Int)).toNat]?).getD 0
def sendS (P : List Int) (now sent : Int) (fl : List Flight12) (oo : Bool) (ot oop opl : Int) (od : List Int) (olt ola : Int) (old : List Int) : SO :=
  if oo = false then ⟨sent, fl, false, ot, oop, opl, od, olt, ola, old, []⟩
  else if ot = olt then ⟨sent, fl, false, 0, 0, 0, [], olt, ola, old, [⟨olt, ola, old⟩]⟩
  else if frB od = false then ⟨sent, fl, false, 0, 0, 0, [], ot, -1, [], [⟨ot, -1, []⟩]⟩
  else ⟨sent + 1, if fl.length ≤ 398 then insAll now od (arrL (patS P sent)) fl else fl, false, 0, 0, 0, [], ot, 0, [], [⟨ot, 0, []⟩]⟩
theorem s17_eq (fu : Nat) (p : Int) : s17 fu p = some (arrL p, ()) := by
  have h : ∃ l, s17 0 p = some (l, ()) := by
    unfold s17
    rw [show ieq 4 0 = false from rfl]
    simp only
    cases ieq (irem .u8 p 4) 0 with
    | true => exact ⟨_, rfl⟩
    | false =>
      cases ieq (irem .u8 p 4) 2 with
      | true => exact ⟨_, rfl⟩
      | false =>
        cases ieq (irem .u8 p 4) 3 with
        | true => exact ⟨_, rfl⟩
        | false => exact ⟨_, rfl⟩
  obtain ⟨l, hl⟩ := h
  have e : arrL p = l := by unfold arrL; rw [hl]
  rw [e]
  exact hl
def arrOK (n : Nat) : Bool := decide ((arrL (n : Int)).length ≤ 2) && (arrL (n : Int)).all fun d => decide (0 < d) && decide (d ≤ 8)
theorem arrOK_all : (List.range 256).all arrOK = true := by decide +kernel
theorem arrL_ok {p : Int} (h0 : 0 ≤ p) (h1 : p ≤ 255) : (arrL p).length ≤ 2 ∧ ∀ d ∈ arrL p, 0 < d ∧ d ≤ 8 := by
  have h := List.all_eq_true.1 arrOK_all p.toNat (List.mem_range.2 (by omega))
  unfold arrOK at h
  rw [show ((p.toNat : Nat) : Int) = p by omega, Bool.and_eq_true, decide_eq_true_eq, List.all_eq_true] at h
  exact ⟨h.1, fun d hd => by have := h.2 d hd; simpa using this⟩
theorem patS_ok {P : List Int} (hP : By P) (sent : Int) : 0 ≤ patS P sent ∧ patS P sent ≤ 255 := by
  unfold patS
  by_cases h : P = []
  · rw [if_pos h]; decide
  · rw [if_neg h]
    cases hx : P[(sent.tmod (P.length : Int)).toNat]? with
    | none => exact ⟨Int.le_refl _, by decide⟩
    | some b => exact hP b (List.mem_of_getElem? hx)
theorem pat_dat {P : List Int} (h : P ≠ []) {sent : Int} (hs : 0 ≤ sent) : dat P (irem .i64 sent (dlen P)) = some (patS P sent) := by
  have hl : 0 < P.length := List.length_pos_iff.2 h
  have e : irem .i64 sent (dlen P) = sent.tmod (P.length : Int) := rfl
  have h1 : 0 ≤ sent.tmod (P.length : Int) := Int.tmod_nonneg _ hs
  have h2 : sent.tmod (P.length : Int) < (P.length : Int) := Int.tmod_lt_of_pos _ (by omega)
  rw [e]
  unfold patS dat
  rw [if_pos h1, if_neg h, List.getElem?_eq_getElem (show (sent.tmod (P.length : Int)).toNat < P.length by omega)]
  rfl
theorem fl_iff {fl : List Flight12} {now : Int} : allI (okF fl now) fl 0 = true ↔ (∀ f ∈ fl, frB f.Data = true ∧ now < f.Due ∧ f.Due ≤ now + 8) ∧ Sf fl := by
  rw [allI_iff]
  constructor
  · intro h
    have h' : ∀ i f, fl[i]? = some f → frB f.Data = true ∧ now < f.Due ∧ f.Due ≤ now + 8 ∧ (0 < i → ∀ g, fl[i - 1]? = some g → g.Due ≤ f.Due) := by
      intro i f hf
      have := h i f hf
      simp only [okF, Nat.zero_add, Bool.and_eq_true, decide_eq_true_eq] at this
      obtain ⟨a, b, c, d⟩ := this
      refine ⟨a, b, c, fun hi g hg => ?_⟩
      rw [if_pos hi, hg] at d
      simpa using d
    refine ⟨fun f hf => ?_, ?_⟩
    · obtain ⟨i, hi⟩ := List.mem_iff_getElem?.1 hf
      obtain ⟨a, b, c, _⟩ := h' i f hi
      exact ⟨a, b, c⟩
    · have adj : ∀ (d i : Nat) (a b : Flight12), fl[i]? = some a → fl[i + d]? = some b → a.Due ≤ b.Due := by
        intro d
        induction d with
        | zero => intro i a b ha hb; rw [Nat.add_zero, ha] at hb; cases hb; omega
        | succ d ih =>
          intro i a b ha hb
          have hl := getElem?_lt hb
          obtain ⟨c, hc⟩ : ∃ c, fl[i + d]? = some c := ⟨_, List.getElem?_eq_getElem (by omega)⟩
          have h1 := ih i a c ha hc
          have h2 := (h' (i + (d + 1)) b hb).2.2.2 (by omega) c (by rw [show i + (d + 1) - 1 = i + d by omega]; exact hc)
          omega
      unfold Sf
      rw [List.pairwise_iff_getElem]
      intro i j hi hj hij
      exact adj (j - i) i _ _ (List.getElem?_eq_getElem hi) (by rw [show i + (j - i) = j by omega]; exact List.getElem?_eq_getElem hj)
  · rintro ⟨h1, h2⟩ i f hf
    obtain ⟨a, b, c⟩ := h1 f (List.mem_of_getElem? hf)
    simp only [okF, Nat.zero_add, Bool.and_eq_true, decide_eq_true_eq]
    refine ⟨a, b, c, ?_⟩
    by_cases hi : 0 < i
    · rw [if_pos hi]
      have hl := getElem?_lt hf
      obtain ⟨g, hg⟩ : ∃ g, fl[i - 1]? = some g := ⟨_, List.getElem?_eq_getElem (by omega)⟩
      rw [hg]
      simp only [decide_eq_true_eq]
      exact sf_get h2 (show i - 1 ≤ i by omega) hg hf
    · rw [if_neg hi]
theorem arrS_fl (t : Int) : ∀ (fl : List Flight12) (w : List (List Int)), ∃ n, (arrS t fl w).1 = fl.drop n ∧ (∀ f ∈ fl.take n, f.Due = t) ∧ (∀ f r, fl.drop n = f :: r → f.Due ≠ t)
  | [], w => ⟨0, rfl, fun f h => absurd h List.not_mem_nil, fun f r h => by cases h⟩
  | f :: r, w => by
    by_cases h : f.Due = t
    · obtain ⟨n, h1, h2, h3⟩ := arrS_fl t r (if w.length < 64 then w ++ [f.Data] else w)
      refine ⟨n + 1, ?_, ?_, ?_⟩
      · simp only [arrS, if_pos h, List.drop_succ_cons]; exact h1
      · intro g hg
        rw [List.take_succ_cons] at hg
        rcases List.mem_cons.1 hg with rfl | hg
        · exact h
        · exact h2 g hg
      · intro g s hs
        rw [List.drop_succ_cons] at hs
        exact h3 g s hs
    · refine ⟨0, ?_, fun f h => absurd h List.not_mem_nil, ?_⟩
      · simp only [arrS, if_neg h, List.drop_zero]
      · intro g s hs
        rw [List.drop_zero] at hs
        cases hs
        exact h
theorem arrS_wt (t : Int) (q : List Int → Prop) : ∀ (fl : List Flight12) (w : List (List Int)), (∀ f ∈ fl, q f.Data) → (∀ b ∈ w, q b) → w.length ≤ 64 → (arrS t fl w).2.length ≤ 64 ∧ ∀ b ∈ (arrS t fl w).2, q b
  | [], w, _, h2, h3 => ⟨h3, h2⟩
  | f :: r, w, h1, h2, h3 => by
    by_cases h : f.Due = t
    · simp only [arrS, if_pos h]
      refine arrS_wt t q r _ (fun g hg => h1 g (List.mem_cons_of_mem _ hg)) ?_ ?_
      · by_cases hw : w.length < 64
        · rw [if_pos hw]
          intro b hb
          rcases List.mem_append.1 hb with hb | hb
          · exact h2 b hb
          · rw [List.mem_singleton] at hb; subst hb; exact h1 f (.head _)
        · rw [if_neg hw]; exact h2
      · by_cases hw : w.length < 64
        · rw [if_pos hw]; simp; omega
        · rw [if_neg hw]; exact h3
    · simp only [arrS, if_neg h]
      exact ⟨h3, h2⟩
end Go.G
