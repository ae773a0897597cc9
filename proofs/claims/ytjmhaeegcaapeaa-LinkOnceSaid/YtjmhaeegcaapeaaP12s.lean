import Derived.Test.YtjmhaeegcaapeaaP12r0
import Derived.Test.YtjmhaeegcaapeaaP12c
import Derived.Test.YtjmhaeegcaapeaaGE5
set_option linter.unusedVariables false
set_option linter.unusedSimpArgs false
namespace Go.G
set_option maxRecDepth 100000
/-- What arrives at a time. -/
def arrS (t : Int) : List Flight12 → List (List Int) → List Flight12 × List (List Int)
  | [], w => ([], w)
  | f :: r, w => if f.Due = t then arrS t r (if w.length < 64 then w ++ [f.Data] else w) else (f :: r, w)
theorem arr_p {F : Nat} {t : Int} (T : TT) (B : BB) (hB : B.2.1 = t) : ∀ (fl : List Flight12) (w : List (List Int)) (fu : Nat), fl.length < fu → fl.length ≤ 400 → w.length ≤ 64 →
    iter (t20_5 F) fu ((), ((), (T, (w, (fl, (B, ())))))) = some (.inl ((), ((), (T, ((arrS t fl w).2, ((arrS t fl w).1, (B, ())))))))
  | [], w, fu + 1, _, _, _ => by
    have e1 : ilt 0 (dlen ([] : List Flight12)) = false := rfl
    simp only [iter, t20_5, e1, arrS]
  | f :: r, w, fu + 1, hf, hl, hw => by
    have e1 : ilt 0 (dlen (f :: r)) = true := ilt_iff.2 (by rw [dlen_def, List.length_cons]; omega)
    have e2 : dat (f :: r) 0 = some f := rfl
    by_cases h : f.Due = t
    · have e3 : ieq f.Due B.2.1 = true := ieq_iff.2 (by rw [hB]; exact h)
      have e6 : ile 1 (dlen (f :: r)) = true := ile_iff.2 (by rw [dlen_def, List.length_cons]; omega)
      have e7 : ile (dlen (f :: r)) (dlen (f :: r)) = true := ile_iff.2 (Int.le_refl _)
      have e8 := cut1 (f :: r) (by rw [List.length_cons]; omega)
      rw [List.drop_one, List.tail_cons] at e8
      rw [List.length_cons] at hf hl
      by_cases hw2 : w.length < 64
      · have e4 : ilt (dlen w) 64 = true := ilt_iff.2 (by rw [dlen_def]; omega)
        have e5 : dapp 24 w (f.Data :: []) = some (w ++ [f.Data]) := by
          refine dapp_ok ?_ ?_ <;> simp <;> omega
        have ih := arr_p (F := F) T B hB r (w ++ [f.Data]) fu (by omega) (by omega) (by simp; omega)
        simp only [iter, t20_5, e1, e2, e3, e4, e5, show ile 0 1 = true from rfl, e6, e7, e8, arrS, if_pos h, if_pos hw2]
        exact ih
      · have e4 : ilt (dlen w) 64 = false := ilt_f.2 (by rw [dlen_def]; omega)
        have ih := arr_p (F := F) T B hB r w fu (by omega) (by omega) hw
        simp only [iter, t20_5, e1, e2, e3, e4, show ile 0 1 = true from rfl, e6, e7, e8, arrS, if_pos h, if_neg hw2]
        exact ih
    · have e3 : ieq f.Due B.2.1 = false := ieq_f.2 (by rw [hB]; exact h)
      simp only [iter, t20_5, e1, e2, e3, arrS, if_neg h]
  | [], _, 0, hf, _, _ => absurd hf (by simp)
  | _ :: _, _, 0, hf, _, _ => absurd hf (by simp)
abbrev Sf (fl : List Flight12) : Prop := fl.Pairwise (fun a b => a.Due ≤ b.Due)
def pD (x : Flight12) (f : Flight12) : Bool := decide (f.Due ≤ x.Due)
def insS (fl : List Flight12) (x : Flight12) : List Flight12 := fl.takeWhile (pD x) ++ x :: fl.dropWhile (pD x)
theorem insS_len (fl : List Flight12) (x : Flight12) : (insS fl x).length = fl.length + 1 := by
  have h := congrArg List.length (List.takeWhile_append_dropWhile (p := pD x) (l := fl))
  unfold insS
  simp only [List.length_append, List.length_cons] at h ⊢
  omega
theorem insS_mem {fl : List Flight12} {x f : Flight12} : f ∈ insS fl x ↔ f = x ∨ f ∈ fl := by
  have h := List.takeWhile_append_dropWhile (p := pD x) (l := fl)
  unfold insS
  conv => rhs; rw [← h]
  simp only [List.mem_append, List.mem_cons]
  constructor
  · rintro (h | h | h)
    · exact .inr (.inl h)
    · exact .inl h
    · exact .inr (.inr h)
  · rintro (h | h | h)
    · exact .inr (.inl h)
    · exact .inl h
    · exact .inr (.inr h)
theorem dropWhile_ge {fl : List Flight12} {x : Flight12} (hs : Sf fl) : ∀ f ∈ fl.dropWhile (pD x), x.Due < f.Due := by
  induction fl with
  | nil => intro f h; cases h
  | cons a r ih =>
    have hs := List.pairwise_cons.1 hs
    intro f hf
    rw [List.dropWhile_cons] at hf
    by_cases h : pD x a = true
    · rw [if_pos h] at hf
      exact ih hs.2 f hf
    · rw [if_neg h] at hf
      have ha : x.Due < a.Due := by unfold pD at h; simpa using h
      rcases List.mem_cons.1 hf with rfl | hf
      · exact ha
      · have := hs.1 f hf; omega
theorem takeWhile_le {fl : List Flight12} {x : Flight12} : ∀ f ∈ fl.takeWhile (pD x), f.Due ≤ x.Due := by
  induction fl with
  | nil => intro f h; cases h
  | cons a r ih =>
    intro f hf
    rw [List.takeWhile_cons] at hf
    by_cases h : pD x a = true
    · rw [if_pos h] at hf
      rcases List.mem_cons.1 hf with rfl | hf
      · unfold pD at h; simpa using h
      · exact ih f hf
    · rw [if_neg h] at hf; cases hf
theorem insS_sorted {fl : List Flight12} {x : Flight12} (hs : Sf fl) : Sf (insS fl x) := by
  have h := List.takeWhile_append_dropWhile (p := pD x) (l := fl)
  have hs' := hs
  rw [← h] at hs'
  unfold Sf at hs' ⊢
  rw [List.pairwise_append] at hs'
  unfold insS
  rw [List.pairwise_append]
  refine ⟨hs'.1, ?_, ?_⟩
  · rw [List.pairwise_cons]
    exact ⟨fun f hf => by have := dropWhile_ge hs f hf; omega, hs'.2.1⟩
  · intro a ha b hb
    rcases List.mem_cons.1 hb with rfl | hb
    · exact takeWhile_le a ha
    · exact hs'.2.2 a ha b hb
theorem insS_at {x : Flight12} : ∀ (fl : List Flight12) (s : Nat), s ≤ fl.length → (∀ c f, c < s → fl[c]? = some f → f.Due ≤ x.Due) → (∀ f, fl[s]? = some f → x.Due < f.Due) → insS fl x = fl.take s ++ x :: fl.drop s
  | [], s, hs, _, _ => by
    have : s = 0 := by simpa using hs
    subst this
    rfl
  | a :: r, 0, _, _, h2 => by
    have ha := h2 a rfl
    have hp : ¬ pD x a = true := by unfold pD; simpa using ha
    simp only [insS, List.takeWhile_cons, List.dropWhile_cons, if_neg hp, List.take_zero, List.drop_zero]
  | a :: r, s + 1, hs, h1, h2 => by
    have ha := h1 0 a (by omega) rfl
    have hp : pD x a = true := by unfold pD; simpa using ha
    have ih := insS_at r s (by simpa using hs) (fun c f hc hf => h1 (c + 1) f (by omega) (by simpa using hf)) (fun f hf => h2 f (by simpa using hf))
    simp only [insS, List.takeWhile_cons, List.dropWhile_cons, if_pos hp, List.take_succ_cons, List.drop_succ_cons, List.cons_append] at ih ⊢
    rw [ih]
theorem sf_get {fl : List Flight12} (hs : Sf fl) {i j : Nat} {a b : Flight12} (h : i ≤ j) (ha : fl[i]? = some a) (hb : fl[j]? = some b) : a.Due ≤ b.Due := by
  rcases Nat.lt_or_eq_of_le h with h | h
  · obtain ⟨h1, rfl⟩ := List.getElem?_eq_some_iff.1 ha
    obtain ⟨h2, rfl⟩ := List.getElem?_eq_some_iff.1 hb
    exact List.pairwise_iff_getElem.1 hs i j h1 h2 h
  · subst h
    rw [ha] at hb
    cases hb
    omega
theorem bs_p {fu : Nat} {x : Flight12} {n : Int} {rows : List Flight12} (hl : rows.length ≤ 1000) (hfu : 2000 < fu) (hs : Sf rows) (hr : ∀ f ∈ rows, 0 ≤ f.Due ∧ f.Due ≤ 4000000000000) (hx : 0 ≤ x.Due ∧ x.Due ≤ 4000000000000) :
    ∃ s : Nat, s ≤ rows.length ∧ insS rows x = rows.take s ++ x :: rows.drop s ∧ iter (t20_162 fu) fu ((), (x.Due + 1, ((), (n, ((0 : Int), (dlen rows, (rows, ()))))))) = some (.inl ((), (x.Due + 1, ((), (n, ((s : Int), (rows, ()))))))) := by
  obtain ⟨s, _, h2, h3, h4, h5⟩ := iter_bisect (step := t20_162 fu) (fu := fu) (lo := 0) (hi := rows.length) (fun c => match rows[c]? with | some f => decide (x.Due < f.Due) | none => true)
    (fun i j => ((), (x.Due + 1, ((), (n, ((i : Int), ((j : Int), (rows, ())))))))) (fun i => .inl ((), (x.Due + 1, ((), (n, ((i : Int), (rows, ()))))))) (Nat.zero_le _) (by omega)
    (fun i j _ hij hj hq => by
      obtain ⟨a, ha⟩ : ∃ a, rows[i]? = some a := ⟨_, List.getElem?_eq_getElem (by omega)⟩
      obtain ⟨b, hb⟩ : ∃ b, rows[j]? = some b := ⟨_, List.getElem?_eq_getElem hj⟩
      have := sf_get hs hij ha hb
      simp only [ha, hb, decide_eq_true_eq] at hq ⊢
      omega)
    (fun i j _ hij hj => by
      obtain ⟨f, hf⟩ : ∃ f, rows[(i + j) / 2]? = some f := ⟨_, List.getElem?_eq_getElem (by omega)⟩
      have hb := hr f (List.mem_of_getElem? hf)
      have g2 : iadd .i64 (((i + j) / 2 : Nat) : Int) 1 = (((i + j) / 2 + 1 : Nat) : Int) := iadd1 (by omega)
      have g0 : isub .i64 f.Due (x.Due + 1) = f.Due - (x.Due + 1) := isub64 (by omega)
      by_cases h : x.Due < f.Due
      · have g1 : ilt (isub .i64 f.Due (x.Due + 1)) 0 = false := ilt_f.2 (by rw [g0]; omega)
        simp only [t20_162, ilt_len hij, show ilt 1 0 = false from rfl, mid64 (a := i) (b := j) (by omega) (by omega), dat_nat, hf, s75, g1, h, decide_true, cond_true]
      · have g1 : ilt (isub .i64 f.Due (x.Due + 1)) 0 = true := ilt_iff.2 (by rw [g0]; omega)
        simp only [t20_162, ilt_len hij, show ilt 1 0 = false from rfl, mid64 (a := i) (b := j) (by omega) (by omega), dat_nat, hf, s75, g1, g2, h, decide_false, cond_false])
    (fun i _ hi => by simp only [t20_162, ilt_end])
  refine ⟨s, h2, insS_at rows s h2 (fun c f hc hf => ?_) (fun f hf => ?_), h5⟩
  · have := h3 c (Nat.zero_le _) hc
    simp only [hf, decide_eq_false_iff_not] at this
    omega
  · have := h4 s (Nat.le_refl _) (getElem?_lt hf)
    simp only [hf, decide_eq_true_eq] at this
    exact this
theorem dins_at {α : Type} {bytes : Nat} (hb : bytes ≤ 1000) {l : List α} (h : l.length ≤ 1000) {s : Nat} (hs : s ≤ l.length) (x : α) : dins bytes l (s : Int) x = some (l.take s ++ x :: l.drop s) := by
  have h1 : (l.length + 1) * bytes ≤ 1001 * 1000 := Nat.mul_le_mul (by omega) hb
  unfold dins
  rw [if_pos ⟨by omega, by omega, by omega, by omega⟩]
  simp
def insAll (now : Int) (data : List Int) (l : List Int) (fl : List Flight12) : List Flight12 := l.foldl (fun s d => insS s ⟨now + d, data⟩) fl
theorem send_p {fu : Nat} (hfu : 2000 < fu) {now : Int} {fl : List Flight12} {w : List (List Int)} {data l : List Int} (hl : fl.length ≤ 400) (hll : l.length ≤ 2) (hd : data.length ≤ 1000) (hn : 0 ≤ now) (hn2 : now ≤ 1100000000000)
    (hf : ∀ f ∈ fl, 0 ≤ f.Due ∧ f.Due ≤ 2000000000000) (h1 : ∀ d ∈ l, 0 ≤ d ∧ d ≤ 8) (hs : Sf fl) (B : BB) (hB : B.2.1 = now) :
    iter (t20_160 fu) fu ((), (data, (l, (dlen l, ((0 : Int), (w, (fl, (B, ())))))))) = some (.inl ((), (w, (insAll now data l fl, (B, ()))))) := by
  subst hB
  have := iter_fold (step := t20_160 fu) (fu := fu) l (fun j s => ((), (data, (l, (dlen l, ((j : Int), (w, (s, (B, ())))))))))
    (fun d s => insS s ⟨B.2.1 + d, data⟩) (fun j s => s.length = fl.length + j ∧ Sf s ∧ ∀ f ∈ s, 0 ≤ f.Due ∧ f.Due ≤ 2000000000000) (fun s => .inl ((), (w, (s, (B, ()))))) fl (by omega) ⟨rfl, hs, hf⟩
    (fun j d s hdj hI => by
      obtain ⟨i1, i2, i3⟩ := hI
      have hj := getElem?_lt hdj
      obtain ⟨d1, d2⟩ := h1 d (List.mem_of_getElem? hdj)
      have e1 : iadd .i64 B.2.1 d = B.2.1 + d := iadd64 (by omega)
      have e2 : iadd .i64 (B.2.1 + d) 1 = B.2.1 + d + 1 := iadd64 (by omega)
      obtain ⟨p, p1, p2, p3⟩ := bs_p (fu := fu) (x := ⟨B.2.1 + d, data⟩) (n := dlen s) (rows := s) (by omega) hfu i2 (fun f h => by have := i3 f h; omega) (show 0 ≤ B.2.1 + d ∧ B.2.1 + d ≤ 4000000000000 by omega)
      have e4 := dins_at (bytes := 32) (by omega) (l := s) (by omega) p1 (⟨B.2.1 + d, data⟩ : Flight12)
      rw [← p2] at e4
      have e5 : iadd .i64 (j : Int) 1 = ((j + 1 : Nat) : Int) := iadd1 (by omega)
      refine ⟨?_, ?_, insS_sorted i2, ?_⟩
      · rw [dlen_def] at p3
        by_cases hp : p < s.length
        · have g : s[p]? = some s[p] := List.getElem?_eq_getElem hp
          simp only [t20_160, dlen_def, ilt_len hj, dat_nat, hdj, e1, e2, p3, clone12 (bytes := 1) (by omega) hd, e4, e5, ilt_len hp, g, s75]
        · simp only [t20_160, dlen_def, ilt_len hj, dat_nat, hdj, e1, e2, p3, clone12 (bytes := 1) (by omega) hd, e4, e5, ilt_f.2 (show (s.length : Int) ≤ (p : Int) by omega)]
      · rw [insS_len]; omega
      · intro f hf
        rcases insS_mem.1 hf with rfl | hf
        · exact (show 0 ≤ B.2.1 + d ∧ B.2.1 + d ≤ 2000000000000 by omega)
        · exact i3 f hf)
    (fun s _ => by simp only [t20_160, dlen_def, ilt_end])
  exact this
end Go.G
