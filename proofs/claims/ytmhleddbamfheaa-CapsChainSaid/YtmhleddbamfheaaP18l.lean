import Derived.Test.YtmhleddbamfheaaP18k
set_option linter.unusedVariables false
set_option linter.unusedSimpArgs false
namespace Go.G
set_option maxRecDepth 100000
theorem deriveS_ok {n : Int} {l : List Cap18} {o : Int} {x : Cap18} (hv : validB n l = true) (hx : x ∈ l) (ho : 1 ≤ o ∧ o < 32) (hh : l.any (isHas o x.Right_Type x.Right_Peer x.Right_Code) = false) (h4 : l.length ≠ 400) (h5 : n ≠ 1099511627776) :
    deriveS n l x.ID o = ((n + 1, (l ++ [⟨n, x.ID, o, x.Right_Type, x.Right_Peer, x.Right_Code⟩], ())), (n, (0, ()))) := by
  unfold deriveS
  rw [hv, find_byID (valid_pw (validB_iff.1 hv).1) hx]
  simp only [Bool.not_true, cond_false, show ilt o 1 = false from ilt_f.2 ho.1, show ile 32 o = false from ile_f.2 ho.2, Bool.or_false, hh, decide_eq_false h4, decide_eq_false h5]
theorem revokeS_ok {n : Int} {l : List Cap18} {x : Cap18} (hv : validB n l = true) (hx : x ∈ l) : revokeS n l x.ID = ((n, (specW gF l (fun j => ieq j x.ID), ())), (0, ())) := by
  unfold revokeS
  rw [hv, find_byID (valid_pw (validB_iff.1 hv).1) hx]
  rfl
abbrev root0 (x : Cap18) : Bool := ieq x.Parent 0
theorem specW_filter {n : Int} {a : List Cap18} (hv : validB n a = true) (k : Int) (hk : 1 ≤ k) : (specW gF a (fun j => ieq j k)).filter root0 = a.filter root0 ∧ ∀ x ∈ specW gF a (fun j => ieq j k), x.Parent ≠ k := by
  obtain ⟨v1, _, _, _⟩ := validB_iff.1 hv
  have spec := mk_spec a (fun j => ieq j k) (valid_pw v1) (valid_parent_lt v1)
  rw [spec.1]
  constructor
  · rw [List.filter_filter]
    apply List.filter_congr
    intro x hx
    cases h : ieq x.Parent 0 with
    | false => simp [root0, h]
    | true =>
      rw [ieq_iff] at h
      have : mk gF a (fun j => ieq j k) 0 = false := by
        rw [mk_out gF a _ 0 fun y hy => by have := validL_mem a [] v1 (by simp [lastID]) y hy; omega]
        exact ieq_f.2 (by omega)
      simp [root0, h, this]
  · intro x hx e
    rw [List.mem_filter] at hx
    have h2 := hx.2
    rw [e, mk_mono gF a (fun j => ieq j k) k (ieq_iff.2 rfl)] at h2
    cases h2
theorem roots_only {n : Int} : ∀ (r pre : List Cap18), validL n pre r = true → (∀ p ∈ pre, p.Parent = 0) → (∀ p ∈ pre ++ r, p.Parent = 0 → ∀ x ∈ pre ++ r, x.Parent ≠ p.ID) → ∀ x ∈ r, x.Parent = 0
  | [], _, _, _, _, x, hx => by cases hx
  | y :: r, pre, hv, hp, h, x, hx => by
    simp only [validL, Bool.and_eq_true] at hv
    have hy : y.Parent = 0 := by
      rcases parOK_inv (okAt_parOK hv.1) with ⟨h1, _⟩ | ⟨_, p, h2, h3, _⟩
      · exact h1
      · exact absurd h3.symm (h p (by simp [h2]) (hp p h2) y (by simp))
    rcases List.mem_cons.1 hx with rfl | hx
    · exact hy
    · exact roots_only r (pre ++ [y]) hv.2 (fun p hq => by
        rcases List.mem_append.1 hq with hq | hq
        · exact hp p hq
        · simp at hq; subst hq; exact hy) (by simpa using h) x hx
def rootStep (y : Cap18) (s : List Cap18 × List Cap18) : List Cap18 × List Cap18 := bif ieq y.Parent 0 then (s.1 ++ [y], specW gF s.2 (fun j => ieq j y.ID)) else s
structure RootInv (n : Int) (l : List Cap18) (i : Nat) (s : List Cap18 × List Cap18) : Prop where
  roots : s.1 = (l.take i).filter root0
  val : validB n s.2 = true
  sub : s.2.Sublist l
  keep : s.2.filter root0 = l.filter root0
  no : ∀ r ∈ s.1, ∀ x ∈ s.2, x.Parent ≠ r.ID
theorem RootInv.step {n : Int} {l : List Cap18} {i : Nat} {s : List Cap18 × List Cap18} {y : Cap18} (h : RootInv n l i s) (hl : validB n l = true) (hi : l[i]? = some y) : RootInv n l (i + 1) (rootStep y s) := by
  have hy := List.mem_of_getElem? hi
  have hid := validL_mem l [] (validB_iff.1 hl).1 (by simp [lastID]) y hy
  unfold rootStep
  cases hr : ieq y.Parent 0 with
  | false =>
    exact ⟨by rw [take_succ_of hi, List.filter_append]; simp [root0, hr, h.roots], h.val, h.sub, h.keep, h.no⟩
  | true =>
    have hf := specW_filter h.val y.ID (by omega)
    refine ⟨by rw [take_succ_of hi, List.filter_append]; simp [root0, hr, h.roots], specW_validB _ _ _ _ h.val, (specW_sub _ _ _).trans h.sub, hf.1.trans h.keep, fun r hr x hx => ?_⟩
    rcases List.mem_append.1 hr with hr | hr
    · exact h.no r hr x ((specW_sub _ _ _).subset hx)
    · simp at hr; subst hr
      exact hf.2 x hx
theorem RootInv.mem {n : Int} {l : List Cap18} {i : Nat} {s : List Cap18 × List Cap18} {y : Cap18} (h : RootInv n l i s) (hi : l[i]? = some y) (hr : ieq y.Parent 0 = true) : y ∈ s.2 := by
  have : y ∈ l.filter root0 := List.mem_filter.2 ⟨List.mem_of_getElem? hi, hr⟩
  rw [← h.keep] at this
  exact (List.mem_filter.1 this).1
theorem RootInv.fin {n : Int} {l : List Cap18} {s : List Cap18 × List Cap18} (h : RootInv n l l.length s) : s.1 = l.filter root0 ∧ s.2 = l.filter root0 := by
  have h1 : s.1 = l.filter root0 := by rw [h.roots, List.take_length]
  refine ⟨h1, ?_⟩
  have hall : ∀ x ∈ s.2, x.Parent = 0 := roots_only s.2 [] (validB_iff.1 h.val).1 (by simp) (fun p hp hp0 x hx => by
    simp only [List.nil_append] at hp hx
    refine h.no p ?_ x hx
    rw [h1, ← h.keep]
    exact List.mem_filter.2 ⟨hp, ieq_iff.2 hp0⟩)
  rw [← h.keep, List.filter_eq_self.2 fun x hx => ieq_iff.2 (hall x hx)]
theorem foldI {α σ : Type} (g : α → σ → σ) (I : Nat → σ → Prop) (l : List α) (hs : ∀ i a s, l[i]? = some a → I i s → I (i + 1) (g a s)) : ∀ (r : List α) (k : Nat) (s : σ), l.drop k = r → k ≤ l.length → I k s → I l.length (r.foldl (fun s a => g a s) s)
  | [], k, s, hd, hk, h => by
    have : k = l.length := by
      have := congrArg List.length hd
      simp at this
      omega
    subst this; exact h
  | a :: r, k, s, hd, hk, h => by
    have ha : l[k]? = some a := by
      have := congrArg (·[0]?) hd
      simpa using this
    have hr : l.drop (k + 1) = r := by rw [← List.drop_drop, hd]; rfl
    rw [List.foldl_cons]
    exact foldI g I l hs r (k + 1) _ hr ((List.getElem?_eq_some_iff.1 ha).1) (hs k a s ha h)
end Go.G
