import Derived.Test.YtmhleddbamfheaaP18g
set_option linter.unusedVariables false
set_option linter.unusedSimpArgs false
namespace Go.G
set_option maxRecDepth 100000
theorem validL_append (n : Int) : ∀ (r s pre : List Cap18), validL n pre (r ++ s) = (validL n pre r && validL n (pre ++ r) s)
  | [], s, pre => by simp [validL]
  | x :: r, s, pre => by
    simp only [List.cons_append, validL, validL_append n r s, List.append_assoc, List.nil_append, Bool.and_assoc]

theorem okAt_mono {n n' : Int} {pre : List Cap18} {x : Cap18} (h : n ≤ n') (hx : okAt n pre x = true) : okAt n' pre x = true := by
  simp only [okAt, Bool.and_eq_true, Bool.not_eq_true', ile_f] at hx ⊢
  exact ⟨hx.1, by omega, hx.2.2⟩
theorem validL_mono {n n' : Int} (h : n ≤ n') : ∀ (r pre : List Cap18), validL n pre r = true → validL n' pre r = true
  | [], _, _ => rfl
  | x :: r, pre, hv => by
    simp only [validL, Bool.and_eq_true] at hv ⊢
    exact ⟨okAt_mono h hv.1, validL_mono h r _ hv.2⟩

/-- What stands ahead of what. -/
def Ahead (p x : Cap18) : Prop := p.ID < x.ID ∧ isHas x.Owner x.Right_Type x.Right_Peer x.Right_Code p = false
theorem okAt_has {n : Int} {pre : List Cap18} {x : Cap18} (h : okAt n pre x = true) : pre.any (isHas x.Owner x.Right_Type x.Right_Peer x.Right_Code) = false := by
  simp only [okAt, Bool.and_eq_true, Bool.not_eq_true'] at h
  exact h.2.2.2.2.2.2
theorem okAt_proper {n : Int} {pre : List Cap18} {x : Cap18} (h : okAt n pre x = true) : properB x.Right_Type x.Right_Peer x.Right_Code = true := by
  simp only [okAt, Bool.and_eq_true, Bool.not_eq_true'] at h
  exact h.2.2.1
theorem validL_pw {n : Int} : ∀ (r pre : List Cap18), validL n pre r = true → (∀ p ∈ pre, p.ID ≤ lastID pre) → pre.Pairwise Ahead → (pre ++ r).Pairwise Ahead
  | [], pre, _, _, h => by simpa using h
  | x :: r, pre, hv, hl, h => by
    simp only [validL, Bool.and_eq_true] at hv
    have hlast := okAt_last hv.1
    have hhas := okAt_has hv.1
    have := validL_pw r (pre ++ [x]) hv.2 (fun p hp => by
      rw [lastID_snoc]
      rcases List.mem_append.1 hp with hp | hp
      · have := hl p hp; omega
      · simp at hp; subst hp; omega) (by
      rw [List.pairwise_append]
      refine ⟨h, by simp, fun p hp y hy => ?_⟩
      simp at hy; subst hy
      refine ⟨by have := hl p hp; omega, ?_⟩
      simpa using List.any_eq_false.1 hhas p hp)
    simpa using this
theorem valid_pw {n : Int} {l : List Cap18} (h : validL n [] l = true) : l.Pairwise Ahead := by
  simpa using validL_pw l [] h (by simp) List.Pairwise.nil

theorem pw_inj {l : List Cap18} (h : l.Pairwise Ahead) : ∀ p ∈ l, ∀ q ∈ l, p.ID = q.ID → p = q := by
  induction l with
  | nil => simp
  | cons a l ih =>
    rw [List.pairwise_cons] at h
    intro p hp q hq e
    rcases List.mem_cons.1 hp with h1 | h1
    · rcases List.mem_cons.1 hq with h2 | h2
      · rw [h1, h2]
      · have := (h.1 q h2).1; rw [h1] at e; omega
    · rcases List.mem_cons.1 hq with h2 | h2
      · have := (h.1 p h1).1; rw [h2] at e; omega
      · exact ih h.2 p h1 q h2 e

theorem find_byID {l : List Cap18} (h : l.Pairwise Ahead) {p : Cap18} (hp : p ∈ l) : l.find? (byID p.ID) = some p := by
  cases hf : l.find? (byID p.ID) with
  | none =>
    have := List.find?_eq_none.1 hf p hp
    simp [byID, ieq] at this
  | some q =>
    have hq : byID p.ID q = true := List.find?_some hf
    simp only [byID, ieq_iff] at hq
    rw [pw_inj h q (List.mem_of_find?_eq_some hf) p hp hq]
theorem find_byID' {l : List Cap18} (h : l.Pairwise Ahead) {p : Cap18} {k : Int} (hp : p ∈ l) (hk : p.ID = k) : l.find? (byID k) = some p := by subst hk; exact find_byID h hp

theorem last_mem (l : List Cap18) : lastID l = 0 ∨ ∃ p ∈ l, p.ID = lastID l := by
  unfold lastID
  cases h : l.getLast? with
  | none => exact .inl rfl
  | some p => exact .inr ⟨p, List.mem_of_getLast? h, rfl⟩
theorem last_lt {n : Int} {l : List Cap18} (h : validL n [] l = true) (hn : 1 ≤ n) : lastID l < n := by
  rcases last_mem l with h0 | ⟨p, hp, e⟩
  · omega
  · have := validL_mem l [] h (by simp [lastID]) p hp
    omega
theorem last_ge {l : List Cap18} (h : l.Pairwise Ahead) : ∀ p ∈ l, p.ID ≤ lastID l := by
  rcases List.eq_nil_or_concat l with rfl | ⟨l, x, rfl⟩
  · simp
  · rw [List.concat_eq_append] at h ⊢
    rw [List.pairwise_append] at h
    intro p hp
    rw [lastID_snoc]
    rcases List.mem_append.1 hp with hp | hp
    · have := (h.2.2 p hp x (by simp)).1; omega
    · simp at hp; subst hp; omega

/-- .. what each element of a valid table is. -/
theorem valid_okAt {n : Int} : ∀ (r pre : List Cap18), validL n pre r = true → ∀ x ∈ r, ∃ a b, pre ++ r = a ++ x :: b ∧ okAt n a x = true
  | [], _, _, x, hx => by cases hx
  | y :: r, pre, hv, x, hx => by
    simp only [validL, Bool.and_eq_true] at hv
    rcases List.mem_cons.1 hx with rfl | hx
    · exact ⟨pre, r, rfl, hv.1⟩
    · obtain ⟨a, b, e, h⟩ := valid_okAt r _ hv.2 x hx
      exact ⟨a, b, by simpa using e, h⟩

theorem parOK_of {pre : List Cap18} {x p : Cap18} (h : pre.Pairwise Ahead) (hp : p ∈ pre) (h0 : x.Parent ≠ 0) (e : p.ID = x.Parent) (hr : rEq p x = true) : parOK pre x = true := by
  unfold parOK
  rw [show ieq x.Parent 0 = false from ieq_f.2 h0, if_neg (by simp)]
  have : pre.find? (fun p => ieq p.ID x.Parent) = some p := find_byID' h hp e
  rw [this]
  exact hr
theorem parOK_inv {pre : List Cap18} {x : Cap18} (h : parOK pre x = true) : (x.Parent = 0 ∧ x.Owner = 0) ∨ (x.Parent ≠ 0 ∧ ∃ p ∈ pre, p.ID = x.Parent ∧ rEq p x = true) := by
  unfold parOK at h
  cases h0 : ieq x.Parent 0 with
  | true =>
    rw [h0, if_pos rfl] at h
    exact .inl ⟨ieq_iff.1 h0, ieq_iff.1 h⟩
  | false =>
    rw [h0, if_neg (by simp)] at h
    cases hf : pre.find? (fun p => ieq p.ID x.Parent) with
    | none => rw [hf] at h; cases h
    | some p =>
      rw [hf] at h
      have : ieq p.ID x.Parent = true := List.find?_some (p := fun p : Cap18 => ieq p.ID x.Parent) hf
      exact .inr ⟨ieq_f.1 h0, p, List.mem_of_find?_eq_some hf, ieq_iff.1 this, h⟩
theorem okAt_parOK {n : Int} {pre : List Cap18} {x : Cap18} (h : okAt n pre x = true) : parOK pre x = true := by
  simp only [okAt, Bool.and_eq_true] at h
  exact h.2.2.2.2.2.1
theorem okAt_mk {n : Int} {pre : List Cap18} {x : Cap18} (h1 : lastID pre < x.ID) (h2 : x.ID < n) (h3 : properB x.Right_Type x.Right_Peer x.Right_Code = true) (h4 : 0 ≤ x.Owner ∧ x.Owner < 32) (h5 : parOK pre x = true)
    (h6 : pre.any (isHas x.Owner x.Right_Type x.Right_Peer x.Right_Code) = false) : okAt n pre x = true := by
  simp only [okAt, Bool.and_eq_true, Bool.not_eq_true', ile_f, ilt_f]
  exact ⟨h1, h2, h3, h4.1, h4.2, h5, h6⟩

/-! ### Derive keeps tables valid -/
theorem derive_valid {n : Int} {l : List Cap18} {o : Int} {x : Cap18} (h : validB n l = true) (hx : x ∈ l) (ho : 0 ≤ o ∧ o < 32) (hn : n ≠ 1099511627776) (hlen : l.length ≠ 400)
    (hh : l.any (isHas o x.Right_Type x.Right_Peer x.Right_Code) = false) : validB (n + 1) (l ++ [⟨n, x.ID, o, x.Right_Type, x.Right_Peer, x.Right_Code⟩]) = true := by
  obtain ⟨v1, v2, v3, v4⟩ := validB_iff.1 h
  rw [validB_iff]
  refine ⟨?_, by simp; omega, by omega, by omega⟩
  rw [validL_append, validL_mono (show n ≤ n + 1 by omega) l [] v1]
  simp only [Bool.true_and, validL, Bool.and_true, List.nil_append]
  obtain ⟨a, b, e, hok⟩ := valid_okAt l [] v1 x hx
  have hid := validL_mem l [] v1 (by simp [lastID]) x hx
  have hpr := okAt_proper hok
  refine okAt_mk (last_lt v1 v3) (by simp only; omega) hpr ho ?_ hh
  exact parOK_of (valid_pw v1) hx (by simp only; omega) rfl (by simp [rEq, ieq])

/-! ### Taking away keeps tables valid -/
theorem specW_valid (g : Cap18 → Bool) (n : Int) : ∀ (l pre pre' : List Cap18) (m : Int → Bool), validL n pre l = true → pre.Pairwise Ahead → pre'.Pairwise Ahead → (∀ p ∈ pre', p ∈ pre) → (∀ p ∈ pre, p ∈ pre' ∨ m p.ID = true) → 0 ≤ lastID pre →
    validL n pre' (specW g l m) = true
  | [], _, _, _, _, _, _, _, _, _ => rfl
  | x :: l, pre, pre', m, hv, hp, hp', hA, hB, h0 => by
    simp only [validL, Bool.and_eq_true] at hv
    obtain ⟨hx, hv⟩ := hv
    have hlast := okAt_last hx
    have hhas := okAt_has hx
    have pw : (pre ++ [x]).Pairwise Ahead := by
      rw [List.pairwise_append]
      refine ⟨hp, by simp, fun p hq y hy => ?_⟩
      simp at hy; subst hy
      exact ⟨by have := last_ge hp p hq; omega, by simpa using List.any_eq_false.1 hhas p hq⟩
    simp only [specW]
    cases hc : m x.Parent || g x with
    | true =>
      simp only [cond_true]
      refine specW_valid g n l (pre ++ [x]) pre' _ hv pw hp' (fun p h => List.mem_append_left _ (hA p h)) (fun p h => ?_) (by rw [lastID_snoc]; omega)
      rcases List.mem_append.1 h with h | h
      · rcases hB p h with h | h
        · exact .inl h
        · exact .inr (by simp [h])
      · simp at h; subst h
        exact .inr (by simp [ieq])
    | false =>
      simp only [cond_false, validL, Bool.and_eq_true]
      rw [Bool.or_eq_false_iff] at hc
      have hpw' : (pre' ++ [x]).Pairwise Ahead := by
        rw [List.pairwise_append]
        refine ⟨hp', by simp, fun p hq y hy => ?_⟩
        simp at hy; subst hy
        exact ⟨by have := last_ge hp p (hA p hq); omega, by simpa using List.any_eq_false.1 hhas p (hA p hq)⟩
      refine ⟨okAt_mk ?_ (okAt_next hx) (okAt_proper hx) (okAt_owner hx) ?_ ?_, ?_⟩
      · rcases last_mem pre' with h | ⟨p, h1, h2⟩
        · omega
        · have := last_ge hp p (hA p h1); omega
      · rcases parOK_inv (okAt_parOK hx) with ⟨h1, h2⟩ | ⟨h1, p, h2, h3, h4⟩
        · simp [parOK, ieq, h1, h2]
        · rcases hB p h2 with h | h
          · exact parOK_of hp' h h1 h3 h4
          · rw [h3, hc.1] at h; cases h
      · rw [List.any_eq_false]
        intro p hq
        exact List.any_eq_false.1 hhas p (hA p hq)
      · refine specW_valid g n l (pre ++ [x]) (pre' ++ [x]) m hv pw hpw' (fun p h => ?_) (fun p h => ?_) (by rw [lastID_snoc]; omega)
        · rcases List.mem_append.1 h with h | h
          · exact List.mem_append_left _ (hA p h)
          · exact List.mem_append_right _ h
        · rcases List.mem_append.1 h with h | h
          · rcases hB p h with h | h
            · exact .inl (List.mem_append_left _ h)
            · exact .inr h
          · exact .inl (List.mem_append_right _ h)
theorem specW_sub (g : Cap18 → Bool) : ∀ (l : List Cap18) (m : Int → Bool), (specW g l m).Sublist l
  | [], _ => List.Sublist.refl _
  | x :: l, m => by
    simp only [specW]
    cases m x.Parent || g x with
    | true => exact (specW_sub g l _).cons _
    | false => exact (specW_sub g l _).cons_cons _
theorem specW_validB (g : Cap18 → Bool) (n : Int) (l : List Cap18) (m : Int → Bool) (h : validB n l = true) : validB n (specW g l m) = true := by
  obtain ⟨v1, v2, v3, v4⟩ := validB_iff.1 h
  rw [validB_iff]
  exact ⟨specW_valid g n l [] [] m v1 List.Pairwise.nil List.Pairwise.nil (by simp) (by simp) (by simp [lastID]), by have := (specW_sub g l m).length_le; omega, v3, v4⟩

/-! ### Enter keeps tables valid -/
theorem addR_valid (o : Int) (ho : 0 ≤ o ∧ o < 32) (l : List Cap18) (n0 : Int) (hv : validL n0 [] l = true) (hn0 : 1 ≤ n0) : ∀ (r add : List Cap18) (n : Int), (l ++ add).Pairwise Ahead → (∀ c ∈ r, c ∈ l) → (∀ c ∈ r, hasR l o c = false) →
    r.Pairwise (fun c d => rEq c d = false) → (∀ c ∈ r, ∀ y ∈ add, isHas o c.Right_Type c.Right_Peer c.Right_Code y = false) → n0 ≤ n → (∀ y ∈ l ++ add, y.ID < n) → validL (n + r.length) (l ++ add) (addR o n r) = true
  | [], add, n, _, _, _, _, _, _, _ => rfl
  | c :: r, add, n, hp, hm, hh, hr, ha, hn, hid => by
    rw [List.pairwise_cons] at hr
    obtain ⟨a, b, e, hok⟩ := valid_okAt l [] hv c (hm c (by simp))
    have hcid := validL_mem l [] hv (by simp [lastID]) c (hm c (by simp))
    have hlast : lastID (l ++ add) < n := by
      rcases last_mem (l ++ add) with h | ⟨p, h1, h2⟩
      · omega
      · have := hid p h1; omega
    have hno : (l ++ add).any (isHas o c.Right_Type c.Right_Peer c.Right_Code) = false := by
      rw [List.any_append, Bool.or_eq_false_iff]
      refine ⟨hh c (by simp), ?_⟩
      rw [List.any_eq_false]
      intro y hy
      simp [ha c (by simp) y hy]
    simp only [addR, validL, Bool.and_eq_true]
    have hpr := okAt_proper hok
    refine ⟨okAt_mk hlast (by simp only [List.length_cons]; omega) hpr ho (parOK_of hp (List.mem_append_left _ (hm c (by simp))) (by simp only; omega) rfl (by simp [rEq, ieq])) hno, ?_⟩
    have := addR_valid o ho l n0 hv hn0 r (add ++ [⟨n, c.ID, o, c.Right_Type, c.Right_Peer, c.Right_Code⟩]) (n + 1) (by
        rw [← List.append_assoc, List.pairwise_append]
        refine ⟨hp, by simp, fun p hq y hy => ?_⟩
        simp at hy; subst hy
        exact ⟨hid p hq, by simpa using List.any_eq_false.1 hno p hq⟩) (fun d hd => hm d (by simp [hd])) (fun d hd => hh d (by simp [hd])) hr.2 (fun d hd y hy => by
        rcases List.mem_append.1 hy with hy | hy
        · exact ha d (by simp [hd]) y hy
        · simp at hy; subst hy
          have := hr.1 d hd
          simp only [rEq] at this
          simp only [isHas, this, Bool.and_false]) (by omega) (fun y hy => by
        rw [← List.append_assoc] at hy
        rcases List.mem_append.1 hy with hy | hy
        · have := hid y hy; omega
        · simp at hy; subst hy; simp only; omega)
    rw [show n + ((c :: r).length : Int) = n + 1 + (r.length : Int) by simp only [List.length_cons]; omega]
    simpa using this
theorem roots_pw {n : Int} {l : List Cap18} (h : validL n [] l = true) : (l.filter isRoot).Pairwise (fun c d => rEq c d = false) := by
  have hpw := (valid_pw h).filter isRoot
  refine hpw.imp_of_mem fun {a b} ha hb hab => ?_
  have own : ∀ x ∈ l.filter isRoot, x.Owner = 0 := fun x hx => by
    rw [List.mem_filter] at hx
    obtain ⟨_, _, _, hok⟩ := valid_okAt l [] h x hx.1
    simp only [isRoot, Bool.and_eq_true, ieq_iff] at hx
    rcases parOK_inv (okAt_parOK hok) with ⟨_, h2⟩ | ⟨h1, _⟩
    · exact h2
    · exact absurd hx.2.1 h1
  have h2 := hab.2
  simp only [isHas, own a ha, own b hb, show ieq 0 0 = true from rfl, Bool.true_and] at h2
  exact h2
theorem enter_valid {n : Int} {l : List Cap18} {o : Int} (h : validB n l = true) (ho : 16 ≤ o ∧ o < 32) (hh : (l.filter isRoot).any (hasR l o) = false) (h1 : l.length + (l.filter isRoot).length ≤ 400) (h2 : n + (l.filter isRoot).length ≤ 1099511627776) :
    validB (n + (l.filter isRoot).length) (l ++ addR o n (l.filter isRoot)) = true := by
  obtain ⟨v1, v2, v3, v4⟩ := validB_iff.1 h
  rw [validB_iff]
  refine ⟨?_, by rw [List.length_append, addR_len]; omega, by omega, by omega⟩
  rw [validL_append, validL_mono (by omega) l [] v1, Bool.true_and]
  have := addR_valid o (by omega) l n v1 v3 (l.filter isRoot) [] n (by simpa using valid_pw v1) (fun c hc => (List.mem_filter.1 hc).1) (fun c hc => by simpa using List.any_eq_false.1 hh c hc) (roots_pw v1) (by simp) (by omega) (fun y hy => by
    have := validL_mem l [] v1 (by simp [lastID]) y (by simpa using hy); omega)
  simpa using this
end Go.G
