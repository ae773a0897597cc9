import Derived.Test.YtiifmafolmmelaaP20f
set_option linter.unusedVariables false
set_option linter.unusedSimpArgs false
namespace Go.G
set_option maxRecDepth 100000
set_option maxHeartbeats 4000000
/-- How many of a pair there are. -/
def cntP (l : List Msg20) (s d : Int) : Nat := (l.filter (fun x => ieq x.Src s && ieq x.Dst d)).length
def numb (m : Msg20) (n : Nat) : Msg20 := ⟨m.Src, m.Dst, m.Kind, (n : Int), m.Args_0, m.Args_1, m.Args_2, m.Args_3, m.Data⟩
theorem cntP_snoc (l : List Msg20) (m : Msg20) (s d : Int) : cntP (l ++ [m]) s d = cntP l s d + (bif ieq m.Src s && ieq m.Dst d then 1 else 0) := by
  unfold cntP
  rw [List.filter_append, List.length_append, List.filter_cons]
  cases ieq m.Src s && ieq m.Dst d <;> rfl
theorem cntP_le (l : List Msg20) (s d : Int) : cntP l s d ≤ l.length := List.length_filter_le _ _
structure St3 (l : List Msg20) (i : Nat) (q : List Msg20) (p : List Pair20) : Prop where
  val : validB q p = true
  len : q.length = i
  plen : p.length ≤ i
  at_ : ∀ j m, j < i → l[j]? = some m → q[j]? = some (numb m (cntP (l.take (j + 1)) m.Src m.Dst))
  last : ∀ s d, lastP p s d = (cntP (l.take i) s d : Int)
theorem step3 {l : List Msg20} {i : Nat} {q : List Msg20} {p : List Pair20} {m : Msg20} (h : St3 l i q p) (hi : l[i]? = some m) (hl : l.length ≤ 30) (hp : propB m = true) :
    sendF q p m = (stT (q ++ [nmsg p m]) (putS ltP (npr p m) p), 0, ()) ∧ St3 l (i + 1) (q ++ [nmsg p m]) (putS ltP (npr p m) p) := by
  have hlt := getElem?_lt hi
  obtain ⟨⟨v1, v2⟩, v3, v4⟩ := valid_iff.1 h.val
  have hc := cntP_le (l.take i) m.Src m.Dst
  rw [List.length_take] at hc
  have hlast := h.last m.Src m.Dst
  have hql := h.len
  have hL : lastP p m.Src m.Dst < 1099511627776 := by rw [hlast]; omega
  have hseq : iadd .i64 (lastP p m.Src m.Dst) 1 = ((cntP (l.take i) m.Src m.Dst + 1 : Nat) : Int) := by rw [nmsg_seq v1 hL, hlast]; omega
  have ht : l.take (i + 1) = l.take i ++ [m] := by rw [List.take_add_one, hi]; rfl
  have hself : cntP (l.take (i + 1)) m.Src m.Dst = cntP (l.take i) m.Src m.Dst + 1 := by
    rw [ht, cntP_snoc, ieq_iff.2 rfl, ieq_iff.2 rfl]
    rfl
  refine ⟨?_, sent_valid h.val hp (by omega) hL, by simp [hql], ?_, fun j x hj hx => ?_, fun s d => ?_⟩
  · unfold sendF
    rw [h.val, hp, show ile 400 (dlen q) = false from ile_f.2 (by rw [dlen_def]; omega), show ile 1099511627776 (lastP p m.Src m.Dst) = false from ile_f.2 hL]
    rfl
  · rw [putS_len]
    have := noS_len (lt := ltP) (l := p) (x := npr p m)
    have := h.plen
    omega
  · by_cases e : j < i
    · rw [List.getElem?_append_left (by omega)]
      exact h.at_ j x e hx
    · have : j = i := by omega
      subst this
      rw [hi] at hx
      cases hx
      rw [List.getElem?_append_right (by omega), show j - q.length = 0 by omega, hself]
      show some (nmsg p m) = _
      unfold nmsg numb
      rw [hseq]
  · rw [last_sent v2, ht, cntP_snoc]
    by_cases e : m.Src = s ∧ m.Dst = d
    · rw [if_pos e, hseq, ieq_iff.2 e.1, ieq_iff.2 e.2, ← e.1, ← e.2]
      rfl
    · rw [if_neg e, h.last]
      have : (ieq m.Src s && ieq m.Dst d) = false := by
        cases hh : (ieq m.Src s && ieq m.Dst d) with
        | false => rfl
        | true => rw [Bool.and_eq_true, ieq_iff, ieq_iff] at hh; exact absurd hh e
      rw [this]
      simp
theorem st3_0 (l : List Msg20) : St3 l 0 [] [] := ⟨valid_nil, rfl, Nat.le_refl _, fun j m hj => absurd hj (by omega), fun s d => rfl⟩
theorem loop3 (fu : Nat) (hf : 100000 < fu) (l : List Msg20) (hl : l.length ≤ 30) :
    (∃ r, iter (t3_1 fu) fu (l, ((), ((dlen l), (0, (([], ([], ())), ()))))) = some (.inr (.inl (true, r)))) ∨
    (∃ q p, St3 l l.length q p ∧ (∀ m ∈ l, propB m = true) ∧ iter (t3_1 fu) fu (l, ((), ((dlen l), (0, (([], ([], ())), ()))))) = some (.inl (l, ((), ((q, (p, ())), ()))))) := by
  have key : ∀ (d i fu' : Nat) (q : List Msg20) (p : List Pair20), i + d = l.length → d < fu' → St3 l i q p → (∀ m ∈ l.take i, propB m = true) →
      (∃ r, iter (t3_1 fu) fu' (l, ((), ((dlen l), ((i : Int), ((q, (p, ())), ()))))) = some (.inr (.inl (true, r)))) ∨
      (∃ q' p', St3 l l.length q' p' ∧ (∀ m ∈ l, propB m = true) ∧ iter (t3_1 fu) fu' (l, ((), ((dlen l), ((i : Int), ((q, (p, ())), ()))))) = some (.inl (l, ((), ((q', (p', ())), ()))))) := by
    intro d
    induction d with
    | zero =>
      intro i fu' q p h1 h2 hS hP
      obtain ⟨k, rfl⟩ : ∃ k, fu' = k + 1 := ⟨fu' - 1, by omega⟩
      have hil : i = l.length := by omega
      subst hil
      rw [List.take_length] at hP
      exact .inr ⟨q, p, hS, hP, by simp only [iter, t3_1, dlen_def, ilt_end]⟩
    | succ d ih =>
      intro i fu' q p h1 h2 hS hP
      obtain ⟨k, rfl⟩ : ∃ k, fu' = k + 1 := ⟨fu' - 1, by omega⟩
      have hi : i < l.length := by omega
      have hm : l[i]? = some l[i] := List.getElem?_eq_getElem hi
      cases hp : propB l[i] with
      | false =>
        left
        exact ⟨((q, (p, ())), ()), by simp only [iter, t3_1, dlen_def l, ilt_len hi, dat_nat, hm, prop20', hp]⟩
      | true =>
        obtain ⟨s1, s2⟩ := step3 hS hm hl hp
        have hpl := hS.plen
        have hql := hS.len
        have hst : t3_1 fu (l, ((), ((dlen l), ((i : Int), ((q, (p, ())), ()))))) = some (.inl (l, ((), ((dlen l), (((i + 1 : Nat) : Int), ((q ++ [nmsg p l[i]], (putS ltP (npr p l[i]) p, ())), ())))))) := by
          simp only [t3_1, dlen_def l, ilt_len hi, dat_nat, hm, prop20', hp, send20 fu q p l[i] (by omega) (by omega) (by omega) (by omega) (by have := prop_data hp; omega), s1, show ieq 0 0 = true from rfl, iadd1 (show i < 9223372036854775807 by omega)]
        simp only [iter, hst]
        exact ih (i + 1) k _ _ (by omega) (by omega) s2 (fun x hx => by
          rw [List.take_add_one, hm] at hx
          rcases List.mem_append.1 hx with hx | hx
          · exact hP x hx
          · simp at hx; subst hx; exact hp)
  exact key l.length 0 fu [] [] (by omega) (by omega) (st3_0 l) (by simp)
theorem seq3 (fu : Nat) (hf : 100000 < fu) (l : List Msg20) (i : Nat) (m : Msg20) (a b : Int) (q : List Msg20) (p : List Pair20) (hm : l[i]? = some m) (hl : l.length ≤ 30) :
    iter (t3_9 fu) fu (l, ((), ((i : Int), (0, (0, (a, (b, ((q, (p, ())), ())))))))) = some (.inl (l, ((), ((i : Int), ((cntP (l.take (i + 1)) m.Src m.Dst : Int), (a, (b, ((q, (p, ())), ())))))))) := by
  have hi := getElem?_lt hm
  obtain ⟨s, hs, hit⟩ := iter_inv (step := t3_9 fu) (fu := fu) (l.take (i + 1)) (fun k (n : Nat) => (l, ((), ((i : Int), ((n : Int), ((k : Int), (a, (b, ((q, (p, ())), ())))))))))
    (fun _ x n => n + (bif ieq x.Src m.Src && ieq x.Dst m.Dst then 1 else 0)) (fun k n => n = cntP ((l.take (i + 1)).take k) m.Src m.Dst) (fun n => .inl (l, ((), ((i : Int), ((n : Int), (a, (b, ((q, (p, ())), ())))))))) 0 (by rw [List.length_take]; omega) rfl
    (fun k x n hk hI => by
      have hk' := getElem?_lt hk
      rw [List.length_take] at hk'
      have hx : l[k]? = some x := by rw [List.getElem?_take_of_lt (by omega)] at hk; exact hk
      have htt : (l.take (i + 1)).take (k + 1) = (l.take (i + 1)).take k ++ [x] := by rw [List.take_add_one, hk]; rfl
      have hn : n ≤ 30 := by rw [hI]; have := cntP_le ((l.take (i + 1)).take k) m.Src m.Dst; rw [List.length_take, List.length_take] at this; omega
      refine ⟨?_, by rw [htt, cntP_snoc, hI]⟩
      simp only [t3_9, show ile (k : Int) (i : Int) = true from ile_iff.2 (by omega), dat_nat, hx, hm, iadd1 (show k < 9223372036854775807 by omega), iadd1 (show n < 9223372036854775807 by omega)]
      cases ieq x.Src m.Src <;> cases ieq x.Dst m.Dst <;> rfl)
    (fun n _ => by
      rw [List.length_take, show min (i + 1) l.length = i + 1 by omega]
      simp only [t3_9, show ile ((i + 1 : Nat) : Int) (i : Int) = false from ile_f.2 (by omega)])
  rw [List.take_length] at hs
  rw [show ((0 : Nat) : Int) = 0 from rfl] at hit
  rw [hit, hs]
theorem law3_at (fu : Nat) (hf : 100000 < fu) (ha : s9 fu = some (true, ())) (l : List Msg20) : s3 fu l = some (true, ()) := by
  unfold s3
  rw [ha]
  simp only
  cases h : ilt 30 (dlen l) with
  | true => rfl
  | false =>
    rw [ilt_f, dlen_def] at h
    rcases loop3 fu hf l (by omega) with ⟨r, hr⟩ | ⟨q, p, hS, hP, hr⟩
    · simp only [hr]
    · have hpl := hS.plen
      have hql := hS.len
      have hloop : iter (t3_8 fu) fu (l, ((), ((dlen l), (0, ((q, (p, ())), ()))))) = some (.inl ((), (([], (p, ())), ()))) := by
        have := iter_run (step := t3_8 fu) (fu := fu) (fun i => (l, ((), ((dlen l), ((i : Int), ((q.drop i, (p, ())), ())))))) (n := l.length) (e := .inl ((), (([], (p, ())), ())))
          (fun i hi => by
            have hm : l[i]? = some l[i] := List.getElem?_eq_getElem hi
            have hqi := hS.at_ i l[i] hi hm
            have hd : q.drop i = numb l[i] (cntP (l.take (i + 1)) l[i].Src l[i].Dst) :: q.drop (i + 1) := by
              have hlt := getElem?_lt hqi
              rw [List.getElem?_eq_getElem hlt] at hqi
              rw [List.drop_eq_getElem_cons hlt]
              exact congrArg (· :: _) (Option.some.inj hqi)
            have hval := valid_sub hS.val (List.drop_sublist i q)
            have hD : isD l[i].Dst (numb l[i] (cntP (l.take (i + 1)) l[i].Src l[i].Dst)) = true := ieq_iff.2 rfl
            have htk : takeF (q.drop i) p l[i].Dst = (stT (q.drop (i + 1)) p, mT (numb l[i] (cntP (l.take (i + 1)) l[i].Src l[i].Dst)), 0, ()) := by
              unfold takeF
              rw [hval, hd, List.find?_cons, hD, List.eraseP_cons_of_pos hD]
              rfl
            have hdl : (q.drop i).length ≤ q.length := by rw [List.length_drop]; omega
            have hsm := smsg20 fu (numb l[i] (cntP (l.take (i + 1)) l[i].Src l[i].Dst)) (numb l[i] (cntP (l.take (i + 1)) l[i].Src l[i].Dst))
            rw [sameM_self] at hsm
            have hsm' : s13 fu (numb l[i] (cntP (l.take (i + 1)) l[i].Src l[i].Dst)).Src (numb l[i] (cntP (l.take (i + 1)) l[i].Src l[i].Dst)).Dst (numb l[i] (cntP (l.take (i + 1)) l[i].Src l[i].Dst)).Kind (numb l[i] (cntP (l.take (i + 1)) l[i].Src l[i].Dst)).Seq (numb l[i] (cntP (l.take (i + 1)) l[i].Src l[i].Dst)).Args_0 (numb l[i] (cntP (l.take (i + 1)) l[i].Src l[i].Dst)).Args_1 (numb l[i] (cntP (l.take (i + 1)) l[i].Src l[i].Dst)).Args_2 (numb l[i] (cntP (l.take (i + 1)) l[i].Src l[i].Dst)).Args_3 (numb l[i] (cntP (l.take (i + 1)) l[i].Src l[i].Dst)).Data
                l[i].Src l[i].Dst l[i].Kind (cntP (l.take (i + 1)) l[i].Src l[i].Dst : Int) l[i].Args_0 l[i].Args_1 l[i].Args_2 l[i].Args_3 l[i].Data = some (true, ()) := hsm
            have hseq := seq3 fu hf l i l[i] (dlen l) (i : Int) (q.drop i) p hm (by omega)
            rw [dlen_def] at hseq
            simp only [t3_8, dlen_def l, ilt_len hi, hseq, dat_nat, hm, take20 fu (q.drop i) p l[i].Dst (by omega) (by omega) (by omega) (by omega), htk, show ieq 0 0 = true from rfl, hsm', iadd1 (show i < 9223372036854775807 by omega)])
          (by
            have : q.drop l.length = [] := List.drop_eq_nil_of_le (by omega)
            simp only [t3_8, dlen_def l, ilt_end, this]) (by omega)
        simpa using this
      simp only [hr, hloop]
      rfl
/-- PortsOrder is true. -/
theorem law3 (a0 : List Msg20) (_ : WfA A3 (a0, ())) : s3 FU a0 = some (true, ()) := law3_at FU (by decide) aw20 a0
end Go.G
