import Derived.Test.YtjmhaeegcaapeaaP12k
set_option linter.unusedVariables false
set_option linter.unusedSimpArgs false
namespace Go.G
set_option maxRecDepth 100000
set_option maxHeartbeats 4000000
section
variable {fu : Nat} (hfu : 2000 < fu) {p : Int} {l data : List Int} (hl : Arr l) (hd : Fr data)
include hfu hl hd
theorem in7 {i : Nat} (T : List Int × Int × Int × Int × List Flight12 × List (List Int) × Bool × Int × Int × Int × List Int × Int × Int × List Int × Bool × Int × Int × Int × List Int × Int × Int × List Int × Unit) :
    iter (t7_7 fu) fu (p, (data, ((), (0, (0, (l, ((i : Int), (0, (dlen l, (0, (T, ()))))))))))) = some (.inl (p, (data, ((), (0, (0, (l, ((i : Int), (((cnt l i : Nat) : Int), (T, ()))))))))) ) := by
  have _ := hd
  have hlen := hl.len
  have := iter_run (step := t7_7 fu) (fu := fu) (fun j => (p, (data, ((), (0, (0, (l, ((i : Int), (((cnt (l.take j) i : Nat) : Int), (dlen l, ((j : Int), (T, ()))))))))))) )
    (e := .inl (p, (data, ((), (0, (0, (l, ((i : Int), (((cnt l i : Nat) : Int), (T, ()))))))))) ) (n := l.length)
    (fun j hj => by
      obtain ⟨d, hdj⟩ : ∃ d, l[j]? = some d := ⟨_, List.getElem?_eq_getElem hj⟩
      have hi : ilt (j : Int) (dlen l) = true := ilt_len hj
      have ht : l.take (j + 1) = l.take j ++ [d] := by rw [List.take_add_one, hdj]; rfl
      have hc : cnt (l.take j) i ≤ 2 := by
        have : cnt (l.take j) i ≤ (l.take j).length := List.length_filter_le _ _
        simp at this
        omega
      cases hle : ile d (i : Int) with
      | true =>
        have hle' := ile_iff.1 hle
        have hs : cnt (l.take (j + 1)) i = cnt (l.take j) i + 1 := by rw [ht]; simp [cnt, List.filter_append, hle']
        simp only [t7_7, hi, dat_nat, hdj, hle, hs, iadd1 (k := j) (by omega), iadd1 (k := cnt (l.take j) i) (by omega)]
      | false =>
        have hle' : ¬ d ≤ (i : Int) := by have := ile_f.1 hle; omega
        have hs : cnt (l.take (j + 1)) i = cnt (l.take j) i := by rw [ht]; simp [cnt, List.filter_append, hle']
        simp only [t7_7, hi, dat_nat, hdj, hle, hs, iadd1 (k := j) (by omega)])
    (by simp only [t7_7, dlen_def, ilt_end, List.take_length]) (by omega)
  exact this
theorem step7 {i : Nat} (hi : i < 8) {x0 : List Int} {x1 x2 x3 : Int} {x4 : List Flight12} {x5 : List (List Int)} {x6 : Bool} {x7 x8 x9 : Int} {xa : List Int} {xb xc : Int} {xd : List Int} {xe : Bool} {xf xg xh : Int} {xi : List Int} {xj xk : Int} {xl : List Int}
    {z0 : List Int} {z1 z2 z3 : Int} {z4 : List Flight12} {z5 : List (List Int)} {z6 : Bool} {z7 z8 z9 : Int} {za : List Int} {zb zc : Int} {zd : List Int} {ze : Bool} {zf zg zh : Int} {zi : List Int} {zj zk : Int} {zl : List Int}
    (h1 : s20 fu x0 x1 x2 x3 x4 x5 x6 x7 x8 x9 xa xb xc xd xe xf xg xh xi xj xk xl = some ((z0, (z1, (z2, (z3, (z4, (z5, (z6, (z7, (z8, (z9, (za, (zb, (zc, (zd, (ze, (zf, (zg, (zh, (zi, (zj, (zk, (zl, ())))))))))))))))))))))), ([], ()))) (h4 : ieq (dlen z5) ((cnt l (i + 1) : Nat) : Int) = true) :
    t7_5 fu (p, (data, ((), (0, (0, (l, (((i + 1 : Nat) : Int), ((x0, (x1, (x2, (x3, (x4, (x5, (x6, (x7, (x8, (x9, (xa, (xb, (xc, (xd, (xe, (xf, (xg, (xh, (xi, (xj, (xk, (xl, ())))))))))))))))))))))), ())))))))) = some (.inl (p, (data, ((), (0, (0, (l, (((i + 1 + 1 : Nat) : Int), ((z0, (z1, (z2, (z3, (z4, (z5, (z6, (z7, (z8, (z9, (za, (zb, (zc, (zd, (ze, (zf, (zg, (zh, (zi, (zj, (zk, (zl, ())))))))))))))))))))))), ()))))))))) := by
  have h2 : ile ((i + 1 : Nat) : Int) 8 = true := ile_iff.2 (by omega)
  have h3 := in7 hfu (p := p) hl hd (i := i + 1) (z0, (z1, (z2, (z3, (z4, (z5, (z6, (z7, (z8, (z9, (za, (zb, (zc, (zd, (ze, (zf, (zg, (zh, (zi, (zj, (zk, (zl, ()))))))))))))))))))))))
  have h5 : iadd .i64 ((i + 1 : Nat) : Int) 1 = ((i + 1 + 1 : Nat) : Int) := iadd1 (by omega)
  generalize ((cnt l (i + 1) : Nat) : Int) = c at h3 h4
  generalize ((i + 1 : Nat) : Int) = u at h2 h3 h5 ⊢
  generalize ((i + 1 + 1 : Nat) : Int) = u' at h5 ⊢
  simp only [t7_5, h1, h2, h3, h4, h5]
theorem out7 : iter (t7_5 fu) fu (p, (data, ((), (0, (0, (l, (1, (stF p l data 0, ())))))))) = some (.inl (p, (data, ((), (0, (0, (l, (stF p l data 8, ())))))))) :=
  iter_run (step := t7_5 fu) (fu := fu) (fun i => (p, (data, ((), (0, (0, (l, (((i + 1 : Nat) : Int), (stF p l data i, ()))))))) )) (e := .inl (p, (data, ((), (0, (0, (l, (stF p l data 8, ())))))))) (n := 8)
    (fun i hi => step7 hfu hl hd hi (m_fate hfu hl hd (by omega)) (ieq_iff.2 (by rw [dlen_def, List.length_replicate])))
    (by simp only [t7_5, show ile ((8 + 1 : Nat) : Int) 8 = false from rfl]) (by omega)
theorem last7 : ∃ y, iter (t7_14 fu) fu (p, (data, ((), (0, (0, (l, (dlen (List.replicate (cnt l 8) data), (0, (stF p l data 8, ()))))))))) = some (.inl (p, ((), (0, (0, (l, (y, ())))))) ) ∧ y.2.2.2.2.1 = [] := by
  refine ⟨stF p l data 8, ?_, by simp [tup, cnt_8 hl]⟩
  have hlen := hl.len
  have hc : cnt l 8 ≤ 2 := by rw [cnt_8 hl (by omega)]; exact hlen
  refine iter_run (step := t7_14 fu) (fu := fu) (fun j => (p, (data, ((), (0, (0, (l, (dlen (List.replicate (cnt l 8) data), ((j : Int), (stF p l data 8, ())))))))))) (n := cnt l 8)
    (fun j hj => by
      have hi : ilt (j : Int) (dlen (List.replicate (cnt l 8) data)) = true := ilt_len (by rw [List.length_replicate]; exact hj)
      have hb : (List.replicate (cnt l 8) data)[j]? = some data := by rw [List.getElem?_replicate, if_pos hj]
      have hs : s27 fu data data = some (true, ()) := by rw [bytes12 fu data data (by have := hd.2; omega) (by have := hd.2; omega)]; simp
      simp only [t7_14, hi, dat_nat, hb, hs, iadd1 (k := j) (by omega)])
    (by simp only [t7_14, dlen_def, List.length_replicate, ilt_end]) (by omega)
end
def chk7 (n : Nat) : Bool := match s17 0 (n : Int) with
  | some ([], ()) => ieq (irem .u8 (n : Int) 4) 1
  | some ([a], ()) => decide (1 ≤ a) && decide (a ≤ 8) && !ieq (irem .u8 (n : Int) 4) 1
  | some ([a, b], ()) => decide (1 ≤ a) && decide (a ≤ 8) && decide (a < b) && decide (b ≤ 8) && !ieq (irem .u8 (n : Int) 4) 1
  | _ => false
theorem chk7_all : (List.range 256).all chk7 = true := by decide +kernel
theorem arr_any {fu : Nat} {p : Int} (h0 : 0 ≤ p) (h1 : p ≤ 255) : ∃ l, Arr l ∧ s17 fu p = some (l, ()) ∧ ieq (dlen l) 0 = ieq (irem .u8 p 4) 1 := by
  obtain ⟨n, rfl⟩ := Int.eq_ofNat_of_zero_le h0
  have := List.all_eq_true.1 chk7_all n (List.mem_range.2 (by omega))
  unfold chk7 at this
  have hs : s17 fu (n : Int) = s17 0 (n : Int) := rfl
  rw [hs]
  split at this
  · rename_i hd
    exact ⟨[], ⟨by simp, by simp, by simp⟩, hd, by rw [this]; rfl⟩
  · rename_i a hd
    simp only [Bool.and_eq_true, decide_eq_true_eq, Bool.not_eq_true'] at this
    exact ⟨[a], ⟨by simp, by simpa using this.1, by simp⟩, hd, by rw [this.2]; rfl⟩
  · rename_i a b hd
    simp only [Bool.and_eq_true, decide_eq_true_eq, Bool.not_eq_true'] at this
    obtain ⟨⟨⟨⟨t1, t2⟩, t3⟩, t4⟩, t5⟩ := this
    refine ⟨[a, b], ⟨by simp, ?_, ?_⟩, hd, by rw [t5]; rfl⟩
    · intro d hm
      simp at hm
      omega
    · intro x y hxy
      simp at hxy
      omega
  · cases this
theorem law7_at (k : Nat) (hf : 5000 < k) (ha : s11 k = some (true, ())) (p : Int) (data : List Int) (h0 : 0 ≤ p) (h1 : p ≤ 255) : s7 k p data = some (true, ()) := by
  unfold s7
  rw [ha]
  simp only
  cases h : ilt (dlen data) 1 with
  | true => rfl
  | false =>
    cases h2 : ilt 128 (dlen data) with
    | true => rfl
    | false =>
      rw [ilt_f, dlen_def] at h h2
      have hd : Fr data := ⟨by omega, by omega⟩
      obtain ⟨l, hl, hp, he⟩ := arr_any (fu := k) h0 h1
      have hn := new12 k (l := [p]) (by simp)
      obtain ⟨e1, e2⟩ := m_fate0 (fu := k) (by omega) hl hd hp
      have e3 := out7 (fu := k) (by omega) (p := p) hl hd
      obtain ⟨y, e4, e5⟩ := last7 (fu := k) (by omega) (p := p) hl hd
      simp only [hn, e1, e2, hp, e3, e4, e5, show ieq 0 0 = true from rfl, show ieq (dlen ([] : List Flight12)) 0 = true from rfl, show ieq 4 0 = false from rfl, he]
      cases ieq (irem .u8 p 4) 1 <;> rfl
/-- LinkFate is true. -/
theorem law7 (a0 : Int) (a1 : List Int) (h : WfA A7 (a0, a1, ())) : s7 FU a0 a1 = some (true, ()) := by
  obtain ⟨b0, b1⟩ := wfd_u8 (wfa_mem h (c := .d (.int .u8 a0)) (by simp [embPs, embP, embC]))
  exact law7_at FU (by decide) aw12 a0 a1 b0 b1
end Go.G
