import Derived.Test.YtjmhaeegcaapeaaP12b0
set_option linter.unusedVariables false
set_option linter.unusedSimpArgs false
namespace Go.G
set_option maxRecDepth 100000
abbrev Fr (b : List Int) : Prop := 1 ≤ b.length ∧ b.length ≤ 128
theorem s48_ok {fu : Nat} {b : List Int} (h : Fr b) : s48 fu b = some (true, ()) := by
  have h1 : ile 1 (dlen b) = true := ile_iff.2 (by rw [dlen_def]; have := h.1; omega)
  have h2 : ile (dlen b) 128 = true := ile_iff.2 (by rw [dlen_def]; have := h.2; omega)
  simp only [s48, h1, h2]
theorem s50_ok {fu : Nat} {b : List Int} (h : Fr b) : s50 fu b = some (false, ()) := by
  simp only [s50, s48_ok h]
theorem s47_ok {fu : Nat} {a : Int} (h : 0 ≤ a) (h2 : a ≤ 1099511627776) : s47 fu a = some (true, ()) := by
  have h1 : ile 0 a = true := ile_iff.2 h
  have h2 : ile a 1099511627776 = true := ile_iff.2 h2
  simp only [s47, h1, h2]
theorem clone12 {α : Type} {bytes : Nat} (hb : bytes ≤ 1000) {l : List α} (h : l.length ≤ 1000) : dapp bytes [] l = some l := by
  refine dapp_nil ?_ (by omega)
  calc l.length * bytes ≤ 1000 * 1000 := Nat.mul_le_mul h hb
    _ ≤ _ := by omega
theorem s67_ok {fu : Nat} {o : Bool} {t op pl : Int} {d : List Int} {lt la : Int} {ld : List Int} (h1 : d.length ≤ 1000) (h2 : ld.length ≤ 1000) : s67 fu o t op pl d lt la ld = some ((o, (t, (op, (pl, (d, (lt, (la, (ld, ())))))))), ()) := by
  simp only [s67, clone12 (bytes := 1) (by omega) h1, clone12 (bytes := 1) (by omega) h2]
/-- A closed channel. -/
theorem s52_0 {fu : Nat} {t : Int} (h : 2 ≤ t) (h2 : irem .i64 t 2 = 0) : s52 fu t 0 = some (true, ()) := by
  have h1 : ile 2 t = true := ile_iff.2 h
  simp only [s52, show ieq 0 0 = true from rfl, show ieq 2 0 = false from rfl, h1, h2]
theorem s52_1 {fu : Nat} {t : Int} (h : 1 ≤ t) (h2 : irem .i64 t 2 = 1) : s52 fu t 1 = some (true, ()) := by
  have h1 : ile 1 t = true := ile_iff.2 h
  simp only [s52, show ieq 1 0 = false from rfl, show ieq 2 0 = false from rfl, h1, h2]
  rfl
theorem s51_shut {fu : Nat} {lt la : Int} {ld : List Int} {op : Int} (h : lt = 0 ∨ s52 fu lt op = some (true, ())) : s51 fu false 0 0 0 [] lt la ld op = some (true, ()) := by
  unfold s51
  by_cases h0 : lt = 0
  · have e : ieq lt 0 = true := ieq_iff.2 h0
    simp only [e, show ieq 0 0 = true from rfl]
    rfl
  · have e : ieq lt 0 = false := ieq_f.2 h0
    rw [h.resolve_left h0]
    simp only [e, show ieq 0 0 = true from rfl]
    rfl
theorem s51_open {fu : Nat} {t o pl : Int} {d : List Int} {lt la : Int} {ld : List Int} {op : Int} (h : lt = 0 ∨ s52 fu lt op = some (true, ())) (ht : s52 fu t op = some (true, ())) (hle : lt ≤ t) : s51 fu true t o pl d lt la ld op = some (true, ()) := by
  unfold s51
  have e2 : ile lt t = true := ile_iff.2 hle
  by_cases h0 : lt = 0
  · have e : ieq lt 0 = true := ieq_iff.2 h0
    simp only [e, ht, e2]
  · have e : ieq lt 0 = false := ieq_f.2 h0
    rw [h.resolve_left h0]
    simp only [e, ht, e2]
structure Fl12 (now : Int) (fl : List Flight12) : Prop where
  len : fl.length ≤ 400
  ok : ∀ f ∈ fl, Fr f.Data ∧ now < f.Due ∧ f.Due ≤ now + 8
  so : ∀ i a b, fl[i]? = some a → fl[i + 1]? = some b → a.Due ≤ b.Due
theorem valid12 {fu : Nat} (hfu : 1000 < fu) {P : List Int} {now sent first : Int} {fl : List Flight12} {wt : List (List Int)} {oo : Bool} {ot oop opl : Int} {od : List Int} {olt ola : Int} {old : List Int} {io : Bool} {it iop ipl : Int} {id : List Int} {jlt jla : Int} {jld : List Int}
    (hp : P.length ≤ 200) (hn : 0 ≤ now) (hn2 : now ≤ 1000) (hs : 0 ≤ sent) (hs2 : sent ≤ 1000) (h1 : 0 ≤ first) (h12 : first ≤ 1000) (hfl : Fl12 now fl) (hw : wt.length ≤ 64) (hwt : ∀ b ∈ wt, Fr b)
    (ho : s51 fu oo ot oop opl od olt ola old 0 = some (true, ())) (hi : s51 fu io it iop ipl id jlt jla jld 1 = some (true, ())) :
    s25 fu P now sent first fl wt oo ot oop opl od olt ola old io it iop ipl id jlt jla jld = some (true, ()) := by
  have e1 : ilt 200 (dlen P) = false := ilt_f.2 (by rw [dlen_def]; omega)
  have e2 : ilt 400 (dlen fl) = false := ilt_f.2 (by rw [dlen_def]; have := hfl.len; omega)
  have e3 : ilt 64 (dlen wt) = false := ilt_f.2 (by rw [dlen_def]; omega)
  have hlen := hfl.len
  have l1 := iter_run (step := t25_3 fu) (fu := fu) (fun j => ((), (fl, (dlen fl, ((j : Int), ((P, (now, (sent, (first, (fl, (wt, (oo, (ot, (oop, (opl, (od, (olt, (ola, (old, (io, (it, (iop, (ipl, (id, (jlt, (jla, (jld, ())))))))))))))))))))))), ()))))))
    (e := .inl ((), ((P, (now, (sent, (first, (fl, (wt, (oo, (ot, (oop, (opl, (od, (olt, (ola, (old, (io, (it, (iop, (ipl, (id, (jlt, (jla, (jld, ())))))))))))))))))))))), ()))) (n := fl.length)
    (fun j hj => by
      obtain ⟨f, hf⟩ : ∃ f, fl[j]? = some f := ⟨_, List.getElem?_eq_getElem hj⟩
      obtain ⟨f1, f2, f3⟩ := hfl.ok f (List.mem_of_getElem? hf)
      have g1 : ile f.Due now = false := ile_f.2 f2
      have g2 : ilt (iadd .i64 now 8) f.Due = false := ilt_f.2 (by rw [iadd64 (by omega)]; exact f3)
      have g3 : iadd .i64 (j : Int) 1 = ((j + 1 : Nat) : Int) := iadd1 (by omega)
      unfold t25_3
      simp only [dlen_def, ilt_len hj, dat_nat, hf, s48_ok f1, g1, g2, g3]
      cases hz : ilt 0 (j : Int) with
      | false => rfl
      | true =>
        rw [ilt_iff] at hz
        have g4 : isub .i64 (j : Int) 1 = ((j - 1 : Nat) : Int) := by rw [isub64 (by omega)]; omega
        obtain ⟨f', hf'⟩ : ∃ f, fl[j - 1]? = some f := ⟨_, List.getElem?_eq_getElem (by omega)⟩
        have g5 : ilt f.Due f'.Due = false := ilt_f.2 (hfl.so (j - 1) f' f hf' (by rw [Nat.sub_add_cancel (by omega)]; exact hf))
        simp only [g4, dat_nat, hf', g5])
    (by simp only [t25_3, dlen_def, ilt_end]) (by omega)
  have l2 := iter_run (step := t25_9 fu) (fu := fu) (fun j => (wt, ((), (dlen wt, ((j : Int), ()))))) (e := .inl ()) (n := wt.length)
    (fun j hj => by
      obtain ⟨b, hb⟩ : ∃ b, wt[j]? = some b := ⟨_, List.getElem?_eq_getElem hj⟩
      have g3 : iadd .i64 (j : Int) 1 = ((j + 1 : Nat) : Int) := iadd1 (by omega)
      simp only [t25_9, dlen_def, ilt_len hj, dat_nat, hb, s50_ok (hwt b (List.mem_of_getElem? hb)), g3])
    (by simp only [t25_9, dlen_def, ilt_end]) (by omega)
  simp only [show ((0 : Nat) : Int) = 0 from rfl] at l1 l2
  unfold s25
  simp only [e1, s47_ok hn (by omega : now ≤ 1099511627776), s47_ok hs (by omega : sent ≤ 1099511627776), s47_ok h1 (by omega : first ≤ 1099511627776), e2, e3, l1, l2, show ile 0 (-1) = false from rfl, ho, hi]
end Go.G
