import Derived.Test.YtjmhaeegcaapeaaP12c
set_option linter.unusedVariables false
set_option linter.unusedSimpArgs false
namespace Go.G
set_option maxRecDepth 100000
set_option maxHeartbeats 4000000
abbrev tup (P : List Int) (now sent first : Int) (fl : List Flight12) (wt : List (List Int)) (oo : Bool) (ot oop opl : Int) (od : List Int) (olt ola : Int) (old : List Int) (io : Bool) (it iop ipl : Int) (id : List Int) (jlt jla : Int) (jld : List Int) :=
  (P, (now, (sent, (first, (fl, (wt, (oo, (ot, (oop, (opl, (od, (olt, (ola, (old, (io, (it, (iop, (ipl, (id, (jlt, (jla, (jld, ()))))))))))))))))))))))
theorem imax_le {a b c : Int} (h1 : a ≤ c) (h2 : b ≤ c) : imax a b ≤ c := by unfold imax; split <;> assumption
/-- What holds of a state between two ticks. -/
structure Ok12 (P : List Int) (now sent first : Int) (fl : List Flight12) (wt : List (List Int)) (n : Nat) : Prop where
  p : P.length ≤ 200
  n0 : 0 ≤ now
  n1 : now ≤ 900
  s0 : 0 ≤ sent
  s1 : sent ≤ 900
  f0 : 0 ≤ first
  f1 : first ≤ 900
  gl : Fl12 now fl
  w : wt.length + n ≤ 64
  fr : ∀ b ∈ wt, Fr b
  gn : n ≤ fl.length
  due : ∀ (i : Nat) (f : Flight12), i < n → fl[i]? = some f → f.Due = now + 1
  nd : ∀ f : Flight12, fl[n]? = some f → f.Due ≠ now + 1
section
variable {fu : Nat} (hfu : 2000 < fu) {P : List Int} {now sent first : Int} {fl : List Flight12} {wt : List (List Int)} {n : Nat} (H : Ok12 P now sent first fl wt n)
include hfu H
theorem max12 : ilt 1099511627712 (imax (imax now sent) first) = false := by
  have _ := hfu
  exact ilt_f.2 (Int.le_trans (imax_le (imax_le H.n1 H.s1) H.f1) (by omega))
theorem tick_idle {olt ola jlt jla : Int} {old jld : List Int} (ho : olt = 0 ∨ s52 fu olt 0 = some (true, ())) (hi : jlt = 0 ∨ s52 fu jlt 1 = some (true, ())) (hd1 : old.length ≤ 1000) (hd2 : jld.length ≤ 1000) :
    s20 fu P now sent first fl wt false 0 0 0 [] olt ola old false 0 0 0 [] jlt jla jld = some (tup P (now + 1) sent first (fl.drop n) (wt ++ (fl.take n).map Flight12.Data) false 0 0 0 [] olt ola old false 0 0 0 [] jlt jla jld, ([], ())) := by
  have hv := valid12 (fu := fu) (by omega) H.p H.n0 (by have := H.n1; omega) H.s0 (by have := H.s1; omega) H.f0 (by have := H.f1; omega) H.gl (by have := H.w; omega) H.fr (s51_shut (la := ola) (ld := old) ho) (s51_shut (la := jla) (ld := jld) hi)
  have hm := max12 hfu H
  have hc1 := clone12 (bytes := 32) (by omega) (l := fl) (by have := H.gl.len; omega)
  have hc2 := clone12 (bytes := 24) (by omega) (l := wt) (by have := H.w; omega)
  have k1 := s67_ok (fu := fu) (o := false) (t := 0) (op := 0) (pl := 0) (d := []) (lt := olt) (la := ola) (ld := old) (by simp) hd1
  have k2 := s67_ok (fu := fu) (o := false) (t := 0) (op := 0) (pl := 0) (d := []) (lt := jlt) (la := jla) (ld := jld) (by simp) hd2
  have hn1 : iadd .i64 now 1 = now + 1 := iadd64 (by have := H.n0; have := H.n1; omega)
  have ha := arrive12 (fu := fu) (by omega) H.gn H.gl.len H.due H.nd H.w
  unfold s20
  simp only [hv, hm, hc1, hc2, k1, k2, hn1, ha]
theorem tick_send {p : Int} {l data : List Int} {ct pl olt ola jlt jla : Int} {old jld : List Int} (hP : (P = [] ∧ s17 fu 0 = some (l, ())) ∨ (P = [p] ∧ s17 fu p = some (l, ()))) (hd : Fr data) (hct : s52 fu ct 0 = some (true, ())) (hlt : olt < ct)
    (hl : l.length ≤ 2) (hn3 : (fl.drop n).length ≤ 398) (hl1 : ∀ d ∈ l, 0 ≤ d ∧ d ≤ 8 ∧ ∀ f ∈ fl.drop n, f.Due ≤ now + 1 + d) (hl2 : ∀ (i j : Nat) (a b : Int), i ≤ j → l[i]? = some a → l[j]? = some b → a ≤ b)
    (ho : olt = 0 ∨ s52 fu olt 0 = some (true, ())) (hi : jlt = 0 ∨ s52 fu jlt 1 = some (true, ())) (hd1 : old.length ≤ 1000) (hd2 : jld.length ≤ 1000) :
    s20 fu P now sent first fl wt true ct 0 pl data olt ola old false 0 0 0 [] jlt jla jld = some (tup P (now + 1) (sent + 1) first (fl.drop n ++ l.map fun d => ⟨now + 1 + d, data⟩) (wt ++ (fl.take n).map Flight12.Data) false 0 0 0 [] ct 0 [] false 0 0 0 [] jlt jla jld, ([⟨ct, 0, []⟩], ())) := by
  have hv := valid12 (fu := fu) (by omega) H.p H.n0 (by have := H.n1; omega) H.s0 (by have := H.s1; omega) H.f0 (by have := H.f1; omega) H.gl (by have := H.w; omega) H.fr (s51_open (o := 0) (pl := pl) (d := data) (la := ola) (ld := old) ho hct (by omega)) (s51_shut (la := jla) (ld := jld) hi)
  have hm := max12 hfu H
  have hc1 := clone12 (bytes := 32) (by omega) (l := fl) (by have := H.gl.len; omega)
  have hc2 := clone12 (bytes := 24) (by omega) (l := wt) (by have := H.w; omega)
  have k1 := s67_ok (fu := fu) (o := true) (t := ct) (op := 0) (pl := pl) (d := data) (lt := olt) (la := ola) (ld := old) (by have := hd.2; omega) hd1
  have k2 := s67_ok (fu := fu) (o := false) (t := 0) (op := 0) (pl := 0) (d := []) (lt := jlt) (la := jla) (ld := jld) (by simp) hd2
  have hn1 : iadd .i64 now 1 = now + 1 := iadd64 (by have := H.n0; have := H.n1; omega)
  have hs1 : iadd .i64 sent 1 = sent + 1 := iadd64 (by have := H.s0; have := H.s1; omega)
  have ha := arrive12 (fu := fu) (by omega) H.gn H.gl.len H.due H.nd H.w
  have hs := send12 (fu := fu) hfu (now := now + 1) (fl := fl.drop n) (w := wt ++ (fl.take n).map Flight12.Data) (data := data) (l := l) (by omega) hl (by have := hd.2; omega) (by have := H.n0; omega) (by have := H.n1; omega)
    (fun f hf => by have := (H.gl.ok f (List.mem_of_mem_drop hf)).2.1; have := H.n0; omega) hl1 hl2
  have e1 : ieq ct olt = false := ieq_f.2 (by omega)
  have e2 : ilt 398 (dlen (fl.drop n)) = false := ilt_f.2 (by rw [dlen_def]; omega)
  have e3 : ile (dlen (fl.drop n)) 398 = true := ile_iff.2 (by rw [dlen_def]; omega)
  have c0 : dapp 1 ([] : List Int) [] = some [] := clone12 (by omega) (by simp)
  have c1 : dapp 40 ([] : List Answer12) [⟨ct, 0, []⟩] = some [⟨ct, 0, []⟩] := clone12 (by omega) (by simp)
  rcases hP with ⟨rfl, hp⟩ | ⟨rfl, hp⟩
  · unfold s20
    simp only [hv, hm, hc1, hc2, k1, k2, hn1, ha, e1, s48_ok hd, e2, e3, hp, hs, hs1, c0, c1, show ilt 0 (dlen ([] : List Int)) = false from rfl]
  · have r1 : irem .i64 sent (dlen [p]) = 0 := by
      show irem .i64 sent 1 = 0
      simp [irem]
    unfold s20
    simp only [hv, hm, hc1, hc2, k1, k2, hn1, ha, e1, s48_ok hd, e2, e3, t299, hs1, c0, c1, show ilt 0 (dlen [p]) = true from rfl, r1, show ieq (dlen [p]) 0 = false from rfl, show dat [p] 0 = some p from rfl, hp, hs]
theorem tick_recv {ct k olt ola jlt jla : Int} {old jld b : List Int} {i : Nat} (hk : k = first + (i : Int)) (hb : (wt ++ (fl.take n).map Flight12.Data)[i]? = some b) (hbf : b.length ≤ 1000) (hct : s52 fu ct 1 = some (true, ())) (hlt : jlt < ct)
    (ho : olt = 0 ∨ s52 fu olt 0 = some (true, ())) (hi : jlt = 0 ∨ s52 fu jlt 1 = some (true, ())) (hd1 : old.length ≤ 1000) (hd2 : jld.length ≤ 1000) :
    s20 fu P now sent first fl wt false 0 0 0 [] olt ola old true ct 1 k [] jlt jla jld = some (tup P (now + 1) sent k (fl.drop n) ((wt ++ (fl.take n).map Flight12.Data).drop i) false 0 0 0 [] olt ola old false 0 0 0 [] ct (k + 1) b, ([⟨ct, k + 1, b⟩], ())) := by
  have hv := valid12 (fu := fu) (by omega) H.p H.n0 (by have := H.n1; omega) H.s0 (by have := H.s1; omega) H.f0 (by have := H.f1; omega) H.gl (by have := H.w; omega) H.fr (s51_shut (la := ola) (ld := old) ho) (s51_open (o := 1) (pl := k) (d := []) (la := jla) (ld := jld) hi hct (by omega))
  have hm := max12 hfu H
  have hc1 := clone12 (bytes := 32) (by omega) (l := fl) (by have := H.gl.len; omega)
  have hc2 := clone12 (bytes := 24) (by omega) (l := wt) (by have := H.w; omega)
  have k1 := s67_ok (fu := fu) (o := false) (t := 0) (op := 0) (pl := 0) (d := []) (lt := olt) (la := ola) (ld := old) (by simp) hd1
  have k2 := s67_ok (fu := fu) (o := true) (t := ct) (op := 1) (pl := k) (d := []) (lt := jlt) (la := jla) (ld := jld) (by simp) hd2
  have hn1 : iadd .i64 now 1 = now + 1 := iadd64 (by have := H.n0; have := H.n1; omega)
  have ha := arrive12 (fu := fu) (by omega) H.gn H.gl.len H.due H.nd H.w
  generalize hwv : wt ++ (fl.take n).map Flight12.Data = W at ha hb ⊢
  have hW : W.length ≤ 64 := by subst hwv; simp; have := H.w; omega
  have hiW := getElem?_lt hb
  have hf0 := H.f0
  have hf1 := H.f1
  have e1 : ieq ct jlt = false := ieq_f.2 (by omega)
  have e2 : ilt k first = false := ilt_f.2 (by omega)
  have e3 : isub .i64 k first = (i : Int) := by rw [isub64 (by omega)]; omega
  have e4 : ilt (dlen W) (i : Int) = false := ilt_f.2 (by rw [dlen_def]; omega)
  have e5 : ilt (i : Int) (dlen W) = true := ilt_iff.2 (by rw [dlen_def]; omega)
  have e6 : ile 0 (i : Int) = true := ile_iff.2 (by omega)
  have e7 : ile (i : Int) (dlen W) = true := ile_iff.2 (by rw [dlen_def]; omega)
  have e8 : ile (dlen W) (dlen W) = true := ile_iff.2 (Int.le_refl _)
  have e9 : ilt 0 (osub (dlen W) (i : Int)) = true := ilt_iff.2 (by rw [dlen_def]; unfold osub; omega)
  have ea : oadd (i : Int) 0 = (i : Int) := by unfold oadd; omega
  have eb : dat W (i : Int) = some b := by rw [dat_nat]; exact hb
  have ec := cutk W (k := i) (by omega)
  have ed : iadd .i64 k 1 = k + 1 := iadd64 (by omega)
  have c0 : dapp 1 ([] : List Int) b = some b := clone12 (by omega) hbf
  have c1 : dapp 40 ([] : List Answer12) [⟨ct, k + 1, b⟩] = some [⟨ct, k + 1, b⟩] := clone12 (by omega) (by simp)
  unfold s20
  simp only [hv, hm, hc1, hc2, k1, k2, hn1, ha, e1, e2, e3, e4, e5, e6, e7, e8, e9, ea, eb, ec, ed, c0, c1, show ilt 0 (dlen ([] : List Int)) = false from rfl, show ile 0 0 = true from rfl]
end
end Go.G
