import Derived.Test.YtjmhaeegcaapeaaP12d
set_option linter.unusedVariables false
set_option linter.unusedSimpArgs false
namespace Go.G
set_option maxRecDepth 100000
set_option maxHeartbeats 4000000
section
variable {fu : Nat} (hfu : 2000 < fu) {P : List Int} {now sent first : Int} {fl : List Flight12} {wt : List (List Int)} {n : Nat} (H : Ok12 P now sent first fl wt n)
include hfu H
theorem do_send {data : List Int} {ct pl olt ola jlt jla : Int} {old jld : List Int} (hd : data.length ≤ 1000) (hct : s52 fu ct 0 = some (true, ())) (hlt : olt < ct)
    (ho : olt = 0 ∨ s52 fu olt 0 = some (true, ())) (hi : jlt = 0 ∨ s52 fu jlt 1 = some (true, ())) (hd1 : old.length ≤ 1000) (hd2 : jld.length ≤ 1000) :
    s26 fu P now sent first fl wt false 0 0 0 [] olt ola old false 0 0 0 [] jlt jla jld ct 0 pl data = some (tup P now sent first fl wt true ct 0 pl data olt ola old false 0 0 0 [] jlt jla jld, (0, ())) := by
  have hv := valid12 (fu := fu) (by omega) H.p H.n0 (by have := H.n1; omega) H.s0 (by have := H.s1; omega) H.f0 (by have := H.f1; omega) H.gl (by have := H.w; omega) H.fr (s51_shut (la := ola) (ld := old) ho) (s51_shut (la := jla) (ld := jld) hi)
  have hc1 := clone12 (bytes := 32) (by omega) (l := fl) (by have := H.gl.len; omega)
  have hc2 := clone12 (bytes := 24) (by omega) (l := wt) (by have := H.w; omega)
  have k1 := s67_ok (fu := fu) (o := false) (t := 0) (op := 0) (pl := 0) (d := []) (lt := olt) (la := ola) (ld := old) (by simp) hd1
  have k2 := s67_ok (fu := fu) (o := false) (t := 0) (op := 0) (pl := 0) (d := []) (lt := jlt) (la := jla) (ld := jld) (by simp) hd2
  have e1 : ieq ct olt = false := ieq_f.2 (by omega)
  have e2 : ilt ct olt = false := ilt_f.2 (by omega)
  have c0 : dapp 1 ([] : List Int) data = some data := clone12 (by omega) hd
  unfold s26
  simp only [hv, hc1, hc2, k1, k2, e1, e2, c0, hct, show ieq 0 0 = true from rfl, show ieq 0 1 = false from rfl]
theorem do_recv {k ct olt ola jlt jla : Int} {old jld : List Int} (hct : s52 fu ct 1 = some (true, ())) (hlt : jlt < ct)
    (ho : olt = 0 ∨ s52 fu olt 0 = some (true, ())) (hi : jlt = 0 ∨ s52 fu jlt 1 = some (true, ())) (hd1 : old.length ≤ 1000) (hd2 : jld.length ≤ 1000) :
    s26 fu P now sent first fl wt false 0 0 0 [] olt ola old false 0 0 0 [] jlt jla jld ct 1 k [] = some (tup P now sent first fl wt false 0 0 0 [] olt ola old true ct 1 k [] jlt jla jld, (0, ())) := by
  have hv := valid12 (fu := fu) (by omega) H.p H.n0 (by have := H.n1; omega) H.s0 (by have := H.s1; omega) H.f0 (by have := H.f1; omega) H.gl (by have := H.w; omega) H.fr (s51_shut (la := ola) (ld := old) ho) (s51_shut (la := jla) (ld := jld) hi)
  have hc1 := clone12 (bytes := 32) (by omega) (l := fl) (by have := H.gl.len; omega)
  have hc2 := clone12 (bytes := 24) (by omega) (l := wt) (by have := H.w; omega)
  have k1 := s67_ok (fu := fu) (o := false) (t := 0) (op := 0) (pl := 0) (d := []) (lt := olt) (la := ola) (ld := old) (by simp) hd1
  have k2 := s67_ok (fu := fu) (o := false) (t := 0) (op := 0) (pl := 0) (d := []) (lt := jlt) (la := jla) (ld := jld) (by simp) hd2
  have e1 : ieq ct jlt = false := ieq_f.2 (by omega)
  have e2 : ilt ct jlt = false := ilt_f.2 (by omega)
  have c0 : dapp 1 ([] : List Int) [] = some [] := clone12 (by omega) (by simp)
  unfold s26
  simp only [hv, hc1, hc2, k1, k2, e1, e2, c0, hct, show ieq 0 0 = true from rfl, show ieq 1 0 = false from rfl, show ieq 1 1 = true from rfl]
end
end Go.G
