import Derived.Test.YtjmhaeegcaapeaaP12o
import Derived.Lib.Bytes
set_option linter.unusedVariables false
set_option linter.unusedSimpArgs false
namespace Go.G
open Go.Lib
set_option maxRecDepth 100000
deriving instance DecidableEq for Flight12
theorem beqb_d (a b : Bool) : beqb a b = decide (a = b) := by cases a <;> cases b <;> rfl
abbrev By (l : List Int) : Prop := ∀ x ∈ l, 0 ≤ x ∧ x ≤ 255
theorem by_back {a : List Int} (h : By a) : (bytesOf a).map (fun u => (u.toNat : Int)) = a := by
  unfold bytesOf
  rw [List.map_map]
  conv => rhs; rw [← List.map_id a]
  refine List.map_congr_left fun x hx => ?_
  have := h x hx
  show ((UInt8.ofNat x.toNat).toNat : Int) = x
  rw [UInt8.toNat_ofNat']
  omega
theorem iter_eq2 {X ε α : Type} [DecidableEq α] {step : X → Option (X ⊕ ε)} {fu : Nat} (l l' : List α) (hl : l.length = l'.length) (st : Nat → X) (e0 e1 : ε) (hf : l.length < fu)
    (hin : ∀ i a, l[i]? = some a → l'[i]? = some a → step (st i) = some (.inl (st (i + 1))))
    (hout : ∀ i a b, l[i]? = some a → l'[i]? = some b → a ≠ b → step (st i) = some (.inr e1))
    (hend : step (st l.length) = some (.inr e0)) : iter step fu (st 0) = some (if l = l' then e0 else e1) := by
  rcases iter_search (step := step) (fu := fu) (n := l.length) st (fun j => decide (l[j]? ≠ l'[j]?)) (fun _ => e1) (e := e0)
    (fun j hj hn => by
      have e := of_decide_eq_false hn
      rw [ne_eq, Classical.not_not] at e
      have e2 : l[j]? = some l[j] := List.getElem?_eq_getElem hj
      exact hin j _ e2 (by rw [← e, e2]))
    (fun j hj hn => by
      have e := of_decide_eq_true hn
      have e2 : l[j]? = some l[j] := List.getElem?_eq_getElem hj
      have e3 : l'[j]? = some (l'[j]'(by omega)) := List.getElem?_eq_getElem (by omega)
      exact hout j _ _ e2 e3 (fun h => e (by rw [e2, e3, h])))
    hend hf with ⟨j, h1, h2, _, h4⟩ | ⟨h1, h2⟩
  · rw [h4, if_neg]
    intro h
    subst h
    simp at h2
  · rw [h2, if_pos]
    refine List.ext_getElem? fun j => ?_
    by_cases hj : j < l.length
    · have e := of_decide_eq_false (h1 j hj)
      rwa [ne_eq, Classical.not_not] at e
    · rw [List.getElem?_eq_none (by omega), List.getElem?_eq_none (by omega)]
theorem fl_eq (f g : Flight12) : decide (f = g) = (decide (f.Due = g.Due) && decide (f.Data = g.Data)) := by
  rw [Bool.eq_iff_iff]
  simp only [Bool.and_eq_true, decide_eq_true_eq]
  constructor
  · rintro rfl; exact ⟨rfl, rfl⟩
  · rintro ⟨a, b⟩
    cases f; cases g; simp_all
def eqC (o : Bool) (t op pl : Int) (d : List Int) (lt la : Int) (ld : List Int) (o' : Bool) (t' op' pl' : Int) (d' : List Int) (lt' la' : Int) (ld' : List Int) : Bool :=
  decide (o = o') && (decide (t = t') && (decide (op = op') && (decide (pl = pl') && (decide (d = d') && (decide (lt = lt') && (decide (la = la') && decide (ld = ld')))))))
def eqS (P : List Int) (now : Int) (sent : Int) (first : Int) (fl : List Flight12) (wt : List (List Int)) (oo : Bool) (ot : Int) (oop : Int) (opl : Int) (od : List Int) (olt : Int) (ola : Int) (old : List Int) (io : Bool) (it : Int) (iop : Int) (ipl : Int) (id : List Int) (jlt : Int) (jla : Int) (jld : List Int) (P' : List Int) (now' : Int) (sent' : Int) (first' : Int) (fl' : List Flight12) (wt' : List (List Int)) (oo' : Bool) (ot' : Int) (oop' : Int) (opl' : Int) (od' : List Int) (olt' : Int) (ola' : Int) (old' : List Int) (io' : Bool) (it' : Int) (iop' : Int) (ipl' : Int) (id' : List Int) (jlt' : Int) (jla' : Int) (jld' : List Int) : Bool := decide (P = P') && (decide (now = now') && (decide (sent = sent') && (decide (first = first') && (decide (fl = fl') && (decide (wt = wt') && (eqC oo ot oop opl od olt ola old oo' ot' oop' opl' od' olt' ola' old' && eqC io it iop ipl id jlt jla jld io' it' iop' ipl' id' jlt' jla' jld'))))))
section
variable {fu : Nat} {P P' : List Int} {now sent first now' sent' first' : Int} {fl fl' : List Flight12} {wt wt' : List (List Int)} {oo oo' : Bool} {ot oop opl ot' oop' opl' : Int} {od od' : List Int} {olt ola olt' ola' : Int} {old old' : List Int} {io io' : Bool} {it iop ipl it' iop' ipl' : Int} {id id' : List Int} {jlt jla jlt' jla' : Int} {jld jld' : List Int}
theorem eqS_iff : eqS P now sent first fl wt oo ot oop opl od olt ola old io it iop ipl id jlt jla jld P' now' sent' first' fl' wt' oo' ot' oop' opl' od' olt' ola' old' io' it' iop' ipl' id' jlt' jla' jld' = true ↔ tu P now sent first fl wt oo ot oop opl od olt ola old io it iop ipl id jlt jla jld = tu P' now' sent' first' fl' wt' oo' ot' oop' opl' od' olt' ola' old' io' it' iop' ipl' id' jlt' jla' jld' := by
  unfold eqS eqC tu
  simp only [Bool.and_eq_true, decide_eq_true_eq, Prod.mk.injEq, and_true]
  constructor
  · rintro ⟨a, b, c, d, e, f, ⟨g, h, i, j, k, l, m, n⟩, o, p, q, r, s, t, u, v⟩
    exact ⟨a, b, c, d, e, f, g, h, i, j, k, l, m, n, o, p, q, r, s, t, u, v⟩
  · rintro ⟨a, b, c, d, e, f, g, h, i, j, k, l, m, n, o, p, q, r, s, t, u, v⟩
    exact ⟨a, b, c, d, e, f, ⟨g, h, i, j, k, l, m, n⟩, o, p, q, r, s, t, u, v⟩
theorem dl_eq {α : Type} (l l' : List α) : ieq (dlen l) (dlen l') = decide (l.length = l'.length) := by rw [ieq_d, dlen_def, dlen_def]; exact decide_eq_decide.2 (by omega)
structure BySt (P : List Int) (fl : List Flight12) (wt : List (List Int)) (od old id jld : List Int) : Prop where
  p : By P
  fl : ∀ f ∈ fl, By f.Data
  wt : ∀ b ∈ wt, By b
  od : By od
  old : By old
  id : By id
  jld : By jld
end
end Go.G
