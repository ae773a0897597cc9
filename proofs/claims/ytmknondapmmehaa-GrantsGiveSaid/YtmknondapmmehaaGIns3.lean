import Derived.Test.YtmknondapmmehaaGIns2
import Derived.Test.YtmknondapmmehaaGTool
set_option linter.unusedVariables false
set_option linter.unusedSimpArgs false
namespace Go.G
open Go.Proofs
variable {T : Uni}

theorem appT_at {P : Program} {cu : TypeId → Option T.U} {t e : TypeId} {u : T.U} {bytes : Nat} (h : appT P cu t = some (u, bytes)) (hu : P.underlying t = some (.slice e)) : AppT P u t e bytes := by
  obtain ⟨e', h'⟩ := appT_ok h
  have := h'.ht
  rw [hu] at this
  cases this
  exact h'

def insRow (H : St T) (u : T.U) : CV T → Option (List (T.El u))
  | .nl => some []
  | .own _ nm => match look H (.h nm) with
    | some (.r u' l false) => match T.deq u' u with
      | .isTrue h => some (h ▸ l)
      | .isFalse _ => none
    | _ => none
  | _ => none

def insOwn : CV T → Nat → Bool
  | .nl, _ => true
  | .own _ nm, nv => !Nat.beq nm nv
  | _, _ => false

def insEra : CV T → St T → St T
  | .own _ nm, σ => era (.h nm) σ
  | _, σ => σ

def conInsert (u : T.U) (bytes : Nat) : (X : Type) → List (PV T) → St T → Nat → Nat → (PV T → St T → Nat → Option X) → Option X := fun _ args H n lim K =>
  match Nat.blt n lim with
  | true => match args with
    | [.one c, .one (.d (.int .i64 i)), .one (.own _ nv)] => match insOwn c nv with
      | true => match insRow H u c with
        | some l => match look H (.h nv) with
          | some (.r u2 ys _) => match T.deq u2 u with
            | .isTrue h => match (h ▸ ys : List (T.El u)) with
              | [x] => match dins bytes l i x with
                | some l' => K (.one (.own u n)) ((.h n, .r u l' false) :: insEra c (relook H)) (n + 1)
                | none => none
              | _ => none
            | .isFalse _ => none
          | _ => none
        | none => none
      | false => none
    | _ => none
  | false => none

theorem dins_some {α : Type} {bytes : Nat} {l l' : List α} {i : Int} {x : α} (h : dins bytes l i x = some l') : 0 ≤ i ∧ i.toNat ≤ l.length ∧ (l.length + 1) * bytes ≤ 140737488355328 ∧ l.length + 1 ≤ 9223372036854775807 ∧ l' = l.take i.toNat ++ x :: l.drop i.toNat := by
  unfold dins at h
  split at h
  · rename_i hh; cases h; exact ⟨hh.1, by omega, hh.2.2.1, hh.2.2.2, rfl⟩
  · cases h

theorem era_mem {l0 l : Loc} {g : Fact T} : ∀ {σ : St T}, (l, g) ∈ era l0 σ → (l, g) ∈ σ ∧ l ≠ l0
  | [], h => by cases h
  | (l1, g1) :: r, h => by
    unfold era at h
    split at h
    · have := era_mem h
      exact ⟨List.mem_cons_of_mem _ this.1, this.2⟩
    · rename_i hne
      rcases List.mem_cons.1 h with h | h
      · cases h
        refine ⟨by simp, ?_⟩
        rintro rfl
        rw [Loc.eqb_self] at hne
        cases hne
      · have := era_mem h
        exact ⟨List.mem_cons_of_mem _ this.1, this.2⟩

theorem insEra_mem {c : CV T} {σ : St T} {l : Loc} {g : Fact T} (h : (l, g) ∈ insEra c σ) : (l, g) ∈ σ ∧ ∀ u nm, c = .own u nm → l ≠ .h nm := by
  cases c with
  | own u nm => exact ⟨(era_mem h).1, fun u' nm' e => by cases e; exact (era_mem h).2⟩
  | _ => exact ⟨h, fun u' nm' e => by cases e⟩

theorem ins_ok {P : Program} {f S V I e e' K bytes : Nat} {u : T.U} (hT : InsText P f S V I e e' K bytes u) : ConOK P f (conInsert u bytes) := by
  intro X args H n lim K r hk
  unfold conInsert at hk
  split at hk
  · rename_i hn
    have hn := blt_lt hn
    split at hk
    · rename_i c i v0 nv
      split at hk
      · rename_i hown
        split at hk
        · rename_i l hl
          split at hk
          · rename_i u2 ys fzv hlv
            split at hk
            · rename_i hu2 _
              subst hu2
              split at hk
              · rename_i x hx
                have hx : ys = [x] := hx
                subst hx
                split at hk
                · rename_i l' hd
                  obtain ⟨d1, d2, d3, d4, rfl⟩ := dins_some hd
                  refine ⟨_, _, n + 1, hk, by omega, by omega, isFn_ok hT.fn, ?_, ?_⟩
                  · intro γ w vs hE hH hr hHn
                    have hHn' : ∀ nm f, (Loc.h nm, f) ∈ H → nm ≠ n := fun nm f hm => by have := hHn nm f hm; omega
                    obtain ⟨hf1, hf2⟩ := hE.fresh n ⟨Nat.le_refl _, Nat.lt_succ_self _⟩
                    match vs, hr with
                    | [a0, a1, a2], hr =>
                      simp only [RepPs, RepP] at hr
                      obtain ⟨r0, r1, r2, _⟩ := hr
                      have r1 : a1 = .int .i64 i := RepD.int_iff.1 r1
                      subst r1
                      have fv := (hH _ _ (look_mem hlv)).1
                      obtain ⟨B, vc, b1, b2, b3⟩ := fv
                      obtain ⟨B', _, vc', b4, rfl⟩ := r2
                      rw [b1] at b4
                      cases b4
                      -- the row that is written
                      have hc : ∃ nm A cap, a0 = .slice A l.length cap ∧ l.length ≤ cap ∧ RowOK γ w nm u2 l false A cap ∧ nm ≠ nv ∧ (∀ b, γ.own b = some nm → ∃ g, (Loc.h nm, g) ∈ H) ∧ (∀ l' g, (l', g) ∈ insEra c (relook H) → ((Loc.h nm = l' → ∀ b, γ.own b ≠ some nm))) := by
                        unfold insRow at hl
                        split at hl
                        · cases hl
                          obtain ⟨A, rfl⟩ := r0
                          exact ⟨n, A, 0, rfl, Nat.le_refl _, .inl ⟨rfl, rfl⟩, (hHn' _ _ (look_mem hlv)).symm, fun b hb => absurd hb (hf2 b), fun _ _ _ _ => hf2⟩
                        · rename_i u0 nm
                          split at hl
                          · rename_i u3 l3 hlk
                            split at hl
                            · rename_i hu3 _
                              subst hu3
                              cases hl
                              obtain ⟨A, cap, c1, c2, c3⟩ := (hH _ _ (look_mem hlk)).1
                              obtain ⟨A', _, cap', c4, rfl⟩ := r0
                              rw [c1] at c4
                              cases c4
                              refine ⟨nm, A, cap, rfl, c2, c3, ?_, fun _ _ => ⟨_, look_mem hlk⟩, fun l' g hm he => absurd he.symm ((insEra_mem hm).2 _ _ rfl)⟩
                              rintro rfl
                              simp [insOwn] at hown
                            · cases hl
                          · cases hl
                        · cases hl
                      obtain ⟨nm, A, cap, rfl, c2, c3, c4, c5, c6⟩ := hc
                      let Sc : Cls := ⟨P, 8, n, n + 1, fun nm => ∃ g, (Loc.h nm, g) ∈ H⟩
                      have hinv : Inv (Sc.ctx γ w hE).E γ w := Inv.refl hE
                      obtain ⟨γ', w', A', cap', q1, q2, q3, q4, q5, q6, q7⟩ := ins_core (C := Sc.ctx γ w hE) hT hinv (x := x) c2 c3 b2 b3 c4 d2 d3 d4 hf1 ⟨Nat.le_refl _, Nat.lt_succ_self _⟩
                      have hii : (i.toNat : Int) = i := Int.toNat_of_nonneg d1
                      rw [hii] at q1
                      refine Calls.mono q1 fun e1 w1 ⟨h1, h2⟩ => ?_
                      subst h2
                      refine ⟨γ', _, h1, hinv.step q2 hE (fun k hk => ?_) (fun k hk => q4 k (by rintro rfl; exact hk ⟨Nat.le_refl _, Nat.lt_succ_self _⟩)) (fun b k hb => ?_) q7, fun l' g hm => ?_, ?_⟩
                      · obtain ⟨rfl, b, hb⟩ := hk
                        exact .inl (c5 b hb)
                      · rcases q6 b k hb with h | h
                        · subst h; exact .inl ⟨Nat.le_refl _, Nat.lt_succ_self _⟩
                        · exact .inr h
                      · rcases List.mem_cons.1 hm with hm | hm
                        · cases hm
                          exact ⟨q5 _, by simp⟩
                        · have hm1 := (relook_mem (insEra_mem hm).1).1
                          have hh := hH _ _ (look_mem hm1)
                          refine ⟨hh.1.evo q2 (fun k hk hx => ?_) (fun _ _ => rfl), hh.2⟩
                          obtain ⟨rfl, b, hb⟩ := hx
                          exact c6 _ _ hm hk.symm b hb
                      · simp only [RepP, RepC]
                        exact ⟨A', _, cap', q3, rfl⟩
                    | [], hr => simp [RepPs] at hr
                    | [_], hr => simp [RepPs] at hr
                    | [_, _], hr => simp [RepPs] at hr
                    | _ :: _ :: _ :: _ :: _, hr => simp [RepPs] at hr
                  · intro l' g hm
                    rcases List.mem_cons.1 hm with hm | hm
                    · cases hm
                      exact ⟨n, rfl, .inr ⟨Nat.le_refl _, Nat.lt_succ_self _⟩⟩
                    · obtain ⟨hm, nm, rfl⟩ := relook_mem (insEra_mem hm).1
                      exact ⟨nm, rfl, .inl ⟨g, look_mem hm⟩⟩
                · cases hk
              · cases hk
            · cases hk
          · cases hk
        · cases hk
      · cases hk
    · cases hk
  · cases hk
end Go.G
