import Derived.Test.YtgnkomiicpahcaaDoorP19f
import Derived.Test.YtgnkomiicpahcaaDoorGE5
set_option linter.unusedVariables false
set_option linter.unusedSimpArgs false
namespace Go.G
set_option maxRecDepth 100000
def effB (fu : Nat) (task : Int) (x : Effect19) : Bool := match s15 fu task x.Kind x.Args_0 x.Args_1 x.Args_2 x.Args_3 x.Msg_Src x.Msg_Dst x.Msg_Kind x.Msg_Seq x.Msg_Args_0 x.Msg_Args_1 x.Msg_Args_2 x.Msg_Args_3 x.Msg_Data x.Data with
  | some (b, _) => b
  | none => false
theorem effB_eq (fu : Nat) (task : Int) (x : Effect19) (h : x.Msg_Data.length ≤ 2000) : s15 fu task x.Kind x.Args_0 x.Args_1 x.Args_2 x.Args_3 x.Msg_Src x.Msg_Dst x.Msg_Kind x.Msg_Seq x.Msg_Args_0 x.Msg_Args_1 x.Msg_Args_2 x.Msg_Args_3 x.Msg_Data x.Data = some (effB fu task x, ()) ∧
    s21 fu task x.Kind x.Args_0 x.Args_1 x.Args_2 x.Args_3 x.Msg_Src x.Msg_Dst x.Msg_Kind x.Msg_Seq x.Msg_Args_0 x.Msg_Args_1 x.Msg_Args_2 x.Msg_Args_3 x.Msg_Data x.Data = some (effB fu task x, ()) := by
  obtain ⟨b, h1, h2⟩ := eff_all fu x.Kind task x.Args_0 x.Args_1 x.Args_2 x.Args_3 x.Msg_Src x.Msg_Dst x.Msg_Kind x.Msg_Seq x.Msg_Args_0 x.Msg_Args_1 x.Msg_Args_2 x.Msg_Args_3 x.Msg_Data x.Data (dapp_nil (by omega) (by omega))
  have : effB fu task x = b := by unfold effB; rw [h1]
  rw [this]
  exact ⟨h1, h2⟩
def effsB (fu : Nat) (task : Int) (l : List Effect19) : Bool := bif l.any (fun x => !effB fu task x) then false else ile (dlen l) 160
theorem s17_eq {fu : Nat} (task : Int) {l : List Effect19} (hf : l.length < fu) (hl : l.length < 1000000) (hm : ∀ x ∈ l, x.Msg_Data.length ≤ 2000) : s17 fu task l = some (effsB fu task l, ()) := by
  have := iter_any (step := t17_0 fu) (fu := fu) l (fun j => (task, (l, (l, ((dlen l), ((j : Int), ())))))) (fun x => !effB fu task x) (.inr (.inl (false, ()))) (.inl (l, ())) hf
    (fun i x hi hq => by
      have h1 := getElem?_lt hi
      have hq : effB fu task x = true := by simpa using hq
      simp only [t17_0, dlen_def, dat_nat, hi, ilt_len h1, (effB_eq fu task x (hm x (List.mem_of_getElem? hi))).1, hq, cond_true, cond_false, iadd1 (show i < 9223372036854775807 by omega)])
    (fun i x hi hq => by
      have h1 := getElem?_lt hi
      have hq : effB fu task x = false := by simpa using hq
      simp only [t17_0, dlen_def, dat_nat, hi, ilt_len h1, (effB_eq fu task x (hm x (List.mem_of_getElem? hi))).1, hq, cond_true, cond_false])
    (by simp only [t17_0, dlen_def, ilt_end, cond_false])
  rw [show ((0 : Nat) : Int) = 0 from rfl] at this
  unfold s17 effsB
  rw [this]
  cases l.any (fun x => !effB fu task x) <;> rfl
theorem s18_eq {fu : Nat} (task : Int) {l : List Effect19} (hf : l.length < fu) (hl : l.length < 1000000) (hm : ∀ x ∈ l, x.Msg_Data.length ≤ 2000) : s18 fu task l = some (effsB fu task l, ()) := by
  have := iter_any (step := t18_0 fu) (fu := fu) l (fun j => (task, (l, ((j : Int), ())))) (fun x => !effB fu task x) (.inr (.inl (false, ()))) (.inl (l, ())) hf
    (fun i x hi hq => by
      have h1 := getElem?_lt hi
      have hq : effB fu task x = true := by simpa using hq
      simp only [t18_0, dlen_def, dat_nat, hi, ilt_len h1, (effB_eq fu task x (hm x (List.mem_of_getElem? hi))).2, hq, cond_true, cond_false, iadd1 (show i < 9223372036854775807 by omega)])
    (fun i x hi hq => by
      have h1 := getElem?_lt hi
      have hq : effB fu task x = false := by simpa using hq
      simp only [t18_0, dlen_def, dat_nat, hi, ilt_len h1, (effB_eq fu task x (hm x (List.mem_of_getElem? hi))).2, hq, cond_true, cond_false])
    (by simp only [t18_0, dlen_def, ilt_end, cond_false])
  rw [show ((0 : Nat) : Int) = 0 from rfl] at this
  unfold s18 effsB
  rw [this]
  cases l.any (fun x => !effB fu task x) <;> rfl
/-- Few: the lists of bytes are short, and there are few. -/
theorem few19 {fu : Nat} {l : List Effect19} (hf : l.length < fu) (hl : l.length ≤ 9223372036854775806) : ∃ b, s16 fu l = some (b, ()) ∧ (b = true → l.length ≤ 170 ∧ ∀ x ∈ l, x.Msg_Data.length ≤ 2000) := by
  obtain ⟨e, he, hp⟩ := iter_meas (step := t16_0 fu)
    (fun s => ∃ (i : Nat) (n : Int), i ≤ l.length ∧ (∀ x ∈ l.take i, x.Msg_Data.length ≤ 2000) ∧ s = (l, (n, ((i : Int), ()))))
    (fun s => ((l.length : Int) - s.2.2.1).toNat)
    (fun e => e = .inr (.inl (false, ())) ∨ ∃ n, e = .inl (l, (n, ())) ∧ ∀ x ∈ l, x.Msg_Data.length ≤ 2000)
    (by
      rintro s ⟨i, n, hi, hI, rfl⟩
      rcases Nat.lt_or_ge i l.length with hlt | hge
      · obtain ⟨x, hx⟩ : ∃ x, l[i]? = some x := ⟨_, List.getElem?_eq_getElem hlt⟩
        cases h1 : ilt 2000 (dlen x.Data) with
        | true => exact .inr ⟨_, by simp only [t16_0, dlen_def l, ilt_len hlt, dat_nat, hx, h1, cond_true], .inl rfl⟩
        | false =>
          cases h2 : ilt 2000 (dlen x.Msg_Data) with
          | true => exact .inr ⟨_, by simp only [t16_0, dlen_def l, ilt_len hlt, dat_nat, hx, h1, h2, cond_true, cond_false], .inl rfl⟩
          | false =>
            have e1 : iadd .i64 (i : Int) 1 = ((i + 1 : Nat) : Int) := iadd1 (by omega)
            refine .inl ⟨_, by simp only [t16_0, dlen_def l, ilt_len hlt, dat_nat, hx, h1, h2, cond_true, cond_false, e1]; rfl, ⟨i + 1, _, by omega, fun y hy => ?_, rfl⟩, ?_⟩
            · rw [List.take_add_one, hx] at hy
              rcases List.mem_append.1 hy with hy | hy
              · exact hI y hy
              · have hy : y = x := by simpa using hy
                subst hy
                have := ilt_f.1 h2
                rw [dlen_def] at this
                omega
            · show ((l.length : Int) - ((i + 1 : Nat) : Int)).toNat < ((l.length : Int) - (i : Int)).toNat
              omega
      · have : i = l.length := by omega
        subst this
        rw [List.take_length] at hI
        exact .inr ⟨_, by simp only [t16_0, dlen_def l, ilt_end, cond_false], .inr ⟨n, rfl, hI⟩⟩)
    fu (l, (0, (0, ()))) ⟨0, 0, by omega, by simp, rfl⟩ (by show ((l.length : Int) - 0).toNat < fu; omega)
  unfold s16
  rw [he]
  rcases hp with rfl | ⟨n, rfl, hI⟩
  · exact ⟨false, rfl, fun h => by cases h⟩
  · cases h1 : ile (dlen l) 170 with
    | false => exact ⟨false, by simp only [h1, cond_false], fun h => by cases h⟩
    | true =>
      have := ile_iff.1 h1
      rw [dlen_def] at this
      exact ⟨_, by simp only [h1, cond_true]; rfl, fun _ => ⟨by omega, hI⟩⟩
end Go.G
