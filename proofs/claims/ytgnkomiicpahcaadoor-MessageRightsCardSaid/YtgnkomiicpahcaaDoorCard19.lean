import Derived.Test.YtgnkomiicpahcaaDoorGE5
import Derived.Test.YtgnkomiicpahcaaDoorGlue19
import Derived.Test.YtgnkomiicpahcaaDoorTie
import Derived.Test.YtgnkomiicpahcaaDoorCards
import Derived.ProofKit
import Derived.LaidMore
import Derived.OpenShut
import Derived.Stop.Joined
import Derived.SevenTiedAt
set_option linter.unusedVariables false
set_option linter.unusedSimpArgs false
set_option maxRecDepth 100000
namespace Go.G
open Go.Proofs Go.Proofs.YtgnkomiicpahcaaDoor Go.ChangeShapes Go.WideShapes Go.RowKit
def laidF : List (String × DataW Unit) := [("ratoon/message.forms", Rows.laid_ratoon_message_forms)]
def dForm {H : Type} (f : Form19) : DataW H := .agg [.lit (.int .i64 f.from_), .lit (.int .i64 f.to), .lit (.string f.args.data.toList), .lit (.int .i64 f.data)]
theorem laid_eq : (Rows.laid_ratoon_message_forms : DataW Unit) = .agg (glob19_0.map dForm) := by kernel_rfl
def structFields : Option TypeDesc → Array Field
  | some (.struct fs) => fs
  | _ => #[]
theorem gForms : Tryd.prog.globalNamed "ratoon/message.forms" = some 0 := by kernel_rfl
theorem tForms : (Tryd.prog.globals[0]?).map (·.type) = some 55 := by kernel_rfl
theorem card55 : Tryd.prog.underlying 55 = some (.array 28 54) := by kernel_rfl
theorem card54 : Tryd.prog.underlying 54 = some (.struct (structFields (Tryd.prog.underlying 54))) := by kernel_rfl
theorem cardf54 : (structFields (Tryd.prog.underlying 54)).toList.map (fun f => (f.type, f.offset)) = [(3, 0), (3, 1), (9, 2), (3, 3)] := by kernel_rfl
theorem u3 : Tryd.prog.underlying 3 = some (.int .i64) := by kernel_rfl
theorem u9 : Tryd.prog.underlying 9 = some .string := by kernel_rfl
theorem door_met (os : Os) (args : Array Value) : laidMetH Tryd.prog laidF ((World.doorLaid Tryd.prog 4000 os).forCall (fun _ _ => 0) ⟨#[], args, []⟩).memory :=
  laidMetH_of_parts3 (fuel := 8) (laidMet_of_run' 8 (by kernel_rfl) (by kernel_rfl)) (by kernel_rfl) (by kernel_rfl)
theorem glob_of_laid {W : World} (h : laidMetH Tryd.prog laidF W) : GlobOK C19 (immW W) W := by
  rw [MakeChecks.laidMetH_plain _ _ _ (by kernel_rfl)] at h
  obtain ⟨ps, ⟨g0, t0, cs0, n0, p0, q0, hg0, ht0, hv0, hd0, _, _⟩, _, _⟩ := h
  obtain rfl := Option.some.inj (gForms.symm.trans hg0)
  obtain rfl := Option.some.inj (tForms.symm.trans ht0)
  have cell : ∀ i, W.cell? ⟨0, i, none⟩ = cs0[i]? := fun i => World.var?_cell hg0 hv0 i
  rw [laid_eq] at hd0
  obtain ⟨xs, m1, hm1, hx1, hcl, hxl, hel⟩ := DataW.trod_array card55 hd0
  have c54 : Tryd.prog.cellsOf 54 = 4 := by kernel_rfl
  have c3 : Tryd.prog.cellsOf 3 = 1 := by kernel_rfl
  have c9 : Tryd.prog.cellsOf 9 = 1 := by kernel_rfl
  have c55 : Tryd.prog.cellsOf 55 = 112 := by kernel_rfl
  simp only [Prod.mk.injEq, DataW.agg.injEq] at hx1
  have hlen : cs0.toList.length = 112 := by rw [hcl, c55]
  have gl : glob19_0.length = 28 := by kernel_rfl
  -- an element's cells
  have key : ∀ (i : Nat) (f : Form19), glob19_0[i]? = some f → ∀ (j : Nat) d, (C19.enc .form f)[j]? = some d → ∃ v, W.cell? ⟨0, i * 4 + j, none⟩ = some v ∧ RepD C19 (immW W) W d v := by
    intro i f hf j d hd
    have hi : i < 28 := by rw [← gl]; exact getElem?_lt hf
    have h1 := hel i hi
    have hxi : ∃ x, xs[i]? = some x ∧ x.1 = dForm f := by
      have h2 := congrArg (fun l => l[i]?) hx1.1
      simp only [List.getElem?_map, hf, Option.map_some] at h2
      cases hx : xs[i]? with
      | none => rw [hx] at h2; cases h2
      | some x => rw [hx] at h2; simp only [Option.map_some, Option.some.injEq] at h2; exact ⟨x, rfl, h2.symm⟩
    obtain ⟨x, hx, hxd⟩ := hxi
    rw [hx, c54] at h1
    obtain ⟨ys, m2, hm2, hy1, hyl, hyn, hfl⟩ := DataW.trod_struct card54 h1
    rw [hy1] at hxd
    simp only [dForm, DataW.agg.injEq] at hxd
    have fld : ∀ (j : Nat) (t : TypeId) (off : Nat), [(3, 0), (3, 1), (9, 2), (3, 3)][j]? = some (t, off) → ∃ y, ys[j]? = some y ∧ DataW.trod (fun _ => ()) Tryd.prog W 0 (fun _ => true) false m2 t ((((cs0.toList.drop (i * 4)).take 4).drop off).take (Tryd.prog.cellsOf t)) = some y := by
      intro j t off hj
      rw [← cardf54, List.getElem?_map] at hj
      obtain ⟨g, hg, he⟩ := Option.map_eq_some_iff.1 hj
      cases he
      have := hfl j g (by simpa using hg)
      have hjl : j < ys.length := by rw [hyn]; simpa using getElem?_lt hg
      rw [List.getElem?_eq_getElem hjl] at this
      exact ⟨ys[j], List.getElem?_eq_getElem hjl, this⟩
    have at_ : ∀ (off : Nat) (ho : off < 4), ((((cs0.toList.drop (i * 4)).take 4).drop off).take 1) = [cs0.toList[i * 4 + off]'(by rw [hlen]; omega)] := by
      intro off ho
      rw [List.drop_take, List.drop_drop, List.take_take, show min 1 (4 - off) = 1 by omega, List.take_one]
      simp [List.getElem?_eq_getElem (show i * 4 + off < cs0.toList.length by rw [hlen]; omega)]
    have ci : ∀ (off : Nat) (ho : off < 4), W.cell? ⟨0, i * 4 + off, none⟩ = some (cs0.toList[i * 4 + off]'(by rw [hlen]; omega)) := by
      intro off ho
      rw [cell, ← Array.getElem?_toList, List.getElem?_eq_getElem (by rw [hlen]; omega)]
    have num : ∀ (j : Nat) (n : Int), [(3, 0), (3, 1), (9, 2), (3, 3)][j]? = some (3, j) → j < 4 → (∀ y : DataW Unit × List MemPlace, ys[j]? = some y → y.1 = .lit (.int .i64 n)) → W.cell? ⟨0, i * 4 + j, none⟩ = some (.int .i64 n) := by
      intro j n hj h4 hn
      obtain ⟨y, hy, ht⟩ := fld j 3 j hj
      rw [c3, at_ j h4] at ht
      obtain ⟨k, e1, e2, _⟩ := DataW.trod_int u3 ht
      have := hn y hy
      rw [e2] at this
      cases this
      rw [ci j h4]
      injection e1 with e3 _
      rw [e3]
    have hys : ∀ (j : Nat) (y : DataW Unit × List MemPlace), ys[j]? = some y → [(DataW.lit (.int .i64 f.from_) : DataW Unit), .lit (.int .i64 f.to), .lit (.string f.args.data.toList), .lit (.int .i64 f.data)][j]? = some y.1 := by
      intro j y hy
      rw [← hxd, List.getElem?_map, hy]
      rfl
    match j, hd with
    | 0, hd =>
      cases hd
      exact ⟨_, num 0 f.from_ rfl (by omega) (fun y hy => by have := hys 0 y hy; simpa using this.symm), .int _ _⟩
    | 1, hd =>
      cases hd
      exact ⟨_, num 1 f.to rfl (by omega) (fun y hy => by have := hys 1 y hy; simpa using this.symm), .int _ _⟩
    | 2, hd =>
      cases hd
      obtain ⟨y, hy, ht⟩ := fld 2 9 2 rfl
      rw [c9, at_ 2 (by omega)] at ht
      obtain ⟨s, e1, e2, _⟩ := DataW.trod_string u9 ht
      have := hys 2 y hy
      rw [e2] at this
      simp only [List.getElem?_cons_succ, List.getElem?_cons_zero, Option.some.injEq, DataW.lit.injEq, Lit.string.injEq] at this
      refine ⟨.string f.args, ?_, .str _⟩
      rw [ci 2 (by omega)]
      have hs : s = f.args := by
        cases s
        cases hfa : f.args
        rw [hfa] at this
        congr 1
        exact (Array.toList_inj.1 this).symm
      rw [← hs]
      injection e1 with e3 _
      rw [e3]
    | 3, hd =>
      cases hd
      exact ⟨_, num 3 f.data rfl (by omega) (fun y hy => by have := hys 3 y hy; simpa using this.symm), .int _ _⟩
    | j + 4, hd => exact absurd (getElem?_lt hd) (by show ¬ j + 4 < 4; omega)
  have last := key 27 (glob19_0[27]'(by rw [gl]; omega)) (List.getElem?_eq_getElem _) 3 _ rfl
  obtain ⟨v, hv, _⟩ := last
  have hb := cell_imm hv
  intro g u l hg
  match g, hg with
  | 0, hg =>
    have hg : (some ⟨.form, glob19_0⟩ : Option ((u : U19) × List (C19.El u))) = some ⟨u, l⟩ := hg
    cases hg
    refine ⟨hb.1, ?_, fun i a ha j d hd => ?_⟩
    · show glob19_0.length * 4 ≤ immW W 0
      rw [gl]
      have := hb.2.2
      simp only at this
      omega
    · obtain ⟨v, h1, h2⟩ := key i a ha j d hd
      refine ⟨v, ?_, h2⟩
      have : C19.size .form = 4 := rfl
      rw [this, Nat.zero_add]
      exact h1
  | g + 1, hg => cases hg
end Go.G
