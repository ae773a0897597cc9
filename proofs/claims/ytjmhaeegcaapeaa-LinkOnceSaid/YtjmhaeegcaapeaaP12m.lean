import Derived.Test.YtjmhaeegcaapeaaP12b
set_option linter.unusedVariables false
set_option linter.unusedSimpArgs false
namespace Go.G
set_option maxRecDepth 100000
def frB (b : List Int) : Bool := decide (1 ≤ b.length) && decide (b.length ≤ 128)
def prB (t ch : Int) : Bool := decide (2 - ch ≤ t) && decide (t.tmod 2 = ch)
def numB (a : Int) : Bool := decide (0 ≤ a) && decide (a ≤ 1099511627776)
def chB (o : Bool) (t op pl : Int) (d : List Int) (lt ch : Int) : Bool := (decide (lt = 0) || prB lt ch) && (if o = true then prB t ch && decide (lt ≤ t) else decide (t = 0) && (decide (op = 0) && (decide (pl = 0) && decide (d = []))))
def okF (fl : List Flight12) (now : Int) (i : Nat) (f : Flight12) : Bool := frB f.Data && (decide (now < f.Due) && (decide (f.Due ≤ now + 8) && (if 0 < i then (match fl[i - 1]? with | some g => decide (g.Due ≤ f.Due) | none => true) else true)))
def validB (P : List Int) (now sent first : Int) (fl : List Flight12) (wt : List (List Int)) (oo : Bool) (ot oop opl : Int) (od : List Int) (olt : Int) (io : Bool) (it iop ipl : Int) (id : List Int) (jlt : Int) : Bool :=
  decide (P.length ≤ 200) && (numB now && (numB sent && (numB first && (decide (fl.length ≤ 400) && (decide (wt.length ≤ 64) && (allI (okF fl now) fl 0 && (wt.all frB && (chB oo ot oop opl od olt 0 && chB io it iop ipl id jlt 1))))))))
theorem frB_iff {b : List Int} : frB b = true ↔ Fr b := by simp [frB, Fr]
theorem ile_d (a b : Int) : ile a b = decide (a ≤ b) := rfl
theorem ilt_d (a b : Int) : ilt a b = decide (a < b) := rfl
theorem s48_eq (fu : Nat) (b : List Int) : s48 fu b = some (frB b, ()) := by
  unfold s48 frB
  have e1 : ile 1 (dlen b) = decide (1 ≤ b.length) := by rw [ile_d, dlen_def]; exact decide_eq_decide.2 (by omega)
  have e2 : ile (dlen b) 128 = decide (b.length ≤ 128) := by rw [ile_d, dlen_def]; exact decide_eq_decide.2 (by omega)
  rw [e1, e2]
  cases decide (1 ≤ b.length) <;> rfl
theorem s50_eq (fu : Nat) (b : List Int) : s50 fu b = some (!frB b, ()) := by
  unfold s50
  rw [s48_eq]
  cases frB b <;> rfl
theorem s47_eq (fu : Nat) (a : Int) : s47 fu a = some (numB a, ()) := by
  unfold s47 numB
  rw [ile_d, ile_d]
  cases decide (0 ≤ a) <;> rfl
theorem irem2 (t : Int) : irem .i64 t 2 = t.tmod 2 := rfl
theorem ieq_d (a b : Int) : ieq a b = decide (a = b) := rfl
theorem s52_eq (fu : Nat) (t : Int) {ch : Int} (h : ch = 0 ∨ ch = 1) : s52 fu t ch = some (prB t ch, ()) := by
  unfold s52 prB
  rcases h with rfl | rfl
  · rw [show ieq 0 0 = true from rfl, show ieq 2 0 = false from rfl]
    simp only [ile_d, irem2, ieq_d]
    cases h : decide (2 ≤ t) <;> simp [h]
  · rw [show ieq 1 0 = false from rfl, show ieq 2 0 = false from rfl]
    simp only [ile_d, irem2, ieq_d]
    cases h : decide (1 ≤ t) <;> simp [h]
theorem dlen0 {α : Type} (d : List α) : ieq (dlen d) 0 = decide (d.length = 0) := by rw [ieq_d, dlen_def]; exact decide_eq_decide.2 (by omega)
theorem s51_eq (fu : Nat) (o : Bool) (t op pl : Int) (d : List Int) (lt la : Int) (ld : List Int) {ch : Int} (h : ch = 0 ∨ ch = 1) : s51 fu o t op pl d lt la ld ch = some (chB o t op pl d lt ch, ()) := by
  unfold s51 chB
  rw [s52_eq fu _ h, s52_eq fu _ h]
  simp only [dlen0]
  simp only [ieq_d, ile_d]
  have hz : ∀ (x : Bool), (match (match x with | false => true | true => false) with | false => (match o with | false => (match decide (t = 0) with | false => some (false, ()) | true => (match decide (op = 0) with | false => some (false, ()) | true => (match decide (pl = 0) with | false => some (false, ()) | true => some (decide (d.length = 0), ())))) | true => (match prB t ch with | false => some (false, ()) | true => some (decide (lt ≤ t), ()))) | true => some (false, ())) = some (x && (if o = true then prB t ch && decide (lt ≤ t) else decide (t = 0) && (decide (op = 0) && (decide (pl = 0) && decide (d = [])))), ()) := by
    intro x
    cases x <;> cases o <;> cases prB t ch <;> cases decide (t = 0) <;> cases decide (op = 0) <;> cases decide (pl = 0) <;> simp
  have h0 := hz true
  have h1 := hz (prB lt ch)
  cases hl : decide (lt = 0) with
  | false =>
    simp only [Bool.false_or]
    exact h1
  | true =>
    simp only [Bool.true_or]
    exact h0
end Go.G
