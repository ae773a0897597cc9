import Derived.Test.YtjmhaeegcaapeaaOn12
import Derived.Test.YtjmhaeegcaapeaaGE5
import Derived.Test.YtjmhaeegcaapeaaGlue12
set_option linter.unusedVariables false
set_option linter.unusedSimpArgs false
namespace Go.G
theorem dapp_nil {α : Type} {bytes : Nat} {l : List α} (h : l.length * bytes ≤ 140737488355328) (h2 : l.length ≤ 9223372036854775807) : dapp bytes [] l = some l := by
  have := dapp_ok (bytes := bytes) (l := ([] : List α)) (ys := l) (by simpa using h) (by simpa using h2)
  rwa [List.nil_append] at this
set_option maxRecDepth 100000
theorem aw12 : s11 FU = some (true, ()) := rfl
theorem bytes12 (fu : Nat) (l m : List Int) (hf : l.length < fu) (hl : l.length ≤ 9223372036854775807) : s27 fu l m = some (decide (l = m), ()) := by
  unfold s27
  cases hq : ieq (dlen l) (dlen m) with
  | false =>
    rw [ieq_f, dlen_def, dlen_def] at hq
    have : l ≠ m := by rintro rfl; exact hq rfl
    simp [this]
  | true =>
    rw [ieq_iff, dlen_def, dlen_def] at hq
    have hq : l.length = m.length := by omega
    have hz : (l.zip m).length = l.length := by simp [hq]
    have := iter_any (step := t27_0 fu) (fu := fu) (l.zip m) (fun j => (l, (m, ((j : Int), ())))) (fun x => !decide (x.1 = x.2)) (.inr (.inl (false, ()))) (.inl ()) (by omega)
      (fun i x hi hx => by
        have h1 := getElem?_lt hi
        obtain ⟨k1, k2⟩ := zip_get i x hi
        rw [hz] at h1
        have hx : ieq x.1 x.2 = true := by simpa [ieq] using hx
        simp only [t27_0, dlen_def, dat_nat, k1, k2, ilt_len h1, iadd1 (show i < 9223372036854775807 by omega), hx])
      (fun i x hi hx => by
        have h1 := getElem?_lt hi
        obtain ⟨k1, k2⟩ := zip_get i x hi
        rw [hz] at h1
        have hx : ieq x.1 x.2 = false := by simpa [ieq] using hx
        simp only [t27_0, dlen_def, dat_nat, k1, k2, ilt_len h1, hx])
      (by simp only [t27_0, dlen_def, hz, ilt_end])
    rw [show ((0 : Nat) : Int) = 0 from rfl, list_eq_iff_all hq] at this
    simp only [this]
    by_cases h : l = m <;> simp [h]
end Go.G
