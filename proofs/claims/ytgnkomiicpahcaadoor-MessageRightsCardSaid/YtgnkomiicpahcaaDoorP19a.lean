import Derived.Test.YtgnkomiicpahcaaDoorOn19
import Derived.Test.YtgnkomiicpahcaaDoorGE5
import Derived.Test.YtgnkomiicpahcaaDoorGlue19
set_option linter.unusedVariables false
set_option linter.unusedSimpArgs false
namespace Go.G
set_option maxRecDepth 100000
theorem cSome {α : Type} (p : Bool) (x y : α) : (bif p then some x else some y) = some (bif p then x else y) := by cases p <;> rfl
theorem cPair {α β : Type} (p : Bool) (x y : α) (u : β) : (bif p then (x, u) else (y, u)) = (bif p then x else y, u) := by cases p <;> rfl
theorem cAnd (p q : Bool) : (bif p then q else false) = (p && q) := by cases p <;> rfl
theorem cOr (p q : Bool) : (bif p then true else q) = (p || q) := by cases p <;> rfl
theorem cNot (p : Bool) : (bif p then false else true) = !p := by cases p <;> rfl
theorem cGen (p q r : Bool) : (bif p then q else r) = ((p && q) || (!p && r)) := by cases p <;> simp
theorem cMat {α : Type} (p : Bool) (x y : Option (Bool × Unit)) (f : Option (Bool × Unit) → α) : f (bif p then x else y) = bif p then f x else f y := by cases p <;> rfl
def chr19 (s : ByteArray) (i : Int) : Int := bif ilt i (slen s) then (sat s i).getD 0 else 48
theorem sat_ok {s : ByteArray} {i : Int} (h0 : 0 ≤ i) (h : ilt i (slen s) = true) : sat s i = some (chr19 s i) := by
  have h1 := ilt_iff.1 h
  unfold chr19
  rw [h]
  unfold sat
  have h2 : s.data[i.toNat]? = some (s.data[i.toNat]'(by have : s.data.size = s.size := rfl; unfold slen at h1; omega)) := Array.getElem?_eq_getElem _
  rw [if_pos h0, h2]
  rfl
theorem chr_f {s : ByteArray} {i : Int} (h : ilt i (slen s) = false) : chr19 s i = 48 := by unfold chr19; rw [h]; rfl
def clsB (c a : Int) : Bool := match s35 0 c a with
  | some (b, _) => b
  | none => false
theorem s35_eq (fu : Nat) (c a : Int) : s35 fu c a = some (clsB c a, ()) := by
  have h : ∃ b, s35 0 c a = some (b, ()) := ⟨_, by simp only [s35, s51, cSome, cPair]; rfl⟩
  obtain ⟨b, hb⟩ := h
  unfold clsB
  rw [hb]
  exact hb
def clsR (c a : Int) : Bool := match s50 0 c a with
  | some (b, _) => b
  | none => false
theorem s50_eq (fu : Nat) (c a : Int) : s50 fu c a = some (clsR c a, ()) := by
  have h : ∃ b, s50 0 c a = some (b, ()) := ⟨_, by simp only [s50, s40, s34, cSome, cPair]; rfl⟩
  obtain ⟨b, hb⟩ := h
  unfold clsR
  rw [hb]
  exact hb
theorem s27_eq (fu : Nat) (s : ByteArray) (a b c d : Int) : s27 fu s a b c d = some (clsB (chr19 s 0) a && (clsB (chr19 s 1) b && (clsB (chr19 s 2) c && clsB (chr19 s 3) d)), ()) := by
  have d0 : dat (a :: (b :: (c :: (d :: [])))) 0 = some a := rfl
  have d1 : dat (a :: (b :: (c :: (d :: [])))) 1 = some b := rfl
  have d2 : dat (a :: (b :: (c :: (d :: [])))) 2 = some c := rfl
  have d3 : dat (a :: (b :: (c :: (d :: [])))) 3 = some d := rfl
  unfold s27
  cases h0 : ilt 0 (slen s) <;> cases h1 : ilt 1 (slen s) <;> cases h2 : ilt 2 (slen s) <;> cases h3 : ilt 3 (slen s) <;>
    simp only [d0, d1, d2, d3, s35_eq, cond_true, cond_false, cSome, cPair, cNot, cAnd, sat_ok, h0, h1, h2, h3, chr_f, Bool.and_true, show (0 : Int) ≤ 0 from by decide, show (0 : Int) ≤ 1 from by decide, show (0 : Int) ≤ 2 from by decide, show (0 : Int) ≤ 3 from by decide, Bool.cond_not]
theorem s32_eq (fu : Nat) (s : ByteArray) (a b c d : Int) : s32 fu s a b c d = some (clsR (chr19 s 0) a && (clsR (chr19 s 1) b && (clsR (chr19 s 2) c && clsR (chr19 s 3) d)), ()) := by
  unfold s32
  cases h0 : ilt 0 (slen s) <;> cases h1 : ilt 1 (slen s) <;> cases h2 : ilt 2 (slen s) <;> cases h3 : ilt 3 (slen s) <;>
    simp only [s50_eq, cond_true, cond_false, cSome, cPair, cNot, cAnd, sat_ok, h0, h1, h2, h3, chr_f, Bool.and_true, show (0 : Int) ≤ 0 from by decide, show (0 : Int) ≤ 1 from by decide, show (0 : Int) ≤ 2 from by decide, show (0 : Int) ≤ 3 from by decide, Bool.cond_not, show ilt 0 4 = true from rfl, show ilt 1 4 = true from rfl, show ilt 2 4 = true from rfl, show ilt 3 4 = true from rfl, show ile 0 0 = true from rfl, show ile 0 1 = true from rfl, show ile 0 2 = true from rfl, show ile 0 3 = true from rfl]

theorem b42 (a : Int) : clsB 42 a = true := by
  simp only [clsB, s35, s51, ieq, ilt, ile, Int.reduceLT, Int.reduceLE, Int.reduceEq, Int.reduceNeg, decide_true, decide_false, cond_true, cond_false, cSome, cPair, cAnd]
theorem b48 (a : Int) : clsB 48 a = (decide (0 ≤ a) && decide (a ≤ 0)) := by
  simp only [clsB, s35, s51, ieq, ilt, ile, Int.reduceLT, Int.reduceLE, Int.reduceEq, Int.reduceNeg, decide_true, decide_false, cond_true, cond_false, cSome, cPair, cAnd]
theorem b98 (a : Int) : clsB 98 a = (decide (0 ≤ a) && decide (a ≤ 1)) := by
  simp only [clsB, s35, s51, ieq, ilt, ile, Int.reduceLT, Int.reduceLE, Int.reduceEq, Int.reduceNeg, decide_true, decide_false, cond_true, cond_false, cSome, cPair, cAnd]
theorem b99 (a : Int) : clsB 99 a = (decide (1 ≤ a) && decide (a ≤ 10)) := by
  simp only [clsB, s35, s51, ieq, ilt, ile, Int.reduceLT, Int.reduceLE, Int.reduceEq, Int.reduceNeg, decide_true, decide_false, cond_true, cond_false, cSome, cPair, cAnd]
theorem b100 (a : Int) : clsB 100 a = (decide (1 ≤ a) && decide (a ≤ 4)) := by
  simp only [clsB, s35, s51, ieq, ilt, ile, Int.reduceLT, Int.reduceLE, Int.reduceEq, Int.reduceNeg, decide_true, decide_false, cond_true, cond_false, cSome, cPair, cAnd]
theorem b101 (a : Int) : clsB 101 a = (decide (0 ≤ a) && decide (a ≤ 24)) := by
  simp only [clsB, s35, s51, ieq, ilt, ile, Int.reduceLT, Int.reduceLE, Int.reduceEq, Int.reduceNeg, decide_true, decide_false, cond_true, cond_false, cSome, cPair, cAnd]
theorem b102 (a : Int) : clsB 102 a = (decide (0 ≤ a) && decide (a ≤ 95)) := by
  simp only [clsB, s35, s51, ieq, ilt, ile, Int.reduceLT, Int.reduceLE, Int.reduceEq, Int.reduceNeg, decide_true, decide_false, cond_true, cond_false, cSome, cPair, cAnd]
theorem b103 (a : Int) : clsB 103 a = (decide (-1 ≤ a) && decide (a < 96)) := by
  simp only [clsB, s35, s51, ieq, ilt, ile, Int.reduceLT, Int.reduceLE, Int.reduceEq, Int.reduceNeg, decide_true, decide_false, cond_true, cond_false, cSome, cPair, cAnd]
theorem b107 (a : Int) : clsB 107 a = (decide (0 ≤ a) && decide (a ≤ 159)) := by
  simp only [clsB, s35, s51, ieq, ilt, ile, Int.reduceLT, Int.reduceLE, Int.reduceEq, Int.reduceNeg, decide_true, decide_false, cond_true, cond_false, cSome, cPair, cAnd]
theorem b109 (a : Int) : clsB 109 a = (decide (0 ≤ a) && decide (a ≤ 2)) := by
  simp only [clsB, s35, s51, ieq, ilt, ile, Int.reduceLT, Int.reduceLE, Int.reduceEq, Int.reduceNeg, decide_true, decide_false, cond_true, cond_false, cSome, cPair, cAnd]
theorem b110 (a : Int) : clsB 110 a = decide (0 ≤ a) := by
  simp only [clsB, s35, s51, ieq, ilt, ile, Int.reduceLT, Int.reduceLE, Int.reduceEq, Int.reduceNeg, decide_true, decide_false, cond_true, cond_false, cSome, cPair, cAnd]
theorem b111 (a : Int) : clsB 111 a = (decide (1 ≤ a) && decide (a ≤ 6)) := by
  simp only [clsB, s35, s51, ieq, ilt, ile, Int.reduceLT, Int.reduceLE, Int.reduceEq, Int.reduceNeg, decide_true, decide_false, cond_true, cond_false, cSome, cPair, cAnd]
theorem b112 (a : Int) : clsB 112 a = (decide (0 ≤ a) && decide (a ≤ 31)) := by
  simp only [clsB, s35, s51, ieq, ilt, ile, Int.reduceLT, Int.reduceLE, Int.reduceEq, Int.reduceNeg, decide_true, decide_false, cond_true, cond_false, cSome, cPair, cAnd]
theorem b113 (a : Int) : clsB 113 a = (decide (1 ≤ a) && decide (a ≤ 6)) := by
  simp only [clsB, s35, s51, ieq, ilt, ile, Int.reduceLT, Int.reduceLE, Int.reduceEq, Int.reduceNeg, decide_true, decide_false, cond_true, cond_false, cSome, cPair, cAnd]
theorem b114 (a : Int) : clsB 114 a = (decide (1 ≤ a) && decide (a ≤ 3)) := by
  simp only [clsB, s35, s51, ieq, ilt, ile, Int.reduceLT, Int.reduceLE, Int.reduceEq, Int.reduceNeg, decide_true, decide_false, cond_true, cond_false, cSome, cPair, cAnd]
theorem b115 (a : Int) : clsB 115 a = (decide (0 ≤ a) && decide (a ≤ 19)) := by
  simp only [clsB, s35, s51, ieq, ilt, ile, Int.reduceLT, Int.reduceLE, Int.reduceEq, Int.reduceNeg, decide_true, decide_false, cond_true, cond_false, cSome, cPair, cAnd]
theorem b116 (a : Int) : clsB 116 a = decide (1 ≤ a) := by
  simp only [clsB, s35, s51, ieq, ilt, ile, Int.reduceLT, Int.reduceLE, Int.reduceEq, Int.reduceNeg, decide_true, decide_false, cond_true, cond_false, cSome, cPair, cAnd]
theorem b117 (a : Int) : clsB 117 a = (decide (16 ≤ a) && decide (a < 32)) := by
  simp only [clsB, s35, s51, ieq, ilt, ile, Int.reduceLT, Int.reduceLE, Int.reduceEq, Int.reduceNeg, decide_true, decide_false, cond_true, cond_false, cSome, cPair, cAnd]
theorem b118 (a : Int) : clsB 118 a = (decide (0 ≤ a) && decide (a ≤ 255)) := by
  simp only [clsB, s35, s51, ieq, ilt, ile, Int.reduceLT, Int.reduceLE, Int.reduceEq, Int.reduceNeg, decide_true, decide_false, cond_true, cond_false, cSome, cPair, cAnd]
theorem b120 (a : Int) : clsB 120 a = (decide (0 < a) && decide (a ≤ 7)) := by
  simp only [clsB, s35, s51, ieq, ilt, ile, Int.reduceLT, Int.reduceLE, Int.reduceEq, Int.reduceNeg, decide_true, decide_false, cond_true, cond_false, cSome, cPair, cAnd]
theorem b121 (a : Int) : clsB 121 a = (decide (0 ≤ a) && decide (a ≤ 5)) := by
  simp only [clsB, s35, s51, ieq, ilt, ile, Int.reduceLT, Int.reduceLE, Int.reduceEq, Int.reduceNeg, decide_true, decide_false, cond_true, cond_false, cSome, cPair, cAnd]
theorem b122 (a : Int) : clsB 122 a = (decide (0 ≤ a) && decide (a ≤ 9)) := by
  simp only [clsB, s35, s51, ieq, ilt, ile, Int.reduceLT, Int.reduceLE, Int.reduceEq, Int.reduceNeg, decide_true, decide_false, cond_true, cond_false, cSome, cPair, cAnd]
theorem r48 (a : Int) : clsR 48 a = decide (a = 0) := by
  simp only [clsR, s50, s40, s34, ieq, ilt, ile, Int.reduceLT, Int.reduceLE, Int.reduceEq, Int.reduceNeg, decide_true, decide_false, cond_true, cond_false, cSome, cPair, cAnd]
theorem r49 (a : Int) : clsR 49 a = (decide (0 ≤ a) && decide (a ≤ 1)) := by
  simp only [clsR, s50, s40, s34, ieq, ilt, ile, Int.reduceLT, Int.reduceLE, Int.reduceEq, Int.reduceNeg, decide_true, decide_false, cond_true, cond_false, cSome, cPair, cAnd, show iwrap .i64 (isub .u8 49 48) = 1 from rfl]
theorem r50 (a : Int) : clsR 50 a = (decide (0 ≤ a) && decide (a ≤ 2)) := by
  simp only [clsR, s50, s40, s34, ieq, ilt, ile, Int.reduceLT, Int.reduceLE, Int.reduceEq, Int.reduceNeg, decide_true, decide_false, cond_true, cond_false, cSome, cPair, cAnd, show iwrap .i64 (isub .u8 50 48) = 2 from rfl]
theorem r53 (a : Int) : clsR 53 a = (decide (0 ≤ a) && decide (a ≤ 5)) := by
  simp only [clsR, s50, s40, s34, ieq, ilt, ile, Int.reduceLT, Int.reduceLE, Int.reduceEq, Int.reduceNeg, decide_true, decide_false, cond_true, cond_false, cSome, cPair, cAnd, show iwrap .i64 (isub .u8 53 48) = 5 from rfl]
theorem r57 (a : Int) : clsR 57 a = (decide (0 ≤ a) && decide (a ≤ 9)) := by
  simp only [clsR, s50, s40, s34, ieq, ilt, ile, Int.reduceLT, Int.reduceLE, Int.reduceEq, Int.reduceNeg, decide_true, decide_false, cond_true, cond_false, cSome, cPair, cAnd, show iwrap .i64 (isub .u8 57 48) = 9 from rfl]
theorem r67 (a : Int) : clsR 67 a = (decide (1 ≤ a) && decide (a ≤ 10)) := by
  simp only [clsR, s50, s40, s34, ieq, ilt, ile, Int.reduceLT, Int.reduceLE, Int.reduceEq, Int.reduceNeg, decide_true, decide_false, cond_true, cond_false, cSome, cPair, cAnd]
theorem r70 (a : Int) : clsR 70 a = (decide (-1 ≤ a) && decide (a < 96)) := by
  simp only [clsR, s50, s40, s34, ieq, ilt, ile, Int.reduceLT, Int.reduceLE, Int.reduceEq, Int.reduceNeg, decide_true, decide_false, cond_true, cond_false, cSome, cPair, cAnd]
theorem r85 (a : Int) : clsR 85 a = (decide (16 ≤ a) && decide (a < 32)) := by
  simp only [clsR, s50, s40, s34, ieq, ilt, ile, Int.reduceLT, Int.reduceLE, Int.reduceEq, Int.reduceNeg, decide_true, decide_false, cond_true, cond_false, cSome, cPair, cAnd]
theorem r97 (a : Int) : clsR 97 a = true := by
  simp only [clsR, s50, s40, s34, ieq, ilt, ile, Int.reduceLT, Int.reduceLE, Int.reduceEq, Int.reduceNeg, decide_true, decide_false, cond_true, cond_false, cSome, cPair, cAnd]
theorem r98 (a : Int) : clsR 98 a = (decide (0 ≤ a) && decide (a < 160)) := by
  simp only [clsR, s50, s40, s34, ieq, ilt, ile, Int.reduceLT, Int.reduceLE, Int.reduceEq, Int.reduceNeg, decide_true, decide_false, cond_true, cond_false, cSome, cPair, cAnd]
theorem r100 (a : Int) : clsR 100 a = (decide (1 ≤ a) && decide (a ≤ 4)) := by
  simp only [clsR, s50, s40, s34, ieq, ilt, ile, Int.reduceLT, Int.reduceLE, Int.reduceEq, Int.reduceNeg, decide_true, decide_false, cond_true, cond_false, cSome, cPair, cAnd]
theorem r101 (a : Int) : clsR 101 a = (decide (0 ≤ a) && decide (a ≤ 24)) := by
  simp only [clsR, s50, s40, s34, ieq, ilt, ile, Int.reduceLT, Int.reduceLE, Int.reduceEq, Int.reduceNeg, decide_true, decide_false, cond_true, cond_false, cSome, cPair, cAnd]
theorem r102 (a : Int) : clsR 102 a = (decide (0 ≤ a) && decide (a < 96)) := by
  simp only [clsR, s50, s40, s34, ieq, ilt, ile, Int.reduceLT, Int.reduceLE, Int.reduceEq, Int.reduceNeg, decide_true, decide_false, cond_true, cond_false, cSome, cPair, cAnd]
theorem r107 (a : Int) : clsR 107 a = (decide (0 ≤ a) && decide (a ≤ 255)) := by
  simp only [clsR, s50, s40, s34, ieq, ilt, ile, Int.reduceLT, Int.reduceLE, Int.reduceEq, Int.reduceNeg, decide_true, decide_false, cond_true, cond_false, cSome, cPair, cAnd]
theorem r110 (a : Int) : clsR 110 a = decide (0 ≤ a) := by
  simp only [clsR, s50, s40, s34, ieq, ilt, ile, Int.reduceLT, Int.reduceLE, Int.reduceEq, Int.reduceNeg, decide_true, decide_false, cond_true, cond_false, cSome, cPair, cAnd]
theorem r111 (a : Int) : clsR 111 a = (decide (1 ≤ a) && decide (a ≤ 6)) := by
  simp only [clsR, s50, s40, s34, ieq, ilt, ile, Int.reduceLT, Int.reduceLE, Int.reduceEq, Int.reduceNeg, decide_true, decide_false, cond_true, cond_false, cSome, cPair, cAnd]
theorem r112 (a : Int) : clsR 112 a = (decide (0 ≤ a) && decide (a < 32)) := by
  simp only [clsR, s50, s40, s34, ieq, ilt, ile, Int.reduceLT, Int.reduceLE, Int.reduceEq, Int.reduceNeg, decide_true, decide_false, cond_true, cond_false, cSome, cPair, cAnd]
theorem r114 (a : Int) : clsR 114 a = (decide (1 ≤ a) && decide (a ≤ 3)) := by
  simp only [clsR, s50, s40, s34, ieq, ilt, ile, Int.reduceLT, Int.reduceLE, Int.reduceEq, Int.reduceNeg, decide_true, decide_false, cond_true, cond_false, cSome, cPair, cAnd]
theorem r115 (a : Int) : clsR 115 a = (decide (0 ≤ a) && decide (a < 20)) := by
  simp only [clsR, s50, s40, s34, ieq, ilt, ile, Int.reduceLT, Int.reduceLE, Int.reduceEq, Int.reduceNeg, decide_true, decide_false, cond_true, cond_false, cSome, cPair, cAnd]
theorem r116 (a : Int) : clsR 116 a = decide (1 ≤ a) := by
  simp only [clsR, s50, s40, s34, ieq, ilt, ile, Int.reduceLT, Int.reduceLE, Int.reduceEq, Int.reduceNeg, decide_true, decide_false, cond_true, cond_false, cSome, cPair, cAnd]
theorem r119 (a : Int) : clsR 119 a = (decide (1 ≤ a) && decide (a ≤ 6)) := by
  simp only [clsR, s50, s40, s34, ieq, ilt, ile, Int.reduceLT, Int.reduceLE, Int.reduceEq, Int.reduceNeg, decide_true, decide_false, cond_true, cond_false, cSome, cPair, cAnd]
theorem r120 (a : Int) : clsR 120 a = (decide (1 ≤ a) && decide (a ≤ 7)) := by
  simp only [clsR, s50, s40, s34, ieq, ilt, ile, Int.reduceLT, Int.reduceLE, Int.reduceEq, Int.reduceNeg, decide_true, decide_false, cond_true, cond_false, cSome, cPair, cAnd]
theorem ch_e_0 : chr19 (ByteArray.mk (Array.mk [])) 0 = 48 := rfl
theorem ch_e_1 : chr19 (ByteArray.mk (Array.mk [])) 1 = 48 := rfl
theorem ch_e_2 : chr19 (ByteArray.mk (Array.mk [])) 2 = 48 := rfl
theorem ch_e_3 : chr19 (ByteArray.mk (Array.mk [])) 3 = 48 := rfl
theorem ch_42_42_0 : chr19 (ByteArray.mk (Array.mk [42, 42])) 0 = 42 := rfl
theorem ch_42_42_1 : chr19 (ByteArray.mk (Array.mk [42, 42])) 1 = 42 := rfl
theorem ch_42_42_2 : chr19 (ByteArray.mk (Array.mk [42, 42])) 2 = 48 := rfl
theorem ch_42_42_3 : chr19 (ByteArray.mk (Array.mk [42, 42])) 3 = 48 := rfl
theorem ch_42_102_0 : chr19 (ByteArray.mk (Array.mk [42, 102])) 0 = 42 := rfl
theorem ch_42_102_1 : chr19 (ByteArray.mk (Array.mk [42, 102])) 1 = 102 := rfl
theorem ch_42_102_2 : chr19 (ByteArray.mk (Array.mk [42, 102])) 2 = 48 := rfl
theorem ch_42_102_3 : chr19 (ByteArray.mk (Array.mk [42, 102])) 3 = 48 := rfl
theorem ch_42_102_102_0 : chr19 (ByteArray.mk (Array.mk [42, 102, 102])) 0 = 42 := rfl
theorem ch_42_102_102_1 : chr19 (ByteArray.mk (Array.mk [42, 102, 102])) 1 = 102 := rfl
theorem ch_42_102_102_2 : chr19 (ByteArray.mk (Array.mk [42, 102, 102])) 2 = 102 := rfl
theorem ch_42_102_102_3 : chr19 (ByteArray.mk (Array.mk [42, 102, 102])) 3 = 48 := rfl
theorem ch_42_110_0 : chr19 (ByteArray.mk (Array.mk [42, 110])) 0 = 42 := rfl
theorem ch_42_110_1 : chr19 (ByteArray.mk (Array.mk [42, 110])) 1 = 110 := rfl
theorem ch_42_110_2 : chr19 (ByteArray.mk (Array.mk [42, 110])) 2 = 48 := rfl
theorem ch_42_110_3 : chr19 (ByteArray.mk (Array.mk [42, 110])) 3 = 48 := rfl
theorem ch_48_102_0 : chr19 (ByteArray.mk (Array.mk [48, 102])) 0 = 48 := rfl
theorem ch_48_102_1 : chr19 (ByteArray.mk (Array.mk [48, 102])) 1 = 102 := rfl
theorem ch_48_102_2 : chr19 (ByteArray.mk (Array.mk [48, 102])) 2 = 48 := rfl
theorem ch_48_102_3 : chr19 (ByteArray.mk (Array.mk [48, 102])) 3 = 48 := rfl
theorem ch_49_98_70_0 : chr19 (ByteArray.mk (Array.mk [49, 98, 70])) 0 = 49 := rfl
theorem ch_49_98_70_1 : chr19 (ByteArray.mk (Array.mk [49, 98, 70])) 1 = 98 := rfl
theorem ch_49_98_70_2 : chr19 (ByteArray.mk (Array.mk [49, 98, 70])) 2 = 70 := rfl
theorem ch_49_98_70_3 : chr19 (ByteArray.mk (Array.mk [49, 98, 70])) 3 = 48 := rfl
theorem ch_49_102_102_0 : chr19 (ByteArray.mk (Array.mk [49, 102, 102])) 0 = 49 := rfl
theorem ch_49_102_102_1 : chr19 (ByteArray.mk (Array.mk [49, 102, 102])) 1 = 102 := rfl
theorem ch_49_102_102_2 : chr19 (ByteArray.mk (Array.mk [49, 102, 102])) 2 = 102 := rfl
theorem ch_49_102_102_3 : chr19 (ByteArray.mk (Array.mk [49, 102, 102])) 3 = 48 := rfl
theorem ch_50_85_110_0 : chr19 (ByteArray.mk (Array.mk [50, 85, 110])) 0 = 50 := rfl
theorem ch_50_85_110_1 : chr19 (ByteArray.mk (Array.mk [50, 85, 110])) 1 = 85 := rfl
theorem ch_50_85_110_2 : chr19 (ByteArray.mk (Array.mk [50, 85, 110])) 2 = 110 := rfl
theorem ch_50_85_110_3 : chr19 (ByteArray.mk (Array.mk [50, 85, 110])) 3 = 48 := rfl
theorem ch_50_102_0 : chr19 (ByteArray.mk (Array.mk [50, 102])) 0 = 50 := rfl
theorem ch_50_102_1 : chr19 (ByteArray.mk (Array.mk [50, 102])) 1 = 102 := rfl
theorem ch_50_102_2 : chr19 (ByteArray.mk (Array.mk [50, 102])) 2 = 48 := rfl
theorem ch_50_102_3 : chr19 (ByteArray.mk (Array.mk [50, 102])) 3 = 48 := rfl
theorem ch_57_97_0 : chr19 (ByteArray.mk (Array.mk [57, 97])) 0 = 57 := rfl
theorem ch_57_97_1 : chr19 (ByteArray.mk (Array.mk [57, 97])) 1 = 97 := rfl
theorem ch_57_97_2 : chr19 (ByteArray.mk (Array.mk [57, 97])) 2 = 48 := rfl
theorem ch_57_97_3 : chr19 (ByteArray.mk (Array.mk [57, 97])) 3 = 48 := rfl
theorem ch_67_49_0 : chr19 (ByteArray.mk (Array.mk [67, 49])) 0 = 67 := rfl
theorem ch_67_49_1 : chr19 (ByteArray.mk (Array.mk [67, 49])) 1 = 49 := rfl
theorem ch_67_49_2 : chr19 (ByteArray.mk (Array.mk [67, 49])) 2 = 48 := rfl
theorem ch_67_49_3 : chr19 (ByteArray.mk (Array.mk [67, 49])) 3 = 48 := rfl
theorem ch_67_102_0 : chr19 (ByteArray.mk (Array.mk [67, 102])) 0 = 67 := rfl
theorem ch_67_102_1 : chr19 (ByteArray.mk (Array.mk [67, 102])) 1 = 102 := rfl
theorem ch_67_102_2 : chr19 (ByteArray.mk (Array.mk [67, 102])) 2 = 48 := rfl
theorem ch_67_102_3 : chr19 (ByteArray.mk (Array.mk [67, 102])) 3 = 48 := rfl
theorem ch_67_102_114_0 : chr19 (ByteArray.mk (Array.mk [67, 102, 114])) 0 = 67 := rfl
theorem ch_67_102_114_1 : chr19 (ByteArray.mk (Array.mk [67, 102, 114])) 1 = 102 := rfl
theorem ch_67_102_114_2 : chr19 (ByteArray.mk (Array.mk [67, 102, 114])) 2 = 114 := rfl
theorem ch_67_102_114_3 : chr19 (ByteArray.mk (Array.mk [67, 102, 114])) 3 = 48 := rfl
theorem ch_67_120_0 : chr19 (ByteArray.mk (Array.mk [67, 120])) 0 = 67 := rfl
theorem ch_67_120_1 : chr19 (ByteArray.mk (Array.mk [67, 120])) 1 = 120 := rfl
theorem ch_67_120_2 : chr19 (ByteArray.mk (Array.mk [67, 120])) 2 = 48 := rfl
theorem ch_67_120_3 : chr19 (ByteArray.mk (Array.mk [67, 120])) 3 = 48 := rfl
theorem ch_85_0 : chr19 (ByteArray.mk (Array.mk [85])) 0 = 85 := rfl
theorem ch_85_1 : chr19 (ByteArray.mk (Array.mk [85])) 1 = 48 := rfl
theorem ch_85_2 : chr19 (ByteArray.mk (Array.mk [85])) 2 = 48 := rfl
theorem ch_85_3 : chr19 (ByteArray.mk (Array.mk [85])) 3 = 48 := rfl
theorem ch_85_49_101_0 : chr19 (ByteArray.mk (Array.mk [85, 49, 101])) 0 = 85 := rfl
theorem ch_85_49_101_1 : chr19 (ByteArray.mk (Array.mk [85, 49, 101])) 1 = 49 := rfl
theorem ch_85_49_101_2 : chr19 (ByteArray.mk (Array.mk [85, 49, 101])) 2 = 101 := rfl
theorem ch_85_49_101_3 : chr19 (ByteArray.mk (Array.mk [85, 49, 101])) 3 = 48 := rfl
theorem ch_85_85_0 : chr19 (ByteArray.mk (Array.mk [85, 85])) 0 = 85 := rfl
theorem ch_85_85_1 : chr19 (ByteArray.mk (Array.mk [85, 85])) 1 = 85 := rfl
theorem ch_85_85_2 : chr19 (ByteArray.mk (Array.mk [85, 85])) 2 = 48 := rfl
theorem ch_85_85_3 : chr19 (ByteArray.mk (Array.mk [85, 85])) 3 = 48 := rfl
theorem ch_85_97_0 : chr19 (ByteArray.mk (Array.mk [85, 97])) 0 = 85 := rfl
theorem ch_85_97_1 : chr19 (ByteArray.mk (Array.mk [85, 97])) 1 = 97 := rfl
theorem ch_85_97_2 : chr19 (ByteArray.mk (Array.mk [85, 97])) 2 = 48 := rfl
theorem ch_85_97_3 : chr19 (ByteArray.mk (Array.mk [85, 97])) 3 = 48 := rfl
theorem ch_85_101_0 : chr19 (ByteArray.mk (Array.mk [85, 101])) 0 = 85 := rfl
theorem ch_85_101_1 : chr19 (ByteArray.mk (Array.mk [85, 101])) 1 = 101 := rfl
theorem ch_85_101_2 : chr19 (ByteArray.mk (Array.mk [85, 101])) 2 = 48 := rfl
theorem ch_85_101_3 : chr19 (ByteArray.mk (Array.mk [85, 101])) 3 = 48 := rfl
theorem ch_85_101_97_0 : chr19 (ByteArray.mk (Array.mk [85, 101, 97])) 0 = 85 := rfl
theorem ch_85_101_97_1 : chr19 (ByteArray.mk (Array.mk [85, 101, 97])) 1 = 101 := rfl
theorem ch_85_101_97_2 : chr19 (ByteArray.mk (Array.mk [85, 101, 97])) 2 = 97 := rfl
theorem ch_85_101_97_3 : chr19 (ByteArray.mk (Array.mk [85, 101, 97])) 3 = 48 := rfl
theorem ch_85_101_110_0 : chr19 (ByteArray.mk (Array.mk [85, 101, 110])) 0 = 85 := rfl
theorem ch_85_101_110_1 : chr19 (ByteArray.mk (Array.mk [85, 101, 110])) 1 = 101 := rfl
theorem ch_85_101_110_2 : chr19 (ByteArray.mk (Array.mk [85, 101, 110])) 2 = 110 := rfl
theorem ch_85_101_110_3 : chr19 (ByteArray.mk (Array.mk [85, 101, 110])) 3 = 48 := rfl
theorem ch_85_107_0 : chr19 (ByteArray.mk (Array.mk [85, 107])) 0 = 85 := rfl
theorem ch_85_107_1 : chr19 (ByteArray.mk (Array.mk [85, 107])) 1 = 107 := rfl
theorem ch_85_107_2 : chr19 (ByteArray.mk (Array.mk [85, 107])) 2 = 48 := rfl
theorem ch_85_107_3 : chr19 (ByteArray.mk (Array.mk [85, 107])) 3 = 48 := rfl
theorem ch_85_110_0 : chr19 (ByteArray.mk (Array.mk [85, 110])) 0 = 85 := rfl
theorem ch_85_110_1 : chr19 (ByteArray.mk (Array.mk [85, 110])) 1 = 110 := rfl
theorem ch_85_110_2 : chr19 (ByteArray.mk (Array.mk [85, 110])) 2 = 48 := rfl
theorem ch_85_110_3 : chr19 (ByteArray.mk (Array.mk [85, 110])) 3 = 48 := rfl
theorem ch_85_112_0 : chr19 (ByteArray.mk (Array.mk [85, 112])) 0 = 85 := rfl
theorem ch_85_112_1 : chr19 (ByteArray.mk (Array.mk [85, 112])) 1 = 112 := rfl
theorem ch_85_112_2 : chr19 (ByteArray.mk (Array.mk [85, 112])) 2 = 48 := rfl
theorem ch_85_112_3 : chr19 (ByteArray.mk (Array.mk [85, 112])) 3 = 48 := rfl
theorem ch_85_112_102_49_0 : chr19 (ByteArray.mk (Array.mk [85, 112, 102, 49])) 0 = 85 := rfl
theorem ch_85_112_102_49_1 : chr19 (ByteArray.mk (Array.mk [85, 112, 102, 49])) 1 = 112 := rfl
theorem ch_85_112_102_49_2 : chr19 (ByteArray.mk (Array.mk [85, 112, 102, 49])) 2 = 102 := rfl
theorem ch_85_112_102_49_3 : chr19 (ByteArray.mk (Array.mk [85, 112, 102, 49])) 3 = 49 := rfl
theorem ch_97_97_0 : chr19 (ByteArray.mk (Array.mk [97, 97])) 0 = 97 := rfl
theorem ch_97_97_1 : chr19 (ByteArray.mk (Array.mk [97, 97])) 1 = 97 := rfl
theorem ch_97_97_2 : chr19 (ByteArray.mk (Array.mk [97, 97])) 2 = 48 := rfl
theorem ch_97_97_3 : chr19 (ByteArray.mk (Array.mk [97, 97])) 3 = 48 := rfl
theorem ch_97_110_0 : chr19 (ByteArray.mk (Array.mk [97, 110])) 0 = 97 := rfl
theorem ch_97_110_1 : chr19 (ByteArray.mk (Array.mk [97, 110])) 1 = 110 := rfl
theorem ch_97_110_2 : chr19 (ByteArray.mk (Array.mk [97, 110])) 2 = 48 := rfl
theorem ch_97_110_3 : chr19 (ByteArray.mk (Array.mk [97, 110])) 3 = 48 := rfl
theorem ch_98_107_103_0 : chr19 (ByteArray.mk (Array.mk [98, 107, 103])) 0 = 98 := rfl
theorem ch_98_107_103_1 : chr19 (ByteArray.mk (Array.mk [98, 107, 103])) 1 = 107 := rfl
theorem ch_98_107_103_2 : chr19 (ByteArray.mk (Array.mk [98, 107, 103])) 2 = 103 := rfl
theorem ch_98_107_103_3 : chr19 (ByteArray.mk (Array.mk [98, 107, 103])) 3 = 48 := rfl
theorem ch_99_98_0 : chr19 (ByteArray.mk (Array.mk [99, 98])) 0 = 99 := rfl
theorem ch_99_98_1 : chr19 (ByteArray.mk (Array.mk [99, 98])) 1 = 98 := rfl
theorem ch_99_98_2 : chr19 (ByteArray.mk (Array.mk [99, 98])) 2 = 48 := rfl
theorem ch_99_98_3 : chr19 (ByteArray.mk (Array.mk [99, 98])) 3 = 48 := rfl
theorem ch_99_102_0 : chr19 (ByteArray.mk (Array.mk [99, 102])) 0 = 99 := rfl
theorem ch_99_102_1 : chr19 (ByteArray.mk (Array.mk [99, 102])) 1 = 102 := rfl
theorem ch_99_102_2 : chr19 (ByteArray.mk (Array.mk [99, 102])) 2 = 48 := rfl
theorem ch_99_102_3 : chr19 (ByteArray.mk (Array.mk [99, 102])) 3 = 48 := rfl
theorem ch_99_102_114_0 : chr19 (ByteArray.mk (Array.mk [99, 102, 114])) 0 = 99 := rfl
theorem ch_99_102_114_1 : chr19 (ByteArray.mk (Array.mk [99, 102, 114])) 1 = 102 := rfl
theorem ch_99_102_114_2 : chr19 (ByteArray.mk (Array.mk [99, 102, 114])) 2 = 114 := rfl
theorem ch_99_102_114_3 : chr19 (ByteArray.mk (Array.mk [99, 102, 114])) 3 = 48 := rfl
theorem ch_99_120_0 : chr19 (ByteArray.mk (Array.mk [99, 120])) 0 = 99 := rfl
theorem ch_99_120_1 : chr19 (ByteArray.mk (Array.mk [99, 120])) 1 = 120 := rfl
theorem ch_99_120_2 : chr19 (ByteArray.mk (Array.mk [99, 120])) 2 = 48 := rfl
theorem ch_99_120_3 : chr19 (ByteArray.mk (Array.mk [99, 120])) 3 = 48 := rfl
theorem ch_100_110_42_42_0 : chr19 (ByteArray.mk (Array.mk [100, 110, 42, 42])) 0 = 100 := rfl
theorem ch_100_110_42_42_1 : chr19 (ByteArray.mk (Array.mk [100, 110, 42, 42])) 1 = 110 := rfl
theorem ch_100_110_42_42_2 : chr19 (ByteArray.mk (Array.mk [100, 110, 42, 42])) 2 = 42 := rfl
theorem ch_100_110_42_42_3 : chr19 (ByteArray.mk (Array.mk [100, 110, 42, 42])) 3 = 42 := rfl
theorem ch_100_110_97_97_0 : chr19 (ByteArray.mk (Array.mk [100, 110, 97, 97])) 0 = 100 := rfl
theorem ch_100_110_97_97_1 : chr19 (ByteArray.mk (Array.mk [100, 110, 97, 97])) 1 = 110 := rfl
theorem ch_100_110_97_97_2 : chr19 (ByteArray.mk (Array.mk [100, 110, 97, 97])) 2 = 97 := rfl
theorem ch_100_110_97_97_3 : chr19 (ByteArray.mk (Array.mk [100, 110, 97, 97])) 3 = 97 := rfl
theorem ch_100_116_42_42_0 : chr19 (ByteArray.mk (Array.mk [100, 116, 42, 42])) 0 = 100 := rfl
theorem ch_100_116_42_42_1 : chr19 (ByteArray.mk (Array.mk [100, 116, 42, 42])) 1 = 116 := rfl
theorem ch_100_116_42_42_2 : chr19 (ByteArray.mk (Array.mk [100, 116, 42, 42])) 2 = 42 := rfl
theorem ch_100_116_42_42_3 : chr19 (ByteArray.mk (Array.mk [100, 116, 42, 42])) 3 = 42 := rfl
theorem ch_100_116_97_97_0 : chr19 (ByteArray.mk (Array.mk [100, 116, 97, 97])) 0 = 100 := rfl
theorem ch_100_116_97_97_1 : chr19 (ByteArray.mk (Array.mk [100, 116, 97, 97])) 1 = 116 := rfl
theorem ch_100_116_97_97_2 : chr19 (ByteArray.mk (Array.mk [100, 116, 97, 97])) 2 = 97 := rfl
theorem ch_100_116_97_97_3 : chr19 (ByteArray.mk (Array.mk [100, 116, 97, 97])) 3 = 97 := rfl
theorem ch_101_42_0 : chr19 (ByteArray.mk (Array.mk [101, 42])) 0 = 101 := rfl
theorem ch_101_42_1 : chr19 (ByteArray.mk (Array.mk [101, 42])) 1 = 42 := rfl
theorem ch_101_42_2 : chr19 (ByteArray.mk (Array.mk [101, 42])) 2 = 48 := rfl
theorem ch_101_42_3 : chr19 (ByteArray.mk (Array.mk [101, 42])) 3 = 48 := rfl
theorem ch_101_42_121_0 : chr19 (ByteArray.mk (Array.mk [101, 42, 121])) 0 = 101 := rfl
theorem ch_101_42_121_1 : chr19 (ByteArray.mk (Array.mk [101, 42, 121])) 1 = 42 := rfl
theorem ch_101_42_121_2 : chr19 (ByteArray.mk (Array.mk [101, 42, 121])) 2 = 121 := rfl
theorem ch_101_42_121_3 : chr19 (ByteArray.mk (Array.mk [101, 42, 121])) 3 = 48 := rfl
theorem ch_101_97_0 : chr19 (ByteArray.mk (Array.mk [101, 97])) 0 = 101 := rfl
theorem ch_101_97_1 : chr19 (ByteArray.mk (Array.mk [101, 97])) 1 = 97 := rfl
theorem ch_101_97_2 : chr19 (ByteArray.mk (Array.mk [101, 97])) 2 = 48 := rfl
theorem ch_101_97_3 : chr19 (ByteArray.mk (Array.mk [101, 97])) 3 = 48 := rfl
theorem ch_101_97_53_0 : chr19 (ByteArray.mk (Array.mk [101, 97, 53])) 0 = 101 := rfl
theorem ch_101_97_53_1 : chr19 (ByteArray.mk (Array.mk [101, 97, 53])) 1 = 97 := rfl
theorem ch_101_97_53_2 : chr19 (ByteArray.mk (Array.mk [101, 97, 53])) 2 = 53 := rfl
theorem ch_101_97_53_3 : chr19 (ByteArray.mk (Array.mk [101, 97, 53])) 3 = 48 := rfl
theorem ch_101_98_0 : chr19 (ByteArray.mk (Array.mk [101, 98])) 0 = 101 := rfl
theorem ch_101_98_1 : chr19 (ByteArray.mk (Array.mk [101, 98])) 1 = 98 := rfl
theorem ch_101_98_2 : chr19 (ByteArray.mk (Array.mk [101, 98])) 2 = 48 := rfl
theorem ch_101_98_3 : chr19 (ByteArray.mk (Array.mk [101, 98])) 3 = 48 := rfl
theorem ch_101_107_0 : chr19 (ByteArray.mk (Array.mk [101, 107])) 0 = 101 := rfl
theorem ch_101_107_1 : chr19 (ByteArray.mk (Array.mk [101, 107])) 1 = 107 := rfl
theorem ch_101_107_2 : chr19 (ByteArray.mk (Array.mk [101, 107])) 2 = 48 := rfl
theorem ch_101_107_3 : chr19 (ByteArray.mk (Array.mk [101, 107])) 3 = 48 := rfl
theorem ch_109_117_110_0 : chr19 (ByteArray.mk (Array.mk [109, 117, 110])) 0 = 109 := rfl
theorem ch_109_117_110_1 : chr19 (ByteArray.mk (Array.mk [109, 117, 110])) 1 = 117 := rfl
theorem ch_109_117_110_2 : chr19 (ByteArray.mk (Array.mk [109, 117, 110])) 2 = 110 := rfl
theorem ch_109_117_110_3 : chr19 (ByteArray.mk (Array.mk [109, 117, 110])) 3 = 48 := rfl
theorem ch_110_0 : chr19 (ByteArray.mk (Array.mk [110])) 0 = 110 := rfl
theorem ch_110_1 : chr19 (ByteArray.mk (Array.mk [110])) 1 = 48 := rfl
theorem ch_110_2 : chr19 (ByteArray.mk (Array.mk [110])) 2 = 48 := rfl
theorem ch_110_3 : chr19 (ByteArray.mk (Array.mk [110])) 3 = 48 := rfl
theorem ch_111_42_42_42_0 : chr19 (ByteArray.mk (Array.mk [111, 42, 42, 42])) 0 = 111 := rfl
theorem ch_111_42_42_42_1 : chr19 (ByteArray.mk (Array.mk [111, 42, 42, 42])) 1 = 42 := rfl
theorem ch_111_42_42_42_2 : chr19 (ByteArray.mk (Array.mk [111, 42, 42, 42])) 2 = 42 := rfl
theorem ch_111_42_42_42_3 : chr19 (ByteArray.mk (Array.mk [111, 42, 42, 42])) 3 = 42 := rfl
theorem ch_111_97_97_97_0 : chr19 (ByteArray.mk (Array.mk [111, 97, 97, 97])) 0 = 111 := rfl
theorem ch_111_97_97_97_1 : chr19 (ByteArray.mk (Array.mk [111, 97, 97, 97])) 1 = 97 := rfl
theorem ch_111_97_97_97_2 : chr19 (ByteArray.mk (Array.mk [111, 97, 97, 97])) 2 = 97 := rfl
theorem ch_111_97_97_97_3 : chr19 (ByteArray.mk (Array.mk [111, 97, 97, 97])) 3 = 97 := rfl
theorem ch_112_49_0 : chr19 (ByteArray.mk (Array.mk [112, 49])) 0 = 112 := rfl
theorem ch_112_49_1 : chr19 (ByteArray.mk (Array.mk [112, 49])) 1 = 49 := rfl
theorem ch_112_49_2 : chr19 (ByteArray.mk (Array.mk [112, 49])) 2 = 48 := rfl
theorem ch_112_49_3 : chr19 (ByteArray.mk (Array.mk [112, 49])) 3 = 48 := rfl
theorem ch_112_98_0 : chr19 (ByteArray.mk (Array.mk [112, 98])) 0 = 112 := rfl
theorem ch_112_98_1 : chr19 (ByteArray.mk (Array.mk [112, 98])) 1 = 98 := rfl
theorem ch_112_98_2 : chr19 (ByteArray.mk (Array.mk [112, 98])) 2 = 48 := rfl
theorem ch_112_98_3 : chr19 (ByteArray.mk (Array.mk [112, 98])) 3 = 48 := rfl
theorem ch_113_42_42_42_0 : chr19 (ByteArray.mk (Array.mk [113, 42, 42, 42])) 0 = 113 := rfl
theorem ch_113_42_42_42_1 : chr19 (ByteArray.mk (Array.mk [113, 42, 42, 42])) 1 = 42 := rfl
theorem ch_113_42_42_42_2 : chr19 (ByteArray.mk (Array.mk [113, 42, 42, 42])) 2 = 42 := rfl
theorem ch_113_42_42_42_3 : chr19 (ByteArray.mk (Array.mk [113, 42, 42, 42])) 3 = 42 := rfl
theorem ch_115_42_42_42_0 : chr19 (ByteArray.mk (Array.mk [115, 42, 42, 42])) 0 = 115 := rfl
theorem ch_115_42_42_42_1 : chr19 (ByteArray.mk (Array.mk [115, 42, 42, 42])) 1 = 42 := rfl
theorem ch_115_42_42_42_2 : chr19 (ByteArray.mk (Array.mk [115, 42, 42, 42])) 2 = 42 := rfl
theorem ch_115_42_42_42_3 : chr19 (ByteArray.mk (Array.mk [115, 42, 42, 42])) 3 = 42 := rfl
theorem ch_115_97_97_97_0 : chr19 (ByteArray.mk (Array.mk [115, 97, 97, 97])) 0 = 115 := rfl
theorem ch_115_97_97_97_1 : chr19 (ByteArray.mk (Array.mk [115, 97, 97, 97])) 1 = 97 := rfl
theorem ch_115_97_97_97_2 : chr19 (ByteArray.mk (Array.mk [115, 97, 97, 97])) 2 = 97 := rfl
theorem ch_115_97_97_97_3 : chr19 (ByteArray.mk (Array.mk [115, 97, 97, 97])) 3 = 97 := rfl
theorem ch_117_0 : chr19 (ByteArray.mk (Array.mk [117])) 0 = 117 := rfl
theorem ch_117_1 : chr19 (ByteArray.mk (Array.mk [117])) 1 = 48 := rfl
theorem ch_117_2 : chr19 (ByteArray.mk (Array.mk [117])) 2 = 48 := rfl
theorem ch_117_3 : chr19 (ByteArray.mk (Array.mk [117])) 3 = 48 := rfl
theorem ch_117_42_0 : chr19 (ByteArray.mk (Array.mk [117, 42])) 0 = 117 := rfl
theorem ch_117_42_1 : chr19 (ByteArray.mk (Array.mk [117, 42])) 1 = 42 := rfl
theorem ch_117_42_2 : chr19 (ByteArray.mk (Array.mk [117, 42])) 2 = 48 := rfl
theorem ch_117_42_3 : chr19 (ByteArray.mk (Array.mk [117, 42])) 3 = 48 := rfl
theorem ch_117_98_101_0 : chr19 (ByteArray.mk (Array.mk [117, 98, 101])) 0 = 117 := rfl
theorem ch_117_98_101_1 : chr19 (ByteArray.mk (Array.mk [117, 98, 101])) 1 = 98 := rfl
theorem ch_117_98_101_2 : chr19 (ByteArray.mk (Array.mk [117, 98, 101])) 2 = 101 := rfl
theorem ch_117_98_101_3 : chr19 (ByteArray.mk (Array.mk [117, 98, 101])) 3 = 48 := rfl
theorem ch_117_101_0 : chr19 (ByteArray.mk (Array.mk [117, 101])) 0 = 117 := rfl
theorem ch_117_101_1 : chr19 (ByteArray.mk (Array.mk [117, 101])) 1 = 101 := rfl
theorem ch_117_101_2 : chr19 (ByteArray.mk (Array.mk [117, 101])) 2 = 48 := rfl
theorem ch_117_101_3 : chr19 (ByteArray.mk (Array.mk [117, 101])) 3 = 48 := rfl
theorem ch_117_101_42_0 : chr19 (ByteArray.mk (Array.mk [117, 101, 42])) 0 = 117 := rfl
theorem ch_117_101_42_1 : chr19 (ByteArray.mk (Array.mk [117, 101, 42])) 1 = 101 := rfl
theorem ch_117_101_42_2 : chr19 (ByteArray.mk (Array.mk [117, 101, 42])) 2 = 42 := rfl
theorem ch_117_101_42_3 : chr19 (ByteArray.mk (Array.mk [117, 101, 42])) 3 = 48 := rfl
theorem ch_117_101_110_0 : chr19 (ByteArray.mk (Array.mk [117, 101, 110])) 0 = 117 := rfl
theorem ch_117_101_110_1 : chr19 (ByteArray.mk (Array.mk [117, 101, 110])) 1 = 101 := rfl
theorem ch_117_101_110_2 : chr19 (ByteArray.mk (Array.mk [117, 101, 110])) 2 = 110 := rfl
theorem ch_117_101_110_3 : chr19 (ByteArray.mk (Array.mk [117, 101, 110])) 3 = 48 := rfl
theorem ch_117_110_0 : chr19 (ByteArray.mk (Array.mk [117, 110])) 0 = 117 := rfl
theorem ch_117_110_1 : chr19 (ByteArray.mk (Array.mk [117, 110])) 1 = 110 := rfl
theorem ch_117_110_2 : chr19 (ByteArray.mk (Array.mk [117, 110])) 2 = 48 := rfl
theorem ch_117_110_3 : chr19 (ByteArray.mk (Array.mk [117, 110])) 3 = 48 := rfl
theorem ch_117_112_0 : chr19 (ByteArray.mk (Array.mk [117, 112])) 0 = 117 := rfl
theorem ch_117_112_1 : chr19 (ByteArray.mk (Array.mk [117, 112])) 1 = 112 := rfl
theorem ch_117_112_2 : chr19 (ByteArray.mk (Array.mk [117, 112])) 2 = 48 := rfl
theorem ch_117_112_3 : chr19 (ByteArray.mk (Array.mk [117, 112])) 3 = 48 := rfl
theorem ch_117_112_102_98_0 : chr19 (ByteArray.mk (Array.mk [117, 112, 102, 98])) 0 = 117 := rfl
theorem ch_117_112_102_98_1 : chr19 (ByteArray.mk (Array.mk [117, 112, 102, 98])) 1 = 112 := rfl
theorem ch_117_112_102_98_2 : chr19 (ByteArray.mk (Array.mk [117, 112, 102, 98])) 2 = 102 := rfl
theorem ch_117_112_102_98_3 : chr19 (ByteArray.mk (Array.mk [117, 112, 102, 98])) 3 = 98 := rfl
theorem ch_117_117_0 : chr19 (ByteArray.mk (Array.mk [117, 117])) 0 = 117 := rfl
theorem ch_117_117_1 : chr19 (ByteArray.mk (Array.mk [117, 117])) 1 = 117 := rfl
theorem ch_117_117_2 : chr19 (ByteArray.mk (Array.mk [117, 117])) 2 = 48 := rfl
theorem ch_117_117_3 : chr19 (ByteArray.mk (Array.mk [117, 117])) 3 = 48 := rfl
theorem ch_117_118_0 : chr19 (ByteArray.mk (Array.mk [117, 118])) 0 = 117 := rfl
theorem ch_117_118_1 : chr19 (ByteArray.mk (Array.mk [117, 118])) 1 = 118 := rfl
theorem ch_117_118_2 : chr19 (ByteArray.mk (Array.mk [117, 118])) 2 = 48 := rfl
theorem ch_117_118_3 : chr19 (ByteArray.mk (Array.mk [117, 118])) 3 = 48 := rfl
theorem ch_119_97_97_97_0 : chr19 (ByteArray.mk (Array.mk [119, 97, 97, 97])) 0 = 119 := rfl
theorem ch_119_97_97_97_1 : chr19 (ByteArray.mk (Array.mk [119, 97, 97, 97])) 1 = 97 := rfl
theorem ch_119_97_97_97_2 : chr19 (ByteArray.mk (Array.mk [119, 97, 97, 97])) 2 = 97 := rfl
theorem ch_119_97_97_97_3 : chr19 (ByteArray.mk (Array.mk [119, 97, 97, 97])) 3 = 97 := rfl
theorem ch_122_42_0 : chr19 (ByteArray.mk (Array.mk [122, 42])) 0 = 122 := rfl
theorem ch_122_42_1 : chr19 (ByteArray.mk (Array.mk [122, 42])) 1 = 42 := rfl
theorem ch_122_42_2 : chr19 (ByteArray.mk (Array.mk [122, 42])) 2 = 48 := rfl
theorem ch_122_42_3 : chr19 (ByteArray.mk (Array.mk [122, 42])) 3 = 48 := rfl
end Go.G
