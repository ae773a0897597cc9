import Derived.Test.YtmhleddbamfheaaP18e
set_option linter.unusedVariables false
set_option linter.unusedSimpArgs false
namespace Go.G
set_option maxRecDepth 100000
def isRoot (x : Cap18) : Bool := ieq x.Parent 0 && (ieq x.Right_Type 1 && ieq x.Right_Code 1)
def addR (o : Int) : Int → List Cap18 → List Cap18
  | _, [] => []
  | n, c :: r => ⟨n, c.ID, o, c.Right_Type, c.Right_Peer, c.Right_Code⟩ :: addR o (n + 1) r
def hasR (l : List Cap18) (o : Int) (c : Cap18) : Bool := l.any (isHas o c.Right_Type c.Right_Peer c.Right_Code)
def enterS (n : Int) (l : List Cap18) (o : Int) : Tb × Int × Unit :=
  bif !validB n l then (noT, (1, ())) else bif ilt o 16 || ile 32 o then (noT, (2, ())) else bif (l.filter isRoot).any (hasR l o) then (noT, (9, ()))
  else bif decide (400 < l.length + (l.filter isRoot).length) || decide (1099511627776 < n + (l.filter isRoot).length) then (noT, (6, ())) else ((n + (l.filter isRoot).length, (l ++ addR o n (l.filter isRoot), ())), (0, ()))
theorem addR_len (o : Int) : ∀ (r : List Cap18) (n : Int), (addR o n r).length = r.length
  | [], _ => rfl
  | c :: r, n => by simp [addR, addR_len o r]
def adStep (o : Int) (c : Cap18) (s : Int × List Cap18) : Int × List Cap18 := (s.1 + 1, s.2 ++ [⟨s.1, c.ID, o, c.Right_Type, c.Right_Peer, c.Right_Code⟩])
theorem ad_fold (o : Int) : ∀ (r : List Cap18) (n : Int) (l : List Cap18), r.foldl (fun s c => adStep o c s) (n, l) = (n + r.length, l ++ addR o n r)
  | [], n, l => by simp [addR]
  | c :: r, n, l => by
    rw [List.foldl_cons]
    show r.foldl (fun s c => adStep o c s) (n + 1, l ++ [_]) = _
    rw [ad_fold o r]
    simp only [addR, List.length_cons, List.append_assoc, List.cons_append, List.nil_append]
    congr 1
    omega

theorem enter_add (fu : Nat) (o n z : Int) (l r : List Cap18) (hf : r.length < fu) (hr : r.length ≤ 1000000) (hl : l.length ≤ 1000000) (hn : 0 ≤ n ∧ n ≤ 1099511627776) :
    iter (t19_13 fu) fu ((), ((), ((), ((), ((dlen r), (0, (r, ((z, ((), ())), ((o, ()), (l, ((n, ((), ())), ()))))))))))) = some (.inl ((), ((), (r, ((z, ((), ())), ((o, ()), (l ++ addR o n r, ((n + r.length, ((), ())), ())))))))) := by
  have := iter_fold (step := t19_13 fu) (fu := fu) r (fun j (s : Int × List Cap18) => ((), ((), ((), ((), ((dlen r), ((j : Int), (r, ((z, ((), ())), ((o, ()), (s.2, ((s.1, ((), ())), ()))))))))))))
    (adStep o) (fun i s => s.2.length = l.length + i ∧ s.1 = n + i) (fun s => .inl ((), ((), (r, ((z, ((), ())), ((o, ()), (s.2, ((s.1, ((), ())), ())))))))) (n, l) hf (by simp)
    (fun i x s hi hI => by
      have h1 := getElem?_lt hi
      refine ⟨?_, by simp only [adStep, List.length_append, List.length_cons, List.length_nil]; omega⟩
      simp only [t19_13, dlen_def, dat_nat, hi, ilt_len h1, iadd1 (show i < 9223372036854775807 by omega)]
      rw [dapp_ok (by simp; omega) (by simp; omega)]
      simp only
      rw [iadd64 (by omega)]
      rfl)
    (fun s hI => by simp only [t19_13, dlen_def, ilt_end])
  simp only [Int.natCast_zero] at this
  rw [this, ad_fold]
theorem t19_a : t19_21 = t19_13 := rfl
theorem t19_b : t19_31 = t19_13 := rfl
theorem t19_c : t19_39 = t19_13 := rfl
end Go.G
