import Derived.Test.YtmhleddbamfheaaP18a
set_option linter.unusedVariables false
set_option linter.unusedSimpArgs false
namespace Go.G
set_option maxRecDepth 100000
def properB (t p c : Int) : Bool :=
  if ieq t 1 then ile 1 p && ile p 10 && ile 1 c && ilt c 28 else if ieq t 2 then ieq p 0 && ile 1 c && ilt c 17 else if ieq t 3 then ieq p 0 && ile 1 c && ile c 4 else false
theorem proper_caps (fu : Nat) (t p c : Int) : s38 fu t p c = some (properB t p c, ()) := by
  unfold s38 properB
  repeat' split
  all_goals simp_all
theorem proper_ref (fu : Nat) (t p c : Int) : s47 fu t p c = some (properB t p c, ()) := by
  unfold s47 properB
  repeat' split
  all_goals simp_all

def lastID (pre : List Cap18) : Int := match pre.getLast? with
  | some p => p.ID
  | none => 0
def rEq (p x : Cap18) : Bool := ieq p.Right_Type x.Right_Type && (ieq p.Right_Peer x.Right_Peer && ieq p.Right_Code x.Right_Code)
def parOK (pre : List Cap18) (x : Cap18) : Bool :=
  if ieq x.Parent 0 then ieq x.Owner 0 else match pre.find? (fun p => ieq p.ID x.Parent) with
    | some p => rEq p x
    | none => false
def okAt (n : Int) (pre : List Cap18) (x : Cap18) : Bool :=
  !ile x.ID (lastID pre) && (!ile n x.ID && (properB x.Right_Type x.Right_Peer x.Right_Code && (!ilt x.Owner 0 && (!ile 32 x.Owner && (parOK pre x && !pre.any (isHas x.Owner x.Right_Type x.Right_Peer x.Right_Code))))))
def validL (n : Int) : List Cap18 → List Cap18 → Bool
  | _, [] => true
  | pre, x :: r => okAt n pre x && validL n (pre ++ [x]) r
def validB (n : Int) (l : List Cap18) : Bool := validL n [] l && (decide (l.length ≤ 400) && (ile 1 n && ile n 1099511627776))

theorem take_succ_of {α : Type} {l : List α} {i : Nat} {x : α} (h : l[i]? = some x) : l.take (i + 1) = l.take i ++ [x] := by
  rw [List.take_add_one, h]; rfl
theorem lastID_snoc (pre : List Cap18) (x : Cap18) : lastID (pre ++ [x]) = x.ID := by simp [lastID]

theorem validL_all (n : Int) (l : List Cap18) : ∀ (r : List Cap18) (k : Nat), l.drop k = r → allI (fun i x => okAt n (l.take i) x) r k = validL n (l.take k) r
  | [], k, _ => rfl
  | x :: r, k, h => by
    have hk : l[k]? = some x := by
      have := congrArg (·[0]?) h
      simpa using this
    have hr : l.drop (k + 1) = r := by rw [← List.drop_drop, h]; rfl
    simp only [allI, validL, validL_all n l r (k + 1) hr, take_succ_of hk]

theorem okAt_last {n : Int} {pre : List Cap18} {x : Cap18} (h : okAt n pre x = true) : lastID pre < x.ID := by
  simp only [okAt, Bool.and_eq_true, Bool.not_eq_true', ile_f] at h
  exact h.1

def heldK (x : Cap18) : Held18 := ⟨x.Owner, x.Right_Type, x.Right_Peer, x.Right_Code⟩
def rightK (x : Cap18) : Right18 := ⟨x.Right_Type, x.Right_Peer, x.Right_Code⟩

theorem held_find (pre : List Cap18) (x : Cap18) : mfind keq18_held (pre.map fun y => (heldK y, true)) (heldK x) = if pre.any (isHas x.Owner x.Right_Type x.Right_Peer x.Right_Code) then some true else none := by
  rw [mfind_map]
  have e : (fun y => keq18_held (heldK x) (heldK y)) = isHas x.Owner x.Right_Type x.Right_Peer x.Right_Code := by
    funext y
    simp only [keq18_held, heldK, isHas, Bool.and_true]
    rw [ieq_comm x.Owner, ieq_comm x.Right_Type, ieq_comm x.Right_Peer, ieq_comm x.Right_Code]
  rw [e]
  cases h : pre.any (isHas x.Owner x.Right_Type x.Right_Peer x.Right_Code) with
  | true =>
    obtain ⟨a, ha, hq⟩ := List.any_eq_true.1 h
    cases hf : pre.find? (isHas x.Owner x.Right_Type x.Right_Peer x.Right_Code) with
    | some y => rfl
    | none => exact absurd hq (by simpa using List.find?_eq_none.1 hf a ha)
  | false =>
    rw [List.find?_eq_none.2 fun a ha => by simpa using List.any_eq_false.1 h a ha]
    rfl
theorem held_set (pre : List Cap18) (x : Cap18) (h : pre.any (isHas x.Owner x.Right_Type x.Right_Peer x.Right_Code) = false) : mset keq18_held (pre.map fun y => (heldK y, true)) (heldK x) true = (pre ++ [x]).map fun y => (heldK y, true) := by
  have hh : ∀ y ∈ pre.map fun y => (heldK y, true), keq18_held (heldK x) y.1 = false := by
    intro y hy
    obtain ⟨z, hz, rfl⟩ := List.mem_map.1 hy
    have := List.any_eq_false.1 h z hz
    simp only [isHas] at this
    simp only [keq18_held, heldK, Bool.and_true]
    rw [ieq_comm x.Owner, ieq_comm x.Right_Type, ieq_comm x.Right_Peer, ieq_comm x.Right_Code]
    simpa using this
  rw [mset_new hh, List.map_append]
  rfl
theorem right_find (pre : List Cap18) (k : Int) : mfind keq18_i64 (pre.map fun y => (y.ID, rightK y)) k = (pre.find? fun p => ieq p.ID k).map rightK := by
  rw [mfind_map]
  have e : (fun (y : Cap18) => keq18_i64 k y.ID) = fun p => ieq p.ID k := by
    funext y
    simp only [keq18_i64, Bool.and_true]
    rw [ieq_comm]
  rw [e]
theorem right_set (pre : List Cap18) (x : Cap18) (h : ∀ p ∈ pre, p.ID < x.ID) : mset keq18_i64 (pre.map fun y => (y.ID, rightK y)) x.ID (rightK x) = (pre ++ [x]).map fun y => (y.ID, rightK y) := by
  have hh : ∀ y ∈ pre.map fun y => (y.ID, rightK y), keq18_i64 x.ID y.1 = false := by
    intro y hy
    obtain ⟨z, hz, rfl⟩ := List.mem_map.1 hy
    have := h z hz
    simp only [keq18_i64, Bool.and_true, ieq_f]
    omega
  rw [mset_new hh, List.map_append]
  rfl

theorem valid_caps (fu : Nat) (n : Int) (l : List Cap18) (hf : l.length < fu) (hl : l.length < 1000000000000) : s18 fu n l = some (validB n l, ()) := by
  unfold s18
  have := iter_walk (step := t18_0 fu) (fu := fu) l (fun i (_ : Unit) => ((), ((), ((), (lastID (l.take i), (l, ((dlen l), ((i : Int), ((l.take i).map (fun y => (heldK y, true)), ((l.take i).map (fun y => (y.ID, rightK y)), ((n, (l, ())), ())))))))))))
    (fun i x _ => if okAt n (l.take i) x then .inl () else .inr (.inr (.inl (false, ((l.take i).map (fun y => (heldK y, true)), ((l.take i).map (fun y => (y.ID, rightK y)), ((n, (l, ())), ())))))))
    (fun i _ => ∀ p ∈ l.take i, p.ID ≤ lastID (l.take i)) (fun _ => .inl ((), (l.map (fun y => (heldK y, true)), (l.map (fun y => (y.ID, rightK y)), ((n, (l, ())), ()))))) () hf (by simp)
    (fun i x _ hi hI => by
      have h1 := getElem?_lt hi
      have hx : okAt n (l.take i) x = true → ∀ p ∈ l.take i, p.ID < x.ID := fun h p hp => by
        have := okAt_last h
        have := hI p hp
        omega
      have step : t18_0 fu ((), ((), ((), (lastID (l.take i), (l, ((dlen l), ((i : Int), ((l.take i).map (fun y => (heldK y, true)), ((l.take i).map (fun y => (y.ID, rightK y)), ((n, (l, ())), ())))))))))) =
          some (if okAt n (l.take i) x then .inl ((), ((), ((), (lastID (l.take (i + 1)), (l, ((dlen l), (((i + 1 : Nat) : Int), ((l.take (i + 1)).map (fun y => (heldK y, true)), ((l.take (i + 1)).map (fun y => (y.ID, rightK y)), ((n, (l, ())), ())))))))))) else
            .inr (.inr (.inl (false, ((l.take i).map (fun y => (heldK y, true)), ((l.take i).map (fun y => (y.ID, rightK y)), ((n, (l, ())), ()))))))) := by
        simp only [t18_0, dlen_def, dat_nat, hi, ilt_len h1, iadd1 (show i < 9223372036854775807 by omega), proper_caps]
        rw [show (⟨x.Owner, x.Right_Type, x.Right_Peer, x.Right_Code⟩ : Held18) = heldK x from rfl, show (⟨x.Right_Type, x.Right_Peer, x.Right_Code⟩ : Right18) = rightK x from rfl, held_find, right_find]
        generalize hpre : l.take i = pre at hx ⊢
        rw [take_succ_of hi, hpre, lastID_snoc]
        cases hok : okAt n pre x with
        | true =>
          have hok' := hok
          simp only [okAt, parOK, Bool.and_eq_true, Bool.not_eq_true'] at hok'
          obtain ⟨a1, a2, a3, a4, a5, a6, a7⟩ := hok'
          simp only [a1, a2, a3, a4, a5, a7, Bool.false_eq_true, if_false, if_true, held_set _ _ a7, right_set _ _ (hx hok)]
          cases hp : ieq x.Parent 0 with
          | true =>
            rw [hp, if_pos rfl] at a6
            cases hf : pre.find? (fun p => ieq p.ID x.Parent) <;> simp [a6]
          | false =>
            rw [hp, if_neg (by simp)] at a6
            cases hf : pre.find? (fun p => ieq p.ID x.Parent) with
            | none => rw [hf] at a6; cases a6
            | some p =>
              rw [hf] at a6
              simp only [rEq, Bool.and_eq_true] at a6
              simp [rightK, a6]
        | false =>
          simp only [okAt, parOK] at hok
          cases b1 : ile x.ID (lastID pre) <;> simp only [b1, Bool.not_false, Bool.not_true, Bool.true_and, Bool.false_and, Bool.false_eq_true, if_false] at hok ⊢
          cases b2 : ile n x.ID <;> simp only [b2, Bool.not_false, Bool.not_true, Bool.true_and, Bool.false_and] at hok ⊢
          cases b3 : properB x.Right_Type x.Right_Peer x.Right_Code <;> simp only [b3, Bool.not_false, Bool.not_true, Bool.true_and, Bool.false_and] at hok ⊢
          cases b4 : ilt x.Owner 0 <;> simp only [b4, Bool.not_false, Bool.not_true, Bool.true_and, Bool.false_and] at hok ⊢
          cases b5 : ile 32 x.Owner <;> simp only [b5, Bool.not_false, Bool.not_true, Bool.true_and, Bool.false_and] at hok ⊢
          cases b7 : pre.any (isHas x.Owner x.Right_Type x.Right_Peer x.Right_Code) <;> simp only [b7, Bool.not_false, Bool.not_true, Bool.and_true, Bool.false_eq_true, if_false, if_true] at hok ⊢
          · cases hp : ieq x.Parent 0 with
            | true =>
              rw [hp, if_pos rfl] at hok
              cases hf : pre.find? (fun p => ieq p.ID x.Parent) <;> simp [hok]
            | false =>
              rw [hp, if_neg (by simp)] at hok
              cases hf : pre.find? (fun p => ieq p.ID x.Parent) with
              | none => simp
              | some p =>
                rw [hf] at hok
                simp only [rEq] at hok
                simp only [Option.map_some, rightK]
                cases c1 : ieq p.Right_Type x.Right_Type <;> cases c2 : ieq p.Right_Peer x.Right_Peer <;> cases c3 : ieq p.Right_Code x.Right_Code <;> simp_all
      simp only [step]
      by_cases hok : okAt n (l.take i) x = true
      · simp only [hok, if_true]
        refine ⟨trivial, fun p hp => ?_⟩
        rw [take_succ_of hi] at hp ⊢
        rw [lastID_snoc]
        rcases List.mem_append.1 hp with h | h
        · have := hx hok p h; omega
        · simp at h; subst h; omega
      · simp only [hok, if_false]
        simp)
    (fun s hI => by simp only [t18_0, dlen_def, ilt_end, List.take_length])
  have hall := validL_all n l l 0 rfl
  simp only [List.take_zero, List.map_nil, Int.natCast_zero, show lastID [] = 0 from rfl] at this hall
  rw [this]
  simp only [validB]
  rcases walk_check (fun i x => okAt n (l.take i) x) (fun i (_ : Cap18) => (.inr (.inl (false, ((l.take i).map (fun y => (heldK y, true)), ((l.take i).map (fun y => (y.ID, rightK y)), ((n, (l, ())), ()))))) : (Unit × List (Held18 × Bool) × List (Int × Right18) × (Int × List Cap18 × Unit) × Unit) ⊕ (Bool × List (Held18 × Bool) × List (Int × Right18) × (Int × List Cap18 × Unit) × Unit) ⊕ Empty)) l 0 with ⟨w1, w2⟩ | ⟨w1, j, y, w2⟩
  · rw [w2, ← hall, w1]
    simp only [dlen_def, Bool.true_and]
    cases h1 : ile (l.length : Int) 400 with
    | false =>
      rw [ile_f] at h1
      rw [decide_eq_false (by omega)]
      rfl
    | true =>
      rw [ile_iff] at h1
      rw [decide_eq_true (by omega)]
      cases h2 : ile 1 n <;> simp
  · rw [w2, ← hall, w1]
    simp
end Go.G
