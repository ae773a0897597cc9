import Derived.Test.YtiifmafolmmelaaP20f
set_option linter.unusedVariables false
set_option linter.unusedSimpArgs false
namespace Go.G
set_option maxRecDepth 100000
set_option maxHeartbeats 4000000

/-- A loop that counts down. -/
theorem iter_down {X ε : Type} {step : X → Option (X ⊕ ε)} (st : Nat → X) (e : ε) : ∀ (n fu : Nat), n < fu → (∀ i, i < n → step (st (i + 1)) = some (.inl (st i))) → step (st 0) = some (.inr e) → iter step fu (st n) = some e
  | 0, fu + 1, _, _, he => by simp only [iter]; rw [he]
  | n + 1, fu + 1, hf, hs, he => by
    simp only [iter]
    rw [hs n (by omega)]
    exact iter_down st e n fu (by omega) (fun i hi => hs i (by omega)) he
  | 0, 0, hf, _, _ => by omega
  | n + 1, 0, hf, _, _ => by omega

def wseq (x : Msg20) (s : Int) : Msg20 := ⟨x.Src, x.Dst, x.Kind, s, x.Args_0, x.Args_1, x.Args_2, x.Args_3, x.Data⟩
/-- A message of the pair, its number raised. -/
def bmp (m y : Msg20) : Msg20 := bif ofP y m then wseq y (iadd .i64 y.Seq 1) else y
/-- The first number of the pair. -/
def seqU (m : Msg20) (n0 : Int) (r : List Msg20) : Int := match r.find? (fun y => ofP y m) with
  | some y => y.Seq
  | none => n0
theorem seqU_cons (m : Msg20) (n0 : Int) (y : Msg20) (r : List Msg20) : seqU m n0 (y :: r) = bif ofP y m then y.Seq else seqU m n0 r := by
  unfold seqU
  rw [List.find?_cons]
  cases ofP y m <;> rfl
def atD (q : List Msg20) (d : Int) : Nat := q.findIdx (isD d)
def urgQ (q : List Msg20) (x : Msg20) : List Msg20 := (q.map (bmp x)).take (atD q x.Dst) ++ wseq x (seqU x x.Seq q) :: (q.map (bmp x)).drop (atD q x.Dst)
def urgF (q : List Msg20) (p : List Pair20) (m : Msg20) : (List Msg20 × List Pair20 × Unit) × Int × Unit :=
  bif ieq (sendF q p m).2.1 0 then (stT (urgQ q (nmsg p m)) (sendF q p m).1.2.1, 0, ()) else sendF q p m

theorem of_isD {x y : Msg20} (h : ofP y x = true) : isD x.Dst y = true := by
  unfold ofP at h
  rw [Bool.and_eq_true] at h
  exact h.2

/-- Without a message to the receiver nothing is raised. -/
theorem urgQ_none {q : List Msg20} {x : Msg20} (h : ∀ y ∈ q, isD x.Dst y = false) : urgQ q x = q ++ [x] := by
  have h1 : ∀ y ∈ q, ofP y x = false := fun y hy => by
    cases ho : ofP y x with
    | false => rfl
    | true => have := h y hy; rw [of_isD ho] at this; cases this
  have h2 : q.map (bmp x) = q := by
    conv => rhs; rw [← List.map_id q]
    refine List.map_congr_left fun y hy => ?_
    unfold bmp
    rw [h1 y hy]
    rfl
  have h3 : seqU x x.Seq q = x.Seq := by
    unfold seqU
    rw [List.find?_eq_none.2 (fun y hy => by simp [h1 y hy])]
  have h4 : atD q x.Dst = q.length := List.findIdx_eq_length.2 (fun y hy => by simp [h y hy])
  unfold urgQ
  rw [h2, h3, h4, List.take_length, List.drop_length]
  rfl

theorem atD_first {q : List Msg20} {d : Int} {i : Nat} {x : Msg20} (h : q[i]? = some x) (hx : isD d x = true) (hb : ∀ j b, j < i → q[j]? = some b → isD d b = false) : atD q d = i := by
  have hlt := getElem?_lt h
  have hx' : isD d q[i] = true := by
    rw [List.getElem?_eq_getElem hlt] at h
    cases h
    exact hx
  refine (List.findIdx_eq hlt).2 ⟨hx', fun j hj => ?_⟩
  exact hb j _ hj (List.getElem?_eq_getElem (by omega))

/-- The loop of Urgent. -/
theorem back23 (fu : Nat) (q : List Msg20) (x0 : Msg20) (hf : q.length < fu) (hl : q.length < 1000000) :
    iter (t23_27 fu) fu (isub .i64 (q.length : Int) 1, (q ++ [x0], x0)) = some (q.map (bmp x0) ++ [x0], wseq x0 (seqU x0 x0.Seq q)) := by
  have hsub : ∀ j : Nat, j ≤ q.length → isub .i64 (j : Int) 1 = (j : Int) - 1 := fun j hj => isub64 (by omega)
  have := iter_down (step := t23_27 fu) (fun j => ((j : Int) - 1, (q.take j ++ (q.drop j).map (bmp x0) ++ [x0], wseq x0 (seqU x0 x0.Seq (q.drop j))))) (q.map (bmp x0) ++ [x0], wseq x0 (seqU x0 x0.Seq q)) q.length fu hf
    (fun i hi => by
      obtain ⟨y, hy⟩ : ∃ y, q[i]? = some y := ⟨_, List.getElem?_eq_getElem hi⟩
      have ei : ((i + 1 : Nat) : Int) - 1 = (i : Int) := by omega
      have htk : q.take (i + 1) = q.take i ++ [y] := by rw [List.take_add_one, hy]; rfl
      have hdr : q.drop i = y :: q.drop (i + 1) := by
        rw [List.drop_eq_getElem_cons hi]
        rw [List.getElem?_eq_getElem hi] at hy
        cases hy
        rfl
      have hlen : (q.take i).length = i := by rw [List.length_take]; omega
      have hat : (q.take (i + 1) ++ (q.drop (i + 1)).map (bmp x0) ++ [x0])[i]? = some y := by
        rw [List.getElem?_append_left (by simp; omega), List.getElem?_append_left (by simp; omega), List.getElem?_take_of_lt (by omega)]
        exact hy
      have hset : ∀ z, dset (q.take (i + 1) ++ (q.drop (i + 1)).map (bmp x0) ++ [x0]) (i : Int) z = q.take i ++ z :: (q.drop (i + 1)).map (bmp x0) ++ [x0] := fun z => by
        unfold dset
        rw [Int.toNat_natCast, htk]
        simp [List.set_append, hlen]
      simp only [t23_27, ei, show ile 0 (i : Int) = true from ile_iff.2 (by omega), dat_nat, hat, hset, hsub i (by omega)]
      rw [hdr]
      simp only [List.map_cons, seqU_cons]
      unfold bmp ofP wseq
      simp only
      cases h1 : ieq y.Src x0.Src with
      | false => simp only [Bool.false_and, cond_false, htk, List.append_assoc, List.cons_append, List.nil_append]
      | true =>
        cases h2 : ieq y.Dst x0.Dst with
        | false => simp only [Bool.true_and, cond_false, htk, List.append_assoc, List.cons_append, List.nil_append]
        | true => simp only [Bool.and_self, cond_true])
    (by simp [t23_27, ile])
  simp only [List.take_length, List.drop_length, List.map_nil, List.append_nil] at this
  rw [hsub _ (Nat.le_refl _)]
  exact this
end Go.G
