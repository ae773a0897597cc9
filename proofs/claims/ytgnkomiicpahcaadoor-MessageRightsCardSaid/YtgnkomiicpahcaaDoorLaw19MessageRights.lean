import Derived.Test.YtgnkomiicpahcaaDoorP19f
import Derived.Test.YtgnkomiicpahcaaDoorGE5
import Derived.Test.YtgnkomiicpahcaaDoorP19h0
import Derived.Test.YtgnkomiicpahcaaDoorP19h1
import Derived.Test.YtgnkomiicpahcaaDoorP19h2
import Derived.Test.YtgnkomiicpahcaaDoorOn19L9
set_option linter.unusedVariables false
set_option linter.unusedSimpArgs false
namespace Go.G
set_option maxRecDepth 100000
set_option maxHeartbeats 4000000
def hasB (t y p c : Int) : Bool := bootL.any (isHas t y p c)
theorem has_boot (fu : Nat) (hf : 300 < fu) (t y p c : Int) : s26 fu 168 bootL t y p c = some (hasB t y p c, ()) := by
  have := bootlen19
  exact has_caps fu 168 bootL t y p c (by omega) (by omega)
theorem rights_ok (fu : Nat) (hf : 300 < fu) (a : Int) (L : List Right19) (hl : L.length < 300) (h : ∀ r ∈ L, hasB a r.Type_ r.Peer r.Code = true) : iter (t9_4 fu) fu (a, ((), (L, ((dlen L), (0, ((168, (bootL, ())), ())))))) = some (.inl (L, ((168, (bootL, ())), ()))) := by
  rcases iter_first (step := t9_4 fu) L (fun j => (a, ((), (L, ((dlen L), ((j : Int), ((168, (bootL, ())), ()))))))) (fun r => !hasB a r.Type_ r.Peer r.Code) (fun _ _ => .inr (.inl (false, ((168, (bootL, ())), ())))) (.inl (L, ((168, (bootL, ())), ()))) (fu := fu) (by omega)
      (fun i x hi hq => by
        have h1 := getElem?_lt hi
        have hq' : hasB a x.Type_ x.Peer x.Code = true := by simpa using hq
        simp only [t9_4, dlen_def, dat_nat, hi, ilt_len h1, has_boot fu hf, hq', iadd1 (show i < 9223372036854775807 by omega), cond_true, cond_false])
      (fun i x hi hq => by
        have h1 := getElem?_lt hi
        have hq' : hasB a x.Type_ x.Peer x.Code = false := by simpa using hq
        simp only [t9_4, dlen_def, dat_nat, hi, ilt_len h1, has_boot fu hf, hq', cond_true, cond_false])
      (by simp only [t9_4, dlen_def, ilt_end, cond_false]) with ⟨i, x, h1, h2, _, h4⟩ | ⟨h1, h2⟩
  · rw [h x (List.mem_of_getElem? h1)] at h2
    exact absurd h2 (by decide)
  · rw [show ((0 : Nat) : Int) = 0 from rfl] at h2
    exact h2
theorem mr_out (fu : Nat) {kind : Int} (h : kind < 1 ∨ 28 ≤ kind) (src dst seq a0 a1 a2 a3 : Int) (d : List Int) : s13 fu src dst kind seq a0 a1 a2 a3 d = some (false, ()) := by
  unfold s13
  rcases h with h | h
  · rw [ilt_iff.2 h]; rfl
  · rw [ilt_f.2 (show (1 : Int) ≤ kind by omega), ile_iff.2 h]; rfl
theorem er_out (fu : Nat) {kind : Int} (h : kind < 1 ∨ 17 ≤ kind) (task a0 a1 a2 a3 ms md mk mq m0 m1 m2 m3 : Int) (mm d : List Int) : s15 fu task kind a0 a1 a2 a3 ms md mk mq m0 m1 m2 m3 mm d = some (false, ()) := by
  unfold s15
  rw [s35_eq]
  cases clsB 99 task with
  | false => rfl
  | true =>
    rcases h with h | h
    · rw [ilt_iff.2 h]; rfl
    · rw [ilt_f.2 (show (1 : Int) ≤ kind by omega), ile_iff.2 h]; rfl
theorem er1 (fu : Nat) (task a0 a1 a2 a3 ms md mk mq m0 m1 m2 m3 : Int) (mm d : List Int) (hd : dapp 1 [] mm = some mm) (h : s15 fu task 1 a0 a1 a2 a3 ms md mk mq m0 m1 m2 m3 mm d = some (true, ())) : (1 ≤ task ∧ task ≤ 10) ∧ s13 fu task md mk 0 m0 m1 m2 m3 mm = some (true, ()) := by
  unfold s15 at h
  rw [s35_eq] at h
  cases hc : clsB 99 task with
  | false => rw [hc] at h; cases h
  | true =>
    rw [hc] at h
    rw [b99, Bool.and_eq_true, decide_eq_true_eq, decide_eq_true_eq] at hc
    refine ⟨hc, ?_⟩
    simp only [s23, hd, show ieq 1 1 = true from rfl, show ilt 1 1 = false from rfl, show ile 17 1 = false from rfl, cond_true, cond_false] at h
    generalize (bif ieq a0 0 then bif ieq a1 0 then bif ieq a2 0 then bif ieq a3 0 then true else false else false else false else false) = q at h
    cases q with
    | false => cases h
    | true =>
      rw [cond_true] at h
      cases hz : ieq (dlen d) 0 with
      | false => rw [hz] at h; cases h
      | true =>
        rw [hz, cond_true] at h
        cases hs : s13 fu task md mk 0 m0 m1 m2 m3 mm with
        | none => rw [hs] at h; cases h
        | some y => rw [hs] at h; obtain ⟨b, u⟩ := y; simp only [Option.some.injEq, Prod.mk.injEq, and_true] at h ⊢; exact h
theorem hk (a k : Int) (h1 : 1 ≤ a) (h2 : a ≤ 10) (h : k = 1 ∨ k = 4) : hasB a 2 0 k = true := by
  have : a = 1 ∨ a = 2 ∨ a = 3 ∨ a = 4 ∨ a = 5 ∨ a = 6 ∨ a = 7 ∨ a = 8 ∨ a = 9 ∨ a = 10 := by omega
  rcases h with rfl | rfl <;> rcases this with rfl | rfl | rfl | rfl | rfl | rfl | rfl | rfl | rfl | rfl <;> decide +kernel
theorem mhas (fu : Nat) (src dst mk m0 m1 m2 m3 : Int) (mm : List Int) (hs : 1 ≤ src ∧ src ≤ 10) (h : s13 fu src dst mk 0 m0 m1 m2 m3 mm = some (true, ())) : hasB src 1 dst mk = true := by
  have hk : (mk < 1 ∨ 28 ≤ mk) ∨ mk = 1 ∨ mk = 2 ∨ mk = 3 ∨ mk = 4 ∨ mk = 5 ∨ mk = 6 ∨ mk = 7 ∨ mk = 8 ∨ mk = 9 ∨ mk = 10 ∨ mk = 11 ∨ mk = 12 ∨ mk = 13 ∨ mk = 14 ∨ mk = 15 ∨ mk = 16 ∨ mk = 17 ∨ mk = 18 ∨ mk = 19 ∨ mk = 20 ∨ mk = 21 ∨ mk = 22 ∨ mk = 23 ∨ mk = 24 ∨ mk = 25 ∨ mk = 26 ∨ mk = 27 := by omega
  rcases hk with h0 | rfl | rfl | rfl | rfl | rfl | rfl | rfl | rfl | rfl | rfl | rfl | rfl | rfl | rfl | rfl | rfl | rfl | rfl | rfl | rfl | rfl | rfl | rfl | rfl | rfl | rfl | rfl
  · rw [mr_out fu h0] at h; cases h
  · exact (mr1 fu src dst 0 m0 m1 m2 m3 mm hs h).elim
  · exact (mr2 fu src dst 0 m0 m1 m2 m3 mm hs h).elim
  · exact (mr3 fu src dst 0 m0 m1 m2 m3 mm hs h).elim
  · exact (mr4 fu src dst 0 m0 m1 m2 m3 mm hs h).elim
  · exact (mr5 fu src dst 0 m0 m1 m2 m3 mm hs h).elim
  · obtain ⟨h1, h2⟩ := mr6 fu src dst 0 m0 m1 m2 m3 mm hs h
    subst h1
    rcases h2 with rfl | rfl | rfl | rfl | rfl | rfl | rfl | rfl | rfl <;> decide +kernel
  · obtain ⟨h1, h2⟩ := mr7 fu src dst 0 m0 m1 m2 m3 mm hs h
    rcases h1 with rfl | rfl | rfl | rfl | rfl | rfl | rfl | rfl | rfl <;> (subst h2; decide +kernel)
  · obtain ⟨h1, h2⟩ := mr8 fu src dst 0 m0 m1 m2 m3 mm hs h
    subst h1
    (subst h2; decide +kernel)
  · obtain ⟨h1, h2⟩ := mr9 fu src dst 0 m0 m1 m2 m3 mm hs h
    subst h1
    (subst h2; decide +kernel)
  · obtain ⟨h1, h2⟩ := mr10 fu src dst 0 m0 m1 m2 m3 mm hs h
    subst h1
    (subst h2; decide +kernel)
  · obtain ⟨h1, h2⟩ := mr11 fu src dst 0 m0 m1 m2 m3 mm hs h
    subst h1
    (subst h2; decide +kernel)
  · obtain ⟨h1, h2⟩ := mr12 fu src dst 0 m0 m1 m2 m3 mm hs h
    subst h1
    (subst h2; decide +kernel)
  · obtain ⟨h1, h2⟩ := mr13 fu src dst 0 m0 m1 m2 m3 mm hs h
    subst h1
    (subst h2; decide +kernel)
  · obtain ⟨h1, h2⟩ := mr14 fu src dst 0 m0 m1 m2 m3 mm hs h
    subst h1
    (subst h2; decide +kernel)
  · obtain ⟨h1, h2⟩ := mr15 fu src dst 0 m0 m1 m2 m3 mm hs h
    subst h1
    (subst h2; decide +kernel)
  · obtain ⟨h1, h2⟩ := mr16 fu src dst 0 m0 m1 m2 m3 mm hs h
    subst h1
    (subst h2; decide +kernel)
  · obtain ⟨h1, h2⟩ := mr17 fu src dst 0 m0 m1 m2 m3 mm hs h
    subst h1
    (subst h2; decide +kernel)
  · obtain ⟨h1, h2⟩ := mr18 fu src dst 0 m0 m1 m2 m3 mm hs h
    subst h1
    (subst h2; decide +kernel)
  · obtain ⟨h1, h2⟩ := mr19 fu src dst 0 m0 m1 m2 m3 mm hs h
    subst h1
    (subst h2; decide +kernel)
  · obtain ⟨h1, h2⟩ := mr20 fu src dst 0 m0 m1 m2 m3 mm hs h
    rcases h1 with rfl | rfl <;> (subst h2; decide +kernel)
  · obtain ⟨h1, h2⟩ := mr21 fu src dst 0 m0 m1 m2 m3 mm hs h
    subst h1
    rcases h2 with rfl | rfl <;> decide +kernel
  · obtain ⟨h1, h2⟩ := mr22 fu src dst 0 m0 m1 m2 m3 mm hs h
    subst h1
    (subst h2; decide +kernel)
  · obtain ⟨h1, h2⟩ := mr23 fu src dst 0 m0 m1 m2 m3 mm hs h
    subst h1
    (subst h2; decide +kernel)
  · obtain ⟨h1, h2⟩ := mr24 fu src dst 0 m0 m1 m2 m3 mm hs h
    subst h1
    (subst h2; decide +kernel)
  · obtain ⟨h1, h2⟩ := mr25 fu src dst 0 m0 m1 m2 m3 mm hs h
    subst h1
    (subst h2; decide +kernel)
  · obtain ⟨h1, h2⟩ := mr26 fu src dst 0 m0 m1 m2 m3 mm hs h
    rcases h1 with rfl | rfl | rfl | rfl | rfl | rfl | rfl | rfl | rfl | rfl <;> (subst h2; decide +kernel)
  · obtain ⟨h1, h2⟩ := mr27 fu src dst 0 m0 m1 m2 m3 mm hs h
    subst h1
    rcases h2 with rfl | rfl | rfl | rfl | rfl | rfl | rfl | rfl | rfl | rfl <;> decide +kernel
theorem law9 (a0 : Int) (a1_Kind : Int) (a1_Args_0 : Int) (a1_Args_1 : Int) (a1_Args_2 : Int) (a1_Args_3 : Int) (a1_Msg_Src : Int) (a1_Msg_Dst : Int) (a1_Msg_Kind : Int) (a1_Msg_Seq : Int) (a1_Msg_Args_0 : Int) (a1_Msg_Args_1 : Int) (a1_Msg_Args_2 : Int) (a1_Msg_Args_3 : Int) (a1_Msg_Data : List Int) (a1_Data : List Int) (h : WfA A9 (a0, (a1_Kind, a1_Args_0, a1_Args_1, a1_Args_2, a1_Args_3, a1_Msg_Src, a1_Msg_Dst, a1_Msg_Kind, a1_Msg_Seq, a1_Msg_Args_0, a1_Msg_Args_1, a1_Msg_Args_2, a1_Msg_Args_3, a1_Msg_Data, a1_Data, ()), ())) : s9 FU a0 a1_Kind a1_Args_0 a1_Args_1 a1_Args_2 a1_Args_3 a1_Msg_Src a1_Msg_Dst a1_Msg_Kind a1_Msg_Seq a1_Msg_Args_0 a1_Msg_Args_1 a1_Msg_Args_2 a1_Msg_Args_3 a1_Msg_Data a1_Data = some (true, ()) := by
  have _ := h
  clear h
  unfold s9
  rw [aw19]
  cases hl : ilt 2000 (dlen a1_Data) with
  | true => rfl
  | false =>
    cases hm : ilt 2000 (dlen a1_Msg_Data) with
    | true => rfl
    | false =>
      have hlen : a1_Msg_Data.length ≤ 2000 := by have := ilt_f.1 hm; rw [dlen_def] at this; omega
      have hd : dapp 1 [] a1_Msg_Data = some a1_Msg_Data := dapp_nil (by omega) (by omega)
      have tot : ∃ b, s15 FU a0 a1_Kind a1_Args_0 a1_Args_1 a1_Args_2 a1_Args_3 a1_Msg_Src a1_Msg_Dst a1_Msg_Kind a1_Msg_Seq a1_Msg_Args_0 a1_Msg_Args_1 a1_Msg_Args_2 a1_Msg_Args_3 a1_Msg_Data a1_Data = some (b, ()) := by
        obtain ⟨b, e1, e2⟩ := eff_all FU a1_Kind a0 a1_Args_0 a1_Args_1 a1_Args_2 a1_Args_3 a1_Msg_Src a1_Msg_Dst a1_Msg_Kind a1_Msg_Seq a1_Msg_Args_0 a1_Msg_Args_1 a1_Msg_Args_2 a1_Msg_Args_3 a1_Msg_Data a1_Data hd
        exact ⟨b, e1⟩
      obtain ⟨b, hb⟩ := tot
      cases b with
      | false => rw [hb]; rfl
      | true =>
        have fin : ∀ L : List Right19, s19 FU a1_Kind a1_Args_0 a1_Args_1 a1_Args_2 a1_Args_3 a1_Msg_Src a1_Msg_Dst a1_Msg_Kind a1_Msg_Seq a1_Msg_Args_0 a1_Msg_Args_1 a1_Msg_Args_2 a1_Msg_Args_3 a1_Msg_Data a1_Data = some (L, ()) → 0 < L.length → L.length < 300 → (∀ r ∈ L, hasB a0 r.Type_ r.Peer r.Code = true) → (match (s19 FU a1_Kind a1_Args_0 a1_Args_1 a1_Args_2 a1_Args_3 a1_Msg_Src a1_Msg_Dst a1_Msg_Kind a1_Msg_Seq a1_Msg_Args_0 a1_Msg_Args_1 a1_Msg_Args_2 a1_Msg_Args_3 a1_Msg_Data a1_Data) with | .none => none | .some y3 => (match (iter (t9_4 FU) FU (a0, ((), (y3.1, ((dlen y3.1), (0, ((168, (bootL, ())), ()))))))) with | .none => none | .some y7 => (match y7 with | .inl y8 => (some ((ilt 0 (dlen y8.1)), ())) | .inr y9 => (match y9 with | .inl y10 => (some (y10.1, ())) | .inr y11 => (Empty.elim y11))))) = some (true, ()) := by
          intro L e1 e2 e3 e4
          rw [e1]
          simp only
          rw [rights_ok FU (by decide) a0 L e3 e4]
          simp only
          rw [show ilt 0 (dlen L) = true from ilt_iff.2 (by rw [dlen_def]; omega)]
        rw [hb]
        rw [boot19]
        simp only [cond_true, cond_false]
        have hk : (a1_Kind < 1 ∨ 17 ≤ a1_Kind) ∨ a1_Kind = 1 ∨ a1_Kind = 3 ∨ a1_Kind = 4 ∨ a1_Kind = 2 ∨ (5 ≤ a1_Kind ∧ a1_Kind ≤ 16) := by omega
        rcases hk with hk | rfl | rfl | rfl | rfl | hk
        · rw [er_out FU hk] at hb; cases hb
        · obtain ⟨h1, h2⟩ := er1 _ _ _ _ _ _ _ _ _ _ _ _ _ _ _ _ hd hb
          exact fin [⟨2, 0, 1⟩, ⟨1, a1_Msg_Dst, a1_Msg_Kind⟩] rfl (Nat.zero_lt_succ _) (by simp only [List.length_cons, List.length_nil]; omega) (by
            intro r hr
            rcases List.mem_cons.1 hr with rfl | hr
            · exact hk a0 1 h1.1 h1.2 (.inl rfl)
            · rcases List.mem_cons.1 hr with rfl | hr
              · exact mhas _ _ _ _ _ _ _ _ _ h1 h2
              · cases hr)
        · have h1 := er3 _ _ _ _ _ _ _ _ _ _ _ _ _ _ _ _ hb
          exact fin [⟨2, 0, 3⟩, ⟨3, 0, a1_Args_0⟩] rfl (Nat.zero_lt_succ _) (by simp only [List.length_cons, List.length_nil]; omega) (by
            intro r hr
            rcases List.mem_cons.1 hr with rfl | hr
            · rcases h1 with ⟨rfl, rfl⟩ | ⟨rfl, rfl⟩ | ⟨rfl, rfl⟩ <;> decide +kernel
            · rcases List.mem_cons.1 hr with rfl | hr
              · rcases h1 with ⟨rfl, rfl⟩ | ⟨rfl, rfl⟩ | ⟨rfl, rfl⟩ <;> decide +kernel
              · cases hr)
        · have h1 := er4 _ _ _ _ _ _ _ _ _ _ _ _ _ _ _ _ hb
          exact fin [⟨2, 0, 4⟩] rfl (Nat.zero_lt_succ _) (by simp only [List.length_cons, List.length_nil]; omega) (by
            intro r hr
            rcases List.mem_cons.1 hr with rfl | hr
            · exact hk a0 4 (by omega) (by omega) (.inr rfl)
            · cases hr)
        · have h1 := er2 _ _ _ _ _ _ _ _ _ _ _ _ _ _ _ _ hb
          exact fin [⟨2, 0, 2⟩] rfl (Nat.zero_lt_succ _) (by simp only [List.length_cons, List.length_nil]; omega) (by
            intro r hr
            rcases List.mem_cons.1 hr with rfl | hr
            · rcases h1 with rfl | rfl | rfl | rfl <;> decide +kernel
            · cases hr)
        · have hk' : a1_Kind = 5 ∨ a1_Kind = 6 ∨ a1_Kind = 7 ∨ a1_Kind = 8 ∨ a1_Kind = 9 ∨ a1_Kind = 10 ∨ a1_Kind = 11 ∨ a1_Kind = 12 ∨ a1_Kind = 13 ∨ a1_Kind = 14 ∨ a1_Kind = 15 ∨ a1_Kind = 16 := by omega
          rcases hk' with rfl | rfl | rfl | rfl | rfl | rfl | rfl | rfl | rfl | rfl | rfl | rfl
          · have h1 := er5 _ _ _ _ _ _ _ _ _ _ _ _ _ _ _ _ hb
            exact fin [⟨2, 0, 5⟩] rfl (Nat.zero_lt_succ _) (by simp only [List.length_cons, List.length_nil]; omega) (by
              intro r hr
              rcases List.mem_cons.1 hr with rfl | hr
              · subst h1; decide +kernel
              · cases hr)
          · have h1 := er6 _ _ _ _ _ _ _ _ _ _ _ _ _ _ _ _ hb
            exact fin [⟨2, 0, 6⟩] rfl (Nat.zero_lt_succ _) (by simp only [List.length_cons, List.length_nil]; omega) (by
              intro r hr
              rcases List.mem_cons.1 hr with rfl | hr
              · subst h1; decide +kernel
              · cases hr)
          · have h1 := er7 _ _ _ _ _ _ _ _ _ _ _ _ _ _ _ _ hb
            exact fin [⟨2, 0, 7⟩] rfl (Nat.zero_lt_succ _) (by simp only [List.length_cons, List.length_nil]; omega) (by
              intro r hr
              rcases List.mem_cons.1 hr with rfl | hr
              · subst h1; decide +kernel
              · cases hr)
          · have h1 := er8 _ _ _ _ _ _ _ _ _ _ _ _ _ _ _ _ hb
            exact fin [⟨2, 0, 8⟩] rfl (Nat.zero_lt_succ _) (by simp only [List.length_cons, List.length_nil]; omega) (by
              intro r hr
              rcases List.mem_cons.1 hr with rfl | hr
              · subst h1; decide +kernel
              · cases hr)
          · have h1 := er9 _ _ _ _ _ _ _ _ _ _ _ _ _ _ _ _ hb
            exact fin [⟨2, 0, 9⟩] rfl (Nat.zero_lt_succ _) (by simp only [List.length_cons, List.length_nil]; omega) (by
              intro r hr
              rcases List.mem_cons.1 hr with rfl | hr
              · subst h1; decide +kernel
              · cases hr)
          · have h1 := er10 _ _ _ _ _ _ _ _ _ _ _ _ _ _ _ _ hb
            exact fin [⟨2, 0, 10⟩] rfl (Nat.zero_lt_succ _) (by simp only [List.length_cons, List.length_nil]; omega) (by
              intro r hr
              rcases List.mem_cons.1 hr with rfl | hr
              · subst h1; decide +kernel
              · cases hr)
          · have h1 := er11 _ _ _ _ _ _ _ _ _ _ _ _ _ _ _ _ hb
            exact fin [⟨2, 0, 11⟩] rfl (Nat.zero_lt_succ _) (by simp only [List.length_cons, List.length_nil]; omega) (by
              intro r hr
              rcases List.mem_cons.1 hr with rfl | hr
              · subst h1; decide +kernel
              · cases hr)
          · have h1 := er12 _ _ _ _ _ _ _ _ _ _ _ _ _ _ _ _ hb
            exact fin [⟨2, 0, 12⟩] rfl (Nat.zero_lt_succ _) (by simp only [List.length_cons, List.length_nil]; omega) (by
              intro r hr
              rcases List.mem_cons.1 hr with rfl | hr
              · subst h1; decide +kernel
              · cases hr)
          · have h1 := er13 _ _ _ _ _ _ _ _ _ _ _ _ _ _ _ _ hb
            exact fin [⟨2, 0, 13⟩] rfl (Nat.zero_lt_succ _) (by simp only [List.length_cons, List.length_nil]; omega) (by
              intro r hr
              rcases List.mem_cons.1 hr with rfl | hr
              · subst h1; decide +kernel
              · cases hr)
          · have h1 := er14 _ _ _ _ _ _ _ _ _ _ _ _ _ _ _ _ hb
            exact fin [⟨2, 0, 14⟩] rfl (Nat.zero_lt_succ _) (by simp only [List.length_cons, List.length_nil]; omega) (by
              intro r hr
              rcases List.mem_cons.1 hr with rfl | hr
              · subst h1; decide +kernel
              · cases hr)
          · have h1 := er15 _ _ _ _ _ _ _ _ _ _ _ _ _ _ _ _ hb
            exact fin [⟨2, 0, 15⟩] rfl (Nat.zero_lt_succ _) (by simp only [List.length_cons, List.length_nil]; omega) (by
              intro r hr
              rcases List.mem_cons.1 hr with rfl | hr
              · subst h1; decide +kernel
              · cases hr)
          · have h1 := er16 _ _ _ _ _ _ _ _ _ _ _ _ _ _ _ _ hb
            exact fin [⟨2, 0, 16⟩] rfl (Nat.zero_lt_succ _) (by simp only [List.length_cons, List.length_nil]; omega) (by
              intro r hr
              rcases List.mem_cons.1 hr with rfl | hr
              · subst h1; decide +kernel
              · cases hr)
end Go.G
