import Derived.Test.YtmknondapmmehaaGIns
import Derived.Test.YtmknondapmmehaaGPut
set_option linter.unusedVariables false
set_option linter.unusedSimpArgs false
/-! slices.Insert of one element into a row that is one's own. -/
namespace Go.G
open Go.Proofs
variable {T : Uni}

def dins {α : Type} (bytes : Nat) (l : List α) (i : Int) (x : α) : Option (List α) :=
  if 0 ≤ i ∧ i ≤ l.length ∧ (l.length + 1) * bytes ≤ 140737488355328 ∧ l.length + 1 ≤ 9223372036854775807 then some (l.take i.toNat ++ x :: l.drop i.toNat) else none

/-- What the walk over an instance's text shows. -/
structure InsText (P : Program) (f : FuncId) (S V I e e' K bytes : Nat) (u : T.U) : Prop where
  app : AppT P u S e bytes
  hv : P.underlying V = some (.slice e')
  hi : ∃ kn, P.underlying I = some (.int kn)
  hK : K = T.size u
  fn : isFn P f = true
  shift : ∀ (b off n c i vb voff vc : Nat) (cs vs : List Value) (w : World), i < n → n + 1 ≤ c → n + 1 ≤ 9223372036854775807 → vb ≠ b → cs.length = n * K → vs.length = K →
    (∀ j v, cs[j]? = some v → w.cell? ⟨b, off + j, none⟩ = some v) → (∀ j, j < (n + 1) * K → (w.cell? ⟨b, off + j, none⟩).isSome = true) → (∀ j, j < (n + 1) * K → w.frozen? ⟨b, off + j, none⟩ = false) →
    (∀ j v, vs[j]? = some v → w.cell? ⟨vb, voff + j, none⟩ = some v) → (∀ v ∈ cs, v.oneCell' = true) → (∀ v ∈ vs, v.oneCell' = true) →
    ∀ (tA tB : TypeId) (kA kB : Nat), w.shape? vb = some (tA, kA) → w.shape? b = some (tB, kB) → kB ≠ 0 → w.frozen? ⟨vb, voff, none⟩ = false → w.frozen? ⟨vb, kA, none⟩ = false →
    Calls P f #[.slice (some ⟨b, off, none⟩) n c, .int .i64 i, .slice (some ⟨vb, voff, none⟩) 1 vc] w fun r w' =>
      r = .returned (.slice (some ⟨b, off, none⟩) (n + 1) c) ∧ w' = (w.drew.setCells b (off + (i + 1) * K) (cs.drop (i * K))).setCells b (off + i * K) vs
  fin : ∀ (A B : Option Addr) (n c vc : Nat) (w w' : World) (r : Value), n ≤ c → (∀ ty, (Builtin.append_ #[S, V] ty #[.slice A n c, .slice B 1 vc]).run P w = .ok r w') →
    Calls P f #[.slice A n c, .int .i64 n, .slice B 1 vc] w fun x w1 => x = .returned r ∧ w1 = w'
  grow : ∀ (b off n c i vb voff vc G : Nat) (cs vs : List Value) (w : World) (row : Array Value), i < n → n ≤ c → n + 1 ≤ 9223372036854775807 → c < n + 1 → b < w.heap.size → vb < w.heap.size → cs.length = n * K → vs.length = K →
    (∀ j v, cs[j]? = some v → w.cell? ⟨b, off + j, none⟩ = some v) → (∀ j v, vs[j]? = some v → w.cell? ⟨vb, voff + j, none⟩ = some v) → (∀ v ∈ cs, v.oneCell' = true) → (∀ v ∈ vs, v.oneCell' = true) →
    n + 1 ≤ G → (n + 1) * K ≤ row.size →
    (∀ ty, (Builtin.append_ #[S, I] ty #[.slice (some ⟨b, off, none⟩) i c, .int .i64 ((n : Int) + 1 - (i : Int))]).run P w = .ok (.slice (some ⟨w.heap.size, 0, none⟩) (n + 1) G) (w.drew.alloc (.cells row e))) →
    Calls P f #[.slice (some ⟨b, off, none⟩) n c, .int .i64 i, .slice (some ⟨vb, voff, none⟩) 1 vc] w fun r w' =>
      r = .returned (.slice (some ⟨w.heap.size, 0, none⟩) (n + 1) G) ∧ w' = (((w.alloc (.cells row e)).drew.setCells w.heap.size (i * K) vs).drew).setCells w.heap.size ((i + 1) * K) (cs.drop (i * K))

theorem setCells_row {w : World} {b o : Nat} {vs : List Value} {c : Array Value} {t : TypeId} (h : w.heap[b]? = some (.cells c t (0, 0))) (hl : o + vs.length ≤ c.size) (h1 : ∀ v ∈ vs, v.oneCell' = true) :
    w.setCells b o vs = w.setRow b (c.toList.take o ++ vs ++ c.toList.drop (o + vs.length)).toArray := by
  let P : Program := default
  have a1 := run_storeCells_at P b o t vs 0 c w h (by omega) h1
  have a2 := run_storeCells_cells (P := P) b o vs 0 w (fun j hj => by simp only [World.cell?, h]; simp; omega) (fun j hj => by simp [World.frozen?, h]) h1
  rw [a1] at a2
  simp only [Nat.add_zero] at a2
  injection a2 with _ h2
  exact h2.symm

theorem put_get (c : Array Value) (o : Nat) (us : List Value) (hl : o + us.length ≤ c.size) (k : Nat) :
    (c.toList.take o ++ us ++ c.toList.drop (o + us.length)).toArray[k]? = if k < o then c[k]? else if k < o + us.length then us[k - o]? else c[k]? := by
  rw [List.getElem?_toArray]
  by_cases hk : k < o
  · rw [if_pos hk, List.append_assoc, List.getElem?_append_left (by simp; omega), List.getElem?_take_of_lt hk, Array.getElem?_toList]
  · rw [if_neg hk]
    by_cases hk2 : k < o + us.length
    · rw [if_pos hk2, List.getElem?_append_left (by simp; omega), List.getElem?_append_right (by simp; omega)]
      congr 1
      simp; omega
    · rw [if_neg hk2, List.getElem?_append_right (by simp; omega), List.getElem?_drop, Array.getElem?_toList]
      congr 1
      simp; omega

/-- Cells laid into a block: the block after them. -/
theorem setCells_block {w : World} {b o : Nat} {vs : List Value} {c : Array Value} {t : TypeId} (h : w.heap[b]? = some (.cells c t (0, 0))) (hl : o + vs.length ≤ c.size) (h1 : ∀ v ∈ vs, v.oneCell' = true) :
    ∃ c', (w.setCells b o vs).heap[b]? = some (.cells c' t (0, 0)) ∧ c'.size = c.size ∧ (∀ k, c'[k]? = if k < o then c[k]? else if k < o + vs.length then vs[k - o]? else c[k]?) ∧
      (∀ k, k ≠ b → (w.setCells b o vs).heap[k]? = w.heap[k]?) ∧ (w.setCells b o vs).heap.size = w.heap.size ∧ (w.setCells b o vs).os = w.os ∧ (w.setCells b o vs).tape = w.tape ∧ (w.setCells b o vs).output = w.output := by
  rw [setCells_row h hl h1]
  exact ⟨_, setRow_heap _ _ _ _ _ _ h, by simp; omega, put_get c o vs hl, fun k hk => setRow_other _ _ _ _ hk, setRow_size _ _ _, rfl, rfl, rfl⟩

theorem Evo.ofNew {γ : Gh} {w w' : World} {n : Nat} {g : GV} (hn : γ.bt n = none) (hsz : w'.heap.size = w.heap.size + 1) (hs : ∀ b, b < w.heap.size → w'.heap[b]? = w.heap[b]?) (h1 : w'.os = w.os) (h2 : w'.tape = w.tape) (h3 : w'.output = w.output) :
    Evo (fun _ => False) γ w (γ.newBlk w.heap.size n g 0) w' where
  size := by omega
  mono := fun b hb => by simp only [Gh.newBlk]; rw [if_neg (by omega)]; exact Nat.le_refl _
  low := fun b i hb _ => by unfold World.cell?; rw [hs b hb]
  os := h1
  tape := h2
  output := h3
  same := fun b hb _ => ⟨hs b hb, by simp only [Gh.newBlk]; rw [if_neg (by omega)], by simp only [Gh.newBlk]; rw [if_neg (by omega)]⟩
  bt := fun k v hv => by
    simp only [Gh.newBlk]
    rw [if_neg (by rintro rfl; rw [hn] at hv; cases hv)]
    exact hv

/-- The row with one more. -/
theorem ins_flat {imm : Nat → Nat} {w : World} {u : T.U} {l : List (T.El u)} {x : T.El u} {i : Nat} {cs vs : List Value} (hc : RepDs imm w (l.flatMap (T.enc u)) cs) (hv : RepDs imm w (T.enc u x) vs) (hi : i ≤ l.length) :
    RepDs imm w ((l.take i ++ x :: l.drop i).flatMap (T.enc u)) (cs.take (i * T.size u) ++ vs ++ cs.drop (i * T.size u)) := by
  have hh : RepDs imm w ((l.take i).flatMap (T.enc u) ++ (l.drop i).flatMap (T.enc u)) cs := by rw [← flat_app, List.take_append_drop]; exact hc
  have hs := RepDs.split hh
  have hl : ((l.take i).flatMap (T.enc u)).length = i * T.size u := by rw [flat_len, List.length_take, Nat.min_eq_left (by omega)]
  rw [hl] at hs
  rw [flat_app, List.flatMap_cons, ← List.append_assoc]
  exact (hs.1.append hv).append hs.2

theorem ins_core {C : Ctx} {f S V I e e' K bytes : Nat} {u : T.U} (hT : InsText C.P f S V I e e' K bytes u) {γ : Gh} {w : World} (hinv : Inv C.E γ w) {l : List (T.El u)} {x : T.El u} {i : Nat} {A B : Option Addr} {cap vc nm nv n : Nat} {fzv : Bool}
    (hcap : l.length ≤ cap) (hrow : RowOK γ w nm u l false A cap) (hvc : 1 ≤ vc) (hvrow : RowOK γ w nv u [x] fzv B vc) (hne : nm ≠ nv) (hi : i ≤ l.length) (hb : (l.length + 1) * bytes ≤ 140737488355328) (h63 : l.length + 1 ≤ 9223372036854775807) (hn : γ.bt n = none) (hl : C.E.loc n) :
    ∃ γ' w' A' cap', Calls C.P f #[.slice A l.length cap, .int .i64 i, .slice B 1 vc] w (fun e w1 => e = .returned (.slice A' (l.take i ++ x :: l.drop i).length cap') ∧ w1 = w') ∧ Evo (fun k => k = nm ∧ ∃ b, γ.own b = some nm) γ w γ' w' ∧
      γ'.bt n = some (.row A' (l.take i ++ x :: l.drop i).length cap') ∧ (∀ k, k ≠ n → γ'.bt k = γ.bt k) ∧ (∀ tm, FactOK γ' w' tm (.h n) (.r u (l.take i ++ x :: l.drop i) false)) ∧ (∀ b k, γ'.own b = some k → k = n ∨ γ.own b = some k) ∧ (∀ b, w'.heap.size ≤ b → γ'.own b = none) := by
  have hvs0 : SlAt γ w u [x] (.slice B [x].length vc) := ⟨B, vc, rfl, hvc, by
    rcases hvrow with ⟨_, h⟩ | ⟨b, off, c, tt, e1, _, _, _, _, _, e7⟩
    · exact .inl h
    · exact .inr ⟨b, off, e1, e7⟩⟩
  have hll : (l.take i ++ x :: l.drop i).length = l.length + 1 := by simp; omega
  by_cases hil : i = l.length
  · subst hil
    obtain ⟨γ', w', A', cap', r1, r⟩ := app_core (ty := 0) hT.app hT.hv hinv hcap hrow hvs0 hb h63 hn hl
    have he : l.take l.length ++ x :: l.drop l.length = l ++ [x] := by simp
    rw [he]
    refine ⟨γ', w', A', cap', hT.fin A B l.length cap vc w w' _ hcap fun ty => ?_, r⟩
    have : (Builtin.append_ #[S, V] ty #[.slice A l.length cap, .slice B 1 vc]).run C.P w = (Builtin.append_ #[S, V] 0 #[.slice A l.length cap, .slice B 1 vc]).run C.P w := rfl
    rw [this]
    exact r1
  · have hlt : i < l.length := by omega
    rcases hvrow with ⟨h0, _⟩ | ⟨vb, voff, cv, tv, rfl, y2, y3, y4, y5, _, y7⟩
    · omega
    rcases hrow with ⟨_, h0⟩ | ⟨b, off, c, tt, rfl, k2, k3, k4, k5, k6, k7⟩
    · subst h0; simp at hlt
    have hvb : vb ≠ b := by rintro rfl; rw [k2] at y2; cases y2; exact hne rfl
    simp only [Bool.false_eq_true, if_false, Nat.add_zero] at k6
    obtain ⟨cs, q1, q2, q3⟩ := k7.values
    obtain ⟨vs, p1, p2, p3⟩ := y7.values
    simp only [List.length_cons, List.length_nil, Nat.zero_add, Nat.one_mul] at p1
    have p3 : RepDs γ.imm w (T.enc u x) vs := by simpa using p3
    have hflat := ins_flat q3 p3 hi
    have hK := hT.hK
    subst hK
    have hiK : i * T.size u + T.size u = (i + 1) * T.size u := by rw [Nat.add_mul, Nat.one_mul]
    have hlK : l.length * T.size u + T.size u = (l.length + 1) * T.size u := by rw [Nat.add_mul, Nat.one_mul]
    have hik : i * T.size u ≤ l.length * T.size u := Nat.mul_le_mul_right _ hi
    have hpos := T.size_pos u
    have hdl : (cs.drop (i * T.size u)).length = l.length * T.size u - i * T.size u := by rw [List.length_drop, q1]
    have hcl : l.length * T.size u ≤ cap * T.size u := Nat.mul_le_mul_right _ hcap
    have htl : (cs.take (i * T.size u)).length = i * T.size u := by rw [List.length_take, q1]; exact Nat.min_eq_left hik
    by_cases hroom : l.length + 1 ≤ cap
    · have hcl1 : (l.length + 1) * T.size u ≤ cap * T.size u := Nat.mul_le_mul_right _ hroom
      have hrun := hT.shift b off l.length cap i vb voff vc cs vs w hlt hroom h63 hvb q1 p1 q2
        (fun j hj => by simp only [World.cell?, k4]; simp; omega) (fun j hj => by simp [World.frozen?, k4]) p2 q3.one p3.one
        tv tt cv.size c.size (by simp [World.shape?, y4]) (by simp [World.shape?, k4]) (by omega) (by simp [World.frozen?, y4]) (by simp [World.frozen?, y4])
      have k4' : w.drew.heap[b]? = some (.cells c tt (0, 0)) := k4
      obtain ⟨c1, a1, a2, a3, a4, a5, a6, a7, a8⟩ := setCells_block (o := off + (i + 1) * T.size u) (vs := cs.drop (i * T.size u)) k4' (by rw [hdl]; omega) (fun v hv => q3.one v (List.mem_of_mem_drop hv))
      obtain ⟨c2, b1, b2, b3, b4, b5, b6, b7, b8⟩ := setCells_block (o := off + i * T.size u) (vs := vs) a1 (by omega) p3.one
      generalize hW : (w.drew.setCells b (off + (i + 1) * T.size u) (cs.drop (i * T.size u))).setCells b (off + i * T.size u) vs = W at hrun b1 b4 b5 b6 b7 b8
      have hsz : W.heap.size = w.heap.size := b5.trans a5
      have hoth : ∀ k, k ≠ b → W.heap[k]? = w.heap[k]? := fun k hk => (b4 k hk).trans (a4 k hk)
      have hcell : ∀ k, c2[k]? = if k < off + i * T.size u then c[k]? else if k < off + (i + 1) * T.size u then vs[k - (off + i * T.size u)]? else if k < off + (l.length + 1) * T.size u then (cs.drop (i * T.size u))[k - (off + (i + 1) * T.size u)]? else c[k]? := by
        intro k
        rw [b3, a3]
        by_cases g1 : k < off + i * T.size u
        · rw [if_pos g1, if_pos g1, if_pos (by omega)]
        · rw [if_neg g1, if_neg g1]
          by_cases g2 : k < off + (i + 1) * T.size u
          · rw [if_pos (by omega), if_pos g2]
          · rw [if_neg (by omega), if_neg g2, if_neg g2]
            by_cases g3 : k < off + (l.length + 1) * T.size u
            · rw [if_pos (by omega), if_pos g3]
            · rw [if_neg (by omega), if_neg g3]
      let γ' : Gh := { γ with bt := fun k => if k = n then some (.row (some ⟨b, off, none⟩) (l.take i ++ x :: l.drop i).length cap) else γ.bt k, own := fun k => if k = b then some n else γ.own k }
      have e1 : Evo (fun k => k = nm ∧ ∃ b, γ.own b = some nm) γ w γ' W := {
        size := by omega
        mono := fun _ _ => Nat.le_refl _
        low := fun k j hk hj => by
          by_cases hkb : k = b
          · subst hkb
            simp only [World.cell?, b1, k4]
            simp only [Option.isSome_none, Bool.false_eq_true, if_false]
            rw [hcell, if_pos (by omega)]
          · unfold World.cell?; rw [hoth k hkb]
        os := b6.trans a6, tape := b7.trans a7, output := b8.trans a8
        same := fun k hk hx => by
          have hkb : k ≠ b := by rintro rfl; exact hx nm k2 ⟨rfl, _, k2⟩
          exact ⟨hoth k hkb, by show (if k = b then _ else _) = _; rw [if_neg hkb], rfl⟩
        bt := fun k v hv => by
          show (if k = n then _ else _) = _
          rw [if_neg (by rintro rfl; rw [hn] at hv; cases hv)]
          exact hv }
      refine ⟨γ', W, some ⟨b, off, none⟩, cap, by rw [hll]; exact hrun, e1, by simp [γ'], fun k hk => by simp [γ', hk], fun tm => ⟨_, cap, by simp [γ'], by omega, .inr ⟨b, off, c2, tt, rfl, by simp [γ'], by omega, b1, by omega, by simpa using k6, ?_⟩⟩, fun k j h => ?_, fun k hk => ?_⟩
      · refine RowsAt.of (hflat.evo e1.toDEvo) fun j v hj => ?_
        simp only [World.cell?, b1]
        simp only [Option.isSome_none, Bool.false_eq_true, if_false]
        rw [hcell]
        have hjb := getElem?_lt hj
        simp only [List.length_append, htl, hdl, p1] at hjb
        by_cases g1 : j < i * T.size u
        · rw [if_pos (by omega)]
          rw [List.append_assoc, List.getElem?_append_left (by simp only [List.length_append, List.size_toArray, htl, p1]; omega), List.getElem?_take_of_lt g1] at hj
          have := q2 j v hj
          simp only [World.cell?, k4] at this
          simpa using this
        · rw [if_neg (by omega)]
          by_cases g2 : j < (i + 1) * T.size u
          · rw [if_pos (by omega), ← hj]
            rw [List.getElem?_append_left (by simp only [List.length_append, List.size_toArray, htl, p1]; omega), List.getElem?_append_right (by simp only [List.length_append, List.size_toArray, htl, p1]; omega)]
            congr 1
            simp only [htl]
            omega
          · rw [if_neg (by omega), if_pos (by omega), ← hj]
            rw [List.getElem?_append_right (by simp only [List.length_append, List.size_toArray, htl, p1]; omega)]
            congr 1
            simp only [List.length_append, htl, p1]
            omega
      · simp only [γ'] at h
        split at h
        · cases h; exact .inl rfl
        · exact .inr h
      · simp only [γ']
        rw [if_neg (by omega)]
        exact hinv.ok k (by omega)
    · obtain ⟨ht, ie, z, hie, hz, hzs, his, rfl⟩ := hT.app
      obtain ⟨kn, hI⟩ := hT.hi
      have hcap' : cap = l.length := by omega
      have hk1 : ((l.length + 1 - i : Nat) : Int) = (l.length : Int) + 1 - (i : Int) := by omega
      have hold : (Builtin.firstCells ie.size i (.slice (some ⟨b, off, none⟩) i cap)).run C.P w.drew = .ok (cs.take (i * T.size u)).toArray w.drew := by
        rw [his]
        exact run_firstCells_some (P := C.P) w.drew (T.size u) i ⟨b, off, none⟩ i cap _ (by rw [List.length_take, q1]; omega) fun j v hj => by
          rw [addr_add]
          have hj2 := getElem?_lt hj
          rw [List.length_take] at hj2
          rw [List.getElem?_take_of_lt (by omega)] at hj
          exact q2 j v hj
      have hle := nextslicecap_le (need := l.length + 1) (old := cap) (by omega)
      have hfit : Builtin.nextslicecap (i + (l.length + 1 - i)) cap * ie.bytes ≤ 281474976710656 := by
        rw [show i + (l.length + 1 - i) = l.length + 1 by omega]
        have h1 : Builtin.nextslicecap (l.length + 1) cap * ie.bytes ≤ 2 * (l.length + 1) * ie.bytes := Nat.mul_le_mul_right _ hle
        have h2 : 2 * (l.length + 1) * ie.bytes = 2 * ((l.length + 1) * ie.bytes) := by rw [Nat.mul_assoc]
        omega
      have h48 : (l.length + 1 - i) * ie.bytes ≤ 281474976710656 := by
        have : (l.length + 1 - i) * ie.bytes ≤ (l.length + 1) * ie.bytes := Nat.mul_le_mul_right _ (by omega)
        omega
      have hG : l.length + 1 ≤ grownCap w (i + (l.length + 1 - i)) cap e := by
        simp only [grownCap, Question.cut]; omega
      generalize hGe : grownCap w (i + (l.length + 1 - i)) cap e = G at hG
      have hrz : ∀ ty, (Builtin.append_ #[S, I] ty #[.slice (some ⟨b, off, none⟩) i cap, .int .i64 ((l.length : Int) + 1 - (i : Int))]).run C.P w = .ok (.slice (some ⟨w.heap.size, 0, none⟩) (l.length + 1) G)
          (w.drew.alloc (.cells ((cs.take (i * T.size u)).toArray ++ Builtin.zeroCells z.cells (l.length + 1 - i) ++ Builtin.zeroCells z.cells (G - (l.length + 1))) e)) := fun ty => by
        have h := Lib.run_append_grow_zeros w S I ty e ie z .i64 kn ht hI hie hz (some ⟨b, off, none⟩) i cap (cs.take (i * T.size u)) hold (l.length + 1 - i) (by omega) (by omega) (by omega) (by omega) h48 hfit
        rw [hGe, hk1, show i + (l.length + 1 - i) = l.length + 1 by omega] at h
        exact h
      generalize hrw : ((cs.take (i * T.size u)).toArray ++ Builtin.zeroCells z.cells (l.length + 1 - i) ++ Builtin.zeroCells z.cells (G - (l.length + 1))) = row at hrz
      have hGK : (l.length + 1) * T.size u ≤ G * T.size u := Nat.mul_le_mul_right _ hG
      have hrs : row.size = G * T.size u := by
        rw [← hrw]
        simp only [Array.size_append, List.size_toArray, htl, size_zeroCells, hzs]
        rw [← Nat.add_mul, ← Nat.add_mul]
        congr 1
        omega
      have hrl : ∀ j, j < i * T.size u → row[j]? = cs[j]? := fun j hj => by
        rw [← hrw, Array.append_assoc, Array.getElem?_append_left (by simp only [List.length_append, List.size_toArray, htl, p1]; omega), List.getElem?_toArray, List.getElem?_take_of_lt hj]
      have hrun := hT.grow b off l.length cap i vb voff vc G cs vs w row hlt hcap h63 (by omega) k3 y3 q1 p1 q2 p2 q3.one p3.one hG (by omega) hrz
      have hat : (w.alloc (.cells row e)).drew.heap[w.heap.size]? = some (.cells row e (0, 0)) := heap_alloc_at w _
      obtain ⟨c1, a1, a2, a3, a4, a5, a6, a7, a8⟩ := setCells_block (o := i * T.size u) (vs := vs) hat (by omega) p3.one
      have a1' : ((w.alloc (.cells row e)).drew.setCells w.heap.size (i * T.size u) vs).drew.heap[w.heap.size]? = some (.cells c1 e (0, 0)) := a1
      obtain ⟨c2, b1, b2, b3, b4, b5, b6, b7, b8⟩ := setCells_block (o := (i + 1) * T.size u) (vs := cs.drop (i * T.size u)) a1' (by rw [hdl]; omega) (fun v hv => q3.one v (List.mem_of_mem_drop hv))
      generalize hW : (((w.alloc (.cells row e)).drew.setCells w.heap.size (i * T.size u) vs).drew).setCells w.heap.size ((i + 1) * T.size u) (cs.drop (i * T.size u)) = W at hrun b1 b4 b5 b6 b7 b8
      have hsz : W.heap.size = w.heap.size + 1 := b5.trans (a5.trans (by show (w.heap.push _).size = _; simp))
      have hoth : ∀ k, k < w.heap.size → W.heap[k]? = w.heap[k]? := fun k hk => (b4 k (by omega)).trans ((a4 k (by omega)).trans (Go.RowKit.Below.heap_alloc _ _ _ hk))
      have e1 := Evo.ofNew (γ := γ) (n := n) (g := .row (some ⟨w.heap.size, 0, none⟩) (l.take i ++ x :: l.drop i).length G) hn hsz hoth (b6.trans a6) (b7.trans a7) (b8.trans a8)
      refine ⟨_, W, some ⟨w.heap.size, 0, none⟩, G, by rw [hll]; exact hrun, e1.weaken fun _ h => h.elim, by simp [Gh.newBlk], fun k hk => by simp [Gh.newBlk, hk], fun tm => ?_, fun k j h => ?_, fun k hk => ?_⟩
      · refine row_new (cap := G) e1 hflat b1 (fun j v hj => ?_) (by omega) (by omega) (by simp [Gh.newBlk]) (by simp [Gh.newBlk]) (by simp [Gh.newBlk]) tm
        have hjb := getElem?_lt hj
        simp only [List.length_append, htl, hdl, p1] at hjb
        rw [b3]
        by_cases g1 : j < i * T.size u
        · rw [if_pos (by omega), a3, if_pos g1, hrl j g1]
          rw [List.append_assoc, List.getElem?_append_left (by simp only [List.length_append, List.size_toArray, htl, p1]; omega), List.getElem?_take_of_lt g1] at hj
          exact hj
        · by_cases g2 : j < (i + 1) * T.size u
          · rw [if_pos g2, a3, if_neg g1, if_pos (by omega), ← hj]
            rw [List.getElem?_append_left (by simp only [List.length_append, List.size_toArray, htl, p1]; omega), List.getElem?_append_right (by simp only [List.length_append, List.size_toArray, htl, p1]; omega)]
            congr 1
            simp only [htl]
          · rw [if_neg g2, if_pos (by omega), ← hj]
            rw [List.getElem?_append_right (by simp only [List.length_append, List.size_toArray, htl, p1]; omega)]
            congr 1
            simp only [List.length_append, htl, p1]
            omega
      · simp only [Gh.newBlk] at h
        split at h
        · cases h; exact .inl rfl
        · exact .inr h
      · simp only [Gh.newBlk]
        rw [if_neg (by omega)]
        exact hinv.ok k (by omega)
end Go.G
