import Derived.Test.YtmknondapmmehaaGOps5
set_option linter.unusedVariables false
set_option linter.unusedSimpArgs false
namespace Go.G
variable {T : Uni}
section
variable {C : Ctx} {o : Oper} {σ : St T} {lo hi : Nat}

/-- A slice value that stands for these elements. -/
def SlAt (γ : Gh) (w : World) (u : T.U) (ys : List (T.El u)) (v : Value) : Prop :=
  ∃ B cap, v = .slice B ys.length cap ∧ ys.length ≤ cap ∧ (ys = [] ∨ ∃ b off, B = some ⟨b, off, none⟩ ∧ RowsAt γ.imm w b off u ys)

def ElemsOf (C : Ctx) (σ : St T) (u : T.U) (c : CV T) (ys : List (T.El u)) (rd : List Loc) : Prop :=
  ∀ σ', (∀ l ∈ rd, look σ' l = look σ l) → ∀ γ a w, Sat C.E C.N γ w a σ' → ∀ v, RepC γ w c v → SlAt γ w u ys v

theorem SlAt.of_d {γ : Gh} {w : World} {u : T.U} {l : List (T.El u)} {v : Value} (h : RepD T γ.imm w (.sl u l) v) : SlAt γ w u l v := by
  obtain ⟨A, cap, rfl, hc, h⟩ := RepD.sl_iff.1 h
  refine ⟨A, cap, rfl, hc, h.imp id ?_⟩
  rintro ⟨b, off, h1, _, _, h4⟩
  exact ⟨b, off, h1, h4⟩

theorem SlAt.of_own {γ : Gh} {w : World} {u u' : T.U} {nm : Nat} {l : List (T.El u)} {fz : Bool} {tm : Nat → Value} (hf : FactOK γ w tm (.h nm) (.r u l fz)) {v : Value} (h : RepC (T := T) γ w (.own u' nm) v) : SlAt γ w u l v := by
  obtain ⟨A, cap, h1, h2, h3⟩ := hf
  obtain ⟨A', len, cap', k1, rfl⟩ := h
  rw [h1] at k1; cases k1
  refine ⟨A, cap, rfl, h2, ?_⟩
  rcases h3 with ⟨_, h3⟩ | ⟨b, off, c, t, e1, _, _, _, _, _, e7⟩
  · exact .inl h3
  · exact .inr ⟨b, off, e1, e7⟩

theorem RowsAt.sub {imm : Nat → Nat} {w : World} {b off : Nat} {u : T.U} {l : List (T.El u)} (x y : Nat) (h : RowsAt imm w b off u l) : RowsAt imm w b (off + x * T.size u) u ((l.take y).drop x) := by
  intro i a ha
  rw [List.getElem?_drop, List.getElem?_take] at ha
  split at ha
  · have := h _ _ ha
    rw [show off + x * T.size u + i * T.size u = off + (x + i) * T.size u by rw [Nat.add_mul]; omega]
    exact this
  · cases ha

theorem SlAt.of_buf {γ : Gh} {w : World} {u : T.U} {nm : Nat} {l : List (T.El u)} {fz : Bool} {tm : Nat → Value} {off len : Int} (hf : FactOK γ w tm (.h nm) (.r u l fz)) {v : Value} (h : RepC (T := T) γ w (.buf u nm off len) v) : SlAt γ w u (dcut l off (off + len)) v := by
  obtain ⟨A, cap, h1, h2, h3⟩ := hf
  obtain ⟨A0, L, cap', A', k1, k2, k3, k4, k5, rfl, k7⟩ := h
  rw [h1] at k1; cases k1
  unfold dcut
  have hlen : ((l.take (off + len).toNat).drop off.toNat).length = len.toNat := by simp; omega
  refine ⟨A', cap - off.toNat, by rw [hlen], by rw [hlen]; omega, ?_⟩
  rcases h3 with ⟨h3, h4⟩ | ⟨b, o', c, t, e1, _, _, _, _, _, e7⟩
  · left; subst h4; simp
  · by_cases hlt : off < cap
    · right
      refine ⟨b, o' + off.toNat * T.size u, by rw [k7 hlt, e1]; simp [addr_add], e7.sub _ _⟩
    · left
      exact List.eq_nil_of_length_eq_zero (by rw [hlen]; omega)

theorem elems_inv {X : Type} {r : X} {u : T.U} {c : CV T} {K : List (T.El u) → List Loc → Option X} (h : elems σ u c K = some r) : ∃ ys rd, K ys rd = some r ∧ rd.all memL = true ∧ ∀ C, ElemsOf C σ u c ys rd := by
  unfold elems at h
  split at h
  · split at h
    · rename_i hu _; subst hu
      exact ⟨_, _, h, rfl, fun C σ' _ γ a w hs v hv => SlAt.of_d hv⟩
    · cases h
  · exact ⟨_, _, h, rfl, fun C σ' _ γ a w hs v ⟨A, hv⟩ => ⟨A, 0, hv, Nat.le_refl _, .inl rfl⟩⟩
  · split at h
    · rename_i hlk
      split at h
      · rename_i hu _; subst hu
        exact ⟨_, _, h, rfl, fun C σ' g γ a w hs v hv => SlAt.of_own (hs.facts _ _ ((g _ (by simp)).trans hlk)) hv⟩
      · cases h
    · cases h
  · split at h
    · rename_i hlk
      split at h
      · rename_i hu0 hu _ _; subst hu; subst hu0
        exact ⟨_, _, h, rfl, fun C σ' g γ a w hs v hv => SlAt.of_buf (hs.facts _ _ ((g _ (by simp)).trans hlk)) hv⟩
      · cases h
    · cases h
  · cases h

/-- What is read out of a slice value, in whatever world has the same cells. -/
theorem SlAt.cells {P : Program} {γ : Gh} {w : World} {u : T.U} {ys : List (T.El u)} {v : Value} (h : SlAt γ w u ys v) :
    ∃ B cap, v = .slice B ys.length cap ∧ ys.length ≤ cap ∧ ∃ vs : List Value, vs.length = ys.length * T.size u ∧ RepDs γ.imm w (ys.flatMap (T.enc u)) vs ∧
      (∀ w' : World, (∀ a, w'.cell? a = w.cell? a) → (Builtin.firstCells (T.size u) ys.length (.slice B ys.length cap)).run P w' = .ok vs.toArray w') := by
  obtain ⟨B, cap, rfl, hc, h⟩ := h
  refine ⟨B, cap, rfl, hc, ?_⟩
  rcases h with rfl | ⟨b, off, rfl, hr⟩
  · refine ⟨[], by simp, trivial, fun w' _ => ?_⟩
    cases B with
    | none => simp [Builtin.firstCells]
    | some ad => simp [Builtin.firstCells, loadCells, loadCellsFrom]
  · obtain ⟨vs, k1, k2, k3⟩ := hr.values
    refine ⟨vs, k1, k3, fun w' hw' => ?_⟩
    exact run_firstCells_some (P := P) w' (T.size u) ys.length ⟨b, off, none⟩ ys.length cap vs k1 fun j v hj => by rw [addr_add, hw']; exact k2 j v hj

theorem nextslicecap_le {need old : Nat} (h : old < need) : Builtin.nextslicecap need old ≤ 2 * need := by
  unfold Builtin.nextslicecap
  split
  · omega
  · split
    · omega
    · have key : ∀ (r c : Nat), 256 ≤ c → c ≤ 2 * need → Builtin.growBy need r c ≤ 2 * need := by
        intro r
        induction r with
        | zero => intro c _ h; exact h
        | succ r ih =>
          intro c h1 h2
          simp only [Builtin.growBy]
          split
          · exact h2
          · exact ih _ (by omega) (by omega)
      exact key 4 old (by omega) (by omega)

/-- append, both ways, as far as the world goes. -/
theorem run_append_two {P : Program} {t t' ty e e' : TypeId} {i : TypeInfo} {z : Value} (ht : P.underlying t = some (.slice e)) (ht' : P.underlying t' = some (.slice e')) (hi : P.info? e = some i) (hz : i.zero = some z)
    {w : World} {A B : Option Addr} {l cap m c : Nat} {vs us : List Value} (f1 : ∀ w' : World, (∀ a, w'.cell? a = w.cell? a) → (Builtin.firstCells i.size l (.slice A l cap)).run P w' = .ok vs.toArray w')
    (f2 : ∀ w' : World, (∀ a, w'.cell? a = w.cell? a) → (Builtin.firstCells i.size m (.slice B m c)).run P w' = .ok us.toArray w')
    (hbytes : (l + m) * i.bytes ≤ 140737488355328) (h63 : l + m ≤ 9223372036854775807) :
    (l + m ≤ cap → (Builtin.append_ #[t, t'] ty #[.slice A l cap, .slice B m c]).run P w = match A with
        | some a => ((storeCells (a.add (l * i.size)) us).run P w).andThen fun _ w' => .ok (.slice A (l + m) cap) w'
        | none => .ok (.slice A (l + m) cap) w) ∧
      (cap < l + m → ∃ cap', l + m ≤ cap' ∧ (Builtin.append_ #[t, t'] ty #[.slice A l cap, .slice B m c]).run P w = .ok (.slice (some ⟨w.heap.size, 0, none⟩) (l + m) cap')
          (w.drew.alloc (.cells ((vs ++ us).toArray ++ Builtin.zeroCells z.cells (cap' - (l + m))) e))) := by
  refine ⟨fun hroom => ?_, fun hg => ⟨grownCap w (l + m) cap e, ?_, ?_⟩⟩
  · have f2 := f2 w fun _ => rfl
    cases A with
    | none => simp [Builtin.append_, run_underlying ht, run_underlying ht', sizeOf, typeInfo, hi, Builtin.lenOf, hroom, f2]
    | some a => simp [Builtin.append_, run_underlying ht, run_underlying ht', sizeOf, typeInfo, hi, Builtin.lenOf, hroom, f2]
  · simp only [grownCap, Question.cut]; omega
  · have f1 := f1 w.drew fun _ => rfl
    have f2 := f2 w.drew fun _ => rfl
    have hn : ¬ (l + m ≤ cap) := by omega
    have h63' : ¬ (9223372036854775807 < ((l : Int) + (m : Int))) := by omega
    have hle := nextslicecap_le hg
    have h48' : ¬ (281474976710656 < Builtin.nextslicecap (l + m) cap * i.bytes) := by
      have : Builtin.nextslicecap (l + m) cap * i.bytes ≤ 2 * (l + m) * i.bytes := Nat.mul_le_mul_right _ hle
      have e3 : 2 * (l + m) * i.bytes = 2 * ((l + m) * i.bytes) := by rw [Nat.mul_assoc]
      omega
    simp [Builtin.append_, run_underlying ht, run_underlying ht', sizeOf, typeInfo, zeroValue, hi, hz, Builtin.lenOf, hn, h63', h48', Question.forced, f1, f2, newRow, grownCap]
    congr 2
    apply Array.ext'
    simp [List.append_assoc]

structure AppT (P : Program) (u : T.U) (t e : TypeId) (bytes : Nat) : Prop where
  ht : P.underlying t = some (.slice e)
  hi : ∃ i z, P.info? e = some i ∧ i.zero = some z ∧ z.cells.size = T.size u ∧ i.size = T.size u ∧ i.bytes = bytes

/-- append to rows that nobody else has. -/
theorem app_core {t t' ty e e' : TypeId} {u : T.U} {bytes : Nat} (hT : AppT C.P u t e bytes) (ht' : C.P.underlying t' = some (.slice e')) {γ : Gh} {w : World} (hinv : Inv C.E γ w) {l ys : List (T.El u)} {fz : Bool} {A : Option Addr} {cap nm n : Nat} {y : Value}
    (hcap : l.length ≤ cap) (hrow : RowOK γ w nm u l fz A cap) (hy : SlAt γ w u ys y) (hb : (l.length + ys.length) * bytes ≤ 140737488355328) (h63 : l.length + ys.length ≤ 9223372036854775807) (hn : γ.bt n = none) (hl : C.E.loc n) :
    ∃ γ' w' A' cap', (Builtin.append_ #[t, t'] ty #[.slice A l.length cap, y]).run C.P w = .ok (.slice A' (l ++ ys).length cap') w' ∧ Evo (fun k => k = nm ∧ ∃ b, γ.own b = some nm) γ w γ' w' ∧
      γ'.bt n = some (.row A' (l ++ ys).length cap') ∧ (∀ k, k ≠ n → γ'.bt k = γ.bt k) ∧ (∀ tm, FactOK γ' w' tm (.h n) (.r u (l ++ ys) fz)) ∧ (∀ b k, γ'.own b = some k → k = n ∨ γ.own b = some k) ∧ (∀ b, w'.heap.size ≤ b → γ'.own b = none) := by
  obtain ⟨ht, i, z, hi, hz, hzs, his, rfl⟩ := hT
  obtain ⟨B, cb, rfl, hcb, us, u1, u2, u3⟩ := hy.cells (P := C.P)
  have hs0 : SlAt γ w u l (.slice A l.length cap) := ⟨A, cap, rfl, hcap, by
    rcases hrow with ⟨_, h⟩ | ⟨b, off, c, tt, e1, _, _, _, _, _, e7⟩
    · exact .inl h
    · exact .inr ⟨b, off, e1, e7⟩⟩
  obtain ⟨A0, cap0, ev0, _, vs, v1, v2, v3⟩ := hs0.cells (P := C.P)
  cases ev0
  rw [← his] at u3 v3
  obtain ⟨hroom, hgrow⟩ := run_append_two (P := C.P) (ty := ty) ht ht' hi hz v3 u3 hb h63
  have hlen : l.length + ys.length = (l ++ ys).length := by simp
  have hfl : RepDs γ.imm w ((l ++ ys).flatMap (T.enc u)) (vs ++ us) := by rw [List.flatMap_append]; exact v2.append u2
  by_cases hc : l.length + ys.length ≤ cap
  · have hrun := hroom hc
    rcases hrow with ⟨h0, h0'⟩ | ⟨b, off, c, tt, rfl, k2, k3, k4, k5, k6, k7⟩
    · subst h0
      subst h0'
      have hm0 : ys = [] := List.eq_nil_of_length_eq_zero (by simpa using hc)
      subst hm0
      have hu0 : us = [] := List.eq_nil_of_length_eq_zero (by rw [u1]; simp)
      refine ⟨{ γ with bt := fun k => if k = n then some (.row A 0 0) else γ.bt k }, w, A, 0, ?_, ⟨DEvo.refl _ _, rfl, rfl, rfl, fun _ _ _ => ⟨rfl, rfl, rfl⟩, fun k v hv => ?_⟩, by simp, fun k hk => by simp [hk], fun tm => ⟨A, 0, by simp, by simp, .inl ⟨rfl, rfl⟩⟩, fun _ _ h => .inr h, hinv.ok⟩
      · rw [hrun, hu0]
        cases A <;> simp [storeCells]
      · show (if k = n then _ else _) = _
        rw [if_neg (by rintro rfl; rw [hn] at hv; cases hv)]
        exact hv
    · have hm : us.length = ys.length * T.size u := u1
      have hfit : off + l.length * T.size u + 0 + us.length ≤ c.size := by
        have := Nat.mul_le_mul_right (T.size u) hc
        rw [Nat.add_mul] at this
        omega
      have hst := run_storeCells_at C.P b (off + l.length * T.size u) tt us 0 c w k4 hfit u2.one
      simp only [Nat.add_zero] at hst
      simp only [addr_add, his, hst, Result.andThen_ok] at hrun
      have hcs : ∀ k, (c.toList.take (off + l.length * T.size u) ++ us ++ c.toList.drop (off + l.length * T.size u + us.length)).toArray[k]? = if k < off + l.length * T.size u then c[k]? else if k < off + l.length * T.size u + us.length then us[k - (off + l.length * T.size u)]? else c[k]? := by
        intro k
        rw [List.getElem?_toArray]
        by_cases hk : k < off + l.length * T.size u
        · rw [if_pos hk, List.append_assoc, List.getElem?_append_left (by simp; omega), List.getElem?_take_of_lt hk, Array.getElem?_toList]
        · rw [if_neg hk]
          by_cases hk2 : k < off + l.length * T.size u + us.length
          · rw [if_pos hk2, List.getElem?_append_left (by simp; omega), List.getElem?_append_right (by simp; omega)]
            congr 1
            simp; omega
          · rw [if_neg hk2, List.getElem?_append_right (by simp; omega), List.getElem?_drop, Array.getElem?_toList]
            congr 1
            simp; omega
      have hlow : ∀ k, k < γ.imm b → (c.toList.take (off + l.length * T.size u) ++ us ++ c.toList.drop (off + l.length * T.size u + us.length)).toArray[k]? = c[k]? := fun k hk => by
        rw [hcs k, if_pos (by split at k6 <;> omega)]
      have e0 := Evo.setRow (γ := γ) k4 k2 hlow
      let γ' : Gh := { γ with bt := fun k => if k = n then some (.row (some ⟨b, off, none⟩) (l ++ ys).length cap) else γ.bt k, own := fun k => if k = b then some n else γ.own k }
      have e1 : Evo (fun k => k = nm ∧ ∃ b, γ.own b = some nm) γ w γ' (w.setRow b (c.toList.take (off + l.length * T.size u) ++ us ++ c.toList.drop (off + l.length * T.size u + us.length)).toArray) := {
        size := e0.size, mono := e0.mono, low := e0.low, os := rfl, tape := rfl, output := rfl
        same := fun k hk hx => by
          have hkb : k ≠ b := by rintro rfl; exact hx nm k2 ⟨rfl, _, k2⟩
          exact ⟨setRow_other _ _ _ _ hkb, by show (if k = b then _ else _) = _; rw [if_neg hkb], rfl⟩
        bt := fun k v hv => by
          show (if k = n then _ else _) = _
          rw [if_neg (by rintro rfl; rw [hn] at hv; cases hv)]
          exact hv }
      refine ⟨γ', _, some ⟨b, off, none⟩, cap, by rw [hrun, hlen], e1, by simp [γ'], fun k hk => by simp [γ', hk], fun tm => ⟨_, cap, by simp [γ'], by omega, .inr ⟨b, off, _, tt, rfl, by simp [γ'], by rw [setRow_size]; exact k3, setRow_heap _ _ _ _ _ _ k4, ?_, ?_, ?_⟩⟩, fun k j h => ?_, fun k hk => ?_⟩
      · simp; omega
      · show γ.imm b ≤ _
        split
        · rename_i hfz
          simp only [hfz, if_true] at k6
          rw [← hlen, Nat.add_mul]; omega
        · rename_i hfz
          rw [if_neg hfz] at k6
          exact k6
      · refine RowsAt.of (hfl.evo e1.toDEvo) fun j v hj => ?_
        rw [cell_setRow_same _ _ _ _ _ _ _ k4, hcs]
        by_cases hjl : j < vs.length
        · rw [List.getElem?_append_left hjl] at hj
          rw [if_pos (by omega)]
          have hrows := k7.values
          obtain ⟨vs', q1, q2, q3⟩ := hrows
          have hvv : vs' = vs := by
            have := v3 w fun _ => rfl
            have h2 := run_firstCells_some (P := C.P) w (T.size u) l.length ⟨b, off, none⟩ l.length cap vs' q1 fun j v hj => by rw [addr_add]; exact q2 j v hj
            rw [his] at this
            rw [this] at h2
            cases h2
            rfl
          subst hvv
          have := q2 j v hj
          simp only [World.cell?, k4] at this
          simpa using this
        · rw [List.getElem?_append_right (by omega)] at hj
          have hju := getElem?_lt hj
          rw [if_neg (by omega), if_pos (by omega), ← hj]
          congr 1
          omega
      · simp only [γ'] at h
        split at h
        · cases h; exact .inl rfl
        · exact .inr h
      · rw [setRow_size] at hk
        simp only [γ']
        rw [if_neg (by omega)]
        exact hinv.ok k hk
  · obtain ⟨cap', hcap', hrun⟩ := hgrow (by omega)
    have hsz : cap' * T.size u ≤ ((vs ++ us).toArray ++ Builtin.zeroCells z.cells (cap' - (l.length + ys.length))).size := by
      simp only [Array.size_append, List.size_toArray, List.length_append, v1, u1, size_zeroCells, hzs]
      rw [← Nat.add_mul, ← Nat.add_mul]
      exact Nat.mul_le_mul_right _ (by omega)
    have e1 : Evo (fun _ => False) γ w (γ.newBlk w.heap.size n (.row (some ⟨w.heap.size, 0, none⟩) (l ++ ys).length cap') 0) (w.drew.alloc (.cells ((vs ++ us).toArray ++ Builtin.zeroCells z.cells (cap' - (l.length + ys.length))) e)) := by
      have := Evo.newBlk (γ := γ) (w := w.drew) (nm := n) hn (.cells ((vs ++ us).toArray ++ Builtin.zeroCells z.cells (cap' - (l.length + ys.length))) e) (.row (some ⟨w.heap.size, 0, none⟩) (l ++ ys).length cap') 0
      exact ⟨⟨this.size, this.mono, fun b i hb hi => this.low b i hb hi⟩, rfl, rfl, rfl, fun b hb hx => this.same b hb hx, this.bt⟩
    have hat : (w.drew.alloc (.cells ((vs ++ us).toArray ++ Builtin.zeroCells z.cells (cap' - (l.length + ys.length))) e)).heap[w.heap.size]? = some (.cells ((vs ++ us).toArray ++ Builtin.zeroCells z.cells (cap' - (l.length + ys.length))) e) := heap_alloc_at w.drew _
    refine ⟨_, _, some ⟨w.heap.size, 0, none⟩, cap', by rw [hrun, hlen], e1.weaken fun _ h => h.elim, by simp [Gh.newBlk], fun k hk => by simp [Gh.newBlk, hk], fun tm => ?_, fun b k h => ?_, fun b hb => ?_⟩
    · exact row_new e1 hfl hat (fun j v hj => by
        have hlt := getElem?_lt hj
        rw [Array.getElem?_append_left (by simpa using hlt), List.getElem?_toArray]
        exact hj) (by omega) hsz (by simp [Gh.newBlk]) (by simp [Gh.newBlk]) (by simp [Gh.newBlk]) tm
    · simp only [Gh.newBlk] at h
      split at h
      · cases h; exact .inl rfl
      · exact .inr h
    · simp at hb
      simp only [Gh.newBlk]
      rw [if_neg (by omega)]
      exact hinv.ok b (by omega)

theorem dapp_some {α : Type} {bytes : Nat} {l ys l' : List α} (h : dapp bytes l ys = some l') : (l.length + ys.length) * bytes ≤ 140737488355328 ∧ l.length + ys.length ≤ 9223372036854775807 ∧ l' = l ++ ys := by
  unfold dapp at h
  split at h
  · rename_i hh; cases h; exact ⟨hh.1, hh.2, rfl⟩
  · cases h

theorem kv_app {t t' e e' : TypeId} {u : T.U} {bytes : Nat} {x y : Operand} {Xx Yy : Opd T} {c c2 : CV T} {l ys l' : List (T.El u)} {fz : Bool} {rd mrd : List Loc} {mwr : Wr T} {n nm : Nat} (ho : o.op = .call { callee := .builtin .append, args := #[x, y], argTypes := #[t, t'] })
    (hx : cOpd x = some Xx) (hy : cOpd y = some Yy) (hT : AppT C.P u t e bytes) (ht' : C.P.underlying t' = some (.slice e')) (h1 : Rd σ Xx (.one c)) (h2 : Rd σ Yy (.one c2)) (hel : ElemsOf C σ u c2 ys rd) (hd : dapp bytes l ys = some l') (hl : C.E.loc n)
    (hmr : ∀ q ∈ rd, q ∈ mrd) (hmw : ∀ q f, (q, some f) ∈ mwr → q = .h n ∧ f = .r u l' fz)
    (hc : ∀ σ', (∀ q ∈ mrd, look σ' q = look σ q) → ∀ γ a w, Sat C.E C.N γ w a σ' → Fresh n (n + 1) γ → ∀ v, RepC γ w c v → ∃ A cap, v = .slice A l.length cap ∧ l.length ≤ cap ∧ RowOK γ w nm u l fz A cap ∧ ((∃ b, γ.own b = some nm) → C.E.perm nm ∧ Loc.h nm ∈ locs mwr) ) :
    KValid C o σ (Xx.slots ++ Yy.slots) (.one (.own u n)) mrd mwr n (n + 1) := by
  intro σ' g1 g2 γ a w hinv hs hf Q
  obtain ⟨hf1, hf2⟩ := hf n (Nat.le_refl _) (Nat.lt_succ_self _)
  have e1 := Rd.rep hs hx (fun j hj => g1 j (left hj)) h1
  have e2 := Rd.rep hs hy (fun j hj => g1 j (right hj)) h2
  simp only [RepP] at e1 e2
  have e3 := hel σ' (fun q hq => g2 q (hmr q hq)) γ a w hs _ e2
  obtain ⟨A, cap, e4, e5, e6, e7⟩ := hc σ' g2 γ a w hs hf _ e1
  obtain ⟨d1, d2, rfl⟩ := dapp_some hd
  obtain ⟨γ', w', A', cap', r1, r2, r3, r4, r5, r6, r7⟩ := app_core (ty := o.type) hT ht' hinv e5 e6 e3 d1 d2 hf1 hl
  unfold Oper.wp execOp
  simp only [ho, resolve, invoke, builtin, Sem.run_bind, Sem.run_pure, Result.andThen_ok, List.map_toArray, List.map_cons, List.map_nil, e4, r1, Oper.upon_value]
  refine ⟨γ', _, _, rfl, fun _ _ => ?_, r2, fun k hk => ?_, fun q f hm => ?_, fun k hk => r4 k (by rintro rfl; exact hk hl), fun b k hb => ?_, r7, fun k hk hkl => ⟨r4 k (by omega), fun b hb => ?_⟩⟩
  · simp only [RepP, RepC]
    exact ⟨A', _, cap', r3, rfl⟩
  · obtain ⟨rfl, hk⟩ := hk
    exact e7 hk
  · obtain ⟨rfl, rfl⟩ := hmw q f hm
    exact ⟨n, rfl, .inr hl, r5⟩
  · rcases r6 b k hb with h | h
    · subst h; exact .inl hl
    · exact .inr h
  · rcases r6 b k hb with h | h
    · omega
    · exact h
end
end Go.G
