import Derived.Test.YtmknondapmmehaaGTool
import Derived.WalkKit
import Derived.ProofKit
import Derived.OpenShut
import Derived.Deep.Slices
set_option linter.unusedVariables false
set_option linter.unusedSimpArgs false
/-! Arguments that are read as data: from the reading to the data, and the law's row. -/
namespace Go.G
open Go.ChangeShapes Go.WideShapes Go.RowKit
variable {T : Uni}

/-- A datum whose numbers fit their kinds. -/
inductive WfD (T : Uni) : DV T.toSig → Prop
  | int (k n) (h : (Lit.int k n).wf = true) : WfD T (.int k n)
  | bool (b) : WfD T (.bool b)
  | str (s) (h : s.size ≤ Go.maxLen) : WfD T (.str s)
  | sl (u) (l : List (T.El u)) (h : l.length ≤ Go.maxLen) (hv : ∀ (i : Nat) (a : T.El u), l[i]? = some a → ∀ (j : Nat) (d : DV T.toSig), (T.enc u a)[j]? = some d → WfD T d) : WfD T (.sl u l)

def WfE (T : Uni) (u : T.U) (a : T.El u) : Prop := ∀ d ∈ T.enc u a, WfD T d

theorem WfD.of_sl {u : T.U} {l : List (T.El u)} (h : WfD T (.sl u l)) : l.length ≤ Go.maxLen ∧ ∀ a ∈ l, WfE T u a := by
  cases h with
  | sl _ _ h hv =>
    refine ⟨h, fun a ha d hd => ?_⟩
    obtain ⟨i, hi⟩ := List.mem_iff_getElem?.1 ha
    obtain ⟨j, hj⟩ := List.mem_iff_getElem?.1 hd
    exact hv i a hi j d hj

/-- Of which kind a datum is. -/
def kOK : Pt T → DV T.toSig → Prop
  | .int k, .int k' _ => k' = k
  | .bool, .bool _ => True
  | .str, .str _ => True
  | .sl u, .sl u' _ => u' = u
  | _, _ => False

def ksOK : List (Pt T) → List (DV T.toSig) → Prop
  | [], [] => True
  | p :: ps, d :: ds => kOK p d ∧ ksOK ps ds
  | _, _ => False

theorem ksOK.append : ∀ {ps qs : List (Pt T)} {ds es : List (DV T.toSig)}, ksOK ps ds → ksOK qs es → ksOK (ps ++ qs) (ds ++ es)
  | [], _, [], _, _, h => h
  | _ :: _, _, _ :: _, _, h, k => ⟨h.1, ksOK.append h.2 k⟩
  | [], _, _ :: _, _, h, _ => h.elim
  | _ :: _, _, [], _, h, _ => h.elim

theorem ksOK.length : ∀ {ps : List (Pt T)} {ds : List (DV T.toSig)}, ksOK ps ds → ds.length = ps.length
  | [], [], _ => rfl
  | _ :: _, _ :: _, h => by simp [ksOK.length h.2]
  | [], _ :: _, h => h.elim
  | _ :: _, [], h => h.elim

/-- A type's cells. -/
def flat (P : Program) (cu : TypeId → Option T.U) : Nat → TypeId → Option (List (Pt T))
  | 0, _ => none
  | n + 1, t => match P.underlying t with
    | some .bool => some [.bool]
    | some (.int k) => some [.int k]
    | some .string => some [.str]
    | some (.slice e) => match cu e with
      | some u => some [.sl u]
      | none => none
    | some (.struct fs) => match fs.toList.mapM fun f => flat P cu n f.type with
      | some pss => some pss.flatten
      | none => none
    | some (.array k e) => match flat P cu n e with
      | some ps => some (List.replicate k ps).flatten
      | none => none
    | _ => none

/-- What must hold of a universe's elements: the kinds of their cells. -/
structure Kinds (P : Program) (cu : TypeId → Option T.U) : Type where
  ks : T.U → List (Pt T)
  dec : ∀ u ds, ksOK (ks u) ds → ∃ a, T.dec u ds = some a
  fuel : Nat
  flat : ∀ e u, cu e = some u → flat P cu fuel e = some (ks u)

/-- How far a block reaches. -/
def immW (w : World) (b : Nat) : Nat := match w.heap[b]? with
  | some (.cells c _ _) => c.size
  | _ => 0

theorem cell_imm {w : World} {a : Addr} {v : Value} (h : w.cell? a = some v) : a.block < w.heap.size ∧ a.spot = none ∧ a.off < immW w a.block := by
  unfold World.cell? at h
  unfold immW
  split at h
  · rename_i c _ _ hb
    rw [hb]
    split at h
    · cases h
    · rename_i hs
      refine ⟨(Array.getElem?_eq_some_iff.1 hb).1, by simpa using hs, (Array.getElem?_eq_some_iff.1 h).1⟩
  · cases h

section
variable {H : Type} {enc : TypeId × Value → H} {P : Program} {w : World} {base : Nat} {spare : Nat → Bool} {held : Bool} {cu : TypeId → Option T.U}

/-- One reading after the other, of a list's parts. -/
theorem rep_parts {imm : Nat → Nat} (r : TypeId → List Value → Option (DataW H × List MemPlace))
    (cs : List Value) : ∀ (fs : List (TypeId × Nat)) (off : Nat) (pss : List (List (Pt T))), fs.length = pss.length → cs.length = off + (fs.map fun f => P.cellsOf f.1).sum →
    (∀ (j : Nat) f, fs[j]? = some f → f.2 = off + ((fs.take j).map fun f => P.cellsOf f.1).sum) →
    (∀ (j : Nat) f ps, fs[j]? = some f → pss[j]? = some ps → ∃ ds, RepDs imm w ds ((cs.drop f.2).take (P.cellsOf f.1)) ∧ ksOK ps ds ∧ ∀ d ∈ ds, WfD T d) →
    ∃ ds, RepDs imm w ds (cs.drop off) ∧ ksOK pss.flatten ds ∧ ∀ d ∈ ds, WfD T d
  | [], off, [], _, hl, _, _ => ⟨[], by simp at hl; rw [List.drop_eq_nil_of_le (by omega)]; exact trivial, trivial, by simp⟩
  | f :: fs, off, ps :: pss, hlen, hl, ho, hr => by
    simp only [List.map_cons, List.sum_cons] at hl
    have h0 : f.2 = off := by have := ho 0 f rfl; simpa using this
    obtain ⟨ds, h1, h2, h3⟩ := hr 0 f ps rfl rfl
    rw [h0] at h1
    obtain ⟨es, k1, k2, k3⟩ := rep_parts r cs fs (off + P.cellsOf f.1) pss (by simpa using hlen) (by omega) (fun j g hg => by
        have := ho (j + 1) g (by simpa using hg)
        simp only [List.take_succ_cons, List.map_cons, List.sum_cons] at this
        omega) (fun j g qs hg hq => hr (j + 1) g qs (by simpa using hg) (by simpa using hq))
    refine ⟨ds ++ es, ?_, h2.append k2, fun d hd => ?_⟩
    · have : cs.drop off = (cs.drop off).take (P.cellsOf f.1) ++ cs.drop (off + P.cellsOf f.1) := by
        rw [← List.drop_drop, List.take_append_drop]
      rw [this]
      exact h1.append k1
    · rcases List.mem_append.1 hd with h | h
      · exact h3 d h
      · exact k3 d h
  | [], _, _ :: _, h, _, _, _ => by simp at h
  | _ :: _, _, [], h, _, _, _ => by simp at h

theorem mapM_length' {α β : Type} {f : α → Option β} : ∀ {l : List α} {r : List β}, l.mapM f = some r → r.length = l.length ∧ ∀ (j : Nat) a, l[j]? = some a → f a = r[j]?
  | [], r, h => by simp at h; subst h; simp
  | a :: l, r, h => by
    rw [List.mapM_cons] at h
    cases ha : f a with
    | none => simp [ha] at h
    | some b =>
      cases hl : l.mapM f with
      | none => simp [ha, hl] at h
      | some bs =>
        simp [ha, hl] at h
        subst h
        obtain ⟨h1, h2⟩ := mapM_length' hl
        refine ⟨by simp [h1], fun j a' hj => ?_⟩
        cases j with
        | zero => simp at hj; subst hj; simpa using ha
        | succ j => simpa using h2 j a' (by simpa using hj)

theorem pick_list {α : Type} {p : Nat → α → Prop} : ∀ {len : Nat}, (∀ i, i < len → ∃ v, p i v) → ∃ l : List α, l.length = len ∧ ∀ i v, l[i]? = some v → p i v
  | 0, _ => ⟨[], rfl, by simp⟩
  | len + 1, one => by
    obtain ⟨l, h1, h2⟩ := pick_list (len := len) fun i hi => one i (by omega)
    obtain ⟨v, hv⟩ := one len (by omega)
    refine ⟨l ++ [v], by simp [h1], fun i v' hv' => ?_⟩
    rcases Nat.lt_or_ge i len with hi | hi
    · rw [List.getElem?_append_left (by omega)] at hv'; exact h2 i v' hv'
    · have := getElem?_lt hv'
      simp only [List.length_append, List.length_cons, List.length_nil] at this
      have e : i = len := by omega
      subst e
      rw [List.getElem?_append_right (by omega), h1, Nat.sub_self] at hv'
      cases hv'
      exact hv

theorem sum_replicate (k c : Nat) : (List.replicate k c).sum = k * c := by
  induction k with
  | zero => simp
  | succ k ih => rw [List.replicate_succ, List.sum_cons, ih, Nat.succ_mul]; omega

theorem rep_trod (hK : Kids P (· < P.types.size)) (KD : Kinds (T := T) P cu) : ∀ (n m : Nat) (t : TypeId) (cs : List Value) (x : DataW H × List MemPlace) (ps : List (Pt T)), t < P.types.size →
    DataW.trod enc P w base spare held n t cs = some x → flat P cu m t = some ps → ∃ ds, RepDs (T := T) (immW w) w ds cs ∧ ksOK ps ds ∧ ∀ d ∈ ds, WfD T d := by
  intro n
  induction n with
  | zero => intro m t cs x ps _ h; simp [DataW.trod] at h
  | succ n ih =>
    intro m
    induction m with
    | zero => intro t cs x ps _ _ h; simp [flat] at h
    | succ m ihm =>
      intro t cs x ps ht h hf
      simp only [flat] at hf
      split at hf
      · rename_i hu
        cases hf
        obtain ⟨b, rfl, rfl⟩ := DataW.trod_bool hu h
        exact ⟨[.bool b], ⟨.bool b, trivial⟩, ⟨trivial, trivial⟩, by simpa using .bool b⟩
      · rename_i k hu
        cases hf
        obtain ⟨i, rfl, rfl, hw⟩ := DataW.trod_int hu h
        exact ⟨[.int k i], ⟨.int k i, trivial⟩, ⟨rfl, trivial⟩, by simpa using .int k i hw⟩
      · rename_i hu
        cases hf
        obtain ⟨s, rfl, rfl, hs⟩ := DataW.trod_string hu h
        exact ⟨[.str s], ⟨.str s, trivial⟩, ⟨trivial, trivial⟩, by simpa using .str s hs⟩
      · rename_i e hu
        split at hf
        · rename_i u hcu
          cases hf
          rcases DataW.trod_slice hu h with ⟨rfl, _⟩ | ⟨a, len, cap, elems, rest, n', hn, rfl, _, hb, hlc, hcm, hel, hall, _, _⟩
          · exact ⟨[.sl u []], ⟨.nil u none 0, trivial⟩, ⟨rfl, trivial⟩, by simpa using .sl u [] (by simp) (by simp)⟩
          · cases hn
            have hte : e < P.types.size := hK.slice ht hu
            have one : ∀ i, i < len → ∃ v : T.El u, ∃ cs', w.cells? base (a.add (i * P.cellsOf e)) (P.cellsOf e) = some cs' ∧ RepDs (T := T) (immW w) w (T.enc u v) cs' ∧ WfE T u v ∧ P.cellsOf e = T.size u := by
              intro i hi
              have h1 := hall i hi
              rw [List.getElem?_eq_getElem (by omega)] at h1
              obtain ⟨cs', hc, ht'⟩ := Option.bind_eq_some_iff.1 h1
              obtain ⟨ds, r1, r2, r3⟩ := ih KD.fuel e cs' _ (KD.ks u) hte ht' (KD.flat e u hcu)
              obtain ⟨v, hv⟩ := KD.dec u ds r2
              have he := T.dec_enc u ds v hv
              refine ⟨v, cs', hc, by rw [he]; exact r1, by unfold WfE; rw [he]; exact r3, ?_⟩
              have := (World.cells?_some hc).2.1
              rw [← this, ← r1.length, ← he, T.enc_len]
            obtain ⟨l, hl, hv⟩ := pick_list one
            subst hl
            have wf : WfD T (.sl u l) := .sl u l (by omega) fun i v hi j d hd => by
              obtain ⟨_, _, _, hw, _⟩ := hv i v hi
              exact hw d (List.mem_of_getElem? hd)
            refine ⟨[.sl u l], ⟨RepD.sl_iff.2 ⟨some a, cap, rfl, hlc, ?_⟩, trivial⟩, ⟨rfl, trivial⟩, by simpa using wf⟩
            by_cases hl0 : l = []
            · exact .inl hl0
            · have hlen : 0 < l.length := List.length_pos_iff.2 hl0
              have hsz := T.size_pos u
              have cell : ∀ i v, l[i]? = some v → ∀ j d, (T.enc u v)[j]? = some d → ∃ c, w.cell? (a.add (i * T.size u + j)) = some c ∧ RepD T (immW w) w d c := by
                intro i v hi j d hd
                obtain ⟨cs', hc, hr, _, hC⟩ := hv i v hi
                obtain ⟨_, hcl, hat⟩ := World.cells?_some hc
                obtain ⟨c, hc1, hc2⟩ := hr.get hd
                have hj := getElem?_lt hd
                rw [T.enc_len] at hj
                refine ⟨c, ?_, hc2⟩
                have := hat j (by omega)
                rw [Go.Deep.add_add, hC] at this
                rw [this, hc1]
              -- the last cell
              have hlast : ∃ v, l[l.length - 1]? = some v := ⟨l[l.length - 1], List.getElem?_eq_getElem (by omega)⟩
              obtain ⟨v, hvl⟩ := hlast
              have hd : ∃ d, (T.enc u v)[T.size u - 1]? = some d := ⟨(T.enc u v)[T.size u - 1]'(by rw [T.enc_len]; omega), List.getElem?_eq_getElem _⟩
              obtain ⟨d, hd⟩ := hd
              obtain ⟨c, hc, _⟩ := cell _ v hvl _ d hd
              have hd0 : ∃ v0, l[0]? = some v0 := ⟨l[0], List.getElem?_eq_getElem hlen⟩
              obtain ⟨v0, hv0⟩ := hd0
              have hd1 : ∃ d, (T.enc u v0)[0]? = some d := ⟨(T.enc u v0)[0]'(by rw [T.enc_len]; omega), List.getElem?_eq_getElem _⟩
              obtain ⟨d0, hd0⟩ := hd1
              obtain ⟨c0, hc0, _⟩ := cell _ v0 hv0 _ d0 hd0
              obtain ⟨b, off, spot⟩ := a
              have i0 := cell_imm hc0
              have hsp : spot = none := by
                have := i0.2.1
                simpa [Addr.add] using this
              subst hsp
              have i1 := cell_imm hc
              have hadd : ∀ k, (⟨b, off, none⟩ : Addr).add k = ⟨b, off + k, none⟩ := fun k => by
                unfold Addr.add; split <;> simp_all
              rw [hadd] at i1 i0
              simp only at i1 i0
              refine .inr ⟨b, off, rfl, i1.1, ?_, fun i v hi j d hd => ?_⟩
              · have h1 := i1.2.2
                have h2 : (l.length - 1) * T.size u + T.size u = l.length * T.size u := by
                  rw [← Nat.succ_mul]; congr 1; omega
                omega
              · obtain ⟨c, h1, h2⟩ := cell i v hi j d hd
                rw [hadd, ← Nat.add_assoc] at h1
                exact ⟨c, h1, h2⟩
        · cases hf
      · rename_i fs hu
        split at hf
        · rename_i pss hp
          cases hf
          obtain ⟨xs, n', hn, _, hcl, hxl, hall⟩ := DataW.trod_struct hu h
          cases hn
          obtain ⟨k1, k2, k3⟩ := hK.struct ht hu
          obtain ⟨hpl, hpf⟩ := mapM_length' hp
          have key := rep_parts (T := T) (P := P) (w := w) (imm := immW w) (H := H) (fun _ _ => none) cs (fs.toList.map fun f => (f.type, f.offset)) 0 pss (by simp [hpl]) (by
              rw [hcl, k2, List.map_map]; simp [Function.comp_def]) (fun j f hj => by
              rw [List.getElem?_map] at hj
              obtain ⟨g, hg, rfl⟩ := Option.map_eq_some_iff.1 hj
              have := k3 j g hg
              simp only [Nat.zero_add, ← List.map_take, List.map_map]
              exact this) (fun j f qs hj hq => by
              rw [List.getElem?_map] at hj
              obtain ⟨g, hg, rfl⟩ := Option.map_eq_some_iff.1 hj
              have h1 := hall j g (by simpa using hg)
              have hjl := getElem?_lt hg
              rw [List.getElem?_eq_getElem (by rw [hxl]; simpa using hjl)] at h1
              exact ih m g.type _ _ qs (k1 g (List.mem_of_getElem? hg)) h1 ((hpf j g hg).trans hq))
          simpa using key
        · cases hf
      · rename_i k e hu
        split at hf
        · rename_i qs hp
          cases hf
          obtain ⟨xs, n', hn, _, hcl, hxl, hall⟩ := DataW.trod_array hu h
          cases hn
          obtain ⟨k1, k2⟩ := hK.array ht hu
          have key := rep_parts (T := T) (P := P) (w := w) (imm := immW w) (H := H) (fun _ _ => none) cs ((List.range k).map fun i => (e, i * P.cellsOf e)) 0 (List.replicate k qs) (by simp) (by
              rw [hcl, k2, List.map_map]
              have : ((fun f : TypeId × Nat => P.cellsOf f.1) ∘ fun i => (e, i * P.cellsOf e)) = fun _ => P.cellsOf e := rfl
              rw [this, List.map_const', List.length_range, sum_replicate]; simp) (fun j f hj => by
              rw [List.getElem?_map] at hj
              obtain ⟨i, hi, rfl⟩ := Option.map_eq_some_iff.1 hj
              have hjl := getElem?_lt hi
              rw [List.getElem?_eq_getElem hjl] at hi
              simp only [List.getElem_range, Option.some.injEq] at hi
              subst hi
              simp only [Nat.zero_add, ← List.map_take, List.map_map]
              have : ((fun f : TypeId × Nat => P.cellsOf f.1) ∘ fun i => (e, i * P.cellsOf e)) = fun _ => P.cellsOf e := rfl
              rw [this, List.map_const', List.length_take, List.length_range, sum_replicate]
              simp only [List.length_range] at hjl
              rw [Nat.min_eq_left (by omega)]) (fun j f qs' hj hq => by
              rw [List.getElem?_map] at hj
              obtain ⟨i, hi, rfl⟩ := Option.map_eq_some_iff.1 hj
              have hjl := getElem?_lt hi
              rw [List.getElem?_eq_getElem hjl] at hi
              simp only [List.getElem_range, Option.some.injEq] at hi
              subst hi
              simp only [List.length_range] at hjl
              have hrep : (List.replicate k qs)[j]? = some qs := by simp [hjl]
              rw [hrep] at hq
              cases hq
              have h1 := hall j hjl
              rw [List.getElem?_eq_getElem (by omega)] at h1
              exact ih m e _ _ qs k1 h1 hp)
          simpa using key
        · cases hf
      · cases hf
end
end Go.G
