import Derived.Test.YtiifmafolmmelaaGE2
import Derived.Laws.MakeOwn
import Derived.Laws.Cover1
import Derived.Laws.BytesArg
import Derived.RangeFuncRecord
set_option linter.unusedVariables false
set_option linter.unusedSimpArgs false
namespace Go.G
variable {T : Uni}

def PK.slots : PK T → List Nat
  | .move x | .box x | .load _ _ x | .faddr _ x | .fld _ _ _ x | .ext _ x | .not x | .neg x | .len x | .slen x | .conv _ x | .same x | .nilk x | .clr _ _ x | .mksl _ _ _ x | .tostr _ x => x.slots
  | .and c x | .or c x | .store _ c x | .iaddr _ c x | .iarr _ _ c x | .idx _ _ _ c x | .idi _ _ c x | .sidx c x | .bin _ c x | .eqb _ c x | .eqa _ _ c x | .seqs _ c x | .app _ _ c x => c.slots ++ x.slots
  | .alloc _ | .mkm _ _ => []
  | .gat _ i => i.slots
  | .mlook _ _ _ _ x i => x.slots ++ i.slots
  | .mupd _ _ x k v => x.slots ++ (k.slots ++ v.slots)
  | .build _ ps => Opd.all (ps.map (·.2.2))
  | .mks _ xs | .call _ xs | .mkf _ xs => Opd.all xs
  | .maxi x y | .mini x y => x.slots ++ y.slots
  | .maxi3 x y z => x.slots ++ (y.slots ++ z.slots)
  | .look3 x a b c => x.slots ++ (a.slots ++ (b.slots ++ c.slots))
  | .bad => []
  | .dyn f xs => f.slots ++ Opd.all xs
  | .slice _ x lo hi mx => x.slots ++ (Opd.all lo.toList ++ (Opd.all hi.toList ++ Opd.all mx.toList))

/-! ### From the model's operation to ours -/
def isFn (P : Program) (f : FuncId) : Bool :=
  match P.funcs[f]? with
  | some fn => !(fn.name == "runtime.NumGoroutine") && !fn.body.isNone
  | none => false

theorem isFn_ok {P : Program} {f : FuncId} (h : isFn P f = true) : FnOK P f := by
  unfold isFn at h
  split at h
  · rename_i fn hf
    simp only [Bool.and_eq_true, Bool.not_eq_true'] at h
    exact ⟨fn, hf, h.1, h.2⟩
  · cases h

/-- The element type of a slice type, with our name for it. -/
def slT (P : Program) (cu : TypeId → Option T.U) (t : TypeId) : Option T.U :=
  match P.underlying t with
  | some (.slice e) => match cu e with
    | some u => if tySz P e = some (T.size u) then some u else none
    | none => none
  | _ => none

theorem slT_ok {P : Program} {cu : TypeId → Option T.U} {t : TypeId} {u : T.U} (h : slT P cu t = some u) : ∃ e, P.underlying t = some (.slice e) ∧ tySz P e = some (T.size u) := by
  unfold slT at h
  split at h
  · rename_i e hu
    split at h
    · split at h
      · rename_i hs; cases h; exact ⟨e, hu, hs⟩
      · cases h
    · cases h
  · cases h

def appT (P : Program) (cu : TypeId → Option T.U) (t : TypeId) : Option (T.U × Nat) :=
  match P.underlying t with
  | some (.slice e) => match P.info? e, cu e with
    | some i, some u => match i.zero with
      | some z => if z.cells.size = T.size u ∧ i.size = T.size u then some (u, i.bytes) else none
      | none => none
    | _, _ => none
  | _ => none

theorem appT_ok {P : Program} {cu : TypeId → Option T.U} {t : TypeId} {u : T.U} {bytes : Nat} (h : appT P cu t = some (u, bytes)) : ∃ e, AppT P u t e bytes := by
  unfold appT at h
  split at h
  · rename_i e hu
    split at h
    · rename_i i _ hi _
      split at h
      · rename_i z hz
        split at h
        · rename_i hzs
          cases h
          exact ⟨e, hu, i, z, hi, hz, hzs.1, hzs.2, rfl⟩
        · cases h
      · cases h
    · cases h
  · cases h

def zD1 : Option T.U → Value → Option (DV T.toSig)
  | _, .int k n => some (.int k n)
  | _, .bool b => some (.bool b)
  | _, .string s => some (.str s)
  | some u, .slice none 0 0 => some (.sl u [])
  | _, _ => none
def zDs : List (Option T.U) → List Value → Option (List (DV T.toSig))
  | [], [] => some []
  | sh :: shs, v :: vs => match zD1 sh v, zDs shs vs with
    | some d, some ds => some (d :: ds)
    | _, _ => none
  | _, _ => none
theorem zD1_rep {imm : Nat → Nat} {w : World} {sh : Option T.U} {v : Value} {d : DV T.toSig} (h : zD1 sh v = some d) : RepD T imm w d v := by
  unfold zD1 at h
  split at h <;> cases h
  · exact .int _ _
  · exact .bool _
  · exact .str _
  · exact .nil _ _ _
theorem zDs_rep {imm : Nat → Nat} {w : World} : ∀ {shs : List (Option T.U)} {vs : List Value} {ds : List (DV T.toSig)}, zDs shs vs = some ds → RepDs imm w ds vs
  | [], [], ds, h => by cases h; trivial
  | sh :: shs, v :: vs, ds, h => by
    simp only [zDs] at h
    split at h
    · rename_i d ds' h1 h2
      cases h
      exact ⟨zD1_rep h1, zDs_rep h2⟩
    · cases h
  | [], _ :: _, _, h => by cases h
  | _ :: _, [], _, h => by cases h
def clrT (P : Program) (cu : TypeId → Option T.U) (t : TypeId) : Option (T.U × List (DV T.toSig)) :=
  match P.underlying t with
  | some (.slice e) => match P.info? e, cu e with
    | some i, some u => match i.zero with
      | some z => match zDs (T.shape u) z.cells.toList with
        | some ds => some (u, ds)
        | none => none
      | none => none
    | _, _ => none
  | _ => none
theorem clrT_ok {P : Program} {cu : TypeId → Option T.U} {t : TypeId} {u : T.U} {ds : List (DV T.toSig)} (h : clrT P cu t = some (u, ds)) : ∃ e, P.underlying t = some (.slice e) ∧ ∃ i zv, P.info? e = some i ∧ i.zero = some zv ∧ ∀ (imm : Nat → Nat) (w : World), RepDs imm w ds zv.cells.toList := by
  unfold clrT at h
  split at h
  · rename_i e hu
    split at h
    · rename_i i _ hi _
      split at h
      · rename_i z hz
        split at h
        · rename_i ds' hd
          cases h
          exact ⟨e, hu, i, z, hi, hz, fun imm w => zDs_rep hd⟩
        · cases h
      · cases h
    · cases h
  · cases h

/-- The same operand, twice. -/
def sameO : Operand → Operand → Bool
  | .tmp i, .tmp j => Nat.beq i j
  | .const (.int k a), .const (.int k' b) => IntKind.same k k' && ieq a b
  | _, _ => false
theorem kind_same {k k' : IntKind} (h : IntKind.same k k' = true) : k = k' := by
  cases k <;> cases k' <;> first | rfl | cases h
theorem sameO_eq {x y : Operand} (h : sameO x y = true) : x = y := by
  unfold sameO at h
  split at h
  · rw [Nat.eq_of_beq_eq_true h]
  · rw [Bool.and_eq_true] at h
    rw [kind_same h.1]
    have := h.2
    simp only [ieq, decide_eq_true_eq] at this
    rw [this]
  · cases h
def mkT (P : Program) (cu : TypeId → Option T.U) (t : TypeId) : Option (T.U × Nat × List (DV T.toSig)) :=
  match P.underlying t with
  | some (.slice e) => match P.info? e, cu e with
    | some i, some u => match i.zero with
      | some z => match zDs (T.shape u) z.cells.toList with
        | some ds => match Nat.blt 0 i.bytes && Nat.beq i.size z.cells.size with
          | true => some (u, i.bytes, ds)
          | false => none
        | none => none
      | none => none
    | _, _ => none
  | _ => none
theorem mkT_ok {P : Program} {cu : TypeId → Option T.U} {t : TypeId} {u : T.U} {b : Nat} {ds : List (DV T.toSig)} (h : mkT P cu t = some (u, b, ds)) : ∃ e, P.underlying t = some (.slice e) ∧ ∃ i zv, P.info? e = some i ∧ i.zero = some zv ∧ i.bytes = b ∧ 0 < b ∧ i.size = zv.cells.size ∧ ∀ (imm : Nat → Nat) (w : World), RepDs imm w ds zv.cells.toList := by
  unfold mkT at h
  split at h
  · rename_i e hu
    split at h
    · rename_i i _ hi _
      split at h
      · rename_i z hz
        split at h
        · rename_i ds' hd
          split at h
          · rename_i hb
            cases h
            rw [Bool.and_eq_true] at hb
            exact ⟨e, hu, i, z, hi, hz, rfl, by have := hb.1; simp only [Nat.blt, Nat.ble_eq] at this; omega, Nat.eq_of_beq_eq_true hb.2, fun imm w => zDs_rep hd⟩
          · cases h
        · cases h
      · cases h
    · cases h
  · cases h

def cCall (P : Program) (cu : TypeId → Option T.U) (dst : Option Nat) (c : Call) : Option (PK T) :=
  match c.callee with
  | .builtin .len => match c.args.toList, c.argTypes.toList with
    | [x], [t] => match cOpd x, P.underlying t with
      | some y, some (.slice _) => some (.len y)
      | some y, some .string => some (.slen y)
      | _, _ => none
    | _, _ => none
  | .builtin .append => match c.args.toList, c.argTypes.toList with
    | [x, y], [t, t'] => match P.underlying t' with
      | some (.slice _) => match cOpd x, cOpd y, appT P cu t with
        | some a, some b, some (u, bytes) => some (.app u bytes a b)
        | _, _, _ => none
      | _ => none
    | _, _ => none
  | .builtin .clear => match c.args.toList, c.argTypes.toList, dst with
    | [x], [t], none => match cOpd x, clrT P cu t with
      | some a, some (u, z) => some (.clr u z a)
      | _, _ => none
    | _, _, _ => none
  | .builtin .max => match c.args.toList with
    | [x, y] => match cOpd x, cOpd y with
      | some a, some b => some (.maxi a b)
      | _, _ => none
    | _ => none
  | .builtin .min => match c.args.toList with
    | [x, y] => match cOpd x, cOpd y with
      | some a, some b => some (.mini a b)
      | _, _ => none
    | _ => none
  | .value (.func f) => if isFn P f then match cOpds c.args.toList with
      | some xs => some (.call f xs)
      | none => none
    else none
  | .value g => match cOpd g, cOpds c.args.toList with
    | some y, some xs => some (.dyn y xs)
    | _, _ => none
  | _ => none

def cBin (P : Program) (op : BinOp) (t : TypeId) (x y : Opd T) : Option (PK T) :=
  match P.underlying t with
  | some (.int _) => some (.bin op x y)
  | some .bool => match op with
    | .eql => some (.eqb false x y)
    | .neq => some (.eqb true x y)
    | _ => none
  | some (.struct _) | some (.array _ _) => if P.eqGuardType P.depth t then none else match kinds P 50 t with
    | some ks => match op with
      | .eql => some (.eqa false ks x y)
      | .neq => some (.eqa true ks x y)
      | _ => none
    | none => none
  | _ => none

def keyT (P : Program) (cu : TypeId → Option T.U) (t : TypeId) : Option T.U :=
  match cu t with
  | some u => if kinds P 50 t = some (T.kds u) ∧ tyAg P t = some (T.ag u) ∧ T.isKey u = true then some u else none
  | none => none

theorem keyT_ok {P : Program} {cu : TypeId → Option T.U} {t : TypeId} {u : T.U} (h : keyT P cu t = some u) : KeyT P u t := by
  unfold keyT at h
  split at h
  · split at h
    · rename_i hh; cases h; exact ⟨hh.1, hh.2.1, hh.2.2⟩
    · cases h
  · cases h

def valT (P : Program) (cu : TypeId → Option T.U) (t : TypeId) : Option (T.U × List (CV T)) :=
  match cu t, zShape P t with
  | some u, some z => if tyAg P t = some (T.ag u) then some (u, z) else none
  | _, _ => none

def compK (P : Program) (cu : TypeId → Option T.U) (o : Oper) : Option (PK T) :=
  match o.op with
  | .move x | .assign x => match cOpd x with
    | some y => some (.move y)
    | none => none
  | .pick c a b => match a, b with
    | x, .const (.bool false) => match cOpd c, cOpd x with
      | some c', some x' => some (.and c' x')
      | _, _ => none
    | .const (.bool true), x => match cOpd c, cOpd x with
      | some c', some x' => some (.or c' x')
      | _, _ => none
    | _, _ => none
  | .alloc e => match zCells P e with
    | some z => some (.alloc z)
    | none => none
  | .box _ x => match cOpd x with
    | some y => some (.box y)
    | none => none
  | .build t ps => cBuild P t ps.toList
  | .buildSlice t len ps => cMks P cu t len ps.toList
  | .load t x => match cOpd x, tyAg P t, tySz P t with
    | some y, some ag, some m => if ag = false ∧ m ≠ 1 then none else some (.load m ag y)
    | _, _, _ => none
  | .store t x y => match cOpd x, cOpd y, tySz P t, o.dst with
    | some a, some b, some m, none => some (.store m a b)
    | _, _, _, _ => none
  | .fieldAddr s x i => match cOpd x, fieldOff P s i with
    | some y, some d => some (.faddr d y)
    | _, _ => none
  | .field s x i => match P.underlying s with
    | some (.struct fs) => match fs[i]? with
      | some f => match cOpd x, tyAg P f.type, tySz P f.type with
        | some y, some ag, some m => if ag = false ∧ m ≠ 1 then none else some (.fld f.offset m ag y)
        | _, _, _ => none
      | none => none
    | _ => none
  | .indexAddr t x i => match P.underlying t with
    | some (.slice _) => match cOpd x, cOpd i, slT P cu t with
      | some a, some b, some u => some (.iaddr u a b)
      | _, _, _ => none
    | some (.array len e) => match cOpd x, cOpd i, tySz P e with
      | some a, some b, some m => some (.iarr m len a b)
      | _, _, _ => none
    | _ => none
  | .extract x i => match cOpd x with
    | some y => some (.ext i y)
    | none => none
  | .binOp op t x y _ => match cOpd x, cOpd y with
    | some a, some b => cBin P op t a b
    | _, _ => none
  | .unOp op _ x => match cOpd x, op with
    | some y, .not => some (.not y)
    | some y, .neg => some (.neg y)
    | _, _ => none
  | .convert s t x => match cOpd x, P.underlying s, P.underlying t with
    | some y, some _, some (.int k) => some (.conv k y)
    | _, _, _ => none
  | .call c => cCall P cu o.dst c
  | .makeFunc (.func f) first caps => match first.toList, cOpds caps.toList with
    | [], some xs => some (.mkf f xs)
    | _, _ => none
  | .nilCheck x => match cOpd x with
    | some y => some (.nilk y)
    | none => none
  | .makeMap t none => match P.underlying t with
    | some (.map key elem) => match keyT P cu key, valT P cu elem with
      | some uk, some (uv, _) => some (.mkm uk uv)
      | _, _ => none
    | _ => none
  | .lookup t x i comma => match P.underlying t with
    | some (.map key elem) => match cOpd x, cOpd i, keyT P cu key, valT P cu elem with
      | some a, some b, some uk, some (uv, z) => some (.mlook uk uv z comma a b)
      | _, _, _, _ => none
    | _ => none
  | .mapUpdate t x k v | .insert t x k v => match P.underlying t with
    | some (.map key elem) => match cOpd x, cOpd k, cOpd v, keyT P cu key, valT P cu elem, o.dst with
      | some a, some b, some c, some uk, some (uv, _), none => some (.mupd uk uv a b c)
      | _, _, _, _, _, _ => none
    | _ => none
  | .slice t x lo hi none => match slT P cu t, cOpd x, cOpo lo, cOpo hi with
    | some u, some a, some l, some h => some (.slice u a l h none)
    | _, _, _, _ => none
  | .slice t x (some lo) (some hi) (some mx) => match slT P cu t, cOpd x, cOpd lo, cOpd hi, cOpd mx with
    | some _, some a, some l, some h, some m => some (.look3 a l h m)
    | _, _, _, _, _ => none
  | .makeSlice t x y => match sameO x y, cOpd x, mkT P cu t with
    | true, some a, some (u, b, z) => some (.mksl u b z a)
    | _, _, _ => none
  | _ => none

/-- A call handler is sound. -/
def CallSound (P : Program) (call : CallH T) : Prop :=
  ∀ (X : Type) (f : FuncId) (args : List (PV T)) (H : St T) (n lim : Nat) (K : PV T → St T → Nat → Option X) (r : X), call X f args H n lim K = some r →
    ∃ pv H' n', K pv H' n' = some r ∧ n ≤ n' ∧ n' ≤ lim ∧ FnOK P f ∧ CallOK P f args H n n' pv H' ∧ (∀ l g, (l, g) ∈ H' → ∃ nm, l = .h nm ∧ ((∃ g', (l, g') ∈ H) ∨ (n ≤ nm ∧ nm < n')))

section
variable {S : Cls} {o : Oper} {σ : St T} {X : Type} {n lim : Nat} {r : X} {K : PV T → List Loc → Wr T → Nat → Option X}

/-- What an operation comes to. -/
def Out (S : Cls) (o : Oper) (σ : St T) (n lim : Nat) (K : PV T → List Loc → Wr T → Nat → Option X) (r : X) (k : PK T) : Prop :=
  ∃ x mrd mwr n', K x mrd mwr n' = some r ∧ n ≤ n' ∧ (n' ≤ lim ∨ n' = n) ∧ (∀ γ0 w0 ok, KValid (S.ctx γ0 w0 ok) o σ k.slots x mrd mwr n n') ∧ mrd.all memL = true ∧ (locs mwr).all memL = true

theorem Out.pure {k : PK T} {x : PV T} {mrd : List Loc} (hK : K x mrd [] n = some r) (hm : mrd.all memL = true) (hv : ∀ γ0 w0 ok, KValid (S.ctx γ0 w0 ok) o σ k.slots x mrd [] n n) : Out S o σ n lim K r k :=
  ⟨x, mrd, [], n, hK, Nat.le_refl _, .inr rfl, hv, hm, rfl⟩

theorem hs_mem (nms : List Nat) : (hs nms).all memL = true := by
  simp [hs, memL]

theorem frz_mem : ∀ (nms : List Nat), (locs (frz σ nms)).all memL = true
  | [] => rfl
  | nm :: r => by
    simp only [frz]
    split
    · simp only [locs, List.map_cons, List.all_cons, memL, Bool.true_and]; exact frz_mem r
    · exact frz_mem r

theorem blt_lt {a b : Nat} (h : Nat.blt a b = true) : a < b := by simp only [Nat.blt, Nat.ble_eq] at h; omega

theorem doCall_inv {call : CallH T} (hcall : CallSound S.P call) (hlim : lim ≤ S.lim) (hbase : S.base ≤ n) {f : FuncId} {ps : List (PV T)} {k : PK T} (h : doCall call σ n lim f ps K = some r) (hrun : ∀ C, CallRun C o σ k.slots f ps) : Out S o σ n lim K r k := by
  unfold doCall at h
  simp only at h
  split at h
  · rename_i hn
    obtain ⟨pv, H', n', h1, h2, h3, h4, h5, h6⟩ := hcall _ _ _ _ _ _ _ _ h
    have hH : ∀ l g, (l, g) ∈ heapAt σ (reach σ 100 (namesPs ps) []) → ∃ nm, l = .h nm ∧ look σ (.h nm) = some g := fun l g hm => heapAt_mem hm
    have hHn : ∀ nm f, (Loc.h nm, f) ∈ heapAt σ (reach σ 100 (namesPs ps) []) → nm < n := by
      intro nm f hm
      have key : ∀ (nms : List Nat), (nms.all fun nm => Nat.blt nm n) = true → ∀ nm f, (Loc.h nm, f) ∈ heapAt σ nms → nm < n := by
        intro nms
        induction nms with
        | nil => intro _ nm f hm; simp [heapAt] at hm
        | cons x xs ih =>
          intro hall nm f hm
          simp only [List.all_cons, Bool.and_eq_true] at hall
          simp only [heapAt] at hm
          split at hm
          · rcases List.mem_cons.1 hm with hm | hm
            · cases hm; exact blt_lt hall.1
            · exact ih hall.2 nm f hm
          · exact ih hall.2 nm f hm
      exact key _ hn nm f hm
    refine ⟨pv, _, _, n', h1, h2, .inl h3, fun _ _ _ => kv_call h4 (by show n' ≤ S.lim; omega) hbase h5 hH (fun nm f hm => .inl (hHn nm f hm)) h6 (hrun _), ?_, ?_⟩
    · rw [List.all_eq_true]
      intro l hl
      obtain ⟨⟨l', g⟩, hm, rfl⟩ := List.mem_map.1 hl
      obtain ⟨nm, rfl, _⟩ := hH l' g hm
      rfl
    · rw [List.all_eq_true]
      intro l hl
      simp only [locs, List.map_append, List.mem_append, List.mem_map] at hl
      rcases hl with ⟨x, ⟨⟨l', g⟩, hm, rfl⟩, rfl⟩ | ⟨x, ⟨⟨l', g⟩, hm, rfl⟩, rfl⟩
      · obtain ⟨nm, rfl, _⟩ := hH l' g hm; rfl
      · obtain ⟨nm, rfl, _⟩ := h6 l' g hm; rfl
  · cases h

theorem Rds.cons_ne {xs : List (Opd T)} {ps : List (PV T)} (_ : Rds σ xs ps) : True := trivial


theorem evK_sound {cu : TypeId → Option T.U} {k : PK T} (hc : compK S.P cu o = some k) {call : CallH T} (hcall : CallSound S.P call) (hlim : lim ≤ S.lim) (hbase : S.base ≤ n) (h : evK call σ n lim o.dst K k = some r) : Out S o σ n lim K r k := by
  have hloc : Nat.blt n lim = true → ∀ γ0 w0, (S.entry γ0 w0).loc n := fun hb γ0 w0 => ⟨hbase, by have := blt_lt hb; show n < S.lim; omega⟩
  unfold compK at hc
  split at hc
  · -- move
    rename_i x ho
    split at hc
    · rename_i y hy; cases hc
      replace h := rdv_inv h; obtain ⟨p, hp, h⟩ := h
      exact .pure h rfl (fun _ _ _ => kv_move (.inl ho) hy hp)
    · cases hc
  · rename_i x ho
    split at hc
    · rename_i y hy; cases hc
      replace h := rdv_inv h; obtain ⟨p, hp, h⟩ := h
      exact .pure h rfl (fun _ _ _ => kv_move (.inr ho) hy hp)
    · cases hc
  · -- pick
    rename_i c a b ho
    split at hc
    · split at hc
      · rename_i c' x' h1 h2; cases hc
        replace h := rdb_inv h; obtain ⟨cb, e1, h⟩ := h
        split at h
        · exact .pure h rfl (fun _ _ _ => kv_and_f ho h1 e1)
        · replace h := rdb_inv h; obtain ⟨xb, e2, h⟩ := h
          exact .pure h rfl (fun _ _ _ => kv_and_t ho h1 h2 e1 e2)
      · cases hc
    · split at hc
      · rename_i c' x' h1 h2; cases hc
        replace h := rdb_inv h; obtain ⟨cb, e1, h⟩ := h
        split at h
        · exact .pure h rfl (fun _ _ _ => kv_or_t ho h1 e1)
        · replace h := rdb_inv h; obtain ⟨xb, e2, h⟩ := h
          exact .pure h rfl (fun _ _ _ => kv_or_f ho h1 h2 e1 e2)
      · cases hc
    · cases hc
  · -- alloc
    rename_i e ho
    split at hc
    · rename_i z hz; cases hc
      simp only [evK] at h
      split at h
      · rename_i hb
        exact ⟨_, _, _, _, h, by omega, .inl (blt_lt hb), fun _ _ _ => kv_alloc ho hz (hloc hb _ _), rfl, rfl⟩
      · cases h
    · cases hc
  · -- box
    rename_i e x ho
    split at hc
    · rename_i y hy; cases hc
      simp only [evK] at h
      split at h
      · rename_i hb
        replace h := rdv_inv h; obtain ⟨p, hp, h⟩ := h
        split at h
        · rename_i cs hcs
          exact ⟨_, _, _, _, h, by omega, .inl (blt_lt hb), fun _ _ _ => kv_box ho hy hp hcs (hloc hb _ _), rfl, rfl⟩
        · cases h
      · cases h
    · cases hc
  · -- build
    rename_i t ps ho
    have hc0 := hc
    have hk : ∃ zs qs, k = .build zs qs := by
      unfold cBuild at hc
      split at hc
      · split at hc
        · split at hc
          · cases hc; exact ⟨_, _, rfl⟩
          · cases hc
        · cases hc
      · split at hc
        · split at hc
          · cases hc; exact ⟨_, _, rfl⟩
          · cases hc
        · cases hc
      · cases hc
    obtain ⟨zs, qs, rfl⟩ := hk
    replace h := rdps_inv h; obtain ⟨rs, hr, h⟩ := h
    split at h
    · rename_i out hout
      exact .pure h rfl (fun _ _ _ => kv_build ho hc0 hr hout)
    · cases h
  · -- buildSlice
    rename_i t len ps ho
    have hc0 := hc
    have hk : ∃ u xs, k = .mks u xs := by
      unfold cMks at hc
      split at hc
      · split at hc
        · split at hc
          · split at hc
            · cases hc; exact ⟨_, _, rfl⟩
            · cases hc
          · cases hc
        · cases hc
      · cases hc
    obtain ⟨u, xs, rfl⟩ := hk
    cases xs with
    | nil =>
      simp only [evK] at h
      exact .pure h rfl (fun _ _ _ => kv_mks0 ho hc0)
    | cons x xs =>
      simp only [evK] at h
      split at h
      · rename_i hb
        replace h := rdvs_inv h; obtain ⟨rs, hr, h⟩ := h
        split at h
        · rename_i as fs has
          refine ⟨_, _, _, _, h, by omega, .inl (blt_lt hb), fun _ _ _ => kv_mks ho hc0 hr has (by simp) (hloc hb _ _), hs_mem _, ?_⟩
          simp only [locs, List.map_cons, List.all_cons, memL, Bool.true_and]
          exact frz_mem fs
        · cases h
      · cases h
  · -- load
    rename_i t x ho
    split at hc
    · rename_i y ag m hy ha hm
      split at hc
      · cases hc
      · rename_i hcond
        cases hc
        have h1 : ag = false → m = 1 := fun e => by
          rcases Nat.decEq m 1 with h' | h'
          · exact absurd ⟨e, h'⟩ hcond
          · exact h'
        replace h := rdc_inv h; obtain ⟨c, hcv, h⟩ := h
        split at h
        · split at h
          · rename_i cs hb
            obtain ⟨p, hp, hl, rfl⟩ := ldv_inv h1 h
            exact .pure hp rfl (fun _ _ _ => kv_load ho hy ha hm h1 hcv hl fun σ' g2 γ a w hi hs v hv => load_ref hb g2 hs hv)
          · cases h
        · obtain ⟨p, hp, hl, rfl⟩ := ldv_inv h1 h
          exact .pure hp rfl (fun _ _ _ => kv_load ho hy ha hm h1 hcv hl fun σ' g2 γ a w hi hs v hv => load_cur hv)
        · split at h
          · rename_i hb
            split at h
            · rename_i hu _
              subst hu
              split at h
              · rename_i a hx
                obtain ⟨p, hp, hl, rfl⟩ := ldv_inv h1 h
                exact .pure hp rfl (fun _ _ _ => kv_load ho hy ha hm h1 hcv hl fun σ' g2 γ a w hi hs v hv => load_elm rfl hb hx g2 hs hv)
              · cases h
            · cases h
          · cases h
        · cases h
    · cases hc
  · -- store
    rename_i t x y ho
    split at hc
    · rename_i a b m ha hb hm hd; cases hc
      replace h := rdc_inv h; obtain ⟨c, hcv, h⟩ := h
      replace h := rdv_inv h; obtain ⟨q, hq, h⟩ := h
      split at h
      · rename_i new hnew
        split at h
        · rename_i hlen
          have hlen := Nat.eq_of_beq_eq_true hlen
          split at h
          · split at h
            · rename_i cs hlk
              split at h
              · rename_i hle
                exact ⟨_, _, _, _, h, Nat.le_refl _, .inr rfl, fun _ _ _ => kv_store_ref ho hd ha hb hm hcv hq hnew hlen hlk (by simpa using hle), rfl, rfl⟩
              · cases h
            · cases h
          · split at h
            · rename_i hlk
              split at h
              · rename_i hu _
                split at h
                · rename_i y0 hy0
                  split at h
                  · rename_i xs hrow
                    split at h
                    · rename_i y1 hdec
                      split at h
                      · rename_i hfm
                        exact ⟨_, _, _, _, h, Nat.le_refl _, .inr rfl, fun _ _ _ => kv_store_elm ho hd ha hb hm hcv hq hnew hlen hlk hu hy0 hrow hdec (by simpa using hfm), rfl, rfl⟩
                      · cases h
                    · cases h
                  · cases h
                · cases h
              · cases h
            · cases h
          · cases h
        · cases h
      · cases h
    · cases hc
  · -- fieldAddr
    rename_i s x i ho
    split at hc
    · rename_i y d hy hf; cases hc
      replace h := rdc_inv h; obtain ⟨c, hcv, h⟩ := h
      split at h
      · exact .pure h rfl (fun _ _ _ => kv_faddr ho hy hf hcv fun _ _ _ hv => faddr_ref hv)
      · split at h
        · rename_i hd
          exact .pure h rfl (fun _ _ _ => kv_faddr ho hy hf hcv fun _ _ _ hv => faddr_cur (by simpa using hd) hv)
        · cases h
      · exact .pure h rfl (fun _ _ _ => kv_faddr ho hy hf hcv fun _ _ _ hv => faddr_elm hv)
      · cases h
    · cases hc
  · -- field
    rename_i s x i ho
    split at hc
    · rename_i fs hu
      split at hc
      · rename_i f hf
        split at hc
        · rename_i y ag m hy ha hm
          split at hc
          · cases hc
          · rename_i hcond
            cases hc
            have h1 : ag = false → m = 1 := fun e => by
              rcases Nat.decEq m 1 with h' | h'
              · exact absurd ⟨e, h'⟩ hcond
              · exact h'
            replace h := rdv_inv h; obtain ⟨p0, hp0, h⟩ := h
            split at h
            · obtain ⟨p, hp, hl, rfl⟩ := ldv_inv h1 h
              exact .pure hp rfl (fun _ _ _ => kv_fld ho hy hu hf ha hm h1 hp0 hl)
            · cases h
        · cases hc
      · cases hc
    · cases hc
  · -- indexAddr
    rename_i t x i ho
    split at hc
    · split at hc
      · rename_i a b u ha hb hm; cases hc
        obtain ⟨e, hu, hm⟩ := slT_ok hm
        replace h := rdc_inv h; obtain ⟨c, hcv, h⟩ := h
        replace h := rdi_inv h; obtain ⟨kk, iv, hi, h⟩ := h
        split at h
        · split at h
          · rename_i he _
            subst he
            split at h
            · rename_i y hy
              exact .pure h rfl (fun _ _ _ => kv_iaddr_d ho ha hb hu hm hcv hi hy)
            · cases h
          · cases h
        · split at h
          · rename_i hlk
            split at h
            · rename_i he _
              subst he
              split at h
              · rename_i y hy
                obtain ⟨d0, d1, d2⟩ := dat_some hy
                exact .pure h rfl (fun _ _ _ => kv_iaddr_row ho ha hb hu hm hcv hlk hi hy d0 fun γ w v hv A cap hbt _ => iaddr_own d0 d1 hv A cap hbt)
              · cases h
            · cases h
          · cases h
        · split at h
          · rename_i hlk
            split at h
            · rename_i he0 he _ _
              subst he
              split at h
              · rename_i hbd
                simp only [Bool.and_eq_true, ile, ilt, decide_eq_true_eq] at hbd
                split at h
                · rename_i y hy
                  obtain ⟨d0, d1, d2⟩ := dat_some hy
                  exact .pure h rfl (fun _ _ _ => kv_iaddr_row ho ha hb hu hm hcv hlk hi hy hbd.1 fun γ w v hv A cap hbt _ => iaddr_buf (by rw [he0]) hbd.1 hbd.2 hv A cap hbt)
                · cases h
              · cases h
            · cases h
          · cases h
        · cases h
      · cases hc
    · rename_i len e hu
      split at hc
      · rename_i a b m ha hb hm; cases hc
        replace h := rdc_inv h; obtain ⟨c, hcv, h⟩ := h
        replace h := rdi_inv h; obtain ⟨kk, iv, hi, h⟩ := h
        split at h
        · rename_i hbd
          simp only [Bool.and_eq_true, ile, ilt, decide_eq_true_eq] at hbd
          split at h
          · exact .pure h rfl (fun _ _ _ => kv_iarr ho ha hb hu hm hcv hi hbd.1 hbd.2 fun _ _ _ hv => faddr_ref hv)
          · rename_i cs
            split at h
            case h_2 => cases h
            rename_i hle
            have hle : iv.toNat * m ≤ cs.length := by simpa using hle
            refine .pure h rfl (fun _ _ _ => kv_iarr ho ha hb hu hm hcv hi hbd.1 hbd.2 fun γ w v hv => ?_)
            obtain ⟨b, off, rfl, h2, h3, h4⟩ := hv
            refine ⟨b, off, rfl, b, off + iv.toNat * m, rfl, h2, ?_, h4.drop _⟩
            simp; omega
          · cases h
        · cases h
      · cases hc
    · cases hc
  · -- extract
    rename_i x i ho
    split at hc
    · rename_i y hy; cases hc
      replace h := rdv_inv h; obtain ⟨p0, hp0, h⟩ := h
      split at h
      · split at h
        · rename_i q hq
          exact .pure h rfl (fun _ _ _ => kv_ext ho hy hp0 hq)
        · cases h
      · cases h
    · cases hc
  · -- binOp
    rename_i op t x y t' ho
    split at hc
    · rename_i a b ha hb
      unfold cBin at hc
      split at hc
      · cases hc
        replace h := rdi_inv h; obtain ⟨k1, i1, e1, h⟩ := h
        replace h := rdi_inv h; obtain ⟨k2, i2, e2, h⟩ := h
        split at h
        · rename_i hk
          have hk := same_eq hk
          subst hk
          replace h := binI_inv h; obtain ⟨p, hp, h⟩ := h
          exact .pure h rfl (fun _ _ _ => kv_bin ho ha hb e1 e2 hp)
        · cases h
      · rename_i hu
        split at hc
        · cases hc
          replace h := rdb_inv h; obtain ⟨b1, e1, h⟩ := h
          replace h := rdb_inv h; obtain ⟨b2, e2, h⟩ := h
          exact .pure h rfl (fun _ _ _ => kv_eqb (neg := false) ho rfl ha hb hu e1 e2)
        · cases hc
          replace h := rdb_inv h; obtain ⟨b1, e1, h⟩ := h
          replace h := rdb_inv h; obtain ⟨b2, e2, h⟩ := h
          exact .pure h rfl (fun _ _ _ => kv_eqb (neg := true) ho rfl ha hb hu e1 e2)
        · cases hc
      all_goals first
        | (rename_i hu
           have hag : tyAg S.P t = some true := by simp [tyAg, hu]
           split at hc
           · cases hc
           · rename_i hg
             split at hc
             · rename_i ks hks
               split at hc
               · cases hc
                 replace h := rdv_inv h; obtain ⟨p1, e1, h⟩ := h
                 replace h := rdv_inv h; obtain ⟨p2, e2, h⟩ := h
                 split at h
                 · split at h
                   · rename_i r hr
                     exact .pure h rfl (fun _ _ _ => kv_eqa (neg := false) ho rfl ha hb hag (by simpa using hg) hks e1 e2 hr)
                   · cases h
                 · cases h
               · cases hc
                 replace h := rdv_inv h; obtain ⟨p1, e1, h⟩ := h
                 replace h := rdv_inv h; obtain ⟨p2, e2, h⟩ := h
                 split at h
                 · split at h
                   · rename_i r hr
                     exact .pure h rfl (fun _ _ _ => kv_eqa (neg := true) ho rfl ha hb hag (by simpa using hg) hks e1 e2 hr)
                   · cases h
                 · cases h
               · cases hc
             · cases hc)
        | cases hc
    · cases hc
  · -- unOp
    rename_i op t x ho
    split at hc
    · rename_i y hy; cases hc
      replace h := rdb_inv h; obtain ⟨b, e1, h⟩ := h
      exact .pure h rfl (fun _ _ _ => kv_not ho hy e1)
    · rename_i y hy; cases hc
      replace h := rdi_inv h; obtain ⟨k, b, e1, h⟩ := h
      exact .pure h rfl (fun _ _ _ => kv_neg ho hy e1)
    · cases hc
  · -- convert
    rename_i s t x ho
    split at hc
    · rename_i y d k hy hs hu; cases hc
      replace h := rdi_inv h; obtain ⟨k', b, e1, h⟩ := h
      exact .pure h rfl (fun _ _ _ => kv_conv ho hy hs hu e1)
    · cases hc
  · -- call
    rename_i c ho
    obtain ⟨callee, args, ts⟩ := c
    unfold cCall at hc
    simp only at hc
    split at hc
    · split at hc
      · rename_i x t hx ht
        have ha : args = #[x] := by apply Array.ext'; simpa using hx
        have hts : ts = #[t] := by apply Array.ext'; simpa using ht
        subst ha; subst hts
        split at hc
        · rename_i y e hy hu; cases hc
          replace h := rdc_inv h; obtain ⟨cc, e1, h⟩ := h
          split at h
          · rename_i u l
            refine .pure h rfl (fun _ _ _ => kv_len ho hy hu e1 fun σ' _ γ a w hs v hv => ?_)
            obtain ⟨A, cap, rfl, _⟩ := RepD.sl_iff.1 hv
            exact ⟨A, cap, by simp [dlen], by simp [dlen]⟩
          · refine .pure h rfl (fun _ _ _ => kv_len ho hy hu e1 fun σ' _ γ a w hs v hv => ?_)
            obtain ⟨A, rfl⟩ := hv
            exact ⟨A, 0, by simp, by simp⟩
          · split at h
            · rename_i hlk
              refine .pure h rfl (fun _ _ _ => kv_len ho hy hu e1 fun σ' g γ a w hs v hv => ?_)
              obtain ⟨A, cap, f1, _⟩ := hs.facts _ _ ((g _ (by simp)).trans hlk)
              obtain ⟨A0, l0, cap0, f2, rfl⟩ := hv
              rw [f1] at f2; cases f2
              exact ⟨A, cap, by simp [dlen], by simp [dlen]⟩
            · cases h
          · refine .pure h rfl (fun _ _ _ => kv_len ho hy hu e1 fun σ' g γ a w hs v hv => ?_)
            obtain ⟨A, l, cap, A', _, _, h0, _, _, rfl, _⟩ := hv
            exact ⟨A', _, rfl, h0⟩
          · cases h
        · rename_i y hy hu; cases hc
          replace h := rdc_inv h; obtain ⟨cc, e1, h⟩ := h
          split at h
          · exact .pure h rfl (fun _ _ _ => kv_slen ho hy hu e1)
          · cases h
        · cases hc
      · cases hc
    · split at hc
      · rename_i x y t t' hx ht
        split at hc
        · rename_i e' htt
          have hargs : args = #[x, y] := by apply Array.ext'; simpa using hx
          have hts : ts = #[t, t'] := by apply Array.ext'; simpa using ht
          subst hargs; subst hts
          split at hc
          · rename_i a b u bytes ha hb hT; cases hc
            obtain ⟨e, hT⟩ := appT_ok hT
            simp only [evK] at h
            split at h
            · rename_i hbl
              replace h := rdc_inv h; obtain ⟨c1, e1, h⟩ := h
              replace h := rdc_inv h; obtain ⟨c2, e2, h⟩ := h
              replace h := elems_inv h; obtain ⟨ys, rd, h, hrd, hel⟩ := h
              split at h
              · split at h
                · rename_i l' hd
                  refine ⟨_, _, _, _, h, by omega, .inl (blt_lt hbl), fun _ _ _ => kv_app (fz := false) (nm := n) ho ha hb hT htt e1 e2 (hel _) hd (hloc hbl _ _) (fun q hq => hq) (fun q f hm => ?_) (fun σ' g γ a w hs hfr v hv => ?_), hrd, rfl⟩
                  · simp only [List.mem_singleton, Prod.mk.injEq, Option.some.injEq] at hm
                    exact hm
                  · obtain ⟨A, rfl⟩ := hv
                    exact ⟨A, 0, rfl, Nat.le_refl _, .inl ⟨rfl, rfl⟩, fun ⟨b, hb⟩ => absurd hb ((hfr n (Nat.le_refl _) (Nat.lt_succ_self _)).2 b)⟩
                · cases h
              · rename_i u0 nm
                split at h
                · rename_i u1 l1 fz1 hlk
                  split at h
                  · rename_i hu _
                    subst hu
                    split at h
                    · rename_i l' hd
                      refine ⟨_, _, _, _, h, by omega, .inl (blt_lt hbl), fun _ _ _ => kv_app (fz := fz1) (nm := nm) ho ha hb hT htt e1 e2 (hel _) hd (hloc hbl _ _) (fun q hq => List.mem_cons_of_mem _ hq) (fun q f hm => ?_) (fun σ' g γ a w hs hfr v hv => ?_), by rw [List.all_cons, hrd]; rfl, rfl⟩
                      · simp only [List.mem_cons, Prod.mk.injEq, reduceCtorEq, and_false, Option.some.injEq, List.not_mem_nil, or_false, false_or] at hm
                        exact hm
                      · have hlk' := (g _ (by simp)).trans hlk
                        obtain ⟨A, cap, f1, f2, f3⟩ := hs.facts _ _ hlk'
                        obtain ⟨A0, l0, cap0, f4, rfl⟩ := hv
                        rw [f1] at f4; cases f4
                        exact ⟨A, cap, rfl, f2, f3, fun _ => ⟨hs.perm _ _ hlk', by simp [locs]⟩⟩
                    · cases h
                  · cases h
                · cases h
              · rename_i u0 nm off len
                split at h
                · rename_i u1 l1 hlk
                  split at h
                  · rename_i hu0 hu _ _
                    subst hu
                    subst hu0
                    split at h
                    · rename_i hb0
                      simp only [Bool.and_eq_true, ile, decide_eq_true_eq] at hb0
                      split at h
                      · rename_i l' hd
                        exact ⟨_, _, _, _, h, by omega, .inr rfl, fun _ _ _ => kv_appb (nm := nm) ho htt ha hb hT e1 e2 (hel _) hlk hb0.1 hb0.2 hd (fun q hq => List.mem_cons_of_mem _ hq) (by simp) rfl, by rw [List.all_cons, hrd]; rfl, rfl⟩
                      · cases h
                    · cases h
                  · cases h
                · cases h
              · cases h
            · cases h
          · cases hc
        · cases hc
      · cases hc
    · -- clear
      split at hc
      · rename_i x t hx ht hod
        have hargs : args = #[x] := by apply Array.ext'; simpa using hx
        have hts : ts = #[t] := by apply Array.ext'; simpa using ht
        subst hargs; subst hts
        split at hc
        · rename_i a u z ha hz; cases hc
          obtain ⟨e, hu, hzz⟩ := clrT_ok hz
          simp only [evK] at h
          replace h := rdc_inv h; obtain ⟨c1, e1, h⟩ := h
          split at h
          · rename_i u0 nm off len
            split at h
            · rename_i u1 l1 hlk
              split at h
              · rename_i hu0 hu1 _ _
                subst hu1
                subst hu0
                split at h
                · rename_i a0 hdec
                  split at h
                  · rename_i hb0
                    simp only [Bool.and_eq_true, ile, decide_eq_true_eq] at hb0
                    split at h
                    · rename_i l' hd
                      exact ⟨_, _, _, _, h, by omega, .inr rfl, fun _ _ _ => kv_clr ho hod ha hu hzz hdec e1 hlk hb0.1 hb0.2 hd, rfl, rfl⟩
                    · cases h
                  · cases h
                · cases h
              · cases h
            · cases h
          · cases h
        · cases hc
      · cases hc
    · split at hc
      · rename_i x y hx
        have hargs : args = #[x, y] := by apply Array.ext'; simpa using hx
        subst hargs
        split at hc
        · rename_i a b ha hb; cases hc
          simp only [evK] at h
          replace h := rdi_inv h; obtain ⟨k1, i1, e1, h⟩ := h
          replace h := rdi_inv h; obtain ⟨k2, i2, e2, h⟩ := h
          split at h
          · rename_i hk
            have hk := same_eq hk
            subst hk
            exact .pure h rfl (fun _ _ _ => kv_mm (big := true) ho ha hb e1 e2)
          · cases h
        · cases hc
      · cases hc
    · split at hc
      · rename_i x y hx
        have hargs : args = #[x, y] := by apply Array.ext'; simpa using hx
        subst hargs
        split at hc
        · rename_i a b ha hb; cases hc
          simp only [evK] at h
          replace h := rdi_inv h; obtain ⟨k1, i1, e1, h⟩ := h
          replace h := rdi_inv h; obtain ⟨k2, i2, e2, h⟩ := h
          split at h
          · rename_i hk
            have hk := same_eq hk
            subst hk
            exact .pure h rfl (fun _ _ _ => kv_mm (big := false) ho ha hb e1 e2)
          · cases h
        · cases hc
      · cases hc
    · rename_i f
      split at hc
      · split at hc
        · rename_i xs hxs; cases hc
          replace h := rdvs_inv h; obtain ⟨ps, hps, h⟩ := h
          exact doCall_inv hcall hlim hbase h (fun _ => callRun_call ho hxs hps)
        · cases hc
      · cases hc
    · rename_i g _
      split at hc
      · rename_i y xs hy hxs; cases hc
        replace h := rdc_inv h; obtain ⟨c, e1, h⟩ := h
        replace h := rdvs_inv h; obtain ⟨ps, hps, h⟩ := h
        split at h
        · exact doCall_inv hcall hlim hbase h (fun _ => callRun_dyn ho hy hxs e1 hps)
        · cases h
      · cases hc
    · cases hc
  · -- makeFunc
    rename_i f first caps ho
    split at hc
    · rename_i xs hfst hxs; cases hc
      have hf : first = #[] := by apply Array.ext'; simpa using hfst
      subst hf
      replace h := rdvs_inv h; obtain ⟨ps, hps, h⟩ := h
      split at h
      · rename_i ids hids
        exact .pure h rfl (fun _ _ _ => kv_mkf ho hxs hps hids)
      · cases h
    · cases hc
  · -- nilCheck
    rename_i x ho
    split at hc
    · rename_i y hy; cases hc
      replace h := rdc_inv h; obtain ⟨c, e1, h⟩ := h
      split at h
      · exact .pure h rfl (fun _ _ _ => kv_nilk ho hy e1 trivial)
      · exact .pure h rfl (fun _ _ _ => kv_nilk ho hy e1 trivial)
      · exact .pure h rfl (fun _ _ _ => kv_nilk ho hy e1 trivial)
      · exact .pure h rfl (fun _ _ _ => kv_nilk ho hy e1 trivial)
      · cases h
    · cases hc
  · -- makeMap
    rename_i t ho
    split at hc
    · split at hc
      · cases hc
        simp only [evK] at h
        split at h
        · rename_i hb
          exact ⟨_, _, _, _, h, by omega, .inl (blt_lt hb), fun _ _ _ => kv_mkm ho (hloc hb _ _), rfl, rfl⟩
        · cases h
      · cases hc
    · cases hc
  · -- lookup
    rename_i t x i comma ho
    split at hc
    · rename_i key elem hu
      split at hc
      · rename_i a b uk uv z hx hi hk hv; cases hc
        have K := keyT_ok hk
        have hz : zShape S.P elem = some z ∧ tyAg S.P elem = some (T.ag uv) := by
          unfold valT at hv
          split at hv
          · split at hv
            · rename_i hh; cases hv; exact ⟨by assumption, hh⟩
            · cases hv
          · cases hv
        replace h := rdc_inv h; obtain ⟨c, e1, h⟩ := h
        split at h
        · split at h
          · rename_i hb
            split at h
            · rename_i he he2 _ _
              subst he; subst he2
              replace h := rdv_inv h; obtain ⟨p, e2, h⟩ := h
              split at h
              · rename_i cs hp
                split at h
                · rename_i xs hrow
                  split at h
                  · rename_i kk hdec
                    have kv := fun γ0 w0 ok => kv_mlook (C := S.ctx γ0 w0 ok) (lo := n) (hi := n) ho hx hi hu K hz.1 hz.2 e1 e2 hp hrow hdec hb
                    split at h
                    · rename_i v hv'
                      rw [hv'] at kv
                      split at h
                      · exact .pure h rfl kv
                      · exact .pure h rfl kv
                    · rename_i hv'
                      rw [hv'] at kv
                      split at h
                      · exact .pure h rfl kv
                      · exact .pure h rfl kv
                  · cases h
                · cases h
              · cases h
            · cases h
          · cases h
        · cases h
      · cases hc
    · cases hc
  · -- mapUpdate
    rename_i t x kx vx ho
    split at hc
    · rename_i key elem hu
      split at hc
      · rename_i a b cc uk uv z hx hkx hvx hk hv hd; cases hc
        have K := keyT_ok hk
        replace h := rdc_inv h; obtain ⟨c, e1, h⟩ := h
        split at h
        · split at h
          · rename_i hb
            split at h
            · rename_i he he2 _ _
              subst he; subst he2
              replace h := rdv_inv h; obtain ⟨p, e2, h⟩ := h
              replace h := rdv_inv h; obtain ⟨q, e3, h⟩ := h
              split at h
              · rename_i cs ds hp hq
                split at h
                · rename_i xs ys hrow hrow2
                  split at h
                  · rename_i kk vv hdec hdec2
                    exact ⟨_, _, _, _, h, Nat.le_refl _, .inr rfl, fun _ _ _ => kv_mupd (.inl ho) hd hx hkx hvx hu K e1 e2 e3 hp hq hrow hdec hrow2 hdec2 hb, rfl, rfl⟩
                  · cases h
                · cases h
              · cases h
            · cases h
          · cases h
        · cases h
      · cases hc
    · cases hc
  · -- insert
    rename_i t x kx vx ho
    split at hc
    · rename_i key elem hu
      split at hc
      · rename_i a b cc uk uv z hx hkx hvx hk hv hd; cases hc
        have K := keyT_ok hk
        replace h := rdc_inv h; obtain ⟨c, e1, h⟩ := h
        split at h
        · split at h
          · rename_i hb
            split at h
            · rename_i he he2 _ _
              subst he; subst he2
              replace h := rdv_inv h; obtain ⟨p, e2, h⟩ := h
              replace h := rdv_inv h; obtain ⟨q, e3, h⟩ := h
              split at h
              · rename_i cs ds hp hq
                split at h
                · rename_i xs ys hrow hrow2
                  split at h
                  · rename_i kk vv hdec hdec2
                    exact ⟨_, _, _, _, h, Nat.le_refl _, .inr rfl, fun _ _ _ => kv_mupd (.inr ho) hd hx hkx hvx hu K e1 e2 e3 hp hq hrow hdec hrow2 hdec2 hb, rfl, rfl⟩
                  · cases h
                · cases h
              · cases h
            · cases h
          · cases h
        · cases h
      · cases hc
    · cases hc
  · -- slice
    rename_i t x lo hi ho
    split at hc
    · rename_i u a l hh hu ha hl hhi; cases hc
      obtain ⟨e, hu2, hm⟩ := slT_ok hu
      replace h := rdc_inv h; obtain ⟨c, e1, h⟩ := h
      simp only at h
      have hsl : ∀ {C : Ctx} {x : PV T} {mrd : List Loc}, KValid C o σ (a.slots ++ (Opd.all l.toList ++ Opd.all hh.toList)) x mrd [] n n → KValid C o σ (PK.slice u a l hh none).slots x mrd [] n n := fun h => h.slots (by simp [PK.slots, Opd.all])
      split at h
      · split at h
        · rename_i he _
          subst he
          replace h := rdo_inv h; obtain ⟨av, hla, h⟩ := h
          replace h := rdo_inv h; obtain ⟨bv, hlb, h⟩ := h
          split at h
          · rename_i l' hd
            obtain ⟨d1, d2, d3, _⟩ := dsub_some hd
            exact .pure h rfl (fun _ _ _ => hsl (kv_slice ho ha hl hhi hu2 hm e1 hla hlb d1 d2 d3 fun σ' _ γ a w hs v hv => slice_d hd hv))
          · cases h
        · cases h
      · replace h := rdo_inv h; obtain ⟨av, hla, h⟩ := h
        replace h := rdo_inv h; obtain ⟨bv, hlb, h⟩ := h
        split at h
        · rename_i hz
          simp only [Bool.and_eq_true, ieq, decide_eq_true_eq] at hz
          obtain ⟨rfl, rfl⟩ := hz
          refine .pure h rfl (fun _ _ _ => hsl (kv_slice (d := 0) ho ha hl hhi hu2 hm e1 hla hlb (by omega) (by omega) (by omega) fun σ' _ γ a w hs v hv => ?_))
          obtain ⟨A, rfl⟩ := hv
          exact ⟨A, 0, rfl, Nat.le_refl _, fun A' _ => ⟨A', rfl⟩⟩
        · cases h
      · split at h
        · rename_i u1 l1 fz1 hlk
          split at h
          · rename_i he _
            subst he
            replace h := rdo_inv h; obtain ⟨av, hla, h⟩ := h
            replace h := rdo_inv h; obtain ⟨bv, hlb, h⟩ := h
            split at h
            · rename_i hbd
              simp only [Bool.and_eq_true, ile, decide_eq_true_eq] at hbd
              refine .pure h rfl (fun _ _ _ => hsl (kv_slice (d := l1.length) ho ha hl hhi hu2 hm e1 hla hlb hbd.1 hbd.2.1 hbd.2.2 fun σ' g γ a w hs v hv => ?_))
              obtain ⟨A, cap, f1, f2, _⟩ := hs.facts _ _ ((g _ (by simp)).trans hlk)
              exact slice_own hbd.1 hbd.2.1 hbd.2.2 hv ⟨A, cap, f1, f2⟩
            · cases h
          · cases h
        · cases h
      · rename_i u0 nm off len
        split at h
        · rename_i he _
          subst he
          replace h := rdo_inv h; obtain ⟨av, hla, h⟩ := h
          replace h := rdo_inv h; obtain ⟨bv, hlb, h⟩ := h
          split at h
          · rename_i hbd
            simp only [Bool.and_eq_true, ile, decide_eq_true_eq] at hbd
            have hlb' : Rdo σ hh ((len.toNat : Nat) : Int) bv := by rw [Int.toNat_of_nonneg (by omega)]; exact hlb
            exact .pure h rfl (fun _ _ _ => hsl (kv_slice ho ha hl hhi hu2 hm e1 hla hlb' hbd.1 hbd.2.1 (by omega) fun σ' g γ a w hs v hv => slice_buf hbd.1 hbd.2.1 hbd.2.2 hv))
          · split at h
            · rename_i hlk
              split at h
              · rename_i hbd
                simp only [Bool.and_eq_true, ile, decide_eq_true_eq] at hbd
                exact .pure h rfl (fun _ _ _ => hsl (kv_slice_up ho ha hl hhi hu2 hm e1 hla hlb hlk hbd.1 hbd.2.1 hbd.2.2.1 hbd.2.2.2))
              · cases h
            · cases h
        · cases h
      · cases h
    · cases hc
  · -- slice, three numbers
    rename_i t x lo' hi' mx' ho
    split at hc
    · rename_i u a l hh m hu ha hl hhi hmx; cases hc
      obtain ⟨e, hu2, hm⟩ := slT_ok hu
      simp only [evK] at h
      replace h := rdc_inv h; obtain ⟨c1, e1, h⟩ := h
      replace h := rdi_inv h; obtain ⟨k1, i1, e2, h⟩ := h
      replace h := rdi_inv h; obtain ⟨k2, i2, e3, h⟩ := h
      replace h := rdi_inv h; obtain ⟨k3, i3, e4, h⟩ := h
      split at h
      · rename_i u0 nm
        split at h
        · rename_i hlk
          split at h
          · rename_i hb0
            simp only [Bool.and_eq_true, ile, decide_eq_true_eq, dlen] at hb0
            exact .pure h rfl (fun _ _ _ => kv_look3 ho ha hl hhi hmx hu2 hm e1 e2 e3 e4 hlk hb0.1 hb0.2.1 hb0.2.2.1 (of_decide_eq_true hb0.2.2.2))
          · cases h
        · cases h
      · cases h
    · cases hc
  · -- make of a slice
    rename_i t x y ho
    split at hc
    · rename_i a u b z hxy ha hz; cases hc
      have := sameO_eq hxy
      subst this
      obtain ⟨e, hu, hzz⟩ := mkT_ok hz
      simp only [evK] at h
      split at h
      · rename_i hb
        replace h := rdi_inv h; obtain ⟨k1, i1, e1, h⟩ := h
        split at h
        · rename_i a0 hdec
          split at h
          · rename_i l hd
            exact ⟨_, _, _, _, h, by omega, .inl (blt_lt hb), fun _ _ _ => kv_mksl ho ha hu hzz hdec e1 hd (hloc hb _ _), rfl, rfl⟩
          · cases h
        · cases h
      · cases h
    · cases hc
  · cases hc
end
end Go.G
namespace Go.G
variable {T : Uni}
section
variable {C : Ctx} {o : Oper} {σ : St T} {lo hi : Nat}
theorem run_eqGuard_str {P : Program} {op : BinOp} {t : TypeId} {x y : Operand} {a b : ByteArray} {w : World} : (eqGuard op t x y (.string a) (.string b)).run P w = .ok () w := by
  unfold eqGuard; cases op <;> simp
theorem mkS {γ : Gh} {w : World} {s : ByteArray} : RepP (T := T) γ w (.one (.d (.str s))) (.string s) := by simp only [RepP, RepC]; exact .str s
theorem kv_seqs {op : BinOp} {neg : Bool} {t t' : TypeId} {x y : Operand} {Xx Yy : Opd T} {a b : ByteArray} (ho : o.op = .binOp op t x y t') (hop : op = if neg then .neq else .eql) (hx : cOpd x = some Xx) (hy : cOpd y = some Yy)
    (h1 : Rd σ Xx (.one (.d (.str a)))) (h2 : Rd σ Yy (.one (.d (.str b)))) : KValid C o σ (Xx.slots ++ Yy.slots) (bl (if neg then !seqb a b else seqb a b)) [] [] lo hi := by
  refine kv_pure fun σ' g1 _ γ ac w hinv hs => ?_
  have e1 := repS (Rd.rep hs hx (fun j hj => g1 j (left hj)) h1)
  have e2 := repS (Rd.rep hs hy (fun j hj => g1 j (right hj)) h2)
  cases neg <;> simp only [Bool.false_eq_true, if_false, if_true] at hop ⊢ <;> subst hop
  · exact ⟨.bool (a.toList == b.toList), by simp [execOp, ho, e1, e2, run_eqGuard_str, binOp_string_eql], mkB⟩
  · exact ⟨.bool (!(a.toList == b.toList)), by simp [execOp, ho, e1, e2, run_eqGuard_str, binOp_string_neq], mkB⟩
theorem kv_max3 {x y z : Operand} {ts : Array TypeId} {Xx Yy Zz : Opd T} {k : IntKind} {p q s : Int} (ho : o.op = .call { callee := .builtin .max, args := #[x, y, z], argTypes := ts }) (hx : cOpd x = some Xx) (hy : cOpd y = some Yy) (hz : cOpd z = some Zz)
    (h1 : Rd σ Xx (.one (.d (.int k p)))) (h2 : Rd σ Yy (.one (.d (.int k q)))) (h3 : Rd σ Zz (.one (.d (.int k s)))) : KValid C o σ (Xx.slots ++ (Yy.slots ++ Zz.slots)) (.one (.d (.int k (imax (imax p q) s)))) [] [] lo hi := by
  refine kv_pure fun σ' g1 _ γ ac w hinv hs => ?_
  have e1 := repI (Rd.rep hs hx (fun j hj => g1 j (left hj)) h1)
  have e2 := repI (Rd.rep hs hy (fun j hj => g1 j (right (left hj))) h2)
  have e3 := repI (Rd.rep hs hz (fun j hj => g1 j (right (right hj))) h3)
  exact ⟨_, by simp [execOp, ho, resolve, invoke, builtin, e1, e2, e3, run_max_int3]; rfl, mkI⟩
theorem conv_zero {P : Program} (w : World) (src e : TypeId) (hs : P.underlying src = some (.slice e)) (he : P.underlying e = some (.int .u8)) (p : Option Addr) (c : Nat) :
    ∀ dst, P.underlying dst = some .string → (convert src dst (.slice p 0 c)).run P w = .ok (.string ByteArray.empty) w := by
  intro dst hd
  rw [run_convert_bytes_string w src dst e _ 0 c hs he hd]
  cases p <;> simp [Conv.bytesToString, loadCells]
  all_goals rfl
/-- string(b) -/
theorem reps_u8 {imm : Nat → Nat} {w : World} : ∀ {xs : List Int} {vs : List Value}, RepDs (T := T) imm w (xs.map (fun n => DV.int .u8 n)) vs → vs = xs.map (fun n => Value.int .u8 n)
  | [], [], _ => rfl
  | x :: xs, v :: vs, h => by
    simp only [List.map_cons, RepDs] at h
    obtain ⟨h1, h2⟩ := h
    have e1 : v = .int .u8 x := repI (γ := ⟨fun _ => none, fun _ => none, imm⟩) (w := w) (T := T) (by simpa only [RepP, RepC] using h1)
    rw [e1, reps_u8 h2]
    rfl
  | [], _ :: _, h => by simp [RepDs] at h
  | _ :: _, [], h => by simp [RepDs] at h
theorem kv_tostr {s t e : TypeId} {u : T.U} {x : Operand} {X : Opd T} {c : CV T} {ys : List (T.El u)} {rd : List Loc} (ho : o.op = .convert s t x) (hx : cOpd x = some X) (hs' : C.P.underlying s = some (.slice e)) (he : C.P.underlying e = some (.int .u8)) (hu : C.P.underlying t = some .string)
    (hb : T.byt u = true) (h : Rd σ X (.one c)) (hel : ElemsOf C σ u c ys rd) : KValid C o σ X.slots (.one (.d (.str (dstr (T.nums u ys))))) rd [] lo hi := by
  refine kv_pure fun σ' g1 g2 γ ac w hinv hs => ?_
  have e1 := Rd.rep hs hx g1 h
  simp only [RepP] at e1
  obtain ⟨B, cap, e1, hcap, hrow⟩ := hel σ' g2 γ ac w hs _ e1
  have hlen : (T.nums u ys).length = ys.length := by
    have := congrArg List.length (T.nums_enc u ys hb)
    rw [flat_len, T.byt_size u hb] at this
    simpa using this.symm
  have key : (convert s t (.slice B ys.length cap)).run C.P w = .ok (.string (strOfNums (T.nums u ys))) w := by
    by_cases h0 : ys = []
    · subst h0
      have hn : T.nums u [] = [] := List.eq_nil_of_length_eq_zero hlen
      rw [hn]
      exact conv_zero w s e hs' he B cap t hu
    · obtain ⟨b, off, rfl, hr⟩ := hrow.resolve_left h0
      obtain ⟨vs, v1, v2, v3⟩ := hr.values
      rw [T.nums_enc u ys hb] at v3
      have hv := reps_u8 v3
      refine run_convert_bytes_arg (P := C.P) w s e hs' he b off ys.length cap (T.nums u ys) hlen (fun i hi => ?_) t hu
      refine v2 i _ ?_
      rw [hv, List.getElem?_map, List.getElem?_eq_getElem (by omega)]
      simp [List.getD_eq_getElem?_getD, List.getElem?_eq_getElem (show i < (T.nums u ys).length by omega)]
  exact ⟨.string (strOfNums (T.nums u ys)), by simp only [execOp, ho, e1, Sem.run_bind, key, Result.andThen_ok, Sem.run_pure], mkS⟩
theorem sat_some {s : ByteArray} {i b : Int} (h : sat s i = some b) : ∃ hi : 0 ≤ i ∧ i < s.size, b = ((s[i.toNat]'(by omega)).toNat : Int) := by
  unfold sat at h
  split at h
  · rename_i h0
    rw [Option.map_eq_some_iff] at h
    obtain ⟨x, h1, h2⟩ := h
    obtain ⟨h3, h4⟩ := Array.getElem?_eq_some_iff.1 h1
    have : s.data.size = s.size := rfl
    refine ⟨⟨h0, by omega⟩, ?_⟩
    rw [← h2, ← h4]
    rfl
  · cases h
theorem kv_sidx {t : TypeId} {x i : Operand} {Xx Ii : Opd T} {s : ByteArray} {k : IntKind} {iv b : Int} (ho : o.op = .index t x i) (hx : cOpd x = some Xx) (hi' : cOpd i = some Ii) (hu : C.P.underlying t = some .string)
    (h1 : Rd σ Xx (.one (.d (.str s)))) (h2 : Rd σ Ii (.one (.d (.int k iv)))) (hb : sat s iv = some b) : KValid C o σ (Xx.slots ++ Ii.slots) (.one (.d (.int .u8 b))) [] [] lo hi := by
  refine kv_pure fun σ' g1 _ γ ac w hinv hs => ?_
  have e1 := repS (Rd.rep hs hx (fun j hj => g1 j (left hj)) h1)
  have e2 := repI (Rd.rep hs hi' (fun j hj => g1 j (right hj)) h2)
  obtain ⟨hi, rfl⟩ := sat_some hb
  refine ⟨_, ?_, mkI⟩
  simp only [execOp, ho, e1, e2, Sem.run_bind, run_index_string w t s k iv hu, dif_pos hi, Result.andThen_ok, Sem.run_pure]
theorem kv_idx {t e : TypeId} {x i : Operand} {Xx Ii : Opd T} {size len : Nat} {ag : Bool} {cs : List (CV T)} {k : IntKind} {iv : Int} (ho : o.op = .index t x i) (hx : cOpd x = some Xx) (hi' : cOpd i = some Ii)
    (hu : C.P.underlying t = some (.array len e)) (ha : tyAg C.P e = some ag) (hm : tySz C.P e = some size) (h1 : ag = false → size = 1)
    (h : Rd σ Xx (.agg cs)) (h2 : Rd σ Ii (.one (.d (.int k iv)))) (b0 : 0 ≤ iv) (b1 : iv < len) (hl : ((cs.drop (iv.toNat * size)).take size).length = size) :
    KValid C o σ (Xx.slots ++ Ii.slots) (shp ag ((cs.drop (iv.toNat * size)).take size)) [] [] lo hi := by
  refine kv_pure fun σ' g1 _ γ a w hi hs => ?_
  have e1 := Rd.rep hs hx (fun j hj => g1 j (left hj)) h
  have e2 := repI (Rd.rep hs hi' (fun j hj => g1 j (right hj)) h2)
  simp only [RepP] at e1
  obtain ⟨vs, e1, hc⟩ := e1
  have hr : RepCs γ w ((cs.drop (iv.toNat * size)).take size) ((vs.drop (iv.toNat * size)).take size) := (hc.drop _).take size
  have hlv : ((vs.drop (iv.toNat * size)).take size).length = size := by rw [← hr.length]; exact hl
  refine ⟨_, ?_, ld_rep h1 hl hr⟩
  have hp := run_part ha hm vs (iv.toNat * size) w
  cases ag with
  | true => simp [execOp, ho, e1, e2, Instr.index, asIntOf, run_underlying hu, run_sizeOf hm, b0, b1, hp]
  | false =>
    have hm1 := h1 rfl
    subst hm1
    have hlt : iv.toNat * 1 < vs.length := by simp at hlv; omega
    rw [List.getElem?_eq_getElem hlt] at hp
    simp only [Bool.false_eq_true, if_false] at hp
    have hg : ((vs.drop (iv.toNat * 1)).take 1).getD 0 undef = vs[iv.toNat * 1] := by
      have hlt2 : iv.toNat < vs.length := by omega
      simp [List.getD, List.getElem?_drop, hlt2]
    simp only [Bool.false_eq_true, if_false, hg]
    simp only [execOp, ho, e1, e2, Instr.index, Sem.run_bind, asIntOf, run_underlying hu, run_sizeOf hm, Result.andThen_ok, Sem.run_pure, b0, b1, and_self, if_true, hp]
theorem same_kind {k k' : IntKind} (h : IntKind.same k k' = true) : k = k' := by
  cases k <;> cases k' <;> first | rfl | cases h
theorem intsK_eq {k : IntKind} : ∀ {cs : List (CV T)} {l : List Int}, intsK k cs = some l → cs = l.map fun n => CV.d (.int k n)
  | [], l, h => by simp only [intsK, Option.some.injEq] at h; subst h; rfl
  | c :: cs, l, h => by
    unfold intsK at h
    split at h
    · rename_i heq; cases heq
    · rename_i k' n r heq
      cases heq
      split at h
      · rename_i l' h1 h2
        cases h
        rw [same_kind h1, List.map_cons, ← intsK_eq h2]
      · cases h
    · cases h
theorem kv_idi {t e : TypeId} {x i : Operand} {Xx Ii : Opd T} {len : Nat} {k k' : IntKind} {cs : List (CV T)} {l : List Int} {iv v : Int} (ho : o.op = .index t x i) (hx : cOpd x = some Xx) (hi' : cOpd i = some Ii)
    (hu : C.P.underlying t = some (.array len e)) (ha : tyAg C.P e = some false) (hm : tySz C.P e = some 1)
    (h : Rd σ Xx (.agg cs)) (h2 : Rd σ Ii (.one (.d (.int k' iv)))) (hl : intsK k cs = some l) (hlen : l.length = len) (hd : dat l iv = some v) :
    KValid C o σ (Xx.slots ++ Ii.slots) (.one (.d (.int k v))) [] [] lo hi := by
  obtain ⟨d0, d1, d2⟩ := dat_some hd
  have hcs := intsK_eq hl
  have hone : (cs.drop (iv.toNat * 1)).take 1 = [CV.d (.int k v)] := by
    rw [hcs, ← List.map_drop, ← List.map_take, Nat.mul_one]
    have : l.drop iv.toNat = v :: l.drop (iv.toNat + 1) := by
      have hlt : iv.toNat < l.length := by omega
      rw [List.drop_eq_getElem_cons hlt]
      rw [List.getElem?_eq_getElem hlt] at d2
      cases d2; rfl
    rw [this]; rfl
  have := kv_idx (C := C) (o := o) (σ := σ) (lo := lo) (hi := hi) ho hx hi' hu ha hm (fun _ => rfl) h h2 d0 (by omega) (by rw [hone]; rfl)
  rw [hone] at this
  exact this
/-- An element of a variable of the program. -/
theorem kv_gat {t e : TypeId} {g : Nat} {i : Operand} {Ii : Opd T} {size len : Nat} {u : T.U} {l : List (T.El u)} {y : T.El u} {k : IntKind} {iv : Int} (ho : o.op = .indexAddr t (.global g) i) (hi' : cOpd i = some Ii)
    (hu : C.P.underlying t = some (.array len e)) (hm : tySz C.P e = some size) (hsz : size = T.size u) (hlen : l.length = len) (hg : T.glob g = some ⟨u, l⟩)
    (h2 : Rd σ Ii (.one (.d (.int k iv)))) (hd : dat l iv = some y) : KValid C o σ Ii.slots (.one (.cur (T.enc u y))) [] [] lo hi := by
  refine kv_pure fun σ' g1 _ γ a w hinv hs => ?_
  have e2 := repI (Rd.rep hs hi' g1 h2)
  obtain ⟨q1, q2, q3⟩ := hs.glob g u l hg
  obtain ⟨d0, d1, d2⟩ := dat_some hd
  have b1 : iv < len := by omega
  refine ⟨.pointer (some ⟨g, iv.toNat * size, none⟩), ?_, ?_⟩
  · have e1 : a.eval (.global g) = .pointer (some ⟨g, 0, none⟩) := rfl
    simp [execOp, ho, e1, e2, Instr.indexAt, Instr.sureAddr, asIntOf, run_underlying hu, run_sizeOf hm, d0, b1, addr_add]
  · simp only [RepP, RepC]
    have hr := q3 iv.toNat y d2
    rw [Nat.zero_add] at hr
    refine ⟨g, iv.toNat * size, rfl, q1, ?_, by rw [hsz]; exact hr⟩
    rw [T.enc_len, hsz]
    have : (iv.toNat + 1) * T.size u ≤ l.length * T.size u := Nat.mul_le_mul_right _ (by omega)
    rw [Nat.add_mul] at this
    omega
end
/-- Further operations. -/
def compK2 (P : Program) (cu : TypeId → Option T.U) (o : Oper) : Option (PK T) :=
  match o.op with
  | .convert s t x => match P.underlying s, P.underlying t with
    | some (.slice e), some .string => match cOpd x, P.underlying e, cu e with
      | some y, some (.int .u8), some u => match T.byt u with
        | true => some (.tostr u y)
        | false => none
      | _, _, _ => none
    | _, _ => none
  | .binOp op t x y _ => match P.underlying t, op with
    | some .string, .eql => match cOpd x, cOpd y with
      | some a, some b => some (.seqs false a b)
      | _, _ => none
    | some .string, .neq => match cOpd x, cOpd y with
      | some a, some b => some (.seqs true a b)
      | _, _ => none
    | _, _ => none
  | .index t x i => match P.underlying t with
    | some .string => match cOpd x, cOpd i with
      | some a, some b => some (.sidx a b)
      | _, _ => none
    | some (.array len e) => match cOpd x, cOpd i, tyAg P e, tySz P e with
      | some a, some b, some ag, some m => match i, P.underlying e with
        | .tmp _, some (.int k) => if ag = false ∧ m = 1 then some (.idi len k a b) else none
        | _, _ => if ag = false ∧ m ≠ 1 then none else some (.idx m len ag a b)
      | _, _, _, _ => none
    | _ => none
  | .call c => match c.callee with
    | .builtin .max => match c.args.toList with
      | [x, y, z] => match cOpd x, cOpd y, cOpd z with
        | some a, some b, some d => some (.maxi3 a b d)
        | _, _, _ => none
      | _ => none
    | _ => none
  | .indexAddr t (.global g) i => match P.underlying t with
    | some (.array len e) => match T.glob g, cOpd i, tySz P e with
      | some ⟨u, l⟩, some b, some m => if m = T.size u ∧ l.length = len then some (.gat g b) else none
      | _, _, _ => none
    | _ => none
  | _ => none
theorem evK2_sound {S : Cls} {o : Oper} {σ : St T} {X : Type} {n lim : Nat} {r : X} {K : PV T → List Loc → Wr T → Nat → Option X} {cu : TypeId → Option T.U} {k : PK T} (hc : compK2 S.P cu o = some k) {call : CallH T} (h : evK call σ n lim o.dst K k = some r) : Out S o σ n lim K r k := by
  unfold compK2 at hc
  split at hc
  · rename_i s t x ho
    split at hc
    · rename_i e hs hu
      split at hc
      · rename_i y u hy he hcu
        split at hc
        · rename_i hb
          cases hc
          simp only [evK] at h
          replace h := rdc_inv h; obtain ⟨c, e1, h⟩ := h
          obtain ⟨ys, rd, h, hrd, hel⟩ := elems_inv h
          rw [hb] at h
          exact .pure h hrd (fun _ _ _ => kv_tostr ho hy hs he hu hb e1 (hel _))
        · cases hc
      · cases hc
    · cases hc
  · rename_i op t x y t' ho
    split at hc
    · split at hc
      · rename_i a b ha hb
        cases hc
        simp only [evK] at h
        replace h := rdc_inv h; obtain ⟨c, e1, h⟩ := h
        replace h := rdc_inv h; obtain ⟨c2, e2, h⟩ := h
        split at h
        · exact .pure h rfl (fun _ _ _ => kv_seqs (neg := false) ho rfl ha hb e1 e2)
        · cases h
      · cases hc
    · split at hc
      · rename_i a b ha hb
        cases hc
        simp only [evK] at h
        replace h := rdc_inv h; obtain ⟨c, e1, h⟩ := h
        replace h := rdc_inv h; obtain ⟨c2, e2, h⟩ := h
        split at h
        · exact .pure h rfl (fun _ _ _ => kv_seqs (neg := true) ho rfl ha hb e1 e2)
        · cases h
      · cases hc
    · cases hc
  · rename_i t x i ho
    split at hc
    · rename_i hu
      split at hc
      · rename_i a b ha hb
        cases hc
        simp only [evK] at h
        replace h := rdv_inv h; obtain ⟨p, e1, h⟩ := h
        replace h := rdi_inv h; obtain ⟨k, iv, e2, h⟩ := h
        split at h
        · split at h
          · rename_i hsat
            exact .pure h rfl (fun _ _ _ => kv_sidx ho ha hb hu e1 e2 hsat)
          · cases h
        · cases h
      · cases hc
    · rename_i len e hu
      split at hc
      · rename_i a b ag m ha hb hag hm
        split at hc
        · rename_i k hue
          split at hc
          · rename_i hcond
            cases hc
            obtain ⟨rfl, rfl⟩ := hcond
            simp only [evK] at h
            replace h := rdv_inv h; obtain ⟨p, e1, h⟩ := h
            replace h := rdi_inv h; obtain ⟨k', iv, e2, h⟩ := h
            split at h
            · split at h
              · rename_i l hl
                split at h
                · rename_i hlen
                  split at h
                  · rename_i v hv
                    exact .pure h rfl (fun _ _ _ => kv_idi ho ha hb hu hag hm e1 e2 hl (Nat.eq_of_beq_eq_true hlen) hv)
                  · cases h
                · cases h
              · cases h
            · cases h
          · cases hc
        split at hc
        · cases hc
        · rename_i hcond
          cases hc
          have h1 : ag = false → m = 1 := fun e => by
            rcases Nat.decEq m 1 with h' | h'
            · exact absurd ⟨e, h'⟩ hcond
            · exact h'
          simp only [evK] at h
          replace h := rdv_inv h; obtain ⟨p, e1, h⟩ := h
          replace h := rdi_inv h; obtain ⟨k, iv, e2, h⟩ := h
          split at h
          · split at h
            · rename_i hbd
              simp only [Bool.and_eq_true, ile, ilt, decide_eq_true_eq] at hbd
              obtain ⟨p, hp, hl, rfl⟩ := ldv_inv h1 h
              exact .pure hp rfl (fun _ _ _ => kv_idx ho ha hb hu hag hm h1 e1 e2 hbd.1 hbd.2 hl)
            · cases h
          · cases h
      · cases hc
    · cases hc
  · rename_i c ho
    obtain ⟨callee, args, ts⟩ := c
    simp only at hc
    split at hc
    · split at hc
      · rename_i x y z hx
        have hargs : args = #[x, y, z] := by apply Array.ext'; simpa using hx
        subst hargs
        split at hc
        · rename_i a b d ha hb hd
          cases hc
          simp only [evK] at h
          replace h := rdi_inv h; obtain ⟨k1, i1, e1, h⟩ := h
          replace h := rdi_inv h; obtain ⟨k2, i2, e2, h⟩ := h
          replace h := rdi_inv h; obtain ⟨k3, i3, e3, h⟩ := h
          split at h
          · rename_i hk
            rw [Bool.and_eq_true] at hk
            have h1 := same_eq hk.1
            have h2 := same_eq hk.2
            subst h1
            subst h2
            exact .pure h rfl (fun _ _ _ => kv_max3 ho ha hb hd e1 e2 e3)
          · cases h
        · cases hc
      · cases hc
    · cases hc
  · rename_i t g i ho
    split at hc
    · rename_i len e hu
      split at hc
      · rename_i u l b m hg hb hm
        split at hc
        · rename_i hcond
          cases hc
          simp only [evK] at h
          replace h := rdi_inv h; obtain ⟨k, iv, e2, h⟩ := h
          rw [hg] at h
          simp only at h
          split at h
          · rename_i y hy
            exact .pure h rfl (fun _ _ _ => kv_gat ho hb hu hm hcond.1 hcond.2 hg e2 hy)
          · cases h
        · cases hc
      · cases hc
    · cases hc
  · cases hc
/-- An operation that stays out: the text may bear it, it is never come to. -/
def noDefer (o : Oper) : Bool :=
  match o.op with
  | .defer _ => false
  | _ => true

def compKB (P : Program) (cu : TypeId → Option T.U) (o : Oper) : Option (PK T) :=
  match noDefer o with
  | false => none
  | true => match compK P cu o with
    | some k => some k
    | none => match compK2 P cu o with
      | some k => some k
      | none => some .bad

theorem evKB_sound {S : Cls} {o : Oper} {σ : St T} {X : Type} {n lim : Nat} {r : X} {K : PV T → List Loc → Wr T → Nat → Option X} {cu : TypeId → Option T.U} {k : PK T} (hc : compKB S.P cu o = some k) {call : CallH T} (hcall : CallSound S.P call) (hlim : lim ≤ S.lim) (hbase : S.base ≤ n) (h : evK call σ n lim o.dst K k = some r) : Out S o σ n lim K r k := by
  unfold compKB at hc
  split at hc
  · cases hc
  split at hc
  · rename_i k' hk
    cases hc
    exact evK_sound hk hcall hlim hbase h
  · split at hc
    · rename_i k' hk
      cases hc
      exact evK2_sound hk h
    · cases hc
      simp only [evK] at h
      cases h
end Go.G
namespace Go.G
variable {T : Uni}

def POp.gslots (p : POp T) : List Nat :=
  match p.guard with
  | some (g, _) => [g]
  | none => []
def POp.slots (p : POp T) : List Nat := p.gslots ++ p.k.slots

def compG (ops : Array Oper) (g : Option (Nat × Bool)) : Option (Option (Nat × Bool)) :=
  match g with
  | none => some none
  | some (j, b) => match (ops[j]?).bind (·.dst) with
    | some s => some (some (s, b))
    | none => none

def dstOk (N : Nat) (d : Option Nat) : Bool :=
  match d with
  | some d => decide (d < N)
  | none => true

def compOp (P : Program) (cu : TypeId → Option T.U) (N : Nat) (ops : Array Oper) (o : Oper) : Option (POp T) :=
  match compKB P cu o, compG ops o.guard with
  | some k, some g => if dstOk N o.dst then some ⟨o.dst, g, k⟩ else none
  | _, _ => none

def compOps (P : Program) (cu : TypeId → Option T.U) (N : Nat) (ops : Array Oper) : List Oper → Option (List (POp T))
  | [] => some []
  | o :: os => match compOp P cu N ops o, compOps P cu N ops os with
    | some p, some ps => some (p :: ps)
    | _, _ => none

def depsOf (ops : List Oper) : List (List Nat) := ops.map fun o => (o.after.toList.filter (Region.binds .any ·)).map (·.on)

def mergeN : List Nat → List Nat → List Nat
  | [], l => l
  | x :: r, l => mergeN r (match l.any (Nat.beq x) with
    | true => l
    | false => x :: l)
/-- All that come before, at some remove. -/
def clo : List (List Nat) → List (List Nat) → List (List Nat)
  | acc, [] => acc
  | acc, d :: ds => clo (acc ++ [mergeN (d.flatMap fun k => acc.getD k []) (mergeN d [])]) ds
def depsC (ops : List Oper) : List (List Nat) := clo [] (depsOf ops)

/-- The slots of two operations that can come up in either order do not meet. -/
def slotFree (p q : POp T) : Bool :=
  (match p.dst with | some d => !q.slots.contains d && q.dst != some d | none => true) && (match q.dst with | some d => !p.slots.contains d | none => true)

def slotsChk (i : Nat) (dep : List Nat) (q : POp T) : List (POp T) → Bool
  | [] => true
  | p :: ps => (dep.contains i || slotFree p q) && slotsChk (i + 1) dep q ps

def slotsOk (pre : List (POp T)) : List (POp T) → List (List Nat) → Bool
  | [], _ => true
  | q :: qs, deps => slotsChk 0 (deps.headD []) q pre && slotsOk (pre ++ [q]) qs deps.tail

def edgesOk (i : Nat) : List (List Nat) → Bool
  | [] => true
  | d :: ds => d.all (· < i) && edgesOk (i + 1) ds

def compReg (P : Program) (cu : TypeId → Option T.U) (N : Nat) (ops : Array Oper) (draw : Bool) : Option (List (POp T) × List (List Nat)) :=
  match compOps P cu N ops ops.toList with
  | some ps => if draw then if P.follows .mixedOrders && slotsOk [] ps (depsC ops.toList) && edgesOk 0 (depsOf ops.toList) then some (ps, depsC ops.toList) else none
      else some (ps, [])
  | none => none

section
variable {C : Ctx} {σ : St T} {ops : Array Oper} {o : Oper} {p : POp T}

def runInst (p : POp T) (x : PV T) (mrd : List Loc) (mwr : Wr T) (lo hi : Nat) : Inst T := ⟨p.slots.map .s ++ mrd, dw p.dst true x ++ mwr, lo, hi⟩
def skipInst (p : POp T) (n : Nat) : Inst T := ⟨p.slots.map .s, dw p.dst false .junk, n, n⟩

theorem step_of_done {x : PV T} {mrd : List Loc} {mwr : Wr T} {lo hi : Nat} {σ' : St T} {γ : Gh} {w : World} {a a' : Act} {w' : World} (hdst : p.dst = o.dst) (hd : dstOk C.N o.dst = true) (hi' : Inv C.E γ w) (hs : Sat C.E C.N γ w a σ')
    (h : OpDone C o.dst a γ w x mwr lo hi a' w') : StepPost C σ' (runInst p x mrd mwr lo hi) γ a' w' := by
  obtain ⟨γ', v, Y, rfl, k1, k2, k3, k4, k5, k6, k7, k8⟩ := h
  refine ⟨γ', hi'.step k2 C.ok (fun nm hy => (k3 nm hy).1) k5 k6 k7, ?_, k8⟩
  refine hs.upd k2 (fun d hdd => ?_) (fun nm hy => ?_) fun l f hm => ?_
  · rw [hdd] at hd
    refine ⟨by simpa [dstOk] using hd, ?_⟩
    simp [runInst, dw, hdst, hdd, locs]
  · have := (k3 nm hy).2
    simp only [runInst, locs, List.map_append, List.mem_append] at this ⊢
    exact .inr this
  · simp only [runInst, List.mem_append] at hm
    rcases hm with hm | hm
    · rw [hdst] at hm
      cases hod : o.dst with
      | none => rw [hod] at hm; simp [dw] at hm
      | some d =>
        rw [hod] at hm hd
        simp only [dw, List.mem_singleton, Prod.mk.injEq, Option.some.injEq] at hm
        obtain ⟨rfl, rfl⟩ := hm
        refine ⟨⟨fun _ => ?_, fun hc => by cases hc⟩, fun nm e => by cases e⟩
        simp only [Act.put]
        rw [getD_set _ _ _ _ (by rw [hs.size]; simpa [dstOk] using hd), if_pos rfl]
        exact k1 d hod
    · obtain ⟨nm, rfl, h2, h3⟩ := k4 l f hm
      exact ⟨h3 _, fun nm' e => by cases e; exact h2⟩

theorem step_of_skip {n : Nat} {σ' : St T} {γ : Gh} {w : World} {a : Act} (hdst : p.dst = o.dst) (hd : dstOk C.N o.dst = true) (hi : Inv C.E γ w) (hs : Sat C.E C.N γ w a σ') :
    StepPost C σ' (skipInst p n) γ (a.put o.dst undef) w := by
  refine ⟨γ, hi, ?_, .refl _ _ _⟩
  refine hs.upd (Evo.refl (fun _ => False) _ _) (fun d hdd => ?_) (fun nm hy => hy.elim) fun l f hm => ?_
  · rw [hdd] at hd
    refine ⟨by simpa [dstOk] using hd, ?_⟩
    simp [skipInst, dw, hdst, hdd, locs]
  · simp only [skipInst] at hm
    rw [hdst] at hm
    cases hod : o.dst with
    | none => rw [hod] at hm; simp [dw] at hm
    | some d =>
      rw [hod] at hm hd
      simp only [dw, List.mem_singleton, Prod.mk.injEq, Option.some.injEq] at hm
      obtain ⟨rfl, rfl⟩ := hm
      refine ⟨⟨fun hc => (by cases hc), fun _ => ?_⟩, fun nm e => (by cases e)⟩
      simp only [Act.put]
      rw [getD_set _ _ _ _ (by rw [hs.size]; simpa [dstOk] using hd), if_pos rfl]

/-- What a guard comes to. -/
def GuardIs (C : Ctx) (ops : Array Oper) (o : Oper) (p : POp T) (σ : St T) (pc : Bool) : Prop :=
  ∀ σ', (∀ i ∈ p.gslots, look σ' (.s i) = look σ (.s i)) → ∀ γ a w, Sat C.E C.N γ w a σ' → Region.wanted o (yielded ops a.tmps) = pc

theorem valid_run {x : PV T} {mrd : List Loc} {mwr : Wr T} {lo hi : Nat} (hdst : p.dst = o.dst) (hd : dstOk C.N o.dst = true) (hg : GuardIs C ops o p σ true) (hv : KValid C o σ p.k.slots x mrd mwr lo hi) : Valid C ops o σ (runInst p x mrd mwr lo hi) := by
  intro σ' hrd γ a w hi' hs hf
  have hl1 : ∀ i ∈ p.gslots, look σ' (.s i) = look σ (.s i) := fun i hm => hrd _ (by
    simp only [runInst, POp.slots, List.mem_append, List.mem_map]
    exact .inl ⟨i, by simp [hm], rfl⟩)
  have hl2 : ∀ i ∈ p.k.slots, look σ' (.s i) = look σ (.s i) := fun i hm => hrd _ (by
    simp only [runInst, POp.slots, List.mem_append, List.mem_map]
    exact .inl ⟨i, by simp [hm], rfl⟩)
  have hl3 : ∀ l ∈ mrd, look σ' l = look σ l := fun l hm => hrd _ (by
    simp only [runInst, List.mem_append]
    exact .inr hm)
  rw [hg σ' hl1 γ a w hs, if_pos rfl]
  intro Q
  exact Oper.wp_mono (fun a' w' h => step_of_done hdst hd hi' hs h) (hv σ' hl2 hl3 γ a w hi' hs hf Q)

theorem valid_skip {n : Nat} (hdst : p.dst = o.dst) (hd : dstOk C.N o.dst = true) (hg : GuardIs C ops o p σ false) : Valid C ops o σ (skipInst p n) := by
  intro σ' hrd γ a w hi' hs hf
  have hl1 : ∀ i ∈ p.gslots, look σ' (.s i) = look σ (.s i) := fun i hm => hrd _ (by
    simp only [skipInst, POp.slots, List.mem_map]
    exact ⟨i, by simp [hm], rfl⟩)
  rw [hg σ' hl1 γ a w hs, if_neg (by simp)]
  exact step_of_skip hdst hd hi' hs

theorem compOp_inv {P : Program} {cu : TypeId → Option T.U} {N : Nat} (hc : compOp P cu N ops o = some p) : compKB P cu o = some p.k ∧ compG ops o.guard = some p.guard ∧ dstOk N o.dst = true ∧ p.dst = o.dst := by
  unfold compOp at hc
  split at hc
  · rename_i k g hk hg
    split at hc
    · rename_i hd; cases hc; exact ⟨hk, hg, hd, rfl⟩
    · cases hc
  · cases hc

theorem gdv_inv {X : Type} {r : X} {A B : St T → Option X} (hg : compG ops o.guard = some p.guard) (h : gdv σ p.guard A B = some r) :
    ∃ σ', (∀ l, look σ' l = look σ l) ∧ ((A σ' = some r ∧ ∀ C, GuardIs C ops o p σ true) ∨ (B σ' = some r ∧ ∀ C, GuardIs C ops o p σ false)) := by
  unfold gdv at h
  cases hgd : p.guard with
  | none =>
    rw [hgd] at h
    refine ⟨σ, fun _ => rfl, .inl ⟨h, fun C σ' _ γ a w _ => ?_⟩⟩
    have : o.guard = none := by
      rw [hgd] at hg
      unfold compG at hg
      split at hg
      · assumption
      · split at hg <;> cases hg
    simp [Region.wanted, this]
  | some gb =>
    obtain ⟨gs, b⟩ := gb
    rw [hgd] at h hg
    simp only at h
    obtain ⟨j, hj1, hj2⟩ : ∃ j, o.guard = some (j, b) ∧ (ops[j]?).bind (·.dst) = some gs := by
      unfold compG at hg
      split at hg
      · cases hg
      · rename_i j b' hgd'
        split at hg
        · rename_i s hs'
          cases hg
          exact ⟨j, hgd', hs'⟩
        · cases hg
    have hgs : gs ∈ p.gslots := by simp [POp.gslots, hgd]
    have hdef : ∀ xb, look σ (.s gs) = some (.v true (.one (.d (.bool xb)))) → ∀ C, GuardIs C ops o p σ (xb == b) := by
      intro xb hlk C σ' hl γ a w hs
      have hf := hs.facts (.s gs) _ ((hl gs hgs).trans hlk)
      have hv := repB (hf.1 rfl)
      simp only [Region.wanted, hj1, yielded, hj2, Option.bind_some]
      cases ht : a.tmps[gs]? with
      | none => simp [Array.getD_eq_getD_getElem?, ht, undef] at hv
      | some u =>
        simp [Array.getD_eq_getD_getElem?, ht] at hv
        subst hv
        simp
    split at h
    · rename_i xb hlk
      have hsame : ∀ l, look ((.s gs, .v true (bl xb)) :: σ) l = look σ l := fun l => by
        rw [look_cons]
        split
        · rename_i e; subst e; exact hlk.symm
        · rfl
      have hG := hdef xb hlk
      cases xb with
      | true =>
        cases b with
        | true => exact ⟨_, hsame, .inl ⟨h, hG⟩⟩
        | false => exact ⟨_, hsame, .inr ⟨h, hG⟩⟩
      | false =>
        cases b with
        | true => exact ⟨_, hsame, .inr ⟨h, hG⟩⟩
        | false => exact ⟨_, hsame, .inl ⟨h, hG⟩⟩
    · rename_i x hlk
      refine ⟨σ, fun _ => rfl, .inr ⟨h, fun C σ' hl γ a w hs => ?_⟩⟩
      have hf := hs.facts (.s gs) _ ((hl gs hgs).trans hlk)
      have hv := hf.2 rfl
      simp only [Region.wanted, hj1, yielded, hj2, Option.bind_some]
      cases ht : a.tmps[gs]? with
      | none => simp
      | some u =>
        simp [Array.getD_eq_getD_getElem?, ht] at hv
        subst hv
        simp [undef]
    · cases h

theorem KValid.congr {σ' : St T} {sl : List Nat} {x : PV T} {mrd : List Loc} {mwr : Wr T} {lo hi : Nat} (hσ : ∀ l, look σ' l = look σ l) (h : KValid C o σ' sl x mrd mwr lo hi) : KValid C o σ sl x mrd mwr lo hi :=
  fun σ'' h1 h2 => h σ'' (fun i hi => (h1 i hi).trans (hσ _).symm) (fun l hl => (h2 l hl).trans (hσ _).symm)

/-- Of a run: its numbers, its operations, that it is valid, where its names lie. -/
structure RunOK (S : Cls) (ops : Array Oper) (i k : Nat) (rem : Rem T) (σ : St T) (n n' : Nat) : Prop where
  nums : rem.map (·.1) = List.range' i k
  opsOk : ∀ x ∈ rem, ops[x.1]? = some x.2.1
  run : ∀ γ0 w0 ok, RunV (S.ctx γ0 w0 ok) ops rem σ
  rise : Rising rem
  rng : ∀ x ∈ rem, n ≤ x.2.2.lo ∧ x.2.2.lo ≤ x.2.2.hi ∧ x.2.2.hi ≤ n'
  le : n ≤ n'

theorem seq_run {cu : TypeId → Option T.U} {call : CallH T} {S : Cls} (hcall : CallSound S.P call) {lim : Nat} (hlim : lim ≤ S.lim) {X : Type} {r : X} {K : St T → Nat → Option X} : ∀ (os : List Oper) (ps : List (POp T)) (i n : Nat) (σ : St T), (∀ j, os[j]? = ops[i + j]?) → S.base ≤ n → n ≤ lim → compOps S.P cu S.N ops os = some ps → evSeq call lim ps σ n K = some r →
    ∃ rem σf n', K σf n' = some r ∧ (∀ l, look σf l = look (fin rem σ) l) ∧ RunOK S ops i os.length rem σ n n' ∧ n' ≤ lim
  | [], ps, i, n, σ, _, _, hn, hc, h => by
    simp only [compOps, Option.some.injEq] at hc
    subst hc
    exact ⟨[], σ, n, h, fun _ => rfl, ⟨rfl, by simp, fun _ _ _ => trivial, List.Pairwise.nil, by simp, Nat.le_refl _⟩, hn⟩
  | o :: os, ps, i, n, σ, ho, hb, hn, hc, h => by
    simp only [compOps] at hc
    split at hc
    · rename_i p ps' h1 h2
      cases hc
      obtain ⟨c1, c2, c3, c4⟩ := compOp_inv h1
      have ho0 : ops[i]? = some o := by simpa using (ho 0).symm
      have ho' : ∀ j, os[j]? = ops[i + 1 + j]? := fun j => by have := ho (j + 1); simpa [Nat.add_assoc, Nat.add_comm 1 j] using this
      simp only [evSeq] at h
      have key : ∀ (I : Inst T) (σ2 : St T) (n2 : Nat), (∀ γ0 w0 ok, Valid (S.ctx γ0 w0 ok) ops o σ I) → (∀ l, look σ2 l = look (upd σ I.wrs) l) → I.lo = n → I.hi = n2 → n ≤ n2 → n2 ≤ lim → evSeq call lim ps' σ2 n2 K = some r →
          ∃ rem σf n', K σf n' = some r ∧ (∀ l, look σf l = look (fin rem σ) l) ∧ RunOK S ops i (o :: os).length rem σ n n' ∧ n' ≤ lim := by
        intro I σ2 n2 hI h2' e1 e2 hle hle2 hev
        obtain ⟨rem, σf, n', k1, k2, k3, k4⟩ := seq_run hcall hlim os ps' (i + 1) n2 σ2 ho' (by omega) hle2 h2 hev
        refine ⟨(i, o, I) :: rem, σf, n', k1, fun l => (k2 l).trans (fin_congr rem h2' l), ⟨by simp [k3.nums, List.range'_succ], fun y hy => ?_, fun γ0 w0 ok => ⟨hI γ0 w0 ok, RunV.congr rem h2' (k3.run γ0 w0 ok)⟩, List.pairwise_cons.2 ⟨fun y hy => ?_, k3.rise⟩, fun y hy => ?_, by have := k3.le; omega⟩, k4⟩
        · rcases List.mem_cons.1 hy with rfl | hy
          · exact ho0
          · exact k3.opsOk y hy
        · have := (k3.rng y hy).1; simp only [e2]; omega
        · rcases List.mem_cons.1 hy with rfl | hy
          · simp only [e1, e2]; have := k3.le; omega
          · have := k3.rng y hy; omega
      obtain ⟨σ', hsame, ⟨hA, hG⟩ | ⟨hB, hG⟩⟩ := gdv_inv c2 h
      · rw [c4] at hA
        obtain ⟨x, mrd, mwr, n', hk, hle, hle2, hv, _, _⟩ := evKB_sound c1 hcall hlim hb hA
        refine key (runInst p x mrd mwr n n') _ n' (fun γ0 w0 ok => valid_run c4 c3 (hG _) ((hv γ0 w0 ok).congr hsame)) (fun l => ?_) rfl rfl hle (by omega) (by rw [← c4] at hk; exact hk)
        exact upd_congr hsame _ l
      · refine key (skipInst p n) _ n (fun _ _ _ => valid_skip c4 c3 (hG _)) (fun l => ?_) rfl rfl (Nat.le_refl _) hn hB
        exact upd_congr hsame _ l
    · cases hc
end
end Go.G
namespace Go.G
variable {T : Uni}
section
variable {C : Ctx} {σ : St T} {ops : Array Oper}

/-- An operation that has come up: its number, its own form, what it read and wrote in memory, the instance. -/
structure Came (T : Uni) where
  i : Nat
  p : POp T
  r : List Loc
  w : List Loc
  I : Inst T

structure Came.OK (x : Came T) : Prop where
  rds : x.I.rds = x.p.slots.map .s ++ x.r
  wrs : locs x.I.wrs = (x.p.dst.toList.map .s) ++ x.w
  rm : x.r.all memL = true
  wm : x.w.all memL = true

theorem mem_not_slot {l : List Loc} (h : l.all memL = true) (i : Nat) : Loc.s i ∉ l := fun hm => by
  have := List.all_eq_true.1 h _ hm
  simp [memL] at this

theorem mem_slots {l : Loc} {ss : List Nat} (h : l ∈ ss.map Loc.s) : ∃ i ∈ ss, l = .s i := by
  obtain ⟨i, hi, rfl⟩ := List.mem_map.1 h
  exact ⟨i, hi, rfl⟩

def disj (a b : List Loc) : Prop := ∀ l ∈ a, l ∉ b

theorem disjB_spec {a b : List Loc} (h : disjB a b = true) : disj a b := by
  intro l hl hm
  have h1 := List.all_eq_true.1 (List.all_eq_true.1 h l hl) l hm
  rw [Loc.eqb_self] at h1
  cases h1

theorem Came.free {x y : Came T} (hx : x.OK) (hy : y.OK) (hs : slotFree x.p y.p = true) (h1 : disj x.w y.r) (h2 : disj x.w y.w) (h3 : disj y.w x.r) : x.I.free y.I := by
  simp only [slotFree, Bool.and_eq_true] at hs
  obtain ⟨s1, s2⟩ := hs
  refine ⟨fun l hl => ?_, fun l hl hm => ?_⟩
  · rw [hx.wrs, List.mem_append] at hl
    rw [hy.rds, hy.wrs, List.mem_append, List.mem_append]
    rcases hl with hl | hl
    · obtain ⟨d, hd, rfl⟩ := mem_slots hl
      cases hp : x.p.dst with
      | none => rw [hp] at hd; simp at hd
      | some d' =>
        rw [hp] at hd s1
        simp only [Option.toList_some, List.mem_singleton] at hd
        subst hd
        simp only [Bool.and_eq_true, Bool.not_eq_true', bne_iff_ne, ne_eq] at s1
        obtain ⟨s1, s1'⟩ := s1
        refine ⟨fun h => ?_, fun h => ?_⟩
        · rcases h with h | h
          · obtain ⟨i, hi, he⟩ := mem_slots h
            cases he
            have : y.p.slots.contains d = true := by simpa using hi
            rw [s1] at this
            cases this
          · exact mem_not_slot hy.rm _ h
        · rcases h with h | h
          · obtain ⟨i, hi, he⟩ := mem_slots h
            cases he
            cases hq : y.p.dst with
            | none => rw [hq] at hi; simp at hi
            | some e => rw [hq] at hi s1'; simp at hi; subst hi; exact s1' rfl
          · exact mem_not_slot hy.wm _ h
    · refine ⟨fun h => ?_, fun h => ?_⟩
      · rcases h with h | h
        · obtain ⟨i, _, rfl⟩ := mem_slots h
          exact mem_not_slot hx.wm _ hl
        · exact h1 l hl h
      · rcases h with h | h
        · obtain ⟨i, _, rfl⟩ := mem_slots h
          exact mem_not_slot hx.wm _ hl
        · exact h2 l hl h
  · rw [hy.wrs, List.mem_append] at hl
    rw [hx.rds, List.mem_append] at hm
    rcases hl with hl | hl
    · obtain ⟨d, hd, rfl⟩ := mem_slots hl
      cases hp : y.p.dst with
      | none => rw [hp] at hd; simp at hd
      | some d' =>
        rw [hp] at hd s2
        simp only [Option.toList_some, List.mem_singleton] at hd
        subst hd
        simp only [Bool.not_eq_true'] at s2
        rcases hm with h | h
        · obtain ⟨i, hi, he⟩ := mem_slots h
          cases he
          have : x.p.slots.contains d = true := by simpa using hi
          rw [s2] at this
          cases this
        · exact mem_not_slot hx.rm _ h
    · rcases hm with h | h
      · obtain ⟨i, _, rfl⟩ := mem_slots h
        exact mem_not_slot hy.wm _ hl
      · exact h3 l hl h

theorem slotsChk_spec {dep : List Nat} {q : POp T} : ∀ {ps : List (POp T)} {i k : Nat} {p : POp T}, slotsChk i dep q ps = true → ps[k]? = some p → dep.contains (i + k) = true ∨ slotFree p q = true
  | [], _, _, _, _, h => by simp at h
  | p0 :: ps, i, 0, p, h, hk => by
    simp only [slotsChk, Bool.and_eq_true, Bool.or_eq_true] at h
    simp at hk
    subst hk
    exact h.1
  | p0 :: ps, i, k + 1, p, h, hk => by
    simp only [slotsChk, Bool.and_eq_true] at h
    have := slotsChk_spec (i := i + 1) (k := k) h.2 (by simpa using hk)
    rw [show i + 1 + k = i + (k + 1) by omega] at this
    exact this

theorem any_beq {l : List Nat} {i : Nat} (h : l.any (Nat.beq i) = true) : l.contains i = true := by
  obtain ⟨x, hx, he⟩ := List.any_eq_true.1 h
  have := Nat.eq_of_beq_eq_true he
  subst this
  simpa using hx

theorem mchk_spec {dep : List Nat} {rd wr : List Loc} : ∀ {acc : Acc} {i : Nat} {r w : List Loc}, mchk dep rd wr acc = true → (i, r, w) ∈ acc → dep.contains i = true ∨ (disj w rd ∧ disj w wr ∧ disj wr r)
  | [], _, _, _, _, h => by cases h
  | (i0, r0, w0) :: acc, i, r, w, h, hm => by
    simp only [mchk, Bool.and_eq_true, Bool.or_eq_true] at h
    rcases List.mem_cons.1 hm with hm | hm
    · cases hm
      exact h.1.imp any_beq fun h => ⟨disjB_spec h.1, disjB_spec h.2.1, disjB_spec h.2.2⟩
    · exact mchk_spec h.2 hm

theorem dep_waits {o : Oper} {i : Nat} {ops : Array Oper} {j : Nat} (ho : ops[j]? = some o) (h : ((o.after.toList.filter (Region.binds .any ·)).map (·.on)).contains i = true) : ∃ oj, ops[j]? = some oj ∧ ∃ e ∈ oj.after, Region.binds .any e = true ∧ e.on = i := by
  simp only [List.contains_iff_mem, List.mem_map, List.mem_filter] at h
  obtain ⟨e, ⟨he, hb⟩, hon⟩ := h
  exact ⟨o, ho, e, by simpa using he, hb, hon⟩

theorem draw_run {cu : TypeId → Option T.U} {call : CallH T} {S : Cls} (hcall : CallSound S.P call) {lim : Nat} (hlim : lim ≤ S.lim) {X : Type} {r : X} {K : St T → Nat → Option X} : ∀ (os : List Oper) (ds : List (List Nat)) (ps : List (POp T)) (i n : Nat) (acc : Acc) (σ : St T) (pre : List (Came T)), (∀ j, os[j]? = ops[i + j]?) → (∀ j d, ds[j]? = some d → ∀ k ∈ d, Anc ops k (i + j)) → S.base ≤ n → n ≤ lim → compOps S.P cu S.N ops os = some ps →
    slotsOk (pre.map (·.p)) ps ds = true → pre.map (·.i) = List.range i → (∀ x ∈ pre, x.OK ∧ ((x.r = [] ∧ x.w = []) ∨ (x.i, x.r, x.w) ∈ acc)) → evDraw call lim ps ds i acc σ n K = some r →
    ∃ rem σf n', K σf n' = some r ∧ (∀ l, look σf l = look (fin rem σ) l) ∧ RunOK S ops i os.length rem σ n n' ∧ n' ≤ lim ∧ Apart ops rem ∧
      ∀ x ∈ pre, ∀ y ∈ rem, Anc ops x.i y.1 ∨ x.I.free y.2.2
  | [], ds, ps, i, n, acc, σ, pre, _, _, _, hn, hc, _, _, _, h => by
    simp only [compOps, Option.some.injEq] at hc
    subst hc
    exact ⟨[], σ, n, h, fun _ => rfl, ⟨rfl, by simp, fun _ _ _ => trivial, List.Pairwise.nil, by simp, Nat.le_refl _⟩, hn, List.Pairwise.nil, by simp⟩
  | o :: os, ds, ps, i, n, acc, σ, pre, ho, hds, hb, hn, hc, hs, hi, hpre, h => by
    simp only [compOps] at hc
    split at hc
    · rename_i p ps' h1 h2
      cases hc
      obtain ⟨c1, c2, c3, c4⟩ := compOp_inv h1
      have ho0 : ops[i]? = some o := by simpa using (ho 0).symm
      have ho' : ∀ j, os[j]? = ops[i + 1 + j]? := fun j => by have := ho (j + 1); simpa [Nat.add_assoc, Nat.add_comm 1 j] using this
      have hdsT : ∀ j d, ds.tail[j]? = some d → ∀ k ∈ d, Anc ops k (i + 1 + j) := fun j d hd k hk => by
        have := hds (j + 1) d (by simpa using hd) k hk
        rw [show i + 1 + j = i + (j + 1) by omega]
        exact this
      have hds0 : ∀ k, (ds.headD []).contains k = true → Anc ops k i := fun k hk => by
        cases ds with
        | nil => simp at hk
        | cons d ds => exact hds 0 d rfl k (by simpa using hk)
      simp only [slotsOk, Bool.and_eq_true, evDraw] at hs h
      have key : ∀ (I : Inst T) (mrd mw : List Loc) (acc2 : Acc) (σ2 : St T) (n2 : Nat), (∀ γ0 w0 ok, Valid (S.ctx γ0 w0 ok) ops o σ I) → I.rds = p.slots.map .s ++ mrd → locs I.wrs = (p.dst.toList.map .s) ++ mw → mrd.all memL = true → mw.all memL = true → mchk (ds.headD []) mrd mw acc = true →
          ((mrd = [] ∧ mw = []) ∧ acc2 = acc ∨ acc2 = (i, mrd, mw) :: acc) → (∀ l, look σ2 l = look (upd σ I.wrs) l) → I.lo = n → I.hi = n2 → n ≤ n2 → n2 ≤ lim → evDraw call lim ps' ds.tail (i + 1) acc2 σ2 n2 K = some r →
          ∃ rem σf n', K σf n' = some r ∧ (∀ l, look σf l = look (fin rem σ) l) ∧ RunOK S ops i (o :: os).length rem σ n n' ∧ n' ≤ lim ∧ Apart ops rem ∧
            ∀ x ∈ pre, ∀ y ∈ rem, Anc ops x.i y.1 ∨ x.I.free y.2.2 := by
        intro I mrd mw acc2 σ2 n2 hI hIr hIw m1 m2 m3 hacc h2' e1 e2 hle hle2 hev
        let me : Came T := ⟨i, p, mrd, mw, I⟩
        have hme : me.OK := ⟨hIr, hIw, m1, m2⟩
        have hfirst : ∀ y ∈ pre, Anc ops y.i i ∨ y.I.free me.I := by
          intro y hy
          obtain ⟨hyok, hyacc⟩ := hpre y hy
          obtain ⟨k, hk'⟩ := List.getElem?_of_mem hy
          have hyi : y.i = k := by
            have : (pre.map (·.i))[k]? = (List.range i)[k]? := by rw [hi]
            rw [List.getElem?_map, hk'] at this
            have hlt : k < i := by
              have := (List.getElem?_eq_some_iff.1 this.symm).1
              simpa using this
            simpa [hlt] using this
          have hsl := slotsChk_spec (k := k) hs.1 (by rw [List.getElem?_map, hk']; rfl)
          rw [Nat.zero_add, ← hyi] at hsl
          rcases hsl with hsl | hsl
          · exact .inl (hds0 _ hsl)
          · rcases hyacc with ⟨e1, e2⟩ | hin
            · refine .inr (Came.free hyok hme hsl ?_ ?_ ?_)
              · rw [e2]; intro l hl; cases hl
              · rw [e2]; intro l hl; cases hl
              · rw [e1]; intro l _ hl; cases hl
            · rcases mchk_spec m3 hin with hd | ⟨d1, d2, d3⟩
              · exact .inl (hds0 _ hd)
              · exact .inr (Came.free hyok hme hsl d1 d2 d3)
        obtain ⟨rem, σf, n', k1, k2, k3, k4, k5, k6⟩ := draw_run hcall hlim os ds.tail ps' (i + 1) n2 acc2 σ2 (pre ++ [me]) ho' hdsT (by omega) hle2 h2
          (by simpa [List.map_append] using hs.2) (by simp [List.map_append, hi, List.range_succ, me]) (fun y hy => by
            rcases List.mem_append.1 hy with hy | hy
            · obtain ⟨g1, g2⟩ := hpre y hy
              refine ⟨g1, g2.imp id fun g => ?_⟩
              rcases hacc with ⟨_, rfl⟩ | rfl
              · exact g
              · exact List.mem_cons_of_mem _ g
            · simp only [List.mem_singleton] at hy
              subst hy
              refine ⟨hme, ?_⟩
              rcases hacc with ⟨⟨e1, e2⟩, _⟩ | rfl
              · exact .inl ⟨e1, e2⟩
              · exact .inr List.mem_cons_self) hev
        have hr7 : ∀ y ∈ rem, Anc ops i y.1 ∨ me.I.free y.2.2 := fun y hy => k6 me (by simp) y hy
        have hlt : ∀ y ∈ rem, i < y.1 := fun y hy => by
          have : y.1 ∈ rem.map (·.1) := List.mem_map.2 ⟨y, hy, rfl⟩
          rw [k3.nums] at this
          have := List.mem_range'_1.1 this
          omega
        refine ⟨(i, o, I) :: rem, σf, n', k1, fun l => (k2 l).trans (fin_congr rem h2' l), ⟨by simp [k3.nums, List.range'_succ], fun y hy => ?_, fun γ0 w0 ok => ⟨hI γ0 w0 ok, RunV.congr rem h2' (k3.run γ0 w0 ok)⟩, List.pairwise_cons.2 ⟨fun y hy => ?_, k3.rise⟩, fun y hy => ?_, by have := k3.le; omega⟩, k4,
          List.pairwise_cons.2 ⟨fun y hy => ⟨hlt y hy, hr7 y hy⟩, k5⟩, fun y hy z hz => ?_⟩
        · rcases List.mem_cons.1 hy with rfl | hy
          · exact ho0
          · exact k3.opsOk y hy
        · have := (k3.rng y hy).1; simp only [e2]; omega
        · rcases List.mem_cons.1 hy with rfl | hy
          · simp only [e1, e2]; have := k3.le; omega
          · have := k3.rng y hy; omega
        · rcases List.mem_cons.1 hz with rfl | hz
          · exact hfirst y hy
          · exact k6 y (by simp [hy]) z hz
      have hdl : ∀ (c : Bool) (x : PV T), locs (dw p.dst c x) = p.dst.toList.map .s := fun c x => by cases p.dst <;> rfl
      have mnil : ∀ dep, mchk dep [] [] acc = true := by
        intro dep
        clear hpre h key
        induction acc with
        | nil => rfl
        | cons q acc ih =>
          obtain ⟨q1, q2, q3⟩ := q
          have d1 : ∀ l : List Loc, disjB l [] = true := fun l => by simp [disjB]
          have d2 : ∀ l : List Loc, disjB [] l = true := fun l => rfl
          simp [mchk, d1, d2, ih]
      obtain ⟨σ', hsame, ⟨hA, hG⟩ | ⟨hB, hG⟩⟩ := gdv_inv c2 h
      · rw [c4] at hA
        obtain ⟨x, mrd, mwr, n', hk, hle, hle2, hv, q1, q2⟩ := evKB_sound c1 hcall hlim hb hA
        rw [← c4] at hk
        have hV := fun γ0 w0 ok => valid_run c4 c3 (hG _) ((hv γ0 w0 ok).congr hsame)
        simp only at hk
        split at hk
        · rename_i hm
          have hw : locs (runInst p x mrd mwr n n').wrs = p.dst.toList.map .s ++ locs mwr := by
            simp only [runInst, locs, List.map_append]; congr 1; exact hdl true x
          split at hk
          · refine key (runInst p x [] [] n n') [] [] acc _ n' hV rfl (by simpa [locs] using hw) rfl rfl (mnil _) (.inl ⟨⟨rfl, rfl⟩, rfl⟩) (fun l => ?_) rfl rfl hle (by omega) hk
            simp only [runInst, List.append_nil]
            exact upd_congr hsame _ l
          · exact key (runInst p x mrd mwr n n') mrd (locs mwr) _ _ n' hV rfl hw q1 q2 hm (.inr rfl) (fun l => upd_congr hsame _ l) rfl rfl hle (by omega) hk
        · cases hk
      · exact key (skipInst p n) [] [] acc _ n (fun _ _ _ => valid_skip c4 c3 (hG _)) (by simp [skipInst]) (by simp [skipInst, hdl]) rfl rfl (mnil _) (.inl ⟨⟨rfl, rfl⟩, rfl⟩) (fun l => upd_congr hsame _ l) rfl rfl (Nat.le_refl _) hn hB
    · cases hc

theorem edgesOk_spec : ∀ {ds : List (List Nat)} {i j : Nat} {d : List Nat}, edgesOk i ds = true → ds[j]? = some d → ∀ k ∈ d, k < i + j
  | [], _, _, _, _, h => by simp at h
  | d0 :: ds, i, 0, d, h, hj => by
    simp only [edgesOk, Bool.and_eq_true] at h
    simp at hj
    subst hj
    intro k hk
    have := List.all_eq_true.1 h.1 k hk
    simpa using this
  | d0 :: ds, i, j + 1, d, h, hj => by
    simp only [edgesOk, Bool.and_eq_true] at h
    intro k hk
    have := edgesOk_spec (i := i + 1) (j := j) h.2 (by simpa using hj) k hk
    omega

theorem mem_mergeN : ∀ (a l : List Nat) (x : Nat), x ∈ mergeN a l → x ∈ a ∨ x ∈ l
  | [], l, x, h => .inr h
  | y :: r, l, x, h => by
    unfold mergeN at h
    rcases mem_mergeN r _ x h with h | h
    · exact .inl (by simp [h])
    · split at h
      · exact .inr h
      · rcases List.mem_cons.1 h with rfl | h
        · exact .inl (by simp)
        · exact .inr h

theorem clo_anc {ops : Array Oper} : ∀ (ds acc : List (List Nat)), (∀ j d, acc[j]? = some d → ∀ k ∈ d, Anc ops k j) → (∀ j d, ds[j]? = some d → ∀ k ∈ d, Anc ops k (acc.length + j)) → ∀ j d, (clo acc ds)[j]? = some d → ∀ k ∈ d, Anc ops k j
  | [], acc, h1, _ => h1
  | d0 :: ds, acc, h1, h2 => by
    unfold clo
    refine clo_anc ds _ (fun j d hd k hk => ?_) (fun j d hd k hk => ?_)
    · rcases Nat.lt_or_ge j acc.length with hj | hj
      · rw [List.getElem?_append_left hj] at hd
        exact h1 j d hd k hk
      · rw [List.getElem?_append_right hj] at hd
        have hj0 : j - acc.length = 0 := by
          have := getElem?_lt hd
          simp at this
          omega
        rw [hj0] at hd
        simp only [List.getElem?_cons_zero, Option.some.injEq] at hd
        have hja : j = acc.length := by omega
        subst hd
        subst hja
        rcases mem_mergeN _ _ _ hk with hk | hk
        · obtain ⟨y, hy, hky⟩ := List.mem_flatMap.1 hk
          have hy' := h2 0 d0 rfl y hy
          rw [Nat.add_zero] at hy'
          refine .trans ?_ hy'
          rw [List.getD_eq_getElem?_getD] at hky
          cases hq : acc[y]? with
          | none => rw [hq] at hky; simp at hky
          | some q => rw [hq] at hky; exact h1 y q hq k hky
        · rcases mem_mergeN _ _ _ hk with hk | hk
          · have := h2 0 d0 rfl k hk
            rwa [Nat.add_zero] at this
          · cases hk
    · have := h2 (j + 1) d (by simpa using hd) k hk
      rw [List.length_append]
      simp only [List.length_cons, List.length_nil]
      rw [show acc.length + (0 + 1) + j = acc.length + (j + 1) by omega]
      exact this

theorem depsC_anc (ops : Array Oper) : ∀ j d, (depsC ops.toList)[j]? = some d → ∀ k ∈ d, Anc ops k (0 + j) := by
  intro j d hd k hk
  rw [Nat.zero_add]
  refine clo_anc (depsOf ops.toList) [] (fun j d hd => by simp at hd) (fun j d hd k hk => ?_) j d hd k hk
  simp only [List.length_nil, Nat.zero_add]
  simp only [depsOf, List.getElem?_map] at hd
  cases ho : ops.toList[j]? with
  | none => rw [ho] at hd; simp at hd
  | some o =>
    rw [ho] at hd
    simp only [Option.map_some, Option.some.injEq] at hd
    subst hd
    obtain ⟨e, he, rfl⟩ := List.mem_map.1 hk
    obtain ⟨he, hb⟩ := List.mem_filter.1 he
    exact .edge (by simpa using ho) ⟨e, by simpa using he, hb, rfl⟩

/-- A region: from the state and the next name to that state and that next name. -/
theorem w_region {cu : TypeId → Option T.U} {call : CallH T} {S : Cls} (hcall : CallSound S.P call) {lim : Nat} (hlim : lim = S.lim) {X : Type} {r : X} {K : St T → Nat → Option X} {id n : Nat} {draw : Bool} {ps : List (POp T)} {deps : List (List Nat)} (hb : S.base ≤ n) (hn : n ≤ lim)
    (hc : compReg S.P cu S.N ops draw = some (ps, deps)) (h : (match draw with | true => evDraw call lim ps deps 0 [] σ n K | false => evSeq call lim ps σ n K) = some r) :
    ∃ σf n', K σf n' = some r ∧ n ≤ n' ∧ n' ≤ lim ∧ ∀ γ0 w0, EntryOK (S.entry γ0 w0) → ∀ γ a w, Inv (S.entry γ0 w0) γ w → Fresh n S.lim γ → Sat (S.entry γ0 w0) S.N γ w a σ →
      (Code.region id ops draw).wp S.P (fun e a' w' => e = .normal ∧ ∃ γ', Inv (S.entry γ0 w0) γ' w' ∧ Fresh n' S.lim γ' ∧ Sat (S.entry γ0 w0) S.N γ' w' a' σf) a w := by
  have fin' : ∀ {rem : Rem T} {σf : St T} {n' : Nat}, RunOK S ops 0 ops.size rem σ n n' → n' ≤ lim → (∀ l, look σf l = look (fin rem σ) l) → ∀ {γ0 : Gh} {w0 : World} {γ γ' : Gh} {a' : Act} {w' : World}, Fresh n S.lim γ → Inv (S.entry γ0 w0) γ' w' → Sat (S.entry γ0 w0) S.N γ' w' a' (fin rem σ) → Kept (S.entry γ0 w0) (Beyond rem) γ γ' →
      Exit.normal = .normal ∧ ∃ γ', Inv (S.entry γ0 w0) γ' w' ∧ Fresh n' S.lim γ' ∧ Sat (S.entry γ0 w0) S.N γ' w' a' σf := by
    intro rem σf n' hR hle hl γ0 w0 γ γ' a' w' hf i1 s1 k1
    refine ⟨rfl, γ', i1, ?_, s1.congr hl⟩
    refine Fresh.kept (S := Beyond rem) (fun nm h1 h2 => hf nm (by have := hR.le; omega) h2) k1 fun nm h1 h2 => ⟨fun x hx => ?_, by have := hR.le; show S.base ≤ nm; omega, h2⟩
    have := hR.rng x hx
    omega
  have hins : ∀ {rem : Rem T} {n' : Nat}, RunOK S ops 0 ops.size rem σ n n' → n' ≤ lim → ∀ γ0 w0, Inside (S.entry γ0 w0) rem := fun hR hle γ0 w0 x hx nm h1 h2 => by
    have := hR.rng x hx
    exact ⟨by show S.base ≤ nm; omega, by show nm < S.lim; omega⟩
  have hfr : ∀ {rem : Rem T} {n' : Nat} {γ : Gh}, RunOK S ops 0 ops.size rem σ n n' → n' ≤ lim → Fresh n S.lim γ → ∀ x ∈ rem, Fresh x.2.2.lo x.2.2.hi γ := fun hR hle hf x hx nm h1 h2 => by
    have := hR.rng x hx
    exact hf nm (by omega) (by omega)
  have step : ∀ {E : Entry} {γ : Gh} {w : World} (d : Nat), Inv E γ w → Inv E γ { w with drawn := d } := fun d hi =>
    ⟨⟨hi.evo.size, hi.evo.mono, hi.evo.low⟩, hi.os, hi.tape, hi.output, hi.same, hi.bt, hi.out, hi.new, hi.ok⟩
  have evd : ∀ (γ : Gh) (w : World) (d : Nat), Evo (fun _ => False) γ w γ { w with drawn := d } := fun γ w d =>
    ⟨⟨Nat.le_refl w.heap.size, fun _ _ => Nat.le_refl _, fun _ _ _ _ => rfl⟩, rfl, rfl, rfl, fun _ _ _ => ⟨rfl, rfl, rfl⟩, fun _ _ h => h⟩
  have stepS : ∀ {E : Entry} {γ : Gh} {w : World} {a : Act} (d : Nat), Inv E γ w → Sat E S.N γ w a σ → Sat E S.N γ { w with drawn := d } a σ := fun {E γ w a} d _ hs =>
    ⟨hs.size, hs.defers.evo (evd γ w d), hs.glob.evo (evd γ w d).toDEvo, fun l f hl => (hs.facts l f hl).evo (evd γ w d) (fun _ _ h => h) (fun _ _ => rfl), hs.perm⟩
  unfold compReg at hc
  split at hc
  · rename_i ps' hps
    cases draw with
    | false =>
      simp only [Bool.false_eq_true, if_false, Option.some.injEq, Prod.mk.injEq] at hc h
      obtain ⟨rfl, rfl⟩ := hc
      obtain ⟨rem, σf, n', k1, k2, k3, k4⟩ := seq_run hcall (by omega) ops.toList _ 0 n σ (by simp) hb hn hps h
      have k3' : RunOK S ops 0 ops.size rem σ n n' := by simpa using k3
      refine ⟨σf, n', k1, k3.le, k4, fun γ0 w0 ok γ a w hi hf hs => ?_⟩
      refine wp_region ?_
      have := wpOps_run (C := S.ctx γ0 w0 ok) (ops := ops) (Q := fun e a' w' => e = .normal ∧ ∃ γ', Inv (S.entry γ0 w0) γ' w' ∧ Fresh n' S.lim γ' ∧ Sat (S.entry γ0 w0) S.N γ' w' a' σf) rem σ γ a { w with drawn := w.drawn } k3.opsOk (k3.run _ _ ok) k3.rise (hins k3' k4 _ _) (hfr k3' k4 hf) (step _ hi) (stepS _ hi hs)
        (fun a' w' γ' i1 s1 kk => fin' k3' k4 k2 hf i1 s1 kk)
      rw [k3.nums] at this
      simpa [List.range_eq_range'] using this
    | true =>
      simp only [if_true] at hc h
      split at hc
      · rename_i hcond
        simp only [Bool.and_eq_true] at hcond
        obtain ⟨⟨hm, hslots⟩, hedges⟩ := hcond
        simp only [Option.some.injEq, Prod.mk.injEq] at hc
        obtain ⟨rfl, rfl⟩ := hc
        obtain ⟨rem, σf, n', k1, k2, k3, k4, k5, _⟩ := draw_run hcall (by omega) ops.toList (depsC ops.toList) _ 0 n [] σ [] (by simp) (depsC_anc ops) hb hn hps hslots (by simp) (by simp) h
        have k3' : RunOK S ops 0 ops.size rem σ n n' := by simpa using k3
        refine ⟨σf, n', k1, k3.le, k4, fun γ0 w0 ok γ a w hi hf hs => ?_⟩
        refine wp_region_any hm ?_
        have hsz : rem.length = ops.size := by have := congrArg List.length k3.nums; simpa using this
        refine wpAny_run (C := S.ctx γ0 w0 ok) (fun i o ho e he hb => ?_) ops.size rem (Array.replicate ops.size false) σ γ a _ hsz (by simp) (fun y oj hoj hly => by exfalso; simp [Array.getD_eq_getD_getElem?, Array.getElem?_replicate] at hly; split at hly <;> simp at hly) (fun x hx => ⟨k3.opsOk x hx, ?_⟩) (fun i hi' => ?_) k5 (k3.run _ _ ok) (k3.rise.imp fun h => .inl h) (hins k3' k4 _ _) (hfr k3' k4 hf) (step _ hi) (stepS _ hi hs)
          (fun a' w' γ' i1 s1 kk => fin' k3' k4 k2 hf i1 s1 kk)
        · have := edgesOk_spec (j := i) (d := (o.after.toList.filter (Region.binds .any ·)).map (·.on)) hedges (by simp [depsOf, ho]) e.on (by
            simp only [List.mem_map, List.mem_filter]
            exact ⟨e, ⟨by simpa using he, hb⟩, rfl⟩)
          omega
        · have hlt : x.1 < ops.size := (Array.getElem?_eq_some_iff.1 (k3.opsOk x hx)).1
          simp [hlt]
        · have hlt : i < ops.size := by
            rcases Nat.lt_or_ge i ops.size with h' | h'
            · exact h'
            · have h0 : (Array.replicate ops.size false)[i]? = none := Array.getElem?_eq_none (by simpa using h')
              simp [Array.getD_eq_getD_getElem?, h0] at hi'
          have : i ∈ rem.map (·.1) := by
            rw [k3.nums]
            exact List.mem_range'_1.2 ⟨Nat.zero_le _, by simpa using hlt⟩
          obtain ⟨x, hx, rfl⟩ := List.mem_map.1 this
          exact ⟨x, hx, rfl⟩
      · cases hc
  · cases hc
end
end Go.G
/-! A frame that leaves with marks among its deferred calls. -/
namespace Go.G
variable {T : Uni}

/-- Nothing that is told of has changed. -/
structure Quiet (γ : Gh) (w w' : World) : Prop where
  size : w'.heap.size = w.heap.size
  os : w'.os = w.os
  tape : w'.tape = w.tape
  output : w'.output = w.output
  own : ∀ b nm, γ.own b = some nm → w'.heap[b]? = w.heap[b]?
  cell : ∀ b i, w'.cell? ⟨b, i, none⟩ = w.cell? ⟨b, i, none⟩

section
variable {γ : Gh} {w w' : World}

theorem Quiet.devo (q : Quiet γ w w') : DEvo γ.imm w γ.imm w' := ⟨Nat.le_of_eq q.size.symm, fun _ _ => Nat.le_refl _, fun b i _ _ => q.cell b i⟩

theorem RepC.quiet (q : Quiet γ w w') {c : CV T} {v : Value} (h : RepC γ w c v) : RepC γ w' c v := by
  cases c with
  | d x => exact RepD.evo q.devo h
  | nl => exact h
  | ref nm off => exact h
  | cur cs =>
    obtain ⟨b, off, h1, h2, h3, h4⟩ := h
    exact ⟨b, off, h1, by rw [q.size]; exact h2, h3, h4.evo q.devo h2 h3⟩
  | own u nm => exact h
  | buf u nm off len => exact h
  | elm u nm i f => exact h
  | fn f caps => exact h
  | mp nm => exact h
  | val u => exact h

theorem RepCs.quiet (q : Quiet γ w w') : ∀ {cs : List (CV T)} {vs : List Value}, RepCs γ w cs vs → RepCs γ w' cs vs
  | [], [], _ => trivial
  | _ :: _, _ :: _, h => ⟨RepC.quiet q h.1, RepCs.quiet q h.2⟩
  | [], _ :: _, h => h.elim
  | _ :: _, [], h => h.elim

mutual
theorem RepP.quiet (q : Quiet γ w w') : ∀ (p : PV T) (v : Value), RepP γ w p v → RepP γ w' p v
  | .one c, v, h => by simp only [RepP] at h ⊢; exact RepC.quiet q h
  | .agg cs, v, h => by
    simp only [RepP] at h ⊢
    obtain ⟨vs, e, h⟩ := h
    exact ⟨vs, e, RepCs.quiet q h⟩
  | .tup ps, v, h => by
    simp only [RepP] at h ⊢
    obtain ⟨vs, e, h⟩ := h
    exact ⟨vs, e, RepPs.quiet q ps vs h⟩
  | .junk, _, _ => by simp only [RepP]
theorem RepPs.quiet (q : Quiet γ w w') : ∀ (ps : List (PV T)) (vs : List Value), RepPs γ w ps vs → RepPs γ w' ps vs
  | [], [], _ => by simp only [RepPs]
  | p :: ps, v :: vs, h => by
    simp only [RepPs] at h ⊢
    exact ⟨RepP.quiet q p v h.1, RepPs.quiet q ps vs h.2⟩
  | [], _ :: _, h => by simp only [RepPs] at h
  | _ :: _, [], h => by simp only [RepPs] at h
end

theorem FactOK.quiet (q : Quiet γ w w') {tm : Nat → Value} {l : Loc} {f : Fact T} (h : FactOK γ w tm l f) : FactOK γ w' tm l f := by
  cases l with
  | s i =>
    cases f with
    | v c x => exact ⟨fun hc => RepP.quiet q _ _ (h.1 hc), fun hc => h.2 hc⟩
    | _ => exact h.elim
  | h nm =>
    cases f with
    | v c x => exact h.elim
    | b cs =>
      obtain ⟨b, vs, t, h1, h2, h3, h4, h5, h6⟩ := h
      exact ⟨b, vs, t, h1, h2, h3, by rw [q.size]; exact h4, (q.own b _ h2).trans h5, RepCs.quiet q h6⟩
    | r u l fz =>
      obtain ⟨A, cap, h1, h2, h3⟩ := h
      refine ⟨A, cap, h1, h2, ?_⟩
      rcases h3 with h3 | ⟨b, off, c, t, e1, e2, e3, e4, e5, e6, e7⟩
      · exact .inl h3
      · exact .inr ⟨b, off, c, t, e1, e2, by rw [q.size]; exact e3, (q.own b _ e2).trans e4, e5, e6, fun i a ha => (e7 i a ha).same q.devo (q.own b _ e2)⟩
    | m uk uv l =>
      obtain ⟨b, es, t, h1, h2, h4, h5, h6⟩ := h
      exact ⟨b, es, t, h1, h2, by rw [q.size]; exact h4, (q.own b _ h2).trans h5, h6.evo q.devo⟩

theorem Sat.quiet {E : Entry} {N : Nat} {a : Act} {σ : St T} (q : Quiet γ w w') (hs : Sat E N γ w a σ) {ds : List Deferred} (hd : Marks E γ w' ds) : Sat E N γ w' { a with defers := ds } σ :=
  ⟨hs.size, hd, hs.glob.evo q.devo, fun l f hl => (hs.facts l f hl).quiet q, hs.perm⟩

theorem Inv.quiet {E : Entry} (q : Quiet γ w w') (hi : Inv E γ w) (hb : ∀ b, b < E.w0.heap.size → w'.heap[b]? = w.heap[b]?) : Inv E γ w' where
  evo := hi.evo.trans q.devo
  os := q.os.trans hi.os
  tape := q.tape.trans hi.tape
  output := q.output.trans hi.output
  same := fun b h hx => ⟨(hb b h).trans (hi.same b h hx).1, (hi.same b h hx).2⟩
  bt := hi.bt
  out := hi.out
  new := hi.new
  ok := fun b h => hi.ok b (by rw [q.size] at h; exact h)
end

theorem marks_end {P : Program} {fn : Func} {tmps : Array Value} {R : Ending → World → Prop} {n : Nat} : ∀ (Ds : List Nat) (w : World), Ds.Nodup → (∀ D ∈ Ds, D < w.heap.size ∧ w.heap[D]? = some (.deferred (some []))) →
    (∀ w' : World, w'.heap.size = w.heap.size → w'.os = w.os → w'.tape = w.tape → w'.output = w.output → (∀ b, b ∉ Ds → w'.heap[b]? = w.heap[b]?) → (∀ D ∈ Ds, w'.heap[D]? = some (.deferred none)) → ∃ v, (results fn tmps).run P w' = .ok v w' ∧ R (.returned v) w') →
    LeavesInM Fence.wide n P fn tmps R (Ds.map fun D => ({ target := .collected D, args := #[] } : Deferred)) .returning w
  | [], w, _, _, h => by
    simp only [List.map_nil, LeavesInM, LeavesIn]
    exact h w rfl rfl rfl rfl (fun _ _ => rfl) (fun _ hD => by cases hD)
  | D :: Ds, w, nd, hd, h => by
    obtain ⟨h1, h2⟩ := hd D (by simp)
    rw [List.nodup_cons] at nd
    refine ⟨by simp, .inl ⟨D, w.putObj D (.deferred none), rfl, run_takeDeferred h2, marks_end Ds _ nd.2 (fun D' hD' => ?_) fun w' e1 e2 e3 e4 e5 e6 => h w' (by rw [e1, World.putObj_size]) e2 e3 e4 (fun b hb => ?_) (fun D' hD' => ?_)⟩⟩
    · have hne : D' ≠ D := by rintro rfl; exact nd.1 hD'
      rw [World.putObj_size, World.putObj_heap_other hne]
      exact hd D' (by simp [hD'])
    · rw [List.mem_cons, not_or] at hb
      rw [e5 b hb.2, World.putObj_heap_other hb.1]
    · rcases List.mem_cons.1 hD' with rfl | hD'
      · rw [e5 _ nd.1, World.putObj_heap_same h1]
      · exact e6 D' hD'

/-- What a function's body must come to, marks or none. -/
def SatPost (T : Uni) (P : Program) (fn : Func) (R : Ending → World → Prop) : Exit → Act → World → Prop := fun e a' w' =>
  (e = .normal ∨ e = .ret) ∧ ∃ (E : Entry) (N : Nat) (γ : Gh) (σ : St T), Inv E γ w' ∧ Sat E N γ w' a' σ ∧ ∀ w'', Inv E γ w'' → Sat E N γ w'' { a' with defers := [] } σ → ∃ v, (results fn a'.tmps).run P w'' = .ok v w'' ∧ R (.returned v) w''

/-- A function's call out of its body, marks or none. -/
theorem calls_of_sat {P : Program} {f : FuncId} {fn : Func} {c : Code} {args : Array Value} {w : World} {R : Ending → World → Prop} (hf : P.funcs[f]? = some fn) (hb : fn.body = some c)
    (h : c.wp P (SatPost T P fn R)
      { tmps := args ++ Array.replicate (fn.ntmps - args.size) undef, defers := [] } w) : Calls P f args w R := by
  refine (callsIn_wide (n := 0)).1 (callsIn_of_wp_marks hf hb trivial (wpIn_wide.2 (wp_mono h fun e a' w' hh => ?_)) rfl)
  obtain ⟨he, E, N, γ, σ, hi, hs, hr⟩ := hh
  have key : LeavesInM Fence.wide 0 P fn a'.tmps R a'.defers .returning w' := by
    obtain ⟨Ds, e, nd, hD⟩ := hs.defers
    rw [e]
    refine marks_end Ds w' nd (fun D h => ⟨(hD D h).2.1, (hD D h).2.2.2⟩) fun w'' e1 e2 e3 e4 e5 e6 => ?_
    have q : Quiet γ w' w'' := by
      refine ⟨e1, e2, e3, e4, fun b nm hn => e5 b fun hb => ?_, fun b i => ?_⟩
      · rw [(hD b hb).2.2.1] at hn; cases hn
      · by_cases hb : b ∈ Ds
        · simp only [World.cell?, e6 b hb, (hD b hb).2.2.2]
        · simp only [World.cell?, e5 b hb]
    exact hr w'' (hi.quiet q fun b hb => e5 b fun hm => by have := (hD b hm).1; omega) (hs.quiet q (.nil _ _ _))
  rcases he with rfl | rfl
  · exact key
  · exact key
end Go.G
namespace Go.G
variable {T : Uni}

/-- A function's text without what its loops come to. -/
inductive PCode (T : Uni) where
  | skip
  | reg (draw : Bool) (ops : List (POp T)) (deps : List (List Nat))
  | seq (a b : PCode T)
  | cond (c : Opd T) (a b : PCode T)
  | block (id : Nat) (c : PCode T)
  | loop (c : PCode T)
  | rfn (f : Opd T) (ps : List Nat) (a b : PCode T)
  | exit (id : Nat)
  | ret

def compile (P : Program) (cu : TypeId → Option T.U) (N : Nat) : Code → Option (PCode T)
  | .skip => some .skip
  | .region _ ops draw => match compReg P cu N ops draw with
    | some (ps, deps) => some (.reg draw ps deps)
    | none => none
  | .seq a b => match compile P cu N a, compile P cu N b with
    | some x, some y => some (.seq x y)
    | _, _ => none
  | .cond c a b => match cOpd c, compile P cu N a, compile P cu N b with
    | some z, some x, some y => some (.cond z x y)
    | _, _, _ => none
  | .block id c => match compile P cu N c with
    | some x => some (.block id x)
    | none => none
  | .loop c => match compile P cu N c with
    | some x => some (.loop x)
    | none => none
  | .rangeFunc f ps a b => match cOpd f, compile P cu N a, compile P cu N b with
    | some z, some x, some y => some (.rfn z ps.toList x y)
    | _, _, _ => none
  | .exit id => some (.exit id)
  | .ret => some .ret
  | _ => none

def erase : ACode T → PCode T
  | .skip => .skip
  | .reg d ops deps => .reg d ops deps
  | .seq a b => .seq (erase a) (erase b)
  | .cond c a b => .cond c (erase a) (erase b)
  | .block id c => .block id (erase c)
  | .loop c _ => .loop (erase c)
  | .unroll _ c => .loop (erase c)
  | .rfn f ps a b _ => .rfn f ps (erase a) (erase b)
  | .exit id => .exit id
  | .ret => .ret

/-- From this state and next name, the code comes to that exit, state, next name. -/
def Runs (S : Cls) (code : Code) (σ : St T) (n : Nat) (e : Exit) (σ' : St T) (n' : Nat) : Prop :=
  ∀ γ0 w0, EntryOK (S.entry γ0 w0) → ∀ γ a w, Inv (S.entry γ0 w0) γ w → Fresh n S.lim γ → Sat (S.entry γ0 w0) S.N γ w a σ → code.wp S.P (fun e' a' w' => e' = e ∧ ∃ γ', Inv (S.entry γ0 w0) γ' w' ∧ Fresh n' S.lim γ' ∧ Sat (S.entry γ0 w0) S.N γ' w' a' σ') a w

def Comes (S : Cls) (code : Code) (σ : St T) (n : Nat) {X : Type} (K : Exit → St T → Nat → Option X) (r : X) : Prop :=
  ∃ e σ' n', K e σ' n' = some r ∧ S.base ≤ n' ∧ n' ≤ S.lim ∧ Runs S code σ n e σ' n'

def LoopOK0 (P : Program) (cu : TypeId → Option T.U) (N : Nat) (pb : PCode T) (g : LoopG0 T) : Prop :=
  ∀ (S : Cls), S.P = P → S.N = N → ∀ code, compile P cu N code = some (.loop pb) → ∀ (X : Type) (σ : St T) (n : Nat) (K : Exit → St T → Nat → Option X) (r : X), S.base ≤ n → n ≤ S.lim → g X σ n S.base S.lim K = some r → Comes S code σ n K r

def LoopOK (P : Program) (cu : TypeId → Option T.U) (N : Nat) (pb : PCode T) (g : LoopG T) : Prop :=
  ∀ call : CallH T, CallSound P call → LoopOK0 P cu N pb (g call)

/-- What becomes of a code that is not walked op by op. -/
def CodeOK (P : Program) (cu : TypeId → Option T.U) (N : Nat) (pc : PCode T) (g : LoopG T) : Prop :=
  ∀ call : CallH T, CallSound P call → ∀ (S : Cls), S.P = P → S.N = N → ∀ code, compile P cu N code = some pc → ∀ (X : Type) (σ : St T) (n : Nat) (K : Exit → St T → Nat → Option X) (r : X), S.base ≤ n → n ≤ S.lim → g call X σ n S.base S.lim K = some r → Comes S code σ n K r

def Good (P : Program) (cu : TypeId → Option T.U) (N : Nat) : ACode T → Prop
  | .seq a b | .cond _ a b => Good P cu N a ∧ Good P cu N b
  | .block _ c | .unroll _ c => Good P cu N c
  | .loop c g => LoopOK P cu N (erase c) g
  | .rfn f ps a b g => CodeOK P cu N (.rfn f ps (erase a) (erase b)) g
  | _ => True

theorem wp_loop_ghost {P : Program} {c : Code} {Q : Exit → Act → World → Prop} {a : Act} {w : World} (I : Nat → Act → World → Prop) (n : Nat) (h₀ : I n a w)
    (round : ∀ n a w, I n a w → c.wp P (Exit.then (fun a' w' => ∃ m, m < n ∧ I m a' w') Q) a w) : (Code.loop c).wp P Q a w := by
  intro b k cs
  have key : ∀ n a w, I n a w → ∃ e a' w', Q e a' w' ∧ Arrives P (lone (b.at a (.code c :: .inLoop c :: k)) cs w) b k cs e a' w' := by
    intro n
    induction n using Nat.strongRecOn with
    | _ n ih =>
      intro a w hI
      obtain ⟨e, a₁, w₁, hq, harr⟩ := round n a w hI b (.inLoop c :: k) cs
      cases e with
      | normal =>
        obtain ⟨m, hlt, hI₁⟩ := hq
        obtain ⟨e₂, a₂, w₂, hq₂, harr₂⟩ := ih m hlt a₁ w₁ hI₁
        exact ⟨e₂, a₂, w₂, hq₂, .of_steps (Steps.trans harr (.one step_inLoop)) harr₂⟩
      | exit id => exact ⟨_, a₁, w₁, hq, .pass (x := .inLoop c) rfl (fun _ _ => .inl (by simp)) harr⟩
      | goto l => exact ⟨_, a₁, w₁, hq, .pass (x := .inLoop c) rfl (fun _ _ => .inl (by simp)) harr⟩
      | ret => exact ⟨_, a₁, w₁, hq, .pass (x := .inLoop c) rfl (fun _ _ => .inl (by simp)) harr⟩
      | panic ch => exact ⟨_, a₁, w₁, hq, .pass (x := .inLoop c) rfl (fun _ _ => .inl (by simp)) harr⟩
      | outgrown => exact ⟨_, a₁, w₁, hq, .pass (x := .inLoop c) rfl (fun _ _ => .inl (by simp)) harr⟩
  obtain ⟨e, a', w', hq, harr⟩ := key n a w h₀
  exact ⟨e, a', w', hq, .of_steps (.one step_loop) harr⟩

/-- What is known may be said anew, under other names. -/
def Goes (S : Cls) (σ : St T) (n : Nat) (σ' : St T) (n' : Nat) : Prop :=
  ∀ γ0 w0, EntryOK (S.entry γ0 w0) → ∀ γ a w, Inv (S.entry γ0 w0) γ w → Fresh n S.lim γ → Sat (S.entry γ0 w0) S.N γ w a σ → ∃ γ', Inv (S.entry γ0 w0) γ' w ∧ Fresh n' S.lim γ' ∧ Sat (S.entry γ0 w0) S.N γ' w a σ'

theorem Goes.refl (S : Cls) (σ : St T) (n : Nat) : Goes S σ n σ n := fun _ _ _ γ _ _ h1 h2 h3 => ⟨γ, h1, h2, h3⟩

inductive Chain (S : Cls) (c : Code) (e : Exit) (σ' : St T) (n' : Nat) : Nat → St T → Nat → Prop
  | last {σ n} (he : e ≠ .normal) (h : Runs S c σ n e σ' n') : Chain S c e σ' n' 0 σ n
  | step {j σ n σ1 n1 σ2 n2} (h : Runs S c σ n .normal σ1 n1) (g : Goes S σ1 n1 σ2 n2) (k : Chain S c e σ' n' j σ2 n2) : Chain S c e σ' n' (j + 1) σ n

theorem Runs.goes {S : Cls} {code : Code} {σ σ1 σ2 : St T} {n n1 n2 : Nat} {e : Exit} (h : Runs S code σ1 n1 e σ2 n2) (g : Goes S σ n σ1 n1) : Runs S code σ n e σ2 n2 := by
  intro γ0 w0 ok γ a w hi hf hs
  obtain ⟨γ', i1, f1, s1⟩ := g γ0 w0 ok γ a w hi hf hs
  exact h γ0 w0 ok γ' a w i1 f1 s1

theorem Chain.runs {S : Cls} {c : Code} {e : Exit} {σ' : St T} {n' j : Nat} {σ : St T} {n : Nat} (h : Chain S c e σ' n' j σ n) : Runs S (.loop c) σ n e σ' n' := by
  intro γ0 w0 ok γ a w hi hf hs
  refine wp_loop_ghost (fun j a w => ∃ σ n γ, Chain S c e σ' n' j σ n ∧ Inv (S.entry γ0 w0) γ w ∧ Fresh n S.lim γ ∧ Sat (S.entry γ0 w0) S.N γ w a σ) j ⟨σ, n, γ, h, hi, hf, hs⟩ ?_
  rintro j a w ⟨σ, n, γ, hc, hi, hf, hs⟩
  cases hc with
  | last he h =>
    refine wp_mono (h γ0 w0 ok γ a w hi hf hs) fun e' a' w' ⟨h1, h2⟩ => ?_
    subst h1
    cases e' with
    | normal => exact absurd rfl he
    | exit id => exact ⟨rfl, h2⟩
    | goto l => exact ⟨rfl, h2⟩
    | ret => exact ⟨rfl, h2⟩
    | panic ch => exact ⟨rfl, h2⟩
    | outgrown => exact ⟨rfl, h2⟩
  | step h g k =>
    refine wp_mono (h γ0 w0 ok γ a w hi hf hs) fun e' a' w' ⟨h1, γ1, i1, f1, s1⟩ => ?_
    subst h1
    obtain ⟨γ2, i2, f2, s2⟩ := g γ0 w0 ok γ1 a' w' i1 f1 s1
    exact ⟨_, Nat.lt_succ_self _, _, _, γ2, k, i2, f2, s2⟩

section
variable {S : Cls} {cu : TypeId → Option T.U} {call : CallH T} {X : Type} {r : X}

theorem compile_seq {P : Program} {N : Nat} {code : Code} {x y : PCode T} (hc : compile P cu N code = some (.seq x y)) : ∃ c1 c2, code = .seq c1 c2 ∧ compile P cu N c1 = some x ∧ compile P cu N c2 = some y := by
  cases code <;> simp only [compile, Option.some.injEq, reduceCtorEq] at hc <;> (split at hc <;> cases hc)
  exact ⟨_, _, rfl, by assumption, by assumption⟩

theorem compile_cond {P : Program} {N : Nat} {code : Code} {z : Opd T} {x y : PCode T} (hc : compile P cu N code = some (.cond z x y)) : ∃ c0 c1 c2, code = .cond c0 c1 c2 ∧ cOpd c0 = some z ∧ compile P cu N c1 = some x ∧ compile P cu N c2 = some y := by
  cases code <;> simp only [compile, Option.some.injEq, reduceCtorEq] at hc <;> (split at hc <;> cases hc)
  exact ⟨_, _, _, rfl, by assumption, by assumption, by assumption⟩

theorem compile_block {P : Program} {N id : Nat} {code : Code} {x : PCode T} (hc : compile P cu N code = some (.block id x)) : ∃ c, code = .block id c ∧ compile P cu N c = some x := by
  cases code <;> simp only [compile, Option.some.injEq, reduceCtorEq] at hc <;> (split at hc <;> cases hc)
  exact ⟨_, rfl, by assumption⟩

theorem compile_loop {P : Program} {N : Nat} {code : Code} {x : PCode T} (hc : compile P cu N code = some (.loop x)) : ∃ c, code = .loop c ∧ compile P cu N c = some x := by
  cases code <;> simp only [compile, Option.some.injEq, reduceCtorEq] at hc <;> (split at hc <;> cases hc)
  exact ⟨_, rfl, by assumption⟩

theorem compile_reg {P : Program} {N : Nat} {code : Code} {d : Bool} {ps : List (POp T)} {deps : List (List Nat)} (hc : compile P cu N code = some (.reg d ps deps)) : ∃ id ops, code = .region id ops d ∧ compReg P cu N ops d = some (ps, deps) := by
  cases code <;> simp only [compile, Option.some.injEq, reduceCtorEq] at hc <;> (split at hc <;> cases hc)
  exact ⟨_, _, rfl, by assumption⟩

theorem compile_skip {P : Program} {N : Nat} {code : Code} (hc : compile (T := T) P cu N code = some .skip) : code = .skip := by
  cases code <;> simp only [compile, Option.some.injEq, reduceCtorEq] at hc <;> first | rfl | (split at hc <;> cases hc)
theorem compile_ret {P : Program} {N : Nat} {code : Code} (hc : compile (T := T) P cu N code = some .ret) : code = .ret := by
  cases code <;> simp only [compile, Option.some.injEq, reduceCtorEq] at hc <;> first | rfl | (split at hc <;> cases hc)
theorem compile_exit {P : Program} {N id : Nat} {code : Code} (hc : compile (T := T) P cu N code = some (.exit id)) : code = .exit id := by
  cases code <;> simp only [compile, Option.some.injEq, reduceCtorEq, PCode.exit.injEq] at hc <;> first | (subst hc; rfl) | (split at hc <;> cases hc)

theorem unroll_sound {c : Code} {body : St T → Nat → (Exit → St T → Nat → Option X) → Option X} (hb : ∀ σ n K, S.base ≤ n → n ≤ S.lim → body σ n K = some r → Comes S c σ n K r) : ∀ (k : Nat) (σ : St T) (n : Nat) (K : Exit → St T → Nat → Option X), S.base ≤ n → n ≤ S.lim → unrollF body k σ n K = some r →
    ∃ e σ' n' j, K e σ' n' = some r ∧ S.base ≤ n' ∧ n' ≤ S.lim ∧ Chain S c e σ' n' j σ n
  | 0, _, _, _, _, _, h => by simp [unrollF] at h
  | k + 1, σ, n, K, h1, h2, h => by
    simp only [unrollF] at h
    obtain ⟨e, σ1, n1, k1, k2, k3, k4⟩ := hb σ n _ h1 h2 h
    simp only at k1
    split at k1
    · obtain ⟨e, σ', n', j, m1, m2, m3, m4⟩ := unroll_sound hb k σ1 n1 K k2 k3 k1
      exact ⟨e, σ', n', j + 1, m1, m2, m3, .step k4 (.refl _ _ _) m4⟩
    · rename_i hne
      exact ⟨e, σ1, n1, 0, k1, k2, k3, .last (fun he => hne he) k4⟩

theorem ev_sound (hcall : CallSound S.P call) : ∀ (A : ACode T) (code : Code) (σ : St T) (n : Nat) (K : Exit → St T → Nat → Option X), compile S.P cu S.N code = some (erase A) → Good S.P cu S.N A → S.base ≤ n → n ≤ S.lim → ev call S.base S.lim A σ n K = some r → Comes S code σ n K r
  | .skip, code, σ, n, K, hc, _, h1, h2, h => by
    have hc := compile_skip hc
    subst hc
    exact ⟨.normal, σ, n, h, h1, h2, fun γ0 w0 ok γ a w hi hf hs => wp_skip ⟨rfl, γ, hi, hf, hs⟩⟩
  | .exit id, code, σ, n, K, hc, _, h1, h2, h => by
    have hc := compile_exit hc
    subst hc
    exact ⟨.exit id, σ, n, h, h1, h2, fun γ0 w0 ok γ a w hi hf hs => wp_exit ⟨rfl, γ, hi, hf, hs⟩⟩
  | .ret, code, σ, n, K, hc, _, h1, h2, h => by
    have hc := compile_ret hc
    subst hc
    exact ⟨.ret, σ, n, h, h1, h2, fun γ0 w0 ok γ a w hi hf hs => wp_ret ⟨rfl, γ, hi, hf, hs⟩⟩
  | .reg d ps deps, code, σ, n, K, hc, _, h1, h2, h => by
    obtain ⟨id, ops, rfl, hr⟩ := compile_reg hc
    cases d with
    | true =>
      obtain ⟨σf, n', k1, k2, k3, k4⟩ := w_region (id := id) (draw := true) (K := fun σ n => K .normal σ n) hcall rfl h1 h2 hr h
      exact ⟨.normal, σf, n', k1, by omega, k3, k4⟩
    | false =>
      obtain ⟨σf, n', k1, k2, k3, k4⟩ := w_region (id := id) (draw := false) (K := fun σ n => K .normal σ n) hcall rfl h1 h2 hr h
      exact ⟨.normal, σf, n', k1, by omega, k3, k4⟩
  | .seq x y, code, σ, n, K, hc, hg, h1, h2, h => by
    obtain ⟨c1, c2, rfl, hx, hy⟩ := compile_seq hc
    obtain ⟨e, σ1, n1, k1, k2, k3, k4⟩ := ev_sound hcall x c1 σ n _ hx hg.1 h1 h2 h
    simp only at k1
    split at k1
    · obtain ⟨e, σ', n', m1, m2, m3, m4⟩ := ev_sound hcall y c2 σ1 n1 K hy hg.2 k2 k3 k1
      refine ⟨e, σ', n', m1, m2, m3, fun γ0 w0 ok γ a w hi hf hs => wp_seq (wp_mono (k4 γ0 w0 ok γ a w hi hf hs) fun e' a' w' ⟨q1, γ1, q2, q3, q4⟩ => ?_)⟩
      subst q1
      exact m4 γ0 w0 ok γ1 a' w' q2 q3 q4
    · rename_i hne
      refine ⟨e, σ1, n1, k1, k2, k3, fun γ0 w0 ok γ a w hi hf hs => wp_seq (wp_mono (k4 γ0 w0 ok γ a w hi hf hs) fun e' a' w' ⟨q1, q2⟩ => ?_)⟩
      subst q1
      cases e' with
      | normal => exact absurd rfl hne
      | exit id => exact ⟨rfl, q2⟩
      | goto l => exact ⟨rfl, q2⟩
      | ret => exact ⟨rfl, q2⟩
      | panic ch => exact ⟨rfl, q2⟩
      | outgrown => exact ⟨rfl, q2⟩
  | .cond z x y, code, σ, n, K, hc, hg, h1, h2, h => by
    obtain ⟨c0, c1, c2, rfl, hz, hx, hy⟩ := compile_cond hc
    obtain ⟨t, ht, h⟩ := rdb_inv h
    have hv : ∀ {E : Entry} γ a w, Sat E S.N γ w a σ → a.eval c0 = .bool t := fun γ a w hs => repB (Rd.rep hs hz (fun _ _ => rfl) ht)
    cases t with
    | true =>
      obtain ⟨e, σ', n', m1, m2, m3, m4⟩ := ev_sound hcall x c1 σ n K hx hg.1 h1 h2 h
      exact ⟨e, σ', n', m1, m2, m3, fun γ0 w0 ok γ a w hi hf hs => wp_cond_split (hv γ a w hs) (fun _ => m4 γ0 w0 ok γ a w hi hf hs) (fun he => by cases he)⟩
    | false =>
      obtain ⟨e, σ', n', m1, m2, m3, m4⟩ := ev_sound hcall y c2 σ n K hy hg.2 h1 h2 h
      exact ⟨e, σ', n', m1, m2, m3, fun γ0 w0 ok γ a w hi hf hs => wp_cond_split (hv γ a w hs) (fun he => by cases he) (fun _ => m4 γ0 w0 ok γ a w hi hf hs)⟩
  | .block id x, code, σ, n, K, hc, hg, h1, h2, h => by
    obtain ⟨c, rfl, hx⟩ := compile_block hc
    obtain ⟨e, σ1, n1, k1, k2, k3, k4⟩ := ev_sound hcall x c σ n _ hx hg h1 h2 h
    have pass : ∀ e2, (∀ (R : Act → World → Prop) a' w', R a' w' → Exit.inBlock id (fun e' a' w' => e' = e2 ∧ R a' w') e a' w') → Runs S (.block id c) σ n e2 σ1 n1 := by
      intro e2 hp γ0 w0 ok γ a w hi hf hs
      refine wp_block (wp_mono (k4 γ0 w0 ok γ a w hi hf hs) fun e' a' w' ⟨q1, q2⟩ => ?_)
      subst q1
      exact hp (fun a' w' => ∃ γ', Inv (S.entry γ0 w0) γ' w' ∧ Fresh n1 S.lim γ' ∧ Sat (S.entry γ0 w0) S.N γ' w' a' σ1) a' w' q2
    cases e with
    | exit j =>
      simp only at k1
      split at k1
      · rename_i hj
        have hj := Nat.eq_of_beq_eq_true hj
        subst hj
        exact ⟨.normal, σ1, n1, k1, k2, k3, pass _ fun R a' w' q => by simp only [Exit.inBlock, if_true]; exact ⟨trivial, q⟩⟩
      · rename_i hj
        have hj : ¬ j = id := fun e => by subst e; simp at hj
        exact ⟨.exit j, σ1, n1, k1, k2, k3, pass _ fun R a' w' q => by simp only [Exit.inBlock, if_neg hj]; exact ⟨trivial, q⟩⟩
    | normal => exact ⟨.normal, σ1, n1, k1, k2, k3, pass _ fun R a' w' q => ⟨rfl, q⟩⟩
    | goto l => exact ⟨.goto l, σ1, n1, k1, k2, k3, pass _ fun R a' w' q => ⟨rfl, q⟩⟩
    | ret => exact ⟨.ret, σ1, n1, k1, k2, k3, pass _ fun R a' w' q => ⟨rfl, q⟩⟩
    | panic ch => exact ⟨.panic ch, σ1, n1, k1, k2, k3, pass _ fun R a' w' q => ⟨rfl, q⟩⟩
    | outgrown => exact ⟨.outgrown, σ1, n1, k1, k2, k3, pass _ fun R a' w' q => ⟨rfl, q⟩⟩
  | .loop x g, code, σ, n, K, hc, hg, h1, h2, h => hg call hcall S rfl rfl code hc X σ n K r h1 h2 h
  | .rfn f ps x y g, code, σ, n, K, hc, hg, h1, h2, h => hg call hcall S rfl rfl code hc X σ n K r h1 h2 h
  | .unroll k x, code, σ, n, K, hc, hg, h1, h2, h => by
    obtain ⟨c, rfl, hx⟩ := compile_loop hc
    obtain ⟨e, σ', n', j, m1, m2, m3, m4⟩ := unroll_sound (S := S) (c := c) (fun σ n K g1 g2 hh => ev_sound hcall x c σ n K hx hg g1 g2 hh) k σ n K h1 h2 h
    exact ⟨e, σ', n', m1, m2, m3, m4.runs⟩
end
end Go.G
namespace Go.G
variable {T : Uni}

def cRV (P : Program) : ResultVar → Option RV
  | .tmp t => some (.t t)
  | .cell a t => match tyAg P t, tySz P t with
    | some ag, some m => if ag = false ∧ m ≠ 1 then none else some (.c a m ag)
    | _, _ => none

def cRVs (P : Program) : List ResultVar → Option (List RV)
  | [] => some []
  | r :: rs => match cRV P r, cRVs P rs with
    | some x, some xs => some (x :: xs)
    | _, _ => none

structure PFn (T : Uni) where
  pc : PCode T
  N : Nat
  rv : List RV

def compFn (P : Program) (cu : TypeId → Option T.U) (f : FuncId) : Option (PFn T) :=
  match P.funcs[f]? with
  | some fn => match fn.body with
    | some code => match compile P cu fn.ntmps code, cRVs P fn.results.toList with
      | some pc, some rv => some ⟨pc, fn.ntmps, rv⟩
      | _, _ => none
    | none => none
  | none => none

def eraseFn (F : AFn T) : PFn T := ⟨erase F.pc, F.N, F.rv⟩

def rvRun (tm : Array Value) : ResultVar → Sem Value
  | .tmp t => pure (tm.getD t undef)
  | .cell b t => do loadVar t (← asAddr (tm.getD b undef))

section
variable {P : Program} {σ : St T} {X : Type} {q : X}

theorem rdR_run {r : ResultVar} {x : RV} (hr : cRV P r = some x) {K : PV T → Option X} (h : rdR σ x K = some q) :
    ∃ p, K p = some q ∧ (∀ E N γ' w' a', Sat E N γ' w' a' σ → ∃ v, RepP γ' w' p v ∧ (rvRun a'.tmps r).run P w' = .ok v w') := by
  cases r with
  | tmp t =>
    simp only [cRV, Option.some.injEq] at hr
    subst hr
    simp only [rdR] at h
    split at h
    · rename_i p hl
      exact ⟨p, h, fun E N γ' w' a' hs => ⟨_, (hs.facts _ _ hl).1 rfl, rfl⟩⟩
    · cases h
  | cell i t =>
    simp only [cRV] at hr
    split at hr
    · rename_i ag m ha hm
      split at hr
      · cases hr
      · rename_i hcond
        cases hr
        have h1 : ag = false → m = 1 := fun e => by
          rcases Nat.decEq m 1 with h' | h'
          · exact absurd ⟨e, h'⟩ hcond
          · exact h'
        simp only [rdR] at h
        split at h
        · rename_i nm off hl
          split at h
          · rename_i cs hb
            obtain ⟨p, hp, hl', rfl⟩ := ldv_inv h1 h
            refine ⟨_, hp, fun E N γ' w' a' hs => ?_⟩
            have e1 := (hs.facts _ _ hl).1 rfl
            simp only [RepP] at e1
            obtain ⟨b, hbox, e1⟩ := e1
            obtain ⟨b', vs, ty, h3, _, _, _, h4, h5⟩ := hs.facts (.h nm) (.b cs) hb
            rw [hbox] at h3; cases h3
            have hr : RepCs γ' w' ((cs.drop off).take m) ((vs.toList.drop off).take m) := (h5.drop off).take m
            have hlv : ((vs.toList.drop off).take m).length = m := by rw [← hr.length]; exact hl'
            have hrun := run_loadVar_list ha hm w' b off _ hlv h1 (fun j v hj => by
              have hj' : j < m := by rw [← hlv]; exact (List.getElem?_eq_some_iff.1 hj).1
              rw [List.getElem?_take_of_lt hj', List.getElem?_drop] at hj
              simp only [World.cell?, h4]
              simpa using hj)
            refine ⟨_, ld_rep h1 hl' hr, ?_⟩
            simp [rvRun, e1, asAddr, hrun]
          · cases h
        · cases h
    · cases hr

theorem rdRs_run : ∀ {rs : List ResultVar} {xs : List RV}, cRVs P rs = some xs → ∀ {K : List (PV T) → Option X}, rdRs σ xs K = some q →
    ∃ ps, K ps = some q ∧ (∀ E N γ' w' a', Sat E N γ' w' a' σ → ∃ vs, RepPs γ' w' ps vs ∧ (rs.mapM (rvRun a'.tmps)).run P w' = .ok vs w')
  | [], xs, hc, K, h => by
    simp only [cRVs, Option.some.injEq] at hc
    subst hc
    exact ⟨[], h, fun _ _ _ _ _ _ => ⟨[], by simp only [RepPs], rfl⟩⟩
  | r :: rs, xs, hc, K, h => by
    simp only [cRVs] at hc
    split at hc
    · rename_i x xs' h1 h2
      cases hc
      have key := rdR_run h1 h
      obtain ⟨p, k1, k2⟩ := key
      obtain ⟨ps, j1, j2⟩ := rdRs_run h2 k1
      refine ⟨p :: ps, j1, fun E N γ' w' a' hs => ?_⟩
      obtain ⟨v, v1, v2⟩ := k2 E N γ' w' a' hs
      obtain ⟨vs, u1, u2⟩ := j2 E N γ' w' a' hs
      refine ⟨v :: vs, by simp only [RepPs]; exact ⟨v1, u1⟩, ?_⟩
      simp only [List.mapM_cons, Sem.run_bind, v2, Result.andThen_ok, u2, Sem.run_pure]
    · cases hc

theorem results_run {fn : Func} {xs : List RV} (hc : cRVs P fn.results.toList = some xs) {K : List (PV T) → Option X} (h : rdRs σ xs K = some q) :
    ∃ ps, K ps = some q ∧ (∀ E N γ' w' a', Sat E N γ' w' a' σ → ∃ v, RepP γ' w' (resPV ps) v ∧ (results fn a'.tmps).run P w' = .ok v w') := by
  obtain ⟨ps, h1, h2⟩ := rdRs_run hc h
  refine ⟨ps, h1, fun E N γ' w' a' hs => ?_⟩
  obtain ⟨vs, h2, h3⟩ := h2 E N γ' w' a' hs
  refine ⟨if hh : vs.toArray.size = 1 then vs.toArray[0] else .tuple vs.toArray, ?_, ?_⟩
  · match ps, vs, h2 with
    | [], [], h2 => simp [resPV, RepP, RepPs]
    | [p], [v], h2 => simp only [RepPs] at h2; simpa [resPV] using h2.1
    | p :: q :: ps, v :: u :: vs, h2 => simp only [resPV, RepP]; exact ⟨_, by simp, h2⟩
    | [], _ :: _, h2 => simp only [RepPs] at h2
    | _ :: _, [], h2 => simp only [RepPs] at h2
    | [_], _ :: _ :: _, h2 => simp only [RepPs, and_false] at h2
    | _ :: _ :: _, [_], h2 => simp only [RepPs, and_false] at h2
  · have e : results fn a'.tmps = (do let vs ← fn.results.mapM (rvRun a'.tmps); pure (if h : vs.size = 1 then vs[0] else .tuple vs)) := by
      unfold results
      rfl
    rw [e]
    have e2 : fn.results.mapM (rvRun a'.tmps) = Functor.map List.toArray (fn.results.toList.mapM (rvRun a'.tmps)) := by
      rw [Array.mapM_eq_mapM_toList]
    rw [e2]
    simp [h3]

theorem look_argSt : ∀ (ps : List (PV T)) (i : Nat) (l : Loc) (f : Fact T), look (argSt i ps) l = some f → ∃ j p, l = .s (i + j) ∧ f = .v true p ∧ ps[j]? = some p
  | [], _, _, _, h => by simp [argSt, look] at h
  | p :: ps, i, l, f, h => by
    simp only [argSt, look_cons] at h
    split at h
    · rename_i he; cases h; exact ⟨0, p, he.symm, rfl, rfl⟩
    · obtain ⟨j, q, e, e2, e3⟩ := look_argSt ps (i + 1) l f h
      exact ⟨j + 1, q, by rw [e]; congr 1; omega, e2, by simpa using e3⟩

theorem heapOf_go : ∀ (σ : St T) (seen : List Nat) (l : Loc) (f : Fact T), (l, f) ∈ heapOf.go σ seen → ∃ nm, l = .h nm ∧ nm ∉ seen ∧ look σ (.h nm) = some f
  | [], _, _, _, h => by simp [heapOf.go] at h
  | (.s i, g) :: r, seen, l, f, h => by
    simp only [heapOf.go] at h
    obtain ⟨nm, e, h1, h2⟩ := heapOf_go r seen l f h
    exact ⟨nm, e, h1, by rw [look_cons, if_neg (by simp)]; exact h2⟩
  | (.h k, g) :: r, seen, l, f, h => by
    simp only [heapOf.go] at h
    split at h
    · rename_i hk
      obtain ⟨nm, e, h1, h2⟩ := heapOf_go r seen l f h
      refine ⟨nm, e, h1, ?_⟩
      rw [look_cons, if_neg (by
        intro he; cases he
        obtain ⟨x, hx, hxe⟩ := List.any_eq_true.1 hk
        have := Nat.eq_of_beq_eq_true hxe
        subst this
        exact h1 hx)]
      exact h2
    · rename_i hk
      rcases List.mem_cons.1 h with h | h
      · cases h
        refine ⟨k, rfl, fun hm => ?_, by rw [look_cons, if_pos rfl]⟩
        have : seen.any (Nat.beq k) = true := List.any_eq_true.2 ⟨k, hm, by simp⟩
        rw [hk] at this; cases this
      · obtain ⟨nm, e, h1, h2⟩ := heapOf_go r (k :: seen) l f h
        simp only [List.mem_cons, not_or] at h1
        exact ⟨nm, e, h1.2, by rw [look_cons, if_neg (by intro he; cases he; exact h1.1 rfl)]; exact h2⟩

theorem heapOf_mem {σ : St T} {l : Loc} {f : Fact T} (h : (l, f) ∈ heapOf σ) : ∃ nm, l = .h nm ∧ look σ (.h nm) = some f := by
  obtain ⟨nm, e, _, h2⟩ := heapOf_go σ [] l f h
  exact ⟨nm, e, h2⟩
end

def isFnOK (P : Program) (f : FuncId) : Bool := isFn P f

/-- A function's text is as its entry says. -/
structure TextOK (P : Program) (cu : TypeId → Option T.U) (f : FuncId) (F : AFn T) : Prop where
  comp : compFn P cu f = some (eraseFn F)
  good : Good P cu F.N F.pc
  fn : isFn P f = true

theorem RepPs.length {γ : Gh} {w : World} : ∀ {ps : List (PV T)} {vs : List Value}, RepPs γ w ps vs → ps.length = vs.length
  | [], [], _ => rfl
  | _ :: ps, _ :: vs, h => by simp only [RepPs] at h; simp [RepPs.length h.2]
  | [], _ :: _, h => by simp only [RepPs] at h
  | _ :: _, [], h => by simp only [RepPs] at h

theorem hnames_mem : ∀ {H : St T} {nm : Nat}, nm ∈ hnames H → ∃ g, (Loc.h nm, g) ∈ H
  | [], _, h => by simp [hnames] at h
  | (.h k, g) :: r, nm, h => by
    simp only [hnames, List.mem_cons] at h
    rcases h with rfl | h
    · exact ⟨g, by simp⟩
    · obtain ⟨g', hg⟩ := hnames_mem h; exact ⟨g', by simp [hg]⟩
  | (.s k, g) :: r, nm, h => by
    simp only [hnames] at h
    obtain ⟨g', hg⟩ := hnames_mem h; exact ⟨g', by simp [hg]⟩

theorem heapIn_mem {H σ : St T} {lo hi : Nat} {l : Loc} {f : Fact T} (h : (l, f) ∈ heapIn H lo hi σ) : ∃ nm, l = .h nm ∧ look σ (.h nm) = some f ∧ ((∃ g, (Loc.h nm, g) ∈ H) ∨ (lo ≤ nm ∧ nm < hi)) := by
  unfold heapIn at h
  rw [List.mem_filter] at h
  obtain ⟨h1, h2⟩ := h
  obtain ⟨nm, rfl, h3⟩ := heapOf_mem h1
  refine ⟨nm, rfl, h3, ?_⟩
  simp only [Bool.or_eq_true, Bool.and_eq_true, Nat.ble_eq] at h2
  rcases h2 with h2 | h2
  · obtain ⟨x, hx, he⟩ := List.any_eq_true.1 h2
    have := Nat.eq_of_beq_eq_true he
    subst this
    exact .inl (hnames_mem hx)
  · exact .inr ⟨h2.1, blt_lt h2.2⟩

theorem fn_sound {P : Program} {cu : TypeId → Option T.U} {f : FuncId} {F : AFn T} (hF : TextOK P cu f F) {call : CallH T} (hcall : CallSound P call) {X : Type} {q : X} {args : List (PV T)} {H : St T} {n lim : Nat} {K : PV T → St T → Nat → Option X} (hn : n ≤ lim)
    (h : evFn call lim F args H n K = some q) : ∃ pv H' n', K pv H' n' = some q ∧ CallOK P f args H n lim pv H' ∧ (∀ l g, (l, g) ∈ H' → ∃ nm, l = .h nm ∧ ((∃ g', (l, g') ∈ H) ∨ (n ≤ nm ∧ nm < lim))) := by
  have hc := hF.comp
  unfold compFn at hc
  split at hc
  · rename_i fn hfn
    split at hc
    · rename_i code hcode
      split at hc
      · rename_i pc rv hpc hrv
        simp only [eraseFn, Option.some.injEq, PFn.mk.injEq] at hc
        obtain ⟨rfl, hN, rfl⟩ := hc
        unfold evFn at h
        split at h
        · rename_i hlen
          have hlen : args.length ≤ F.N := by simpa using hlen
          let S : Cls := ⟨P, F.N, n, lim, fun nm => ∃ g, (Loc.h nm, g) ∈ H⟩
          rw [hN] at hpc
          obtain ⟨e, σ', n', k1, k2, k3, k4⟩ := ev_sound (S := S) (cu := cu) (r := q) hcall F.pc code (argSt 0 args ++ H) n _ hpc hF.good (Nat.le_refl _) hn h
          have key : ∃ ps, K (resPV ps) (heapIn H n lim σ') n' = some q ∧ (e = .normal ∨ e = .ret) ∧ (∀ E N γ' w' a', Sat E N γ' w' a' σ' → ∃ v, RepP γ' w' (resPV ps) v ∧ (results fn a'.tmps).run P w' = .ok v w') := by
            cases e with
            | normal =>
              obtain ⟨ps, h1, h2⟩ := results_run hrv k1
              exact ⟨ps, h1, .inl rfl, h2⟩
            | ret =>
              obtain ⟨ps, h1, h2⟩ := results_run hrv k1
              exact ⟨ps, h1, .inr rfl, h2⟩
            | exit id => cases k1
            | goto l => cases k1
            | panic ch => cases k1
            | outgrown => cases k1
          obtain ⟨ps, h1, h2, h3⟩ := key
          -- the heap that is handed back: of names that may be changed
          refine ⟨_, _, _, h1, ?_, ?_⟩
          · intro γ w vs hE hH hr hHn hgl
            have hvl := RepPs.length hr
            refine calls_of_sat (T := T) hfn hcode ?_
            have hs : Sat (S.entry γ w) S.N γ w { tmps := vs.toArray ++ Array.replicate (fn.ntmps - vs.toArray.size) undef, defers := [] } (argSt 0 args ++ H) := by
              refine ⟨by simp [S]; omega, .nil _ _ _, hgl, fun l g hl => ?_, fun nm g hl => ?_⟩
              · rw [look_append] at hl
                split at hl
                · rename_i g' hg'
                  cases hl
                  obtain ⟨j, p, rfl, rfl, hj⟩ := look_argSt _ _ _ _ hg'
                  obtain ⟨v, hv, hrep⟩ := hr.get hj
                  have hjl : j < vs.length := (List.getElem?_eq_some_iff.1 hv).1
                  refine ⟨fun _ => ?_, fun h => by cases h⟩
                  have : (vs.toArray ++ Array.replicate (fn.ntmps - vs.toArray.size) undef).getD (0 + j) undef = v := by
                    rw [Nat.zero_add, Array.getD_eq_getD_getElem?, Array.getElem?_append_left (by simpa using hjl)]
                    simp [hv]
                  simp only [this]
                  exact hrep
                · have := hH l g (look_mem hl)
                  exact this.1.mem this.2
              · rw [look_append] at hl
                split at hl
                · rename_i g' hg'
                  obtain ⟨j, p, e1, _, _⟩ := look_argSt _ _ _ _ hg'
                  cases e1
                · exact .inl ⟨g, look_mem hl⟩
            have hfr : Fresh n S.lim γ := fun nm a b => hE.fresh nm ⟨a, b⟩
            refine wp_mono (k4 γ w hE γ _ w (Inv.refl hE) hfr hs) fun e' a' w' ⟨q1, γ', i1, f1, s1⟩ => ?_
            subst q1
            refine ⟨h2, _, _, γ', σ', i1, s1, fun w'' i2 s2 => ?_⟩
            obtain ⟨v, v1, v2⟩ := h3 _ _ _ _ _ s2
            refine ⟨v, v2, γ', v, rfl, i2, fun l g hm => ?_, v1⟩
            obtain ⟨nm, rfl, hlk, _⟩ := heapIn_mem hm
            exact ⟨(s2.facts _ _ hlk).mem (by simp), by simp⟩
          · intro l g hm
            obtain ⟨nm, rfl, _, h4⟩ := heapIn_mem hm
            exact ⟨nm, rfl, h4⟩
        · cases h
      · cases hc
    · cases hc
  · cases hc

/-! ### The calls that a text makes -/
/-- An entry for a call that is not run as a text. -/
def ConOK (P : Program) (f : FuncId) (h : (X : Type) → List (PV T) → St T → Nat → Nat → (PV T → St T → Nat → Option X) → Option X) : Prop :=
  ∀ (X : Type) (args : List (PV T)) (H : St T) (n lim : Nat) (K : PV T → St T → Nat → Option X) (r : X), h X args H n lim K = some r →
    ∃ pv H' n', K pv H' n' = some r ∧ n ≤ n' ∧ n' ≤ lim ∧ FnOK P f ∧ CallOK P f args H n n' pv H' ∧ (∀ l g, (l, g) ∈ H' → ∃ nm, l = .h nm ∧ ((∃ g', (l, g') ∈ H) ∨ (n ≤ nm ∧ nm < n')))

def EntOK (P : Program) (cu : TypeId → Option T.U) (f : FuncId) : Ent T → Prop
  | .text F => TextOK P cu f F
  | .con h => ConOK P f h

def EntsOK (P : Program) (cu : TypeId → Option T.U) : List (FuncId × Ent T) → Prop
  | [] => True
  | (f, e) :: r => EntOK P cu f e ∧ EntsOK P cu r

theorem findE_ok {P : Program} {cu : TypeId → Option T.U} : ∀ {ents : List (FuncId × Ent T)} {f : FuncId} {e : Ent T}, EntsOK P cu ents → findE ents f = some e → EntOK P cu f e
  | [], _, _, _, h => by simp [findE] at h
  | (g, e0) :: r, f, e, hk, h => by
    simp only [findE] at h
    split at h
    · rename_i hg
      have := Nat.eq_of_beq_eq_true hg
      subst this
      cases h
      exact hk.1
    · exact findE_ok hk.2 h

theorem callH_sound {P : Program} {cu : TypeId → Option T.U} {ents : List (FuncId × Ent T)} (hk : EntsOK P cu ents) : ∀ d, CallSound P (callH ents d)
  | 0 => fun _ _ _ _ _ _ _ _ h => by simp [callH] at h
  | d + 1 => fun X f args H n lim K r h => by
    simp only [callH] at h
    split at h
    · rename_i F hf
      have hF : TextOK P cu f F := findE_ok hk hf
      split at h
      · rename_i hb
        have hb : n + budget d ≤ lim := by simpa using hb
        obtain ⟨pv, H', n', h1, h2, h3⟩ := fn_sound hF (callH_sound hk d) (Nat.le_add_right _ _) h
        exact ⟨pv, H', n + budget d, h1, by omega, hb, isFn_ok hF.fn, h2, h3⟩
      · cases h
    · rename_i hcon hf
      exact (findE_ok hk hf : ConOK P f hcon) X args H n lim K r h
    · cases h
end Go.G
/-! Code in a round of a range over a function. -/
namespace Go.G
variable {T : Uni}

/-- The widest fence, in a round or out of one. -/
def fenceR (ro : Option Nat) : Fence := { Fence.wide with round := ro }

section
variable {P : Program} {ro : Option Nat} {n : Nat}

theorem calls_in {f : FuncId} {args : Array Value} {w : World} {R : Ending → World → Prop} (h : Calls P f args w R) : CallsIn (fenceR ro) n P f args w R :=
  (callsIn_wide (n := n)).2 h

theorem oper_in {o : Oper} {a : Act} {w : World} {next next' : Act → World → Prop} {Q : Exit → Act → World → Prop} (hd : ∀ c, o.op ≠ .defer c) (hn : ∀ a w, next a w → next' a w) (h : o.wp P a w next Q) : o.wpIn (fenceR ro) n P a w next' Q := by
  refine ⟨fun _ _ => trivial, ?_⟩
  rw [Oper.semAt_eq _ _ _ hd]
  unfold Oper.wp at h
  have hdep : (fenceR ro).depth.isSome = true → 1 ≤ n := fun h => by cases h
  cases hr : (execOp a.eval o).run P w with
  | ok nx w' =>
    rw [hr] at h
    cases nx with
    | value v => exact hn _ _ h
    | skip => exact hn _ _ h
    | enter f args =>
      refine ⟨hdep, calls_in (Calls.mono h fun e w'' hh => ?_)⟩
      cases e with
      | returned v => exact hn _ _ hh
      | panicked ch => exact hh
      | outgrown => exact hh
    | row row args =>
      refine ⟨hdep, fun c cs _ => ?_⟩
      obtain ⟨v, w'', h1, h2⟩ := h c cs
      exact ⟨v, w'', hn _ _ h1, stepsIn_wide.2 h2⟩
    | defer d => exact hn _ _ h
    | _ => exact h.elim
  | halt x w' =>
    rw [hr] at h
    cases x <;> exact h

theorem wpOps_in {ops : Array Oper} (hd : ∀ (i : Nat) (o : Oper), ops[i]? = some o → ∀ c, o.op ≠ .defer c) {Q : Exit → Act → World → Prop} (hQ : ¬ LetsOut Q) : ∀ (l : List Nat) (a : Act) (w : World), wpOps P ops Q l a w → wpOpsIn (fenceR ro) n P ops Q l a w
  | [], _, _, h => h
  | i :: l, a, w, h => by
    simp only [wpOps] at h
    simp only [wpOpsIn]
    cases ho : ops[i]? with
    | none =>
      rw [ho] at h
      exact wpOps_in hd hQ l a w h
    | some o =>
      rw [ho] at h
      simp only at h ⊢
      split at h
      · rename_i hw
        rw [if_pos hw]
        rcases h with h | h
        · exact oper_in (hd i o ho) (fun a w hh => wpOps_in hd hQ l a w hh) h
        · exact absurd h.2 hQ
      · rename_i hw
        rw [if_neg hw]
        exact ⟨fun _ _ => trivial, wpOps_in hd hQ l _ w h⟩
end

theorem compOps_noDefer {P : Program} {cu : TypeId → Option T.U} {N : Nat} {ops : Array Oper} : ∀ {os : List Oper} {ps : List (POp T)}, compOps P cu N ops os = some ps → ∀ o ∈ os, ∀ c, o.op ≠ .defer c
  | [], _, _, o, ho, _, _ => by cases ho
  | o' :: os, ps, h, o, ho, c, he => by
    simp only [compOps] at h
    split at h
    · rename_i p ps' h1 h2
      rcases List.mem_cons.1 ho with rfl | ho
      · have h3 := (compOp_inv h1).1
        unfold compKB at h3
        have : noDefer o = false := by unfold noDefer; rw [he]
        rw [this] at h3
        cases h3
      · exact compOps_noDefer h2 o ho c he
    · cases h

/-- A region in the order of its text, op by op. -/
theorem w_ops {cu : TypeId → Option T.U} {call : CallH T} {S : Cls} (hcall : CallSound S.P call) {X : Type} {r : X} {K : St T → Nat → Option X} {n : Nat} {ps : List (POp T)} {ops : Array Oper} {σ : St T} (hb : S.base ≤ n) (hn : n ≤ S.lim)
    (hps : compOps S.P cu S.N ops ops.toList = some ps) (h : evSeq call S.lim ps σ n K = some r) :
    ∃ σf n', K σf n' = some r ∧ n ≤ n' ∧ n' ≤ S.lim ∧ ∀ γ0 w0, EntryOK (S.entry γ0 w0) → ∀ γ a w, Inv (S.entry γ0 w0) γ w → Fresh n S.lim γ → Sat (S.entry γ0 w0) S.N γ w a σ →
      wpOps S.P ops (fun e a' w' => e = .normal ∧ ∃ γ', Inv (S.entry γ0 w0) γ' w' ∧ Fresh n' S.lim γ' ∧ Sat (S.entry γ0 w0) S.N γ' w' a' σf) (List.range ops.size) a w := by
  obtain ⟨rem, σf, n', k1, k2, k3, k4⟩ := seq_run hcall (Nat.le_refl _) ops.toList _ 0 n σ (by simp) hb hn hps h
  have k3' : RunOK S ops 0 ops.size rem σ n n' := by simpa using k3
  refine ⟨σf, n', k1, k3.le, k4, fun γ0 w0 ok γ a w hi hf hs => ?_⟩
  have := wpOps_run (C := S.ctx γ0 w0 ok) (ops := ops) (Q := fun e a' w' => e = .normal ∧ ∃ γ', Inv (S.entry γ0 w0) γ' w' ∧ Fresh n' S.lim γ' ∧ Sat (S.entry γ0 w0) S.N γ' w' a' σf) rem σ γ a w k3.opsOk (k3.run _ _ ok) k3.rise
    (fun x hx nm h1 h2 => by
      have := k3'.rng x hx
      exact ⟨by show S.base ≤ nm; omega, by show nm < S.lim; omega⟩)
    (fun x hx nm h1 h2 => by
      have := k3'.rng x hx
      exact hf nm (by omega) (by omega)) hi hs
    (fun a' w' γ' i1 s1 kk => by
      refine ⟨rfl, γ', i1, ?_, s1.congr k2⟩
      refine Fresh.kept (S := Beyond rem) (fun nm h1 h2 => hf nm (by have := k3'.le; omega) h2) kk fun nm h1 h2 => ⟨fun x hx => ?_, by have := k3'.le; show S.base ≤ nm; omega, h2⟩
      have := k3'.rng x hx
      omega)
  rw [k3.nums] at this
  simpa [List.range_eq_range'] using this

/-- From this state and next name, the code comes to that exit, state, next name, in a round or out of one. -/
def RunsIn (S : Cls) (ro : Option Nat) (code : Code) (σ : St T) (n : Nat) (e : Exit) (σ' : St T) (n' : Nat) : Prop :=
  ∀ γ0 w0, EntryOK (S.entry γ0 w0) → ∀ γ a w, Inv (S.entry γ0 w0) γ w → Fresh n S.lim γ → Sat (S.entry γ0 w0) S.N γ w a σ → ∀ d, code.wpIn (fenceR ro) d S.P (fun e' a' w' => e' = e ∧ ∃ γ', Inv (S.entry γ0 w0) γ' w' ∧ Fresh n' S.lim γ' ∧ Sat (S.entry γ0 w0) S.N γ' w' a' σ') a w

/-- No loops, no orders drawn. -/
def plainA : ACode T → Bool
  | .reg draw _ _ => !draw
  | .seq a b | .cond _ a b => plainA a && plainA b
  | .block _ a => plainA a
  | .loop _ _ | .unroll _ _ | .rfn _ _ _ _ _ => false
  | _ => true

theorem ev_sound_in {S : Cls} {cu : TypeId → Option T.U} {call : CallH T} {X : Type} {r : X} {ro : Option Nat} (hcall : CallSound S.P call) : ∀ (A : ACode T) (code : Code) (σ : St T) (n : Nat) (K : Exit → St T → Nat → Option X), plainA A = true → compile S.P cu S.N code = some (erase A) → S.base ≤ n → n ≤ S.lim → ev call S.base S.lim A σ n K = some r →
    ∃ e σ' n', K e σ' n' = some r ∧ S.base ≤ n' ∧ n' ≤ S.lim ∧ RunsIn S ro code σ n e σ' n'
  | .skip, code, σ, n, K, _, hc, h1, h2, h => by
    have hc := compile_skip hc
    subst hc
    exact ⟨.normal, σ, n, h, h1, h2, fun γ0 w0 ok γ a w hi hf hs d => wpIn_skip ⟨rfl, γ, hi, hf, hs⟩⟩
  | .exit id, code, σ, n, K, _, hc, h1, h2, h => by
    have hc := compile_exit hc
    subst hc
    exact ⟨.exit id, σ, n, h, h1, h2, fun γ0 w0 ok γ a w hi hf hs d => wpIn_exit ⟨rfl, γ, hi, hf, hs⟩⟩
  | .ret, code, σ, n, K, _, hc, h1, h2, h => by
    have hc := compile_ret hc
    subst hc
    exact ⟨.ret, σ, n, h, h1, h2, fun γ0 w0 ok γ a w hi hf hs d => wpIn_ret ⟨rfl, γ, hi, hf, hs⟩⟩
  | .reg dr ps deps, code, σ, n, K, hp, hc, h1, h2, h => by
    obtain ⟨id, ops, rfl, hr⟩ := compile_reg hc
    cases dr with
    | true => cases hp
    | false =>
      unfold compReg at hr
      split at hr
      · rename_i ps' hps
        simp only [Bool.false_eq_true, if_false, Option.some.injEq, Prod.mk.injEq] at hr
        obtain ⟨rfl, rfl⟩ := hr
        obtain ⟨σf, n', k1, k2, k3, k4⟩ := w_ops (K := fun σ n => K .normal σ n) hcall h1 h2 hps h
        refine ⟨.normal, σf, n', k1, by omega, k3, fun γ0 w0 ok γ a w hi hf hs d => wpIn_region (wpOps_in (fun i o ho => compOps_noDefer hps o ?_) ?_ _ _ _ (k4 γ0 w0 ok γ a w hi hf hs))⟩
        · rw [Array.mem_toList_iff]; exact Array.mem_of_getElem? ho
        · rintro ⟨a, w, h, _⟩; cases h
      · cases hr
  | .seq x y, code, σ, n, K, hp, hc, h1, h2, h => by
    obtain ⟨c1, c2, rfl, hx, hy⟩ := compile_seq hc
    simp only [plainA, Bool.and_eq_true] at hp
    obtain ⟨e, σ1, n1, k1, k2, k3, k4⟩ := ev_sound_in hcall x c1 σ n _ hp.1 hx h1 h2 h
    try simp only at k1
    split at k1
    · obtain ⟨e, σ', n', m1, m2, m3, m4⟩ := ev_sound_in hcall y c2 σ1 n1 K hp.2 hy k2 k3 k1
      refine ⟨e, σ', n', m1, m2, m3, fun γ0 w0 ok γ a w hi hf hs d => wpIn_seq (wpIn_mono (k4 γ0 w0 ok γ a w hi hf hs d) fun e' a' w' ⟨q1, γ1, q2, q3, q4⟩ => ?_)⟩
      subst q1
      exact m4 γ0 w0 ok γ1 a' w' q2 q3 q4 d
    · rename_i hne
      refine ⟨e, σ1, n1, k1, k2, k3, fun γ0 w0 ok γ a w hi hf hs d => wpIn_seq (wpIn_mono (k4 γ0 w0 ok γ a w hi hf hs d) fun e' a' w' ⟨q1, q2⟩ => ?_)⟩
      subst q1
      cases e' with
      | normal => exact absurd rfl hne
      | exit id => exact ⟨rfl, q2⟩
      | goto l => exact ⟨rfl, q2⟩
      | ret => exact ⟨rfl, q2⟩
      | panic ch => exact ⟨rfl, q2⟩
      | outgrown => exact ⟨rfl, q2⟩
  | .cond z x y, code, σ, n, K, hp, hc, h1, h2, h => by
    obtain ⟨c0, c1, c2, rfl, hz, hx, hy⟩ := compile_cond hc
    simp only [plainA, Bool.and_eq_true] at hp
    obtain ⟨t, ht, h⟩ := rdb_inv h
    have hv : ∀ {E : Entry} γ a w, Sat E S.N γ w a σ → a.eval c0 = .bool t := fun γ a w hs => repB (Rd.rep hs hz (fun _ _ => rfl) ht)
    cases t with
    | true =>
      obtain ⟨e, σ', n', m1, m2, m3, m4⟩ := ev_sound_in hcall x c1 σ n K hp.1 hx h1 h2 h
      exact ⟨e, σ', n', m1, m2, m3, fun γ0 w0 ok γ a w hi hf hs d => wpIn_cond_split (hv γ a w hs) (fun _ => m4 γ0 w0 ok γ a w hi hf hs d) (fun he => by cases he)⟩
    | false =>
      obtain ⟨e, σ', n', m1, m2, m3, m4⟩ := ev_sound_in hcall y c2 σ n K hp.2 hy h1 h2 h
      exact ⟨e, σ', n', m1, m2, m3, fun γ0 w0 ok γ a w hi hf hs d => wpIn_cond_split (hv γ a w hs) (fun he => by cases he) (fun _ => m4 γ0 w0 ok γ a w hi hf hs d)⟩
  | .block id x, code, σ, n, K, hp, hc, h1, h2, h => by
    obtain ⟨c, rfl, hx⟩ := compile_block hc
    obtain ⟨e, σ1, n1, k1, k2, k3, k4⟩ := ev_sound_in hcall x c σ n _ hp hx h1 h2 h
    have pass : ∀ e2, (∀ (R : Act → World → Prop) a' w', R a' w' → Exit.inBlock id (fun e' a' w' => e' = e2 ∧ R a' w') e a' w') → RunsIn S ro (.block id c) σ n e2 σ1 n1 := by
      intro e2 hp γ0 w0 ok γ a w hi hf hs d
      refine wpIn_block (wpIn_mono (k4 γ0 w0 ok γ a w hi hf hs d) fun e' a' w' ⟨q1, q2⟩ => ?_)
      subst q1
      exact hp (fun a' w' => ∃ γ', Inv (S.entry γ0 w0) γ' w' ∧ Fresh n1 S.lim γ' ∧ Sat (S.entry γ0 w0) S.N γ' w' a' σ1) a' w' q2
    cases e with
    | exit j =>
      try simp only at k1
      split at k1
      · rename_i hj
        have hj := Nat.eq_of_beq_eq_true hj
        subst hj
        exact ⟨.normal, σ1, n1, k1, k2, k3, pass _ fun R a' w' q => by simp only [Exit.inBlock, if_true]; exact ⟨trivial, q⟩⟩
      · rename_i hj
        have hj : ¬ j = id := fun e => by subst e; simp at hj
        exact ⟨.exit j, σ1, n1, k1, k2, k3, pass _ fun R a' w' q => by simp only [Exit.inBlock, if_neg hj]; exact ⟨trivial, q⟩⟩
    | normal => exact ⟨.normal, σ1, n1, k1, k2, k3, pass _ fun R a' w' q => ⟨rfl, q⟩⟩
    | goto l => exact ⟨.goto l, σ1, n1, k1, k2, k3, pass _ fun R a' w' q => ⟨rfl, q⟩⟩
    | ret => exact ⟨.ret, σ1, n1, k1, k2, k3, pass _ fun R a' w' q => ⟨rfl, q⟩⟩
    | panic ch => exact ⟨.panic ch, σ1, n1, k1, k2, k3, pass _ fun R a' w' q => ⟨rfl, q⟩⟩
    | outgrown => exact ⟨.outgrown, σ1, n1, k1, k2, k3, pass _ fun R a' w' q => ⟨rfl, q⟩⟩
  | .loop _ _, _, _, _, _, hp, _, _, _, _ => by cases hp
  | .unroll _ _, _, _, _, _, hp, _, _, _, _ => by cases hp
  | .rfn _ _ _ _ _, _, _, _, _, hp, _, _, _, _ => by cases hp
end Go.G
