import Derived.Test.YtmknondapmmehaaGMk
import Derived.Laws.MakeOwn
set_option linter.unusedVariables false
set_option linter.unusedSimpArgs false
namespace Go.G
variable {T : Uni}

def PK.slots : PK T → List Nat
  | .move x | .box x | .load _ _ x | .faddr _ x | .fld _ _ _ x | .ext _ x | .not x | .neg x | .len x | .slen x | .conv _ x | .same x | .nilk x | .clr _ _ x | .mksl _ _ _ x => x.slots
  | .and c x | .or c x | .store _ c x | .iaddr _ c x | .iarr _ _ c x | .idx _ _ _ c x | .sidx c x | .bin _ c x | .eqb _ c x | .eqa _ _ c x | .app _ _ c x => c.slots ++ x.slots
  | .alloc _ | .mkm _ _ => []
  | .mlook _ _ _ _ x i => x.slots ++ i.slots
  | .mupd _ _ x k v => x.slots ++ (k.slots ++ v.slots)
  | .build _ ps => Opd.all (ps.map (·.2.2))
  | .mks _ xs | .call _ xs | .mkf _ xs => Opd.all xs
  | .maxi x y | .mini x y => x.slots ++ y.slots
  | .look3 x a b c => x.slots ++ (a.slots ++ (b.slots ++ c.slots))
  | .bad => []
  | .dyn f xs => f.slots ++ Opd.all xs
  | .slice _ x lo hi mx => x.slots ++ (Opd.all lo.toList ++ (Opd.all hi.toList ++ Opd.all mx.toList))

/-! ### From the model's operation to ours -/
def isFn (P : Program) (f : FuncId) : Bool :=
  match P.funcs[f]? with
  | some fn => !(fn.name == "runtime.NumGoroutine") && !fn.body.isNone
  | none => false

theorem isFn_ok {P : Program} {f : FuncId} (h : isFn P f = true) : FnOK P f := by
  unfold isFn at h
  split at h
  · rename_i fn hf
    simp only [Bool.and_eq_true, Bool.not_eq_true'] at h
    exact ⟨fn, hf, h.1, h.2⟩
  · cases h

/-- The element type of a slice type, with our name for it. -/
def slT (P : Program) (cu : TypeId → Option T.U) (t : TypeId) : Option T.U :=
  match P.underlying t with
  | some (.slice e) => match cu e with
    | some u => if tySz P e = some (T.size u) then some u else none
    | none => none
  | _ => none

theorem slT_ok {P : Program} {cu : TypeId → Option T.U} {t : TypeId} {u : T.U} (h : slT P cu t = some u) : ∃ e, P.underlying t = some (.slice e) ∧ tySz P e = some (T.size u) := by
  unfold slT at h
  split at h
  · rename_i e hu
    split at h
    · split at h
      · rename_i hs; cases h; exact ⟨e, hu, hs⟩
      · cases h
    · cases h
  · cases h

def appT (P : Program) (cu : TypeId → Option T.U) (t : TypeId) : Option (T.U × Nat) :=
  match P.underlying t with
  | some (.slice e) => match P.info? e, cu e with
    | some i, some u => match i.zero with
      | some z => if z.cells.size = T.size u ∧ i.size = T.size u then some (u, i.bytes) else none
      | none => none
    | _, _ => none
  | _ => none

theorem appT_ok {P : Program} {cu : TypeId → Option T.U} {t : TypeId} {u : T.U} {bytes : Nat} (h : appT P cu t = some (u, bytes)) : ∃ e, AppT P u t e bytes := by
  unfold appT at h
  split at h
  · rename_i e hu
    split at h
    · rename_i i _ hi _
      split at h
      · rename_i z hz
        split at h
        · rename_i hzs
          cases h
          exact ⟨e, hu, i, z, hi, hz, hzs.1, hzs.2, rfl⟩
        · cases h
      · cases h
    · cases h
  · cases h

def zD1 : Option T.U → Value → Option (DV T.toSig)
  | _, .int k n => some (.int k n)
  | _, .bool b => some (.bool b)
  | _, .string s => some (.str s)
  | some u, .slice none 0 0 => some (.sl u [])
  | _, _ => none
def zDs : List (Option T.U) → List Value → Option (List (DV T.toSig))
  | [], [] => some []
  | sh :: shs, v :: vs => match zD1 sh v, zDs shs vs with
    | some d, some ds => some (d :: ds)
    | _, _ => none
  | _, _ => none
theorem zD1_rep {imm : Nat → Nat} {w : World} {sh : Option T.U} {v : Value} {d : DV T.toSig} (h : zD1 sh v = some d) : RepD T imm w d v := by
  unfold zD1 at h
  split at h <;> cases h
  · exact .int _ _
  · exact .bool _
  · exact .str _
  · exact .nil _ _ _
theorem zDs_rep {imm : Nat → Nat} {w : World} : ∀ {shs : List (Option T.U)} {vs : List Value} {ds : List (DV T.toSig)}, zDs shs vs = some ds → RepDs imm w ds vs
  | [], [], ds, h => by cases h; trivial
  | sh :: shs, v :: vs, ds, h => by
    simp only [zDs] at h
    split at h
    · rename_i d ds' h1 h2
      cases h
      exact ⟨zD1_rep h1, zDs_rep h2⟩
    · cases h
  | [], _ :: _, _, h => by cases h
  | _ :: _, [], _, h => by cases h
def clrT (P : Program) (cu : TypeId → Option T.U) (t : TypeId) : Option (T.U × List (DV T.toSig)) :=
  match P.underlying t with
  | some (.slice e) => match P.info? e, cu e with
    | some i, some u => match i.zero with
      | some z => match zDs (T.shape u) z.cells.toList with
        | some ds => some (u, ds)
        | none => none
      | none => none
    | _, _ => none
  | _ => none
theorem clrT_ok {P : Program} {cu : TypeId → Option T.U} {t : TypeId} {u : T.U} {ds : List (DV T.toSig)} (h : clrT P cu t = some (u, ds)) : ∃ e, P.underlying t = some (.slice e) ∧ ∃ i zv, P.info? e = some i ∧ i.zero = some zv ∧ ∀ (imm : Nat → Nat) (w : World), RepDs imm w ds zv.cells.toList := by
  unfold clrT at h
  split at h
  · rename_i e hu
    split at h
    · rename_i i _ hi _
      split at h
      · rename_i z hz
        split at h
        · rename_i ds' hd
          cases h
          exact ⟨e, hu, i, z, hi, hz, fun imm w => zDs_rep hd⟩
        · cases h
      · cases h
    · cases h
  · cases h

/-- The same operand, twice. -/
def sameO : Operand → Operand → Bool
  | .tmp i, .tmp j => Nat.beq i j
  | .const (.int k a), .const (.int k' b) => IntKind.same k k' && ieq a b
  | _, _ => false
theorem kind_same {k k' : IntKind} (h : IntKind.same k k' = true) : k = k' := by
  cases k <;> cases k' <;> first | rfl | cases h
theorem sameO_eq {x y : Operand} (h : sameO x y = true) : x = y := by
  unfold sameO at h
  split at h
  · rw [Nat.eq_of_beq_eq_true h]
  · rw [Bool.and_eq_true] at h
    rw [kind_same h.1]
    have := h.2
    simp only [ieq, decide_eq_true_eq] at this
    rw [this]
  · cases h
def mkT (P : Program) (cu : TypeId → Option T.U) (t : TypeId) : Option (T.U × Nat × List (DV T.toSig)) :=
  match P.underlying t with
  | some (.slice e) => match P.info? e, cu e with
    | some i, some u => match i.zero with
      | some z => match zDs (T.shape u) z.cells.toList with
        | some ds => match Nat.blt 0 i.bytes && Nat.beq i.size z.cells.size with
          | true => some (u, i.bytes, ds)
          | false => none
        | none => none
      | none => none
    | _, _ => none
  | _ => none
theorem mkT_ok {P : Program} {cu : TypeId → Option T.U} {t : TypeId} {u : T.U} {b : Nat} {ds : List (DV T.toSig)} (h : mkT P cu t = some (u, b, ds)) : ∃ e, P.underlying t = some (.slice e) ∧ ∃ i zv, P.info? e = some i ∧ i.zero = some zv ∧ i.bytes = b ∧ 0 < b ∧ i.size = zv.cells.size ∧ ∀ (imm : Nat → Nat) (w : World), RepDs imm w ds zv.cells.toList := by
  unfold mkT at h
  split at h
  · rename_i e hu
    split at h
    · rename_i i _ hi _
      split at h
      · rename_i z hz
        split at h
        · rename_i ds' hd
          split at h
          · rename_i hb
            cases h
            rw [Bool.and_eq_true] at hb
            exact ⟨e, hu, i, z, hi, hz, rfl, by have := hb.1; simp only [Nat.blt, Nat.ble_eq] at this; omega, Nat.eq_of_beq_eq_true hb.2, fun imm w => zDs_rep hd⟩
          · cases h
        · cases h
      · cases h
    · cases h
  · cases h

def cCall (P : Program) (cu : TypeId → Option T.U) (dst : Option Nat) (c : Call) : Option (PK T) :=
  match c.callee with
  | .builtin .len => match c.args.toList, c.argTypes.toList with
    | [x], [t] => match cOpd x, P.underlying t with
      | some y, some (.slice _) => some (.len y)
      | some y, some .string => some (.slen y)
      | _, _ => none
    | _, _ => none
  | .builtin .append => match c.args.toList, c.argTypes.toList with
    | [x, y], [t, t'] => match P.underlying t' with
      | some (.slice _) => match cOpd x, cOpd y, appT P cu t with
        | some a, some b, some (u, bytes) => some (.app u bytes a b)
        | _, _, _ => none
      | _ => none
    | _, _ => none
  | .builtin .clear => match c.args.toList, c.argTypes.toList, dst with
    | [x], [t], none => match cOpd x, clrT P cu t with
      | some a, some (u, z) => some (.clr u z a)
      | _, _ => none
    | _, _, _ => none
  | .builtin .max => match c.args.toList with
    | [x, y] => match cOpd x, cOpd y with
      | some a, some b => some (.maxi a b)
      | _, _ => none
    | _ => none
  | .builtin .min => match c.args.toList with
    | [x, y] => match cOpd x, cOpd y with
      | some a, some b => some (.mini a b)
      | _, _ => none
    | _ => none
  | .value (.func f) => if isFn P f then match cOpds c.args.toList with
      | some xs => some (.call f xs)
      | none => none
    else none
  | .value g => match cOpd g, cOpds c.args.toList with
    | some y, some xs => some (.dyn y xs)
    | _, _ => none
  | _ => none

def cBin (P : Program) (op : BinOp) (t : TypeId) (x y : Opd T) : Option (PK T) :=
  match P.underlying t with
  | some (.int _) => some (.bin op x y)
  | some .bool => match op with
    | .eql => some (.eqb false x y)
    | .neq => some (.eqb true x y)
    | _ => none
  | some (.struct _) | some (.array _ _) => if P.eqGuardType P.depth t then none else match kinds P 50 t with
    | some ks => match op with
      | .eql => some (.eqa false ks x y)
      | .neq => some (.eqa true ks x y)
      | _ => none
    | none => none
  | _ => none

def keyT (P : Program) (cu : TypeId → Option T.U) (t : TypeId) : Option T.U :=
  match cu t with
  | some u => if kinds P 50 t = some (T.kds u) ∧ tyAg P t = some (T.ag u) ∧ T.isKey u = true then some u else none
  | none => none

theorem keyT_ok {P : Program} {cu : TypeId → Option T.U} {t : TypeId} {u : T.U} (h : keyT P cu t = some u) : KeyT P u t := by
  unfold keyT at h
  split at h
  · split at h
    · rename_i hh; cases h; exact ⟨hh.1, hh.2.1, hh.2.2⟩
    · cases h
  · cases h

def valT (P : Program) (cu : TypeId → Option T.U) (t : TypeId) : Option (T.U × List (CV T)) :=
  match cu t, zShape P t with
  | some u, some z => if tyAg P t = some (T.ag u) then some (u, z) else none
  | _, _ => none

def compK (P : Program) (cu : TypeId → Option T.U) (o : Oper) : Option (PK T) :=
  match o.op with
  | .move x | .assign x => match cOpd x with
    | some y => some (.move y)
    | none => none
  | .pick c a b => match a, b with
    | x, .const (.bool false) => match cOpd c, cOpd x with
      | some c', some x' => some (.and c' x')
      | _, _ => none
    | .const (.bool true), x => match cOpd c, cOpd x with
      | some c', some x' => some (.or c' x')
      | _, _ => none
    | _, _ => none
  | .alloc e => match zCells P e with
    | some z => some (.alloc z)
    | none => none
  | .box _ x => match cOpd x with
    | some y => some (.box y)
    | none => none
  | .build t ps => cBuild P t ps.toList
  | .buildSlice t len ps => cMks P cu t len ps.toList
  | .load t x => match cOpd x, tyAg P t, tySz P t with
    | some y, some ag, some m => if ag = false ∧ m ≠ 1 then none else some (.load m ag y)
    | _, _, _ => none
  | .store t x y => match cOpd x, cOpd y, tySz P t, o.dst with
    | some a, some b, some m, none => some (.store m a b)
    | _, _, _, _ => none
  | .fieldAddr s x i => match cOpd x, fieldOff P s i with
    | some y, some d => some (.faddr d y)
    | _, _ => none
  | .field s x i => match P.underlying s with
    | some (.struct fs) => match fs[i]? with
      | some f => match cOpd x, tyAg P f.type, tySz P f.type with
        | some y, some ag, some m => if ag = false ∧ m ≠ 1 then none else some (.fld f.offset m ag y)
        | _, _, _ => none
      | none => none
    | _ => none
  | .indexAddr t x i => match P.underlying t with
    | some (.slice _) => match cOpd x, cOpd i, slT P cu t with
      | some a, some b, some u => some (.iaddr u a b)
      | _, _, _ => none
    | some (.array len e) => match cOpd x, cOpd i, tySz P e with
      | some a, some b, some m => some (.iarr m len a b)
      | _, _, _ => none
    | _ => none
  | .extract x i => match cOpd x with
    | some y => some (.ext i y)
    | none => none
  | .binOp op t x y _ => match cOpd x, cOpd y with
    | some a, some b => cBin P op t a b
    | _, _ => none
  | .unOp op _ x => match cOpd x, op with
    | some y, .not => some (.not y)
    | some y, .neg => some (.neg y)
    | _, _ => none
  | .convert s t x => match cOpd x, P.underlying s, P.underlying t with
    | some y, some _, some (.int k) => some (.conv k y)
    | _, _, _ => none
  | .call c => cCall P cu o.dst c
  | .makeFunc (.func f) first caps => match first.toList, cOpds caps.toList with
    | [], some xs => some (.mkf f xs)
    | _, _ => none
  | .nilCheck x => match cOpd x with
    | some y => some (.nilk y)
    | none => none
  | .makeMap t none => match P.underlying t with
    | some (.map key elem) => match keyT P cu key, valT P cu elem with
      | some uk, some (uv, _) => some (.mkm uk uv)
      | _, _ => none
    | _ => none
  | .lookup t x i comma => match P.underlying t with
    | some (.map key elem) => match cOpd x, cOpd i, keyT P cu key, valT P cu elem with
      | some a, some b, some uk, some (uv, z) => some (.mlook uk uv z comma a b)
      | _, _, _, _ => none
    | _ => none
  | .mapUpdate t x k v | .insert t x k v => match P.underlying t with
    | some (.map key elem) => match cOpd x, cOpd k, cOpd v, keyT P cu key, valT P cu elem, o.dst with
      | some a, some b, some c, some uk, some (uv, _), none => some (.mupd uk uv a b c)
      | _, _, _, _, _, _ => none
    | _ => none
  | .slice t x lo hi none => match slT P cu t, cOpd x, cOpo lo, cOpo hi with
    | some u, some a, some l, some h => some (.slice u a l h none)
    | _, _, _, _ => none
  | .slice t x (some lo) (some hi) (some mx) => match slT P cu t, cOpd x, cOpd lo, cOpd hi, cOpd mx with
    | some _, some a, some l, some h, some m => some (.look3 a l h m)
    | _, _, _, _, _ => none
  | .makeSlice t x y => match sameO x y, cOpd x, mkT P cu t with
    | true, some a, some (u, b, z) => some (.mksl u b z a)
    | _, _, _ => none
  | _ => none

/-- A call handler is sound. -/
def CallSound (P : Program) (call : CallH T) : Prop :=
  ∀ (X : Type) (f : FuncId) (args : List (PV T)) (H : St T) (n lim : Nat) (K : PV T → St T → Nat → Option X) (r : X), call X f args H n lim K = some r →
    ∃ pv H' n', K pv H' n' = some r ∧ n ≤ n' ∧ n' ≤ lim ∧ FnOK P f ∧ CallOK P f args H n n' pv H' ∧ (∀ l g, (l, g) ∈ H' → ∃ nm, l = .h nm ∧ ((∃ g', (l, g') ∈ H) ∨ (n ≤ nm ∧ nm < n')))

section
variable {S : Cls} {o : Oper} {σ : St T} {X : Type} {n lim : Nat} {r : X} {K : PV T → List Loc → Wr T → Nat → Option X}

/-- What an operation comes to. -/
def Out (S : Cls) (o : Oper) (σ : St T) (n lim : Nat) (K : PV T → List Loc → Wr T → Nat → Option X) (r : X) (k : PK T) : Prop :=
  ∃ x mrd mwr n', K x mrd mwr n' = some r ∧ n ≤ n' ∧ (n' ≤ lim ∨ n' = n) ∧ (∀ γ0 w0 ok, KValid (S.ctx γ0 w0 ok) o σ k.slots x mrd mwr n n') ∧ mrd.all memL = true ∧ (locs mwr).all memL = true

theorem Out.pure {k : PK T} {x : PV T} {mrd : List Loc} (hK : K x mrd [] n = some r) (hm : mrd.all memL = true) (hv : ∀ γ0 w0 ok, KValid (S.ctx γ0 w0 ok) o σ k.slots x mrd [] n n) : Out S o σ n lim K r k :=
  ⟨x, mrd, [], n, hK, Nat.le_refl _, .inr rfl, hv, hm, rfl⟩

theorem hs_mem (nms : List Nat) : (hs nms).all memL = true := by
  simp [hs, memL]

theorem frz_mem : ∀ (nms : List Nat), (locs (frz σ nms)).all memL = true
  | [] => rfl
  | nm :: r => by
    simp only [frz]
    split
    · simp only [locs, List.map_cons, List.all_cons, memL, Bool.true_and]; exact frz_mem r
    · exact frz_mem r

theorem blt_lt {a b : Nat} (h : Nat.blt a b = true) : a < b := by simp only [Nat.blt, Nat.ble_eq] at h; omega

theorem doCall_inv {call : CallH T} (hcall : CallSound S.P call) (hlim : lim ≤ S.lim) (hbase : S.base ≤ n) {f : FuncId} {ps : List (PV T)} {k : PK T} (h : doCall call σ n lim f ps K = some r) (hrun : ∀ C, CallRun C o σ k.slots f ps) : Out S o σ n lim K r k := by
  unfold doCall at h
  simp only at h
  split at h
  · rename_i hn
    obtain ⟨pv, H', n', h1, h2, h3, h4, h5, h6⟩ := hcall _ _ _ _ _ _ _ _ h
    have hH : ∀ l g, (l, g) ∈ heapAt σ (reach σ 100 (namesPs ps) []) → ∃ nm, l = .h nm ∧ look σ (.h nm) = some g := fun l g hm => heapAt_mem hm
    have hHn : ∀ nm f, (Loc.h nm, f) ∈ heapAt σ (reach σ 100 (namesPs ps) []) → nm < n := by
      intro nm f hm
      have key : ∀ (nms : List Nat), (nms.all fun nm => Nat.blt nm n) = true → ∀ nm f, (Loc.h nm, f) ∈ heapAt σ nms → nm < n := by
        intro nms
        induction nms with
        | nil => intro _ nm f hm; simp [heapAt] at hm
        | cons x xs ih =>
          intro hall nm f hm
          simp only [List.all_cons, Bool.and_eq_true] at hall
          simp only [heapAt] at hm
          split at hm
          · rcases List.mem_cons.1 hm with hm | hm
            · cases hm; exact blt_lt hall.1
            · exact ih hall.2 nm f hm
          · exact ih hall.2 nm f hm
      exact key _ hn nm f hm
    refine ⟨pv, _, _, n', h1, h2, .inl h3, fun _ _ _ => kv_call h4 (by show n' ≤ S.lim; omega) hbase h5 hH (fun nm f hm => .inl (hHn nm f hm)) h6 (hrun _), ?_, ?_⟩
    · rw [List.all_eq_true]
      intro l hl
      obtain ⟨⟨l', g⟩, hm, rfl⟩ := List.mem_map.1 hl
      obtain ⟨nm, rfl, _⟩ := hH l' g hm
      rfl
    · rw [List.all_eq_true]
      intro l hl
      simp only [locs, List.map_append, List.mem_append, List.mem_map] at hl
      rcases hl with ⟨x, ⟨⟨l', g⟩, hm, rfl⟩, rfl⟩ | ⟨x, ⟨⟨l', g⟩, hm, rfl⟩, rfl⟩
      · obtain ⟨nm, rfl, _⟩ := hH l' g hm; rfl
      · obtain ⟨nm, rfl, _⟩ := h6 l' g hm; rfl
  · cases h

theorem Rds.cons_ne {xs : List (Opd T)} {ps : List (PV T)} (_ : Rds σ xs ps) : True := trivial


theorem evK_sound {cu : TypeId → Option T.U} {k : PK T} (hc : compK S.P cu o = some k) {call : CallH T} (hcall : CallSound S.P call) (hlim : lim ≤ S.lim) (hbase : S.base ≤ n) (h : evK call σ n lim o.dst K k = some r) : Out S o σ n lim K r k := by
  have hloc : Nat.blt n lim = true → ∀ γ0 w0, (S.entry γ0 w0).loc n := fun hb γ0 w0 => ⟨hbase, by have := blt_lt hb; show n < S.lim; omega⟩
  unfold compK at hc
  split at hc
  · -- move
    rename_i x ho
    split at hc
    · rename_i y hy; cases hc
      replace h := rdv_inv h; obtain ⟨p, hp, h⟩ := h
      exact .pure h rfl (fun _ _ _ => kv_move (.inl ho) hy hp)
    · cases hc
  · rename_i x ho
    split at hc
    · rename_i y hy; cases hc
      replace h := rdv_inv h; obtain ⟨p, hp, h⟩ := h
      exact .pure h rfl (fun _ _ _ => kv_move (.inr ho) hy hp)
    · cases hc
  · -- pick
    rename_i c a b ho
    split at hc
    · split at hc
      · rename_i c' x' h1 h2; cases hc
        replace h := rdb_inv h; obtain ⟨cb, e1, h⟩ := h
        split at h
        · exact .pure h rfl (fun _ _ _ => kv_and_f ho h1 e1)
        · replace h := rdb_inv h; obtain ⟨xb, e2, h⟩ := h
          exact .pure h rfl (fun _ _ _ => kv_and_t ho h1 h2 e1 e2)
      · cases hc
    · split at hc
      · rename_i c' x' h1 h2; cases hc
        replace h := rdb_inv h; obtain ⟨cb, e1, h⟩ := h
        split at h
        · exact .pure h rfl (fun _ _ _ => kv_or_t ho h1 e1)
        · replace h := rdb_inv h; obtain ⟨xb, e2, h⟩ := h
          exact .pure h rfl (fun _ _ _ => kv_or_f ho h1 h2 e1 e2)
      · cases hc
    · cases hc
  · -- alloc
    rename_i e ho
    split at hc
    · rename_i z hz; cases hc
      simp only [evK] at h
      split at h
      · rename_i hb
        exact ⟨_, _, _, _, h, by omega, .inl (blt_lt hb), fun _ _ _ => kv_alloc ho hz (hloc hb _ _), rfl, rfl⟩
      · cases h
    · cases hc
  · -- box
    rename_i e x ho
    split at hc
    · rename_i y hy; cases hc
      simp only [evK] at h
      split at h
      · rename_i hb
        replace h := rdv_inv h; obtain ⟨p, hp, h⟩ := h
        split at h
        · rename_i cs hcs
          exact ⟨_, _, _, _, h, by omega, .inl (blt_lt hb), fun _ _ _ => kv_box ho hy hp hcs (hloc hb _ _), rfl, rfl⟩
        · cases h
      · cases h
    · cases hc
  · -- build
    rename_i t ps ho
    have hc0 := hc
    have hk : ∃ zs qs, k = .build zs qs := by
      unfold cBuild at hc
      split at hc
      · split at hc
        · split at hc
          · cases hc; exact ⟨_, _, rfl⟩
          · cases hc
        · cases hc
      · split at hc
        · split at hc
          · cases hc; exact ⟨_, _, rfl⟩
          · cases hc
        · cases hc
      · cases hc
    obtain ⟨zs, qs, rfl⟩ := hk
    replace h := rdps_inv h; obtain ⟨rs, hr, h⟩ := h
    split at h
    · rename_i out hout
      exact .pure h rfl (fun _ _ _ => kv_build ho hc0 hr hout)
    · cases h
  · -- buildSlice
    rename_i t len ps ho
    have hc0 := hc
    have hk : ∃ u xs, k = .mks u xs := by
      unfold cMks at hc
      split at hc
      · split at hc
        · split at hc
          · split at hc
            · cases hc; exact ⟨_, _, rfl⟩
            · cases hc
          · cases hc
        · cases hc
      · cases hc
    obtain ⟨u, xs, rfl⟩ := hk
    cases xs with
    | nil =>
      simp only [evK] at h
      exact .pure h rfl (fun _ _ _ => kv_mks0 ho hc0)
    | cons x xs =>
      simp only [evK] at h
      split at h
      · rename_i hb
        replace h := rdvs_inv h; obtain ⟨rs, hr, h⟩ := h
        split at h
        · rename_i as fs has
          refine ⟨_, _, _, _, h, by omega, .inl (blt_lt hb), fun _ _ _ => kv_mks ho hc0 hr has (by simp) (hloc hb _ _), hs_mem _, ?_⟩
          simp only [locs, List.map_cons, List.all_cons, memL, Bool.true_and]
          exact frz_mem fs
        · cases h
      · cases h
  · -- load
    rename_i t x ho
    split at hc
    · rename_i y ag m hy ha hm
      split at hc
      · cases hc
      · rename_i hcond
        cases hc
        have h1 : ag = false → m = 1 := fun e => by
          rcases Nat.decEq m 1 with h' | h'
          · exact absurd ⟨e, h'⟩ hcond
          · exact h'
        replace h := rdc_inv h; obtain ⟨c, hcv, h⟩ := h
        split at h
        · split at h
          · rename_i cs hb
            obtain ⟨p, hp, hl, rfl⟩ := ldv_inv h1 h
            exact .pure hp rfl (fun _ _ _ => kv_load ho hy ha hm h1 hcv hl fun σ' g2 γ a w hi hs v hv => load_ref hb g2 hs hv)
          · cases h
        · obtain ⟨p, hp, hl, rfl⟩ := ldv_inv h1 h
          exact .pure hp rfl (fun _ _ _ => kv_load ho hy ha hm h1 hcv hl fun σ' g2 γ a w hi hs v hv => load_cur hv)
        · split at h
          · rename_i hb
            split at h
            · rename_i hu _
              subst hu
              split at h
              · rename_i a hx
                obtain ⟨p, hp, hl, rfl⟩ := ldv_inv h1 h
                exact .pure hp rfl (fun _ _ _ => kv_load ho hy ha hm h1 hcv hl fun σ' g2 γ a w hi hs v hv => load_elm rfl hb hx g2 hs hv)
              · cases h
            · cases h
          · cases h
        · cases h
    · cases hc
  · -- store
    rename_i t x y ho
    split at hc
    · rename_i a b m ha hb hm hd; cases hc
      replace h := rdc_inv h; obtain ⟨c, hcv, h⟩ := h
      replace h := rdv_inv h; obtain ⟨q, hq, h⟩ := h
      split at h
      · rename_i new hnew
        split at h
        · rename_i hlen
          have hlen := Nat.eq_of_beq_eq_true hlen
          split at h
          · split at h
            · rename_i cs hlk
              split at h
              · rename_i hle
                exact ⟨_, _, _, _, h, Nat.le_refl _, .inr rfl, fun _ _ _ => kv_store_ref ho hd ha hb hm hcv hq hnew hlen hlk (by simpa using hle), rfl, rfl⟩
              · cases h
            · cases h
          · split at h
            · rename_i hlk
              split at h
              · rename_i hu _
                split at h
                · rename_i y0 hy0
                  split at h
                  · rename_i xs hrow
                    split at h
                    · rename_i y1 hdec
                      split at h
                      · rename_i hfm
                        exact ⟨_, _, _, _, h, Nat.le_refl _, .inr rfl, fun _ _ _ => kv_store_elm ho hd ha hb hm hcv hq hnew hlen hlk hu hy0 hrow hdec (by simpa using hfm), rfl, rfl⟩
                      · cases h
                    · cases h
                  · cases h
                · cases h
              · cases h
            · cases h
          · cases h
        · cases h
      · cases h
    · cases hc
  · -- fieldAddr
    rename_i s x i ho
    split at hc
    · rename_i y d hy hf; cases hc
      replace h := rdc_inv h; obtain ⟨c, hcv, h⟩ := h
      split at h
      · exact .pure h rfl (fun _ _ _ => kv_faddr ho hy hf hcv fun _ _ _ hv => faddr_ref hv)
      · split at h
        · rename_i hd
          exact .pure h rfl (fun _ _ _ => kv_faddr ho hy hf hcv fun _ _ _ hv => faddr_cur (by simpa using hd) hv)
        · cases h
      · exact .pure h rfl (fun _ _ _ => kv_faddr ho hy hf hcv fun _ _ _ hv => faddr_elm hv)
      · cases h
    · cases hc
  · -- field
    rename_i s x i ho
    split at hc
    · rename_i fs hu
      split at hc
      · rename_i f hf
        split at hc
        · rename_i y ag m hy ha hm
          split at hc
          · cases hc
          · rename_i hcond
            cases hc
            have h1 : ag = false → m = 1 := fun e => by
              rcases Nat.decEq m 1 with h' | h'
              · exact absurd ⟨e, h'⟩ hcond
              · exact h'
            replace h := rdv_inv h; obtain ⟨p0, hp0, h⟩ := h
            split at h
            · obtain ⟨p, hp, hl, rfl⟩ := ldv_inv h1 h
              exact .pure hp rfl (fun _ _ _ => kv_fld ho hy hu hf ha hm h1 hp0 hl)
            · cases h
        · cases hc
      · cases hc
    · cases hc
  · -- indexAddr
    rename_i t x i ho
    split at hc
    · split at hc
      · rename_i a b u ha hb hm; cases hc
        obtain ⟨e, hu, hm⟩ := slT_ok hm
        replace h := rdc_inv h; obtain ⟨c, hcv, h⟩ := h
        replace h := rdi_inv h; obtain ⟨kk, iv, hi, h⟩ := h
        split at h
        · split at h
          · rename_i he _
            subst he
            split at h
            · rename_i y hy
              exact .pure h rfl (fun _ _ _ => kv_iaddr_d ho ha hb hu hm hcv hi hy)
            · cases h
          · cases h
        · split at h
          · rename_i hlk
            split at h
            · rename_i he _
              subst he
              split at h
              · rename_i y hy
                obtain ⟨d0, d1, d2⟩ := dat_some hy
                exact .pure h rfl (fun _ _ _ => kv_iaddr_row ho ha hb hu hm hcv hlk hi hy d0 fun γ w v hv A cap hbt _ => iaddr_own d0 d1 hv A cap hbt)
              · cases h
            · cases h
          · cases h
        · split at h
          · rename_i hlk
            split at h
            · rename_i he0 he _ _
              subst he
              split at h
              · rename_i hbd
                simp only [Bool.and_eq_true, ile, ilt, decide_eq_true_eq] at hbd
                split at h
                · rename_i y hy
                  obtain ⟨d0, d1, d2⟩ := dat_some hy
                  exact .pure h rfl (fun _ _ _ => kv_iaddr_row ho ha hb hu hm hcv hlk hi hy hbd.1 fun γ w v hv A cap hbt _ => iaddr_buf (by rw [he0]) hbd.1 hbd.2 hv A cap hbt)
                · cases h
              · cases h
            · cases h
          · cases h
        · cases h
      · cases hc
    · rename_i len e hu
      split at hc
      · rename_i a b m ha hb hm; cases hc
        replace h := rdc_inv h; obtain ⟨c, hcv, h⟩ := h
        replace h := rdi_inv h; obtain ⟨kk, iv, hi, h⟩ := h
        split at h
        · rename_i hbd
          simp only [Bool.and_eq_true, ile, ilt, decide_eq_true_eq] at hbd
          split at h
          · exact .pure h rfl (fun _ _ _ => kv_iarr ho ha hb hu hm hcv hi hbd.1 hbd.2 fun _ _ _ hv => faddr_ref hv)
          · rename_i cs
            split at h
            case h_2 => cases h
            rename_i hle
            have hle : iv.toNat * m ≤ cs.length := by simpa using hle
            refine .pure h rfl (fun _ _ _ => kv_iarr ho ha hb hu hm hcv hi hbd.1 hbd.2 fun γ w v hv => ?_)
            obtain ⟨b, off, rfl, h2, h3, h4⟩ := hv
            refine ⟨b, off, rfl, b, off + iv.toNat * m, rfl, h2, ?_, h4.drop _⟩
            simp; omega
          · cases h
        · cases h
      · cases hc
    · cases hc
  · -- extract
    rename_i x i ho
    split at hc
    · rename_i y hy; cases hc
      replace h := rdv_inv h; obtain ⟨p0, hp0, h⟩ := h
      split at h
      · split at h
        · rename_i q hq
          exact .pure h rfl (fun _ _ _ => kv_ext ho hy hp0 hq)
        · cases h
      · cases h
    · cases hc
  · -- binOp
    rename_i op t x y t' ho
    split at hc
    · rename_i a b ha hb
      unfold cBin at hc
      split at hc
      · cases hc
        replace h := rdi_inv h; obtain ⟨k1, i1, e1, h⟩ := h
        replace h := rdi_inv h; obtain ⟨k2, i2, e2, h⟩ := h
        split at h
        · rename_i hk
          have hk := same_eq hk
          subst hk
          replace h := binI_inv h; obtain ⟨p, hp, h⟩ := h
          exact .pure h rfl (fun _ _ _ => kv_bin ho ha hb e1 e2 hp)
        · cases h
      · rename_i hu
        split at hc
        · cases hc
          replace h := rdb_inv h; obtain ⟨b1, e1, h⟩ := h
          replace h := rdb_inv h; obtain ⟨b2, e2, h⟩ := h
          exact .pure h rfl (fun _ _ _ => kv_eqb (neg := false) ho rfl ha hb hu e1 e2)
        · cases hc
          replace h := rdb_inv h; obtain ⟨b1, e1, h⟩ := h
          replace h := rdb_inv h; obtain ⟨b2, e2, h⟩ := h
          exact .pure h rfl (fun _ _ _ => kv_eqb (neg := true) ho rfl ha hb hu e1 e2)
        · cases hc
      all_goals first
        | (rename_i hu
           have hag : tyAg S.P t = some true := by simp [tyAg, hu]
           split at hc
           · cases hc
           · rename_i hg
             split at hc
             · rename_i ks hks
               split at hc
               · cases hc
                 replace h := rdv_inv h; obtain ⟨p1, e1, h⟩ := h
                 replace h := rdv_inv h; obtain ⟨p2, e2, h⟩ := h
                 split at h
                 · split at h
                   · rename_i r hr
                     exact .pure h rfl (fun _ _ _ => kv_eqa (neg := false) ho rfl ha hb hag (by simpa using hg) hks e1 e2 hr)
                   · cases h
                 · cases h
               · cases hc
                 replace h := rdv_inv h; obtain ⟨p1, e1, h⟩ := h
                 replace h := rdv_inv h; obtain ⟨p2, e2, h⟩ := h
                 split at h
                 · split at h
                   · rename_i r hr
                     exact .pure h rfl (fun _ _ _ => kv_eqa (neg := true) ho rfl ha hb hag (by simpa using hg) hks e1 e2 hr)
                   · cases h
                 · cases h
               · cases hc
             · cases hc)
        | cases hc
    · cases hc
  · -- unOp
    rename_i op t x ho
    split at hc
    · rename_i y hy; cases hc
      replace h := rdb_inv h; obtain ⟨b, e1, h⟩ := h
      exact .pure h rfl (fun _ _ _ => kv_not ho hy e1)
    · rename_i y hy; cases hc
      replace h := rdi_inv h; obtain ⟨k, b, e1, h⟩ := h
      exact .pure h rfl (fun _ _ _ => kv_neg ho hy e1)
    · cases hc
  · -- convert
    rename_i s t x ho
    split at hc
    · rename_i y d k hy hs hu; cases hc
      replace h := rdi_inv h; obtain ⟨k', b, e1, h⟩ := h
      exact .pure h rfl (fun _ _ _ => kv_conv ho hy hs hu e1)
    · cases hc
  · -- call
    rename_i c ho
    obtain ⟨callee, args, ts⟩ := c
    unfold cCall at hc
    simp only at hc
    split at hc
    · split at hc
      · rename_i x t hx ht
        have ha : args = #[x] := by apply Array.ext'; simpa using hx
        have hts : ts = #[t] := by apply Array.ext'; simpa using ht
        subst ha; subst hts
        split at hc
        · rename_i y e hy hu; cases hc
          replace h := rdc_inv h; obtain ⟨cc, e1, h⟩ := h
          split at h
          · rename_i u l
            refine .pure h rfl (fun _ _ _ => kv_len ho hy hu e1 fun σ' _ γ a w hs v hv => ?_)
            obtain ⟨A, cap, rfl, _⟩ := RepD.sl_iff.1 hv
            exact ⟨A, cap, by simp [dlen], by simp [dlen]⟩
          · refine .pure h rfl (fun _ _ _ => kv_len ho hy hu e1 fun σ' _ γ a w hs v hv => ?_)
            obtain ⟨A, rfl⟩ := hv
            exact ⟨A, 0, by simp, by simp⟩
          · split at h
            · rename_i hlk
              refine .pure h rfl (fun _ _ _ => kv_len ho hy hu e1 fun σ' g γ a w hs v hv => ?_)
              obtain ⟨A, cap, f1, _⟩ := hs.facts _ _ ((g _ (by simp)).trans hlk)
              obtain ⟨A0, l0, cap0, f2, rfl⟩ := hv
              rw [f1] at f2; cases f2
              exact ⟨A, cap, by simp [dlen], by simp [dlen]⟩
            · cases h
          · refine .pure h rfl (fun _ _ _ => kv_len ho hy hu e1 fun σ' g γ a w hs v hv => ?_)
            obtain ⟨A, l, cap, A', _, _, h0, _, _, rfl, _⟩ := hv
            exact ⟨A', _, rfl, h0⟩
          · cases h
        · rename_i y hy hu; cases hc
          replace h := rdc_inv h; obtain ⟨cc, e1, h⟩ := h
          split at h
          · exact .pure h rfl (fun _ _ _ => kv_slen ho hy hu e1)
          · cases h
        · cases hc
      · cases hc
    · split at hc
      · rename_i x y t t' hx ht
        split at hc
        · rename_i e' htt
          have hargs : args = #[x, y] := by apply Array.ext'; simpa using hx
          have hts : ts = #[t, t'] := by apply Array.ext'; simpa using ht
          subst hargs; subst hts
          split at hc
          · rename_i a b u bytes ha hb hT; cases hc
            obtain ⟨e, hT⟩ := appT_ok hT
            simp only [evK] at h
            split at h
            · rename_i hbl
              replace h := rdc_inv h; obtain ⟨c1, e1, h⟩ := h
              replace h := rdc_inv h; obtain ⟨c2, e2, h⟩ := h
              replace h := elems_inv h; obtain ⟨ys, rd, h, hrd, hel⟩ := h
              split at h
              · split at h
                · rename_i l' hd
                  refine ⟨_, _, _, _, h, by omega, .inl (blt_lt hbl), fun _ _ _ => kv_app (fz := false) (nm := n) ho ha hb hT htt e1 e2 (hel _) hd (hloc hbl _ _) (fun q hq => hq) (fun q f hm => ?_) (fun σ' g γ a w hs hfr v hv => ?_), hrd, rfl⟩
                  · simp only [List.mem_singleton, Prod.mk.injEq, Option.some.injEq] at hm
                    exact hm
                  · obtain ⟨A, rfl⟩ := hv
                    exact ⟨A, 0, rfl, Nat.le_refl _, .inl ⟨rfl, rfl⟩, fun ⟨b, hb⟩ => absurd hb ((hfr n (Nat.le_refl _) (Nat.lt_succ_self _)).2 b)⟩
                · cases h
              · rename_i u0 nm
                split at h
                · rename_i u1 l1 fz1 hlk
                  split at h
                  · rename_i hu _
                    subst hu
                    split at h
                    · rename_i l' hd
                      refine ⟨_, _, _, _, h, by omega, .inl (blt_lt hbl), fun _ _ _ => kv_app (fz := fz1) (nm := nm) ho ha hb hT htt e1 e2 (hel _) hd (hloc hbl _ _) (fun q hq => List.mem_cons_of_mem _ hq) (fun q f hm => ?_) (fun σ' g γ a w hs hfr v hv => ?_), by rw [List.all_cons, hrd]; rfl, rfl⟩
                      · simp only [List.mem_cons, Prod.mk.injEq, reduceCtorEq, and_false, Option.some.injEq, List.not_mem_nil, or_false, false_or] at hm
                        exact hm
                      · have hlk' := (g _ (by simp)).trans hlk
                        obtain ⟨A, cap, f1, f2, f3⟩ := hs.facts _ _ hlk'
                        obtain ⟨A0, l0, cap0, f4, rfl⟩ := hv
                        rw [f1] at f4; cases f4
                        exact ⟨A, cap, rfl, f2, f3, fun _ => ⟨hs.perm _ _ hlk', by simp [locs]⟩⟩
                    · cases h
                  · cases h
                · cases h
              · rename_i u0 nm off len
                split at h
                · rename_i u1 l1 hlk
                  split at h
                  · rename_i hu0 hu _ _
                    subst hu
                    subst hu0
                    split at h
                    · rename_i hb0
                      simp only [Bool.and_eq_true, ile, decide_eq_true_eq] at hb0
                      split at h
                      · rename_i l' hd
                        exact ⟨_, _, _, _, h, by omega, .inr rfl, fun _ _ _ => kv_appb (nm := nm) ho htt ha hb hT e1 e2 (hel _) hlk hb0.1 hb0.2 hd (fun q hq => List.mem_cons_of_mem _ hq) (by simp) rfl, by rw [List.all_cons, hrd]; rfl, rfl⟩
                      · cases h
                    · cases h
                  · cases h
                · cases h
              · cases h
            · cases h
          · cases hc
        · cases hc
      · cases hc
    · -- clear
      split at hc
      · rename_i x t hx ht hod
        have hargs : args = #[x] := by apply Array.ext'; simpa using hx
        have hts : ts = #[t] := by apply Array.ext'; simpa using ht
        subst hargs; subst hts
        split at hc
        · rename_i a u z ha hz; cases hc
          obtain ⟨e, hu, hzz⟩ := clrT_ok hz
          simp only [evK] at h
          replace h := rdc_inv h; obtain ⟨c1, e1, h⟩ := h
          split at h
          · rename_i u0 nm off len
            split at h
            · rename_i u1 l1 hlk
              split at h
              · rename_i hu0 hu1 _ _
                subst hu1
                subst hu0
                split at h
                · rename_i a0 hdec
                  split at h
                  · rename_i hb0
                    simp only [Bool.and_eq_true, ile, decide_eq_true_eq] at hb0
                    split at h
                    · rename_i l' hd
                      exact ⟨_, _, _, _, h, by omega, .inr rfl, fun _ _ _ => kv_clr ho hod ha hu hzz hdec e1 hlk hb0.1 hb0.2 hd, rfl, rfl⟩
                    · cases h
                  · cases h
                · cases h
              · cases h
            · cases h
          · cases h
        · cases hc
      · cases hc
    · split at hc
      · rename_i x y hx
        have hargs : args = #[x, y] := by apply Array.ext'; simpa using hx
        subst hargs
        split at hc
        · rename_i a b ha hb; cases hc
          simp only [evK] at h
          replace h := rdi_inv h; obtain ⟨k1, i1, e1, h⟩ := h
          replace h := rdi_inv h; obtain ⟨k2, i2, e2, h⟩ := h
          split at h
          · rename_i hk
            have hk := same_eq hk
            subst hk
            exact .pure h rfl (fun _ _ _ => kv_mm (big := true) ho ha hb e1 e2)
          · cases h
        · cases hc
      · cases hc
    · split at hc
      · rename_i x y hx
        have hargs : args = #[x, y] := by apply Array.ext'; simpa using hx
        subst hargs
        split at hc
        · rename_i a b ha hb; cases hc
          simp only [evK] at h
          replace h := rdi_inv h; obtain ⟨k1, i1, e1, h⟩ := h
          replace h := rdi_inv h; obtain ⟨k2, i2, e2, h⟩ := h
          split at h
          · rename_i hk
            have hk := same_eq hk
            subst hk
            exact .pure h rfl (fun _ _ _ => kv_mm (big := false) ho ha hb e1 e2)
          · cases h
        · cases hc
      · cases hc
    · rename_i f
      split at hc
      · split at hc
        · rename_i xs hxs; cases hc
          replace h := rdvs_inv h; obtain ⟨ps, hps, h⟩ := h
          exact doCall_inv hcall hlim hbase h (fun _ => callRun_call ho hxs hps)
        · cases hc
      · cases hc
    · rename_i g _
      split at hc
      · rename_i y xs hy hxs; cases hc
        replace h := rdc_inv h; obtain ⟨c, e1, h⟩ := h
        replace h := rdvs_inv h; obtain ⟨ps, hps, h⟩ := h
        split at h
        · exact doCall_inv hcall hlim hbase h (fun _ => callRun_dyn ho hy hxs e1 hps)
        · cases h
      · cases hc
    · cases hc
  · -- makeFunc
    rename_i f first caps ho
    split at hc
    · rename_i xs hfst hxs; cases hc
      have hf : first = #[] := by apply Array.ext'; simpa using hfst
      subst hf
      replace h := rdvs_inv h; obtain ⟨ps, hps, h⟩ := h
      split at h
      · rename_i ids hids
        exact .pure h rfl (fun _ _ _ => kv_mkf ho hxs hps hids)
      · cases h
    · cases hc
  · -- nilCheck
    rename_i x ho
    split at hc
    · rename_i y hy; cases hc
      replace h := rdc_inv h; obtain ⟨c, e1, h⟩ := h
      split at h
      · exact .pure h rfl (fun _ _ _ => kv_nilk ho hy e1 trivial)
      · exact .pure h rfl (fun _ _ _ => kv_nilk ho hy e1 trivial)
      · exact .pure h rfl (fun _ _ _ => kv_nilk ho hy e1 trivial)
      · exact .pure h rfl (fun _ _ _ => kv_nilk ho hy e1 trivial)
      · cases h
    · cases hc
  · -- makeMap
    rename_i t ho
    split at hc
    · split at hc
      · cases hc
        simp only [evK] at h
        split at h
        · rename_i hb
          exact ⟨_, _, _, _, h, by omega, .inl (blt_lt hb), fun _ _ _ => kv_mkm ho (hloc hb _ _), rfl, rfl⟩
        · cases h
      · cases hc
    · cases hc
  · -- lookup
    rename_i t x i comma ho
    split at hc
    · rename_i key elem hu
      split at hc
      · rename_i a b uk uv z hx hi hk hv; cases hc
        have K := keyT_ok hk
        have hz : zShape S.P elem = some z ∧ tyAg S.P elem = some (T.ag uv) := by
          unfold valT at hv
          split at hv
          · split at hv
            · rename_i hh; cases hv; exact ⟨by assumption, hh⟩
            · cases hv
          · cases hv
        replace h := rdc_inv h; obtain ⟨c, e1, h⟩ := h
        split at h
        · split at h
          · rename_i hb
            split at h
            · rename_i he he2 _ _
              subst he; subst he2
              replace h := rdv_inv h; obtain ⟨p, e2, h⟩ := h
              split at h
              · rename_i cs hp
                split at h
                · rename_i xs hrow
                  split at h
                  · rename_i kk hdec
                    have kv := fun γ0 w0 ok => kv_mlook (C := S.ctx γ0 w0 ok) (lo := n) (hi := n) ho hx hi hu K hz.1 hz.2 e1 e2 hp hrow hdec hb
                    split at h
                    · rename_i v hv'
                      rw [hv'] at kv
                      split at h
                      · exact .pure h rfl kv
                      · exact .pure h rfl kv
                    · rename_i hv'
                      rw [hv'] at kv
                      split at h
                      · exact .pure h rfl kv
                      · exact .pure h rfl kv
                  · cases h
                · cases h
              · cases h
            · cases h
          · cases h
        · cases h
      · cases hc
    · cases hc
  · -- mapUpdate
    rename_i t x kx vx ho
    split at hc
    · rename_i key elem hu
      split at hc
      · rename_i a b cc uk uv z hx hkx hvx hk hv hd; cases hc
        have K := keyT_ok hk
        replace h := rdc_inv h; obtain ⟨c, e1, h⟩ := h
        split at h
        · split at h
          · rename_i hb
            split at h
            · rename_i he he2 _ _
              subst he; subst he2
              replace h := rdv_inv h; obtain ⟨p, e2, h⟩ := h
              replace h := rdv_inv h; obtain ⟨q, e3, h⟩ := h
              split at h
              · rename_i cs ds hp hq
                split at h
                · rename_i xs ys hrow hrow2
                  split at h
                  · rename_i kk vv hdec hdec2
                    exact ⟨_, _, _, _, h, Nat.le_refl _, .inr rfl, fun _ _ _ => kv_mupd (.inl ho) hd hx hkx hvx hu K e1 e2 e3 hp hq hrow hdec hrow2 hdec2 hb, rfl, rfl⟩
                  · cases h
                · cases h
              · cases h
            · cases h
          · cases h
        · cases h
      · cases hc
    · cases hc
  · -- insert
    rename_i t x kx vx ho
    split at hc
    · rename_i key elem hu
      split at hc
      · rename_i a b cc uk uv z hx hkx hvx hk hv hd; cases hc
        have K := keyT_ok hk
        replace h := rdc_inv h; obtain ⟨c, e1, h⟩ := h
        split at h
        · split at h
          · rename_i hb
            split at h
            · rename_i he he2 _ _
              subst he; subst he2
              replace h := rdv_inv h; obtain ⟨p, e2, h⟩ := h
              replace h := rdv_inv h; obtain ⟨q, e3, h⟩ := h
              split at h
              · rename_i cs ds hp hq
                split at h
                · rename_i xs ys hrow hrow2
                  split at h
                  · rename_i kk vv hdec hdec2
                    exact ⟨_, _, _, _, h, Nat.le_refl _, .inr rfl, fun _ _ _ => kv_mupd (.inr ho) hd hx hkx hvx hu K e1 e2 e3 hp hq hrow hdec hrow2 hdec2 hb, rfl, rfl⟩
                  · cases h
                · cases h
              · cases h
            · cases h
          · cases h
        · cases h
      · cases hc
    · cases hc
  · -- slice
    rename_i t x lo hi ho
    split at hc
    · rename_i u a l hh hu ha hl hhi; cases hc
      obtain ⟨e, hu2, hm⟩ := slT_ok hu
      replace h := rdc_inv h; obtain ⟨c, e1, h⟩ := h
      simp only at h
      have hsl : ∀ {C : Ctx} {x : PV T} {mrd : List Loc}, KValid C o σ (a.slots ++ (Opd.all l.toList ++ Opd.all hh.toList)) x mrd [] n n → KValid C o σ (PK.slice u a l hh none).slots x mrd [] n n := fun h => h.slots (by simp [PK.slots, Opd.all])
      split at h
      · split at h
        · rename_i he _
          subst he
          replace h := rdo_inv h; obtain ⟨av, hla, h⟩ := h
          replace h := rdo_inv h; obtain ⟨bv, hlb, h⟩ := h
          split at h
          · rename_i l' hd
            obtain ⟨d1, d2, d3, _⟩ := dsub_some hd
            exact .pure h rfl (fun _ _ _ => hsl (kv_slice ho ha hl hhi hu2 hm e1 hla hlb d1 d2 d3 fun σ' _ γ a w hs v hv => slice_d hd hv))
          · cases h
        · cases h
      · replace h := rdo_inv h; obtain ⟨av, hla, h⟩ := h
        replace h := rdo_inv h; obtain ⟨bv, hlb, h⟩ := h
        split at h
        · rename_i hz
          simp only [Bool.and_eq_true, ieq, decide_eq_true_eq] at hz
          obtain ⟨rfl, rfl⟩ := hz
          refine .pure h rfl (fun _ _ _ => hsl (kv_slice (d := 0) ho ha hl hhi hu2 hm e1 hla hlb (by omega) (by omega) (by omega) fun σ' _ γ a w hs v hv => ?_))
          obtain ⟨A, rfl⟩ := hv
          exact ⟨A, 0, rfl, Nat.le_refl _, fun A' _ => ⟨A', rfl⟩⟩
        · cases h
      · split at h
        · rename_i u1 l1 fz1 hlk
          split at h
          · rename_i he _
            subst he
            replace h := rdo_inv h; obtain ⟨av, hla, h⟩ := h
            replace h := rdo_inv h; obtain ⟨bv, hlb, h⟩ := h
            split at h
            · rename_i hbd
              simp only [Bool.and_eq_true, ile, decide_eq_true_eq] at hbd
              refine .pure h rfl (fun _ _ _ => hsl (kv_slice (d := l1.length) ho ha hl hhi hu2 hm e1 hla hlb hbd.1 hbd.2.1 hbd.2.2 fun σ' g γ a w hs v hv => ?_))
              obtain ⟨A, cap, f1, f2, _⟩ := hs.facts _ _ ((g _ (by simp)).trans hlk)
              exact slice_own hbd.1 hbd.2.1 hbd.2.2 hv ⟨A, cap, f1, f2⟩
            · cases h
          · cases h
        · cases h
      · rename_i u0 nm off len
        split at h
        · rename_i he _
          subst he
          replace h := rdo_inv h; obtain ⟨av, hla, h⟩ := h
          replace h := rdo_inv h; obtain ⟨bv, hlb, h⟩ := h
          split at h
          · rename_i hbd
            simp only [Bool.and_eq_true, ile, decide_eq_true_eq] at hbd
            have hlb' : Rdo σ hh ((len.toNat : Nat) : Int) bv := by rw [Int.toNat_of_nonneg (by omega)]; exact hlb
            exact .pure h rfl (fun _ _ _ => hsl (kv_slice ho ha hl hhi hu2 hm e1 hla hlb' hbd.1 hbd.2.1 (by omega) fun σ' g γ a w hs v hv => slice_buf hbd.1 hbd.2.1 hbd.2.2 hv))
          · split at h
            · rename_i hlk
              split at h
              · rename_i hbd
                simp only [Bool.and_eq_true, ile, decide_eq_true_eq] at hbd
                exact .pure h rfl (fun _ _ _ => hsl (kv_slice_up ho ha hl hhi hu2 hm e1 hla hlb hlk hbd.1 hbd.2.1 hbd.2.2.1 hbd.2.2.2))
              · cases h
            · cases h
        · cases h
      · cases h
    · cases hc
  · -- slice, three numbers
    rename_i t x lo' hi' mx' ho
    split at hc
    · rename_i u a l hh m hu ha hl hhi hmx; cases hc
      obtain ⟨e, hu2, hm⟩ := slT_ok hu
      simp only [evK] at h
      replace h := rdc_inv h; obtain ⟨c1, e1, h⟩ := h
      replace h := rdi_inv h; obtain ⟨k1, i1, e2, h⟩ := h
      replace h := rdi_inv h; obtain ⟨k2, i2, e3, h⟩ := h
      replace h := rdi_inv h; obtain ⟨k3, i3, e4, h⟩ := h
      split at h
      · rename_i u0 nm
        split at h
        · rename_i hlk
          split at h
          · rename_i hb0
            simp only [Bool.and_eq_true, ile, decide_eq_true_eq, dlen] at hb0
            exact .pure h rfl (fun _ _ _ => kv_look3 ho ha hl hhi hmx hu2 hm e1 e2 e3 e4 hlk hb0.1 hb0.2.1 hb0.2.2.1 (of_decide_eq_true hb0.2.2.2))
          · cases h
        · cases h
      · cases h
    · cases hc
  · -- make of a slice
    rename_i t x y ho
    split at hc
    · rename_i a u b z hxy ha hz; cases hc
      have := sameO_eq hxy
      subst this
      obtain ⟨e, hu, hzz⟩ := mkT_ok hz
      simp only [evK] at h
      split at h
      · rename_i hb
        replace h := rdi_inv h; obtain ⟨k1, i1, e1, h⟩ := h
        split at h
        · rename_i a0 hdec
          split at h
          · rename_i l hd
            exact ⟨_, _, _, _, h, by omega, .inl (blt_lt hb), fun _ _ _ => kv_mksl ho ha hu hzz hdec e1 hd (hloc hb _ _), rfl, rfl⟩
          · cases h
        · cases h
      · cases h
    · cases hc
  · cases hc
end
/-- An operation that stays out: the text may bear it, it is never come to. -/
def compKB (P : Program) (cu : TypeId → Option T.U) (o : Oper) : Option (PK T) :=
  match compK P cu o with
  | some k => some k
  | none => some .bad

theorem evKB_sound {S : Cls} {o : Oper} {σ : St T} {X : Type} {n lim : Nat} {r : X} {K : PV T → List Loc → Wr T → Nat → Option X} {cu : TypeId → Option T.U} {k : PK T} (hc : compKB S.P cu o = some k) {call : CallH T} (hcall : CallSound S.P call) (hlim : lim ≤ S.lim) (hbase : S.base ≤ n) (h : evK call σ n lim o.dst K k = some r) : Out S o σ n lim K r k := by
  unfold compKB at hc
  split at hc
  · rename_i k' hk
    cases hc
    exact evK_sound hk hcall hlim hbase h
  · cases hc
    simp only [evK] at h
    cases h
end Go.G
