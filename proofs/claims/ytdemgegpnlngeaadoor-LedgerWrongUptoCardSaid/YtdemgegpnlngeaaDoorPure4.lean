/-
  The pure layer: the translation of the read-only operations, and that it is right.
-/
import Derived.Test.YtdemgegpnlngeaaDoorPure3
import Derived.Laws.Tables
import Derived.MapKept
namespace PG
open Go
set_option linter.unusedSimpArgs false
set_option linter.unusedVariables false

def zerosOf (P : Program) (t : TypeId) : Option (List PV) := (P.info? t).bind fun i => i.zero.bind fun z => z.cells.toList.mapM PV.ofVal

def placesOf (P : Program) (t : TypeId) (parts : List (Nat × Operand)) : Option (List (Nat × Nat)) :=
  match P.underlying t with
  | some (.struct fields) => (fields.toList.mapM fun f => (P.info? f.type).map fun i => (f.offset, i.size)).bind fun places => parts.mapM fun x => places[x.1]?
  | some (.array _ e) => (P.info? e).bind fun i => some (parts.map fun x => (x.1 * i.size, i.size))
  | _ => none

def compileB (P : Program) (c : Call) : Option (RK × List Operand) :=
  match c.callee with
  | .builtin .len =>
    match c.args.toList with
    | [x] => (c.argTypes[0]?).bind fun t => match P.underlying t with
      | some .string => some (.lenS, [x])
      | some (.slice _) => some (.lenL, [x])
      | some (.map _ _) => some (.lenM, [x])
      | _ => none
    | _ => none
  | .builtin .min =>
    match c.args.toList with
    | [x, y] => some (.min, [x, y])
    | _ => none
  | .builtin .max =>
    match c.args.toList with
    | [x, y] => some (.max, [x, y])
    | _ => none
  | _ => none

/-- The kinds of a struct's fields, where they can be compared by 'eqA'. -/
def eqKinds (P : Program) : Nat → List Field → Option (List Nat)
  | _, [] => some []
  | o, f :: fs => if f.name ≠ "_" ∧ f.offset = o ∧ P.plainKey f.type = true then
      (match P.underlying f.type with
      | some (.int _) => some 0
      | some .bool => some 1
      | some .string => some 2
      | _ => none).bind fun k => (eqKinds P (o + 1) fs).map fun ks => k :: ks
    else none

def kkOf (P : Program) (k : TypeId) : Option KK :=
  match P.underlying k with
  | some (.int j) => some (.int j)
  | some .string => some .str
  | some .bool => some .bool
  | _ => none
def PV.ofZero : Value → Option PV
  | .agg cs => (cs.toList.mapM PV.ofVal).map .agg
  | v => PV.ofVal v
def zeroV (P : Program) (t : TypeId) : Option PV := (P.info? t).bind fun i => i.zero.bind PV.ofZero

/-- A read-only operation, and its operands. -/
def compileR (P : Program) (o : Op) : Option (RK × List Operand) :=
  match o with
  | .move x | .assign x => some (.mov, [x])
  | .pick c a b => some (.pick, [c, a, b])
  | .binOp op t x y _ =>
    match P.underlying t with
    | some (.struct fs) => if P.stoodInHeld t = false ∧ P.eqGuardType P.depth t = false then
        match op with
        | .eql => (eqKinds P 0 fs.toList).map fun ks => (.eqA false ks, [x, y])
        | .neq => (eqKinds P 0 fs.toList).map fun ks => (.eqA true ks, [x, y])
        | _ => none
      else none
    | some .bool =>
      match op with
      | .eql => some (.eqB false, [x, y])
      | .neq => some (.eqB true, [x, y])
      | _ => none
    | some (.slice _) =>
      match op with
      | .eql => some (.nilEq false 0, [x, y])
      | .neq => some (.nilEq true 0, [x, y])
      | _ => none
    | some (.map _ _) =>
      match op with
      | .eql => some (.nilEq false 1, [x, y])
      | .neq => some (.nilEq true 1, [x, y])
      | _ => none
    | some (.func _ _ _) =>
      match op with
      | .eql => some (.nilEq false 2, [x, y])
      | .neq => some (.nilEq true 2, [x, y])
      | _ => none
    | some (.pointer _) =>
      match op with
      | .eql => some (.nilEq false 3, [x, y])
      | .neq => some (.nilEq true 3, [x, y])
      | _ => none
    | _ => some (.bin op, [x, y])
  | .unOp op _ x => some (.un op, [x])
  | .convert s d x =>
    match P.underlying s, P.underlying d with
    | some (.int _), some (.int k) => some (.conv k, [x])
    | some .string, some .string => some (.strc, [x])
    | some (.int _), some .string => some (.chr, [x])
    | _, _ => none
  | .call c => compileB P c
  | .index t x i =>
    match P.underlying t with
    | some .string => some (.idxS, [x, i])
    | some (.array n e) => (shOf P e).map fun sh => (.idxA n sh, [x, i])
    | _ => none
  | .slice t x lo hi none =>
    match P.underlying t with
    | some .string => match lo, hi with
      | some a, some b => some (.slcS true true, [x, a, b])
      | some a, none => some (.slcS true false, [x, a])
      | none, some b => some (.slcS false true, [x, b])
      | none, none => none
    | some (.slice e) => (shOf P e).bind fun sh => match lo, hi with
      | some a, some b => some (.slc sh true true false, [x, a, b])
      | some a, none => some (.slc sh true false false, [x, a])
      | none, some b => some (.slc sh false true false, [x, b])
      | none, none => none
    | _ => none
  | .slice t x lo (some b) (some c) =>
    match P.underlying t with
    | some (.slice e) => (shOf P e).map fun sh => match lo with
      | some a => (.slc sh true true true, [x, a, b, c])
      | none => (.slc sh false true true, [x, b, c])
    | _ => none
  | .lookup t x i ok =>
    match P.underlying t with
    | some (.map k e) => (kkOf P k).bind fun kd => (zeroV P e).map fun z => (.look kd ok z, [x, i])
    | _ => none
  | .panic x => some (.dead, [x])
  | .indexAddr t x i =>
    match P.underlying t with
    | some (.slice e) => (shOf P e).map fun sh => (.idxAddr sh, [x, i])
    | some (.array n e) => (shOf P e).map fun sh => (.idxAddrA n sh, [x, i])
    | _ => none
  | .fieldAddr t x i =>
    match P.underlying t with
    | some (.struct fields) => (fields[i]?).bind fun f => match P.info? f.type with
      | some j => if j.size = 0 then none else some (.fldAddr f.offset, [x])
      | none => none
    | _ => none
  | .field t x i =>
    match P.underlying t with
    | some (.struct fields) => (fields[i]?).bind fun f => (shOf P f.type).map fun sh => (.fld f.offset sh, [x])
    | _ => none
  | .load t a => (shOf P t).map fun sh => (.load sh, [a])
  | .build t parts =>
    (zerosOf P t).bind fun z => (placesOf P t parts.toList).map fun ps => (.build z ps, parts.toList.map (·.2))
  | .extract t i => some (.ext i, [t])
  | .makeFunc (.func f) first caps => some (.mkFn f first.size, first.toList ++ caps.toList)
  | .nilCheck x => some (.nilChk, [x])
  | _ => none

section
variable {P : Program} {w : World} {κ : Kap} {μ : Mem} {ρ : Operand → Value}

/-- Operands and what is known of them. -/
def Known (w : World) (κ : Kap) (ρ : Operand → Value) (xs : List Operand) (ps : List PV) : Prop :=
  xs.length = ps.length ∧ ∀ (i : Nat) (x : Operand) (p : PV), xs[i]? = some x → ps[i]? = some p → Rep w (own κ) κ (ρ x) p

def RdOkX (A : World → Prop) (P : Program) (w : World) (κ : Kap) (ρ : Operand → Value) (o : Oper) (p : PV) : Prop :=
  ∃ v, Rep w (own κ) κ v p ∧ ∀ w', A w' → (execOp ρ o).run P w' = .ok (.value v) w'
/-- In every world in which what was there is as it was. -/
def RdOk (P : Program) (w : World) (κ : Kap) (ρ : Operand → Value) (o : Oper) (p : PV) : Prop := RdOkX (Same w) P w κ ρ o p
/-- In whatever world. -/
def RdOkA (P : Program) (w : World) (κ : Kap) (ρ : Operand → Value) (o : Oper) (p : PV) : Prop := RdOkX (fun _ => True) P w κ ρ o p
/-- It reads no memory. -/
def RK.wl : RK → Bool
  | .load _ | .lenM | .look _ _ _ => false
  | _ => true
def worldA (w : World) : Bool → World → Prop
  | true => fun _ => True
  | false => Same w

theorem known1 {x : Operand} {ps : List PV} (h : Known w κ ρ [x] ps) : ∃ p, ps = [p] ∧ Rep w (own κ) κ (ρ x) p := by
  obtain ⟨hl, h⟩ := h
  match ps, hl with
  | [p], _ => exact ⟨p, rfl, h 0 x p rfl rfl⟩
theorem known2 {x y : Operand} {ps : List PV} (h : Known w κ ρ [x, y] ps) : ∃ p q, ps = [p, q] ∧ Rep w (own κ) κ (ρ x) p ∧ Rep w (own κ) κ (ρ y) q := by
  obtain ⟨hl, h⟩ := h
  match ps, hl with
  | [p, q], _ => exact ⟨p, q, rfl, h 0 x p rfl rfl, h 1 y q rfl rfl⟩
theorem known3 {x y z : Operand} {ps : List PV} (h : Known w κ ρ [x, y, z] ps) :
    ∃ p q r, ps = [p, q, r] ∧ Rep w (own κ) κ (ρ x) p ∧ Rep w (own κ) κ (ρ y) q ∧ Rep w (own κ) κ (ρ z) r := by
  obtain ⟨hl, h⟩ := h
  match ps, hl with
  | [p, q, r], _ => exact ⟨p, q, r, rfl, h 0 x p rfl rfl, h 1 y q rfl rfl, h 2 z r rfl rfl⟩

theorem rep_under {v : Value} {p : PV} {c : Bool} (h : Rep w (own κ) κ v p) (hk : p.okUnder c) (hc : c = true) : Rep w (own κ) κ v (p.under c) := by
  cases p with
  | cond b p =>
    simp only [PV.under]
    cases h with
    | cond b h _ => exact h (hk hc)
    | closed h => cases h
  | _ => exact h

theorem pick_sound {o : Oper} {c a b : Operand} (ho : o.op = .pick c a b) {ps : List PV} (hk : Known w κ ρ [c, a, b] ps) (hd : rdD μ .pick ps) : RdOkA P w κ ρ o (rdV μ .pick ps) := by
  obtain ⟨p, q, r, rfl, hp, hq, hr⟩ := known3 hk
  cases p with
  | bool t =>
    simp only [rdD] at hd
    obtain ⟨h1, h2, h3⟩ := hd
    have e := repC_bool hp
    refine ⟨.bool (if t = true then (q.under t).toB else (r.under (!t)).toB), .closed (.bool _), fun w' _ => ?_⟩
    cases t with
    | true =>
      have h4 := PV.of_isB h3
      have := repC_bool (h4 ▸ rep_under hq h1 rfl)
      simp [execOp, ho, e, asBool, this]
    | false =>
      have h4 := PV.of_isB h3
      have := repC_bool (h4 ▸ rep_under hr h2 rfl)
      simp [execOp, ho, e, asBool, this]
  | _ => simp [rdD] at hd

theorem mov_sound {o : Oper} {x : Operand} (ho : o.op = .move x ∨ o.op = .assign x) {ps : List PV} (hk : Known w κ ρ [x] ps) (hd : rdD μ .mov ps) : RdOkA P w κ ρ o (rdV μ .mov ps) := by
  obtain ⟨p, rfl, hp⟩ := known1 hk
  refine ⟨ρ x, hp, fun w' _ => ?_⟩
  rcases ho with ho | ho <;> simp [execOp, ho]

theorem binR_sound {o : Oper} {op : BinOp} {t t' : TypeId} {x y : Operand} (ho : o.op = .binOp op t x y t') {ps : List PV} (hk : Known w κ ρ [x, y] ps) (hd : rdD μ (.bin op) ps) : RdOkA P w κ ρ o (rdV μ (.bin op) ps) := by
  obtain ⟨p, q, rfl, hp, hq⟩ := known2 hk
  obtain ⟨r, hr, hrun⟩ := bin_sound (P := P) op t x y hp hq hd
  refine ⟨r, hr, fun w' _ => ?_⟩
  have := hrun w'
  simp only [execOp, ho, Sem.run_bind] at this ⊢
  rw [this]; rfl

theorem eqFields_sound {d o : Nat} {fs : List Field} {ks : List Nat} {xs ys : Array Value} {cs cs' : List PV} (hf : eqKinds P o fs = some ks) (hk : eqK ks cs cs')
    (hx : ∀ (i : Nat) (p : PV), cs[i]? = some p → ∃ v, xs[o + i]? = some v ∧ Rep w (own κ) κ v p) (hy : ∀ (i : Nat) (p : PV), cs'[i]? = some p → ∃ v, ys[o + i]? = some v ∧ Rep w (own κ) κ v p) (w' : World) :
    (Op.eqFields (d + 1) xs ys fs).run P w' = .ok (eqC cs cs') w' := by
  induction fs generalizing o ks cs cs' with
  | nil =>
    simp only [eqKinds] at hf; cases hf
    match cs, cs', hk with
    | [], [], _ => simp [Op.eqFields, eqC]
  | cons f fs ih =>
    simp only [eqKinds] at hf
    split at hf
    · rename_i h
      obtain ⟨h1, h2, h3⟩ := h
      simp only [Option.bind_eq_some_iff, Option.map_eq_some_iff] at hf
      obtain ⟨k, hk1, ks', hk2, rfl⟩ := hf
      have step : ∀ (p q : PV) (l l' : List PV), cs = p :: l → cs' = q :: l' → ∃ u v, (part f.type xs f.offset).run P w' = .ok u w' ∧ (part f.type ys f.offset).run P w' = .ok v w' ∧ Rep w (own κ) κ u p ∧ Rep w (own κ) κ v q ∧
          (eqK ks' l l' → (Op.eqFields (d + 1) xs ys fs).run P w' = .ok (eqC l l') w') := by
        rintro p q l l' rfl rfl
        obtain ⟨u, hu, ru⟩ := hx 0 p rfl
        obtain ⟨v, hv, rv⟩ := hy 0 q rfl
        refine ⟨u, v, run_part_plain (P := P) (w := w') h3 (by rw [h2]; exact hu), run_part_plain (P := P) (w := w') h3 (by rw [h2]; exact hv), ru, rv, fun hl => ?_⟩
        exact ih hk2 hl (fun i p hp => by rw [show o + 1 + i = o + (i + 1) by omega]; exact hx (i + 1) p hp) (fun i p hp => by rw [show o + 1 + i = o + (i + 1) by omega]; exact hy (i + 1) p hp)
      have fin : ∀ (u v : Value) (b r : Bool), (part f.type xs f.offset).run P w' = .ok u w' → (part f.type ys f.offset).run P w' = .ok v w' → (Op.equalIn (d + 1) f.type u v).run P w' = .ok b w' →
          (Op.eqFields (d + 1) xs ys fs).run P w' = .ok r w' → (Op.eqFields (d + 1) xs ys (f :: fs)).run P w' = .ok (b && r) w' := by
        intro u v b r e1 e2 e3 e4
        simp only [Op.eqFields, ne_eq, h1, not_false_eq_true, if_true, Sem.run_bind, e1, e2, e3, Result.andThen_ok]
        cases b
        · simp
        · simp [e4]
      split at hk1
      · rename_i hu; cases hk1
        unfold eqK at hk
        split at hk <;> first | (exact hk.elim) | skip
        · simp at *
        · rename_i e2; cases e2
          obtain ⟨u, v, p1, p2, r1, r2, hl⟩ := step _ _ _ _ rfl rfl
          obtain ⟨rfl, hk⟩ := hk
          rw [repC_int r1] at p1; rw [repC_int r2] at p2
          rw [fin _ _ _ _ p1 p2 (run_equalIn_int w' _ _ _ _ _ _ hu) (hl hk)]
          simp only [eqC]; congr 1
        · simp at *
        · simp at *
      · rename_i hu; cases hk1
        unfold eqK at hk
        split at hk <;> first | (exact hk.elim) | skip
        · simp at *
        · simp at *
        · rename_i e2; cases e2
          obtain ⟨u, v, p1, p2, r1, r2, hl⟩ := step _ _ _ _ rfl rfl
          rw [repC_bool r1] at p1; rw [repC_bool r2] at p2
          rw [fin _ _ _ _ p1 p2 (run_equalIn_bool' w' _ _ _ _ hu) (hl hk)]
          simp only [eqC]; congr 1
        · simp at *
      · rename_i hu; cases hk1
        unfold eqK at hk
        split at hk <;> first | (exact hk.elim) | skip
        · simp at *
        · simp at *
        · simp at *
        · rename_i e2; cases e2
          obtain ⟨u, v, p1, p2, r1, r2, hl⟩ := step _ _ _ _ rfl rfl
          obtain ⟨s, rfl, rfl⟩ := repC_str r1
          obtain ⟨s', rfl, rfl⟩ := repC_str r2
          rw [fin _ _ _ _ p1 p2 (run_equalIn_string w' _ _ _ _ hu) (hl hk)]
          have : (s.data.toList == s'.data.toList) = decide (s.data.toList = s'.data.toList) := by rw [Bool.eq_iff_iff]; simp
          simp only [eqC, ByteArray.toList_eq, this]
      · cases hk1
    · cases hf

theorem agg_at {vs : Array Value} {cs : List PV} (hs : vs.size = cs.length) (hr : ∀ (i : Nat) (v : Value) (p : PV), vs[i]? = some v → cs[i]? = some p → Rep w (own κ) κ v p) (i : Nat) (p : PV) (hp : cs[i]? = some p) :
    ∃ v, vs[0 + i]? = some v ∧ Rep w (own κ) κ v p := by
  have hi : i < vs.size := by
    rw [hs]
    rcases Nat.lt_or_ge i cs.length with h | h
    · exact h
    · rw [List.getElem?_eq_none h] at hp; cases hp
  refine ⟨vs[i], by rw [Nat.zero_add]; exact Array.getElem?_eq_getElem hi, hr i _ p (Array.getElem?_eq_getElem hi) hp⟩

theorem eqA_sound {o : Oper} {neg : Bool} {t t' : TypeId} {x y : Operand} {fs : Array Field} {ks : List Nat} (ho : o.op = .binOp (if neg then .neq else .eql) t x y t') (ht : P.underlying t = some (.struct fs)) (h1 : P.stoodInHeld t = false) (h2 : P.eqGuardType P.depth t = false)
    (hf : eqKinds P 0 fs.toList = some ks) {ps : List PV} (hk : Known w κ ρ [x, y] ps) (hd : rdD μ (.eqA neg ks) ps) : RdOkA P w κ ρ o (rdV μ (.eqA neg ks) ps) := by
  obtain ⟨p, q, rfl, hp, hq⟩ := known2 hk
  cases p <;> cases q <;> simp only [rdD] at hd
  rename_i cs cs'
  obtain ⟨us, e, hs, hr⟩ := rep_agg hp
  obtain ⟨vs, e', hs', hr'⟩ := rep_agg hq
  have hfo : P.fieldsOf t = fs := by simp [Program.fieldsOf, ht]
  have hrun : ∀ w', (Op.equalIn 10000 t (.agg us) (.agg vs)).run P w' = .ok (eqC cs cs') w' := by
    intro w'
    rw [show (10000 : Nat) = 9999 + 1 from rfl, run_equalIn_agg w' 9999 t us vs (by rw [hfo]; exact ht) h1, hfo]
    exact eqFields_sound (d := 9998) hf hd (agg_at hs hr) (agg_at hs' hr') w'
  refine ⟨.bool (if neg then !eqC cs cs' else eqC cs cs'), .closed (.bool _), fun w' _ => ?_⟩
  cases neg
  · simp only [Bool.false_eq_true, if_false] at ho ⊢
    simp only [execOp, ho, Sem.run_bind, e, e', run_eqGuard_agg w' _ t x y us vs h2, Result.andThen_ok, run_eql_struct, hrun]
    rfl
  · simp only [if_true] at ho ⊢
    simp only [execOp, ho, Sem.run_bind, e, e', run_eqGuard_agg w' _ t x y us vs h2, Result.andThen_ok, run_neq_struct, hrun]
    rfl

def nilTy : Nat → TypeDesc → Prop
  | 0, .slice _ => True
  | 1, .map _ _ => True
  | 2, .func _ _ _ => True
  | 3, .pointer _ => True
  | _, _ => False
theorem nil_fin {t : TypeId} {x y : Operand} {u v : Value} {b : Bool} {w' : World} (h1 : ∀ op, (eqGuard op t x y u v).run P w' = .ok () w') (h2 : Go.binOp .eql t u v = (do pure (.bool (← Op.equal t u v)) : Sem Value))
    (h3 : Go.binOp .neq t u v = (do pure (.bool (!(← Op.equal t u v))) : Sem Value)) (h4 : ∀ d, (Op.equalIn (d + 1) t u v).run P w' = .ok b w') :
    (∀ op, (eqGuard op t x y u v).run P w' = .ok () w') ∧ (Go.binOp .eql t u v).run P w' = .ok (.bool b) w' ∧ (Go.binOp .neq t u v).run P w' = .ok (.bool (!b)) w' := by
  have h5 : (Op.equal t u v).run P w' = .ok b w' := h4 9999
  refine ⟨h1, ?_, ?_⟩
  · rw [h2, Sem.run_bind, h5]; rfl
  · rw [h3, Sem.run_bind, h5]; rfl
theorem eqIn_slice_some {w : World} (d : Nat) (t e : TypeId) (ad : Addr) (l c : Nat) (h : P.underlying t = some (.slice e)) :
    (Op.equalIn (d + 1) t (.slice (some ad) l c) (.slice none 0 0)).run P w = .ok false w := by
  simp [Op.equalIn, run_underlying h]
set_option maxHeartbeats 2000000 in
theorem nilEq_sound {o : Oper} {neg : Bool} {t t' : TypeId} {x y : Operand} {d : TypeDesc} {k : Nat} (ho : o.op = .binOp (if neg then .neq else .eql) t x y t') (ht : P.underlying t = some d) (hn : nilTy k d)
    {ps : List PV} (hk : Known w κ ρ [x, y] ps) (hd : rdD μ (.nilEq neg k) ps) : RdOkA P w κ ρ o (rdV μ (.nilEq neg k) ps) := by
  obtain ⟨p, q, rfl, hp, hq⟩ := known2 hk
  simp only [rdD] at hd
  simp only [rdV]
  generalize hb : nilB k p q = ob at hd ⊢
  cases ob with
  | none => exact hd.elim
  | some b =>
    simp only
    have key : ∀ w', (∀ op, (eqGuard op t x y (ρ x) (ρ y)).run P w' = .ok () w') ∧ (Go.binOp .eql t (ρ x) (ρ y)).run P w' = .ok (.bool b) w' ∧ (Go.binOp .neq t (ρ x) (ρ y)).run P w' = .ok (.bool (!b)) w' := by
      intro w'
      unfold nilB at hb
      split at hb <;> (try cases hb) <;> cases d <;> simp only [nilTy] at hn
      all_goals
        generalize ρ x = u at *
        generalize ρ y = v at *
        cases hq with
        | closed hq =>
          cases hq
          cases hp with
          | closed hp =>
            cases hp <;> first
              | (rename_i ha hc hr hfit
                 have hx := ha (List.cons_ne_nil _ _)
                 subst hx
                 exact nil_fin (fun op => by unfold eqGuard; cases op <;> rfl) rfl rfl (fun d => eqIn_slice_some d _ _ _ _ _ ht))
              | exact nil_fin (fun op => by unfold eqGuard; cases op <;> rfl) rfl rfl (fun d => by simp [Op.equalIn, run_underlying ht])
          | _ => exact nil_fin (fun op => by unfold eqGuard; cases op <;> rfl) rfl rfl (fun d => by simp [Op.equalIn, run_underlying ht])
    refine ⟨.bool (if neg then !b else b), .closed (.bool _), fun w' _ => ?_⟩
    obtain ⟨h1, h2, h3⟩ := key w'
    cases neg
    · simp only [Bool.false_eq_true, if_false] at ho ⊢
      simp only [execOp, ho, Sem.run_bind, h1, Result.andThen_ok, h2]
      rfl
    · simp only [if_true] at ho ⊢
      simp only [execOp, ho, Sem.run_bind, h1, Result.andThen_ok, h3]
      rfl

theorem eqB_sound {o : Oper} {neg : Bool} {t t' : TypeId} {x y : Operand} (ho : o.op = .binOp (if neg then .neq else .eql) t x y t') (ht : P.underlying t = some .bool)
    {ps : List PV} (hk : Known w κ ρ [x, y] ps) (hd : rdD μ (.eqB neg) ps) : RdOkA P w κ ρ o (rdV μ (.eqB neg) ps) := by
  obtain ⟨p, q, rfl, hp, hq⟩ := known2 hk
  cases p <;> cases q <;> simp only [rdD] at hd
  rename_i a b
  have e1 := repC_bool hp
  have e2 := repC_bool hq
  have hg : ∀ op w', (eqGuard op t x y (.bool a) (.bool b)).run P w' = .ok () w' := by
    intro op w'; unfold eqGuard; cases op <;> rfl
  have h5 : ∀ w', (Op.equal t (.bool a) (.bool b)).run P w' = .ok (decide (a = b)) w' := by
    intro w'
    have : (Op.equal t (.bool a) (.bool b)).run P w' = .ok (a == b) w' := run_equalIn_bool' w' _ _ _ _ ht
    rw [this]; congr 1
  refine ⟨.bool (if neg = true then !decide (a = b) else decide (a = b)), .closed (.bool _), fun w' _ => ?_⟩
  cases neg
  · simp only [Bool.false_eq_true, if_false] at ho ⊢
    simp only [execOp, ho, Sem.run_bind, e1, e2, hg, Result.andThen_ok, Go.binOp, h5, Sem.run_pure]
  · simp only [if_true] at ho ⊢
    simp only [execOp, ho, Sem.run_bind, e1, e2, hg, Result.andThen_ok, Go.binOp, h5, Sem.run_pure]

theorem un_sound {o : Oper} {op : UnOp} {t : TypeId} {x : Operand} (ho : o.op = .unOp op t x) {ps : List PV} (hk : Known w κ ρ [x] ps) (hd : rdD μ (.un op) ps) : RdOkA P w κ ρ o (rdV μ (.un op) ps) := by
  obtain ⟨p, rfl, hp⟩ := known1 hk
  cases op <;> cases p <;> simp only [rdD] at hd
  · rename_i k n
    have e := repC_int hp
    exact ⟨.int k (k.wrap (0 - n)), .closed (.int _ _), fun w' _ => by simp [execOp, ho, e, Op.unary, Op.intArith]⟩
  · rename_i b
    have e := repC_bool hp
    exact ⟨.bool (!b), .closed (.bool _), fun w' _ => by simp [execOp, ho, e, Op.unary]⟩

theorem conv_sound {o : Oper} {s d : TypeId} {x : Operand} {k j : IntKind} (ho : o.op = .convert s d x) (hs : P.underlying s = some (.int j)) (hdst : P.underlying d = some (.int k)) {ps : List PV}
    (hk : Known w κ ρ [x] ps) (hd : rdD μ (.conv k) ps) : RdOkA P w κ ρ o (rdV μ (.conv k) ps) := by
  obtain ⟨p, rfl, hp⟩ := known1 hk
  cases p <;> simp only [rdD] at hd
  rename_i k' n
  have e := repC_int hp
  exact ⟨.int k (k.wrap n), .closed (.int _ _), fun w' _ => by simp [execOp, ho, e, convert, run_underlying hs, run_underlying hdst, Conv.intToInt]⟩

theorem chr_sound {o : Oper} {s d : TypeId} {x : Operand} {j : IntKind} (ho : o.op = .convert s d x) (hs : P.underlying s = some (.int j)) (hdst : P.underlying d = some .string) {ps : List PV}
    (hk : Known w κ ρ [x] ps) (hd : rdD μ .chr ps) : RdOkA P w κ ρ o (rdV μ .chr ps) := by
  obtain ⟨p, rfl, hp⟩ := known1 hk
  cases p <;> simp only [rdD] at hd
  rename_i k' n
  have e := repC_int hp
  exact ⟨.string (Utf8.encode n), .closed (.str _), fun w' _ => by simp [execOp, ho, e, convert, run_underlying hs, run_underlying hdst, Conv.intToString]⟩

theorem strc_sound {o : Oper} {s d : TypeId} {x : Operand} (ho : o.op = .convert s d x) (hs : P.underlying s = some .string) (hdst : P.underlying d = some .string) {ps : List PV}
    (hk : Known w κ ρ [x] ps) (hd : rdD μ .strc ps) : RdOkA P w κ ρ o (rdV μ .strc ps) := by
  obtain ⟨p, rfl, hp⟩ := known1 hk
  cases p <;> simp only [rdD] at hd
  obtain ⟨b, e, rfl⟩ := repC_str hp
  exact ⟨.string b, .closed (.str b), fun w' _ => by simp [execOp, ho, e, convert, run_underlying hs, run_underlying hdst]⟩

theorem rep_list {v : Value} {sh : Sh} {xs : List PV} (h : Rep w (own κ) κ v (.list sh xs)) : RepC w (own κ) v (.list sh xs) := by
  cases h with | closed h => exact h

theorem lenS_sound {o : Oper} {t : TypeId} {ts : Array TypeId} {x : Operand} (ho : o.op = .call { callee := .builtin .len, args := #[x], argTypes := ts }) (hts : ts[0]? = some t) (ht : P.underlying t = some .string) {ps : List PV}
    (hk : Known w κ ρ [x] ps) (hd : rdD μ .lenS ps) : RdOkA P w κ ρ o (rdV μ .lenS ps) := by
  obtain ⟨p, rfl, hp⟩ := known1 hk
  cases p <;> simp only [rdD] at hd
  obtain ⟨b, e, rfl⟩ := repC_str hp
  exact ⟨.int .i64 b.size, .closed (.int _ _), fun w' _ => by simp [execOp, ho, e, resolve, invoke, builtin, Builtin.len_, hts, run_underlying ht, goInt]⟩

theorem rep_sl {v : Value} {sh : Sh} {t n : Nat} (h : Rep w (own κ) κ v (.sl sh t n)) :
    (∃ b cap, κ t = some (some b) ∧ v = .slice (some ⟨b, 0, none⟩) n cap ∧ n ≤ cap ∧ cap ≤ maxLen ∧ ∃ E, w.shape? b = some (E, cap * sh.size)) ∨ (κ t = some none ∧ n = 0 ∧ v = .slice none 0 0) := by
  cases h with
  | closed h => cases h
  | sl sh t n b cap h hs hl hm => exact .inl ⟨b, cap, h, rfl, hl, hm, hs⟩
  | slnil sh t h => exact .inr ⟨h, rfl, rfl⟩

theorem rep_nilSl {v : Value} (h : Rep w (own κ) κ v .nilSl) : v = .slice none 0 0 := by
  cases h with | closed h => cases h; rfl
theorem rep_nilMap {v : Value} (h : Rep w (own κ) κ v .nilMap) : v = .map none := by
  cases h with | closed h => cases h; rfl
theorem rep_list_inv {v : Value} {sh : Sh} {xs : List PV} (h : Rep w (own κ) κ v (.list sh xs)) :
    ∃ (a : Option Addr) (cap b off : Nat) (val : Nat → Value), v = .slice a xs.length cap ∧ xs.length ≤ cap ∧ cap ≤ maxLen ∧ (∀ x ∈ xs, fits sh x) ∧ (xs ≠ [] → a = some ⟨b, off, none⟩) ∧
      (∀ j, j < (flat xs).length → ¬ own κ b ∧ w.cell? ⟨b, off + j, none⟩ = some (val j)) ∧ ∀ (j : Nat) (p : PV), (flat xs)[j]? = some p → RepC w (own κ) (val j) p := by
  cases h with | closed h =>
    cases h with | list a len cap sh xs b off val hlen hcap hmax hfit ha hc hr =>
      subst hlen
      exact ⟨a, cap, b, off, val, rfl, hcap, hmax, hfit, ha, hc, hr⟩
theorem rep_cmap_inv {v : Value} {kd : KK} {es : List (PV × PV)} (h : Rep w (own κ) κ v (.cmap kd es)) :
    ∃ (r : Nat) (ents : Array MapEntry) (clock : Nat), v = .map (some r) ∧ r < w.heap.size ∧ ¬ own κ r ∧ w.heap[r]? = some (.map ents clock) ∧ ents.size = es.length ∧ Born ents clock ∧ (∀ q ∈ es, keyOk kd q.1 = true) ∧
      (∀ (i : Nat) (e : MapEntry) (q : PV × PV), ents[i]? = some e → es[i]? = some q → RepC w (own κ) e.key q.1) ∧
      (∀ (i : Nat) (e : MapEntry) (q : PV × PV), ents[i]? = some e → es[i]? = some q → RepC w (own κ) e.val q.2) := by
  cases h with | closed h =>
    cases h with | cmap r kd es ents clock hx h hs hb hkd hk hv =>
      have hlt : r < w.heap.size := by
        rcases Nat.lt_or_ge r w.heap.size with h' | h'
        · exact h'
        · simp [Array.getElem?_eq_none h'] at h
      exact ⟨r, ents, clock, rfl, hlt, hx, h, hs, hb, hkd, hk, hv⟩
theorem rep_mref_inv (hS : Sim w κ μ) {v : Value} {t : Nat} {kd : KK} {es : List (PV × PV)} (h : Rep w (own κ) κ v (.mref t)) (hg : μ.get t = some (.mp kd es)) :
    ∃ (r : Nat) (ents : Array MapEntry) (clock : Nat), v = .map (some r) ∧ κ t = some (some r) ∧ w.heap[r]? = some (.map ents clock) ∧ ents.size = es.length ∧ Born ents clock ∧ (∀ q ∈ es, keyOk kd q.1 = true) ∧
      (∀ (i : Nat) (e : MapEntry) (q : PV × PV), ents[i]? = some e → es[i]? = some q → RepC w (own κ) e.key q.1) ∧
      (∀ (i : Nat) (e : MapEntry) (q : PV × PV), ents[i]? = some e → es[i]? = some q → RepC w (own κ) e.val q.2) := by
  cases h with
  | closed h => cases h
  | mref t b hb =>
    obtain ⟨c, hc, hO⟩ := hS.at hg
    rw [hb] at hc; cases hc
    cases hO with
    | mp b kd es ents clock h hs hB hkd hk hv => exact ⟨b, ents, clock, rfl, hb, h, hs, hB, hkd, hk, hv⟩

theorem lt_of_block {b : Nat} {o : Obj} (h : w.heap[b]? = some o) : b < w.heap.size := by
  rcases Nat.lt_or_ge b w.heap.size with h' | h'
  · exact h'
  · simp [Array.getElem?_eq_none h'] at h

theorem rep_full_inv {v : Value} {sh : Sh} {xs : List PV} (h : Rep w (own κ) κ v (.full sh xs)) : ∃ a, v = .slice a xs.length xs.length := by
  cases h with | closed h =>
    cases h with | full a len sh xs b off val hlen => subst hlen; exact ⟨a, rfl⟩

theorem lenL_sound {o : Oper} {t e : TypeId} {ts : Array TypeId} {x : Operand} (ho : o.op = .call { callee := .builtin .len, args := #[x], argTypes := ts }) (hts : ts[0]? = some t) (ht : P.underlying t = some (.slice e)) {ps : List PV}
    (hk : Known w κ ρ [x] ps) (hd : rdD μ .lenL ps) : RdOkA P w κ ρ o (rdV μ .lenL ps) := by
  obtain ⟨p, rfl, hp⟩ := known1 hk
  have key : ∀ (a : Option Addr) (n c : Nat), ρ x = .slice a n c → RdOkA P w κ ρ o (.int .i64 n) := fun a n c e =>
    ⟨.int .i64 n, .closed (.int _ _), fun w' _ => by simp [execOp, ho, e, resolve, invoke, builtin, Builtin.len_, hts, run_underlying ht, goInt]⟩
  cases p <;> simp only [rdD] at hd
  · simpa [rdV] using key _ _ _ (rep_nilSl hp)
  · obtain ⟨a, cap, b, off, val, hv, -⟩ := rep_list_inv hp; exact key _ _ _ hv
  · obtain ⟨a, e⟩ := rep_full_inv hp; exact key _ _ _ e
  · rcases rep_sl hp with ⟨b, cap, -, e, -⟩ | ⟨-, rfl, e⟩
    · exact key _ _ _ e
    · exact key _ _ _ e

theorem lenM_sound (hS : Sim w κ μ) {o : Oper} {t k e : TypeId} {ts : Array TypeId} {x : Operand} (ho : o.op = .call { callee := .builtin .len, args := #[x], argTypes := ts }) (hts : ts[0]? = some t) (ht : P.underlying t = some (.map k e)) {ps : List PV}
    (hk : Known w κ ρ [x] ps) (hd : rdD μ .lenM ps) : RdOk P w κ ρ o (rdV μ .lenM ps) := by
  obtain ⟨p, rfl, hp⟩ := known1 hk
  have key : ∀ (r : Nat) (ents : Array MapEntry) (clock n : Nat), ρ x = .map (some r) → w.heap[r]? = some (.map ents clock) → ents.size = n → RdOk P w κ ρ o (.int .i64 n) := by
    intro r ents clock n hv h hs
    refine ⟨.int .i64 n, .closed (.int _ _), fun w' hw => ?_⟩
    have h2 : w'.heap[r]? = some (.map ents clock) := by rw [hw r (lt_of_block h)]; exact h
    simp [execOp, ho, hv, resolve, invoke, builtin, Builtin.len_, hts, run_underlying ht, goInt, getObj, Sem.run, h2, hs]
  cases p <;> simp only [rdD] at hd
  · have hv := rep_nilMap hp
    exact ⟨.int .i64 0, .closed (.int _ _), fun w' _ => by simp [execOp, ho, hv, resolve, invoke, builtin, Builtin.len_, hts, run_underlying ht, goInt]⟩
  · obtain ⟨r, ents, clock, hv, -, -, h, hs, -⟩ := rep_cmap_inv hp
    exact key r ents clock _ hv h hs
  · rename_i tag
    simp only [rdV]
    split at hd
    · rename_i kd es hg
      obtain ⟨r, ents, clock, hv, -, h, hs, -⟩ := rep_mref_inv hS hp hg
      exact key r ents clock _ hv h hs
    · exact hd.elim

theorem withIntP_inv {q : PV} {f : Int → Prop} (h : q.withIntP f) : ∃ k i, q = .int k i ∧ f i := by
  cases q <;> simp [PV.withIntP] at h
  exact ⟨_, _, rfl, h⟩

theorem idxS_sound {o : Oper} {t : TypeId} {x i : Operand} (ho : o.op = .index t x i) (ht : P.underlying t = some .string) {ps : List PV}
    (hk : Known w κ ρ [x, i] ps) (hd : rdD μ .idxS ps) : RdOkA P w κ ρ o (rdV μ .idxS ps) := by
  obtain ⟨p, q, rfl, hp, hq⟩ := known2 hk
  cases p <;> simp only [rdD] at hd
  obtain ⟨b, e, rfl⟩ := repC_str hp
  obtain ⟨k, n, rfl, hd⟩ := withIntP_inv hd
  have e2 := repC_int hq
  have h1 : n.toNat < b.data.toList.length := by omega
  have h2 : n.toNat < b.size := by simpa using h1
  refine ⟨.int .u8 (b.data.toList.getD n.toNat 0).toNat, .closed (.int _ _), fun w' _ => ?_⟩
  have h3 : b[n.toNat]? = some (b.data.toList.getD n.toNat 0) := by
    rw [List.getD_eq_getElem?_getD, List.getElem?_eq_getElem h1]
    simp only [Option.getD_some, Array.getElem_toList]
    rw [getElem?_pos b n.toNat h2]; rfl
  simp [execOp, ho, e, e2, Instr.index, asIntOf, run_underlying ht, hd.1, h3]

theorem idxA_sound {o : Oper} {t el : TypeId} {n : Nat} {sh : Sh} {x i : Operand} (ho : o.op = .index t x i) (ht : P.underlying t = some (.array n el)) (he : shOf P el = some sh) {ps : List PV}
    (hk : Known w κ ρ [x, i] ps) (hd : rdD μ (.idxA n sh) ps) : RdOkA P w κ ρ o (rdV μ (.idxA n sh) ps) := by
  obtain ⟨p, q, rfl, hp, hq⟩ := known2 hk
  cases p <;> simp only [rdD] at hd
  obtain ⟨k, n', rfl, hd⟩ := withIntP_inv hd
  obtain ⟨vs, e, hs, hr⟩ := rep_agg hp
  have e2 := repC_int hq
  obtain ⟨hsz, -, -⟩ := shOf_spec he
  obtain ⟨v, hv, hrun⟩ := sub_rep (P := P) hs hr he hd.2.2
  exact ⟨v, hv, fun w' _ => by simp [execOp, ho, e, e2, Instr.index, asIntOf, run_underlying ht, hd.1, hd.2.1, hsz, hrun]⟩

theorem slcS_sound {o : Oper} {t : TypeId} {x : Operand} {lo hi : Option Operand} (ho : o.op = .slice t x lo hi none) (ht : P.underlying t = some .string) {ps : List PV}
    (hk : Known w κ ρ (x :: (lo.toList ++ hi.toList)) ps) (hd : rdD μ (.slcS lo.isSome hi.isSome) ps) : RdOkA P w κ ρ o (rdV μ (.slcS lo.isSome hi.isSome) ps) := by
  cases lo with
  | none =>
    cases hi with
    | none =>
      obtain ⟨p, rfl, hp⟩ := known1 hk
      simp [rdD] at hd
    | some b =>
      obtain ⟨p, q, rfl, hp, hq⟩ := known2 hk
      cases p <;> simp only [rdD, Option.isSome] at hd
      obtain ⟨k, n, rfl, hd⟩ := withIntP_inv hd
      obtain ⟨s, e, rfl⟩ := repC_str hp
      have e2 := repC_int hq
      have hsz : n ≤ s.size := by simpa using hd.2
      refine ⟨.string (s.extract 0 n.toNat), ?_, fun w' _ => ?_⟩
      · have := RepC.str (w := w) (ex := own κ) (s.extract 0 n.toNat)
        simp only [ByteArray.data_extract, Array.toList_extract, List.extract_eq_take_drop, List.drop_zero, Nat.sub_zero] at this
        exact .closed this
      · simp [execOp, ho, e, e2, Instr.sliceAt, Instr.slice, run_underlying ht, Instr.sliceBounds, Instr.sliceBound, asIntOf, hd.1, hsz]
  | some a =>
    cases hi with
    | none =>
      obtain ⟨p, q, rfl, hp, hq⟩ := known2 hk
      cases p <;> simp only [rdD, Option.isSome] at hd
      obtain ⟨k, n, rfl, hd⟩ := withIntP_inv hd
      obtain ⟨s, e, rfl⟩ := repC_str hp
      have e2 := repC_int hq
      have hsz : n ≤ s.size := by simpa using hd.2
      refine ⟨.string (s.extract n.toNat s.size), ?_, fun w' _ => ?_⟩
      · have := RepC.str (w := w) (ex := own κ) (s.extract n.toNat s.size)
        simp only [ByteArray.data_extract, Array.toList_extract, List.extract_eq_take_drop] at this
        rw [List.take_of_length_le (by simp)] at this
        exact .closed this
      · simp [execOp, ho, e, e2, Instr.sliceAt, Instr.slice, run_underlying ht, Instr.sliceBounds, Instr.sliceBound, asIntOf, hd.1, hsz]
    | some b =>
      obtain ⟨p, q, r, rfl, hp, hq, hr⟩ := known3 hk
      cases p <;> simp only [rdD, Option.isSome] at hd
      obtain ⟨k, n, rfl, hd1⟩ := withIntP_inv hd
      clear hd
      obtain ⟨k', m, rfl, hd⟩ := withIntP_inv hd1
      obtain ⟨s, e, rfl⟩ := repC_str hp
      have e2 := repC_int hq
      have e3 := repC_int hr
      have hsz : m ≤ s.size := by simpa using hd.2.2
      have hm : 0 ≤ m := by omega
      have hnm : n ≤ Max.max m 0 := by omega
      refine ⟨.string (s.extract n.toNat m.toNat), ?_, fun w' _ => ?_⟩
      · have := RepC.str (w := w) (ex := own κ) (s.extract n.toNat m.toNat)
        simp only [ByteArray.data_extract, Array.toList_extract, List.extract_eq_take_drop] at this
        have e4 : (s.data.toList.drop n.toNat).take (m.toNat - n.toNat) = (s.data.toList.take m.toNat).drop n.toNat := by rw [List.drop_take]
        rw [e4] at this
        exact .closed this
      · simp [execOp, ho, e, e2, e3, Instr.sliceAt, Instr.slice, run_underlying ht, Instr.sliceBounds, Instr.sliceBound, asIntOf, hd.1, hsz, hm, hnm]


theorem idxAddrA_sound {o : Oper} {t el : TypeId} {n : Nat} {sh : Sh} {x i : Operand} (ho : o.op = .indexAddr t x i) (ht : P.underlying t = some (.array n el)) (he : shOf P el = some sh) {ps : List PV}
    (hk : Known w κ ρ [x, i] ps) (hd : rdD μ (.idxAddrA n sh) ps) : RdOkA P w κ ρ o (rdV μ (.idxAddrA n sh) ps) := by
  obtain ⟨p, q, rfl, hp, hq⟩ := known2 hk
  obtain ⟨hsz, -, -⟩ := shOf_spec he
  have key : ∀ (b off : Nat) (k : IntKind) (m : Int), ρ x = .pointer (some ⟨b, off, none⟩) → ρ i = .int k m → 0 ≤ m → m < n → ∀ w', (execOp ρ o).run P w' = .ok (.value (.pointer (some ⟨b, off + m.toNat * sh.size, none⟩))) w' := by
    intro b off k m e e2 h1 h2 w'
    simp [execOp, ho, e, e2, Instr.indexAt, asIntOf, Instr.sureAddr, asAddr, run_underlying ht, h1, h2, hsz, Addr.add_lit]
  generalize hvx : ρ x = vx at hp key
  cases p <;> simp only [rdD] at hd
  · rename_i sh' x' off
    obtain ⟨k, m, rfl, h1, h2, h3⟩ := withIntP_inv hd
    cases hp with
    | closed hp =>
    cases hp with
    | cptr b o0 _ _ _ val hfit hoff hc hr =>
      refine ⟨_, ?_, fun w' _ => key b (o0 + off) k m rfl (repC_int hq) h1 h2 w'⟩
      simp only [rdV, PV.withInt]
      rw [Nat.add_assoc]
      exact .closed (.cptr b o0 (off + m.toNat * sh.size) sh' x' val hfit h3 hc hr)
  · rename_i t' off
    obtain ⟨k, m, rfl, h1, h2⟩ := withIntP_inv hd
    cases hp with
    | closed hp => cases hp
    | ref _ _ b hb =>
      refine ⟨_, ?_, fun w' _ => key b off k m rfl (repC_int hq) h1 h2 w'⟩
      simp only [rdV, PV.withInt]
      exact .ref t' _ b hb
  · rename_i t' n' j off
    obtain ⟨k, m, rfl, h1, h2⟩ := withIntP_inv hd
    cases hp with
    | closed hp => cases hp
    | eptr _ _ _ _ b hb =>
      refine ⟨_, ?_, fun w' _ => key b (j * n' + off) k m rfl (repC_int hq) h1 h2 w'⟩
      simp only [rdV, PV.withInt]
      rw [Nat.add_assoc]
      exact .eptr t' n' j _ b hb

theorem idxAddr_sound {o : Oper} {t el : TypeId} {sh : Sh} {x i : Operand} (ho : o.op = .indexAddr t x i) (ht : P.underlying t = some (.slice el)) (he : shOf P el = some sh) {ps : List PV}
    (hk : Known w κ ρ [x, i] ps) (hd : rdD μ (.idxAddr sh) ps) : RdOkA P w κ ρ o (rdV μ (.idxAddr sh) ps) := by
  obtain ⟨p, q, rfl, hp, hq⟩ := known2 hk
  obtain ⟨hsz, -, -⟩ := shOf_spec he
  have key : ∀ (a : Addr) (n c : Nat) (k : IntKind) (m : Int), ρ x = .slice (some a) n c → ρ i = .int k m → 0 ≤ m → m < n → ∀ w', (execOp ρ o).run P w' = .ok (.value (.pointer (some (a.add (m.toNat * sh.size))))) w' := by
    intro a n c k m e e2 h1 h2 w'
    simp [execOp, ho, e, e2, Instr.indexAt, asIntOf, run_underlying ht, h1, h2, hsz]
  cases p <;> simp only [rdD] at hd
  · rename_i sh' xs
    obtain ⟨k, m, rfl, h1, h2, rfl⟩ := withIntP_inv hd
    obtain ⟨a, cap, b, off, val, hv, hcap, hmax, hfit, ha, hc, hr⟩ := rep_list_inv hp
    have hne : xs ≠ [] := by rintro rfl; simp at h2; omega
    rw [ha hne] at hv
    have hm : m.toNat < xs.length := by omega
    have hfx := hfit xs[m.toNat] (List.getElem_mem hm)
    have hget : xs.getD m.toNat .junk = xs[m.toNat] := by rw [List.getD_eq_getElem?_getD, List.getElem?_eq_getElem hm]; rfl
    refine ⟨.pointer (some ⟨b, off + m.toNat * sh'.size, none⟩), ?_, fun w' _ => by have := key _ _ _ _ _ hv (repC_int hq) h1 h2 w'; rwa [Addr.add_lit] at this⟩
    simp only [rdV, PV.withInt]
    rw [hget]
    have hin : ∀ j, j < xs[m.toNat].cells.length → m.toNat * sh'.size + j < (flat xs).length := by
      intro j hj
      rw [hfx.len] at hj
      rw [flat_length hfit]
      calc m.toNat * sh'.size + j < m.toNat * sh'.size + sh'.size := by omega
        _ = (m.toNat + 1) * sh'.size := by rw [Nat.add_mul]; omega
        _ ≤ xs.length * sh'.size := Nat.mul_le_mul_right _ (by omega)
    have hfg : ∀ j, j < xs[m.toNat].cells.length → (flat xs)[m.toNat * sh'.size + j]? = xs[m.toNat].cells[j]? := by
      intro j hj
      exact flat_get hfit m.toNat j _ (List.getElem?_eq_getElem hm) (by rw [← hfx.len]; exact hj)
    exact .closed (.cptr b (off + m.toNat * sh'.size) 0 sh' xs[m.toNat] (fun j => val (m.toNat * sh'.size + j)) hfx (Nat.zero_le _)
      (fun j hj => by have := hc _ (hin j hj); rw [← Nat.add_assoc] at this; exact this)
      (fun j r hj => by
        have hj' : j < xs[m.toNat].cells.length := by
          rcases Nat.lt_or_ge j xs[m.toNat].cells.length with h | h
          · exact h
          · rw [List.getElem?_eq_none h] at hj; cases hj
        exact hr _ r (by rw [hfg j hj']; exact hj)))
  · rename_i sh' tg n
    obtain ⟨k, m, rfl, h1, h2, rfl⟩ := withIntP_inv hd
    rcases rep_sl hp with ⟨b, cap, hb, hv, -⟩ | ⟨-, rfl, -⟩
    · refine ⟨_, ?_, fun w' _ => key _ _ _ _ _ hv (repC_int hq) h1 h2 w'⟩
      rw [Addr.add_lit]
      simp only [rdV, PV.withInt, Nat.zero_add]
      exact .eptr tg sh'.size m.toNat 0 b hb
    · simp at h2; omega

theorem fldAddr_sound {o : Oper} {t : TypeId} {fields : Array Field} {f : Field} {j : TypeInfo} {i : Nat} {x : Operand} (ho : o.op = .fieldAddr t x i) (ht : P.underlying t = some (.struct fields))
    (hf : fields[i]? = some f) (hj : P.info? f.type = some j) (hj0 : j.size ≠ 0) {ps : List PV} (hk : Known w κ ρ [x] ps) (hd : rdD μ (.fldAddr f.offset) ps) : RdOkA P w κ ρ o (rdV μ (.fldAddr f.offset) ps) := by
  obtain ⟨p, rfl, hp⟩ := known1 hk
  have key : ∀ (b off : Nat), ρ x = .pointer (some ⟨b, off, none⟩) → ∀ w', (execOp ρ o).run P w' = .ok (.value (.pointer (some ⟨b, off + f.offset, none⟩))) w' := by
    intro b off e w'
    simp [execOp, ho, e, Instr.fieldAt, run_underlying ht, hf, Instr.sureAddr, fieldPlace, Go.sizeOf, typeInfo, hj, hj0, Addr.add_lit]
  cases p <;> simp only [rdD] at hd
  · rename_i sh y off
    generalize hv : ρ x = v at hp
    cases hp with | closed hp =>
      cases hp with | cptr b o' off sh y val hfit hoff hc hr =>
        refine ⟨_, ?_, fun w' _ => key _ _ hv w'⟩
        rw [Nat.add_assoc]
        exact .closed (.cptr b o' (off + f.offset) sh y val hfit hd hc hr)
  · rename_i tg off
    generalize hv : ρ x = v at hp
    cases hp with
    | closed hp => cases hp
    | ref _ _ b hb => exact ⟨_, .ref tg (off + f.offset) b hb, fun w' _ => key _ _ hv w'⟩
  · rename_i tg n k off
    generalize hv : ρ x = v at hp
    cases hp with
    | closed hp => cases hp
    | eptr _ _ _ _ b hb =>
      refine ⟨_, ?_, fun w' _ => key _ _ hv w'⟩
      rw [Nat.add_assoc]
      exact .eptr tg n k (off + f.offset) b hb

theorem fld_sound {o : Oper} {t : TypeId} {fields : Array Field} {f : Field} {i : Nat} {x : Operand} {sh : Sh} (ho : o.op = .field t x i) (ht : P.underlying t = some (.struct fields))
    (hf : fields[i]? = some f) (hj : shOf P f.type = some sh) {ps : List PV} (hk : Known w κ ρ [x] ps) (hd : rdD μ (.fld f.offset sh) ps) : RdOkA P w κ ρ o (rdV μ (.fld f.offset sh) ps) := by
  obtain ⟨p, rfl, hp⟩ := known1 hk
  cases p <;> simp only [rdD] at hd
  obtain ⟨vs, e, hs, hr⟩ := rep_agg hp
  obtain ⟨v, hv, hrun⟩ := sub_rep (P := P) hs hr hj hd
  exact ⟨v, hv, fun w' _ => by simp [execOp, ho, e, Instr.field, run_underlying ht, hf, asAgg, hrun]⟩

theorem load_sound (hS : Sim w κ μ) {o : Oper} {t : TypeId} {x : Operand} {sh : Sh} (ho : o.op = .load t x) (ht : shOf P t = some sh) {ps : List PV} (hk : Known w κ ρ [x] ps) (hd : rdD μ (.load sh) ps) :
    RdOk P w κ ρ o (rdV μ (.load sh) ps) := by
  obtain ⟨p, rfl, hp⟩ := known1 hk
  simp only [rdD] at hd
  split at hd
  · rename_i sh' y off hb
    obtain ⟨hsh, b, o', hv, hc⟩ := behind_spec hS hp hb
    obtain ⟨v, hrv, hrun⟩ := load_run (P := P) ht hsh hc hd
    refine ⟨v, ?_, fun w' hw => by simp [execOp, ho, hv, Instr.loadAt, Instr.sureAddr, hrun w' hw]⟩
    simp only [rdV, hb]; exact hrv
  · exact hd.elim

theorem ext_sound {o : Oper} {i : Nat} {x : Operand} (ho : o.op = .extract x i) {ps : List PV} (hk : Known w κ ρ [x] ps) (hd : rdD μ (.ext i) ps) : RdOkA P w κ ρ o (rdV μ (.ext i) ps) := by
  obtain ⟨p, rfl, hp⟩ := known1 hk
  cases p <;> simp only [rdD] at hd
  rename_i vs
  obtain ⟨us, e, hs, hr⟩ := rep_tup hp
  have h1 : i < us.size := by omega
  refine ⟨us[i], ?_, fun w' _ => by simp [execOp, ho, e, Instr.extract, h1]⟩
  simp only [rdV]
  rw [List.getD_eq_getElem?_getD, List.getElem?_eq_getElem hd]
  exact hr i _ _ (Array.getElem?_eq_getElem h1) (List.getElem?_eq_getElem hd)

theorem mkFn_sound {o : Oper} {f : Nat} {first caps : Array Operand} (ho : o.op = .makeFunc (.func f) first caps) {ps : List PV} (hk : Known w κ ρ (first.toList ++ caps.toList) ps) (_hd : rdD μ (.mkFn f first.size) ps) :
    RdOkA P w κ ρ o (rdV μ (.mkFn f first.size) ps) := by
  obtain ⟨hl, h⟩ := hk
  simp only [List.length_append, Array.length_toList] at hl
  refine ⟨.func (.func f) (first.map ρ) (caps.map ρ), ?_, fun w' _ => by simp [execOp, ho, Instr.makeFunc]⟩
  simp only [rdV]
  refine .fn f _ _ _ _ (by simp; omega) (by simp; omega) (fun i v p hv hp => ?_) (fun i v p hv hp => ?_)
  · rw [Array.getElem?_map] at hv
    cases hx : first[i]? with
    | none => simp [hx] at hv
    | some x =>
      simp [hx] at hv; subst hv
      have hi : i < first.size := by
        rcases Nat.lt_or_ge i first.size with h' | h'
        · exact h'
        · rw [Array.getElem?_eq_none h'] at hx; cases hx
      rw [List.getElem?_take_of_lt hi] at hp
      exact h i x p (by rw [List.getElem?_append_left (by simpa using hi)]; simpa using hx) hp
  · rw [Array.getElem?_map] at hv
    cases hx : caps[i]? with
    | none => simp [hx] at hv
    | some x =>
      simp [hx] at hv; subst hv
      rw [List.getElem?_drop] at hp
      refine h (first.size + i) x p ?_ hp
      rw [List.getElem?_append_right (by simp)]
      simpa using hx

theorem min_sound {o : Oper} {x y : Operand} {ts : Array TypeId} (ho : o.op = .call { callee := .builtin .min, args := #[x, y], argTypes := ts }) {ps : List PV} (hk : Known w κ ρ [x, y] ps) (hd : rdD μ .min ps) :
    RdOkA P w κ ρ o (rdV μ .min ps) := by
  obtain ⟨p, q, rfl, hp, hq⟩ := known2 hk
  cases p <;> simp only [rdD] at hd
  rename_i k a
  obtain ⟨k', b, rfl, -⟩ := withIntP_inv hd
  have e1 := repC_int hp
  have e2 := repC_int hq
  refine ⟨.int k (if b < a then b else a), ?_, fun w' _ => by simp [execOp, ho, e1, e2, resolve, invoke, builtin, Builtin.min_, Builtin.min2]⟩
  simp only [rdV, PV.withInt]
  have : min a b = if b < a then b else a := by split <;> omega
  rw [this]; exact .closed (.int _ _)

theorem max_sound {o : Oper} {x y : Operand} {ts : Array TypeId} (ho : o.op = .call { callee := .builtin .max, args := #[x, y], argTypes := ts }) {ps : List PV} (hk : Known w κ ρ [x, y] ps) (hd : rdD μ .max ps) :
    RdOkA P w κ ρ o (rdV μ .max ps) := by
  obtain ⟨p, q, rfl, hp, hq⟩ := known2 hk
  cases p <;> simp only [rdD] at hd
  rename_i k a
  obtain ⟨k', b, rfl, -⟩ := withIntP_inv hd
  have e1 := repC_int hp
  have e2 := repC_int hq
  refine ⟨.int k (if b > a then b else a), ?_, fun w' _ => by simp [execOp, ho, e1, e2, resolve, invoke, builtin, Builtin.max_, Builtin.max2]⟩
  simp only [rdV, PV.withInt]
  have : max a b = if b > a then b else a := by split <;> omega
  rw [this]; exact .closed (.int _ _)

theorem nilChk_sound {o : Oper} {x : Operand} (ho : o.op = .nilCheck x) {ps : List PV} (hk : Known w κ ρ [x] ps) (hd : rdD μ .nilChk ps) : RdOkA P w κ ρ o (rdV μ .nilChk ps) := by
  obtain ⟨p, rfl, hp⟩ := known1 hk
  refine ⟨ρ x, by cases p <;> simp only [rdD] at hd <;> exact hp, fun w' _ => ?_⟩
  cases p <;> simp only [rdD] at hd <;> generalize hv : ρ x = v at hp
  · cases hp with
    | closed hp => cases hp; simp [execOp, ho, hv]
    | fn => simp [execOp, ho, hv]
  · cases hp with | closed hp => cases hp; simp [execOp, ho, hv]
  · cases hp with
    | closed hp => cases hp
    | ref => simp [execOp, ho, hv]
  · cases hp with
    | closed hp => cases hp
    | eptr => simp [execOp, ho, hv]


theorem mapM_rep {ex : Nat → Prop} : ∀ {vs : List Value} {ps : List PV}, vs.mapM PV.ofVal = some ps → vs.length = ps.length ∧ ∀ (i : Nat) (v : Value) (p : PV), vs[i]? = some v → ps[i]? = some p → RepC w ex v p
  | [], ps, h => by simp at h; subst h; exact ⟨rfl, fun i v p h => by simp at h⟩
  | v :: vs, ps, h => by
    simp only [List.mapM_cons, Option.bind_eq_bind, Option.bind_eq_some_iff] at h
    obtain ⟨p, hp, qs, hq, h⟩ := h
    simp at h; subst h
    obtain ⟨h1, h2⟩ := mapM_rep (ex := ex) hq
    refine ⟨by simp [h1], fun i v' p' hv hp' => ?_⟩
    cases i with
    | zero => simp at hv hp'; subst hv; subst hp'; exact PV.ofVal_rep hp
    | succ i => exact h2 i v' p' (by simpa using hv) (by simpa using hp')

theorem mapM_get {α β : Type} {f : α → Option β} : ∀ {xs : List α} {ys : List β}, xs.mapM f = some ys → xs.map f = ys.map some
  | [], ys, h => by simp at h; subst h; rfl
  | x :: xs, ys, h => by
    simp only [List.mapM_cons, Option.bind_eq_bind, Option.bind_eq_some_iff] at h
    obtain ⟨y, hy, zs, hz, h⟩ := h
    simp at h; subst h
    simp [hy, mapM_get hz]

theorem build_sound {o : Oper} {t : TypeId} {parts : Array (Nat × Operand)} {zero : List PV} {offs : List (Nat × Nat)} (ho : o.op = .build t parts) (hz : zerosOf P t = some zero)
    (hpl : placesOf P t parts.toList = some offs) {ps : List PV} (hk : Known w κ ρ (parts.toList.map (·.2)) ps) (hd : rdD μ (.build zero offs) ps) : RdOkA P w κ ρ o (rdV μ (.build zero offs) ps) := by
  simp only [zerosOf, Option.bind_eq_some_iff] at hz
  obtain ⟨i, hi, z, hzz, hm⟩ := hz
  obtain ⟨hzl, hzr⟩ := mapM_rep (w := w) (ex := own κ) hm
  have hlen : (parts.toList.map fun x => (x.1, ρ x.2)).length = ps.length := by simpa using hk.1
  have hkn : ∀ (i : Nat) (x : Nat × Value) (p : PV), (parts.toList.map fun x => (x.1, ρ x.2))[i]? = some x → ps[i]? = some p → Rep w (own κ) κ x.2 p := by
    intro i x p hx hp
    rw [List.getElem?_map] at hx
    cases hy : parts.toList[i]? with
    | none => simp [hy] at hx
    | some y =>
      simp [hy] at hx; subst hx
      exact hk.2 i y.2 p (by rw [List.getElem?_map, hy]; rfl) hp
  have hzero : ∀ w', (zeroValue t).run P w' = .ok z w' := fun w' => by simp [zeroValue, typeInfo, hi, hzz]
  have fin : ∀ (place : Nat → Option (Nat × Nat)), (parts.toList.map fun x => place x.1) = offs.map some →
      (∀ w', (Instr.build t (parts.map fun x => (x.1, ρ x.2))).run P w' = ((match Instr.fill place z.cells (parts.toList.map fun x => (x.1, ρ x.2)) with | some cs => pure (.agg cs) | none => stuck "build: no such field, or a part of the wrong size" : Sem Value).run P w') ∨
       (Instr.build t (parts.map fun x => (x.1, ρ x.2))).run P w' = ((match Instr.fill place z.cells (parts.toList.map fun x => (x.1, ρ x.2)) with | some cs => pure (.agg cs) | none => stuck "build: a part of the wrong size" : Sem Value).run P w')) →
      RdOkA P w κ ρ o (rdV μ (.build zero offs) ps) := by
    intro place hpp hrun
    obtain ⟨arr', h1, h2, h3⟩ := fill_rep (w := w) (κ := κ) place _ offs ps z.cells zero (by simpa [Function.comp_def] using hpp) hlen hkn (by simpa using hzl) (fun i v p a b => .closed (hzr i v p (by simpa using a) b)) hd
    refine ⟨.agg arr', .agg arr' _ h2 h3, fun w' _ => ?_⟩
    have hr := hrun w'
    rw [h1] at hr
    simp only [or_self] at hr
    simp [execOp, ho, hr]
  unfold placesOf at hpl
  split at hpl
  · rename_i fields hu
    simp only [Option.bind_eq_some_iff] at hpl
    obtain ⟨places, hpl1, hpl2⟩ := hpl
    have hpm := mapM_get hpl2
    have hp1 : ∀ w', (fields.mapM (fun (f : Field) => (do pure (f.offset, ← Go.sizeOf f.type) : Sem (Nat × Nat)))).run P w' = .ok places.toArray w' := by
      intro w'
      have := run_places (P := P) w' fields.toList places hpl1
      simp [Array.mapM_eq_mapM_toList, this]
    refine fin (places[·]?) hpm (fun w' => .inl ?_)
    simp only [Instr.build, Sem.run_bind, hzero, Result.andThen_ok, run_underlying hu, hp1, Array.toList_map, List.getElem?_toArray]
    cases Instr.fill (places[·]?) z.cells (parts.toList.map fun x => (x.1, ρ x.2)) <;> rfl
  · rename_i n e hu
    simp only [Option.bind_eq_some_iff, Option.some.injEq] at hpl
    obtain ⟨j, hj, rfl⟩ := hpl
    refine fin (fun i => some (i * j.size, j.size)) (by simp [Function.comp_def]) (fun w' => .inr ?_)
    have hs : ∀ w', (Go.sizeOf e).run P w' = .ok j.size w' := fun w' => by simp [Go.sizeOf, typeInfo, hj]
    simp only [Instr.build, Sem.run_bind, hzero, Result.andThen_ok, run_underlying hu, hs, Array.toList_map]
    cases Instr.fill (fun i => some (i * j.size, j.size)) z.cells (parts.toList.map fun x => (x.1, ρ x.2)) <;> rfl
  · cases hpl


/-! ### Parts of slices -/
theorem flat_drop {sh : Sh} : ∀ {xs : List PV}, (∀ x ∈ xs, fits sh x) → ∀ k, PG.flat (xs.drop k) = (PG.flat xs).drop (k * sh.size)
  | [], _, k => by simp [PG.flat]
  | y :: xs, h, k => by
    have h1 := (h y (by simp)).len
    cases k with
    | zero => simp [PG.flat]
    | succ k =>
      have := flat_drop (sh := sh) (xs := xs) (fun y hy => h y (by simp [hy])) k
      simp only [PG.flat, List.drop_succ_cons, List.flatMap_cons] at *
      have e : (k + 1) * sh.size = y.cells.length + k * sh.size := by rw [h1, Nat.add_mul]; omega
      rw [this, e, List.drop_length_add_append]

theorem part_cells {ex : Nat → Prop} {a : Option Addr} {sh : Sh} {xs : List PV} {b off : Nat} {val : Nat → Value} {l h m : Nat} (hlh : l ≤ h) (hhm : h ≤ m) (hfit : ∀ x ∈ xs, fits sh x) (ha : xs ≠ [] → a = some ⟨b, off, none⟩)
    (hc : ∀ j, j < (PG.flat xs).length → ¬ ex b ∧ w.cell? ⟨b, off + j, none⟩ = some (val j)) (hr : ∀ (j : Nat) (p : PV), (PG.flat xs)[j]? = some p → RepC w ex (val j) p) :
    (∀ x ∈ (xs.take h).drop l, fits sh x) ∧ ((xs.take h).drop l ≠ [] → (if m = l then a else a.map fun q => q.add (l * sh.size)) = some ⟨b, off + l * sh.size, none⟩) ∧
      (∀ j, j < (PG.flat ((xs.take h).drop l)).length → ¬ ex b ∧ w.cell? ⟨b, off + l * sh.size + j, none⟩ = some (val (l * sh.size + j))) ∧
      ∀ (j : Nat) (p : PV), (PG.flat ((xs.take h).drop l))[j]? = some p → RepC w ex (val (l * sh.size + j)) p := by
  have hft : ∀ x ∈ xs.take h, fits sh x := fun x hx => hfit x (List.mem_of_mem_take hx)
  have e : PG.flat ((xs.take h).drop l) = ((PG.flat xs).take (h * sh.size)).drop (l * sh.size) := by rw [flat_drop hft, flat_take hfit]
  refine ⟨fun x hx => hft x (List.mem_of_mem_drop hx), fun hne => ?_, fun j hj => ?_, fun j p hp => ?_⟩
  · have hx : xs ≠ [] := by rintro rfl; simp at hne
    have hml : m ≠ l := by
      intro hml
      apply hne
      apply List.drop_eq_nil_of_le
      simp; omega
    rw [if_neg hml, ha hx]
    simp only [Option.map_some, Addr.add]
    split
    · rename_i h0; rw [h0]; rfl
    · rfl
  · rw [e, List.length_drop, List.length_take] at hj
    rw [Nat.add_assoc]
    exact hc _ (by omega)
  · rw [e, List.getElem?_drop] at hp
    have hlt := (List.getElem?_eq_some_iff.1 hp).1
    rw [List.length_take] at hlt
    rw [List.getElem?_take_of_lt (by omega)] at hp
    exact hr _ p hp

theorem list_part {ex : Nat → Prop} {a : Option Addr} {sh : Sh} {xs : List PV} {n cap l h m : Nat} (hlh : l ≤ h) (hhm : h ≤ m) (hx : h ≤ xs.length) (hmc : m ≤ cap) (hR : RepC w ex (.slice a n cap) (.list sh xs)) :
    RepC w ex (.slice (if m = l then a else a.map fun q => q.add (l * sh.size)) (h - l) (m - l)) (.list sh ((xs.take h).drop l)) := by
  cases hR with
  | list a len cap sh xs b off val hlen hcap hmax hfit ha hc hr =>
    obtain ⟨h1, h2, h3, h4⟩ := part_cells hlh hhm hfit ha hc hr
    exact .list _ _ _ sh _ b (off + l * sh.size) (fun j => val (l * sh.size + j)) (by simp; omega) (by omega) (by omega) h1 h2 h3 h4
theorem full_part {ex : Nat → Prop} {a : Option Addr} {sh : Sh} {xs : List PV} {n cap l h : Nat} (hlh : l ≤ h) (hx : h ≤ xs.length) (hmc : h ≤ cap) (hR : RepC w ex (.slice a n cap) (.list sh xs)) :
    RepC w ex (.slice (if h = l then a else a.map fun q => q.add (l * sh.size)) (h - l) (h - l)) (.full sh ((xs.take h).drop l)) := by
  cases hR with
  | list a len cap sh xs b off val hlen hcap hmax hfit ha hc hr =>
    obtain ⟨h1, h2, h3, h4⟩ := part_cells hlh (Nat.le_refl h) hfit ha hc hr
    exact .full _ _ sh _ b (off + l * sh.size) (fun j => val (l * sh.size + j)) (by simp; omega) (by omega) h1 h2 h3 h4

/-- What a slice of a slice comes to, where the bounds are known. -/
theorem slc_core {t e : TypeId} {sh : Sh} (ht : P.underlying t = some (.slice e)) (he : shOf P e = some sh) {v : Value} {p : PV} (hp : Rep w (own κ) κ v p) {a b : Int} (hd : slcD sh p a b) (lo hi : Option Value)
    (hlo : (∃ k, lo = some (.int k a)) ∨ (lo = none ∧ a = 0)) (hhi : (∃ k, hi = some (.int k b)) ∨ (hi = none ∧ b = lenV p)) :
    ∃ r, Rep w (own κ) κ r (slcV p a b) ∧ ∀ w', (Instr.slice t v lo hi none).run P w' = .ok r w' := by
  have hsz := (shOf_spec he).1
  have run : ∀ (A : Option Addr) (n c : Nat), v = .slice A n c → 0 ≤ a → a ≤ b → b ≤ n → n ≤ c → (hi = none → b = n) → ∀ w', (Instr.slice t v lo hi none).run P w' = .ok (.slice (if c = a.toNat then A else A.map fun q => q.add (a.toNat * sh.size)) (b.toNat - a.toNat) (c - a.toNat)) w' := by
    intro A n c hv h0 hab hbn hnc hnone w'
    subst hv
    have hbc : b ≤ c := by omega
    rcases hlo with ⟨k, rfl⟩ | ⟨rfl, rfl⟩ <;> rcases hhi with ⟨k', rfl⟩ | ⟨rfl, hb⟩
    · simp [Instr.slice, run_underlying ht, Instr.sliceBounds, Instr.sliceBound, asIntOf, h0, hbc, hsz, show 0 ≤ b by omega]
      intro hh; omega
    · have e : b.toNat = n := by have := hnone rfl; omega
      simp [Instr.slice, run_underlying ht, Instr.sliceBounds, Instr.sliceBound, asIntOf, h0, hsz, e, show a ≤ (n : Int) by omega]
    · simp [Instr.slice, run_underlying ht, Instr.sliceBounds, Instr.sliceBound, asIntOf, hbc, hsz, show 0 ≤ b by omega]
    · have e : b.toNat = n := by have := hnone rfl; omega
      simp [Instr.slice, run_underlying ht, Instr.sliceBounds, Instr.sliceBound, asIntOf, hsz, e]
  cases p <;> simp only [slcD] at hd
  · obtain ⟨rfl, rfl⟩ := hd
    have hv := rep_nilSl hp
    refine ⟨_, .closed ?_, run none 0 0 hv (by omega) (by omega) (by omega) (by omega) (fun _ => rfl)⟩
    simp only [slcV]
    exact .nilSl
  · rename_i sh' xs
    obtain ⟨rfl, h0, hab, hbx⟩ := hd
    obtain ⟨A, cap, b', off, val, hv, hcap, -⟩ := rep_list_inv hp
    refine ⟨_, .closed ?_, run A xs.length cap hv h0 hab hbx hcap (fun hn => by rcases hhi with ⟨k, hk⟩ | ⟨-, hb⟩; rw [hn] at hk; cases hk; simpa [lenV] using hb)⟩
    simp only [slcV]
    rw [hv] at hp
    exact list_part (n := xs.length) (by omega) (by omega) (by omega) (Nat.le_refl cap) (rep_list hp)
  · rename_i sh' t' n
    obtain ⟨rfl, rfl, h0, hbn⟩ := hd
    rcases rep_sl hp with ⟨bk, cap, hk, hv, hnc, hm, E, hs⟩ | ⟨hk, rfl, hv⟩
    · refine ⟨_, ?_, run (some ⟨bk, 0, none⟩) n cap hv (by omega) h0 hbn hnc (fun hn => by rcases hhi with ⟨k, hk⟩ | ⟨-, hb⟩; rw [hn] at hk; cases hk; simpa [lenV] using hb)⟩
      simp only [slcV]
      have : (if cap = (0 : Int).toNat then (some ⟨bk, 0, none⟩ : Option Addr) else (some ⟨bk, 0, none⟩ : Option Addr).map fun q => q.add ((0 : Int).toNat * sh'.size)) = some ⟨bk, 0, none⟩ := by
        split
        · rfl
        · simp [Addr.add]
      rw [this]
      exact .sl sh' t' b.toNat bk cap hk ⟨E, hs⟩ (by omega) hm
    · have hb : b = 0 := by omega
      subst hb
      refine ⟨_, ?_, run none 0 0 hv (by omega) (by omega) (by omega) (by omega) (fun _ => rfl)⟩
      simp only [slcV]
      exact .slnil sh' t' hk

theorem full_core {t e : TypeId} {sh : Sh} (ht : P.underlying t = some (.slice e)) (he : shOf P e = some sh) {v : Value} {p : PV} (hp : Rep w (own κ) κ v p) {a b m : Int} (hd : fullD sh p a b m) (lo : Option Value) (k' k'' : IntKind)
    (hlo : (∃ k, lo = some (.int k a)) ∨ (lo = none ∧ a = 0)) :
    ∃ r, Rep w (own κ) κ r (fullV p a b m) ∧ ∀ w', (Instr.slice t v lo (some (.int k' b)) (some (.int k'' m))).run P w' = .ok r w' := by
  have hsz := (shOf_spec he).1
  have run : ∀ (A : Option Addr) (n c : Nat), v = .slice A n c → 0 ≤ a → a ≤ b → b ≤ m → m ≤ c → ∀ w', (Instr.slice t v lo (some (.int k' b)) (some (.int k'' m))).run P w' = .ok (.slice (if m.toNat = a.toNat then A else A.map fun q => q.add (a.toNat * sh.size)) (b.toNat - a.toNat) (m.toNat - a.toNat)) w' := by
    intro A n c hv h0 hab hbm hmc w'
    subst hv
    have hm0 : 0 ≤ m := by omega
    have hb0 : 0 ≤ b := by omega
    have hbm' : b ≤ max m 0 := by omega
    have hab' : a ≤ max b 0 := by omega
    rcases hlo with ⟨k, rfl⟩ | ⟨rfl, rfl⟩
    · simp [Instr.slice, run_underlying ht, Instr.sliceBounds, Instr.sliceBound, asIntOf, h0, hab, hab', hbm, hbm', hmc, hm0, hb0, hsz]
    · simp [Instr.slice, run_underlying ht, Instr.sliceBounds, Instr.sliceBound, asIntOf, hbm, hbm', hmc, hm0, hb0, hsz]
  cases p <;> simp only [fullD] at hd
  · obtain ⟨rfl, rfl, rfl⟩ := hd
    have hv := rep_nilSl hp
    refine ⟨_, .closed ?_, run none 0 0 hv (by omega) (by omega) (by omega) (by omega)⟩
    simp only [fullV]
    exact .nilSl
  · rename_i sh' xs
    obtain ⟨rfl, h0, hab, hbm, hmx⟩ := hd
    obtain ⟨A, cap, b', off, val, hv, hcap, -⟩ := rep_list_inv hp
    rw [hv] at hp
    refine ⟨_, ?_, run A xs.length cap hv h0 hab hbm (by omega)⟩
    simp only [fullV]
    by_cases hmb : m = b
    · rw [if_pos hmb]
      subst hmb
      exact .closed (full_part (n := xs.length) (by omega) (by omega) (by omega) (rep_list hp))
    · rw [if_neg hmb]
      exact .closed (list_part (n := xs.length) (cap := cap) (by omega) (by omega) (by omega) (by omega) (rep_list hp))

theorem known4 {x y z u : Operand} {ps : List PV} (h : Known w κ ρ [x, y, z, u] ps) :
    ∃ p q r s, ps = [p, q, r, s] ∧ Rep w (own κ) κ (ρ x) p ∧ Rep w (own κ) κ (ρ y) q ∧ Rep w (own κ) κ (ρ z) r ∧ Rep w (own κ) κ (ρ u) s := by
  obtain ⟨hl, h⟩ := h
  match ps, hl with
  | [p, q, r, s], _ => exact ⟨p, q, r, s, rfl, h 0 x p rfl rfl, h 1 y q rfl rfl, h 2 z r rfl rfl, h 3 u s rfl rfl⟩

theorem slc2_sound {o : Oper} {t e : TypeId} {sh : Sh} {x : Operand} {lo hi : Option Operand} (ho : o.op = .slice t x lo hi none) (ht : P.underlying t = some (.slice e)) (he : shOf P e = some sh) {ps : List PV}
    (hk : Known w κ ρ (x :: (lo.toList ++ hi.toList)) ps) (hd : rdD μ (.slc sh lo.isSome hi.isSome false) ps) : RdOkA P w κ ρ o (rdV μ (.slc sh lo.isSome hi.isSome false) ps) := by
  cases lo with
  | none =>
    cases hi with
    | none =>
      obtain ⟨p, rfl, hp⟩ := known1 hk
      simp [rdD] at hd
    | some b =>
      obtain ⟨p, q, rfl, hp, hq⟩ := known2 hk
      simp only [rdD, Option.isSome] at hd
      obtain ⟨k, n, rfl, hd1⟩ := withIntP_inv hd
      have e2 := repC_int hq
      obtain ⟨r, hr, hrun⟩ := slc_core ht he hp hd1 none (some (.int k n)) (.inr ⟨rfl, rfl⟩) (.inl ⟨k, rfl⟩)
      refine ⟨r, hr, fun w' _ => ?_⟩
      simp [execOp, ho, e2, Instr.sliceAt, run_underlying ht, hrun]
  | some a =>
    cases hi with
    | none =>
      obtain ⟨p, q, rfl, hp, hq⟩ := known2 hk
      simp only [rdD, Option.isSome] at hd
      obtain ⟨k, n, rfl, hd1⟩ := withIntP_inv hd
      have e2 := repC_int hq
      obtain ⟨r, hr, hrun⟩ := slc_core ht he hp hd1 (some (.int k n)) none (.inl ⟨k, rfl⟩) (.inr ⟨rfl, rfl⟩)
      refine ⟨r, hr, fun w' _ => ?_⟩
      simp [execOp, ho, e2, Instr.sliceAt, run_underlying ht, hrun]
    | some b =>
      obtain ⟨p, q, q', rfl, hp, hq, hq'⟩ := known3 hk
      simp only [rdD, Option.isSome] at hd
      obtain ⟨k, n, rfl, hd1⟩ := withIntP_inv hd
      obtain ⟨k', n', rfl, hd2⟩ := withIntP_inv hd1
      have e2 := repC_int hq
      have e3 := repC_int hq'
      obtain ⟨r, hr, hrun⟩ := slc_core ht he hp hd2 (some (.int k n)) (some (.int k' n')) (.inl ⟨k, rfl⟩) (.inl ⟨k', rfl⟩)
      refine ⟨r, hr, fun w' _ => ?_⟩
      simp [execOp, ho, e2, e3, Instr.sliceAt, run_underlying ht, hrun]
theorem slc3_sound {o : Oper} {t e : TypeId} {sh : Sh} {x b c : Operand} {lo : Option Operand} (ho : o.op = .slice t x lo (some b) (some c)) (ht : P.underlying t = some (.slice e)) (he : shOf P e = some sh) {ps : List PV}
    (hk : Known w κ ρ (x :: (lo.toList ++ [b, c])) ps) (hd : rdD μ (.slc sh lo.isSome true true) ps) : RdOkA P w κ ρ o (rdV μ (.slc sh lo.isSome true true) ps) := by
  cases lo with
  | none =>
    obtain ⟨p, q, q', rfl, hp, hq, hq'⟩ := known3 hk
    simp only [rdD, Option.isSome] at hd
    obtain ⟨k, n, rfl, hd1⟩ := withIntP_inv hd
    obtain ⟨k', n', rfl, hd2⟩ := withIntP_inv hd1
    have e2 := repC_int hq
    have e3 := repC_int hq'
    obtain ⟨r, hr, hrun⟩ := full_core ht he hp hd2 none k k' (.inr ⟨rfl, rfl⟩)
    refine ⟨r, hr, fun w' _ => ?_⟩
    simp [execOp, ho, e2, e3, Instr.sliceAt, run_underlying ht, hrun]
  | some a =>
    obtain ⟨p, q, q', q'', rfl, hp, hq, hq', hq''⟩ := known4 hk
    simp only [rdD, Option.isSome] at hd
    obtain ⟨k, n, rfl, hd1⟩ := withIntP_inv hd
    obtain ⟨k', n', rfl, hd2⟩ := withIntP_inv hd1
    obtain ⟨k'', n'', rfl, hd3⟩ := withIntP_inv hd2
    have e2 := repC_int hq
    have e3 := repC_int hq'
    have e4 := repC_int hq''
    obtain ⟨r, hr, hrun⟩ := full_core ht he hp hd3 (some (.int k n)) k' k'' (.inl ⟨k, rfl⟩)
    refine ⟨r, hr, fun w' _ => ?_⟩
    simp [execOp, ho, e2, e3, e4, Instr.sliceAt, run_underlying ht, hrun]

/-! ### Reading maps -/
def kkTy : KK → TypeDesc → Prop
  | .int k, .int k' => k' = k
  | .str, .string => True
  | .bool, .bool => True
  | _, _ => False
theorem kkOf_spec {k : TypeId} {kd : KK} (h : kkOf P k = some kd) : ∃ d, P.underlying k = some d ∧ kkTy kd d := by
  unfold kkOf at h
  split at h <;> simp at h <;> subst h
  · rename_i j hj; exact ⟨.int j, hj, rfl⟩
  · rename_i hj; exact ⟨.string, hj, trivial⟩
  · rename_i hj; exact ⟨.bool, hj, trivial⟩
theorem key_isKey {ex : Nat → Prop} {kd : KK} {d : TypeDesc} (hd : kkTy kd d) {v : Value} {p : PV} (h : RepC w ex v p) (hk : keyOk kd p = true) : MapKept.IsKey d v := by
  cases kd <;> cases d <;> simp only [kkTy] at hd <;> cases p <;> simp [keyOk] at hk <;> cases h <;> simp_all [MapKept.IsKey]
theorem key_eq {ex : Nat → Prop} {kd : KK} {d : TypeDesc} (hd : kkTy kd d) {u v : Value} {p q : PV} (hu : RepC w ex u p) (hv : RepC w ex v q) (hp : keyOk kd p = true) (hq : keyOk kd q = true) : Instr.sameNow d u v = some (keyEq q p) := by
  cases kd <;> cases d <;> simp only [kkTy] at hd <;> cases p <;> simp [keyOk] at hp <;> cases q <;> simp [keyOk] at hq <;> cases hu <;> cases hv <;> simp only [Instr.sameNow, keyEq]
  · subst hd; subst hp; subst hq
    rw [if_pos rfl]; congr 1; rw [Bool.eq_iff_iff]; simp; exact ⟨fun h => h.symm, fun h => h.symm⟩
  · congr 1; rw [Bool.eq_iff_iff, MapKept.bytes_beq, decide_eq_true_eq]
    rename_i a b
    exact ⟨fun h => by rw [h], fun h => by exact (ByteArray.ext (Array.ext' h.symm))⟩
  · congr 1; rw [Bool.eq_iff_iff]; simp; exact ⟨fun h => h.symm, fun h => h.symm⟩
theorem rep_atom {v : Value} {p : PV} {kd : KK} (h : Rep w (own κ) κ v p) (hk : keyOk kd p = true) : RepC w (own κ) v p := by
  cases h with
  | closed h => exact h
  | _ => cases kd <;> simp [keyOk] at hk

theorem find_spec {ex : Nat → Prop} {kd : KK} {d : TypeDesc} (hd : kkTy kd d) {u : Value} {p : PV} (hu : RepC w ex u p) (hp : keyOk kd p = true) : ∀ (ents : List MapEntry) (es : List (PV × PV)) (n : Nat), ents.length = es.length →
    (∀ (i : Nat) (e : MapEntry) (q : PV × PV), ents[i]? = some e → es[i]? = some q → RepC w ex e.key q.1) → (∀ q ∈ es, keyOk kd q.1 = true) →
    (Instr.findNow d u ents n = some none ∧ mfind es p = none ∧ ∀ v, mset es p v = es ++ [(p, v)]) ∨
      ∃ j e q, Instr.findNow d u ents n = some (some (n + j, e.val)) ∧ ents[j]? = some e ∧ es[j]? = some q ∧ e.key = u ∧ mfind es p = some (j, q.2) ∧ ∀ v, mset es p v = es.set j (p, v)
  | [], [], _, _, _, _ => .inl ⟨rfl, rfl, fun _ => rfl⟩
  | [], _ :: _, _, h, _, _ => by simp at h
  | _ :: _, [], _, h, _, _ => by simp at h
  | e :: ents, q :: es, n, hl, hr, hk => by
    have hs := key_eq hd hu (hr 0 e q rfl rfl) hp (hk q (by simp))
    cases hq : keyEq q.1 p with
    | true =>
      refine .inr ⟨0, e, q, by simp [Instr.findNow, hs, hq], rfl, rfl, ?_, by simp [mfind, hq], fun v => by simp [mset, hq]⟩
      obtain ⟨r, hr', hiff⟩ := MapKept.sameNow_of_keys (key_isKey hd hu hp) (key_isKey hd (hr 0 e q rfl rfl) (hk q (by simp)))
      rw [hs, hq] at hr'
      cases hr'
      exact (hiff.1 rfl).symm
    | false =>
      rcases find_spec hd hu hp ents es (n + 1) (by simpa using hl) (fun i e q a b => hr (i + 1) e q (by simpa using a) (by simpa using b)) (fun q h => hk q (by simp [h])) with ⟨h1, h2, h3⟩ | ⟨j, e', q', h1, h2, h3, h4, h5, h6⟩
      · exact .inl ⟨by simp [Instr.findNow, hs, hq, h1], by simp [mfind, hq, h2], fun v => by simp [mset, hq, h3]⟩
      · refine .inr ⟨j + 1, e', q', by simp [Instr.findNow, hs, hq, h1]; omega, by simpa using h2, by simpa using h3, h4, by simp [mfind, hq, h5], fun v => by simp [mset, hq, h6]⟩

theorem zeroV_spec {t : TypeId} {z : PV} (h : zeroV P t = some z) : ∃ zv, (∀ w, (zeroValue t).run P w = .ok zv w) ∧ ∀ (w : World) (ex : Nat → Prop), RepC w ex zv z := by
  simp only [zeroV, Option.bind_eq_some_iff] at h
  obtain ⟨i, hi, zv, hz, h⟩ := h
  refine ⟨zv, fun w => by simp [zeroValue, typeInfo, hi, hz], fun w ex => ?_⟩
  unfold PV.ofZero at h
  split at h
  · rename_i cs
    simp only [Option.map_eq_some_iff] at h
    obtain ⟨ps, hm, rfl⟩ := h
    have := mapM_rep (w := w) (ex := ex) hm
    exact .agg cs ps (by simpa using this.1) (by simpa using this.2)
  · exact PV.ofVal_rep h

theorem look_sound (hS : Sim w κ μ) {o : Oper} {t k e : TypeId} {kd : KK} {ok : Bool} {z : PV} {x i : Operand} (ho : o.op = .lookup t x i ok) (ht : P.underlying t = some (.map k e)) (hk0 : kkOf P k = some kd) (hz : zeroV P e = some z) {ps : List PV}
    (hk : Known w κ ρ [x, i] ps) (hd : rdD μ (.look kd ok z) ps) : RdOk P w κ ρ o (rdV μ (.look kd ok z) ps) := by
  obtain ⟨p, q, rfl, hp, hq⟩ := known2 hk
  obtain ⟨d, hu, hkd⟩ := kkOf_spec hk0
  obtain ⟨zv, hzr, hzc⟩ := zeroV_spec hz
  have fin : ∀ (o' : Option PV) (v : Value) (b : Bool), RepC w (own κ) v (o'.getD z) → b = o'.isSome → Rep w (own κ) κ (if ok then .tuple #[v, .bool b] else v) (lookV ok z o') := by
    intro o' v b hv hb
    subst hb
    cases ok with
    | false => exact .closed hv
    | true =>
      refine .closed (.tup _ _ rfl fun j v' p' a b => ?_)
      match j, a, b with
      | 0, a, b => simp at a b; subst a; subst b; exact hv
      | 1, a, b => simp at a b; subst a; subst b; exact .bool _
  have some_ : ∀ (r : Nat) (ents : Array MapEntry) (clock : Nat) (es : List (PV × PV)), ρ x = .map (some r) → w.heap[r]? = some (.map ents clock) → ents.size = es.length → (∀ q ∈ es, keyOk kd q.1 = true) →
      (∀ (i : Nat) (e : MapEntry) (q : PV × PV), ents[i]? = some e → es[i]? = some q → RepC w (own κ) e.key q.1) → (∀ (i : Nat) (e : MapEntry) (q : PV × PV), ents[i]? = some e → es[i]? = some q → RepC w (own κ) e.val q.2) → keyOk kd q = true →
      RdOk P w κ ρ o (lookV ok z (mget es q)) := by
    intro r ents clock es hv h hs hko hkk hvv hqk
    have hqc := rep_atom hq hqk
    have hik := key_isKey hkd hqc hqk
    rcases find_spec hkd hqc hqk ents.toList es 0 (by simpa using hs) (fun i e q a b => hkk i e q (by simpa using a) b) hko with ⟨h1, h2, -⟩ | ⟨j, e', q', h1, h2, h3, -, h5, -⟩
    · refine ⟨if ok then .tuple #[zv, .bool false] else zv, ?_, fun w' hw => ?_⟩
      · rw [mget, h2]; exact fin none zv false (hzc _ _) rfl
      · have hb : w'.heap[r]? = some (.map ents clock) := by rw [hw r (lt_of_block h)]; exact h
        simp only [execOp, ho, hv, Instr.lookup, Sem.run_bind, run_underlying ht, Result.andThen_ok, MapKept.run_getObj_map hb, MapKept.run_checkKey hu hik, MapKept.run_findKey hu h1, hzr, Sem.run_pure]
        try (cases ok <;> simp)
    · refine ⟨if ok then .tuple #[e'.val, .bool true] else e'.val, ?_, fun w' hw => ?_⟩
      · rw [mget, h5]; exact fin (some q'.2) e'.val true (hvv j e' q' (by simpa using h2) h3) rfl
      · have hb : w'.heap[r]? = some (.map ents clock) := by rw [hw r (lt_of_block h)]; exact h
        simp only [execOp, ho, hv, Instr.lookup, Sem.run_bind, run_underlying ht, Result.andThen_ok, MapKept.run_getObj_map hb, MapKept.run_checkKey hu hik, MapKept.run_findKey hu h1, Sem.run_pure]
        try (cases ok <;> simp)
  cases p <;> simp only [rdD] at hd
  · have hv := rep_nilMap hp
    have hqc := rep_atom hq hd
    have hik := key_isKey hkd hqc hd
    refine ⟨if ok then .tuple #[zv, .bool false] else zv, fin none zv false (hzc _ _) rfl, fun w' hw => ?_⟩
    have h1 : Instr.findNow d (ρ i) (#[] : Array MapEntry).toList 0 = some none := rfl
    simp only [execOp, ho, hv, Instr.lookup, Sem.run_bind, run_underlying ht, Result.andThen_ok, MapKept.run_checkKey hu hik, MapKept.run_findKey hu h1, hzr, Sem.run_pure]
    try (cases ok <;> simp)
  · obtain ⟨rfl, hd⟩ := hd
    obtain ⟨r, ents, clock, hv, -, -, h, hs, -, hko, hkk, hvv⟩ := rep_cmap_inv hp
    exact some_ r ents clock _ hv h hs hko hkk hvv hd
  · rename_i tag
    simp only [rdV]
    split at hd
    · rename_i kd' es hg
      obtain ⟨rfl, hd⟩ := hd
      obtain ⟨r, ents, clock, hv, -, h, hs, -, hko, hkk, hvv⟩ := rep_mref_inv hS hp hg
      exact some_ r ents clock _ hv h hs hko hkk hvv hd
    · exact hd.elim
end
end PG
