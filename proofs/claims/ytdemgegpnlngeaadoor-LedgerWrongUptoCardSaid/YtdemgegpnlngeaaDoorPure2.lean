/-
  The pure layer: operations that only compute or read, on values without addresses; each held against the model's own.
-/
import Derived.Test.YtdemgegpnlngeaaDoorPure1
import Derived.Laws.Cells
import Derived.Laws.Entries
import Derived.ChangeKeysEq
import Derived.Laws.Strings
namespace PG
open Go

/-! ### Operands -/
def PV.ofVal : Value → Option PV
  | .int k n => some (.int k n)
  | .bool b => some (.bool b)
  | .string s => some (.str s.data.toList)
  | .slice none 0 0 => some .nilSl
  | .map none => some .nilMap
  | .pointer none => some .nilPtr
  | .nilFunc => some .nilFn
  | _ => none

theorem PV.ofVal_rep {w : World} {ex : Nat → Prop} {v : Value} {p : PV} (h : PV.ofVal v = some p) : RepC w ex v p := by
  unfold PV.ofVal at h
  split at h <;> simp at h <;> subst h
  · exact .int _ _
  · exact .bool _
  · exact .str _
  · exact .nilSl
  · exact .nilMap
  · exact .nilPtr
  · exact .nilFn

inductive Opd where
  | tmp (t : Nat)
  | pv (p : PV)
  | glob (g : Nat)
  deriving Inhabited

def compileOpd : Operand → Option Opd
  | .tmp t => some (.tmp t)
  | .const v => (PV.ofVal v).map .pv
  | .global g => some (.glob g)
  | .func f => some (.pv (.fn f [] []))

abbrev Env := List (Nat × PV)
def Env.get : Env → Nat → PV
  | [], _ => .junk
  | (j, p) :: e, i => if j = i then p else Env.get e i

/-- The package-level variables that are read: shape and content. -/
abbrev Globs := Nat → Option (Sh × PV)
def evalO (G : Globs) (env : Env) : Opd → PV
  | .tmp t => env.get t
  | .pv p => p
  | .glob g => match G g with
    | some (sh, x) => .cptr sh x 0
    | none => .junk

def Regs (w : World) (ex : Nat → Prop) (κ : Kap) (a : Act) (env : Env) : Prop := ∀ t, Rep w ex κ (a.tmps.getD t undef) (env.get t)
def GlobsIn (w : World) (ex : Nat → Prop) (G : Globs) : Prop := ∀ g sh x, G g = some (sh, x) → RepC w ex (.pointer (some ⟨g, 0, none⟩)) (.cptr sh x 0)

theorem evalO_rep {w : World} {ex : Nat → Prop} {κ : Kap} {a : Act} {env : Env} {G : Globs} (hR : Regs w ex κ a env) (hG : GlobsIn w ex G) {o : Operand} {o' : Opd} (h : compileOpd o = some o') :
    Rep w ex κ (a.eval o) (evalO G env o') := by
  cases o with
  | tmp t => simp [compileOpd] at h; subst h; exact hR t
  | const v =>
    simp only [compileOpd, Option.map_eq_some_iff] at h
    obtain ⟨p, hp, rfl⟩ := h
    exact .closed (PV.ofVal_rep hp)
  | global g =>
    simp [compileOpd] at h; subst h
    simp only [evalO]
    split
    · exact .closed (hG _ _ _ ‹_›)
    · exact .junk _
  | func f =>
    simp [compileOpd] at h; subst h
    exact .closed (.fn f #[] #[] [] [] rfl rfl (fun i v p h => by simp at h) (fun i v p h => by simp at h))

/-! ### Types -/
def shOf (P : Program) (t : TypeId) : Option Sh :=
  match P.underlying t, P.info? t with
  | some (.struct _), some i => some (some i.size)
  | some (.array _ _), some i => some (some i.size)
  | some _, some i => if i.size = 1 then some none else none
  | _, _ => none

theorem shOf_spec {P : Program} {t : TypeId} {sh : Sh} (h : shOf P t = some sh) :
    (∀ w, (Go.sizeOf t).run P w = .ok sh.size w) ∧ (∀ w, (isAgg t).run P w = .ok sh.isSome w) ∧ ∃ i, P.info? t = some i ∧ i.size = sh.size := by
  unfold shOf at h
  split at h
  · rename_i hu hi
    simp at h; subst h
    refine ⟨fun w => ?_, fun w => ?_, _, hi, rfl⟩
    · simp [Go.sizeOf, typeInfo, hi, Sh.size]
    · simp [isAgg, run_underlying hu]
  · rename_i hu hi
    simp at h; subst h
    refine ⟨fun w => ?_, fun w => ?_, _, hi, rfl⟩
    · simp [Go.sizeOf, typeInfo, hi, Sh.size]
    · simp [isAgg, run_underlying hu]
  · rename_i d i hns hna hu hi
    split at h
    · rename_i hs
      simp at h; subst h
      refine ⟨fun w => ?_, fun w => ?_, _, hi, hs⟩
      · simp [Go.sizeOf, typeInfo, hi, hs, Sh.size]
      · cases i <;> simp_all [isAgg, run_underlying hu]
    · simp at h
  · simp at h

/-! ### The operations that only compute or read -/
inductive RK where
  | mov
  | pick
  | bin (op : BinOp)
  | un (op : UnOp)
  | conv (k : IntKind)
  | chr
  | strc
  | b2s
  | lenS
  | lenL
  | lenM
  | idxS
  | idxA (n : Nat) (sh : Sh)
  | slcS (lo hi : Bool)
  | slc (sh : Sh) (lo hi mx : Bool)
  | idxAddr (sh : Sh)
  | idxAddrA (n : Nat) (sh : Sh)
  | fldAddr (off : Nat)
  | fld (off : Nat) (sh : Sh)
  | load (sh : Sh)
  | build (zero : List PV) (parts : List (Nat × Nat))
  | ext (i : Nat)
  | mkFn (f : Nat) (nfirst : Nat)
  | min
  | max
  | nilChk
  | eqA (neg : Bool) (ks : List Nat)
  | nilEq (neg : Bool) (k : Nat)
  | look (kd : KK) (ok : Bool) (z : PV)
  | eqB (neg : Bool)
  | dead
  deriving Inhabited

/-- Two structs of plain fields: are they the same? -/
def eqC : List PV → List PV → Bool
  | .int _ a :: l, .int _ b :: l' => decide (a = b) && eqC l l'
  | .bool a :: l, .bool b :: l' => decide (a = b) && eqC l l'
  | .str a :: l, .str b :: l' => decide (a = b) && eqC l l'
  | _, _ => true
/-- Their fields are of these kinds: 0: numbers, 1: truths, 2: texts. -/
def eqK : List Nat → List PV → List PV → Prop
  | [], [], [] => True
  | 0 :: ks, .int k _ :: l, .int k' _ :: l' => k = k' ∧ eqK ks l l'
  | 1 :: ks, .bool _ :: l, .bool _ :: l' => eqK ks l l'
  | 2 :: ks, .str _ :: l, .str _ :: l' => eqK ks l l'
  | _, _, _ => False
/-- Is it nil? (Where it can be told.) -/
def nilB : Nat → PV → PV → Option Bool
  | 0, .nilSl, .nilSl => some true
  | 0, .list _ (_ :: _), .nilSl => some false
  | 1, .nilMap, .nilMap => some true
  | 1, .mref _, .nilMap => some false
  | 1, .cmap _ _, .nilMap => some false
  | 2, .nilFn, .nilFn => some true
  | 2, .fn _ _ _, .nilFn => some false
  | 3, .nilPtr, .nilPtr => some true
  | 3, .ref _ _, .nilPtr => some false
  | 3, .eptr _ _ _ _, .nilPtr => some false
  | 3, .cptr _ _ _, .nilPtr => some false
  | _, _, _ => none

/-! ### Maps -/
def keyEq : PV → PV → Bool
  | .int _ a, .int _ b => decide (a = b)
  | .str a, .str b => decide (a = b)
  | .bool a, .bool b => decide (a = b)
  | _, _ => false
/-- The place and the value of a key. -/
def mfind : List (PV × PV) → PV → Option (Nat × PV)
  | [], _ => none
  | q :: es, k => if keyEq q.1 k = true then some (0, q.2) else (mfind es k).map fun x => (x.1 + 1, x.2)
def mget (es : List (PV × PV)) (k : PV) : Option PV := (mfind es k).map (·.2)
def mset : List (PV × PV) → PV → PV → List (PV × PV)
  | [], k, v => [(k, v)]
  | q :: es, k, v => if keyEq q.1 k = true then (k, v) :: es else q :: mset es k v
def lookV (ok : Bool) (z : PV) (o : Option PV) : PV :=
  match ok with
  | true => .tup [o.getD z, .bool o.isSome]
  | false => o.getD z

/-- A part of a slice. -/
def slcV : PV → Int → Int → PV
  | .list sh xs, a, b => .list sh ((xs.take b.toNat).drop a.toNat)
  | .sl sh t _, _, b => .sl sh t b.toNat
  | .nilSl, _, _ => .nilSl
  | _, _, _ => .junk
def slcD (sh : Sh) : PV → Int → Int → Prop
  | .list sh' xs, a, b => sh' = sh ∧ 0 ≤ a ∧ a ≤ b ∧ b ≤ xs.length
  | .sl sh' _ n, a, b => sh' = sh ∧ a = 0 ∧ 0 ≤ b ∧ b ≤ n
  | .nilSl, a, b => a = 0 ∧ b = 0
  | _, _, _ => False
def fullV : PV → Int → Int → Int → PV
  | .list sh xs, a, b, m => if m = b then .full sh ((xs.take b.toNat).drop a.toNat) else .list sh ((xs.take b.toNat).drop a.toNat)
  | .nilSl, _, _, _ => .nilSl
  | _, _, _, _ => .junk
def fullD (sh : Sh) : PV → Int → Int → Int → Prop
  | .list sh' xs, a, b, m => sh' = sh ∧ 0 ≤ a ∧ a ≤ b ∧ b ≤ m ∧ m ≤ xs.length
  | .nilSl, a, b, m => a = 0 ∧ b = 0 ∧ m = 0
  | _, _, _, _ => False
def lenV : PV → Int
  | .list _ xs => xs.length
  | .sl _ _ n => n
  | _ => 0

def sub (sh : Sh) (cs : List PV) (o : Nat) : PV :=
  match sh with
  | none => (cs[o]?).getD .junk
  | some n => .agg ((cs.drop o).take n)

def cut (sh sh' : Sh) (x : PV) (o : Nat) : PV := if o = 0 ∧ sh' = sh then x else sub sh' x.cells o

def binI (op : BinOp) (k : IntKind) (a b : Int) : PV :=
  match op with
  | .add => .int k (k.wrap (a + b))
  | .sub => .int k (k.wrap (a - b))
  | .mul => .int k (k.wrap (a * b))
  | .quo => .int k (k.wrap (a.tdiv b))
  | .rem => .int k (a.tmod b)
  | .and => .int k (k.wrap (BitVec.ofInt k.bits a &&& BitVec.ofInt k.bits b).toNat)
  | .or => .int k (k.wrap (BitVec.ofInt k.bits a ||| BitVec.ofInt k.bits b).toNat)
  | .xor => .int k (k.wrap (BitVec.ofInt k.bits a ^^^ BitVec.ofInt k.bits b).toNat)
  | .andNot => .int k (k.wrap (BitVec.ofInt k.bits a &&& ~~~ BitVec.ofInt k.bits b).toNat)
  | .eql => .bool (decide (a = b))
  | .neq => .bool (!decide (a = b))
  | .lss => .bool (decide (a < b))
  | .leq => .bool (decide (a ≤ b))
  | .gtr => .bool (decide (b < a))
  | .geq => .bool (decide (b ≤ a))
  | _ => .junk

def binS (op : BinOp) (a b : List UInt8) : PV :=
  match op with
  | .add => .str (a ++ b)
  | .eql => .bool (decide (a = b))
  | .neq => .bool (!decide (a = b))
  | .lss => .bool (Op.bytesLess a b)
  | .leq => .bool (Op.bytesLess a b || decide (a = b))
  | .gtr => .bool (!(Op.bytesLess a b || decide (a = b)))
  | .geq => .bool (!Op.bytesLess a b)
  | _ => .junk

def PV.bin (op : BinOp) : PV → PV → PV
  | .int k a, .int k' b =>
    match op with
    | .shl => .int k (k.wrap (a * 2 ^ (Min.min b.toNat k.bits)))
    | .shr => .int k (a.fdiv (2 ^ (Min.min b.toNat k.bits)))
    | _ => if k = k' then binI op k a b else .junk
  | .str a, .str b => binS op a b
  | _, _ => .junk

def PV.binOk (op : BinOp) : PV → PV → Prop
  | .int k _, .int k' b =>
    match op with
    | .shl | .shr => 0 ≤ b
    | .quo | .rem => k = k' ∧ b ≠ 0
    | _ => k = k'
  | .str a, .str b =>
    match op with
    | .add => a.length + b.length ≤ 9223372036854775807
    | .eql | .neq | .lss | .leq | .gtr | .geq => True
    | _ => False
  | _, _ => False

theorem repC_int {w : World} {ex : Nat → Prop} {κ : Kap} {v : Value} {k : IntKind} {n : Int} (h : Rep w ex κ v (.int k n)) : v = .int k n := by
  cases h with | closed h => cases h; rfl
theorem repC_bool {w : World} {ex : Nat → Prop} {κ : Kap} {v : Value} {b : Bool} (h : Rep w ex κ v (.bool b)) : v = .bool b := by
  cases h with | closed h => cases h; rfl
theorem repC_str {w : World} {ex : Nat → Prop} {κ : Kap} {v : Value} {l : List UInt8} (h : Rep w ex κ v (.str l)) : ∃ s : ByteArray, v = .string s ∧ s.data.toList = l := by
  cases h with | closed h => cases h; exact ⟨_, rfl, rfl⟩

/-- The run of an operation in every world in which what was there is as it was. -/
def Same (w w' : World) : Prop := ∀ b, b < w.heap.size → w'.heap[b]? = w.heap[b]?
theorem Same.refl (w : World) : Same w w := fun _ _ => rfl
theorem Same.cell {w w' : World} (h : Same w w') {a : Addr} {v : Value} (hc : w.cell? a = some v) : w'.cell? a = some v := by
  rw [World.cell?_of_block (h _ (World.block_lt_of_cell? _ _ hc))]; exact hc

def PV.toV : PV → Value
  | .int k n => .int k n
  | .bool b => .bool b
  | .str l => .string ⟨l.toArray⟩
  | _ => undef
/-- Numbers, truth values, texts. -/
def PV.atom : PV → Bool
  | .int _ _ | .bool _ | .str _ => true
  | _ => false
theorem PV.toV_rep {w : World} {ex : Nat → Prop} {p : PV} (h : p.atom = true) : RepC w ex p.toV p := by
  cases p <;> simp [PV.atom] at h
  · exact .int _ _
  · exact .bool _
  · exact .str _

theorem bin_sound {P : Program} {w : World} {ex : Nat → Prop} {κ : Kap} (op : BinOp) (t : TypeId) (x y : Operand) {u v : Value} {p q : PV} (hu : Rep w ex κ u p) (hv : Rep w ex κ v q) (hok : PV.binOk op p q) :
    ∃ r, Rep w ex κ r (PV.bin op p q) ∧ ∀ w', (do eqGuard op t x y u v; Go.binOp op t u v : Sem Value).run P w' = .ok r w' := by
  unfold PV.binOk at hok
  split at hok
  · rename_i k a k' b
    obtain rfl := repC_int hu
    obtain rfl := repC_int hv
    have hg : ∀ w', (eqGuard op t x y (.int k a) (.int k' b)).run P w' = .ok () w' := by
      intro w'; unfold eqGuard; cases op <;> rfl
    refine ⟨(PV.bin op (.int k a) (.int k' b)).toV, .closed (PV.toV_rep ?_), fun w' => ?_⟩
    · cases op <;> simp only at hok <;> (try (obtain ⟨rfl, hb⟩ := hok)) <;> (try subst hok) <;> simp [PV.bin, binI, PV.atom]
    · rw [Sem.run_bind, hg]
      simp only [Result.andThen_ok]
      cases op <;> simp only at hok <;> (try (obtain ⟨rfl, hb⟩ := hok)) <;> (try subst hok) <;>
        simp [PV.bin, binI, PV.toV, Go.binOp, Op.intArith, Op.intDiv, Op.intBits, Op.intCmp, Op.shift, *]
      · intro h; omega
      · intro h; omega
      · rw [Bool.eq_iff_iff]; simp
      · rw [Bool.eq_iff_iff]; simp
  · rename_i a b
    obtain ⟨s, rfl, rfl⟩ := repC_str hu
    obtain ⟨s', rfl, rfl⟩ := repC_str hv
    have hg : ∀ w', (eqGuard op t x y (.string s) (.string s')).run P w' = .ok () w' := by
      intro w'; unfold eqGuard; cases op <;> rfl
    refine ⟨(PV.bin op (.str s.data.toList) (.str s'.data.toList)).toV, .closed (PV.toV_rep ?_), fun w' => ?_⟩
    · cases op <;> simp only at hok <;> (try exact hok.elim) <;> simp [PV.bin, binS, PV.atom]
    · rw [Sem.run_bind, hg]
      simp only [Result.andThen_ok]
      cases op <;> simp only at hok <;> (try exact hok.elim) <;>
        simp [PV.bin, binS, PV.toV, Go.binOp, Op.stringOp, ByteArray.toList_eq, *]
      · rw [if_neg (by simp at hok; omega)]
        congr 2
        first | done | (apply ByteArray.ext; simp)
      all_goals (try congr 1) <;> rw [Bool.eq_iff_iff] <;> simp
  · exact hok.elim


/-! ### What they come to -/
def byteOf : PV → UInt8
  | .int _ n => UInt8.ofNat n.toNat
  | _ => 0
def isByte : PV → Prop
  | .int .u8 _ => True
  | _ => False

def PV.isB : PV → Bool
  | .bool _ => true
  | _ => false
def PV.toB : PV → Bool
  | .bool b => b
  | _ => false
theorem PV.of_isB {p : PV} (h : p.isB = true) : p = .bool p.toB := by
  cases p <;> simp_all [PV.isB, PV.toB]
def PV.under (_g : Bool) : PV → PV
  | .cond _ p => p
  | p => p
def PV.okUnder (g : Bool) : PV → Prop
  | .cond b _ => g = true → b = true
  | _ => True

def Mem.get (μ : Mem) (t : Nat) : Option MObj := (μ[t]?).join

/-- The content behind a pointer to a whole variable, its shape, and the place in it. -/
def behind (μ : Mem) : PV → Option (Sh × PV × Nat)
  | .cptr sh x off => some (sh, x, off)
  | .ref t off => match μ.get t with
    | some (.var sh x) => some (sh, x, off)
    | _ => none
  | .eptr t n i off => match μ.get t with
    | some (.row sh xs) => if n = sh.size then (xs[i]?).map fun x => (sh, x, off) else none
    | _ => none
  | _ => none

def PV.elems (μ : Mem) : PV → Option (List PV)
  | .list _ xs => some xs
  | .nilSl => some []
  | .sl _ t n => match μ.get t with
    | some (.row _ xs) => some (xs.take n)
    | _ => none
  | _ => none

def partOf (p : PV) (size : Nat) : Option (List PV) :=
  match p with
  | .agg cs => if cs.length = size then some cs else none
  | p => if p.scalar = true ∧ size = 1 then some [p] else none
def setAll (cs : List PV) (off : Nat) (new : List PV) : List PV := cs.take off ++ new ++ cs.drop (off + new.length)
def fillP (cs : List PV) : List (Nat × Nat) → List PV → List PV
  | (off, size) :: ps, p :: qs => fillP (setAll cs off ((partOf p size).getD [])) ps qs
  | _, _ => cs
def fillOk (len : Nat) : List (Nat × Nat) → List PV → Prop
  | (off, size) :: ps, p :: qs => (partOf p size).isSome = true ∧ off + size ≤ len ∧ fillOk len ps qs
  | [], [] => True
  | _, _ => False

def PV.withInt (q : PV) (f : Int → PV) : PV :=
  match q with
  | .int _ i => f i
  | _ => .junk
def PV.withIntP (q : PV) (f : Int → Prop) : Prop :=
  match q with
  | .int _ i => f i
  | _ => False

def rdV (μ : Mem) : RK → List PV → PV
  | .mov, [p] => p
  | .pick, [.bool c, a, b] => .bool (if c = true then (a.under c).toB else (b.under (!c)).toB)
  | .bin op, [p, q] => PV.bin op p q
  | .un .neg, [.int k n] => .int k (k.wrap (0 - n))
  | .un .not, [.bool b] => .bool (!b)
  | .conv k, [.int _ n] => .int k (k.wrap n)
  | .chr, [.int _ n] => .str (Utf8.encode n).data.toList
  | .strc, [.str l] => .str l
  | .lenS, [.str l] => .int .i64 l.length
  | .lenL, [.list _ xs] => .int .i64 xs.length
  | .lenL, [.nilSl] => .int .i64 0
  | .lenL, [.sl _ _ n] => .int .i64 n
  | .lenL, [.full _ xs] => .int .i64 xs.length
  | .lenM, [.nilMap] => .int .i64 0
  | .lenM, [.cmap _ es] => .int .i64 es.length
  | .lenM, [.mref t] => match μ.get t with
    | some (.mp _ es) => .int .i64 es.length
    | _ => .junk
  | .eqB neg, [.bool a, .bool b] => .bool (if neg = true then !decide (a = b) else decide (a = b))
  | .look _ ok z, [.nilMap, _] => lookV ok z none
  | .look _ ok z, [.cmap _ es, k] => lookV ok z (mget es k)
  | .look _ ok z, [.mref t, k] => match μ.get t with
    | some (.mp _ es) => lookV ok z (mget es k)
    | _ => .junk
  | .slc _ true true false, [x, p, q] => p.withInt fun a => q.withInt fun b => slcV x a b
  | .slc _ true false false, [x, p] => p.withInt fun a => slcV x a (lenV x)
  | .slc _ false true false, [x, q] => q.withInt fun b => slcV x 0 b
  | .slc _ false true true, [x, q, r] => q.withInt fun b => r.withInt fun m => fullV x 0 b m
  | .slc _ true true true, [x, p, q, r] => p.withInt fun a => q.withInt fun b => r.withInt fun m => fullV x a b m
  | .idxS, [.str l, q] => q.withInt fun i => .int .u8 (l.getD i.toNat 0).toNat
  | .idxA _ sh, [.agg cs, q] => q.withInt fun i => sub sh cs (i.toNat * sh.size)
  | .slcS true true, [.str l, p, q] => p.withInt fun a => q.withInt fun b => .str ((l.take b.toNat).drop a.toNat)
  | .slcS true false, [.str l, q] => q.withInt fun a => .str (l.drop a.toNat)
  | .slcS false true, [.str l, q] => q.withInt fun b => .str (l.take b.toNat)
  | .idxAddr sh, [.list _ xs, q] => q.withInt fun i => .cptr sh (xs.getD i.toNat .junk) 0
  | .idxAddr sh, [.sl _ t _, q] => q.withInt fun i => .eptr t sh.size i.toNat 0
  | .idxAddrA _ sh, [.cptr sh' x o, q] => q.withInt fun i => .cptr sh' x (o + i.toNat * sh.size)
  | .idxAddrA _ sh, [.ref t o, q] => q.withInt fun i => .ref t (o + i.toNat * sh.size)
  | .idxAddrA _ sh, [.eptr t n j o, q] => q.withInt fun i => .eptr t n j (o + i.toNat * sh.size)
  | .fldAddr off, [.cptr sh x o] => .cptr sh x (o + off)
  | .fldAddr off, [.ref t o] => .ref t (o + off)
  | .fldAddr off, [.eptr t n i o] => .eptr t n i (o + off)
  | .fld off sh, [.agg cs] => sub sh cs off
  | .load sh, [p] => match behind μ p with
    | some (sh', x, o) => cut sh' sh x o
    | none => .junk
  | .build zero parts, ps => .agg (fillP zero parts ps)
  | .ext i, [.tup vs] => vs.getD i .junk
  | .mkFn f k, ps => .fn f (ps.take k) (ps.drop k)
  | .min, [.int k a, q] => q.withInt fun b => .int k (Min.min a b)
  | .max, [.int k a, q] => q.withInt fun b => .int k (Max.max a b)
  | .nilChk, [p] => p
  | .eqA neg _, [.agg cs, .agg cs'] => .bool (if neg then !eqC cs cs' else eqC cs cs')
  | .nilEq neg k, [p, q] => match nilB k p q with
    | some b => .bool (if neg then !b else b)
    | none => .junk
  | _, _ => .junk

def rdD (μ : Mem) : RK → List PV → Prop
  | .mov, [_] => True
  | .pick, [.bool c, a, b] => a.okUnder c ∧ b.okUnder (!c) ∧ (if c = true then (a.under c).isB else (b.under (!c)).isB) = true
  | .bin op, [p, q] => PV.binOk op p q
  | .un .neg, [.int _ _] => True
  | .un .not, [.bool _] => True
  | .conv _, [.int _ _] => True
  | .chr, [.int _ _] => True
  | .strc, [.str _] => True
  | .lenS, [.str _] | .lenL, [.list _ _] | .lenL, [.nilSl] | .lenL, [.sl _ _ _] | .lenL, [.full _ _] | .lenM, [.nilMap] | .lenM, [.cmap _ _] => True
  | .lenM, [.mref t] => match μ.get t with
    | some (.mp _ _) => True
    | _ => False
  | .eqB _, [.bool _, .bool _] => True
  | .look kd _ _, [.nilMap, k] => keyOk kd k = true
  | .look kd _ _, [.cmap kd' _, k] => kd' = kd ∧ keyOk kd k = true
  | .look kd _ _, [.mref t, k] => match μ.get t with
    | some (.mp kd' _) => kd' = kd ∧ keyOk kd k = true
    | _ => False
  | .slc sh true true false, [x, p, q] => p.withIntP fun a => q.withIntP fun b => slcD sh x a b
  | .slc sh true false false, [x, p] => p.withIntP fun a => slcD sh x a (lenV x)
  | .slc sh false true false, [x, q] => q.withIntP fun b => slcD sh x 0 b
  | .slc sh false true true, [x, q, r] => q.withIntP fun b => r.withIntP fun m => fullD sh x 0 b m
  | .slc sh true true true, [x, p, q, r] => p.withIntP fun a => q.withIntP fun b => r.withIntP fun m => fullD sh x a b m
  | .idxS, [.str l, q] => q.withIntP fun i => 0 ≤ i ∧ i < l.length
  | .idxA n sh, [.agg cs, q] => q.withIntP fun i => 0 ≤ i ∧ i < n ∧ i.toNat * sh.size + sh.size ≤ cs.length
  | .slcS true true, [.str l, p, q] => p.withIntP fun a => q.withIntP fun b => 0 ≤ a ∧ a ≤ b ∧ b ≤ l.length
  | .slcS true false, [.str l, q] => q.withIntP fun a => 0 ≤ a ∧ a ≤ l.length
  | .slcS false true, [.str l, q] => q.withIntP fun b => 0 ≤ b ∧ b ≤ l.length
  | .idxAddr sh, [.list sh' xs, q] => q.withIntP fun i => 0 ≤ i ∧ i < xs.length ∧ sh' = sh
  | .idxAddr sh, [.sl sh' _ n, q] => q.withIntP fun i => 0 ≤ i ∧ i < n ∧ sh' = sh
  | .idxAddrA n sh, [.cptr sh' _ o, q] => q.withIntP fun i => 0 ≤ i ∧ i < n ∧ o + i.toNat * sh.size ≤ sh'.size
  | .idxAddrA n _, [.ref _ _, q] => q.withIntP fun i => 0 ≤ i ∧ i < n
  | .idxAddrA n _, [.eptr _ _ _ _, q] => q.withIntP fun i => 0 ≤ i ∧ i < n
  | .fldAddr off, [.cptr sh _ o] => o + off ≤ sh.size
  | .fldAddr _, [.ref _ _] => True
  | .fldAddr _, [.eptr _ _ _ _] => True
  | .fld off sh, [.agg cs] => off + sh.size ≤ cs.length
  | .load sh, [p] => match behind μ p with
    | some (sh', x, o) => (o = 0 ∧ sh' = sh) ∨ o + sh.size ≤ x.cells.length
    | none => False
  | .build zero parts, ps => fillOk zero.length parts ps
  | .ext i, [.tup vs] => i < vs.length
  | .mkFn _ k, ps => k ≤ ps.length
  | .min, [.int _ _, q] | .max, [.int _ _, q] => q.withIntP fun _ => True
  | .eqA _ ks, [.agg cs, .agg cs'] => eqK ks cs cs'
  | .nilEq _ k, [p, q] => match nilB k p q with
    | some _ => True
    | none => False
  | .nilChk, [.fn _ _ _] | .nilChk, [.cptr _ _ _] | .nilChk, [.ref _ _] | .nilChk, [.eptr _ _ _ _] => True
  | _, _ => False

end PG
