/-
  A pure layer over the model's memory: values without addresses, a list of objects that a call owns, and what it means that a world holds them.
-/
import Derived.Calls
import Derived.Below
import Derived.Laws.AppendOwn
namespace PG
open Go

/-- One cell ('none'), or an aggregate of so many cells. -/
abbrev Sh := Option Nat
def Sh.size : Sh → Nat
  | none => 1
  | some n => n

/-- The kinds of a map's keys. -/
inductive KK where
  | int (k : IntKind)
  | str
  | bool
  deriving Inhabited, DecidableEq

inductive PV where
  | junk
  | int (k : IntKind) (n : Int)
  | bool (b : Bool)
  | str (s : List UInt8)
  | fn (f : Nat) (first caps : List PV)
  | nilFn
  | nilPtr
  | nilSl
  | list (sh : Sh) (xs : List PV)
  | nilMap
  | cmap (kd : KK) (es : List (PV × PV))
  | full (sh : Sh) (xs : List PV)
  | cptr (sh : Sh) (x : PV) (off : Nat)
  | ref (t off : Nat)
  | eptr (t n i off : Nat)
  | sl (sh : Sh) (t len : Nat)
  | mref (t : Nat)
  | agg (cs : List PV)
  | tup (vs : List PV)
  | cond (b : Bool) (p : PV)
  deriving Inhabited

def keyOk : KK → PV → Bool
  | .int k, .int k' _ => decide (k' = k)
  | .str, .str _ => true
  | .bool, .bool _ => true
  | _, _ => false

def PV.cells : PV → List PV
  | .agg cs => cs
  | p => [p]

/-- One cell for sure. -/
def PV.scalar : PV → Bool
  | .junk | .agg _ | .tup _ | .cond _ _ => false
  | _ => true

def PV.isAgg : PV → Option (List PV)
  | .agg cs => some cs
  | _ => none

/-- A value of that shape, each cell known to be one. -/
def fits : Sh → PV → Prop
  | none, x => x.scalar = true
  | some n, x => ∃ cs, x = .agg cs ∧ cs.length = n ∧ ∀ c ∈ cs, c.scalar = true

def flat (xs : List PV) : List PV := xs.flatMap PV.cells

theorem fits.len {sh : Sh} {x : PV} (h : fits sh x) : x.cells.length = sh.size := by
  cases sh with
  | none => cases x <;> simp_all [fits, PV.cells, PV.scalar, Sh.size]
  | some n => obtain ⟨cs, rfl, h, _⟩ := h; simpa [PV.cells, Sh.size] using h

theorem fits.scal {sh : Sh} {x : PV} (h : fits sh x) : ∀ c ∈ x.cells, c.scalar = true := by
  cases sh with
  | none => intro c hc; cases x <;> simp_all [fits, PV.cells, PV.scalar]
  | some n => obtain ⟨cs, rfl, h, hc⟩ := h; simpa [PV.cells] using hc

theorem flat_length {sh : Sh} : ∀ {xs : List PV}, (∀ x ∈ xs, fits sh x) → (flat xs).length = xs.length * sh.size
  | [], _ => by simp [flat]
  | x :: xs, h => by
    have h1 := (h x (by simp)).len
    have h2 := flat_length (sh := sh) (xs := xs) (fun y hy => h y (by simp [hy]))
    simp only [flat, List.flatMap_cons, List.length_append] at *
    rw [h1, h2]; simp only [List.length_cons]; rw [Nat.add_mul]; omega

theorem flat_append (xs ys : List PV) : flat (xs ++ ys) = flat xs ++ flat ys := by simp [flat]

theorem flat_get {sh : Sh} : ∀ {xs : List PV}, (∀ x ∈ xs, fits sh x) → ∀ (i j : Nat) (x : PV), xs[i]? = some x → j < sh.size → (flat xs)[i * sh.size + j]? = x.cells[j]?
  | [], _, i, _, _, hx, _ => by simp at hx
  | y :: xs, h, i, j, x, hx, hj => by
    have h1 := (h y (by simp)).len
    simp only [flat, List.flatMap_cons]
    cases i with
    | zero =>
      simp at hx; subst hx
      rw [List.getElem?_append_left (by simpa [h1] using hj)]; simp
    | succ i =>
      rw [List.getElem?_append_right (by rw [h1, Nat.add_mul]; omega), h1]
      have := flat_get (sh := sh) (xs := xs) (fun y hy => h y (by simp [hy])) i j x (by simpa using hx) hj
      rw [← this]; simp only [flat]; congr 1; rw [Nat.add_mul]; omega

theorem flat_take {sh : Sh} : ∀ {xs : List PV}, (∀ x ∈ xs, fits sh x) → ∀ k, flat (xs.take k) = (flat xs).take (k * sh.size)
  | [], _, k => by simp [flat]
  | y :: xs, h, k => by
    have h1 := (h y (by simp)).len
    cases k with
    | zero => simp [flat]
    | succ k =>
      have := flat_take (sh := sh) (xs := xs) (fun y hy => h y (by simp [hy])) k
      simp only [flat, List.take_succ_cons, List.flatMap_cons] at *
      have e : (k + 1) * sh.size = y.cells.length + k * sh.size := by rw [h1, Nat.add_mul]; omega
      rw [this, e, List.take_length_add_append]

/-- A map's entries bear their places as stamps: none was ever taken out. -/
def Born (ents : Array MapEntry) (clock : Nat) : Prop :=
  (∀ (i : Nat) (e : MapEntry), ents[i]? = some e → e.born = i) ∧ clock = ents.size

/-! ### Closed values: they hang on no block of 'ex' -/
inductive RepC (w : World) (ex : Nat → Prop) : Value → PV → Prop
  | int (k : IntKind) (n : Int) : RepC w ex (.int k n) (.int k n)
  | bool (b : Bool) : RepC w ex (.bool b) (.bool b)
  | str (s : ByteArray) : RepC w ex (.string s) (.str s.data.toList)
  | fn (f : Nat) (first caps : Array Value) (ps qs : List PV) (h1 : first.size = ps.length) (h2 : caps.size = qs.length)
      (h3 : ∀ (i : Nat) (v : Value) (p : PV), first[i]? = some v → ps[i]? = some p → RepC w ex v p) (h4 : ∀ (i : Nat) (v : Value) (p : PV), caps[i]? = some v → qs[i]? = some p → RepC w ex v p) :
      RepC w ex (.func (.func f) first caps) (.fn f ps qs)
  | nilFn : RepC w ex .nilFunc .nilFn
  | nilPtr : RepC w ex (.pointer none) .nilPtr
  | nilSl : RepC w ex (.slice none 0 0) .nilSl
  | nilMap : RepC w ex (.map none) .nilMap
  | list (a : Option Addr) (len cap : Nat) (sh : Sh) (xs : List PV) (b off : Nat) (val : Nat → Value) (hlen : len = xs.length) (hcap : len ≤ cap) (hmax : cap ≤ maxLen)
      (hfit : ∀ x ∈ xs, fits sh x) (ha : xs ≠ [] → a = some ⟨b, off, none⟩)
      (hc : ∀ j, j < (flat xs).length → ¬ ex b ∧ w.cell? ⟨b, off + j, none⟩ = some (val j))
      (hr : ∀ (j : Nat) (p : PV), (flat xs)[j]? = some p → RepC w ex (val j) p) : RepC w ex (.slice a len cap) (.list sh xs)
  | full (a : Option Addr) (len : Nat) (sh : Sh) (xs : List PV) (b off : Nat) (val : Nat → Value) (hlen : len = xs.length) (hmax : len ≤ maxLen)
      (hfit : ∀ x ∈ xs, fits sh x) (ha : xs ≠ [] → a = some ⟨b, off, none⟩)
      (hc : ∀ j, j < (flat xs).length → ¬ ex b ∧ w.cell? ⟨b, off + j, none⟩ = some (val j))
      (hr : ∀ (j : Nat) (p : PV), (flat xs)[j]? = some p → RepC w ex (val j) p) : RepC w ex (.slice a len len) (.full sh xs)
  | cmap (r : Nat) (kd : KK) (es : List (PV × PV)) (ents : Array MapEntry) (clock : Nat) (hx : ¬ ex r) (h : w.heap[r]? = some (.map ents clock)) (hs : ents.size = es.length) (hb : Born ents clock) (hkd : ∀ q ∈ es, keyOk kd q.1 = true)
      (hk : ∀ (i : Nat) (e : MapEntry) (q : PV × PV), ents[i]? = some e → es[i]? = some q → RepC w ex e.key q.1)
      (hv : ∀ (i : Nat) (e : MapEntry) (q : PV × PV), ents[i]? = some e → es[i]? = some q → RepC w ex e.val q.2) : RepC w ex (.map (some r)) (.cmap kd es)
  | cptr (b o off : Nat) (sh : Sh) (x : PV) (val : Nat → Value) (hfit : fits sh x) (hoff : off ≤ sh.size)
      (hc : ∀ j, j < x.cells.length → ¬ ex b ∧ w.cell? ⟨b, o + j, none⟩ = some (val j))
      (hr : ∀ (j : Nat) (p : PV), x.cells[j]? = some p → RepC w ex (val j) p) : RepC w ex (.pointer (some ⟨b, o + off, none⟩)) (.cptr sh x off)
  | agg (vs : Array Value) (ps : List PV) (hs : vs.size = ps.length) (hr : ∀ (i : Nat) (v : Value) (p : PV), vs[i]? = some v → ps[i]? = some p → RepC w ex v p) : RepC w ex (.agg vs) (.agg ps)
  | tup (vs : Array Value) (ps : List PV) (hs : vs.size = ps.length) (hr : ∀ (i : Nat) (v : Value) (p : PV), vs[i]? = some v → ps[i]? = some p → RepC w ex v p) : RepC w ex (.tuple vs) (.tup ps)

/-- What was there and not of 'ex' is as it was, and not of 'ex'' either. -/
structure Agree (w : World) (ex : Nat → Prop) (w' : World) (ex' : Nat → Prop) : Prop where
  block : ∀ b, b < w.heap.size → ¬ ex b → w'.heap[b]? = w.heap[b]?
  out : ∀ b, b < w.heap.size → ¬ ex b → ¬ ex' b

theorem Agree.refl (w : World) (ex : Nat → Prop) : Agree w ex w ex := ⟨fun _ _ _ => rfl, fun _ _ h => h⟩

theorem RepC.mono {w w' : World} {ex ex' : Nat → Prop} (hA : Agree w ex w' ex') {v : Value} {p : PV} (h : RepC w ex v p) : RepC w' ex' v p := by
  induction h with
  | int k n => exact .int k n
  | bool b => exact .bool b
  | str s => exact .str s
  | fn f first caps ps qs h1 h2 h3 h4 ih3 ih4 => exact .fn f first caps ps qs h1 h2 (fun i v p a b => ih3 i v p a b) (fun i v p a b => ih4 i v p a b)
  | nilFn => exact .nilFn
  | nilPtr => exact .nilPtr
  | nilSl => exact .nilSl
  | nilMap => exact .nilMap
  | list a len cap sh xs b off val hlen hcap hmax hfit ha hc hr ih =>
    refine .list a len cap sh xs b off val hlen hcap hmax hfit ha (fun j hj => ?_) ih
    obtain ⟨h1, h2⟩ := hc j hj
    have hb := World.block_lt_of_cell? _ _ h2
    exact ⟨hA.out _ hb h1, by rw [World.cell?_of_block (hA.block _ hb h1)]; exact h2⟩
  | full a len sh xs b off val hlen hmax hfit ha hc hr ih =>
    refine .full a len sh xs b off val hlen hmax hfit ha (fun j hj => ?_) ih
    obtain ⟨h1, h2⟩ := hc j hj
    have hb := World.block_lt_of_cell? _ _ h2
    exact ⟨hA.out _ hb h1, by rw [World.cell?_of_block (hA.block _ hb h1)]; exact h2⟩
  | cmap r kd es ents clock hx h hs hB hkd hk hv ihk ihv =>
    have hb : r < w.heap.size := by
      rcases Nat.lt_or_ge r w.heap.size with h' | h'
      · exact h'
      · simp [Array.getElem?_eq_none h'] at h
    exact .cmap r kd es ents clock (hA.out _ hb hx) (by rw [hA.block _ hb hx]; exact h) hs hB hkd ihk ihv
  | cptr b o off sh x val hfit hoff hc hr ih =>
    refine .cptr b o off sh x val hfit hoff (fun j hj => ?_) ih
    obtain ⟨h1, h2⟩ := hc j hj
    have hb := World.block_lt_of_cell? _ _ h2
    exact ⟨hA.out _ hb h1, by rw [World.cell?_of_block (hA.block _ hb h1)]; exact h2⟩
  | agg vs ps hs hr ih => exact .agg vs ps hs ih
  | tup vs ps hs hr ih => exact .tup vs ps hs ih

/-! ### Values that may hang on owned blocks -/
/-- For each tag: dead; alive, with no block yet (a nil slice); alive, with a block. -/
structure Kap where
  tag : Nat → Option (Option Nat)
  /-- Blocks of whoever called: no closed value hangs on them. -/
  ex : Nat → Prop
instance : CoeFun Kap (fun _ => Nat → Option (Option Nat)) := ⟨Kap.tag⟩
def tagged (κ : Kap) (b : Nat) : Prop := ∃ t, κ t = some (some b)
def own (κ : Kap) (b : Nat) : Prop := κ.ex b ∨ tagged κ b

inductive Rep (w : World) (ex : Nat → Prop) (κ : Kap) : Value → PV → Prop
  | junk (v : Value) : Rep w ex κ v .junk
  | closed {v : Value} {p : PV} (h : RepC w ex v p) : Rep w ex κ v p
  | ref (t off b : Nat) (h : κ t = some (some b)) : Rep w ex κ (.pointer (some ⟨b, off, none⟩)) (.ref t off)
  | eptr (t n i off b : Nat) (h : κ t = some (some b)) : Rep w ex κ (.pointer (some ⟨b, i * n + off, none⟩)) (.eptr t n i off)
  | sl (sh : Sh) (t len b cap : Nat) (h : κ t = some (some b)) (hs : ∃ E, w.shape? b = some (E, cap * sh.size)) (hl : len ≤ cap) (hm : cap ≤ maxLen) :
      Rep w ex κ (.slice (some ⟨b, 0, none⟩) len cap) (.sl sh t len)
  | slnil (sh : Sh) (t : Nat) (h : κ t = some none) : Rep w ex κ (.slice none 0 0) (.sl sh t 0)
  | mref (t b : Nat) (h : κ t = some (some b)) : Rep w ex κ (.map (some b)) (.mref t)
  | agg (vs : Array Value) (ps : List PV) (hs : vs.size = ps.length) (hr : ∀ (i : Nat) (v : Value) (p : PV), vs[i]? = some v → ps[i]? = some p → Rep w ex κ v p) : Rep w ex κ (.agg vs) (.agg ps)
  | tup (vs : Array Value) (ps : List PV) (hs : vs.size = ps.length) (hr : ∀ (i : Nat) (v : Value) (p : PV), vs[i]? = some v → ps[i]? = some p → Rep w ex κ v p) : Rep w ex κ (.tuple vs) (.tup ps)
  | fn (f : Nat) (first caps : Array Value) (ps qs : List PV) (h1 : first.size = ps.length) (h2 : caps.size = qs.length)
      (h3 : ∀ (i : Nat) (v : Value) (p : PV), first[i]? = some v → ps[i]? = some p → Rep w ex κ v p) (h4 : ∀ (i : Nat) (v : Value) (p : PV), caps[i]? = some v → qs[i]? = some p → Rep w ex κ v p) :
      Rep w ex κ (.func (.func f) first caps) (.fn f ps qs)
  | cond {v : Value} {p : PV} (b : Bool) (h : b = true → Rep w ex κ v p) (hu : b = false → v = undef) : Rep w ex κ v (.cond b p)

/-- Forget what is said of the tags that have moved. -/
def PV.kill (dead : Nat → Bool) : PV → PV
  | .sl sh t len => if dead t then .junk else .sl sh t len
  | .ref t off => if dead t then .junk else .ref t off
  | .eptr t n i off => if dead t then .junk else .eptr t n i off
  | .mref t => if dead t then .junk else .mref t
  | .agg ps => .agg (ps.map (PV.kill dead))
  | .tup ps => .tup (ps.map (PV.kill dead))
  | .fn f ps qs => .fn f (ps.map (PV.kill dead)) (qs.map (PV.kill dead))
  | .cond b p => .cond b (PV.kill dead p)
  | p => p

/-- How a world may go on: what isn't owned stays; owned rows keep their sizes; tags but the moved ones keep their blocks. -/
structure Goes (w : World) (κ : Kap) (w' : World) (κ' : Kap) (moved : Nat → Prop) : Prop where
  os : w'.os = w.os
  tape : w'.tape = w.tape
  output : w'.output = w.output
  size : w.heap.size ≤ w'.heap.size
  ex : κ'.ex = κ.ex
  block : ∀ b, b < w.heap.size → ¬ tagged κ b → w'.heap[b]? = w.heap[b]?
  out : ∀ b, b < w.heap.size → ¬ tagged κ b → ¬ tagged κ' b
  shape : ∀ b s, w.shape? b = some s → w'.shape? b = some s
  tags : ∀ t c, κ t = some c → ¬ moved t → κ' t = some c

theorem Goes.agree {w w' : World} {κ κ' : Kap} {m : Nat → Prop} (h : Goes w κ w' κ' m) : Agree w (own κ) w' (own κ') :=
  ⟨fun b hb ho => h.block b hb (fun ht => ho (.inr ht)), fun b hb ho h' => h'.elim (fun he => ho (.inl (by rw [← h.ex]; exact he))) (fun ht => h.out b hb (fun ht => ho (.inr ht)) ht)⟩

theorem Goes.trans {w w1 w2 : World} {κ κ1 κ2 : Kap} {m : Nat → Prop} (h : Goes w κ w1 κ1 m) (k : Goes w1 κ1 w2 κ2 m) : Goes w κ w2 κ2 m :=
  ⟨k.os.trans h.os, k.tape.trans h.tape, k.output.trans h.output, Nat.le_trans h.size k.size, k.ex.trans h.ex,
    fun b hb ho => (k.block b (Nat.lt_of_lt_of_le hb h.size) (h.out b hb ho)).trans (h.block b hb ho), fun b hb ho => k.out b (Nat.lt_of_lt_of_le hb h.size) (h.out b hb ho),
    fun b s hs => k.shape b s (h.shape b s hs), fun t c hc hm => k.tags t c (h.tags t c hc hm) hm⟩
theorem Goes.weak {w w' : World} {κ κ' : Kap} {m m' : Nat → Prop} (h : Goes w κ w' κ' m) (hm : ∀ t, m t → m' t) : Goes w κ w' κ' m' :=
  { h with tags := fun t c hc hn => h.tags t c hc (fun hh => hn (hm t hh)) }

theorem Goes.refl (w : World) (κ : Kap) (m : Nat → Prop) : Goes w κ w κ m := ⟨rfl, rfl, rfl, Nat.le_refl _, rfl, fun _ _ _ => rfl, fun _ _ h => h, fun _ _ h => h, fun _ _ h _ => h⟩

theorem RepC.kill {w : World} {ex : Nat → Prop} {dead : Nat → Bool} {v : Value} {p : PV} (h : RepC w ex v p) : RepC w ex v (p.kill dead) := by
  induction h with
  | int k n => simp only [PV.kill]; exact .int k n
  | bool b => simp only [PV.kill]; exact .bool b
  | str s => simp only [PV.kill]; exact .str s
  | fn f first caps ps qs h1 h2 h3 h4 ih3 ih4 =>
    simp only [PV.kill]
    refine .fn f first caps _ _ (by simpa using h1) (by simpa using h2) (fun i v p a b => ?_) (fun i v p a b => ?_)
    · rw [List.getElem?_map] at b
      cases hp : ps[i]? with
      | none => simp [hp] at b
      | some q => simp [hp] at b; subst b; exact ih3 i v q a hp
    · rw [List.getElem?_map] at b
      cases hp : qs[i]? with
      | none => simp [hp] at b
      | some q => simp [hp] at b; subst b; exact ih4 i v q a hp
  | nilFn => simp only [PV.kill]; exact .nilFn
  | nilPtr => simp only [PV.kill]; exact .nilPtr
  | nilSl => simp only [PV.kill]; exact .nilSl
  | nilMap => simp only [PV.kill]; exact .nilMap
  | list a len cap sh xs b off val hlen hcap hmax hfit ha hc hr ih => simp only [PV.kill]; exact .list a len cap sh xs b off val hlen hcap hmax hfit ha hc hr
  | full a len sh xs b off val hlen hmax hfit ha hc hr ih => simp only [PV.kill]; exact .full a len sh xs b off val hlen hmax hfit ha hc hr
  | cmap r kd es ents clock hx h hs hB hkd hk hv ihk ihv => simp only [PV.kill]; exact .cmap r kd es ents clock hx h hs hB hkd hk hv
  | cptr b o off sh x val hfit hoff hc hr ih => simp only [PV.kill]; exact .cptr b o off sh x val hfit hoff hc hr
  | agg vs ps hs hr ih =>
    simp only [PV.kill]
    refine .agg vs _ (by simpa using hs) (fun i v p a b => ?_)
    rw [List.getElem?_map] at b
    cases hp : ps[i]? with
    | none => simp [hp] at b
    | some q => simp [hp] at b; subst b; exact ih i v q a hp
  | tup vs ps hs hr ih =>
    simp only [PV.kill]
    refine .tup vs _ (by simpa using hs) (fun i v p a b => ?_)
    rw [List.getElem?_map] at b
    cases hp : ps[i]? with
    | none => simp [hp] at b
    | some q => simp [hp] at b; subst b; exact ih i v q a hp

/-- What is said of a value stays said, but for moved tags. -/
theorem Rep.goes {w w' : World} {κ κ' : Kap} {m : Nat → Prop} {dead : Nat → Bool} (hG : Goes w κ w' κ' m) (hd : ∀ t, m t → dead t = true) {v : Value} {p : PV}
    (h : Rep w (own κ) κ v p) : Rep w' (own κ') κ' v (p.kill dead) := by
  have hno : ∀ t, dead t ≠ true → ¬ m t := fun t h hm => h (hd t hm)
  induction h with
  | junk v => simp only [PV.kill]; exact .junk v
  | closed h => exact .closed (h.mono hG.agree).kill
  | ref t off b h =>
    simp only [PV.kill]; split
    · exact .junk _
    · rename_i hh; exact .ref t off b (hG.tags _ _ h (hno _ hh))
  | eptr t n i off b h =>
    simp only [PV.kill]; split
    · exact .junk _
    · rename_i hh; exact .eptr t n i off b (hG.tags _ _ h (hno _ hh))
  | sl sh t len b cap h hs hl hm =>
    simp only [PV.kill]; split
    · exact .junk _
    · rename_i hh; obtain ⟨E, hE⟩ := hs; exact .sl sh t len b cap (hG.tags _ _ h (hno _ hh)) ⟨E, hG.shape _ _ hE⟩ hl hm
  | slnil sh t h =>
    simp only [PV.kill]; split
    · exact .junk _
    · rename_i hh; exact .slnil sh t (hG.tags _ _ h (hno _ hh))
  | mref t b h =>
    simp only [PV.kill]; split
    · exact .junk _
    · rename_i hh; exact .mref t b (hG.tags _ _ h (hno _ hh))
  | agg vs ps hs hr ih =>
    simp only [PV.kill]
    refine .agg vs _ (by simpa using hs) (fun i v p a b => ?_)
    rw [List.getElem?_map] at b
    cases hp : ps[i]? with
    | none => simp [hp] at b
    | some q => simp [hp] at b; subst b; exact ih i v q a hp
  | tup vs ps hs hr ih =>
    simp only [PV.kill]
    refine .tup vs _ (by simpa using hs) (fun i v p a b => ?_)
    rw [List.getElem?_map] at b
    cases hp : ps[i]? with
    | none => simp [hp] at b
    | some q => simp [hp] at b; subst b; exact ih i v q a hp
  | fn f first caps ps qs h1 h2 h3 h4 ih3 ih4 =>
    simp only [PV.kill]
    refine .fn f first caps _ _ (by simpa using h1) (by simpa using h2) (fun i v p a b => ?_) (fun i v p a b => ?_)
    · rw [List.getElem?_map] at b
      cases hp : ps[i]? with
      | none => simp [hp] at b
      | some q => simp [hp] at b; subst b; exact ih3 i v q a hp
    · rw [List.getElem?_map] at b
      cases hp : qs[i]? with
      | none => simp [hp] at b
      | some q => simp [hp] at b; subst b; exact ih4 i v q a hp
  | cond b h hu ih => simp only [PV.kill]; exact .cond b (fun hb => ih hb) hu

/-- The same where no tag moves. -/
theorem Rep.still {w w' : World} {κ κ' : Kap} (hG : Goes w κ w' κ' fun _ => False) {v : Value} {p : PV} (h : Rep w (own κ) κ v p) : Rep w' (own κ') κ' v p := by
  induction h with
  | junk v => exact .junk v
  | closed h => exact .closed (h.mono hG.agree)
  | ref t off b h => exact .ref t off b (hG.tags _ _ h (fun h => h))
  | eptr t n i off b h => exact .eptr t n i off b (hG.tags _ _ h (fun h => h))
  | sl sh t len b cap h hs hl hm => obtain ⟨E, hE⟩ := hs; exact .sl sh t len b cap (hG.tags _ _ h (fun h => h)) ⟨E, hG.shape _ _ hE⟩ hl hm
  | slnil sh t h => exact .slnil sh t (hG.tags _ _ h (fun h => h))
  | mref t b h => exact .mref t b (hG.tags _ _ h (fun h => h))
  | agg vs ps hs hr ih => exact .agg vs _ hs ih
  | tup vs ps hs hr ih => exact .tup vs _ hs ih
  | fn f first caps ps qs h1 h2 h3 h4 ih3 ih4 => exact .fn f first caps _ _ h1 h2 ih3 ih4
  | cond b h hu ih => exact .cond b (fun hb => ih hb) hu

/-! ### Objects that a call owns -/
inductive MObj where
  | var (sh : Sh) (x : PV)
  | row (sh : Sh) (xs : List PV)
  | mp (kd : KK) (es : List (PV × PV))
  | iter (kd : KK) (es : List (PV × PV)) (seen : List Nat)
  deriving Inhabited

abbrev Mem := List (Option MObj)

/-- A variable's content has its shape. -/
def shaped : Sh → PV → Prop
  | none, x => x.isAgg = none
  | some n, x => ∃ cs, x = .agg cs ∧ cs.length = n

def MObj.kill (dead : Nat → Bool) : MObj → MObj
  | .var sh x => .var sh (x.kill dead)
  | o => o

inductive ORep (w : World) (ex : Nat → Prop) (κ : Kap) : Option Nat → MObj → Prop
  | var (b : Nat) (arr : Array Value) (E : TypeId) (sh : Sh) (x : PV) (h : w.heap[b]? = some (.cells arr E (0, 0))) (hs : arr.size = sh.size) (hsh : shaped sh x)
      (hr : ∀ (j : Nat) (p : PV) (v : Value), x.cells[j]? = some p → arr[j]? = some v → Rep w ex κ v p) : ORep w ex κ (some b) (.var sh x)
  | nilrow (sh : Sh) : ORep w ex κ none (.row sh [])
  | row (b : Nat) (cur : Array Value) (E : TypeId) (cap : Nat) (sh : Sh) (xs : List PV) (h : w.heap[b]? = some (.cells cur E (0, 0))) (hs : cur.size = cap * sh.size) (hm : cap ≤ maxLen)
      (hl : xs.length ≤ cap) (hfit : ∀ x ∈ xs, fits sh x) (hr : ∀ (j : Nat) (p : PV) (v : Value), (flat xs)[j]? = some p → cur[j]? = some v → RepC w ex v p) : ORep w ex κ (some b) (.row sh xs)
  | mp (b : Nat) (kd : KK) (es : List (PV × PV)) (ents : Array MapEntry) (clock : Nat) (h : w.heap[b]? = some (.map ents clock)) (hs : ents.size = es.length) (hb : Born ents clock) (hkd : ∀ q ∈ es, keyOk kd q.1 = true)
      (hk : ∀ (i : Nat) (e : MapEntry) (q : PV × PV), ents[i]? = some e → es[i]? = some q → RepC w ex e.key q.1)
      (hv : ∀ (i : Nat) (e : MapEntry) (q : PV × PV), ents[i]? = some e → es[i]? = some q → RepC w ex e.val q.2) : ORep w ex κ (some b) (.mp kd es)
  | iter (b : Nat) (kd : KK) (es : List (PV × PV)) (seen : List Nat) (m : Option Nat) (h : w.heap[b]? = some (.mapIter m es.length seen.toArray es.length))
      (hm : (m = none ∧ es = []) ∨ ∃ r, m = some r ∧ RepC w ex (.map (some r)) (.cmap kd es)) : ORep w ex κ (some b) (.iter kd es seen)

structure Sim (w : World) (κ : Kap) (μ : Mem) : Prop where
  inj : ∀ t t' b, κ t = some (some b) → κ t' = some (some b) → t = t'
  lt : ∀ t b, κ t = some (some b) → b < w.heap.size
  live : ∀ t c, κ t = some c → ∃ o, μ[t]? = some (some o) ∧ ORep w (own κ) κ c o
  dead : ∀ t o, μ[t]? = some (some o) → κ t ≠ none
  exlt : ∀ b, κ.ex b → b < w.heap.size
  exout : ∀ t b, κ t = some (some b) → ¬ κ.ex b

end PG
