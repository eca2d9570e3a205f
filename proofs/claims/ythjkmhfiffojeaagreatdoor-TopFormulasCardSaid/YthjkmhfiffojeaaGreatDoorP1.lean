import Derived.Calls
import Derived.Below
import Derived.Laws.AppendOwn
import Derived.Laws.Cells
import Derived.Laws.Entries
import Derived.ChangeKeysEq
import Derived.Laws.Strings
import Derived.Laws.Tables
import Derived.MapKept
namespace PG
open Go
abbrev Sh := Option Nat
def Sh.size : Sh -> Nat
 | none => 1
 | some n => n
inductive KK where
 | int (k : IntKind)
 | str
 | bool
 deriving Inhabited, DecidableEq
inductive PV where
 | junk
 | int (k : IntKind) (n : Int)
 | bool (b : Bool)
 | str (s : List UInt8)
 | fn (f : Nat) (first caps : List PV)
 | nilFn
 | nilPtr
 | jAH
 | list (sh : Sh) (xs : List PV)
 | jA0
 | jC9 (kd : KK) (es : List (PV × PV))
 | full (sh : Sh) (xs : List PV)
 | jC2 (sh : Sh) (x : PV) (off : Nat)
 | ref (t off : Nat)
 | jDX (t n i off : Nat)
 | sl (sh : Sh) (t len : Nat)
 | mref (t : Nat)
 | agg (cs : List PV)
 | tup (vs : List PV)
 | cond (b : Bool) (p : PV)
 | yl (l : Nat)
 deriving Inhabited
def jBT : KK -> PV -> Bool
 | .int k, .int k' _ => decide (k' = k)
 | .str, .str _ => true
 | .bool, .bool _ => true
 | _, _ => false
def PV.cells : PV -> List PV
 | .agg cs => cs
 | p => [p]
def PV.scalar : PV -> Bool
 | .junk | .agg _ | .tup _ | .cond _ _ => false
 | _ => true
def PV.isAgg : PV -> Option (List PV)
 | .agg cs => some cs
 | _ => none
def fits : Sh -> PV -> Prop
 | none, x => x.scalar = true
 | some n, x => ∃ cs, x = .agg cs ∧ cs.length = n ∧ ∀ c ∈ cs, c.scalar = true
def flat (xs : List PV) : List PV := xs.flatMap PV.cells
theorem fits.len {sh : Sh} {x : PV} (h : fits sh x) : x.cells.length = sh.size := by
 cases sh with
 | none => cases x <;> simp_all [fits, PV.cells, PV.scalar, Sh.size]
 | some n => obtain ⟨cs, rfl, h, _⟩ := h; simpa [PV.cells, Sh.size] using h
theorem fits.kP0 {sh : Sh} {x : PV} (h : fits sh x) : ∀ c ∈ x.cells, c.scalar = true := by
 cases sh with
 | none => intro c hc; cases x <;> simp_all [fits, PV.cells, PV.scalar]
 | some n => obtain ⟨cs, rfl, h, hc⟩ := h; simpa [PV.cells] using hc
theorem flat_length {sh : Sh} : ∀ {xs : List PV}, (∀ x ∈ xs, fits sh x) -> (flat xs).length = xs.length * sh.size
 | [], _ => by simp [flat]
 | x :: xs, h => by
  have h1 := (h x (by simp)).len
  have h2 := flat_length (sh := sh) (xs := xs) (fun y hy => h y (by simp [hy]))
  simp only [flat, List.flatMap_cons, List.length_append] at *
  rw [h1, h2]; simp only [List.length_cons]; rw [Nat.add_mul]; omega
theorem jDJ (xs ys : List PV) : flat (xs ++ ys) = flat xs ++ flat ys := by simp [flat]
theorem flat_get {sh : Sh} : ∀ {xs : List PV}, (∀ x ∈ xs, fits sh x) -> ∀ (i j : Nat) (x : PV), xs[i]? = some x -> j < sh.size -> (flat xs)[i * sh.size + j]? = x.cells[j]?
 | [], _, i, _, _, hx, _ => by simp at hx
 | y :: xs, h, i, j, x, hx, hj => by
  have h1 := (h y (by simp)).len
  simp only [flat, List.flatMap_cons]
  cases i with
  | zero =>
   simp at hx; subst hx
   rw [List.getElem?_append_left (by simpa [h1] using hj)]; simp
  | succ i =>
   rw [List.getElem?_append_right (by rw [h1, Nat.add_mul]; omega), h1]
   have := flat_get (sh := sh) (xs := xs) (fun y hy => h y (by simp [hy])) i j x (by simpa using hx) hj
   rw [<- this]; simp only [flat]; congr 1; rw [Nat.add_mul]; omega
theorem jEH {sh : Sh} : ∀ {xs : List PV}, (∀ x ∈ xs, fits sh x) -> ∀ k, flat (xs.take k) = (flat xs).take (k * sh.size)
 | [], _, k => by simp [flat]
 | y :: xs, h, k => by
  have h1 := (h y (by simp)).len
  cases k with
  | zero => simp [flat]
  | succ k =>
   have := jEH (sh := sh) (xs := xs) (fun y hy => h y (by simp [hy])) k
   simp only [flat, List.take_succ_cons, List.flatMap_cons] at *
   have e : (k + 1) * sh.size = y.cells.length + k * sh.size := by rw [h1, Nat.add_mul]; omega
   rw [this, e, List.take_length_add_append]
def Born (ents : Array MapEntry) (clock : Nat) : Prop :=
 (∀ (i : Nat) (e : MapEntry), ents[i]? = some e -> e.born = i) ∧ clock = ents.size
inductive jAW (w : World) (ex : Nat -> Prop) : Value -> PV -> Prop
 | int (k : IntKind) (n : Int) : jAW w ex (.int k n) (.int k n)
 | bool (b : Bool) : jAW w ex (.bool b) (.bool b)
 | str (s : ByteArray) : jAW w ex (.string s) (.str s.data.toList)
 | fn (f : Nat) (first caps : Array Value) (ps qs : List PV) (h1 : first.size = ps.length) (h2 : caps.size = qs.length)
   (h3 : ∀ (i : Nat) (v : Value) (p : PV), first[i]? = some v -> ps[i]? = some p -> jAW w ex v p) (h4 : ∀ (i : Nat) (v : Value) (p : PV), caps[i]? = some v -> qs[i]? = some p -> jAW w ex v p) :
   jAW w ex (.func (.func f) first caps) (.fn f ps qs)
 | nilFn : jAW w ex .nilFunc .nilFn
 | nilPtr : jAW w ex (.pointer none) .nilPtr
 | jAH : jAW w ex (.slice none 0 0) .jAH
 | jA0 : jAW w ex (.map none) .jA0
 | yl (l : Nat) : jAW w ex (.func (.yield l) #[] #[]) (.yl l)
 | list (a : Option Addr) (len cap : Nat) (sh : Sh) (xs : List PV) (b off : Nat) (val : Nat -> Value) (hlen : len = xs.length) (hcap : len <= cap) (hmax : cap <= maxLen)
   (hfit : ∀ x ∈ xs, fits sh x) (ha : xs ≠ [] -> a = some ⟨b, off, none⟩)
   (hc : ∀ j, j < (flat xs).length -> ¬ ex b ∧ w.cell? ⟨b, off + j, none⟩ = some (val j))
   (hr : ∀ (j : Nat) (p : PV), (flat xs)[j]? = some p -> jAW w ex (val j) p) : jAW w ex (.slice a len cap) (.list sh xs)
 | full (a : Option Addr) (len : Nat) (sh : Sh) (xs : List PV) (b off : Nat) (val : Nat -> Value) (hlen : len = xs.length) (hmax : len <= maxLen)
   (hfit : ∀ x ∈ xs, fits sh x) (ha : xs ≠ [] -> a = some ⟨b, off, none⟩)
   (hc : ∀ j, j < (flat xs).length -> ¬ ex b ∧ w.cell? ⟨b, off + j, none⟩ = some (val j))
   (hr : ∀ (j : Nat) (p : PV), (flat xs)[j]? = some p -> jAW w ex (val j) p) : jAW w ex (.slice a len len) (.full sh xs)
 | jC9 (r : Nat) (kd : KK) (es : List (PV × PV)) (ents : Array MapEntry) (clock : Nat) (hx : ¬ ex r) (h : w.heap[r]? = some (.map ents clock)) (hs : ents.size = es.length) (hb : Born ents clock) (hkd : ∀ q ∈ es, jBT kd q.1 = true)
   (hk : ∀ (i : Nat) (e : MapEntry) (q : PV × PV), ents[i]? = some e -> es[i]? = some q -> jAW w ex e.key q.1)
   (hv : ∀ (i : Nat) (e : MapEntry) (q : PV × PV), ents[i]? = some e -> es[i]? = some q -> jAW w ex e.val q.2) : jAW w ex (.map (some r)) (.jC9 kd es)
 | jC2 (b o off : Nat) (sh : Sh) (x : PV) (val : Nat -> Value) (hfit : fits sh x) (hoff : off <= sh.size)
   (hc : ∀ j, j < x.cells.length -> ¬ ex b ∧ w.cell? ⟨b, o + j, none⟩ = some (val j))
   (hr : ∀ (j : Nat) (p : PV), x.cells[j]? = some p -> jAW w ex (val j) p) : jAW w ex (.pointer (some ⟨b, o + off, none⟩)) (.jC2 sh x off)
 | agg (vs : Array Value) (ps : List PV) (hs : vs.size = ps.length) (hr : ∀ (i : Nat) (v : Value) (p : PV), vs[i]? = some v -> ps[i]? = some p -> jAW w ex v p) : jAW w ex (.agg vs) (.agg ps)
 | tup (vs : Array Value) (ps : List PV) (hs : vs.size = ps.length) (hr : ∀ (i : Nat) (v : Value) (p : PV), vs[i]? = some v -> ps[i]? = some p -> jAW w ex v p) : jAW w ex (.tuple vs) (.tup ps)
structure Agree (w : World) (ex : Nat -> Prop) (w' : World) (ex' : Nat -> Prop) : Prop where
 block : ∀ b, b < w.heap.size -> ¬ ex b -> w'.heap[b]? = w.heap[b]?
 out : ∀ b, b < w.heap.size -> ¬ ex b -> ¬ ex' b
theorem Agree.refl (w : World) (ex : Nat -> Prop) : Agree w ex w ex := ⟨fun _ _ _ => rfl, fun _ _ h => h⟩
theorem jAW.mono {w w' : World} {ex ex' : Nat -> Prop} (hA : Agree w ex w' ex') {v : Value} {p : PV} (h : jAW w ex v p) : jAW w' ex' v p := by
 induction h with
 | int k n => exact .int k n
 | bool b => exact .bool b
 | str s => exact .str s
 | fn f first caps ps qs h1 h2 h3 h4 ih3 ih4 => exact .fn f first caps ps qs h1 h2 (fun i v p a b => ih3 i v p a b) (fun i v p a b => ih4 i v p a b)
 | nilFn => exact .nilFn
 | nilPtr => exact .nilPtr
 | jAH => exact .jAH
 | jA0 => exact .jA0
 | yl l => exact .yl l
 | list a len cap sh xs b off val hlen hcap hmax hfit ha hc hr ih =>
  refine .list a len cap sh xs b off val hlen hcap hmax hfit ha (fun j hj => ?_) ih
  obtain ⟨h1, h2⟩ := hc j hj
  have hb := World.block_lt_of_cell? _ _ h2
  exact ⟨hA.out _ hb h1, by rw [World.cell?_of_block (hA.block _ hb h1)]; exact h2⟩
 | full a len sh xs b off val hlen hmax hfit ha hc hr ih =>
  refine .full a len sh xs b off val hlen hmax hfit ha (fun j hj => ?_) ih
  obtain ⟨h1, h2⟩ := hc j hj
  have hb := World.block_lt_of_cell? _ _ h2
  exact ⟨hA.out _ hb h1, by rw [World.cell?_of_block (hA.block _ hb h1)]; exact h2⟩
 | jC9 r kd es ents clock hx h hs hB hkd hk hv ihk ihv =>
  have hb : r < w.heap.size := by
   rcases Nat.lt_or_ge r w.heap.size with h' | h'
   ·exact h'
   ·simp [Array.getElem?_eq_none h'] at h
  exact .jC9 r kd es ents clock (hA.out _ hb hx) (by rw [hA.block _ hb hx]; exact h) hs hB hkd ihk ihv
 | jC2 b o off sh x val hfit hoff hc hr ih =>
  refine .jC2 b o off sh x val hfit hoff (fun j hj => ?_) ih
  obtain ⟨h1, h2⟩ := hc j hj
  have hb := World.block_lt_of_cell? _ _ h2
  exact ⟨hA.out _ hb h1, by rw [World.cell?_of_block (hA.block _ hb h1)]; exact h2⟩
 | agg vs ps hs hr ih => exact .agg vs ps hs ih
 | tup vs ps hs hr ih => exact .tup vs ps hs ih
structure Kap where
 tag : Nat -> Option (Option Nat)
 ex : Nat -> Prop
instance : CoeFun Kap (fun _ => Nat -> Option (Option Nat)) := ⟨Kap.tag⟩
def tagged (κ : Kap) (b : Nat) : Prop := ∃ t, κ t = some (some b)
def own (κ : Kap) (b : Nat) : Prop := κ.ex b ∨ tagged κ b
inductive Rep (w : World) (ex : Nat -> Prop) (κ : Kap) : Value -> PV -> Prop
 | junk (v : Value) : Rep w ex κ v .junk
 | closed {v : Value} {p : PV} (h : jAW w ex v p) : Rep w ex κ v p
 | ref (t off b : Nat) (h : κ t = some (some b)) : Rep w ex κ (.pointer (some ⟨b, off, none⟩)) (.ref t off)
 | jDX (t n i off b : Nat) (h : κ t = some (some b)) : Rep w ex κ (.pointer (some ⟨b, i * n + off, none⟩)) (.jDX t n i off)
 | sl (sh : Sh) (t len b cap : Nat) (h : κ t = some (some b)) (hs : ∃ E, w.shape? b = some (E, cap * sh.size)) (hl : len <= cap) (hm : cap <= maxLen) :
   Rep w ex κ (.slice (some ⟨b, 0, none⟩) len cap) (.sl sh t len)
 | slnil (sh : Sh) (t : Nat) (h : κ t = some none) : Rep w ex κ (.slice none 0 0) (.sl sh t 0)
 | mref (t b : Nat) (h : κ t = some (some b)) : Rep w ex κ (.map (some b)) (.mref t)
 | agg (vs : Array Value) (ps : List PV) (hs : vs.size = ps.length) (hr : ∀ (i : Nat) (v : Value) (p : PV), vs[i]? = some v -> ps[i]? = some p -> Rep w ex κ v p) : Rep w ex κ (.agg vs) (.agg ps)
 | tup (vs : Array Value) (ps : List PV) (hs : vs.size = ps.length) (hr : ∀ (i : Nat) (v : Value) (p : PV), vs[i]? = some v -> ps[i]? = some p -> Rep w ex κ v p) : Rep w ex κ (.tuple vs) (.tup ps)
 | fn (f : Nat) (first caps : Array Value) (ps qs : List PV) (h1 : first.size = ps.length) (h2 : caps.size = qs.length)
   (h3 : ∀ (i : Nat) (v : Value) (p : PV), first[i]? = some v -> ps[i]? = some p -> Rep w ex κ v p) (h4 : ∀ (i : Nat) (v : Value) (p : PV), caps[i]? = some v -> qs[i]? = some p -> Rep w ex κ v p) :
   Rep w ex κ (.func (.func f) first caps) (.fn f ps qs)
 | cond {v : Value} {p : PV} (b : Bool) (h : b = true -> Rep w ex κ v p) (hu : b = false -> v = undef) : Rep w ex κ v (.cond b p)
def PV.kill (dead : Nat -> Bool) : PV -> PV
 | .sl sh t len => if dead t then .junk else .sl sh t len
 | .ref t off => if dead t then .junk else .ref t off
 | .jDX t n i off => if dead t then .junk else .jDX t n i off
 | .mref t => if dead t then .junk else .mref t
 | .agg ps => .agg (ps.map (PV.kill dead))
 | .tup ps => .tup (ps.map (PV.kill dead))
 | .fn f ps qs => .fn f (ps.map (PV.kill dead)) (qs.map (PV.kill dead))
 | .cond b p => .cond b (PV.kill dead p)
 | p => p
structure Goes (w : World) (κ : Kap) (w' : World) (κ' : Kap) (moved : Nat -> Prop) : Prop where
 os : w'.os = w.os
 tape : w'.tape = w.tape
 output : w'.output = w.output
 size : w.heap.size <= w'.heap.size
 ex : κ'.ex = κ.ex
 block : ∀ b, b < w.heap.size -> ¬ tagged κ b -> w'.heap[b]? = w.heap[b]?
 out : ∀ b, b < w.heap.size -> ¬ tagged κ b -> ¬ tagged κ' b
 shape : ∀ b s, w.shape? b = some s -> w'.shape? b = some s
 tags : ∀ t c, κ t = some c -> ¬ moved t -> κ' t = some c
theorem Goes.agree {w w' : World} {κ κ' : Kap} {m : Nat -> Prop} (h : Goes w κ w' κ' m) : Agree w (own κ) w' (own κ') :=
 ⟨fun b hb ho => h.block b hb (fun ht => ho (.inr ht)), fun b hb ho h' => h'.elim (fun he => ho (.inl (by rw [<- h.ex]; exact he))) (fun ht => h.out b hb (fun ht => ho (.inr ht)) ht)⟩
theorem Goes.trans {w w1 w2 : World} {κ κ1 κ2 : Kap} {m : Nat -> Prop} (h : Goes w κ w1 κ1 m) (k : Goes w1 κ1 w2 κ2 m) : Goes w κ w2 κ2 m :=
 ⟨k.os.trans h.os, k.tape.trans h.tape, k.output.trans h.output, Nat.le_trans h.size k.size, k.ex.trans h.ex,
  fun b hb ho => (k.block b (Nat.lt_of_lt_of_le hb h.size) (h.out b hb ho)).trans (h.block b hb ho), fun b hb ho => k.out b (Nat.lt_of_lt_of_le hb h.size) (h.out b hb ho),
  fun b s hs => k.shape b s (h.shape b s hs), fun t c hc hm => k.tags t c (h.tags t c hc hm) hm⟩
theorem Goes.weak {w w' : World} {κ κ' : Kap} {m m' : Nat -> Prop} (h : Goes w κ w' κ' m) (hm : ∀ t, m t -> m' t) : Goes w κ w' κ' m' :=
 { h with tags := fun t c hc hn => h.tags t c hc (fun hh => hn (hm t hh)) }
theorem Goes.refl (w : World) (κ : Kap) (m : Nat -> Prop) : Goes w κ w κ m := ⟨rfl, rfl, rfl, Nat.le_refl _, rfl, fun _ _ _ => rfl, fun _ _ h => h, fun _ _ h => h, fun _ _ h _ => h⟩
theorem jAW.kill {w : World} {ex : Nat -> Prop} {dead : Nat -> Bool} {v : Value} {p : PV} (h : jAW w ex v p) : jAW w ex v (p.kill dead) := by
 induction h with
 | int k n => simp only [PV.kill]; exact .int k n
 | bool b => simp only [PV.kill]; exact .bool b
 | str s => simp only [PV.kill]; exact .str s
 | fn f first caps ps qs h1 h2 h3 h4 ih3 ih4 =>
  simp only [PV.kill]
  refine .fn f first caps _ _ (by simpa using h1) (by simpa using h2) (fun i v p a b => ?_) (fun i v p a b => ?_)
  ·rw [List.getElem?_map] at b
   cases hp : ps[i]? with
   | none => simp [hp] at b
   | some q => simp [hp] at b; subst b; exact ih3 i v q a hp
  ·rw [List.getElem?_map] at b
   cases hp : qs[i]? with
   | none => simp [hp] at b
   | some q => simp [hp] at b; subst b; exact ih4 i v q a hp
 | nilFn => simp only [PV.kill]; exact .nilFn
 | nilPtr => simp only [PV.kill]; exact .nilPtr
 | jAH => simp only [PV.kill]; exact .jAH
 | jA0 => simp only [PV.kill]; exact .jA0
 | yl l => simp only [PV.kill]; exact .yl l
 | list a len cap sh xs b off val hlen hcap hmax hfit ha hc hr ih => simp only [PV.kill]; exact .list a len cap sh xs b off val hlen hcap hmax hfit ha hc hr
 | full a len sh xs b off val hlen hmax hfit ha hc hr ih => simp only [PV.kill]; exact .full a len sh xs b off val hlen hmax hfit ha hc hr
 | jC9 r kd es ents clock hx h hs hB hkd hk hv ihk ihv => simp only [PV.kill]; exact .jC9 r kd es ents clock hx h hs hB hkd hk hv
 | jC2 b o off sh x val hfit hoff hc hr ih => simp only [PV.kill]; exact .jC2 b o off sh x val hfit hoff hc hr
 | agg vs ps hs hr ih =>
  simp only [PV.kill]
  refine .agg vs _ (by simpa using hs) (fun i v p a b => ?_)
  rw [List.getElem?_map] at b
  cases hp : ps[i]? with
  | none => simp [hp] at b
  | some q => simp [hp] at b; subst b; exact ih i v q a hp
 | tup vs ps hs hr ih =>
  simp only [PV.kill]
  refine .tup vs _ (by simpa using hs) (fun i v p a b => ?_)
  rw [List.getElem?_map] at b
  cases hp : ps[i]? with
  | none => simp [hp] at b
  | some q => simp [hp] at b; subst b; exact ih i v q a hp
theorem Rep.goes {w w' : World} {κ κ' : Kap} {m : Nat -> Prop} {dead : Nat -> Bool} (hG : Goes w κ w' κ' m) (hd : ∀ t, m t -> dead t = true) {v : Value} {p : PV}
  (h : Rep w (own κ) κ v p) : Rep w' (own κ') κ' v (p.kill dead) := by
 have hno : ∀ t, dead t ≠ true -> ¬ m t := fun t h hm => h (hd t hm)
 induction h with
 | junk v => simp only [PV.kill]; exact .junk v
 | closed h => exact .closed (h.mono hG.agree).kill
 | ref t off b h =>
  simp only [PV.kill]; split
  ·exact .junk _
  ·rename_i hh; exact .ref t off b (hG.tags _ _ h (hno _ hh))
 | jDX t n i off b h =>
  simp only [PV.kill]; split
  ·exact .junk _
  ·rename_i hh; exact .jDX t n i off b (hG.tags _ _ h (hno _ hh))
 | sl sh t len b cap h hs hl hm =>
  simp only [PV.kill]; split
  ·exact .junk _
  ·rename_i hh; obtain ⟨E, hE⟩ := hs; exact .sl sh t len b cap (hG.tags _ _ h (hno _ hh)) ⟨E, hG.shape _ _ hE⟩ hl hm
 | slnil sh t h =>
  simp only [PV.kill]; split
  ·exact .junk _
  ·rename_i hh; exact .slnil sh t (hG.tags _ _ h (hno _ hh))
 | mref t b h =>
  simp only [PV.kill]; split
  ·exact .junk _
  ·rename_i hh; exact .mref t b (hG.tags _ _ h (hno _ hh))
 | agg vs ps hs hr ih =>
  simp only [PV.kill]
  refine .agg vs _ (by simpa using hs) (fun i v p a b => ?_)
  rw [List.getElem?_map] at b
  cases hp : ps[i]? with
  | none => simp [hp] at b
  | some q => simp [hp] at b; subst b; exact ih i v q a hp
 | tup vs ps hs hr ih =>
  simp only [PV.kill]
  refine .tup vs _ (by simpa using hs) (fun i v p a b => ?_)
  rw [List.getElem?_map] at b
  cases hp : ps[i]? with
  | none => simp [hp] at b
  | some q => simp [hp] at b; subst b; exact ih i v q a hp
 | fn f first caps ps qs h1 h2 h3 h4 ih3 ih4 =>
  simp only [PV.kill]
  refine .fn f first caps _ _ (by simpa using h1) (by simpa using h2) (fun i v p a b => ?_) (fun i v p a b => ?_)
  ·rw [List.getElem?_map] at b
   cases hp : ps[i]? with
   | none => simp [hp] at b
   | some q => simp [hp] at b; subst b; exact ih3 i v q a hp
  ·rw [List.getElem?_map] at b
   cases hp : qs[i]? with
   | none => simp [hp] at b
   | some q => simp [hp] at b; subst b; exact ih4 i v q a hp
 | cond b h hu ih => simp only [PV.kill]; exact .cond b (fun hb => ih hb) hu
theorem Rep.still {w w' : World} {κ κ' : Kap} (hG : Goes w κ w' κ' fun _ => False) {v : Value} {p : PV} (h : Rep w (own κ) κ v p) : Rep w' (own κ') κ' v p := by
 induction h with
 | junk v => exact .junk v
 | closed h => exact .closed (h.mono hG.agree)
 | ref t off b h => exact .ref t off b (hG.tags _ _ h (fun h => h))
 | jDX t n i off b h => exact .jDX t n i off b (hG.tags _ _ h (fun h => h))
 | sl sh t len b cap h hs hl hm => obtain ⟨E, hE⟩ := hs; exact .sl sh t len b cap (hG.tags _ _ h (fun h => h)) ⟨E, hG.shape _ _ hE⟩ hl hm
 | slnil sh t h => exact .slnil sh t (hG.tags _ _ h (fun h => h))
 | mref t b h => exact .mref t b (hG.tags _ _ h (fun h => h))
 | agg vs ps hs hr ih => exact .agg vs _ hs ih
 | tup vs ps hs hr ih => exact .tup vs _ hs ih
 | fn f first caps ps qs h1 h2 h3 h4 ih3 ih4 => exact .fn f first caps _ _ h1 h2 ih3 ih4
 | cond b h hu ih => exact .cond b (fun hb => ih hb) hu
inductive jAF where
 | var (sh : Sh) (x : PV)
 | row (sh : Sh) (xs : List PV)
 | mp (kd : KK) (es : List (PV × PV))
 | mpo (kd : KK) (es : List (PV × PV))
 | mpg (kd : KK) (es : List (PV × PV))
 | iter (kd : KK) (es : List (PV × PV)) (seen : List Nat)
 deriving Inhabited
abbrev Mem := List (Option jAF)
def shaped : Sh -> PV -> Prop
 | none, x => x.isAgg = none
 | some n, x => ∃ cs, x = .agg cs ∧ cs.length = n
def jAF.kill (dead : Nat -> Bool) : jAF -> jAF
 | .var sh x => .var sh (x.kill dead)
 | .mpo kd es => .mpo kd (es.map fun q => (q.1, q.2.kill dead))
 | o => o
inductive jD7 (w : World) (ex : Nat -> Prop) (κ : Kap) : Option Nat -> jAF -> Prop
 | var (b : Nat) (arr : Array Value) (E : TypeId) (sh : Sh) (x : PV) (h : w.heap[b]? = some (.cells arr E (0, 0))) (hs : arr.size = sh.size) (hsh : shaped sh x)
   (hr : ∀ (j : Nat) (p : PV) (v : Value), x.cells[j]? = some p -> arr[j]? = some v -> Rep w ex κ v p) : jD7 w ex κ (some b) (.var sh x)
 | jCE (sh : Sh) : jD7 w ex κ none (.row sh [])
 | row (b : Nat) (cur : Array Value) (E : TypeId) (cap : Nat) (sh : Sh) (xs : List PV) (h : w.heap[b]? = some (.cells cur E (0, 0))) (hs : cur.size = cap * sh.size) (hm : cap <= maxLen)
   (hl : xs.length <= cap) (hfit : ∀ x ∈ xs, fits sh x) (hr : ∀ (j : Nat) (p : PV) (v : Value), (flat xs)[j]? = some p -> cur[j]? = some v -> jAW w ex v p) : jD7 w ex κ (some b) (.row sh xs)
 | mp (b : Nat) (kd : KK) (es : List (PV × PV)) (ents : Array MapEntry) (clock : Nat) (h : w.heap[b]? = some (.map ents clock)) (hs : ents.size = es.length) (hb : Born ents clock) (hkd : ∀ q ∈ es, jBT kd q.1 = true)
   (hk : ∀ (i : Nat) (e : MapEntry) (q : PV × PV), ents[i]? = some e -> es[i]? = some q -> jAW w ex e.key q.1)
   (hv : ∀ (i : Nat) (e : MapEntry) (q : PV × PV), ents[i]? = some e -> es[i]? = some q -> jAW w ex e.val q.2) : jD7 w ex κ (some b) (.mp kd es)
 | mpo (b : Nat) (kd : KK) (es : List (PV × PV)) (ents : Array MapEntry) (clock : Nat) (h : w.heap[b]? = some (.map ents clock)) (hs : ents.size = es.length) (hb : Born ents clock) (hkd : ∀ q ∈ es, jBT kd q.1 = true)
   (hk : ∀ (i : Nat) (e : MapEntry) (q : PV × PV), ents[i]? = some e -> es[i]? = some q -> jAW w ex e.key q.1)
   (hv : ∀ (i : Nat) (e : MapEntry) (q : PV × PV), ents[i]? = some e -> es[i]? = some q -> Rep w ex κ e.val q.2) : jD7 w ex κ (some b) (.mpo kd es)
 | mpg (b : Nat) (kd : KK) (es : List (PV × PV)) (ents : Array MapEntry) (clock : Nat) (h : w.heap[b]? = some (.map ents clock)) (hs : ents.size = es.length) (hkd : ∀ q ∈ es, jBT kd q.1 = true)
   (hk : ∀ (i : Nat) (e : MapEntry) (q : PV × PV), ents[i]? = some e -> es[i]? = some q -> jAW w ex e.key q.1)
   (hv : ∀ (i : Nat) (e : MapEntry) (q : PV × PV), ents[i]? = some e -> es[i]? = some q -> jAW w ex e.val q.2) : jD7 w ex κ (some b) (.mpg kd es)
 | iter (b : Nat) (kd : KK) (es : List (PV × PV)) (seen : List Nat) (m : Option Nat) (h : w.heap[b]? = some (.mapIter m es.length seen.toArray es.length))
   (hm : (m = none ∧ es = []) ∨ ∃ r, m = some r ∧ jAW w ex (.map (some r)) (.jC9 kd es)) : jD7 w ex κ (some b) (.iter kd es seen)
structure Sim (w : World) (κ : Kap) (μ : Mem) : Prop where
 inj : ∀ t t' b, κ t = some (some b) -> κ t' = some (some b) -> t = t'
 lt : ∀ t b, κ t = some (some b) -> b < w.heap.size
 live : ∀ t c, κ t = some c -> ∃ o, μ[t]? = some (some o) ∧ jD7 w (own κ) κ c o
 dead : ∀ t o, μ[t]? = some (some o) -> κ t ≠ none
 jN3 : ∀ b, κ.ex b -> b < w.heap.size
 jEJ : ∀ t b, κ t = some (some b) -> ¬ κ.ex b
def PV.jRJ : Value -> Option PV
 | .int k n => some (.int k n)
 | .bool b => some (.bool b)
 | .string s => some (.str s.data.toList)
 | .slice none 0 0 => some .jAH
 | .map none => some .jA0
 | .pointer none => some .nilPtr
 | .nilFunc => some .nilFn
 | _ => none
theorem PV.jK9 {w : World} {ex : Nat -> Prop} {v : Value} {p : PV} (h : PV.jRJ v = some p) : jAW w ex v p := by
 unfold PV.jRJ at h
 split at h <;> simp at h <;> subst h
 ·exact .int _ _
 ·exact .bool _
 ·exact .str _
 ·exact .jAH
 ·exact .jA0
 ·exact .nilPtr
 ·exact .nilFn
inductive Opd where
 | tmp (t : Nat)
 | pv (p : PV)
 | glob (g : Nat)
 deriving Inhabited
def jBG : Operand -> Option Opd
  | .tmp t => some (.tmp t)
  | .const v => (PV.jRJ v).map .pv
  | .global g => some (.glob g)
  | .func f => some (.pv (.fn f [] []))
abbrev Env := List (Nat × PV)
def Env.get : Env -> Nat -> PV
 | [], _ => .junk
 | (j, p) :: e, i => if j = i then p else Env.get e i
abbrev jA3 := Nat -> Option (Sh × PV)
def jAM (G : jA3) (env : Env) : Opd -> PV
 | .tmp t => env.get t
 | .pv p => p
 | .glob g => match G g with
   | some (sh, x) => .jC2 sh x 0
   | none => .junk
def jZD (w : World) (ex : Nat -> Prop) (κ : Kap) (a : Act) (env : Env) : Prop := ∀ t, Rep w ex κ (a.tmps.getD t undef) (env.get t)
def jDF (w : World) (ex : Nat -> Prop) (G : jA3) : Prop := ∀ g sh x, G g = some (sh, x) -> jAW w ex (.pointer (some ⟨g, 0, none⟩)) (.jC2 sh x 0)
theorem jDS {w : World} {ex : Nat -> Prop} {κ : Kap} {a : Act} {env : Env} {G : jA3} (hR : jZD w ex κ a env) (hG : jDF w ex G) {o : Operand} {o' : Opd} (h : jBG o = some o') :
  Rep w ex κ (a.eval o) (jAM G env o') := by
 cases o with
 | tmp t => simp [jBG] at h; subst h; exact hR t
 | const v =>
  simp only [jBG, Option.map_eq_some_iff] at h
  obtain ⟨p, hp, rfl⟩ := h
  exact .closed (PV.jK9 hp)
 | global g =>
  simp [jBG] at h; subst h
  simp only [jAM]
  split
  ·exact .closed (hG _ _ _ ‹_›)
  ·exact .junk _
 | func f =>
  simp [jBG] at h; subst h
  exact .closed (.fn f #[] #[] [] [] rfl rfl (fun i v p h => by simp at h) (fun i v p h => by simp at h))
def jEZ (P : Program) (t : TypeId) : Option Sh :=
 match P.underlying t, P.info? t with
 | some (.struct _), some i => some (some i.size)
 | some (.array _ _), some i => some (some i.size)
 | some _, some i => if i.size = 1 then some none else none
 | _, _ => none
theorem jBD {P : Program} {t : TypeId} {sh : Sh} (h : jEZ P t = some sh) :
  (∀ w, (Go.sizeOf t).run P w = .ok sh.size w) ∧ (∀ w, (isAgg t).run P w = .ok sh.isSome w) ∧ ∃ i, P.info? t = some i ∧ i.size = sh.size := by
 unfold jEZ at h
 split at h
 ·rename_i hu hi
  simp at h; subst h
  refine ⟨fun w => ?_, fun w => ?_, _, hi, rfl⟩
  ·simp [Go.sizeOf, typeInfo, hi, Sh.size]
  ·simp [isAgg, run_underlying hu]
 ·rename_i hu hi
  simp at h; subst h
  refine ⟨fun w => ?_, fun w => ?_, _, hi, rfl⟩
  ·simp [Go.sizeOf, typeInfo, hi, Sh.size]
  ·simp [isAgg, run_underlying hu]
 ·rename_i d i hns hna hu hi
  split at h
  ·rename_i hs
   simp at h; subst h
   refine ⟨fun w => ?_, fun w => ?_, _, hi, hs⟩
   ·simp [Go.sizeOf, typeInfo, hi, hs, Sh.size]
   ·cases i <;> simp_all [isAgg, run_underlying hu]
  ·simp at h
 ·simp at h
inductive RK where
 | mov
 | pick
 | bin (op : BinOp)
 | un (op : UnOp)
 | conv (k : IntKind)
 | chr
 | kKV
 | b2s
 | jLI
 | jCH
 | jZF
 | jPD
 | kLR (n : Nat) (sh : Sh)
 | jMK (lo hi : Bool)
 | kKF (n : Nat)
 | slc (sh : Sh) (lo hi mx : Bool)
 | jAC (sh : Sh)
 | jCF (n : Nat) (sh : Sh)
 | jDW (off : Nat)
 | fld (off : Nat) (sh : Sh)
 | load (sh : Sh)
 | jLH
 | build (zero : List PV) (parts : List (Nat × Nat))
 | ext (i : Nat)
 | jTR (f : Nat) (kP3 : Nat)
 | min
 | max
 | jG5
 | eqA (neg : Bool) (ks : List Nat)
 | jI1 (neg : Bool) (k : Nat)
 | look (kd : KK) (ok : Bool) (z : PV)
 | eqB (neg : Bool)
 | dead
 deriving Inhabited
def eqC : List PV -> List PV -> Bool
 | .int _ a :: l, .int _ b :: l' => decide (a = b) && eqC l l'
 | .bool a :: l, .bool b :: l' => decide (a = b) && eqC l l'
 | .str a :: l, .str b :: l' => decide (a = b) && eqC l l'
 | _, _ => true
def eqK : List Nat -> List PV -> List PV -> Prop
 | [], [], [] => True
 | 0 :: ks, .int k _ :: l, .int k' _ :: l' => k = k' ∧ eqK ks l l'
 | 1 :: ks, .bool _ :: l, .bool _ :: l' => eqK ks l l'
 | 2 :: ks, .str _ :: l, .str _ :: l' => eqK ks l l'
 | _, _, _ => False
def jHP : Nat -> PV -> PV -> Option Bool
 | 0, .jAH, .jAH => some true
 | 0, .list _ (_ :: _), .jAH => some false
 | 0, .sl _ _ (_ + 1), .jAH => some false
 | 1, .jA0, .jA0 => some true
 | 1, .mref _, .jA0 => some false
 | 1, .jC9 _ _, .jA0 => some false
 | 2, .nilFn, .nilFn => some true
 | 2, .fn _ _ _, .nilFn => some false
 | 3, .nilPtr, .nilPtr => some true
 | 3, .ref _ _, .nilPtr => some false
 | 3, .jDX _ _ _ _, .nilPtr => some false
 | 3, .jC2 _ _ _, .nilPtr => some false
 | _, _, _ => none
def jPC : PV -> PV -> Bool
 | .int _ a, .int _ b => decide (a = b)
 | .str a, .str b => decide (a = b)
 | .bool a, .bool b => decide (a = b)
 | _, _ => false
def jI2 : List (PV × PV) -> PV -> Option (Nat × PV)
 | [], _ => none
 | q :: es, k => if jPC q.1 k = true then some (0, q.2) else (jI2 es k).map fun x => (x.1 + 1, x.2)
def jFK (es : List (PV × PV)) (k : PV) : Option PV := (jI2 es k).map (·.2)
def jF7 : List (PV × PV) -> PV -> PV -> List (PV × PV)
 | [], k, v => [(k, v)]
 | q :: es, k, v => if jPC q.1 k = true then (k, v) :: es else q :: jF7 es k v
def kBX (es : List (PV × PV)) (k : PV) : List (PV × PV) :=
 match jI2 es k with
 | some x => es.eraseIdx x.1
 | none => es
def jBQ (ok : Bool) (z : PV) (o : Option PV) : PV :=
 match ok with
 | true => .tup [o.getD z, .bool o.isSome]
 | false => o.getD z
def kAA : PV -> Int -> Int -> PV
 | .list sh xs, a, b => .list sh ((xs.take b.toNat).drop a.toNat)
 | .sl sh t _, _, b => .sl sh t b.toNat
 | .jAH, _, _ => .jAH
 | _, _, _ => .junk
def kGO (sh : Sh) : PV -> Int -> Int -> Prop
 | .list sh' xs, a, b => sh' = sh ∧ 0 <= a ∧ a <= b ∧ b <= xs.length
 | .sl sh' _ n, a, b => sh' = sh ∧ a = 0 ∧ 0 <= b ∧ b <= n
 | .jAH, a, b => a = 0 ∧ b = 0
 | _, _, _ => False
def jT2 : PV -> Int -> Int -> Int -> PV
 | .list sh xs, a, b, m => if m = b then .full sh ((xs.take b.toNat).drop a.toNat) else .list sh ((xs.take b.toNat).drop a.toNat)
 | .jAH, _, _, _ => .jAH
 | _, _, _, _ => .junk
def jY2 (sh : Sh) : PV -> Int -> Int -> Int -> Prop
 | .list sh' xs, a, b, m => sh' = sh ∧ 0 <= a ∧ a <= b ∧ b <= m ∧ m <= xs.length
 | .jAH, a, b, m => a = 0 ∧ b = 0 ∧ m = 0
 | _, _, _, _ => False
def lenV : PV -> Int
 | .list _ xs => xs.length
 | .sl _ _ n => n
 | _ => 0
def sub (sh : Sh) (cs : List PV) (o : Nat) : PV :=
 match sh with
 | none => (cs[o]?).getD .junk
 | some n => .agg ((cs.drop o).take n)
def cut (sh sh' : Sh) (x : PV) (o : Nat) : PV := if o = 0 ∧ sh' = sh then x else sub sh' x.cells o
def jBC (op : BinOp) (k : IntKind) (a b : Int) : PV :=
 match op with
 | .add => .int k (k.wrap (a + b))
 | .sub => .int k (k.wrap (a - b))
 | .mul => .int k (k.wrap (a * b))
 | .quo => .int k (k.wrap (a.tdiv b))
 | .rem => .int k (a.tmod b)
 | .and => .int k (k.wrap (BitVec.ofInt k.bits a &&& BitVec.ofInt k.bits b).toNat)
 | .or => .int k (k.wrap (BitVec.ofInt k.bits a ||| BitVec.ofInt k.bits b).toNat)
 | .xor => .int k (k.wrap (BitVec.ofInt k.bits a ^^^ BitVec.ofInt k.bits b).toNat)
 | .andNot => .int k (k.wrap (BitVec.ofInt k.bits a &&& ~~~ BitVec.ofInt k.bits b).toNat)
 | .eql => .bool (decide (a = b))
 | .neq => .bool (!decide (a = b))
 | .lss => .bool (decide (a < b))
 | .leq => .bool (decide (a <= b))
 | .gtr => .bool (decide (b < a))
 | .geq => .bool (decide (b <= a))
 | _ => .junk
def jE1 (op : BinOp) (a b : List UInt8) : PV :=
 match op with
 | .add => .str (a ++ b)
 | .eql => .bool (decide (a = b))
 | .neq => .bool (!decide (a = b))
 | .lss => .bool (Op.bytesLess a b)
 | .leq => .bool (Op.bytesLess a b || decide (a = b))
 | .gtr => .bool (!(Op.bytesLess a b || decide (a = b)))
 | .geq => .bool (!Op.bytesLess a b)
 | _ => .junk
def PV.bin (op : BinOp) : PV -> PV -> PV
 | .int k a, .int k' b =>
  match op with
  | .shl => .int k (k.wrap (a * 2 ^ (Min.min b.toNat k.bits)))
  | .shr => .int k (a.fdiv (2 ^ (Min.min b.toNat k.bits)))
  | _ => if k = k' then jBC op k a b else .junk
 | .str a, .str b => jE1 op a b
 | _, _ => .junk
def PV.jAI (op : BinOp) : PV -> PV -> Prop
 | .int k _, .int k' b =>
  match op with
  | .shl | .shr => 0 <= b
  | .quo | .rem => k = k' ∧ b ≠ 0
  | _ => k = k'
 | .str a, .str b =>
  match op with
  | .add => a.length + b.length <= 9223372036854775807
  | .eql | .neq | .lss | .leq | .gtr | .geq => True
  | _ => False
 | _, _ => False
theorem jAP {w : World} {ex : Nat -> Prop} {κ : Kap} {v : Value} {k : IntKind} {n : Int} (h : Rep w ex κ v (.int k n)) : v = .int k n := by
 cases h with | closed h => cases h; rfl
theorem jCC {w : World} {ex : Nat -> Prop} {κ : Kap} {v : Value} {b : Bool} (h : Rep w ex κ v (.bool b)) : v = .bool b := by
 cases h with | closed h => cases h; rfl
theorem jCP {w : World} {ex : Nat -> Prop} {κ : Kap} {v : Value} {l : List UInt8} (h : Rep w ex κ v (.str l)) : ∃ s : ByteArray, v = .string s ∧ s.data.toList = l := by
 cases h with | closed h => cases h; exact ⟨_, rfl, rfl⟩
def Same (w w' : World) : Prop := ∀ b, b < w.heap.size -> w'.heap[b]? = w.heap[b]?
theorem Same.refl (w : World) : Same w w := fun _ _ => rfl
theorem Same.cell {w w' : World} (h : Same w w') {a : Addr} {v : Value} (hc : w.cell? a = some v) : w'.cell? a = some v := by
 rw [World.cell?_of_block (h _ (World.block_lt_of_cell? _ _ hc))]; exact hc
def PV.toV : PV -> Value
 | .int k n => .int k n
 | .bool b => .bool b
 | .str l => .string ⟨l.toArray⟩
 | _ => undef
def PV.atom : PV -> Bool
 | .int _ _ | .bool _ | .str _ => true
 | _ => false
theorem PV.jTD {w : World} {ex : Nat -> Prop} {p : PV} (h : p.atom = true) : jAW w ex p.toV p := by
 cases p <;> simp [PV.atom] at h
 ·exact .int _ _
 ·exact .bool _
 ·exact .str _
theorem kDT {P : Program} {w : World} {ex : Nat -> Prop} {κ : Kap} (op : BinOp) (t : TypeId) (x y : Operand) {u v : Value} {p q : PV} (hu : Rep w ex κ u p) (hv : Rep w ex κ v q) (hok : PV.jAI op p q) :
  ∃ r, Rep w ex κ r (PV.bin op p q) ∧ ∀ w', (do eqGuard op t x y u v; Go.binOp op t u v : Sem Value).run P w' = .ok r w' := by
 unfold PV.jAI at hok
 split at hok
 ·rename_i k a k' b
  obtain rfl := jAP hu
  obtain rfl := jAP hv
  have hg : ∀ w', (eqGuard op t x y (.int k a) (.int k' b)).run P w' = .ok () w' := by
   intro w'; unfold eqGuard; cases op <;> rfl
  refine ⟨(PV.bin op (.int k a) (.int k' b)).toV, .closed (PV.jTD ?_), fun w' => ?_⟩
  ·cases op <;> simp only at hok <;> (try (obtain ⟨rfl, hb⟩ := hok)) <;> (try subst hok) <;> simp [PV.bin, jBC, PV.atom]
  ·rw [Sem.run_bind, hg]
   simp only [Result.andThen_ok]
   cases op <;> simp only at hok <;> (try (obtain ⟨rfl, hb⟩ := hok)) <;> (try subst hok) <;>
    simp [PV.bin, jBC, PV.toV, Go.binOp, Op.intArith, Op.intDiv, Op.intBits, Op.intCmp, Op.shift, *]
   ·intro h; omega
   ·intro h; omega
   ·rw [Bool.eq_iff_iff]; simp
   ·rw [Bool.eq_iff_iff]; simp
 ·rename_i a b
  obtain ⟨s, rfl, rfl⟩ := jCP hu
  obtain ⟨s', rfl, rfl⟩ := jCP hv
  have hg : ∀ w', (eqGuard op t x y (.string s) (.string s')).run P w' = .ok () w' := by
   intro w'; unfold eqGuard; cases op <;> rfl
  refine ⟨(PV.bin op (.str s.data.toList) (.str s'.data.toList)).toV, .closed (PV.jTD ?_), fun w' => ?_⟩
  ·cases op <;> simp only at hok <;> (try exact hok.elim) <;> simp [PV.bin, jE1, PV.atom]
  ·rw [Sem.run_bind, hg]
   simp only [Result.andThen_ok]
   cases op <;> simp only at hok <;> (try exact hok.elim) <;>
    simp [PV.bin, jE1, PV.toV, Go.binOp, Op.stringOp, ByteArray.toList_eq, *]
   ·rw [if_neg (by simp at hok; omega)]
    congr 2
    first | done | (apply ByteArray.ext; simp)
   all_goals (try congr 1) <;> rw [Bool.eq_iff_iff] <;> simp
 ·exact hok.elim
def byteOf : PV -> UInt8
 | .int _ n => UInt8.ofNat n.toNat
 | _ => 0
def PV.isB : PV -> Bool
 | .bool _ => true
 | _ => false
def PV.toB : PV -> Bool
 | .bool b => b
 | _ => false
theorem PV.kGX {p : PV} (h : p.isB = true) : p = .bool p.toB := by
 cases p <;> simp_all [PV.isB, PV.toB]
def PV.under (_g : Bool) : PV -> PV
 | .cond _ p => p
 | p => p
def PV.jBM (g : Bool) : PV -> Prop
 | .cond b _ => g = true -> b = true
 | _ => True
def Mem.get (μ : Mem) (t : Nat) : Option jAF := (μ[t]?).join
def behind (μ : Mem) : PV -> Option (Sh × PV × Nat)
 | .jC2 sh x off => some (sh, x, off)
 | .ref t off => match μ.get t with
   | some (.var sh x) => some (sh, x, off)
   | _ => none
 | .jDX t n i off => match μ.get t with
   | some (.row sh xs) => if n = sh.size then (xs[i]?).map fun x => (sh, x, off) else none
   | _ => none
 | _ => none
def PV.elems (μ : Mem) : PV -> Option (List PV)
 | .list _ xs => some xs
 | .jAH => some []
 | .sl _ t n => match μ.get t with
   | some (.row _ xs) => some (xs.take n)
   | _ => none
 | _ => none
def partOf (p : PV) (size : Nat) : Option (List PV) :=
 match p with
 | .agg cs => if cs.length = size then some cs else none
 | p => if p.scalar = true ∧ size = 1 then some [p] else none
def jCZ (cs : List PV) (off : Nat) (new : List PV) : List PV := cs.take off ++ new ++ cs.drop (off + new.length)
def jHI (cs : List PV) : List (Nat × Nat) -> List PV -> List PV
 | (off, size) :: ps, p :: qs => jHI (jCZ cs off ((partOf p size).getD [])) ps qs
 | _, _ => cs
def jIC (len : Nat) : List (Nat × Nat) -> List PV -> Prop
 | (off, size) :: ps, p :: qs => (partOf p size).isSome = true ∧ off + size <= len ∧ jIC len ps qs
 | [], [] => True
 | _, _ => False
def PV.jA7 (q : PV) (f : Int -> PV) : PV :=
 match q with
 | .int _ i => f i
 | _ => .junk
def PV.jA4 (q : PV) (f : Int -> Prop) : Prop :=
 match q with
 | .int _ i => f i
 | _ => False
def rdV (μ : Mem) : RK -> List PV -> PV
 | .mov, [p] => p
 | .pick, [.bool c, a, b] => .bool (if c = true then (a.under c).toB else (b.under (!c)).toB)
 | .bin op, [p, q] => PV.bin op p q
 | .un .neg, [.int k n] => .int k (k.wrap (0 - n))
 | .un .not, [.bool b] => .bool (!b)
 | .conv k, [.int _ n] => .int k (k.wrap n)
 | .chr, [.int _ n] => .str (Utf8.encode n).data.toList
 | .kKV, [.str l] => .str l
 | .jLI, [.str l] => .int .i64 l.length
 | .jCH, [.list _ xs] => .int .i64 xs.length
 | .jCH, [.jAH] => .int .i64 0
 | .jCH, [.sl _ _ n] => .int .i64 n
 | .jCH, [.full _ xs] => .int .i64 xs.length
 | .jZF, [.jA0] => .int .i64 0
 | .jZF, [.jC9 _ es] => .int .i64 es.length
 | .jZF, [.mref t] => match μ.get t with
   | some (.mp _ es) => .int .i64 es.length
   | some (.mpg _ es) => .int .i64 es.length
   | _ => .junk
 | .eqB neg, [.bool a, .bool b] => .bool (if neg = true then !decide (a = b) else decide (a = b))
 | .look _ ok z, [.jA0, _] => jBQ ok z none
 | .look _ ok z, [.jC9 _ es, k] => jBQ ok z (jFK es k)
 | .look _ ok z, [.mref t, k] => match μ.get t with
   | some (.mp _ es) => jBQ ok z (jFK es k)
   | some (.mpo _ es) => jBQ ok z (jFK es k)
   | some (.mpg _ es) => jBQ ok z (jFK es k)
   | _ => .junk
 | .slc _ true true false, [x, p, q] => p.jA7 fun a => q.jA7 fun b => kAA x a b
 | .slc _ true false false, [x, p] => p.jA7 fun a => kAA x a (lenV x)
 | .slc _ false true false, [x, q] => q.jA7 fun b => kAA x 0 b
 | .slc _ false true true, [x, q, r] => q.jA7 fun b => r.jA7 fun m => jT2 x 0 b m
 | .slc _ true true true, [x, p, q, r] => p.jA7 fun a => q.jA7 fun b => r.jA7 fun m => jT2 x a b m
 | .jPD, [.str l, q] => q.jA7 fun i => .int .u8 (l.getD i.toNat 0).toNat
 | .kLR _ sh, [.agg cs, q] => q.jA7 fun i => sub sh cs (i.toNat * sh.size)
 | .kKF _, [.jC2 _ y _, q] => q.jA7 fun i => .list none (y.cells.drop i.toNat)
 | .jMK true true, [.str l, p, q] => p.jA7 fun a => q.jA7 fun b => .str ((l.take b.toNat).drop a.toNat)
 | .jMK true false, [.str l, q] => q.jA7 fun a => .str (l.drop a.toNat)
 | .jMK false true, [.str l, q] => q.jA7 fun b => .str (l.take b.toNat)
 | .jAC sh, [.list _ xs, q] => q.jA7 fun i => .jC2 sh (xs.getD i.toNat .junk) 0
 | .jAC sh, [.sl _ t _, q] => q.jA7 fun i => .jDX t sh.size i.toNat 0
 | .jCF _ sh, [.jC2 sh' x o, q] => q.jA7 fun i => .jC2 sh' x (o + i.toNat * sh.size)
 | .jCF _ sh, [.ref t o, q] => q.jA7 fun i => .ref t (o + i.toNat * sh.size)
 | .jCF _ sh, [.jDX t n j o, q] => q.jA7 fun i => .jDX t n j (o + i.toNat * sh.size)
 | .jDW off, [.jC2 sh x o] => .jC2 sh x (o + off)
 | .jDW off, [.ref t o] => .ref t (o + off)
 | .jDW off, [.jDX t n i o] => .jDX t n i (o + off)
 | .fld off sh, [.agg cs] => sub sh cs off
 | .load sh, [p] => match behind μ p with
   | some (sh', x, o) => cut sh' sh x o
   | none => .junk
 | .jLH, [.jC2 sh x o] => cut sh none x o
 | .build zero parts, ps => .agg (jHI zero parts ps)
 | .ext i, [.tup vs] => vs.getD i .junk
 | .jTR f k, ps => .fn f (ps.take k) (ps.drop k)
 | .min, [.int k a, q] => q.jA7 fun b => .int k (Min.min a b)
 | .max, [.int k a, q] => q.jA7 fun b => .int k (Max.max a b)
 | .jG5, [p] => p
 | .eqA neg _, [.agg cs, .agg cs'] => .bool (if neg then !eqC cs cs' else eqC cs cs')
 | .jI1 neg k, [p, q] => match jHP k p q with
   | some b => .bool (if neg then !b else b)
   | none => .junk
 | _, _ => .junk
def rdD (μ : Mem) : RK -> List PV -> Prop
 | .mov, [_] => True
 | .pick, [.bool c, a, b] => a.jBM c ∧ b.jBM (!c) ∧ (if c = true then (a.under c).isB else (b.under (!c)).isB) = true
 | .bin op, [p, q] => PV.jAI op p q
 | .un .neg, [.int _ _] => True
 | .un .not, [.bool _] => True
 | .conv _, [.int _ _] => True
 | .chr, [.int _ _] => True
 | .kKV, [.str _] => True
 | .jLI, [.str _] | .jCH, [.list _ _] | .jCH, [.jAH] | .jCH, [.sl _ _ _] | .jCH, [.full _ _] | .jZF, [.jA0] | .jZF, [.jC9 _ _] => True
 | .jZF, [.mref t] => match μ.get t with
   | some (.mp _ _) => True
   | some (.mpg _ _) => True
   | _ => False
 | .eqB _, [.bool _, .bool _] => True
 | .look kd _ _, [.jA0, k] => jBT kd k = true
 | .look kd _ _, [.jC9 kd' _, k] => kd' = kd ∧ jBT kd k = true
 | .look kd _ _, [.mref t, k] => match μ.get t with
   | some (.mp kd' _) => kd' = kd ∧ jBT kd k = true
   | some (.mpo kd' _) => kd' = kd ∧ jBT kd k = true
   | some (.mpg kd' _) => kd' = kd ∧ jBT kd k = true
   | _ => False
 | .slc sh true true false, [x, p, q] => p.jA4 fun a => q.jA4 fun b => kGO sh x a b
 | .slc sh true false false, [x, p] => p.jA4 fun a => kGO sh x a (lenV x)
 | .slc sh false true false, [x, q] => q.jA4 fun b => kGO sh x 0 b
 | .slc sh false true true, [x, q, r] => q.jA4 fun b => r.jA4 fun m => jY2 sh x 0 b m
 | .slc sh true true true, [x, p, q, r] => p.jA4 fun a => q.jA4 fun b => r.jA4 fun m => jY2 sh x a b m
 | .jPD, [.str l, q] => q.jA4 fun i => 0 <= i ∧ i < l.length
 | .kLR n sh, [.agg cs, q] => q.jA4 fun i => 0 <= i ∧ i < n ∧ i.toNat * sh.size + sh.size <= cs.length
 | .kKF n, [.jC2 sh _ o, q] => q.jA4 fun i => sh = some n ∧ o = 0 ∧ n <= maxLen ∧ 0 <= i ∧ i <= n
 | .jMK true true, [.str l, p, q] => p.jA4 fun a => q.jA4 fun b => 0 <= a ∧ a <= b ∧ b <= l.length
 | .jMK true false, [.str l, q] => q.jA4 fun a => 0 <= a ∧ a <= l.length
 | .jMK false true, [.str l, q] => q.jA4 fun b => 0 <= b ∧ b <= l.length
 | .jAC sh, [.list sh' xs, q] => q.jA4 fun i => 0 <= i ∧ i < xs.length ∧ sh' = sh
 | .jAC sh, [.sl sh' _ n, q] => q.jA4 fun i => 0 <= i ∧ i < n ∧ sh' = sh
 | .jCF n sh, [.jC2 sh' _ o, q] => q.jA4 fun i => 0 <= i ∧ i < n ∧ o + i.toNat * sh.size <= sh'.size
 | .jCF n _, [.ref _ _, q] => q.jA4 fun i => 0 <= i ∧ i < n
 | .jCF n _, [.jDX _ _ _ _, q] => q.jA4 fun i => 0 <= i ∧ i < n
 | .jDW off, [.jC2 sh _ o] => o + off <= sh.size
 | .jDW _, [.ref _ _] => True
 | .jDW _, [.jDX _ _ _ _] => True
 | .fld off sh, [.agg cs] => off + sh.size <= cs.length
 | .load sh, [p] => match behind μ p with
   | some (sh', x, o) => (o = 0 ∧ sh' = sh) ∨ o + sh.size <= x.cells.length
   | none => False
 | .jLH, [.jC2 sh x o] => (o = 0 ∧ sh = none) ∨ o + 1 <= x.cells.length
 | .build zero parts, ps => jIC zero.length parts ps
 | .ext i, [.tup vs] => i < vs.length
 | .jTR _ k, ps => k <= ps.length
 | .min, [.int _ _, q] | .max, [.int _ _, q] => q.jA4 fun _ => True
 | .eqA _ ks, [.agg cs, .agg cs'] => eqK ks cs cs'
 | .jI1 _ k, [p, q] => match jHP k p q with
   | some _ => True
   | none => False
 | .jG5, [.fn _ _ _] | .jG5, [.jC2 _ _ _] | .jG5, [.ref _ _] | .jG5, [.jDX _ _ _ _] => True
 | _, _ => False
section
variable {P : Program} {w : World} {κ : Kap} {μ : Mem}
theorem Mem.get_some {t : Nat} {o : jAF} (h : μ.get t = some o) : μ[t]? = some (some o) := by
 unfold Mem.get at h
 cases hh : μ[t]? with
 | none => simp [hh] at h
 | some x => cases x <;> simp_all
theorem Sim.at (hS : Sim w κ μ) {t : Nat} {o : jAF} (h : μ.get t = some o) : ∃ c, κ t = some c ∧ jD7 w (own κ) κ c o := by
 have h' := Mem.get_some h
 cases hk : κ t with
 | none => exact absurd hk (hS.dead t o h')
 | some c =>
  obtain ⟨o', ho, hr⟩ := hS.live t c hk
  rw [h'] at ho
  cases ho
  exact ⟨c, rfl, hr⟩
def jUF (w : World) (κ : Kap) (b o : Nat) (cs : List PV) : Prop :=
 ∃ val : Nat -> Value, ∀ j, j < cs.length -> w.cell? ⟨b, o + j, none⟩ = some (val j) ∧ ∀ q, cs[j]? = some q -> Rep w (own κ) κ (val j) q
theorem jGO {sh : Sh} {x : PV} (h : shaped sh x) : x.cells.length = sh.size := by
 cases sh with
 | none => cases x <;> simp_all [shaped, PV.isAgg, PV.cells, Sh.size]
 | some n => obtain ⟨cs, rfl, h⟩ := h; simpa [PV.cells, Sh.size] using h
theorem jFU {sh : Sh} {x : PV} (h : fits sh x) : shaped sh x := by
 cases sh with
 | none => cases x <;> simp_all [fits, shaped, PV.isAgg, PV.scalar]
 | some n => obtain ⟨cs, rfl, h, _⟩ := h; exact ⟨cs, rfl, h⟩
theorem jB0 {b : Nat} {arr : Array Value} {E : TypeId} {fr : Nat × Nat} (h : w.heap[b]? = some (.cells arr E fr)) (o : Nat) : w.cell? ⟨b, o, none⟩ = arr[o]? := by
 simp [World.cell?, h]
theorem jMF (hS : Sim w κ μ) {p : PV} {v : Value} (hv : Rep w (own κ) κ v p) {sh : Sh} {x : PV} {o : Nat} (h : behind μ p = some (sh, x, o)) :
  shaped sh x ∧ ∃ b o', v = .pointer (some ⟨b, o' + o, none⟩) ∧ jUF w κ b o' x.cells := by
 unfold behind at h
 split at h
 ·simp at h; obtain ⟨rfl, rfl, rfl⟩ := h
  cases hv with
  | closed hv =>
   cases hv with
   | jC2 b o' off sh x val hfit hoff hc hr =>
    exact ⟨jFU hfit, b, o', rfl, val, fun j hj => ⟨(hc j hj).2, fun q hq => .closed (hr j q hq)⟩⟩
 ·rename_i t off
  split at h
  ·rename_i sh' x' hg
   simp at h; obtain ⟨rfl, rfl, rfl⟩ := h
   obtain ⟨c, hc, hO⟩ := hS.at hg
   cases hv with
   | closed hv => cases hv
   | ref t off b hb =>
    rw [hc] at hb; cases hb
    cases hO with
    | var b arr E sh x hh hs hsh hr =>
     refine ⟨hsh, b, 0, by simp, fun j => arr.getD j undef, fun j hj => ?_⟩
     have hj' : j < arr.size := by rw [hs, <- jGO hsh]; exact hj
     refine ⟨by rw [jB0 hh]; simp [hj'], fun q hq => hr j q _ hq (by simp [hj'])⟩
  ·simp at h
 ·rename_i t n i off
  split at h
  ·rename_i sh' xs hg
   split at h
   ·rename_i hn
    simp only [Option.map_eq_some_iff] at h
    obtain ⟨x', hx, h⟩ := h
    simp at h; obtain ⟨rfl, rfl, rfl⟩ := h
    obtain ⟨c, hc, hO⟩ := hS.at hg
    cases hv with
    | closed hv => cases hv
    | jDX t n i off b hb =>
     rw [hc] at hb; cases hb
     cases hO with
     | row b cur E cap sh xs hh hs hm hl hfit hr =>
      subst hn
      have hfx := hfit x' (List.mem_of_getElem? hx)
      refine ⟨jFU hfx, b, i * sh'.size, rfl, fun j => cur.getD (i * sh'.size + j) undef, fun j hj => ?_⟩
      have hil : i < xs.length := by
       rcases Nat.lt_or_ge i xs.length with h' | h'
       ·exact h'
       ·simp [List.getElem?_eq_none h'] at hx
      have hjs : j < sh'.size := by rw [<- hfx.len]; exact hj
      have hlt : i * sh'.size + j < cur.size := by
       rw [hs]
       calc i * sh'.size + j < i * sh'.size + sh'.size := by omega
        _ = (i + 1) * sh'.size := by rw [Nat.add_mul]; omega
        _ <= cap * sh'.size := Nat.mul_le_mul_right _ (by omega)
      refine ⟨by rw [jB0 hh]; simp [hlt], fun q hq => .closed (hr (i * sh'.size + j) q _ ?_ (by simp [hlt]))⟩
      rw [flat_get hfit i j x' hx hjs]; exact hq
   ·simp at h
  ·simp at h
 ·simp at h
theorem jUF.same {w' : World} {b o : Nat} {cs : List PV} {val : Nat -> Value} (hs : Same w w') (h : ∀ j, j < cs.length -> w.cell? ⟨b, o + j, none⟩ = some (val j)) :
  ∀ j, j < cs.length -> w'.cell? ⟨b, o + j, none⟩ = some (val j) := fun j hj => hs.cell (h j hj)
theorem jWJ {T : TypeId} {sh sh' : Sh} (hT : jEZ P T = some sh) {x : PV} {b o o' : Nat} (hx : shaped sh' x) (hc : jUF w κ b o' x.cells)
  (hok : (o = 0 ∧ sh' = sh) ∨ o + sh.size <= x.cells.length) :
  ∃ v, Rep w (own κ) κ v (cut sh' sh x o) ∧ ∀ w', Same w w' -> (loadVar T ⟨b, o' + o, none⟩).run P w' = .ok v w' := by
 obtain ⟨hsz, hag, -⟩ := jBD hT
 obtain ⟨val, hval⟩ := hc
 have hlen := jGO hx
 have hin : o + sh.size <= x.cells.length := by
  rcases hok with ⟨rfl, rfl⟩ | h
  ·rw [hlen]; omega
  ·exact h
 have hcell : ∀ w', Same w w' -> ∀ j, j < sh.size -> w'.cell? ⟨b, o' + o + j, none⟩ = some (val (o + j)) := by
  intro w' hs j hj
  have := hs.cell (hval (o + j) (by omega)).1
  rwa [<- Nat.add_assoc] at this
 cases sh with
 | none =>
  refine ⟨val o, ?_, fun w' hs => ?_⟩
  ·unfold cut
   split
   ·rename_i h
    obtain ⟨rfl, rfl⟩ := h
    have hxa : x.cells = [x] := by cases x <;> simp_all [shaped, PV.isAgg, PV.cells]
    exact (hval 0 (by rw [hxa]; simp)).2 x (by rw [hxa]; simp)
   ·simp only [sub]
    have ho : o < x.cells.length := by simp [Sh.size] at hin; omega
    rw [List.getElem?_eq_getElem ho]
    exact (hval o ho).2 _ (List.getElem?_eq_getElem ho)
  ·have := hcell w' hs 0 (by simp [Sh.size])
   simp only [Nat.add_zero] at this
   simp [loadVar, hag, this]
 | some n =>
  have hrun : ∀ w', Same w w' -> (loadVar T ⟨b, o' + o, none⟩).run P w' = .ok (.agg ((List.range n).map fun j => val (o + j)).toArray) w' := by
   intro w' hs
   have hl := run_loadCells (P := P) w' ⟨b, o' + o, none⟩ n (fun j => val (o + j)) (fun j hj => by
    rw [Addr.add_lit]; exact hcell w' hs j hj)
   simp [loadVar, hag, hsz, Sh.size, hl]
  refine ⟨_, ?_, hrun⟩
  have hsub : Rep w (own κ) κ (.agg ((List.range n).map fun j => val (o + j)).toArray) (.agg ((x.cells.drop o).take n)) := by
   refine .agg _ _ (by simp [Sh.size] at hin ⊢; omega) (fun i v p hi hp => ?_)
   have hi' : i < n := by
    rcases Nat.lt_or_ge i n with h' | h'
    ·exact h'
    ·simp [h'] at hi
   simp [hi'] at hi; subst hi
   rw [List.getElem?_take_of_lt hi', List.getElem?_drop] at hp
   exact (hval (o + i) (by simp [Sh.size] at hin; omega)).2 p hp
  unfold cut
  split
  ·rename_i h
   obtain ⟨rfl, rfl⟩ := h
   obtain ⟨cs, rfl, hcs⟩ := hx
   simp only [PV.cells, List.drop_zero] at hsub
   rwa [List.take_of_length_le (by omega)] at hsub
  ·exact hsub
theorem jZ2 {vs : Array Value} {ps : List PV} (hs : vs.size = ps.length) (hr : ∀ (i : Nat) (v : Value) (p : PV), vs[i]? = some v -> ps[i]? = some p -> Rep w (own κ) κ v p)
  {T : TypeId} {sh : Sh} (hT : jEZ P T = some sh) {off : Nat} (hok : off + sh.size <= ps.length) :
  ∃ v, Rep w (own κ) κ v (sub sh ps off) ∧ ∀ w', (part T vs off).run P w' = .ok v w' := by
 obtain ⟨hsz, hag, -⟩ := jBD hT
 cases sh with
 | none =>
  have h1 : off < vs.size := by simp [Sh.size] at hok; omega
  have h2 : off < ps.length := by omega
  refine ⟨vs[off], ?_, fun w' => ?_⟩
  ·simp only [sub, List.getElem?_eq_getElem h2]
   exact hr off _ _ (Array.getElem?_eq_getElem h1) (List.getElem?_eq_getElem h2)
  ·simp [part, hag, h1]
 | some n =>
  simp only [Sh.size] at hok hsz
  refine ⟨.agg (vs.extract off (off + n)), ?_, fun w' => ?_⟩
  ·refine .agg _ _ (by simp; omega) (fun i v p hv hp => ?_)
   have hi : i < n := by
    rcases Nat.lt_or_ge i n with h | h
    ·exact h
    ·rw [List.getElem?_eq_none (by simp; omega)] at hp; cases hp
   rw [List.getElem?_take_of_lt hi, List.getElem?_drop] at hp
   refine hr (off + i) v p ?_ hp
   rw [Array.getElem?_extract] at hv
   split at hv
   ·exact hv
   ·cases hv
  ·simp [part, hag, hsz]
theorem jKZ {v : Value} {ps : List PV} (h : Rep w (own κ) κ v (.agg ps)) :
  ∃ vs, v = .agg vs ∧ vs.size = ps.length ∧ ∀ (i : Nat) (v : Value) (p : PV), vs[i]? = some v -> ps[i]? = some p -> Rep w (own κ) κ v p := by
 cases h with
 | agg vs ps hs hr => exact ⟨vs, rfl, hs, hr⟩
 | closed h => cases h with | agg vs ps hs hr => exact ⟨vs, rfl, hs, fun i v p a b => .closed (hr i v p a b)⟩
theorem kH7 {v : Value} {ps : List PV} (h : Rep w (own κ) κ v (.tup ps)) :
  ∃ vs, v = .tuple vs ∧ vs.size = ps.length ∧ ∀ (i : Nat) (v : Value) (p : PV), vs[i]? = some v -> ps[i]? = some p -> Rep w (own κ) κ v p := by
 cases h with
 | tup vs ps hs hr => exact ⟨vs, rfl, hs, hr⟩
 | closed h => cases h with | tup vs ps hs hr => exact ⟨vs, rfl, hs, fun i v p a b => .closed (hr i v p a b)⟩
theorem jHU {v : Value} {p : PV} {size : Nat} {cs : List PV} (h : Rep w (own κ) κ v p) (hp : partOf p size = some cs) :
  v.cells.size = size ∧ cs.length = size ∧ ∀ (i : Nat) (u : Value) (q : PV), v.cells[i]? = some u -> cs[i]? = some q -> Rep w (own κ) κ u q := by
 unfold partOf at hp
 split at hp
 ·split at hp
  ·rename_i hl
   simp at hp; subst hp
   obtain ⟨vs, rfl, hs, hr⟩ := jKZ h
   exact ⟨by simp [Value.cells, hs, hl], hl, hr⟩
  ·simp at hp
 ·split at hp
  ·rename_i hna hc
   simp at hp; subst hp
   obtain ⟨hsc, rfl⟩ := hc
   have hva : v.cells = #[v] := by
    cases h with
    | junk v => simp [PV.scalar] at hsc
    | closed h => cases h <;> first | rfl | simp [PV.scalar] at hsc
    | agg => simp [PV.scalar] at hsc
    | cond => simp [PV.scalar] at hsc
    | _ => rfl
   refine ⟨by rw [hva]; rfl, rfl, fun i u q hu hq => ?_⟩
   rw [hva] at hu
   cases i with
   | zero => simp at hu hq; subst hu; subst hq; exact h
   | succ i => simp at hq
  ·simp at hp
theorem foldl_set (vs : List Value) : ∀ (arr : Array Value) (off k0 : Nat), off + k0 + vs.length <= arr.size ->
  let r := (vs.zipIdx k0).foldl (fun cs (c, j) => cs.setIfInBounds (off + j) c) arr
  r.size = arr.size ∧ ∀ i, r[i]? = if off + k0 <= i ∧ i < off + k0 + vs.length then vs[i - (off + k0)]? else arr[i]? := by
 induction vs with
 | nil => intro arr off k0 _; simp; intro i h1 h2; omega
 | cons v vs ih =>
  intro arr off k0 hle
  simp only [List.zipIdx_cons, List.foldl_cons, List.length_cons] at hle ⊢
  obtain ⟨h1, h2⟩ := ih (arr.setIfInBounds (off + k0) v) off (k0 + 1) (by simp; omega)
  refine ⟨by rw [h1]; simp, fun i => ?_⟩
  rw [h2]
  by_cases hi : i = off + k0
  ·subst hi
   rw [if_neg (by omega), if_pos (by omega)]
   simp [Array.getElem?_setIfInBounds]; omega
  ·have e1 : (arr.setIfInBounds (off + k0) v)[i]? = arr[i]? := by rw [Array.getElem?_setIfInBounds, if_neg (fun h => hi h.symm)]
   rw [e1]
   by_cases hc : off + (k0 + 1) <= i ∧ i < off + (k0 + 1) + vs.length
   ·rw [if_pos hc, if_pos (by omega)]
    obtain ⟨d, hd⟩ : ∃ d, i - (off + k0) = d + 1 := ⟨i - (off + k0) - 1, by omega⟩
    rw [hd, List.getElem?_cons_succ]
    congr 1; omega
   ·rw [if_neg hc, if_neg (by omega)]
theorem jM6 (cs new : List PV) (off i : Nat) (h : off + new.length <= cs.length) :
  (jCZ cs off new)[i]? = if off <= i ∧ i < off + new.length then new[i - off]? else cs[i]? := by
 unfold jCZ
 rw [List.append_assoc]
 by_cases h1 : i < off
 ·rw [List.getElem?_append_left (by simp; omega), if_neg (by omega), List.getElem?_take_of_lt h1]
 ·rw [List.getElem?_append_right (by simp; omega)]
  simp only [List.length_take, Nat.min_eq_left (show off <= cs.length by omega)]
  by_cases h2 : i < off + new.length
  ·rw [if_pos (by omega), List.getElem?_append_left (by omega)]
  ·rw [if_neg (by omega), List.getElem?_append_right (by omega), List.getElem?_drop]
   congr 1; omega
theorem jFM (cs new : List PV) (off : Nat) (h : off + new.length <= cs.length) : (jCZ cs off new).length = cs.length := by
 simp [jCZ]; omega
theorem jPI (place : Nat -> Option (Nat × Nat)) : ∀ (parts : List (Nat × Value)) (jRI : List (Nat × Nat)) (ps : List PV) (arr : Array Value) (cs : List PV),
  parts.map (fun x => place x.1) = jRI.map some -> parts.length = ps.length ->
  (∀ (i : Nat) (x : Nat × Value) (p : PV), parts[i]? = some x -> ps[i]? = some p -> Rep w (own κ) κ x.2 p) ->
  arr.size = cs.length -> (∀ (i : Nat) (v : Value) (p : PV), arr[i]? = some v -> cs[i]? = some p -> Rep w (own κ) κ v p) ->
  jIC cs.length jRI ps ->
  ∃ arr', Instr.fill place arr parts = some arr' ∧ arr'.size = (jHI cs jRI ps).length ∧ ∀ (i : Nat) (v : Value) (p : PV), arr'[i]? = some v -> (jHI cs jRI ps)[i]? = some p -> Rep w (own κ) κ v p
 | [], jRI, ps, arr, cs, hm, hl, hp, hs, hr, hok => by
  cases jRI with
  | nil => cases ps with
    | nil => exact ⟨arr, rfl, by simpa [jHI] using hs, by simpa [jHI] using hr⟩
    | cons => simp at hl
  | cons => simp at hm
 | x :: parts, jRI, ps, arr, cs, hm, hl, hp, hs, hr, hok => by
  cases jRI with
  | nil => simp at hm
  | cons o jRI =>
   cases ps with
   | nil => simp at hl
   | cons p ps =>
    obtain ⟨off, size⟩ := o
    simp only [List.map_cons, List.cons.injEq] at hm
    simp only [List.length_cons, Nat.add_right_cancel_iff] at hl
    obtain ⟨hp1, hp2, hp3⟩ := hok
    obtain ⟨new, hnew⟩ := Option.isSome_iff_exists.1 hp1
    have h0 : Rep w (own κ) κ x.2 p := hp 0 x p (by simp) (by simp)
    obtain ⟨hc1, hc2, hc3⟩ := jHU h0 hnew
    have hfs := foldl_set x.2.cells.toList arr off 0 (by simp [hc1, hs]; omega)
    simp only [Nat.add_zero, Array.length_toList, hc1] at hfs
    have hfold : x.2.cells.zipIdx.foldl (fun cs (c, j) => cs.setIfInBounds (off + j) c) arr = (x.2.cells.toList.zipIdx 0).foldl (fun cs (c, j) => cs.setIfInBounds (off + j) c) arr := by
     rw [<- Array.foldl_toList]; simp
    have hlen' := jFM cs new off (by omega)
    have := jPI place parts jRI ps ((x.2.cells.toList.zipIdx 0).foldl (fun cs (c, j) => cs.setIfInBounds (off + j) c) arr) (jCZ cs off new) hm.2 hl
     (fun i x p a b => hp (i + 1) x p (by simpa using a) (by simpa using b)) (by rw [hfs.1, hlen', hs]) (fun i v q hv hq => by
      rw [hfs.2] at hv
      rw [jM6 _ _ _ _ (by omega), hc2] at hq
      split at hq
      ·rename_i hin
       rw [if_pos hin] at hv
       exact hc3 _ v q (by simpa using hv) hq
      ·rename_i hin
       rw [if_neg hin] at hv
       exact hr i v q hv hq) (by rw [hlen']; exact hp3)
    obtain ⟨arr', h1, h2, h3⟩ := this
    refine ⟨arr', ?_, ?_, ?_⟩
    ·obtain ⟨i, v⟩ := x
     simp only [Instr.fill, hm.1]
     rw [if_neg (by simp [hc1, hs]; omega), hfold]
     exact h1
    ·simpa [jHI, hnew] using h2
    ·simpa [jHI, hnew] using h3
end
set_option linter.unusedSimpArgs false
set_option linter.unusedVariables false
def jKG (P : Program) (t : TypeId) : Option (List PV) := (P.info? t).bind fun i => i.zero.bind fun z => z.cells.toList.mapM PV.jRJ
def placesOf (P : Program) (t : TypeId) (parts : List (Nat × Operand)) : Option (List (Nat × Nat)) :=
 match P.underlying t with
 | some (.struct fields) => (fields.toList.mapM fun f => (P.info? f.type).map fun i => (f.offset, i.size)).bind fun places => parts.mapM fun x => places[x.1]?
 | some (.array _ e) => (P.info? e).bind fun i => some (parts.map fun x => (x.1 * i.size, i.size))
 | _ => none
def jXC (P : Program) (c : Call) : Option (RK × List Operand) :=
  match c.callee with
  | .builtin .len =>
    match c.args.toList with
    | [x] => (c.argTypes[0]?).bind fun t => match P.underlying t with
      | some .string => some (.jLI, [x])
      | some (.slice _) => some (.jCH, [x])
      | some (.map _ _) => some (.jZF, [x])
      | _ => none
    | _ => none
  | .builtin .min =>
    match c.args.toList with
    | [x, y] => some (.min, [x, y])
    | _ => none
  | .builtin .max =>
    match c.args.toList with
    | [x, y] => some (.max, [x, y])
    | _ => none
  | _ => none
def jI6 (P : Program) : Nat -> List Field -> Option (List Nat)
 | _, [] => some []
 | o, f :: fs => if f.name ≠ "_" ∧ f.offset = o ∧ P.plainKey f.type = true then
   (match P.underlying f.type with
   | some (.int _) => some 0
   | some .bool => some 1
   | some .string => some 2
   | _ => none).bind fun k => (jI6 P (o + 1) fs).map fun ks => k :: ks
  else none
def kC4 (P : Program) (t : TypeId) : Option Nat :=
 match P.underlying t with
 | some (.int _) => some 0
 | some .bool => some 1
 | some .string => some 2
 | _ => none
def kMW (P : Program) (t : TypeId) : Option (List Nat) :=
 match P.underlying t with
 | some (.struct sub) => jI6 P 0 sub.toList
 | _ => none
def jGW (P : Program) : Nat -> List Field -> Option (List Nat)
 | _, [] => some []
 | o, f :: fs => if f.name ≠ "_" ∧ f.offset = o then
   (match jEZ P f.type with
   | some none => if P.plainKey f.type = true then (kC4 P f.type).bind fun k => (jGW P (o + 1) fs).map fun ks => k :: ks else none
   | some (some n) => if P.stoodInHeld f.type = false then (kMW P f.type).bind fun k1 => if k1.length = n then (jGW P (o + n) fs).map fun ks => k1 ++ ks else none else none
   | none => none)
  else none
def kN1 (P : Program) (fs : List Field) : Option (List Nat) :=
 match jI6 P 0 fs with
 | some ks => some ks
 | none => jGW P 0 fs
def jYU (P : Program) (k : TypeId) : Option KK :=
 match P.underlying k with
 | some (.int j) => some (.int j)
 | some .string => some .str
 | some .bool => some .bool
 | _ => none
def PV.kGY : Value -> Option PV
 | .agg cs => (cs.toList.mapM PV.jRJ).map .agg
 | v => PV.jRJ v
def zeroV (P : Program) (t : TypeId) : Option PV := (P.info? t).bind fun i => i.zero.bind PV.kGY
def jFV (P : Program) (o : Op) : Option (RK × List Operand) :=
  match o with
  | .move x | .assign x => some (.mov, [x])
  | .pick c a b => some (.pick, [c, a, b])
  | .binOp op t x y _ =>
    match P.underlying t with
    | some (.struct fs) => if P.stoodInHeld t = false ∧ P.eqGuardType P.depth t = false then
        match op with
        | .eql => (kN1 P fs.toList).map fun ks => (.eqA false ks, [x, y])
        | .neq => (kN1 P fs.toList).map fun ks => (.eqA true ks, [x, y])
        | _ => none
      else none
    | some .bool =>
      match op with
      | .eql => some (.eqB false, [x, y])
      | .neq => some (.eqB true, [x, y])
      | _ => none
    | some (.slice _) =>
      match op with
      | .eql => some (.jI1 false 0, [x, y])
      | .neq => some (.jI1 true 0, [x, y])
      | _ => none
    | some (.map _ _) =>
      match op with
      | .eql => some (.jI1 false 1, [x, y])
      | .neq => some (.jI1 true 1, [x, y])
      | _ => none
    | some (.func _ _ _) =>
      match op with
      | .eql => some (.jI1 false 2, [x, y])
      | .neq => some (.jI1 true 2, [x, y])
      | _ => none
    | some (.pointer _) =>
      match op with
      | .eql => some (.jI1 false 3, [x, y])
      | .neq => some (.jI1 true 3, [x, y])
      | _ => none
    | _ => some (.bin op, [x, y])
  | .unOp op _ x => some (.un op, [x])
  | .convert s d x =>
    match P.underlying s, P.underlying d with
    | some (.int _), some (.int k) => some (.conv k, [x])
    | some .string, some .string => some (.kKV, [x])
    | some (.int _), some .string => some (.chr, [x])
    | _, _ => none
  | .call c => jXC P c
  | .index t x i =>
    match P.underlying t with
    | some .string => some (.jPD, [x, i])
    | some (.array n e) => (jEZ P e).map fun sh => (.kLR n sh, [x, i])
    | _ => none
  | .slice t x lo hi none =>
    match P.underlying t with
    | some .string => match lo, hi with
      | some a, some b => some (.jMK true true, [x, a, b])
      | some a, none => some (.jMK true false, [x, a])
      | none, some b => some (.jMK false true, [x, b])
      | none, none => none
    | some (.slice e) => (jEZ P e).bind fun sh => match lo, hi with
      | some a, some b => some (.slc sh true true false, [x, a, b])
      | some a, none => some (.slc sh true false false, [x, a])
      | none, some b => some (.slc sh false true false, [x, b])
      | none, none => none
    | some (.array n e) => match lo, hi with
      | some a, none => if jEZ P e = some none then some (.kKF n, [x, a]) else none
      | _, _ => none
    | _ => none
  | .slice t x lo (some b) (some c) =>
    match P.underlying t with
    | some (.slice e) => (jEZ P e).map fun sh => match lo with
      | some a => (.slc sh true true true, [x, a, b, c])
      | none => (.slc sh false true true, [x, b, c])
    | _ => none
  | .lookup t x i ok =>
    match P.underlying t with
    | some (.map k e) => (jYU P k).bind fun kd => (zeroV P e).map fun z => (.look kd ok z, [x, i])
    | _ => none
  | .panic x => some (.dead, [x])
  | .indexAddr t x i =>
    match P.underlying t with
    | some (.slice e) => (jEZ P e).map fun sh => (.jAC sh, [x, i])
    | some (.array n e) => (jEZ P e).map fun sh => (.jCF n sh, [x, i])
    | _ => none
  | .fieldAddr t x i =>
    match P.underlying t with
    | some (.struct fields) => (fields[i]?).bind fun f => match P.info? f.type with
      | some j => if j.size = 0 then none else some (.jDW f.offset, [x])
      | none => none
    | _ => none
  | .field t x i =>
    match P.underlying t with
    | some (.struct fields) => (fields[i]?).bind fun f => (jEZ P f.type).map fun sh => (.fld f.offset sh, [x])
    | _ => none
  | .load t a => (jEZ P t).map fun sh => (.load sh, [a])
  | .build t parts =>
    (jKG P t).bind fun z => (placesOf P t parts.toList).map fun ps => (.build z ps, parts.toList.map (·.2))
  | .extract t i => some (.ext i, [t])
  | .makeFunc (.func f) first caps => some (.jTR f first.size, first.toList ++ caps.toList)
  | .nilCheck x => some (.jG5, [x])
  | _ => none
section
variable {P : Program} {w : World} {κ : Kap} {μ : Mem} {ρ : Operand -> Value}
def Known (w : World) (κ : Kap) (ρ : Operand -> Value) (xs : List Operand) (ps : List PV) : Prop :=
 xs.length = ps.length ∧ ∀ (i : Nat) (x : Operand) (p : PV), xs[i]? = some x -> ps[i]? = some p -> Rep w (own κ) κ (ρ x) p
def kJ8 (A : World -> Prop) (P : Program) (w : World) (κ : Kap) (ρ : Operand -> Value) (o : Oper) (p : PV) : Prop :=
 ∃ v, Rep w (own κ) κ v p ∧ ∀ w', A w' -> (execOp ρ o).run P w' = .ok (.value v) w'
def kKN (P : Program) (w : World) (κ : Kap) (ρ : Operand -> Value) (o : Oper) (p : PV) : Prop := kJ8 (Same w) P w κ ρ o p
def jC5 (P : Program) (w : World) (κ : Kap) (ρ : Operand -> Value) (o : Oper) (p : PV) : Prop := kJ8 (fun _ => True) P w κ ρ o p
def RK.wl : RK -> Bool
 | .load _ | .jLH | .jZF | .look _ _ _ => false
 | _ => true
def kKQ (w : World) : Bool -> World -> Prop
 | true => fun _ => True
 | false => Same w
theorem known1 {x : Operand} {ps : List PV} (h : Known w κ ρ [x] ps) : ∃ p, ps = [p] ∧ Rep w (own κ) κ (ρ x) p := by
 obtain ⟨hl, h⟩ := h
 match ps, hl with
 | [p], _ => exact ⟨p, rfl, h 0 x p rfl rfl⟩
theorem jCW {x y : Operand} {ps : List PV} (h : Known w κ ρ [x, y] ps) : ∃ p q, ps = [p, q] ∧ Rep w (own κ) κ (ρ x) p ∧ Rep w (own κ) κ (ρ y) q := by
 obtain ⟨hl, h⟩ := h
 match ps, hl with
 | [p, q], _ => exact ⟨p, q, rfl, h 0 x p rfl rfl, h 1 y q rfl rfl⟩
theorem jNU {x y z : Operand} {ps : List PV} (h : Known w κ ρ [x, y, z] ps) :
  ∃ p q r, ps = [p, q, r] ∧ Rep w (own κ) κ (ρ x) p ∧ Rep w (own κ) κ (ρ y) q ∧ Rep w (own κ) κ (ρ z) r := by
 obtain ⟨hl, h⟩ := h
 match ps, hl with
 | [p, q, r], _ => exact ⟨p, q, r, rfl, h 0 x p rfl rfl, h 1 y q rfl rfl, h 2 z r rfl rfl⟩
theorem jED {v : Value} {p : PV} {c : Bool} (h : Rep w (own κ) κ v p) (hk : p.jBM c) (hc : c = true) : Rep w (own κ) κ v (p.under c) := by
 cases p with
 | cond b p =>
  simp only [PV.under]
  cases h with
  | cond b h _ => exact h (hk hc)
  | closed h => cases h
 | _ => exact h
theorem jYB {o : Oper} {c a b : Operand} (ho : o.op = .pick c a b) {ps : List PV} (hk : Known w κ ρ [c, a, b] ps) (hd : rdD μ .pick ps) : jC5 P w κ ρ o (rdV μ .pick ps) := by
 obtain ⟨p, q, r, rfl, hp, hq, hr⟩ := jNU hk
 cases p with
 | bool t =>
  simp only [rdD] at hd
  obtain ⟨h1, h2, h3⟩ := hd
  have e := jCC hp
  refine ⟨.bool (if t = true then (q.under t).toB else (r.under (!t)).toB), .closed (.bool _), fun w' _ => ?_⟩
  cases t with
  | true =>
   have h4 := PV.kGX h3
   have := jCC (h4 ▸ jED hq h1 rfl)
   simp [execOp, ho, e, asBool, this]
  | false =>
   have h4 := PV.kGX h3
   have := jCC (h4 ▸ jED hr h2 rfl)
   simp [execOp, ho, e, asBool, this]
 | _ => simp [rdD] at hd
theorem jRQ {o : Oper} {x : Operand} (ho : o.op = .move x ∨ o.op = .assign x) {ps : List PV} (hk : Known w κ ρ [x] ps) (hd : rdD μ .mov ps) : jC5 P w κ ρ o (rdV μ .mov ps) := by
 obtain ⟨p, rfl, hp⟩ := known1 hk
 refine ⟨ρ x, hp, fun w' _ => ?_⟩
 rcases ho with ho | ho <;> simp [execOp, ho]
theorem jY8 {o : Oper} {op : BinOp} {t t' : TypeId} {x y : Operand} (ho : o.op = .binOp op t x y t') {ps : List PV} (hk : Known w κ ρ [x, y] ps) (hd : rdD μ (.bin op) ps) : jC5 P w κ ρ o (rdV μ (.bin op) ps) := by
 obtain ⟨p, q, rfl, hp, hq⟩ := jCW hk
 obtain ⟨r, hr, hrun⟩ := kDT (P := P) op t x y hp hq hd
 refine ⟨r, hr, fun w' _ => ?_⟩
 have := hrun w'
 simp only [execOp, ho, Sem.run_bind] at this ⊢
 rw [this]; rfl
theorem jG7 {d o : Nat} {fs : List Field} {ks : List Nat} {xs ys : Array Value} {cs cs' : List PV} (hf : jI6 P o fs = some ks) (hk : eqK ks cs cs')
  (hx : ∀ (i : Nat) (p : PV), cs[i]? = some p -> ∃ v, xs[o + i]? = some v ∧ Rep w (own κ) κ v p) (hy : ∀ (i : Nat) (p : PV), cs'[i]? = some p -> ∃ v, ys[o + i]? = some v ∧ Rep w (own κ) κ v p) (w' : World) :
  (Op.eqFields (d + 1) xs ys fs).run P w' = .ok (eqC cs cs') w' := by
 induction fs generalizing o ks cs cs' with
 | nil =>
  simp only [jI6] at hf; cases hf
  match cs, cs', hk with
  | [], [], _ => simp [Op.eqFields, eqC]
 | cons f fs ih =>
  simp only [jI6] at hf
  split at hf
  ·rename_i h
   obtain ⟨h1, h2, h3⟩ := h
   simp only [Option.bind_eq_some_iff, Option.map_eq_some_iff] at hf
   obtain ⟨k, hk1, ks', hk2, rfl⟩ := hf
   have step : ∀ (p q : PV) (l l' : List PV), cs = p :: l -> cs' = q :: l' -> ∃ u v, (part f.type xs f.offset).run P w' = .ok u w' ∧ (part f.type ys f.offset).run P w' = .ok v w' ∧ Rep w (own κ) κ u p ∧ Rep w (own κ) κ v q ∧
     (eqK ks' l l' -> (Op.eqFields (d + 1) xs ys fs).run P w' = .ok (eqC l l') w') := by
    rintro p q l l' rfl rfl
    obtain ⟨u, hu, ru⟩ := hx 0 p rfl
    obtain ⟨v, hv, rv⟩ := hy 0 q rfl
    refine ⟨u, v, run_part_plain (P := P) (w := w') h3 (by rw [h2]; exact hu), run_part_plain (P := P) (w := w') h3 (by rw [h2]; exact hv), ru, rv, fun hl => ?_⟩
    exact ih hk2 hl (fun i p hp => by rw [show o + 1 + i = o + (i + 1) by omega]; exact hx (i + 1) p hp) (fun i p hp => by rw [show o + 1 + i = o + (i + 1) by omega]; exact hy (i + 1) p hp)
   have fin : ∀ (u v : Value) (b r : Bool), (part f.type xs f.offset).run P w' = .ok u w' -> (part f.type ys f.offset).run P w' = .ok v w' -> (Op.equalIn (d + 1) f.type u v).run P w' = .ok b w' ->
     (Op.eqFields (d + 1) xs ys fs).run P w' = .ok r w' -> (Op.eqFields (d + 1) xs ys (f :: fs)).run P w' = .ok (b && r) w' := by
    intro u v b r e1 e2 e3 e4
    simp only [Op.eqFields, ne_eq, h1, not_false_eq_true, if_true, Sem.run_bind, e1, e2, e3, Result.andThen_ok]
    cases b
    ·simp
    ·simp [e4]
   split at hk1
   ·rename_i hu; cases hk1
    unfold eqK at hk
    split at hk <;> first | (exact hk.elim) | skip
    ·simp at *
    ·rename_i e2; cases e2
     obtain ⟨u, v, p1, p2, r1, r2, hl⟩ := step _ _ _ _ rfl rfl
     obtain ⟨rfl, hk⟩ := hk
     rw [jAP r1] at p1; rw [jAP r2] at p2
     rw [fin _ _ _ _ p1 p2 (run_equalIn_int w' _ _ _ _ _ _ hu) (hl hk)]
     simp only [eqC]; congr 1
    ·simp at *
    ·simp at *
   ·rename_i hu; cases hk1
    unfold eqK at hk
    split at hk <;> first | (exact hk.elim) | skip
    ·simp at *
    ·simp at *
    ·rename_i e2; cases e2
     obtain ⟨u, v, p1, p2, r1, r2, hl⟩ := step _ _ _ _ rfl rfl
     rw [jCC r1] at p1; rw [jCC r2] at p2
     rw [fin _ _ _ _ p1 p2 (run_equalIn_bool' w' _ _ _ _ hu) (hl hk)]
     simp only [eqC]; congr 1
    ·simp at *
   ·rename_i hu; cases hk1
    unfold eqK at hk
    split at hk <;> first | (exact hk.elim) | skip
    ·simp at *
    ·simp at *
    ·simp at *
    ·rename_i e2; cases e2
     obtain ⟨u, v, p1, p2, r1, r2, hl⟩ := step _ _ _ _ rfl rfl
     obtain ⟨s, rfl, rfl⟩ := jCP r1
     obtain ⟨s', rfl, rfl⟩ := jCP r2
     rw [fin _ _ _ _ p1 p2 (run_equalIn_string w' _ _ _ _ hu) (hl hk)]
     have : (s.data.toList == s'.data.toList) = decide (s.data.toList = s'.data.toList) := by rw [Bool.eq_iff_iff]; simp
     simp only [eqC, ByteArray.toList_eq, this]
   ·cases hk1
  ·cases hf
theorem kDC {d : Nat} {t : TypeId} {k : Nat} {p q : PV} {u v : Value} (hk : kC4 P t = some k) (h : eqK [k] [p] [q]) (r1 : Rep w (own κ) κ u p) (r2 : Rep w (own κ) κ v q) (w' : World) :
  (Op.equalIn (d + 1) t u v).run P w' = .ok (eqC [p] [q]) w' := by
 unfold kC4 at hk
 split at hk
 ·rename_i hu; cases hk
  unfold eqK at h
  split at h <;> first | (exact h.elim) | skip
  ·simp at *
  ·rename_i e1 e2 e3; cases e2; cases e3
   obtain ⟨rfl, h⟩ := h
   rw [jAP r1, jAP r2, run_equalIn_int w' _ _ _ _ _ _ hu]
   simp only [eqC, Bool.and_true]; congr 1
  ·simp at *
  ·simp at *
 ·rename_i hu; cases hk
  unfold eqK at h
  split at h <;> first | (exact h.elim) | skip
  ·simp at *
  ·simp at *
  ·rename_i e1 e2 e3; cases e2; cases e3
   rw [jCC r1, jCC r2, run_equalIn_bool' w' _ _ _ _ hu]
   simp only [eqC, Bool.and_true]; congr 1
  ·simp at *
 ·rename_i hu; cases hk
  unfold eqK at h
  split at h <;> first | (exact h.elim) | skip
  ·simp at *
  ·simp at *
  ·simp at *
  ·rename_i e1 e2 e3; cases e2; cases e3
   obtain ⟨s, rfl, rfl⟩ := jCP r1
   obtain ⟨s', rfl, rfl⟩ := jCP r2
   rw [run_equalIn_string w' _ _ _ _ hu]
   have : (s.data.toList == s'.data.toList) = decide (s.data.toList = s'.data.toList) := by rw [Bool.eq_iff_iff]; simp
   simp only [eqC, ByteArray.toList_eq, this, Bool.and_true]
 ·cases hk
theorem jWW {k : Nat} {ks : List Nat} {cs cs' : List PV} (h : eqK (k :: ks) cs cs') : ∃ p q l l', cs = p :: l ∧ cs' = q :: l' ∧ eqK [k] [p] [q] ∧ eqK ks l l' ∧ eqC cs cs' = (eqC [p] [q] && eqC l l') := by
 unfold eqK at h
 split at h <;> first | (exact h.elim) | skip
 ·rename_i e; cases e
 ·rename_i e; cases e
  obtain ⟨rfl, h⟩ := h
  exact ⟨_, _, _, _, rfl, rfl, by simp [eqK], h, by simp [eqC]⟩
 ·rename_i e; cases e
  exact ⟨_, _, _, _, rfl, rfl, by simp [eqK], h, by simp [eqC]⟩
 ·rename_i e; cases e
  exact ⟨_, _, _, _, rfl, rfl, by simp [eqK], h, by simp [eqC]⟩
theorem kC8 : ∀ {k1 ks : List Nat} {cs cs' : List PV}, eqK (k1 ++ ks) cs cs' -> ∃ l1 l l1' l', cs = l1 ++ l ∧ cs' = l1' ++ l' ∧ l1.length = k1.length ∧ l1'.length = k1.length ∧ eqK k1 l1 l1' ∧ eqK ks l l' ∧ eqC cs cs' = (eqC l1 l1' && eqC l l')
 | [], ks, cs, cs', h => ⟨[], cs, [], cs', rfl, rfl, rfl, rfl, by simp [eqK], h, by simp [eqC]⟩
 | k :: k1, ks, cs, cs', h => by
  obtain ⟨p, q, l, l', rfl, rfl, h1, h2, h3⟩ := jWW h
  obtain ⟨a, b, a', b', rfl, rfl, e1, e2, e3, e4, e5⟩ := kC8 h2
  refine ⟨p :: a, b, q :: a', b', rfl, rfl, by simp [e1], by simp [e2], ?_, e4, ?_⟩
  ·unfold eqK at h1 ⊢
   split at h1 <;> first | (exact h1.elim) | skip
   ·rename_i x _ _; cases x
   ·rename_i x y z; cases x; cases y; cases z; exact ⟨h1.1, e3⟩
   ·rename_i x y z; cases x; cases y; cases z; exact e3
   ·rename_i x y z; cases x; cases y; cases z; exact e3
  ·have h4 : eqC (p :: a) (q :: a') = (eqC [p] [q] && eqC a a') := by
    unfold eqK at h1
    split at h1 <;> first | (exact h1.elim) | skip
    ·rename_i x _ _; cases x
    ·rename_i x y z; cases x; cases y; cases z; simp [eqC]
    ·rename_i x y z; cases x; cases y; cases z; simp [eqC]
    ·rename_i x y z; cases x; cases y; cases z; simp [eqC]
   rw [h3, e5, h4, Bool.and_assoc]
theorem jJF {t : TypeId} {n : Nat} (h : jEZ P t = some (some n)) (xs : Array Value) (o : Nat) (w' : World) : (part t xs o).run P w' = .ok (.agg (xs.extract o (o + n))) w' := by
 obtain ⟨h1, h2, -⟩ := jBD h
 simp only [part, Sem.run_bind, h1, h2, Result.andThen_ok, Option.isSome_some, if_true, Sem.run_pure, Sh.size]
theorem jL0 {d o : Nat} {fs : List Field} {ks : List Nat} {xs ys : Array Value} {cs cs' : List PV} (hf : jGW P o fs = some ks) (hk : eqK ks cs cs')
  (hx : ∀ (i : Nat) (p : PV), cs[i]? = some p -> ∃ v, xs[o + i]? = some v ∧ Rep w (own κ) κ v p) (hy : ∀ (i : Nat) (p : PV), cs'[i]? = some p -> ∃ v, ys[o + i]? = some v ∧ Rep w (own κ) κ v p) (w' : World) :
  (Op.eqFields (d + 3) xs ys fs).run P w' = .ok (eqC cs cs') w' := by
 induction fs generalizing o ks cs cs' with
 | nil =>
  simp only [jGW] at hf; cases hf
  match cs, cs', hk with
  | [], [], _ => simp [Op.eqFields, eqC]
 | cons f fs ih =>
  simp only [jGW] at hf
  split at hf
  ·rename_i h
   obtain ⟨h1, h2⟩ := h
   have fin : ∀ (u v : Value) (b r : Bool), (part f.type xs f.offset).run P w' = .ok u w' -> (part f.type ys f.offset).run P w' = .ok v w' -> (Op.equalIn (d + 3) f.type u v).run P w' = .ok b w' ->
     (Op.eqFields (d + 3) xs ys fs).run P w' = .ok r w' -> (Op.eqFields (d + 3) xs ys (f :: fs)).run P w' = .ok (b && r) w' := by
    intro u v b r e1 e2 e3 e4
    simp only [Op.eqFields, ne_eq, h1, not_false_eq_true, if_true, Sem.run_bind, e1, e2, e3, Result.andThen_ok]
    cases b
    ·simp
    ·simp [e4]
   split at hf
   ·split at hf
    ·rename_i h3
     simp only [Option.bind_eq_some_iff, Option.map_eq_some_iff] at hf
     obtain ⟨k, hk1, ks', hk2, rfl⟩ := hf
     obtain ⟨p, q, l, l', rfl, rfl, q1, q2, q3⟩ := jWW hk
     obtain ⟨u, hu, ru⟩ := hx 0 p rfl
     obtain ⟨v, hv, rv⟩ := hy 0 q rfl
     rw [q3]
     refine fin u v _ _ (run_part_plain (P := P) (w := w') h3 (by rw [h2]; exact hu)) (run_part_plain (P := P) (w := w') h3 (by rw [h2]; exact hv)) (kDC hk1 q1 ru rv w') ?_
     exact ih hk2 q2 (fun i p hp => by rw [show o + 1 + i = o + (i + 1) by omega]; exact hx (i + 1) p hp) (fun i p hp => by rw [show o + 1 + i = o + (i + 1) by omega]; exact hy (i + 1) p hp)
    ·cases hf
   ·rename_i n hsh
    split at hf
    ·rename_i hst
     simp only [Option.bind_eq_some_iff] at hf
     obtain ⟨k1, hk1, hf⟩ := hf
     split at hf
     ·rename_i hn
      simp only [Option.map_eq_some_iff] at hf
      obtain ⟨ks', hk2, rfl⟩ := hf
      obtain ⟨a, b, a', b', rfl, rfl, e1, e2, e3, e4, e5⟩ := kC8 hk
      rw [e5]
      unfold kMW at hk1
      split at hk1
      ·rename_i sub hu
       have hfo : P.fieldsOf f.type = sub := by simp [Program.fieldsOf, hu]
       have kGN : ∀ {zs : Array Value} {A B : List PV}, A.length = n -> (∀ (i : Nat) (p : PV), (A ++ B)[i]? = some p -> ∃ v, zs[o + i]? = some v ∧ Rep w (own κ) κ v p) ->
         ∀ (i : Nat) (p : PV), A[i]? = some p -> ∃ v, (zs.extract o (o + n))[0 + i]? = some v ∧ Rep w (own κ) κ v p := by
        intro zs A B hA hz i p hp
        have hi : i < A.length := (List.getElem?_eq_some_iff.1 hp).1
        obtain ⟨v, hv, hr⟩ := hz i p (by rw [List.getElem?_append_left hi]; exact hp)
        refine ⟨v, ?_, hr⟩
        have hlt : o + i < zs.size := (Array.getElem?_eq_some_iff.1 hv).1
        rw [Array.getElem?_extract, if_pos (by omega), Nat.zero_add]; exact hv
       refine fin _ _ _ _ (by rw [h2]; exact jJF hsh xs o w') (by rw [h2]; exact jJF hsh ys o w') ?_ ?_
       ·rw [run_equalIn_agg w' (d + 2) f.type _ _ (by rw [hfo]; exact hu) hst, hfo]
        exact jG7 (d := d + 1) hk1 e3 (kGN (by rw [e1, hn]) hx) (kGN (by rw [e2, hn]) hy) w'
       ·exact ih hk2 e4 (fun i p hp => by
          rw [show o + n + i = o + (a.length + i) by omega]
          exact hx (a.length + i) p (by rw [List.getElem?_append_right (by omega)]; simpa using hp))
         (fun i p hp => by
          rw [show o + n + i = o + (a'.length + i) by omega]
          exact hy (a'.length + i) p (by rw [List.getElem?_append_right (by omega)]; simpa using hp))
      ·cases hk1
     ·cases hf
    ·cases hf
   ·cases hf
  ·cases hf
theorem jXJ {vs : Array Value} {cs : List PV} (hs : vs.size = cs.length) (hr : ∀ (i : Nat) (v : Value) (p : PV), vs[i]? = some v -> cs[i]? = some p -> Rep w (own κ) κ v p) (i : Nat) (p : PV) (hp : cs[i]? = some p) :
  ∃ v, vs[0 + i]? = some v ∧ Rep w (own κ) κ v p := by
 have hi : i < vs.size := by
  rw [hs]
  rcases Nat.lt_or_ge i cs.length with h | h
  ·exact h
  ·rw [List.getElem?_eq_none h] at hp; cases hp
 refine ⟨vs[i], by rw [Nat.zero_add]; exact Array.getElem?_eq_getElem hi, hr i _ p (Array.getElem?_eq_getElem hi) hp⟩
theorem jSL {o : Oper} {neg : Bool} {t t' : TypeId} {x y : Operand} {fs : Array Field} {ks : List Nat} (ho : o.op = .binOp (if neg then .neq else .eql) t x y t') (ht : P.underlying t = some (.struct fs)) (h1 : P.stoodInHeld t = false) (h2 : P.eqGuardType P.depth t = false)
  (hf : kN1 P fs.toList = some ks) {ps : List PV} (hk : Known w κ ρ [x, y] ps) (hd : rdD μ (.eqA neg ks) ps) : jC5 P w κ ρ o (rdV μ (.eqA neg ks) ps) := by
 obtain ⟨p, q, rfl, hp, hq⟩ := jCW hk
 cases p <;> cases q <;> simp only [rdD] at hd
 rename_i cs cs'
 obtain ⟨us, e, hs, hr⟩ := jKZ hp
 obtain ⟨vs, e', hs', hr'⟩ := jKZ hq
 have hfo : P.fieldsOf t = fs := by simp [Program.fieldsOf, ht]
 have hrun : ∀ w', (Op.equalIn 10000 t (.agg us) (.agg vs)).run P w' = .ok (eqC cs cs') w' := by
  intro w'
  rw [show (10000 : Nat) = 9999 + 1 from rfl, run_equalIn_agg w' 9999 t us vs (by rw [hfo]; exact ht) h1, hfo]
  unfold kN1 at hf
  split at hf
  ·rename_i hf1; cases hf
   exact jG7 (d := 9998) hf1 hd (jXJ hs hr) (jXJ hs' hr') w'
  ·exact jL0 (d := 9996) hf hd (jXJ hs hr) (jXJ hs' hr') w'
 refine ⟨.bool (if neg then !eqC cs cs' else eqC cs cs'), .closed (.bool _), fun w' _ => ?_⟩
 cases neg
 ·simp only [Bool.false_eq_true, if_false] at ho ⊢
  simp only [execOp, ho, Sem.run_bind, e, e', run_eqGuard_agg w' _ t x y us vs h2, Result.andThen_ok, run_eql_struct, hrun]
  rfl
 ·simp only [if_true] at ho ⊢
  simp only [execOp, ho, Sem.run_bind, e, e', run_eqGuard_agg w' _ t x y us vs h2, Result.andThen_ok, run_neq_struct, hrun]
  rfl
def kLL : Nat -> TypeDesc -> Prop
 | 0, .slice _ => True
 | 1, .map _ _ => True
 | 2, .func _ _ _ => True
 | 3, .pointer _ => True
 | _, _ => False
theorem jTP {t : TypeId} {x y : Operand} {u v : Value} {b : Bool} {w' : World} (h1 : ∀ op, (eqGuard op t x y u v).run P w' = .ok () w') (h2 : Go.binOp .eql t u v = (do pure (.bool (<- Op.equal t u v)) : Sem Value))
  (h3 : Go.binOp .neq t u v = (do pure (.bool (!(<- Op.equal t u v))) : Sem Value)) (h4 : ∀ d, (Op.equalIn (d + 1) t u v).run P w' = .ok b w') :
  (∀ op, (eqGuard op t x y u v).run P w' = .ok () w') ∧ (Go.binOp .eql t u v).run P w' = .ok (.bool b) w' ∧ (Go.binOp .neq t u v).run P w' = .ok (.bool (!b)) w' := by
 have h5 : (Op.equal t u v).run P w' = .ok b w' := h4 9999
 refine ⟨h1, ?_, ?_⟩
 ·rw [h2, Sem.run_bind, h5]; rfl
 ·rw [h3, Sem.run_bind, h5]; rfl
theorem jLZ {w : World} (d : Nat) (t e : TypeId) (ad : Addr) (l c : Nat) (h : P.underlying t = some (.slice e)) :
  (Op.equalIn (d + 1) t (.slice (some ad) l c) (.slice none 0 0)).run P w = .ok false w := by
 simp [Op.equalIn, run_underlying h]
set_option maxHeartbeats 2000000 in
theorem jCJ {o : Oper} {neg : Bool} {t t' : TypeId} {x y : Operand} {d : TypeDesc} {k : Nat} (ho : o.op = .binOp (if neg then .neq else .eql) t x y t') (ht : P.underlying t = some d) (hn : kLL k d)
  {ps : List PV} (hk : Known w κ ρ [x, y] ps) (hd : rdD μ (.jI1 neg k) ps) : jC5 P w κ ρ o (rdV μ (.jI1 neg k) ps) := by
 obtain ⟨p, q, rfl, hp, hq⟩ := jCW hk
 simp only [rdD] at hd
 simp only [rdV]
 generalize hb : jHP k p q = ob at hd ⊢
 cases ob with
 | none => exact hd.elim
 | some b =>
  simp only
  have key : ∀ w', (∀ op, (eqGuard op t x y (ρ x) (ρ y)).run P w' = .ok () w') ∧ (Go.binOp .eql t (ρ x) (ρ y)).run P w' = .ok (.bool b) w' ∧ (Go.binOp .neq t (ρ x) (ρ y)).run P w' = .ok (.bool (!b)) w' := by
   intro w'
   unfold jHP at hb
   split at hb <;> (try cases hb) <;> cases d <;> simp only [kLL] at hn
   all_goals
    generalize ρ x = u at *
    generalize ρ y = v at *
    cases hq with
    | closed hq =>
     cases hq
     cases hp with
     | closed hp =>
      cases hp <;> first
       | (rename_i ha hc hr hfit
          have hx := ha (List.cons_ne_nil _ _)
          subst hx
          exact jTP (fun op => by unfold eqGuard; cases op <;> rfl) rfl rfl (fun d => jLZ d _ _ _ _ _ ht))
       | exact jTP (fun op => by unfold eqGuard; cases op <;> rfl) rfl rfl (fun d => by simp [Op.equalIn, run_underlying ht])
     | _ => exact jTP (fun op => by unfold eqGuard; cases op <;> rfl) rfl rfl (fun d => by simp [Op.equalIn, run_underlying ht])
  refine ⟨.bool (if neg then !b else b), .closed (.bool _), fun w' _ => ?_⟩
  obtain ⟨h1, h2, h3⟩ := key w'
  cases neg
  ·simp only [Bool.false_eq_true, if_false] at ho ⊢
   simp only [execOp, ho, Sem.run_bind, h1, Result.andThen_ok, h2]
   rfl
  ·simp only [if_true] at ho ⊢
   simp only [execOp, ho, Sem.run_bind, h1, Result.andThen_ok, h3]
   rfl
theorem jSK {o : Oper} {neg : Bool} {t t' : TypeId} {x y : Operand} (ho : o.op = .binOp (if neg then .neq else .eql) t x y t') (ht : P.underlying t = some .bool)
  {ps : List PV} (hk : Known w κ ρ [x, y] ps) (hd : rdD μ (.eqB neg) ps) : jC5 P w κ ρ o (rdV μ (.eqB neg) ps) := by
 obtain ⟨p, q, rfl, hp, hq⟩ := jCW hk
 cases p <;> cases q <;> simp only [rdD] at hd
 rename_i a b
 have e1 := jCC hp
 have e2 := jCC hq
 have hg : ∀ op w', (eqGuard op t x y (.bool a) (.bool b)).run P w' = .ok () w' := by
  intro op w'; unfold eqGuard; cases op <;> rfl
 have h5 : ∀ w', (Op.equal t (.bool a) (.bool b)).run P w' = .ok (decide (a = b)) w' := by
  intro w'
  have : (Op.equal t (.bool a) (.bool b)).run P w' = .ok (a == b) w' := run_equalIn_bool' w' _ _ _ _ ht
  rw [this]; congr 1
 refine ⟨.bool (if neg = true then !decide (a = b) else decide (a = b)), .closed (.bool _), fun w' _ => ?_⟩
 cases neg
 ·simp only [Bool.false_eq_true, if_false] at ho ⊢
  simp only [execOp, ho, Sem.run_bind, e1, e2, hg, Result.andThen_ok, Go.binOp, h5, Sem.run_pure]
 ·simp only [if_true] at ho ⊢
  simp only [execOp, ho, Sem.run_bind, e1, e2, hg, Result.andThen_ok, Go.binOp, h5, Sem.run_pure]
theorem kEH {o : Oper} {op : UnOp} {t : TypeId} {x : Operand} (ho : o.op = .unOp op t x) {ps : List PV} (hk : Known w κ ρ [x] ps) (hd : rdD μ (.un op) ps) : jC5 P w κ ρ o (rdV μ (.un op) ps) := by
 obtain ⟨p, rfl, hp⟩ := known1 hk
 cases op <;> cases p <;> simp only [rdD] at hd
 ·rename_i k n
  have e := jAP hp
  exact ⟨.int k (k.wrap (0 - n)), .closed (.int _ _), fun w' _ => by simp [execOp, ho, e, Op.unary, Op.intArith]⟩
 ·rename_i b
  have e := jCC hp
  exact ⟨.bool (!b), .closed (.bool _), fun w' _ => by simp [execOp, ho, e, Op.unary]⟩
theorem jY6 {o : Oper} {s d : TypeId} {x : Operand} {k j : IntKind} (ho : o.op = .convert s d x) (hs : P.underlying s = some (.int j)) (hdst : P.underlying d = some (.int k)) {ps : List PV}
  (hk : Known w κ ρ [x] ps) (hd : rdD μ (.conv k) ps) : jC5 P w κ ρ o (rdV μ (.conv k) ps) := by
 obtain ⟨p, rfl, hp⟩ := known1 hk
 cases p <;> simp only [rdD] at hd
 rename_i k' n
 have e := jAP hp
 exact ⟨.int k (k.wrap n), .closed (.int _ _), fun w' _ => by simp [execOp, ho, e, convert, run_underlying hs, run_underlying hdst, Conv.intToInt]⟩
theorem kDN {o : Oper} {s d : TypeId} {x : Operand} {j : IntKind} (ho : o.op = .convert s d x) (hs : P.underlying s = some (.int j)) (hdst : P.underlying d = some .string) {ps : List PV}
  (hk : Known w κ ρ [x] ps) (hd : rdD μ .chr ps) : jC5 P w κ ρ o (rdV μ .chr ps) := by
 obtain ⟨p, rfl, hp⟩ := known1 hk
 cases p <;> simp only [rdD] at hd
 rename_i k' n
 have e := jAP hp
 exact ⟨.string (Utf8.encode n), .closed (.str _), fun w' _ => by simp [execOp, ho, e, convert, run_underlying hs, run_underlying hdst, Conv.intToString]⟩
theorem jXP {o : Oper} {s d : TypeId} {x : Operand} (ho : o.op = .convert s d x) (hs : P.underlying s = some .string) (hdst : P.underlying d = some .string) {ps : List PV}
  (hk : Known w κ ρ [x] ps) (hd : rdD μ .kKV ps) : jC5 P w κ ρ o (rdV μ .kKV ps) := by
 obtain ⟨p, rfl, hp⟩ := known1 hk
 cases p <;> simp only [rdD] at hd
 obtain ⟨b, e, rfl⟩ := jCP hp
 exact ⟨.string b, .closed (.str b), fun w' _ => by simp [execOp, ho, e, convert, run_underlying hs, run_underlying hdst]⟩
theorem jOW {v : Value} {sh : Sh} {xs : List PV} (h : Rep w (own κ) κ v (.list sh xs)) : jAW w (own κ) v (.list sh xs) := by
 cases h with | closed h => exact h
theorem jYQ {o : Oper} {t : TypeId} {ts : Array TypeId} {x : Operand} (ho : o.op = .call { callee := .builtin .len, args := #[x], argTypes := ts }) (hts : ts[0]? = some t) (ht : P.underlying t = some .string) {ps : List PV}
  (hk : Known w κ ρ [x] ps) (hd : rdD μ .jLI ps) : jC5 P w κ ρ o (rdV μ .jLI ps) := by
 obtain ⟨p, rfl, hp⟩ := known1 hk
 cases p <;> simp only [rdD] at hd
 obtain ⟨b, e, rfl⟩ := jCP hp
 exact ⟨.int .i64 b.size, .closed (.int _ _), fun w' _ => by simp [execOp, ho, e, resolve, invoke, builtin, Builtin.len_, hts, run_underlying ht, goInt]⟩
theorem jNB {v : Value} {sh : Sh} {t n : Nat} (h : Rep w (own κ) κ v (.sl sh t n)) :
  (∃ b cap, κ t = some (some b) ∧ v = .slice (some ⟨b, 0, none⟩) n cap ∧ n <= cap ∧ cap <= maxLen ∧ ∃ E, w.shape? b = some (E, cap * sh.size)) ∨ (κ t = some none ∧ n = 0 ∧ v = .slice none 0 0) := by
 cases h with
 | closed h => cases h
 | sl sh t n b cap h hs hl hm => exact .inl ⟨b, cap, h, rfl, hl, hm, hs⟩
 | slnil sh t h => exact .inr ⟨h, rfl, rfl⟩
theorem jDC {v : Value} (h : Rep w (own κ) κ v .jAH) : v = .slice none 0 0 := by
 cases h with | closed h => cases h; rfl
theorem jIX {v : Value} (h : Rep w (own κ) κ v .jA0) : v = .map none := by
 cases h with | closed h => cases h; rfl
theorem jDN {v : Value} {sh : Sh} {xs : List PV} (h : Rep w (own κ) κ v (.list sh xs)) :
  ∃ (a : Option Addr) (cap b off : Nat) (val : Nat -> Value), v = .slice a xs.length cap ∧ xs.length <= cap ∧ cap <= maxLen ∧ (∀ x ∈ xs, fits sh x) ∧ (xs ≠ [] -> a = some ⟨b, off, none⟩) ∧
   (∀ j, j < (flat xs).length -> ¬ own κ b ∧ w.cell? ⟨b, off + j, none⟩ = some (val j)) ∧ ∀ (j : Nat) (p : PV), (flat xs)[j]? = some p -> jAW w (own κ) (val j) p := by
 cases h with | closed h =>
  cases h with | list a len cap sh xs b off val hlen hcap hmax hfit ha hc hr =>
   subst hlen
   exact ⟨a, cap, b, off, val, rfl, hcap, hmax, hfit, ha, hc, hr⟩
theorem jDO {v : Value} {kd : KK} {es : List (PV × PV)} (h : Rep w (own κ) κ v (.jC9 kd es)) :
  ∃ (r : Nat) (ents : Array MapEntry) (clock : Nat), v = .map (some r) ∧ r < w.heap.size ∧ ¬ own κ r ∧ w.heap[r]? = some (.map ents clock) ∧ ents.size = es.length ∧ Born ents clock ∧ (∀ q ∈ es, jBT kd q.1 = true) ∧
   (∀ (i : Nat) (e : MapEntry) (q : PV × PV), ents[i]? = some e -> es[i]? = some q -> jAW w (own κ) e.key q.1) ∧
   (∀ (i : Nat) (e : MapEntry) (q : PV × PV), ents[i]? = some e -> es[i]? = some q -> jAW w (own κ) e.val q.2) := by
 cases h with | closed h =>
  cases h with | jC9 r kd es ents clock hx h hs hb hkd hk hv =>
   have hlt : r < w.heap.size := by
    rcases Nat.lt_or_ge r w.heap.size with h' | h'
    ·exact h'
    ·simp [Array.getElem?_eq_none h'] at h
   exact ⟨r, ents, clock, rfl, hlt, hx, h, hs, hb, hkd, hk, hv⟩
theorem jHV (hS : Sim w κ μ) {v : Value} {t : Nat} {kd : KK} {es : List (PV × PV)} (h : Rep w (own κ) κ v (.mref t)) (hg : μ.get t = some (.mpo kd es)) :
  ∃ r ents clock, v = .map (some r) ∧ κ t = some (some r) ∧ w.heap[r]? = some (.map ents clock) ∧ ents.size = es.length ∧ Born ents clock ∧ (∀ q ∈ es, jBT kd q.1 = true) ∧
   (∀ (i : Nat) (e : MapEntry) (q : PV × PV), ents[i]? = some e -> es[i]? = some q -> jAW w (own κ) e.key q.1) ∧
   (∀ (i : Nat) (e : MapEntry) (q : PV × PV), ents[i]? = some e -> es[i]? = some q -> Rep w (own κ) κ e.val q.2) := by
 cases h with
 | closed h => cases h
 | mref t b hb =>
  obtain ⟨c, hc, hO⟩ := hS.at hg
  rw [hb] at hc; cases hc
  cases hO with
  | mpo _ _ _ ents clock h hs hB hkd hk hv => exact ⟨b, ents, clock, rfl, hb, h, hs, hB, hkd, hk, hv⟩
theorem jC6 (hS : Sim w κ μ) {v : Value} {t : Nat} {kd : KK} {es : List (PV × PV)} (h : Rep w (own κ) κ v (.mref t)) (hg : μ.get t = some (.mp kd es)) :
  ∃ (r : Nat) (ents : Array MapEntry) (clock : Nat), v = .map (some r) ∧ κ t = some (some r) ∧ w.heap[r]? = some (.map ents clock) ∧ ents.size = es.length ∧ Born ents clock ∧ (∀ q ∈ es, jBT kd q.1 = true) ∧
   (∀ (i : Nat) (e : MapEntry) (q : PV × PV), ents[i]? = some e -> es[i]? = some q -> jAW w (own κ) e.key q.1) ∧
   (∀ (i : Nat) (e : MapEntry) (q : PV × PV), ents[i]? = some e -> es[i]? = some q -> jAW w (own κ) e.val q.2) := by
 cases h with
 | closed h => cases h
 | mref t b hb =>
  obtain ⟨c, hc, hO⟩ := hS.at hg
  rw [hb] at hc; cases hc
  cases hO with
  | mp b kd es ents clock h hs hB hkd hk hv => exact ⟨b, ents, clock, rfl, hb, h, hs, hB, hkd, hk, hv⟩
theorem jFN (hS : Sim w κ μ) {v : Value} {t : Nat} {kd : KK} {es : List (PV × PV)} (h : Rep w (own κ) κ v (.mref t)) (hg : μ.get t = some (.mpg kd es)) :
  ∃ (r : Nat) (ents : Array MapEntry) (clock : Nat), v = .map (some r) ∧ κ t = some (some r) ∧ w.heap[r]? = some (.map ents clock) ∧ ents.size = es.length ∧ (∀ q ∈ es, jBT kd q.1 = true) ∧
   (∀ (i : Nat) (e : MapEntry) (q : PV × PV), ents[i]? = some e -> es[i]? = some q -> jAW w (own κ) e.key q.1) ∧
   (∀ (i : Nat) (e : MapEntry) (q : PV × PV), ents[i]? = some e -> es[i]? = some q -> jAW w (own κ) e.val q.2) := by
 cases h with
 | closed h => cases h
 | mref t b hb =>
  obtain ⟨c, hc, hO⟩ := hS.at hg
  rw [hb] at hc; cases hc
  cases hO with
  | mpg b kd es ents clock h hs hkd hk hv => exact ⟨b, ents, clock, rfl, hb, h, hs, hkd, hk, hv⟩
theorem lt_of_block {b : Nat} {o : Obj} (h : w.heap[b]? = some o) : b < w.heap.size := by
 rcases Nat.lt_or_ge b w.heap.size with h' | h'
 ·exact h'
 ·simp [Array.getElem?_eq_none h'] at h
theorem jQT {v : Value} {sh : Sh} {xs : List PV} (h : Rep w (own κ) κ v (.full sh xs)) : ∃ a, v = .slice a xs.length xs.length := by
 cases h with | closed h =>
  cases h with | full a len sh xs b off val hlen => subst hlen; exact ⟨a, rfl⟩
theorem jYS {o : Oper} {t e : TypeId} {ts : Array TypeId} {x : Operand} (ho : o.op = .call { callee := .builtin .len, args := #[x], argTypes := ts }) (hts : ts[0]? = some t) (ht : P.underlying t = some (.slice e)) {ps : List PV}
  (hk : Known w κ ρ [x] ps) (hd : rdD μ .jCH ps) : jC5 P w κ ρ o (rdV μ .jCH ps) := by
 obtain ⟨p, rfl, hp⟩ := known1 hk
 have key : ∀ (a : Option Addr) (n c : Nat), ρ x = .slice a n c -> jC5 P w κ ρ o (.int .i64 n) := fun a n c e =>
  ⟨.int .i64 n, .closed (.int _ _), fun w' _ => by simp [execOp, ho, e, resolve, invoke, builtin, Builtin.len_, hts, run_underlying ht, goInt]⟩
 cases p <;> simp only [rdD] at hd
 ·simpa [rdV] using key _ _ _ (jDC hp)
 ·obtain ⟨a, cap, b, off, val, hv, -⟩ := jDN hp; exact key _ _ _ hv
 ·obtain ⟨a, e⟩ := jQT hp; exact key _ _ _ e
 ·rcases jNB hp with ⟨b, cap, -, e, -⟩ | ⟨-, rfl, e⟩
  ·exact key _ _ _ e
  ·exact key _ _ _ e
theorem jYR (hS : Sim w κ μ) {o : Oper} {t k e : TypeId} {ts : Array TypeId} {x : Operand} (ho : o.op = .call { callee := .builtin .len, args := #[x], argTypes := ts }) (hts : ts[0]? = some t) (ht : P.underlying t = some (.map k e)) {ps : List PV}
  (hk : Known w κ ρ [x] ps) (hd : rdD μ .jZF ps) : kKN P w κ ρ o (rdV μ .jZF ps) := by
 obtain ⟨p, rfl, hp⟩ := known1 hk
 have key : ∀ (r : Nat) (ents : Array MapEntry) (clock n : Nat), ρ x = .map (some r) -> w.heap[r]? = some (.map ents clock) -> ents.size = n -> kKN P w κ ρ o (.int .i64 n) := by
  intro r ents clock n hv h hs
  refine ⟨.int .i64 n, .closed (.int _ _), fun w' hw => ?_⟩
  have h2 : w'.heap[r]? = some (.map ents clock) := by rw [hw r (lt_of_block h)]; exact h
  simp [execOp, ho, hv, resolve, invoke, builtin, Builtin.len_, hts, run_underlying ht, goInt, getObj, Sem.run, h2, hs]
 cases p <;> simp only [rdD] at hd
 ·have hv := jIX hp
  exact ⟨.int .i64 0, .closed (.int _ _), fun w' _ => by simp [execOp, ho, hv, resolve, invoke, builtin, Builtin.len_, hts, run_underlying ht, goInt]⟩
 ·obtain ⟨r, ents, clock, hv, -, -, h, hs, -⟩ := jDO hp
  exact key r ents clock _ hv h hs
 ·rename_i tag
  simp only [rdV]
  split at hd
  ·rename_i kd es hg
   obtain ⟨r, ents, clock, hv, -, h, hs, -⟩ := jC6 hS hp hg
   exact key r ents clock _ hv h hs
  ·rename_i kd es hg
   obtain ⟨r, ents, clock, hv, -, h, hs, -⟩ := jFN hS hp hg
   exact key r ents clock _ hv h hs
  ·exact hd.elim
theorem jAL {q : PV} {f : Int -> Prop} (h : q.jA4 f) : ∃ k i, q = .int k i ∧ f i := by
 cases q <;> simp [PV.jA4] at h
 exact ⟨_, _, rfl, h⟩
theorem jYX {o : Oper} {t : TypeId} {x i : Operand} (ho : o.op = .index t x i) (ht : P.underlying t = some .string) {ps : List PV}
  (hk : Known w κ ρ [x, i] ps) (hd : rdD μ .jPD ps) : jC5 P w κ ρ o (rdV μ .jPD ps) := by
 obtain ⟨p, q, rfl, hp, hq⟩ := jCW hk
 cases p <;> simp only [rdD] at hd
 obtain ⟨b, e, rfl⟩ := jCP hp
 obtain ⟨k, n, rfl, hd⟩ := jAL hd
 have e2 := jAP hq
 have h1 : n.toNat < b.data.toList.length := by omega
 have h2 : n.toNat < b.size := by simpa using h1
 refine ⟨.int .u8 (b.data.toList.getD n.toNat 0).toNat, .closed (.int _ _), fun w' _ => ?_⟩
 have h3 : b[n.toNat]? = some (b.data.toList.getD n.toNat 0) := by
  rw [List.getD_eq_getElem?_getD, List.getElem?_eq_getElem h1]
  simp only [Option.getD_some, Array.getElem_toList]
  rw [getElem?_pos b n.toNat h2]; rfl
 simp [execOp, ho, e, e2, Instr.index, asIntOf, run_underlying ht, hd.1, h3]
theorem jYY {o : Oper} {t el : TypeId} {n : Nat} {sh : Sh} {x i : Operand} (ho : o.op = .index t x i) (ht : P.underlying t = some (.array n el)) (he : jEZ P el = some sh) {ps : List PV}
  (hk : Known w κ ρ [x, i] ps) (hd : rdD μ (.kLR n sh) ps) : jC5 P w κ ρ o (rdV μ (.kLR n sh) ps) := by
 obtain ⟨p, q, rfl, hp, hq⟩ := jCW hk
 cases p <;> simp only [rdD] at hd
 obtain ⟨k, n', rfl, hd⟩ := jAL hd
 obtain ⟨vs, e, hs, hr⟩ := jKZ hp
 have e2 := jAP hq
 obtain ⟨hsz, -, -⟩ := jBD he
 obtain ⟨v, hv, hrun⟩ := jZ2 (P := P) hs hr he hd.2.2
 exact ⟨v, hv, fun w' _ => by simp [execOp, ho, e, e2, Instr.index, asIntOf, run_underlying ht, hd.1, hd.2.1, hsz, hrun]⟩
theorem jNZ : ∀ {xs : List PV}, (∀ x ∈ xs, x.scalar = true) -> flat xs = xs
 | [], _ => rfl
 | x :: xs, h => by
  have h1 : x.cells = [x] := by
   have := h x (by simp)
   cases x <;> simp_all [PV.scalar, PV.cells]
  have h2 := jNZ (xs := xs) fun y hy => h y (by simp [hy])
  simp only [flat, List.flatMap_cons, h1, List.cons_append, List.nil_append]
  exact congrArg _ h2
theorem jXT {o : Oper} {t e : TypeId} {n : Nat} {x a : Operand} (ho : o.op = .slice t x (some a) none none) (ht : P.underlying t = some (.array n e)) (he : jEZ P e = some none) {ps : List PV}
  (hk : Known w κ ρ [x, a] ps) (hd : rdD μ (.kKF n) ps) : jC5 P w κ ρ o (rdV μ (.kKF n) ps) := by
 obtain ⟨p, q, rfl, hp, hq⟩ := jCW hk
 obtain ⟨hsz, -, -⟩ := jBD he
 have key : ∀ (b off : Nat) (k : IntKind) (m : Int), ρ x = .pointer (some ⟨b, off, none⟩) -> ρ a = .int k m -> 0 <= m -> m <= n -> ∀ w', (execOp ρ o).run P w' = .ok (.value (.slice (some (if n = m.toNat then (⟨b, off, none⟩ : Addr) else ⟨b, off + m.toNat, none⟩)) (n - m.toNat) (n - m.toNat))) w' := by
  intro b off k m e e2 h1 h2 w'
  simp [execOp, ho, e, e2, Instr.sliceAt, Instr.slice, Instr.sureAddr, run_underlying ht, asAddr, Instr.sliceBounds, Instr.sliceBound, asIntOf, h1, h2, hsz, Addr.add_lit, Sh.size]
 generalize hvx : ρ x = vx at hp key
 cases p <;> simp only [rdD] at hd
 rename_i sh' y off
 obtain ⟨k, m, rfl, rfl, rfl, hn, h1, h2⟩ := jAL hd
 cases hp with
 | closed hp =>
 cases hp with
 | jC2 b o0 _ _ _ val hfit hoff hc hr =>
  refine ⟨_, ?_, fun w' _ => key b (o0 + 0) k m rfl (jAP hq) h1 h2 w'⟩
  obtain ⟨cs, rfl, hcl, hcs⟩ := hfit
  simp only [rdV, PV.jA7, PV.cells] at hc hr ⊢
  have hfl : flat (cs.drop m.toNat) = cs.drop m.toNat := jNZ fun x hx => hcs x (List.mem_of_mem_drop hx)
  refine .closed (.list _ _ _ none _ b (o0 + m.toNat) (fun j => val (m.toNat + j)) (by simp; omega) (Nat.le_refl _) (by omega) (fun x hx => hcs x (List.mem_of_mem_drop hx)) (fun hne => ?_) (fun j hj => ?_) (fun j p hp => ?_))
  ·have : m.toNat < n := by
    rcases Nat.lt_or_ge m.toNat n with h | h
    ·exact h
    ·exact absurd (List.drop_eq_nil_of_le (by omega)) hne
   rw [if_neg (by omega), Nat.add_zero]
  ·rw [hfl, List.length_drop] at hj
   have := hc (m.toNat + j) (by omega)
   rw [<- Nat.add_assoc] at this
   exact this
  ·rw [hfl, List.getElem?_drop] at hp
   exact hr _ p hp
theorem jIR {o : Oper} {t : TypeId} {x : Operand} {lo hi : Option Operand} (ho : o.op = .slice t x lo hi none) (ht : P.underlying t = some .string) {ps : List PV}
  (hk : Known w κ ρ (x :: (lo.toList ++ hi.toList)) ps) (hd : rdD μ (.jMK lo.isSome hi.isSome) ps) : jC5 P w κ ρ o (rdV μ (.jMK lo.isSome hi.isSome) ps) := by
 cases lo with
 | none =>
  cases hi with
  | none =>
   obtain ⟨p, rfl, hp⟩ := known1 hk
   simp [rdD] at hd
  | some b =>
   obtain ⟨p, q, rfl, hp, hq⟩ := jCW hk
   cases p <;> simp only [rdD, Option.isSome] at hd
   obtain ⟨k, n, rfl, hd⟩ := jAL hd
   obtain ⟨s, e, rfl⟩ := jCP hp
   have e2 := jAP hq
   have hsz : n <= s.size := by simpa using hd.2
   refine ⟨.string (s.extract 0 n.toNat), ?_, fun w' _ => ?_⟩
   ·have := jAW.str (w := w) (ex := own κ) (s.extract 0 n.toNat)
    simp only [ByteArray.data_extract, Array.toList_extract, List.extract_eq_take_drop, List.drop_zero, Nat.sub_zero] at this
    exact .closed this
   ·simp [execOp, ho, e, e2, Instr.sliceAt, Instr.slice, run_underlying ht, Instr.sliceBounds, Instr.sliceBound, asIntOf, hd.1, hsz]
 | some a =>
  cases hi with
  | none =>
   obtain ⟨p, q, rfl, hp, hq⟩ := jCW hk
   cases p <;> simp only [rdD, Option.isSome] at hd
   obtain ⟨k, n, rfl, hd⟩ := jAL hd
   obtain ⟨s, e, rfl⟩ := jCP hp
   have e2 := jAP hq
   have hsz : n <= s.size := by simpa using hd.2
   refine ⟨.string (s.extract n.toNat s.size), ?_, fun w' _ => ?_⟩
   ·have := jAW.str (w := w) (ex := own κ) (s.extract n.toNat s.size)
    simp only [ByteArray.data_extract, Array.toList_extract, List.extract_eq_take_drop] at this
    rw [List.take_of_length_le (by simp)] at this
    exact .closed this
   ·simp [execOp, ho, e, e2, Instr.sliceAt, Instr.slice, run_underlying ht, Instr.sliceBounds, Instr.sliceBound, asIntOf, hd.1, hsz]
  | some b =>
   obtain ⟨p, q, r, rfl, hp, hq, hr⟩ := jNU hk
   cases p <;> simp only [rdD, Option.isSome] at hd
   obtain ⟨k, n, rfl, hd1⟩ := jAL hd
   clear hd
   obtain ⟨k', m, rfl, hd⟩ := jAL hd1
   obtain ⟨s, e, rfl⟩ := jCP hp
   have e2 := jAP hq
   have e3 := jAP hr
   have hsz : m <= s.size := by simpa using hd.2.2
   have hm : 0 <= m := by omega
   have hnm : n <= Max.max m 0 := by omega
   refine ⟨.string (s.extract n.toNat m.toNat), ?_, fun w' _ => ?_⟩
   ·have := jAW.str (w := w) (ex := own κ) (s.extract n.toNat m.toNat)
    simp only [ByteArray.data_extract, Array.toList_extract, List.extract_eq_take_drop] at this
    have e4 : (s.data.toList.drop n.toNat).take (m.toNat - n.toNat) = (s.data.toList.take m.toNat).drop n.toNat := by rw [List.drop_take]
    rw [e4] at this
    exact .closed this
   ·simp [execOp, ho, e, e2, e3, Instr.sliceAt, Instr.slice, run_underlying ht, Instr.sliceBounds, Instr.sliceBound, asIntOf, hd.1, hsz, hm, hnm]
theorem jMO {o : Oper} {t el : TypeId} {n : Nat} {sh : Sh} {x i : Operand} (ho : o.op = .indexAddr t x i) (ht : P.underlying t = some (.array n el)) (he : jEZ P el = some sh) {ps : List PV}
  (hk : Known w κ ρ [x, i] ps) (hd : rdD μ (.jCF n sh) ps) : jC5 P w κ ρ o (rdV μ (.jCF n sh) ps) := by
 obtain ⟨p, q, rfl, hp, hq⟩ := jCW hk
 obtain ⟨hsz, -, -⟩ := jBD he
 have key : ∀ (b off : Nat) (k : IntKind) (m : Int), ρ x = .pointer (some ⟨b, off, none⟩) -> ρ i = .int k m -> 0 <= m -> m < n -> ∀ w', (execOp ρ o).run P w' = .ok (.value (.pointer (some ⟨b, off + m.toNat * sh.size, none⟩))) w' := by
  intro b off k m e e2 h1 h2 w'
  simp [execOp, ho, e, e2, Instr.indexAt, asIntOf, Instr.sureAddr, asAddr, run_underlying ht, h1, h2, hsz, Addr.add_lit]
 generalize hvx : ρ x = vx at hp key
 cases p <;> simp only [rdD] at hd
 ·rename_i sh' x' off
  obtain ⟨k, m, rfl, h1, h2, h3⟩ := jAL hd
  cases hp with
  | closed hp =>
  cases hp with
  | jC2 b o0 _ _ _ val hfit hoff hc hr =>
   refine ⟨_, ?_, fun w' _ => key b (o0 + off) k m rfl (jAP hq) h1 h2 w'⟩
   simp only [rdV, PV.jA7]
   rw [Nat.add_assoc]
   exact .closed (.jC2 b o0 (off + m.toNat * sh.size) sh' x' val hfit h3 hc hr)
 ·rename_i t' off
  obtain ⟨k, m, rfl, h1, h2⟩ := jAL hd
  cases hp with
  | closed hp => cases hp
  | ref _ _ b hb =>
   refine ⟨_, ?_, fun w' _ => key b off k m rfl (jAP hq) h1 h2 w'⟩
   simp only [rdV, PV.jA7]
   exact .ref t' _ b hb
 ·rename_i t' n' j off
  obtain ⟨k, m, rfl, h1, h2⟩ := jAL hd
  cases hp with
  | closed hp => cases hp
  | jDX _ _ _ _ b hb =>
   refine ⟨_, ?_, fun w' _ => key b (j * n' + off) k m rfl (jAP hq) h1 h2 w'⟩
   simp only [rdV, PV.jA7]
   rw [Nat.add_assoc]
   exact .jDX t' n' j _ b hb
theorem jPE {o : Oper} {t el : TypeId} {sh : Sh} {x i : Operand} (ho : o.op = .indexAddr t x i) (ht : P.underlying t = some (.slice el)) (he : jEZ P el = some sh) {ps : List PV}
  (hk : Known w κ ρ [x, i] ps) (hd : rdD μ (.jAC sh) ps) : jC5 P w κ ρ o (rdV μ (.jAC sh) ps) := by
 obtain ⟨p, q, rfl, hp, hq⟩ := jCW hk
 obtain ⟨hsz, -, -⟩ := jBD he
 have key : ∀ (a : Addr) (n c : Nat) (k : IntKind) (m : Int), ρ x = .slice (some a) n c -> ρ i = .int k m -> 0 <= m -> m < n -> ∀ w', (execOp ρ o).run P w' = .ok (.value (.pointer (some (a.add (m.toNat * sh.size))))) w' := by
  intro a n c k m e e2 h1 h2 w'
  simp [execOp, ho, e, e2, Instr.indexAt, asIntOf, run_underlying ht, h1, h2, hsz]
 cases p <;> simp only [rdD] at hd
 ·rename_i sh' xs
  obtain ⟨k, m, rfl, h1, h2, rfl⟩ := jAL hd
  obtain ⟨a, cap, b, off, val, hv, hcap, hmax, hfit, ha, hc, hr⟩ := jDN hp
  have hne : xs ≠ [] := by rintro rfl; simp at h2; omega
  rw [ha hne] at hv
  have hm : m.toNat < xs.length := by omega
  have hfx := hfit xs[m.toNat] (List.getElem_mem hm)
  have hget : xs.getD m.toNat .junk = xs[m.toNat] := by rw [List.getD_eq_getElem?_getD, List.getElem?_eq_getElem hm]; rfl
  refine ⟨.pointer (some ⟨b, off + m.toNat * sh'.size, none⟩), ?_, fun w' _ => by have := key _ _ _ _ _ hv (jAP hq) h1 h2 w'; rwa [Addr.add_lit] at this⟩
  simp only [rdV, PV.jA7]
  rw [hget]
  have hin : ∀ j, j < xs[m.toNat].cells.length -> m.toNat * sh'.size + j < (flat xs).length := by
   intro j hj
   rw [hfx.len] at hj
   rw [flat_length hfit]
   calc m.toNat * sh'.size + j < m.toNat * sh'.size + sh'.size := by omega
    _ = (m.toNat + 1) * sh'.size := by rw [Nat.add_mul]; omega
    _ <= xs.length * sh'.size := Nat.mul_le_mul_right _ (by omega)
  have hfg : ∀ j, j < xs[m.toNat].cells.length -> (flat xs)[m.toNat * sh'.size + j]? = xs[m.toNat].cells[j]? := by
   intro j hj
   exact flat_get hfit m.toNat j _ (List.getElem?_eq_getElem hm) (by rw [<- hfx.len]; exact hj)
  exact .closed (.jC2 b (off + m.toNat * sh'.size) 0 sh' xs[m.toNat] (fun j => val (m.toNat * sh'.size + j)) hfx (Nat.zero_le _)
   (fun j hj => by have := hc _ (hin j hj); rw [<- Nat.add_assoc] at this; exact this)
   (fun j r hj => by
    have hj' : j < xs[m.toNat].cells.length := by
     rcases Nat.lt_or_ge j xs[m.toNat].cells.length with h | h
     ·exact h
     ·rw [List.getElem?_eq_none h] at hj; cases hj
    exact hr _ r (by rw [hfg j hj']; exact hj)))
 ·rename_i sh' tg n
  obtain ⟨k, m, rfl, h1, h2, rfl⟩ := jAL hd
  rcases jNB hp with ⟨b, cap, hb, hv, -⟩ | ⟨-, rfl, -⟩
  ·refine ⟨_, ?_, fun w' _ => key _ _ _ _ _ hv (jAP hq) h1 h2 w'⟩
   rw [Addr.add_lit]
   simp only [rdV, PV.jA7, Nat.zero_add]
   exact .jDX tg sh'.size m.toNat 0 b hb
  ·simp at h2; omega
theorem jPH {o : Oper} {t : TypeId} {fields : Array Field} {f : Field} {j : TypeInfo} {i : Nat} {x : Operand} (ho : o.op = .fieldAddr t x i) (ht : P.underlying t = some (.struct fields))
  (hf : fields[i]? = some f) (hj : P.info? f.type = some j) (hj0 : j.size ≠ 0) {ps : List PV} (hk : Known w κ ρ [x] ps) (hd : rdD μ (.jDW f.offset) ps) : jC5 P w κ ρ o (rdV μ (.jDW f.offset) ps) := by
 obtain ⟨p, rfl, hp⟩ := known1 hk
 have key : ∀ (b off : Nat), ρ x = .pointer (some ⟨b, off, none⟩) -> ∀ w', (execOp ρ o).run P w' = .ok (.value (.pointer (some ⟨b, off + f.offset, none⟩))) w' := by
  intro b off e w'
  simp [execOp, ho, e, Instr.fieldAt, run_underlying ht, hf, Instr.sureAddr, fieldPlace, Go.sizeOf, typeInfo, hj, hj0, Addr.add_lit]
 cases p <;> simp only [rdD] at hd
 ·rename_i sh y off
  generalize hv : ρ x = v at hp
  cases hp with | closed hp =>
   cases hp with | jC2 b o' off sh y val hfit hoff hc hr =>
    refine ⟨_, ?_, fun w' _ => key _ _ hv w'⟩
    rw [Nat.add_assoc]
    exact .closed (.jC2 b o' (off + f.offset) sh y val hfit hd hc hr)
 ·rename_i tg off
  generalize hv : ρ x = v at hp
  cases hp with
  | closed hp => cases hp
  | ref _ _ b hb => exact ⟨_, .ref tg (off + f.offset) b hb, fun w' _ => key _ _ hv w'⟩
 ·rename_i tg n k off
  generalize hv : ρ x = v at hp
  cases hp with
  | closed hp => cases hp
  | jDX _ _ _ _ b hb =>
   refine ⟨_, ?_, fun w' _ => key _ _ hv w'⟩
   rw [Nat.add_assoc]
   exact .jDX tg n k (off + f.offset) b hb
theorem kCS {o : Oper} {t : TypeId} {fields : Array Field} {f : Field} {i : Nat} {x : Operand} {sh : Sh} (ho : o.op = .field t x i) (ht : P.underlying t = some (.struct fields))
  (hf : fields[i]? = some f) (hj : jEZ P f.type = some sh) {ps : List PV} (hk : Known w κ ρ [x] ps) (hd : rdD μ (.fld f.offset sh) ps) : jC5 P w κ ρ o (rdV μ (.fld f.offset sh) ps) := by
 obtain ⟨p, rfl, hp⟩ := known1 hk
 cases p <;> simp only [rdD] at hd
 obtain ⟨vs, e, hs, hr⟩ := jKZ hp
 obtain ⟨v, hv, hrun⟩ := jZ2 (P := P) hs hr hj hd
 exact ⟨v, hv, fun w' _ => by simp [execOp, ho, e, Instr.field, run_underlying ht, hf, asAgg, hrun]⟩
theorem jYN (hS : Sim w κ μ) {o : Oper} {t : TypeId} {x : Operand} {sh : Sh} (ho : o.op = .load t x) (ht : jEZ P t = some sh) {ps : List PV} (hk : Known w κ ρ [x] ps) (hd : rdD μ (.load sh) ps) :
  kKN P w κ ρ o (rdV μ (.load sh) ps) := by
 obtain ⟨p, rfl, hp⟩ := known1 hk
 simp only [rdD] at hd
 split at hd
 ·rename_i sh' y off hb
  obtain ⟨hsh, b, o', hv, hc⟩ := jMF hS hp hb
  obtain ⟨v, hrv, hrun⟩ := jWJ (P := P) ht hsh hc hd
  refine ⟨v, ?_, fun w' hw => by simp [execOp, ho, hv, Instr.loadAt, Instr.sureAddr, hrun w' hw]⟩
  simp only [rdV, hb]; exact hrv
 ·exact hd.elim
theorem kCZ {o : Oper} {i : Nat} {x : Operand} (ho : o.op = .extract x i) {ps : List PV} (hk : Known w κ ρ [x] ps) (hd : rdD μ (.ext i) ps) : jC5 P w κ ρ o (rdV μ (.ext i) ps) := by
 obtain ⟨p, rfl, hp⟩ := known1 hk
 cases p <;> simp only [rdD] at hd
 rename_i vs
 obtain ⟨us, e, hs, hr⟩ := kH7 hp
 have h1 : i < us.size := by omega
 refine ⟨us[i], ?_, fun w' _ => by simp [execOp, ho, e, Instr.extract, h1]⟩
 simp only [rdV]
 rw [List.getD_eq_getElem?_getD, List.getElem?_eq_getElem hd]
 exact hr i _ _ (Array.getElem?_eq_getElem h1) (List.getElem?_eq_getElem hd)
theorem jYI {o : Oper} {f : Nat} {first caps : Array Operand} (ho : o.op = .makeFunc (.func f) first caps) {ps : List PV} (hk : Known w κ ρ (first.toList ++ caps.toList) ps) (_hd : rdD μ (.jTR f first.size) ps) :
  jC5 P w κ ρ o (rdV μ (.jTR f first.size) ps) := by
 obtain ⟨hl, h⟩ := hk
 simp only [List.length_append, Array.length_toList] at hl
 refine ⟨.func (.func f) (first.map ρ) (caps.map ρ), ?_, fun w' _ => by simp [execOp, ho, Instr.makeFunc]⟩
 simp only [rdV]
 refine .fn f _ _ _ _ (by simp; omega) (by simp; omega) (fun i v p hv hp => ?_) (fun i v p hv hp => ?_)
 ·rw [Array.getElem?_map] at hv
  cases hx : first[i]? with
  | none => simp [hx] at hv
  | some x =>
   simp [hx] at hv; subst hv
   have hi : i < first.size := by
    rcases Nat.lt_or_ge i first.size with h' | h'
    ·exact h'
    ·rw [Array.getElem?_eq_none h'] at hx; cases hx
   rw [List.getElem?_take_of_lt hi] at hp
   exact h i x p (by rw [List.getElem?_append_left (by simpa using hi)]; simpa using hx) hp
 ·rw [Array.getElem?_map] at hv
  cases hx : caps[i]? with
  | none => simp [hx] at hv
  | some x =>
   simp [hx] at hv; subst hv
   rw [List.getElem?_drop] at hp
   refine h (first.size + i) x p ?_ hp
   rw [List.getElem?_append_right (by simp)]
   simpa using hx
theorem kBU {o : Oper} {x y : Operand} {ts : Array TypeId} (ho : o.op = .call { callee := .builtin .min, args := #[x, y], argTypes := ts }) {ps : List PV} (hk : Known w κ ρ [x, y] ps) (hd : rdD μ .min ps) :
  jC5 P w κ ρ o (rdV μ .min ps) := by
 obtain ⟨p, q, rfl, hp, hq⟩ := jCW hk
 cases p <;> simp only [rdD] at hd
 rename_i k a
 obtain ⟨k', b, rfl, -⟩ := jAL hd
 have e1 := jAP hp
 have e2 := jAP hq
 refine ⟨.int k (if b < a then b else a), ?_, fun w' _ => by simp [execOp, ho, e1, e2, resolve, invoke, builtin, Builtin.min_, Builtin.min2]⟩
 simp only [rdV, PV.jA7]
 have : min a b = if b < a then b else a := by split <;> omega
 rw [this]; exact .closed (.int _ _)
theorem kBY {o : Oper} {x y : Operand} {ts : Array TypeId} (ho : o.op = .call { callee := .builtin .max, args := #[x, y], argTypes := ts }) {ps : List PV} (hk : Known w κ ρ [x, y] ps) (hd : rdD μ .max ps) :
  jC5 P w κ ρ o (rdV μ .max ps) := by
 obtain ⟨p, q, rfl, hp, hq⟩ := jCW hk
 cases p <;> simp only [rdD] at hd
 rename_i k a
 obtain ⟨k', b, rfl, -⟩ := jAL hd
 have e1 := jAP hp
 have e2 := jAP hq
 refine ⟨.int k (if b > a then b else a), ?_, fun w' _ => by simp [execOp, ho, e1, e2, resolve, invoke, builtin, Builtin.max_, Builtin.max2]⟩
 simp only [rdV, PV.jA7]
 have : max a b = if b > a then b else a := by split <;> omega
 rw [this]; exact .closed (.int _ _)
theorem jRM {o : Oper} {x : Operand} (ho : o.op = .nilCheck x) {ps : List PV} (hk : Known w κ ρ [x] ps) (hd : rdD μ .jG5 ps) : jC5 P w κ ρ o (rdV μ .jG5 ps) := by
 obtain ⟨p, rfl, hp⟩ := known1 hk
 refine ⟨ρ x, by cases p <;> simp only [rdD] at hd <;> exact hp, fun w' _ => ?_⟩
 cases p <;> simp only [rdD] at hd <;> generalize hv : ρ x = v at hp
 ·cases hp with
  | closed hp => cases hp; simp [execOp, ho, hv]
  | fn => simp [execOp, ho, hv]
 ·cases hp with | closed hp => cases hp; simp [execOp, ho, hv]
 ·cases hp with
  | closed hp => cases hp
  | ref => simp [execOp, ho, hv]
 ·cases hp with
  | closed hp => cases hp
  | jDX => simp [execOp, ho, hv]
theorem jJ3 {ex : Nat -> Prop} : ∀ {vs : List Value} {ps : List PV}, vs.mapM PV.jRJ = some ps -> vs.length = ps.length ∧ ∀ (i : Nat) (v : Value) (p : PV), vs[i]? = some v -> ps[i]? = some p -> jAW w ex v p
 | [], ps, h => by simp at h; subst h; exact ⟨rfl, fun i v p h => by simp at h⟩
 | v :: vs, ps, h => by
  simp only [List.mapM_cons, Option.bind_eq_bind, Option.bind_eq_some_iff] at h
  obtain ⟨p, hp, qs, hq, h⟩ := h
  simp at h; subst h
  obtain ⟨h1, h2⟩ := jJ3 (ex := ex) hq
  refine ⟨by simp [h1], fun i v' p' hv hp' => ?_⟩
  cases i with
  | zero => simp at hv hp'; subst hv; subst hp'; exact PV.jK9 hp
  | succ i => exact h2 i v' p' (by simpa using hv) (by simpa using hp')
theorem jH5 {α β : Type} {f : α -> Option β} : ∀ {xs : List α} {ys : List β}, xs.mapM f = some ys -> xs.map f = ys.map some
 | [], ys, h => by simp at h; subst h; rfl
 | x :: xs, ys, h => by
  simp only [List.mapM_cons, Option.bind_eq_bind, Option.bind_eq_some_iff] at h
  obtain ⟨y, hy, zs, hz, h⟩ := h
  simp at h; subst h
  simp [hy, jH5 hz]
theorem jT9 {o : Oper} {t : TypeId} {parts : Array (Nat × Operand)} {zero : List PV} {jRI : List (Nat × Nat)} (ho : o.op = .build t parts) (hz : jKG P t = some zero)
  (hpl : placesOf P t parts.toList = some jRI) {ps : List PV} (hk : Known w κ ρ (parts.toList.map (·.2)) ps) (hd : rdD μ (.build zero jRI) ps) : jC5 P w κ ρ o (rdV μ (.build zero jRI) ps) := by
 simp only [jKG, Option.bind_eq_some_iff] at hz
 obtain ⟨i, hi, z, hzz, hm⟩ := hz
 obtain ⟨hzl, hzr⟩ := jJ3 (w := w) (ex := own κ) hm
 have hlen : (parts.toList.map fun x => (x.1, ρ x.2)).length = ps.length := by simpa using hk.1
 have hkn : ∀ (i : Nat) (x : Nat × Value) (p : PV), (parts.toList.map fun x => (x.1, ρ x.2))[i]? = some x -> ps[i]? = some p -> Rep w (own κ) κ x.2 p := by
  intro i x p hx hp
  rw [List.getElem?_map] at hx
  cases hy : parts.toList[i]? with
  | none => simp [hy] at hx
  | some y =>
   simp [hy] at hx; subst hx
   exact hk.2 i y.2 p (by rw [List.getElem?_map, hy]; rfl) hp
 have hzero : ∀ w', (zeroValue t).run P w' = .ok z w' := fun w' => by simp [zeroValue, typeInfo, hi, hzz]
 have fin : ∀ (place : Nat -> Option (Nat × Nat)), (parts.toList.map fun x => place x.1) = jRI.map some ->
   (∀ w', (Instr.build t (parts.map fun x => (x.1, ρ x.2))).run P w' = ((match Instr.fill place z.cells (parts.toList.map fun x => (x.1, ρ x.2)) with | some cs => pure (.agg cs) | none => stuck "build: no such field, or a part of the wrong size" : Sem Value).run P w') ∨
    (Instr.build t (parts.map fun x => (x.1, ρ x.2))).run P w' = ((match Instr.fill place z.cells (parts.toList.map fun x => (x.1, ρ x.2)) with | some cs => pure (.agg cs) | none => stuck "build: a part of the wrong size" : Sem Value).run P w')) ->
   jC5 P w κ ρ o (rdV μ (.build zero jRI) ps) := by
  intro place hpp hrun
  obtain ⟨arr', h1, h2, h3⟩ := jPI (w := w) (κ := κ) place _ jRI ps z.cells zero (by simpa [Function.comp_def] using hpp) hlen hkn (by simpa using hzl) (fun i v p a b => .closed (hzr i v p (by simpa using a) b)) hd
  refine ⟨.agg arr', .agg arr' _ h2 h3, fun w' _ => ?_⟩
  have hr := hrun w'
  rw [h1] at hr
  simp only [or_self] at hr
  simp [execOp, ho, hr]
 unfold placesOf at hpl
 split at hpl
 ·rename_i fields hu
  simp only [Option.bind_eq_some_iff] at hpl
  obtain ⟨places, kNX, hpl2⟩ := hpl
  have hpm := jH5 hpl2
  have hp1 : ∀ w', (fields.mapM (fun (f : Field) => (do pure (f.offset, <- Go.sizeOf f.type) : Sem (Nat × Nat)))).run P w' = .ok places.toArray w' := by
   intro w'
   have := run_places (P := P) w' fields.toList places kNX
   simp [Array.mapM_eq_mapM_toList, this]
  refine fin (places[·]?) hpm (fun w' => .inl ?_)
  simp only [Instr.build, Sem.run_bind, hzero, Result.andThen_ok, run_underlying hu, hp1, Array.toList_map, List.getElem?_toArray]
  cases Instr.fill (places[·]?) z.cells (parts.toList.map fun x => (x.1, ρ x.2)) <;> rfl
 ·rename_i n e hu
  simp only [Option.bind_eq_some_iff, Option.some.injEq] at hpl
  obtain ⟨j, hj, rfl⟩ := hpl
  refine fin (fun i => some (i * j.size, j.size)) (by simp [Function.comp_def]) (fun w' => .inr ?_)
  have hs : ∀ w', (Go.sizeOf e).run P w' = .ok j.size w' := fun w' => by simp [Go.sizeOf, typeInfo, hj]
  simp only [Instr.build, Sem.run_bind, hzero, Result.andThen_ok, run_underlying hu, hs, Array.toList_map]
  cases Instr.fill (fun i => some (i * j.size, j.size)) z.cells (parts.toList.map fun x => (x.1, ρ x.2)) <;> rfl
 ·cases hpl
theorem jSE {sh : Sh} : ∀ {xs : List PV}, (∀ x ∈ xs, fits sh x) -> ∀ k, PG.flat (xs.drop k) = (PG.flat xs).drop (k * sh.size)
 | [], _, k => by simp [PG.flat]
 | y :: xs, h, k => by
  have h1 := (h y (by simp)).len
  cases k with
  | zero => simp [PG.flat]
  | succ k =>
   have := jSE (sh := sh) (xs := xs) (fun y hy => h y (by simp [hy])) k
   simp only [PG.flat, List.drop_succ_cons, List.flatMap_cons] at *
   have e : (k + 1) * sh.size = y.cells.length + k * sh.size := by rw [h1, Nat.add_mul]; omega
   rw [this, e, List.drop_length_add_append]
theorem jNG {ex : Nat -> Prop} {a : Option Addr} {sh : Sh} {xs : List PV} {b off : Nat} {val : Nat -> Value} {l h m : Nat} (hlh : l <= h) (hhm : h <= m) (hfit : ∀ x ∈ xs, fits sh x) (ha : xs ≠ [] -> a = some ⟨b, off, none⟩)
  (hc : ∀ j, j < (PG.flat xs).length -> ¬ ex b ∧ w.cell? ⟨b, off + j, none⟩ = some (val j)) (hr : ∀ (j : Nat) (p : PV), (PG.flat xs)[j]? = some p -> jAW w ex (val j) p) :
  (∀ x ∈ (xs.take h).drop l, fits sh x) ∧ ((xs.take h).drop l ≠ [] -> (if m = l then a else a.map fun q => q.add (l * sh.size)) = some ⟨b, off + l * sh.size, none⟩) ∧
   (∀ j, j < (PG.flat ((xs.take h).drop l)).length -> ¬ ex b ∧ w.cell? ⟨b, off + l * sh.size + j, none⟩ = some (val (l * sh.size + j))) ∧
   ∀ (j : Nat) (p : PV), (PG.flat ((xs.take h).drop l))[j]? = some p -> jAW w ex (val (l * sh.size + j)) p := by
 have hft : ∀ x ∈ xs.take h, fits sh x := fun x hx => hfit x (List.mem_of_mem_take hx)
 have e : PG.flat ((xs.take h).drop l) = ((PG.flat xs).take (h * sh.size)).drop (l * sh.size) := by rw [jSE hft, jEH hfit]
 refine ⟨fun x hx => hft x (List.mem_of_mem_drop hx), fun hne => ?_, fun j hj => ?_, fun j p hp => ?_⟩
 ·have hx : xs ≠ [] := by rintro rfl; simp at hne
  have hml : m ≠ l := by
   intro hml
   apply hne
   apply List.drop_eq_nil_of_le
   simp; omega
  rw [if_neg hml, ha hx]
  simp only [Option.map_some, Addr.add]
  split
  ·rename_i h0; rw [h0]; rfl
  ·rfl
 ·rw [e, List.length_drop, List.length_take] at hj
  rw [Nat.add_assoc]
  exact hc _ (by omega)
 ·rw [e, List.getElem?_drop] at hp
  have hlt := (List.getElem?_eq_some_iff.1 hp).1
  rw [List.length_take] at hlt
  rw [List.getElem?_take_of_lt (by omega)] at hp
  exact hr _ p hp
theorem jRW {ex : Nat -> Prop} {a : Option Addr} {sh : Sh} {xs : List PV} {n cap l h m : Nat} (hlh : l <= h) (hhm : h <= m) (hx : h <= xs.length) (hmc : m <= cap) (hR : jAW w ex (.slice a n cap) (.list sh xs)) :
  jAW w ex (.slice (if m = l then a else a.map fun q => q.add (l * sh.size)) (h - l) (m - l)) (.list sh ((xs.take h).drop l)) := by
 cases hR with
 | list a len cap sh xs b off val hlen hcap hmax hfit ha hc hr =>
  obtain ⟨h1, h2, h3, h4⟩ := jNG hlh hhm hfit ha hc hr
  exact .list _ _ _ sh _ b (off + l * sh.size) (fun j => val (l * sh.size + j)) (by simp; omega) (by omega) (by omega) h1 h2 h3 h4
theorem kCN {ex : Nat -> Prop} {a : Option Addr} {sh : Sh} {xs : List PV} {n cap l h : Nat} (hlh : l <= h) (hx : h <= xs.length) (hmc : h <= cap) (hR : jAW w ex (.slice a n cap) (.list sh xs)) :
  jAW w ex (.slice (if h = l then a else a.map fun q => q.add (l * sh.size)) (h - l) (h - l)) (.full sh ((xs.take h).drop l)) := by
 cases hR with
 | list a len cap sh xs b off val hlen hcap hmax hfit ha hc hr =>
  obtain ⟨h1, h2, h3, h4⟩ := jNG hlh (Nat.le_refl h) hfit ha hc hr
  exact .full _ _ sh _ b (off + l * sh.size) (fun j => val (l * sh.size + j)) (by simp; omega) (by omega) h1 h2 h3 h4
theorem jON {t e : TypeId} {sh : Sh} (ht : P.underlying t = some (.slice e)) (he : jEZ P e = some sh) {v : Value} {p : PV} (hp : Rep w (own κ) κ v p) {a b : Int} (hd : kGO sh p a b) (lo hi : Option Value)
  (hlo : (∃ k, lo = some (.int k a)) ∨ (lo = none ∧ a = 0)) (hhi : (∃ k, hi = some (.int k b)) ∨ (hi = none ∧ b = lenV p)) :
  ∃ r, Rep w (own κ) κ r (kAA p a b) ∧ ∀ w', (Instr.slice t v lo hi none).run P w' = .ok r w' := by
 have hsz := (jBD he).1
 have run : ∀ (A : Option Addr) (n c : Nat), v = .slice A n c -> 0 <= a -> a <= b -> b <= n -> n <= c -> (hi = none -> b = n) -> ∀ w', (Instr.slice t v lo hi none).run P w' = .ok (.slice (if c = a.toNat then A else A.map fun q => q.add (a.toNat * sh.size)) (b.toNat - a.toNat) (c - a.toNat)) w' := by
  intro A n c hv h0 hab hbn hnc hnone w'
  subst hv
  have hbc : b <= c := by omega
  rcases hlo with ⟨k, rfl⟩ | ⟨rfl, rfl⟩ <;> rcases hhi with ⟨k', rfl⟩ | ⟨rfl, hb⟩
  ·simp [Instr.slice, run_underlying ht, Instr.sliceBounds, Instr.sliceBound, asIntOf, h0, hbc, hsz, show 0 <= b by omega]
   intro hh; omega
  ·have e : b.toNat = n := by have := hnone rfl; omega
   simp [Instr.slice, run_underlying ht, Instr.sliceBounds, Instr.sliceBound, asIntOf, h0, hsz, e, show a <= (n : Int) by omega]
  ·simp [Instr.slice, run_underlying ht, Instr.sliceBounds, Instr.sliceBound, asIntOf, hbc, hsz, show 0 <= b by omega]
  ·have e : b.toNat = n := by have := hnone rfl; omega
   simp [Instr.slice, run_underlying ht, Instr.sliceBounds, Instr.sliceBound, asIntOf, hsz, e]
 cases p <;> simp only [kGO] at hd
 ·obtain ⟨rfl, rfl⟩ := hd
  have hv := jDC hp
  refine ⟨_, .closed ?_, run none 0 0 hv (by omega) (by omega) (by omega) (by omega) (fun _ => rfl)⟩
  simp only [kAA]
  exact .jAH
 ·rename_i sh' xs
  obtain ⟨rfl, h0, hab, hbx⟩ := hd
  obtain ⟨A, cap, b', off, val, hv, hcap, -⟩ := jDN hp
  refine ⟨_, .closed ?_, run A xs.length cap hv h0 hab hbx hcap (fun hn => by rcases hhi with ⟨k, hk⟩ | ⟨-, hb⟩; rw [hn] at hk; cases hk; simpa [lenV] using hb)⟩
  simp only [kAA]
  rw [hv] at hp
  exact jRW (n := xs.length) (by omega) (by omega) (by omega) (Nat.le_refl cap) (jOW hp)
 ·rename_i sh' t' n
  obtain ⟨rfl, rfl, h0, hbn⟩ := hd
  rcases jNB hp with ⟨bk, cap, hk, hv, hnc, hm, E, hs⟩ | ⟨hk, rfl, hv⟩
  ·refine ⟨_, ?_, run (some ⟨bk, 0, none⟩) n cap hv (by omega) h0 hbn hnc (fun hn => by rcases hhi with ⟨k, hk⟩ | ⟨-, hb⟩; rw [hn] at hk; cases hk; simpa [lenV] using hb)⟩
   simp only [kAA]
   have : (if cap = (0 : Int).toNat then (some ⟨bk, 0, none⟩ : Option Addr) else (some ⟨bk, 0, none⟩ : Option Addr).map fun q => q.add ((0 : Int).toNat * sh'.size)) = some ⟨bk, 0, none⟩ := by
    split
    ·rfl
    ·simp [Addr.add]
   rw [this]
   exact .sl sh' t' b.toNat bk cap hk ⟨E, hs⟩ (by omega) hm
  ·have hb : b = 0 := by omega
   subst hb
   refine ⟨_, ?_, run none 0 0 hv (by omega) (by omega) (by omega) (by omega) (fun _ => rfl)⟩
   simp only [kAA]
   exact .slnil sh' t' hk
theorem jSA {t e : TypeId} {sh : Sh} (ht : P.underlying t = some (.slice e)) (he : jEZ P e = some sh) {v : Value} {p : PV} (hp : Rep w (own κ) κ v p) {a b m : Int} (hd : jY2 sh p a b m) (lo : Option Value) (k' k'' : IntKind)
  (hlo : (∃ k, lo = some (.int k a)) ∨ (lo = none ∧ a = 0)) :
  ∃ r, Rep w (own κ) κ r (jT2 p a b m) ∧ ∀ w', (Instr.slice t v lo (some (.int k' b)) (some (.int k'' m))).run P w' = .ok r w' := by
 have hsz := (jBD he).1
 have run : ∀ (A : Option Addr) (n c : Nat), v = .slice A n c -> 0 <= a -> a <= b -> b <= m -> m <= c -> ∀ w', (Instr.slice t v lo (some (.int k' b)) (some (.int k'' m))).run P w' = .ok (.slice (if m.toNat = a.toNat then A else A.map fun q => q.add (a.toNat * sh.size)) (b.toNat - a.toNat) (m.toNat - a.toNat)) w' := by
  intro A n c hv h0 hab hbm hmc w'
  subst hv
  have hm0 : 0 <= m := by omega
  have hb0 : 0 <= b := by omega
  have kQD : b <= max m 0 := by omega
  have hab' : a <= max b 0 := by omega
  rcases hlo with ⟨k, rfl⟩ | ⟨rfl, rfl⟩
  ·simp [Instr.slice, run_underlying ht, Instr.sliceBounds, Instr.sliceBound, asIntOf, h0, hab, hab', hbm, kQD, hmc, hm0, hb0, hsz]
  ·simp [Instr.slice, run_underlying ht, Instr.sliceBounds, Instr.sliceBound, asIntOf, hbm, kQD, hmc, hm0, hb0, hsz]
 cases p <;> simp only [jY2] at hd
 ·obtain ⟨rfl, rfl, rfl⟩ := hd
  have hv := jDC hp
  refine ⟨_, .closed ?_, run none 0 0 hv (by omega) (by omega) (by omega) (by omega)⟩
  simp only [jT2]
  exact .jAH
 ·rename_i sh' xs
  obtain ⟨rfl, h0, hab, hbm, hmx⟩ := hd
  obtain ⟨A, cap, b', off, val, hv, hcap, -⟩ := jDN hp
  rw [hv] at hp
  refine ⟨_, ?_, run A xs.length cap hv h0 hab hbm (by omega)⟩
  simp only [jT2]
  by_cases hmb : m = b
  ·rw [if_pos hmb]
   subst hmb
   exact .closed (kCN (n := xs.length) (by omega) (by omega) (by omega) (jOW hp))
  ·rw [if_neg hmb]
   exact .closed (jRW (n := xs.length) (cap := cap) (by omega) (by omega) (by omega) (by omega) (jOW hp))
theorem kLP {x y z u : Operand} {ps : List PV} (h : Known w κ ρ [x, y, z, u] ps) :
  ∃ p q r s, ps = [p, q, r, s] ∧ Rep w (own κ) κ (ρ x) p ∧ Rep w (own κ) κ (ρ y) q ∧ Rep w (own κ) κ (ρ z) r ∧ Rep w (own κ) κ (ρ u) s := by
 obtain ⟨hl, h⟩ := h
 match ps, hl with
 | [p, q, r, s], _ => exact ⟨p, q, r, s, rfl, h 0 x p rfl rfl, h 1 y q rfl rfl, h 2 z r rfl rfl, h 3 u s rfl rfl⟩
theorem jIS {o : Oper} {t e : TypeId} {sh : Sh} {x : Operand} {lo hi : Option Operand} (ho : o.op = .slice t x lo hi none) (ht : P.underlying t = some (.slice e)) (he : jEZ P e = some sh) {ps : List PV}
  (hk : Known w κ ρ (x :: (lo.toList ++ hi.toList)) ps) (hd : rdD μ (.slc sh lo.isSome hi.isSome false) ps) : jC5 P w κ ρ o (rdV μ (.slc sh lo.isSome hi.isSome false) ps) := by
 cases lo with
 | none =>
  cases hi with
  | none =>
   obtain ⟨p, rfl, hp⟩ := known1 hk
   simp [rdD] at hd
  | some b =>
   obtain ⟨p, q, rfl, hp, hq⟩ := jCW hk
   simp only [rdD, Option.isSome] at hd
   obtain ⟨k, n, rfl, hd1⟩ := jAL hd
   have e2 := jAP hq
   obtain ⟨r, hr, hrun⟩ := jON ht he hp hd1 none (some (.int k n)) (.inr ⟨rfl, rfl⟩) (.inl ⟨k, rfl⟩)
   refine ⟨r, hr, fun w' _ => ?_⟩
   simp [execOp, ho, e2, Instr.sliceAt, run_underlying ht, hrun]
 | some a =>
  cases hi with
  | none =>
   obtain ⟨p, q, rfl, hp, hq⟩ := jCW hk
   simp only [rdD, Option.isSome] at hd
   obtain ⟨k, n, rfl, hd1⟩ := jAL hd
   have e2 := jAP hq
   obtain ⟨r, hr, hrun⟩ := jON ht he hp hd1 (some (.int k n)) none (.inl ⟨k, rfl⟩) (.inr ⟨rfl, rfl⟩)
   refine ⟨r, hr, fun w' _ => ?_⟩
   simp [execOp, ho, e2, Instr.sliceAt, run_underlying ht, hrun]
  | some b =>
   obtain ⟨p, q, q', rfl, hp, hq, hq'⟩ := jNU hk
   simp only [rdD, Option.isSome] at hd
   obtain ⟨k, n, rfl, hd1⟩ := jAL hd
   obtain ⟨k', n', rfl, hd2⟩ := jAL hd1
   have e2 := jAP hq
   have e3 := jAP hq'
   obtain ⟨r, hr, hrun⟩ := jON ht he hp hd2 (some (.int k n)) (some (.int k' n')) (.inl ⟨k, rfl⟩) (.inl ⟨k', rfl⟩)
   refine ⟨r, hr, fun w' _ => ?_⟩
   simp [execOp, ho, e2, e3, Instr.sliceAt, run_underlying ht, hrun]
theorem jM5 {o : Oper} {t e : TypeId} {sh : Sh} {x b c : Operand} {lo : Option Operand} (ho : o.op = .slice t x lo (some b) (some c)) (ht : P.underlying t = some (.slice e)) (he : jEZ P e = some sh) {ps : List PV}
  (hk : Known w κ ρ (x :: (lo.toList ++ [b, c])) ps) (hd : rdD μ (.slc sh lo.isSome true true) ps) : jC5 P w κ ρ o (rdV μ (.slc sh lo.isSome true true) ps) := by
 cases lo with
 | none =>
  obtain ⟨p, q, q', rfl, hp, hq, hq'⟩ := jNU hk
  simp only [rdD, Option.isSome] at hd
  obtain ⟨k, n, rfl, hd1⟩ := jAL hd
  obtain ⟨k', n', rfl, hd2⟩ := jAL hd1
  have e2 := jAP hq
  have e3 := jAP hq'
  obtain ⟨r, hr, hrun⟩ := jSA ht he hp hd2 none k k' (.inr ⟨rfl, rfl⟩)
  refine ⟨r, hr, fun w' _ => ?_⟩
  simp [execOp, ho, e2, e3, Instr.sliceAt, run_underlying ht, hrun]
 | some a =>
  obtain ⟨p, q, q', q'', rfl, hp, hq, hq', kRM⟩ := kLP hk
  simp only [rdD, Option.isSome] at hd
  obtain ⟨k, n, rfl, hd1⟩ := jAL hd
  obtain ⟨k', n', rfl, hd2⟩ := jAL hd1
  obtain ⟨k'', n'', rfl, hd3⟩ := jAL hd2
  have e2 := jAP hq
  have e3 := jAP hq'
  have e4 := jAP kRM
  obtain ⟨r, hr, hrun⟩ := jSA ht he hp hd3 (some (.int k n)) k' k'' (.inl ⟨k, rfl⟩)
  refine ⟨r, hr, fun w' _ => ?_⟩
  simp [execOp, ho, e2, e3, e4, Instr.sliceAt, run_underlying ht, hrun]
def kIN : KK -> TypeDesc -> Prop
 | .int k, .int k' => k' = k
 | .str, .string => True
 | .bool, .bool => True
 | _, _ => False
theorem jIA {k : TypeId} {kd : KK} (h : jYU P k = some kd) : ∃ d, P.underlying k = some d ∧ kIN kd d := by
 unfold jYU at h
 split at h <;> simp at h <;> subst h
 ·rename_i j hj; exact ⟨.int j, hj, rfl⟩
 ·rename_i hj; exact ⟨.string, hj, trivial⟩
 ·rename_i hj; exact ⟨.bool, hj, trivial⟩
theorem jDP {ex : Nat -> Prop} {kd : KK} {d : TypeDesc} (hd : kIN kd d) {v : Value} {p : PV} (h : jAW w ex v p) (hk : jBT kd p = true) : MapKept.IsKey d v := by
 cases kd <;> cases d <;> simp only [kIN] at hd <;> cases p <;> simp [jBT] at hk <;> cases h <;> simp_all [MapKept.IsKey]
theorem key_eq {ex : Nat -> Prop} {kd : KK} {d : TypeDesc} (hd : kIN kd d) {u v : Value} {p q : PV} (hu : jAW w ex u p) (hv : jAW w ex v q) (hp : jBT kd p = true) (hq : jBT kd q = true) : Instr.sameNow d u v = some (jPC q p) := by
 cases kd <;> cases d <;> simp only [kIN] at hd <;> cases p <;> simp [jBT] at hp <;> cases q <;> simp [jBT] at hq <;> cases hu <;> cases hv <;> simp only [Instr.sameNow, jPC]
 ·subst hd; subst hp; subst hq
  rw [if_pos rfl]; congr 1; rw [Bool.eq_iff_iff]; simp; exact ⟨fun h => h.symm, fun h => h.symm⟩
 ·congr 1; rw [Bool.eq_iff_iff, MapKept.bytes_beq, decide_eq_true_eq]
  rename_i a b
  exact ⟨fun h => by rw [h], fun h => by exact (ByteArray.ext (Array.ext' h.symm))⟩
 ·congr 1; rw [Bool.eq_iff_iff]; simp; exact ⟨fun h => h.symm, fun h => h.symm⟩
theorem jGP {v : Value} {p : PV} {kd : KK} (h : Rep w (own κ) κ v p) (hk : jBT kd p = true) : jAW w (own κ) v p := by
 cases h with
 | closed h => exact h
 | _ => cases kd <;> simp [jBT] at hk
theorem find_spec {ex : Nat -> Prop} {kd : KK} {d : TypeDesc} (hd : kIN kd d) {u : Value} {p : PV} (hu : jAW w ex u p) (hp : jBT kd p = true) : ∀ (ents : List MapEntry) (es : List (PV × PV)) (n : Nat), ents.length = es.length ->
  (∀ (i : Nat) (e : MapEntry) (q : PV × PV), ents[i]? = some e -> es[i]? = some q -> jAW w ex e.key q.1) -> (∀ q ∈ es, jBT kd q.1 = true) ->
  (Instr.findNow d u ents n = some none ∧ jI2 es p = none ∧ ∀ v, jF7 es p v = es ++ [(p, v)]) ∨
   ∃ j e q, Instr.findNow d u ents n = some (some (n + j, e.val)) ∧ ents[j]? = some e ∧ es[j]? = some q ∧ e.key = u ∧ jI2 es p = some (j, q.2) ∧ ∀ v, jF7 es p v = es.set j (p, v)
 | [], [], _, _, _, _ => .inl ⟨rfl, rfl, fun _ => rfl⟩
 | [], _ :: _, _, h, _, _ => by simp at h
 | _ :: _, [], _, h, _, _ => by simp at h
 | e :: ents, q :: es, n, hl, hr, hk => by
  have hs := key_eq hd hu (hr 0 e q rfl rfl) hp (hk q (by simp))
  cases hq : jPC q.1 p with
  | true =>
   refine .inr ⟨0, e, q, by simp [Instr.findNow, hs, hq], rfl, rfl, ?_, by simp [jI2, hq], fun v => by simp [jF7, hq]⟩
   obtain ⟨r, hr', hiff⟩ := MapKept.sameNow_of_keys (jDP hd hu hp) (jDP hd (hr 0 e q rfl rfl) (hk q (by simp)))
   rw [hs, hq] at hr'
   cases hr'
   exact (hiff.1 rfl).symm
  | false =>
   rcases find_spec hd hu hp ents es (n + 1) (by simpa using hl) (fun i e q a b => hr (i + 1) e q (by simpa using a) (by simpa using b)) (fun q h => hk q (by simp [h])) with ⟨h1, h2, h3⟩ | ⟨j, e', q', h1, h2, h3, h4, h5, h6⟩
   ·exact .inl ⟨by simp [Instr.findNow, hs, hq, h1], by simp [jI2, hq, h2], fun v => by simp [jF7, hq, h3]⟩
   ·refine .inr ⟨j + 1, e', q', by simp [Instr.findNow, hs, hq, h1]; omega, by simpa using h2, by simpa using h3, h4, by simp [jI2, hq, h5], fun v => by simp [jF7, hq, h6]⟩
theorem jMY {t : TypeId} {z : PV} (h : zeroV P t = some z) : ∃ zv, (∀ w, (zeroValue t).run P w = .ok zv w) ∧ ∀ (w : World) (ex : Nat -> Prop), jAW w ex zv z := by
 simp only [zeroV, Option.bind_eq_some_iff] at h
 obtain ⟨i, hi, zv, hz, h⟩ := h
 refine ⟨zv, fun w => by simp [zeroValue, typeInfo, hi, hz], fun w ex => ?_⟩
 unfold PV.kGY at h
 split at h
 ·rename_i cs
  simp only [Option.map_eq_some_iff] at h
  obtain ⟨ps, hm, rfl⟩ := h
  have := jJ3 (w := w) (ex := ex) hm
  exact .agg cs ps (by simpa using this.1) (by simpa using this.2)
 ·exact PV.jK9 h
theorem jYM (hS : Sim w κ μ) {o : Oper} {t k e : TypeId} {kd : KK} {ok : Bool} {z : PV} {x i : Operand} (ho : o.op = .lookup t x i ok) (ht : P.underlying t = some (.map k e)) (hk0 : jYU P k = some kd) (hz : zeroV P e = some z) {ps : List PV}
  (hk : Known w κ ρ [x, i] ps) (hd : rdD μ (.look kd ok z) ps) : kKN P w κ ρ o (rdV μ (.look kd ok z) ps) := by
 obtain ⟨p, q, rfl, hp, hq⟩ := jCW hk
 obtain ⟨d, hu, hkd⟩ := jIA hk0
 obtain ⟨zv, hzr, hzc⟩ := jMY hz
 have fin : ∀ (o' : Option PV) (v : Value) (b : Bool), Rep w (own κ) κ v (o'.getD z) -> b = o'.isSome -> Rep w (own κ) κ (if ok then .tuple #[v, .bool b] else v) (jBQ ok z o') := by
  intro o' v b hv hb
  subst hb
  cases ok with
  | false => exact hv
  | true =>
   refine .tup _ _ rfl fun j v' p' a b => ?_
   match j, a, b with
   | 0, a, b => simp at a b; subst a; subst b; exact hv
   | 1, a, b => simp at a b; subst a; subst b; exact .closed (.bool _)
 have some_ : ∀ (r : Nat) (ents : Array MapEntry) (clock : Nat) (es : List (PV × PV)), ρ x = .map (some r) -> w.heap[r]? = some (.map ents clock) -> ents.size = es.length -> (∀ q ∈ es, jBT kd q.1 = true) ->
   (∀ (i : Nat) (e : MapEntry) (q : PV × PV), ents[i]? = some e -> es[i]? = some q -> jAW w (own κ) e.key q.1) -> (∀ (i : Nat) (e : MapEntry) (q : PV × PV), ents[i]? = some e -> es[i]? = some q -> Rep w (own κ) κ e.val q.2) -> jBT kd q = true ->
   kKN P w κ ρ o (jBQ ok z (jFK es q)) := by
  intro r ents clock es hv h hs hko hkk hvv hqk
  have hqc := jGP hq hqk
  have hik := jDP hkd hqc hqk
  rcases find_spec hkd hqc hqk ents.toList es 0 (by simpa using hs) (fun i e q a b => hkk i e q (by simpa using a) b) hko with ⟨h1, h2, -⟩ | ⟨j, e', q', h1, h2, h3, -, h5, -⟩
  ·refine ⟨if ok then .tuple #[zv, .bool false] else zv, ?_, fun w' hw => ?_⟩
   ·rw [jFK, h2]; exact fin none zv false (.closed (hzc _ _)) rfl
   ·have hb : w'.heap[r]? = some (.map ents clock) := by rw [hw r (lt_of_block h)]; exact h
    simp only [execOp, ho, hv, Instr.lookup, Sem.run_bind, run_underlying ht, Result.andThen_ok, MapKept.run_getObj_map hb, MapKept.run_checkKey hu hik, MapKept.run_findKey hu h1, hzr, Sem.run_pure]
    try (cases ok <;> simp)
  ·refine ⟨if ok then .tuple #[e'.val, .bool true] else e'.val, ?_, fun w' hw => ?_⟩
   ·rw [jFK, h5]; exact fin (some q'.2) e'.val true (hvv j e' q' (by simpa using h2) h3) rfl
   ·have hb : w'.heap[r]? = some (.map ents clock) := by rw [hw r (lt_of_block h)]; exact h
    simp only [execOp, ho, hv, Instr.lookup, Sem.run_bind, run_underlying ht, Result.andThen_ok, MapKept.run_getObj_map hb, MapKept.run_checkKey hu hik, MapKept.run_findKey hu h1, Sem.run_pure]
    try (cases ok <;> simp)
 cases p <;> simp only [rdD] at hd
 ·have hv := jIX hp
  have hqc := jGP hq hd
  have hik := jDP hkd hqc hd
  refine ⟨if ok then .tuple #[zv, .bool false] else zv, fin none zv false (.closed (hzc _ _)) rfl, fun w' hw => ?_⟩
  have h1 : Instr.findNow d (ρ i) (#[] : Array MapEntry).toList 0 = some none := rfl
  simp only [execOp, ho, hv, Instr.lookup, Sem.run_bind, run_underlying ht, Result.andThen_ok, MapKept.run_checkKey hu hik, MapKept.run_findKey hu h1, hzr, Sem.run_pure]
  try (cases ok <;> simp)
 ·obtain ⟨rfl, hd⟩ := hd
  obtain ⟨r, ents, clock, hv, -, -, h, hs, -, hko, hkk, hvv⟩ := jDO hp
  exact some_ r ents clock _ hv h hs hko hkk (fun i e q a b => .closed (hvv i e q a b)) hd
 ·rename_i tag
  simp only [rdV]
  split at hd
  ·rename_i kd' es hg
   obtain ⟨rfl, hd⟩ := hd
   obtain ⟨r, ents, clock, hv, -, h, hs, -, hko, hkk, hvv⟩ := jC6 hS hp hg
   exact some_ r ents clock _ hv h hs hko hkk (fun i e q a b => .closed (hvv i e q a b)) hd
  ·rename_i kd' es hg
   obtain ⟨rfl, hd⟩ := hd
   obtain ⟨r, ents, clock, hv, -, h, hs, -, hko, hkk, hvv⟩ := jHV hS hp hg
   exact some_ r ents clock _ hv h hs hko hkk hvv hd
  ·rename_i kd' es hg
   obtain ⟨rfl, hd⟩ := hd
   obtain ⟨r, ents, clock, hv, -, h, hs, hko, hkk, hvv⟩ := jFN hS hp hg
   exact some_ r ents clock _ hv h hs hko hkk (fun i e q a b => .closed (hvv i e q a b)) hd
  ·exact hd.elim
end
section
variable {P : Program} {w : World} {κ : Kap} {μ : Mem} {ρ : Operand -> Value}
theorem jQW (hS : Sim w κ μ) {o : Oper} {k : RK} {xs : List Operand} (hc : jFV P o.op = some (k, xs)) {ps : List PV} (hk : Known w κ ρ xs ps) (hd : rdD μ k ps) : kJ8 (kKQ w k.wl) P w κ ρ o (rdV μ k ps) := by
 generalize ho : o.op = op at hc
 unfold jFV at hc
 split at hc
 ·cases hc; exact jRQ (.inl ho) hk hd
 ·cases hc; exact jRQ (.inr ho) hk hd
 ·cases hc; exact jYB ho hk hd
 ·rename_i op t x y t'
  split at hc
  ·rename_i fs hu
   split at hc
   ·rename_i hh
    split at hc
    ·simp only [Option.map_eq_some_iff] at hc
     obtain ⟨ks, hks, hc⟩ := hc
     cases hc; exact jSL (neg := false) ho hu hh.1 hh.2 hks hk hd
    ·simp only [Option.map_eq_some_iff] at hc
     obtain ⟨ks, hks, hc⟩ := hc
     cases hc; exact jSL (neg := true) ho hu hh.1 hh.2 hks hk hd
    ·cases hc
   ·cases hc
  ·rename_i hu
   split at hc
   ·cases hc; exact jSK (neg := false) ho hu hk hd
   ·cases hc; exact jSK (neg := true) ho hu hk hd
   ·cases hc
  ·rename_i hu
   split at hc
   ·cases hc; exact jCJ (neg := false) (k := 0) ho hu trivial hk hd
   ·cases hc; exact jCJ (neg := true) (k := 0) ho hu trivial hk hd
   ·cases hc
  ·rename_i hu
   split at hc
   ·cases hc; exact jCJ (neg := false) (k := 1) ho hu trivial hk hd
   ·cases hc; exact jCJ (neg := true) (k := 1) ho hu trivial hk hd
   ·cases hc
  ·rename_i hu
   split at hc
   ·cases hc; exact jCJ (neg := false) (k := 2) ho hu trivial hk hd
   ·cases hc; exact jCJ (neg := true) (k := 2) ho hu trivial hk hd
   ·cases hc
  ·rename_i hu
   split at hc
   ·cases hc; exact jCJ (neg := false) (k := 3) ho hu trivial hk hd
   ·cases hc; exact jCJ (neg := true) (k := 3) ho hu trivial hk hd
   ·cases hc
  ·cases hc; exact jY8 ho hk hd
 ·cases hc; exact kEH ho hk hd
 ·split at hc
  ·cases hc; exact jY6 ho ‹_› ‹_› hk hd
  ·cases hc; exact jXP ho ‹_› ‹_› hk hd
  ·cases hc; exact kDN ho ‹_› ‹_› hk hd
  ·cases hc
 ·rename_i c
  obtain ⟨cal, args, ts⟩ := c
  have hargs : ∀ l, args.toList = l -> args = l.toArray := fun l h => by rw [<- h]
  unfold jXC at hc
  split at hc
  ·rename_i kHD
   simp only at kHD; subst kHD
   split at hc
   ·rename_i x hx
    have := hargs _ hx; subst this
    simp only [Option.bind_eq_some_iff] at hc
    obtain ⟨t, ht, hc⟩ := hc
    split at hc
    ·cases hc; exact jYQ ho ht ‹_› hk hd
    ·cases hc; exact jYS ho ht ‹_› hk hd
    ·cases hc; exact jYR hS ho ht ‹_› hk hd
    ·cases hc
   ·cases hc
  ·rename_i kHD
   simp only at kHD; subst kHD
   split at hc
   ·rename_i x y hx
    have := hargs _ hx; subst this
    cases hc; exact kBU ho hk hd
   ·cases hc
  ·rename_i kHD
   simp only at kHD; subst kHD
   split at hc
   ·rename_i x y hx
    have := hargs _ hx; subst this
    cases hc; exact kBY ho hk hd
   ·cases hc
  ·cases hc
 ·split at hc
  ·cases hc; exact jYX ho ‹_› hk hd
  ·simp only [Option.map_eq_some_iff] at hc
   obtain ⟨sh, hsh, hc⟩ := hc
   cases hc; exact jYY ho ‹_› hsh hk hd
  ·cases hc
 ·rename_i t x lo hi
  split at hc
  ·split at hc
   ·cases hc; exact jIR (lo := some _) (hi := some _) ho ‹_› hk hd
   ·cases hc; exact jIR (lo := some _) (hi := none) ho ‹_› hk hd
   ·cases hc; exact jIR (lo := none) (hi := some _) ho ‹_› hk hd
   ·cases hc
  ·simp only [Option.bind_eq_some_iff] at hc
   obtain ⟨sh, hsh, hc⟩ := hc
   split at hc
   ·cases hc; exact jIS (lo := some _) (hi := some _) ho ‹_› hsh hk hd
   ·cases hc; exact jIS (lo := some _) (hi := none) ho ‹_› hsh hk hd
   ·cases hc; exact jIS (lo := none) (hi := some _) ho ‹_› hsh hk hd
   ·cases hc
  ·split at hc
   ·split at hc
    ·cases hc; exact jXT ho ‹_› ‹_› hk hd
    ·cases hc
   ·cases hc
  ·cases hc
 ·split at hc
  ·simp only [Option.map_eq_some_iff] at hc
   obtain ⟨sh, hsh, hc⟩ := hc
   split at hc
   ·cases hc; exact jM5 (lo := some _) ho ‹_› hsh hk hd
   ·cases hc; exact jM5 (lo := none) ho ‹_› hsh hk hd
  ·cases hc
 ·split at hc
  ·simp only [Option.bind_eq_some_iff, Option.map_eq_some_iff] at hc
   obtain ⟨kd, hkd, z, hz, hc⟩ := hc
   cases hc; exact jYM hS ho ‹_› hkd hz hk hd
  ·cases hc
 ·cases hc
  exact absurd hd (by cases ps <;> simp [rdD])
 ·split at hc
  ·simp only [Option.map_eq_some_iff] at hc
   obtain ⟨sh, hsh, hc⟩ := hc
   cases hc; exact jPE ho ‹_› hsh hk hd
  ·simp only [Option.map_eq_some_iff] at hc
   obtain ⟨sh, hsh, hc⟩ := hc
   cases hc; exact jMO ho ‹_› hsh hk hd
  ·cases hc
 ·split at hc
  ·simp only [Option.bind_eq_some_iff] at hc
   obtain ⟨f, hf, hc⟩ := hc
   split at hc
   ·split at hc
    ·cases hc
    ·cases hc; exact jPH ho ‹_› hf ‹_› ‹_› hk hd
   ·cases hc
  ·cases hc
 ·split at hc
  ·simp only [Option.bind_eq_some_iff, Option.map_eq_some_iff] at hc
   obtain ⟨f, hf, sh, hsh, hc⟩ := hc
   cases hc; exact kCS ho ‹_› hf hsh hk hd
  ·cases hc
 ·simp only [Option.map_eq_some_iff] at hc
  obtain ⟨sh, hsh, hc⟩ := hc
  cases hc; exact jYN hS ho hsh hk hd
 ·simp only [Option.bind_eq_some_iff, Option.map_eq_some_iff] at hc
  obtain ⟨z, hz, pl, hpl, hc⟩ := hc
  cases hc; exact jT9 ho hz hpl hk hd
 ·cases hc; exact kCZ ho hk hd
 ·cases hc; exact jYI ho hk hd
 ·cases hc; exact jRM ho hk hd
 ·cases hc
theorem jQX (hS : Sim w κ μ) {o : Oper} {k : RK} {xs : List Operand} (hc : jFV P o.op = some (k, xs)) {ps : List PV} (hk : Known w κ ρ xs ps) (hd : rdD μ k ps) (hw : k.wl = true) : jC5 P w κ ρ o (rdV μ k ps) := by
 have := jQW hS hc hk hd
 rw [hw] at this; exact this
theorem jGQ (hS : Sim w κ μ) {o : Oper} {k : RK} {xs : List Operand} (hc : jFV P o.op = some (k, xs)) {ps : List PV} (hk : Known w κ ρ xs ps) (hd : rdD μ k ps) : kKN P w κ ρ o (rdV μ k ps) := by
 obtain ⟨v, h1, h2⟩ := jQW hS hc hk hd
 refine ⟨v, h1, fun w' hw => h2 w' ?_⟩
 cases k.wl with
 | true => trivial
 | false => exact hw
end
end PG
