import Derived.Carry
import Derived.ProofKit
import Derived.Laws.AppendOwn
import Derived.Sort.OwnSorted
import Derived.Test.YthekpjhffciakaaDoorP3
namespace PG
open Go
set_option linter.unusedSimpArgs false
set_option linter.unusedVariables false
mutual
inductive Sub : PV → PV → Prop
  | refl (p : PV) : Sub p p
  | nil (sh : Sh) : Sub .nilSl (.list sh [])
  | agg {ps qs : List PV} (h : SubL ps qs) : Sub (.agg ps) (.agg qs)
  | list {sh : Sh} {xs ys : List PV} (h : SubL xs ys) : Sub (.list sh xs) (.list sh ys)
inductive SubL : List PV → List PV → Prop
  | nil : SubL [] []
  | cons {p q : PV} {ps qs : List PV} (h : Sub p q) (t : SubL ps qs) : SubL (p :: ps) (q :: qs)
end
theorem SubL.len : ∀ {ps qs : List PV}, SubL ps qs → ps.length = qs.length
  | [], _, h => by cases h; rfl
  | p :: ps, _, h => by cases h with | cons h t => simp [SubL.len t]
theorem SubL.refl : ∀ (ps : List PV), SubL ps ps
  | [] => .nil
  | p :: ps => .cons (.refl p) (SubL.refl ps)
theorem SubL.get : ∀ {ps qs : List PV}, SubL ps qs → ∀ {i : Nat} {q : PV}, qs[i]? = some q → ∃ p, ps[i]? = some p ∧ Sub p q
  | [], _, h, i, q, hq => by cases h; simp at hq
  | p :: ps, _, h, i, q, hq => by
    cases h with
    | cons h t =>
      cases i with
      | zero => simp at hq; subst hq; exact ⟨p, rfl, h⟩
      | succ i => simp at hq; simpa using SubL.get t hq
theorem SubL.app : ∀ {ps qs rs ss : List PV}, SubL ps qs → SubL rs ss → SubL (ps ++ rs) (qs ++ ss)
  | [], _, _, _, h, k => by cases h; exact k
  | p :: ps, _, _, _, h, k => by cases h with | cons h t => exact .cons h (SubL.app t k)
theorem Sub.cells {p q : PV} (h : Sub p q) : SubL p.cells q.cells := by
  cases h with
  | refl => exact .refl _
  | nil sh => exact .cons (.nil sh) .nil
  | agg h => exact h
  | list h => exact .cons (.list h) .nil
theorem SubL.flat : ∀ {xs ys : List PV}, SubL xs ys → SubL (PG.flat xs) (PG.flat ys)
  | [], _, h => by cases h; exact .nil
  | x :: xs, _, h => by
    cases h with
    | cons h t => simp only [PG.flat, List.flatMap_cons]; exact SubL.app h.cells (SubL.flat t)
theorem Sub.scalar {p q : PV} (h : Sub p q) (hp : p.scalar = true) : q.scalar = true := by
  cases h with
  | refl => exact hp
  | nil sh => rfl
  | agg h => exact hp
  | list h => rfl
theorem SubL.scalars : ∀ {ps qs : List PV}, SubL ps qs → (∀ c ∈ ps, c.scalar = true) → ∀ c ∈ qs, c.scalar = true
  | [], _, h, _ => by cases h; simp
  | p :: ps, _, h, hp => by
    cases h with
    | cons h t =>
      intro c hc
      rcases List.mem_cons.1 hc with rfl | hc
      · exact h.scalar (hp p (by simp))
      · exact SubL.scalars t (fun c hc => hp c (by simp [hc])) c hc
theorem Sub.fits {sh : Sh} {p q : PV} (h : Sub p q) (hp : PG.fits sh p) : PG.fits sh q := by
  cases sh with
  | none => exact h.scalar hp
  | some n =>
    obtain ⟨cs, rfl, hl, hs⟩ := hp
    cases h with
    | refl => exact ⟨cs, rfl, hl, hs⟩
    | agg h => exact ⟨_, rfl, by rw [← h.len]; exact hl, h.scalars hs⟩
theorem SubL.fits {sh : Sh} : ∀ {xs ys : List PV}, SubL xs ys → (∀ x ∈ xs, PG.fits sh x) → ∀ y ∈ ys, PG.fits sh y
  | [], _, h, _ => by cases h; simp
  | x :: xs, _, h, hp => by
    cases h with
    | cons h t =>
      intro c hc
      rcases List.mem_cons.1 hc with rfl | hc
      · exact h.fits (hp x (by simp))
      · exact SubL.fits t (fun c hc => hp c (by simp [hc])) c hc
theorem RepC.sub {w : World} {ex : Nat → Prop} {v : Value} {p : PV} (h : RepC w ex v p) : ∀ {q : PV}, Sub p q → RepC w ex v q := by
  induction h with
  | nilSl =>
    intro q hq
    cases hq with
    | refl => exact .nilSl
    | nil sh => exact .list none 0 0 sh [] 0 0 (fun _ => undef) rfl (Nat.le_refl _) (Nat.zero_le _) (by simp) (by simp) (by simp [flat]) (by simp [flat])
  | list a len cap sh xs b off val hlen hcap hmax hfit ha hc hr ih =>
    intro q hq
    cases hq with
    | refl => exact .list a len cap sh xs b off val hlen hcap hmax hfit ha hc hr
    | list hs =>
      have hf := hs.flat
      refine .list a len cap sh _ b off val (by rw [hlen, hs.len]) hcap hmax (hs.fits hfit) (fun hne => ha (fun e => hne ?_)) (fun j hj => hc j (by rw [hf.len]; exact hj)) (fun j p hp => ?_)
      · have := hs.len; rw [e] at this; exact List.eq_nil_of_length_eq_zero (by simpa using this.symm)
      · obtain ⟨p', hp', hs'⟩ := hf.get hp
        exact ih j p' hp' hs'
  | agg vs ps hs hr ih =>
    intro q hq
    cases hq with
    | refl => exact .agg vs ps hs hr
    | agg h =>
      refine .agg vs _ (by rw [hs, h.len]) (fun i v p hv hp => ?_)
      obtain ⟨p', hp', hs'⟩ := h.get hp
      exact ih i v p' hv hp' hs'
  | int k n => intro q hq; cases hq; exact .int k n
  | bool b => intro q hq; cases hq; exact .bool b
  | str s => intro q hq; cases hq; exact .str s
  | fn f first caps ps qs h1 h2 h3 h4 _ _ => intro q hq; cases hq; exact .fn f first caps ps qs h1 h2 h3 h4
  | nilFn => intro q hq; cases hq; exact .nilFn
  | nilPtr => intro q hq; cases hq; exact .nilPtr
  | nilMap => intro q hq; cases hq; exact .nilMap
  | yl l => intro q hq; cases hq; exact .yl l
  | full a len sh xs b off val hlen hmax hfit ha hc hr _ => intro q hq; cases hq; exact .full a len sh xs b off val hlen hmax hfit ha hc hr
  | cmap r kd es ents clock hx h hs hB hkd hk hv _ _ => intro q hq; cases hq; exact .cmap r kd es ents clock hx h hs hB hkd hk hv
  | cptr b o off sh x val hfit hoff hc hr _ => intro q hq; cases hq; exact .cptr b o off sh x val hfit hoff hc hr
  | tup vs ps hs hr _ => intro q hq; cases hq; exact .tup vs ps hs hr
theorem VCalls.sub {P : Program} {G : Globs} {f : Nat} {as bs : List PV} {res : PV} (h : VCalls P G f bs res) (hs : SubL as bs) : VCalls P G f as res := by
  intro w ex vs hex hG hv
  refine h w ex vs hex hG ⟨by rw [hv.1, hs.len], fun i v q hvi hq => ?_⟩
  obtain ⟨p, hp, hs'⟩ := hs.get hq
  exact (hv.2 i v p hvi hp).sub hs'
/-- A result that is told otherwise. -/
theorem VCalls.res {P : Program} {G : Globs} {f : Nat} {as : List PV} {p q : PV} (h : VCalls P G f as p) (hs : Sub p q) : VCalls P G f as q := by
  intro w ex vs hex hG hv
  refine (h w ex vs hex hG hv).mono ?_
  rintro e w' ⟨v, rfl, hB, hr⟩
  exact ⟨v, rfl, hB, hr.sub hs⟩
end PG

namespace PG
open Go
set_option linter.unusedSimpArgs false
theorem mem_get4 (o : Option MObj) (μ : Mem) : Mem.get (o :: μ) 4 = Mem.get μ 3 := by simp [Mem.get]
theorem mem_get5 (o : Option MObj) (μ : Mem) : Mem.get (o :: μ) 5 = Mem.get μ 4 := by simp [Mem.get]
theorem mem_get6 (o : Option MObj) (μ : Mem) : Mem.get (o :: μ) 6 = Mem.get μ 5 := by simp [Mem.get]
theorem mem_get7 (o : Option MObj) (μ : Mem) : Mem.get (o :: μ) 7 = Mem.get μ 6 := by simp [Mem.get]
theorem mem_get8 (o : Option MObj) (μ : Mem) : Mem.get (o :: μ) 8 = Mem.get μ 7 := by simp [Mem.get]
theorem mem_get9 (o : Option MObj) (μ : Mem) : Mem.get (o :: μ) 9 = Mem.get μ 8 := by simp [Mem.get]
theorem mem_get10 (o : Option MObj) (μ : Mem) : Mem.get (o :: μ) 10 = Mem.get μ 9 := by simp [Mem.get]
theorem mem_get11 (o : Option MObj) (μ : Mem) : Mem.get (o :: μ) 11 = Mem.get μ 10 := by simp [Mem.get]
theorem mem_set3 (a b c o x : Option MObj) (μ : List (Option MObj)) : (a :: b :: c :: o :: μ).set 3 x = a :: b :: c :: x :: μ := rfl
theorem mem_set4 (a b c d o x : Option MObj) (μ : List (Option MObj)) : (a :: b :: c :: d :: o :: μ).set 4 x = a :: b :: c :: d :: x :: μ := rfl
theorem mem_set5 (a b c d e o x : Option MObj) (μ : List (Option MObj)) : (a :: b :: c :: d :: e :: o :: μ).set 5 x = a :: b :: c :: d :: e :: x :: μ := rfl
theorem mem_set6 (a b c d e f o x : Option MObj) (μ : List (Option MObj)) : (a :: b :: c :: d :: e :: f :: o :: μ).set 6 x = a :: b :: c :: d :: e :: f :: x :: μ := rfl
theorem mem_set7 (a b c d e f g o x : Option MObj) (μ : List (Option MObj)) : (a :: b :: c :: d :: e :: f :: g :: o :: μ).set 7 x = a :: b :: c :: d :: e :: f :: g :: x :: μ := rfl
theorem mem_set8 (a b c d e f g h o x : Option MObj) (μ : List (Option MObj)) : (a :: b :: c :: d :: e :: f :: g :: h :: o :: μ).set 8 x = a :: b :: c :: d :: e :: f :: g :: h :: x :: μ := rfl
theorem mem_set9 (a b c d e f g h i o x : Option MObj) (μ : List (Option MObj)) : (a :: b :: c :: d :: e :: f :: g :: h :: i :: o :: μ).set 9 x = a :: b :: c :: d :: e :: f :: g :: h :: i :: x :: μ := rfl
theorem mem_set10 (a b c d e f g h i j o x : Option MObj) (μ : List (Option MObj)) : (a :: b :: c :: d :: e :: f :: g :: h :: i :: j :: o :: μ).set 10 x = a :: b :: c :: d :: e :: f :: g :: h :: i :: j :: x :: μ := rfl
theorem mem_set11 (a b c d e f g h i j k o x : Option MObj) (μ : List (Option MObj)) : (a :: b :: c :: d :: e :: f :: g :: h :: i :: j :: k :: o :: μ).set 11 x = a :: b :: c :: d :: e :: f :: g :: h :: i :: j :: k :: x :: μ := rfl
theorem SS4 : type_of% (And.intro (And.intro (And.intro (And.intro (@mem_get4) (@mem_get5)) (And.intro (@mem_get6) (@mem_get7))) (And.intro (And.intro (@mem_get8) (@mem_get9)) (And.intro (@mem_get10) (@mem_get11)))) (And.intro (And.intro (And.intro (@mem_set3) (@mem_set4)) (And.intro (@mem_set5) (@mem_set6))) (And.intro (And.intro (@mem_set7) (@mem_set8)) (And.intro (@mem_set9) (And.intro (@mem_set10) (@mem_set11)))))) :=
  (And.intro (And.intro (And.intro (And.intro (@mem_get4) (@mem_get5)) (And.intro (@mem_get6) (@mem_get7))) (And.intro (And.intro (@mem_get8) (@mem_get9)) (And.intro (@mem_get10) (@mem_get11)))) (And.intro (And.intro (And.intro (@mem_set3) (@mem_set4)) (And.intro (@mem_set5) (@mem_set6))) (And.intro (And.intro (@mem_set7) (@mem_set8)) (And.intro (@mem_set9) (And.intro (@mem_set10) (@mem_set11))))))
end PG

namespace PG
open Go
set_option linter.unusedSimpArgs false
set_option linter.unusedVariables false
variable {P : Program} {n : Nat} {t : TypeId} {ps : List PV}
theorem list_of {α : Type} (f : α → PV) (Q : α → Prop) : ∀ {xs : List PV}, (∀ x ∈ xs, ∃ a, x = f a ∧ Q a) → ∃ l : List α, xs = l.map f ∧ ∀ a ∈ l, Q a
  | [], _ => ⟨[], rfl, by simp⟩
  | x :: xs, h => by
    obtain ⟨a, rfl, ha⟩ := h x (by simp)
    obtain ⟨l, rfl, hl⟩ := list_of f Q (xs := xs) (fun y hy => h y (by simp [hy]))
    exact ⟨a :: l, rfl, by simpa using ⟨ha, hl⟩⟩
theorem fits_cells {sh : Sh} {x : PV} (h : fits sh x) : match sh with
    | none => x.cells = [x]
    | some n => ∃ cs, x = .agg cs ∧ x.cells = cs ∧ cs.length = n := by
  cases sh with
  | none =>
    have h' : x.scalar = true := h
    cases x <;> first | rfl | (simp [PV.scalar] at h')
  | some n => obtain ⟨cs, rfl, h, _⟩ := h; exact ⟨cs, rfl, rfl, h⟩
end PG

namespace PG
open Go
set_option linter.unusedSimpArgs false
set_option linter.unusedVariables false
/-- A size that is handed down to parts, and what it gives of lengths. -/
structure SzOk {H : Type} (Q : Nat → Prop) (Sz : DataW H → Prop) : Prop where
  zero : Q 0
  str : ∀ l, Sz (.lit (.string l)) → Q l.length
  slice : ∀ es sp, Sz (.slice es sp) → Q es.length ∧ ∀ e ∈ es, Sz e
  agg : ∀ ps, Sz (.agg ps) → ∀ p ∈ ps, Sz p
/-- The cells of a value of a type. -/
def ShZ (P : Program) (Q : Nat → Prop) : Nat → TypeId → List PV → Prop
  | 0, _, _ => False
  | n + 1, t, ps =>
    match P.underlying t with
    | some .bool => ∃ b, ps = [.bool b]
    | some (.int k) => ∃ m, ps = [.int k m] ∧ (Lit.int k m).wf = true
    | some .string => ∃ l, ps = [.str l] ∧ l.length ≤ maxLen ∧ Q l.length
    | some (.slice e) => ∃ sh xs, shOf P e = some sh ∧ ps = [.list sh xs] ∧ xs.length ≤ maxLen ∧ Q xs.length ∧ ∀ x ∈ xs, fits sh x ∧ ShZ P Q n e x.cells
    | some (.struct fs) => ps.length = P.cellsOf t ∧ ∀ f ∈ fs.toList, ShZ P Q n f.type ((ps.drop f.offset).take (P.cellsOf f.type))
    | _ => False

/-- A value of a type: a struct as a whole. -/
def ShB (P : Program) (Q : Nat → Prop) (n : Nat) (t : TypeId) (p : PV) : Prop :=
  match P.underlying t with
  | some (.struct _) => ∃ ps, p = .agg ps ∧ ShZ P Q n t ps
  | _ => ShZ P Q n t [p]

theorem read_repZ {H : Type} {Q : Nat → Prop} {Sz : DataW H → Prop} (hZ : SzOk Q Sz) {enc : TypeId × Value → H} {P : Program} {W : World} {sp : Nat → Bool} {hd : Bool} (hl : laidOutB P = true) : ∀ (n : Nat) (t : TypeId) (fuel : Nat) (cs : List Value) (x : DataW H × List MemPlace),
    t < P.types.size → plainT P n t = true → DataW.trod enc P W 0 sp hd fuel t cs = some x → Sz x.1 →
    ∃ ps : List PV, ps.length = cs.length ∧ (∀ (j : Nat) (v : Value) (p : PV), cs[j]? = some v → ps[j]? = some p → RepC W (fun _ => False) v p) ∧ (∀ p ∈ ps, p.scalar = true) ∧ ShZ P Q n t ps
  | 0, _, _, _, _, _, h, _, _ => by simp [plainT] at h
  | n + 1, t, fuel, cs, x, ht, hp, h, hz => by
    unfold plainT at hp
    split at hp
    · rename_i hu
      obtain ⟨b, rfl, -⟩ := DataW.trod_bool hu h
      refine ⟨[.bool b], rfl, fun j v p hv hq => ?_, by simp [PV.scalar], by unfold ShZ; rw [hu]; exact ⟨b, rfl⟩⟩
      cases j <;> simp at hv hq; subst hv; subst hq; exact .bool b
    · rename_i k hu
      obtain ⟨m, rfl, -, hw⟩ := DataW.trod_int hu h
      refine ⟨[.int k m], rfl, fun j v p hv hq => ?_, by simp [PV.scalar], by unfold ShZ; rw [hu]; exact ⟨m, rfl, hw⟩⟩
      cases j <;> simp at hv hq; subst hv; subst hq; exact .int k m
    · rename_i hu
      obtain ⟨s, rfl, hxe, hs⟩ := DataW.trod_string hu h
      rw [hxe] at hz
      refine ⟨[.str s.data.toList], rfl, fun j v p hv hq => ?_, by simp [PV.scalar], by unfold ShZ; rw [hu]; exact ⟨_, rfl, by simpa using hs, hZ.str _ hz⟩⟩
      cases j <;> simp at hv hq; subst hv; subst hq; exact .str s
    · rename_i e hu
      simp only [Bool.and_eq_true, decide_eq_true_eq] at hp
      obtain ⟨⟨hsh, hpos⟩, hpe⟩ := hp
      obtain ⟨sh, hsh⟩ := Option.isSome_iff_exists.1 hsh
      have hsz := shOf_size hsh
      have het : e < P.types.size := kid_slice hl ht hu
      rcases DataW.trod_slice hu h with ⟨rfl, -⟩ | ⟨a, len, cap, elems, rest, m, rfl, rfl, hxe, hb, hlc, hcm, hel, hr, -⟩
      · refine ⟨[.list sh []], rfl, fun j v p hv hq => ?_, by simp [PV.scalar], by unfold ShZ; rw [hu]; exact ⟨sh, [], hsh, rfl, Nat.zero_le _, hZ.zero, by simp⟩⟩
        cases j <;> simp at hv hq; subst hv; subst hq
        exact .list none 0 0 sh [] 0 0 (fun _ => undef) rfl (Nat.le_refl _) (Nat.zero_le _) (by simp) (by simp) (fun j hj => by simp [flat] at hj) (fun j p hp => by simp [flat] at hp)
      · rw [hxe] at hz
        obtain ⟨hz1, hz2⟩ := hZ.slice _ _ hz
        have key : ∀ i, i < len → ∃ y : PV, fits sh y ∧ ShZ P Q n e y.cells ∧ ∀ j, j < sh.size → ∃ v p, W.cell? ((a.add (i * P.cellsOf e)).add j) = some v ∧ y.cells[j]? = some p ∧ RepC W (fun _ => False) v p := by
          intro i hi
          have h1 := hr i hi
          rw [List.getElem?_eq_getElem (by omega : i < elems.length), Option.bind_eq_some_iff] at h1
          obtain ⟨cs', hc1, hc2⟩ := h1
          obtain ⟨-, hcl, hcg⟩ := World.cells?_some hc1
          obtain ⟨ps, p1, p2, p3, p4⟩ := read_repZ hZ hl n e m cs' _ het hpe hc2 (hz2 _ (List.mem_map.2 ⟨_, List.getElem_mem (by omega), rfl⟩))
          have cells : ∀ y : PV, y.cells = ps → ∀ j, j < sh.size → ∃ v p, W.cell? ((a.add (i * P.cellsOf e)).add j) = some v ∧ y.cells[j]? = some p ∧ RepC W (fun _ => False) v p := by
            intro y hy j hj
            have hjc : j < cs'.length := by omega
            have hjp : j < ps.length := by omega
            refine ⟨cs'[j], ps[j], ?_, by rw [hy]; simp [hjp], p2 j _ _ (List.getElem?_eq_getElem hjc) (List.getElem?_eq_getElem hjp)⟩
            rw [hcg j (by omega)]; simp [hjc]
          cases hs : sh with
          | some k =>
            refine ⟨.agg ps, ⟨ps, rfl, ?_, p3⟩, p4, ?_⟩
            · rw [hs] at hsz; simp [Sh.size] at hsz; omega
            · rw [← hs]; exact cells _ rfl
          | none =>
            have h1 : ps.length = 1 := by rw [hs] at hsz; simp [Sh.size] at hsz; omega
            obtain ⟨q, rfl⟩ : ∃ q, ps = [q] := by
              match ps, h1 with
              | [q], _ => exact ⟨q, rfl⟩
            have hq := p3 q (by simp)
            have hqc : q.cells = [q] := by cases q <;> simp_all [PV.cells, PV.scalar]
            refine ⟨q, hq, by rw [hqc]; exact p4, ?_⟩
            rw [← hs]; exact cells _ hqc
        obtain ⟨xs, x1, x2⟩ := exists_list len key
        have hfit : ∀ y ∈ xs, fits sh y := fun y hy => by
          obtain ⟨i, hi⟩ := List.mem_iff_getElem?.1 hy
          exact (x2 i y hi).1
        have hfl := flat_length hfit
        have hspos : 0 < sh.size := by omega
        have hcell : ∀ j, j < (flat xs).length → ∃ v p, W.cell? ⟨a.block, a.off + j, none⟩ = some v ∧ (flat xs)[j]? = some p ∧ RepC W (fun _ => False) v p := by
          intro j hj
          have hjd : j = (j / sh.size) * sh.size + j % sh.size := by rw [Nat.mul_comm]; exact (Nat.div_add_mod _ _).symm
          have hjm : j % sh.size < sh.size := Nat.mod_lt _ hspos
          have hji : j / sh.size < xs.length := by rw [Nat.div_lt_iff_lt_mul hspos]; omega
          obtain ⟨v, p, c1, c2, c3⟩ := (x2 _ _ (List.getElem?_eq_getElem hji)).2.2 _ hjm
          refine ⟨v, p, ?_, ?_, c3⟩
          · rw [← c1]
            have hnsp : ((a.add (j / sh.size * P.cellsOf e)).add (j % sh.size)).spot = none := by
              unfold World.cell? at c1
              split at c1
              · split at c1
                · cases c1
                · rename_i hns; simpa using hns
              · cases c1
            have : ((a.add (j / sh.size * P.cellsOf e)).add (j % sh.size)) = ⟨a.block, a.off + j, none⟩ := by
              have e1 : ((a.add (j / sh.size * P.cellsOf e)).add (j % sh.size)).block = a.block := by unfold Addr.add; split <;> split <;> rfl
              have e2 : ((a.add (j / sh.size * P.cellsOf e)).add (j % sh.size)).off = a.off + j := by
                rw [← hsz]
                have ea : ∀ (b : Addr) (k : Nat), (b.add k).off = b.off + k := by
                  intro b k; unfold Addr.add; split
                  · rename_i h0; rw [h0]; rfl
                  · rfl
                rw [ea, ea]; omega
              generalize ((a.add (j / sh.size * P.cellsOf e)).add (j % sh.size)) = z at hnsp e1 e2
              obtain ⟨z1, z2, z3⟩ := z
              simp only at hnsp e1 e2
              rw [hnsp, e1, e2]
            rw [this]
          · rw [hjd, flat_get hfit _ _ _ (List.getElem?_eq_getElem hji) hjm]; exact c2
        have hch : ∀ j, ∃ v, j < (flat xs).length → W.cell? ⟨a.block, a.off + j, none⟩ = some v ∧ ∃ p, (flat xs)[j]? = some p ∧ RepC W (fun _ => False) v p := by
          intro j
          by_cases hj : j < (flat xs).length
          · obtain ⟨v, p, c1, c2, c3⟩ := hcell j hj
            exact ⟨v, fun _ => ⟨c1, p, c2, c3⟩⟩
          · exact ⟨undef, fun h => absurd h hj⟩
        have ha : xs ≠ [] → (some a : Option Addr) = some ⟨a.block, a.off, none⟩ := by
          intro hne
          have hl0 : 0 < xs.length := List.length_pos_iff.2 hne
          obtain ⟨v, p, c1, -, -⟩ := (x2 0 _ (List.getElem?_eq_getElem hl0)).2.2 0 hspos
          simp only [Nat.zero_mul, Addr.add, if_true] at c1
          have hsp : a.spot = none := by
            unfold World.cell? at c1
            split at c1
            · split at c1
              · cases c1
              · rename_i hns; simpa using hns
            · cases c1
          obtain ⟨a1, a2, a3⟩ := a
          simp only at hsp
          rw [hsp]
        refine ⟨[.list sh xs], rfl, fun j v p hv hq => ?_, by simp [PV.scalar], ?_⟩
        · cases j <;> simp at hv hq; subst hv; subst hq
          refine .list (some a) len cap sh xs a.block a.off (fun j => (hch j).choose) x1.symm hlc hcm hfit ha (fun j hj => ⟨fun h => h, ((hch j).choose_spec hj).1⟩) (fun j p hp => ?_)
          have hj := (List.getElem?_eq_some_iff.1 hp).1
          obtain ⟨p', c2, c3⟩ := ((hch j).choose_spec hj).2
          rw [hp] at c2; cases c2; exact c3
        · unfold ShZ; rw [hu]
          refine ⟨sh, xs, hsh, rfl, by omega, by rw [List.length_map] at hz1; rw [x1, ← hel]; exact hz1, fun y hy => ?_⟩
          obtain ⟨i, hi⟩ := List.mem_iff_getElem?.1 hy
          exact ⟨(x2 i y hi).1, (x2 i y hi).2.1⟩
    · rename_i fs hu
      obtain ⟨k1, k2, k3⟩ := kid_struct hl ht hu
      obtain ⟨xs, m, rfl, hxe, hcl, hxl, hf⟩ := DataW.trod_struct hu h
      rw [hxe] at hz
      have hz2 := hZ.agg _ hz
      simp only [List.all_eq_true] at hp
      have key : ∀ f ∈ fs.toList, ∃ ps : List PV, ps.length = ((cs.drop f.offset).take (P.cellsOf f.type)).length ∧ (∀ (j : Nat) (v : Value) (p : PV), ((cs.drop f.offset).take (P.cellsOf f.type))[j]? = some v → ps[j]? = some p → RepC W (fun _ => False) v p ∧ p.scalar = true) ∧ ShZ P Q n f.type ps := by
        intro f hfm
        obtain ⟨i, hi⟩ := List.mem_iff_getElem?.1 hfm
        have h1 := hf i f (by simpa using hi)
        have hsome : ∃ y, xs[i]? = some y := by
          cases hx : xs[i]? with
          | some y => exact ⟨y, rfl⟩
          | none =>
            exfalso
            have hi' := (List.getElem?_eq_some_iff.1 hi).1
            rw [List.getElem?_eq_none_iff] at hx
            simp at hi'; omega
        obtain ⟨y, hy⟩ := hsome
        rw [hy] at h1
        obtain ⟨ps, p1, p2, p3, p4⟩ := read_repZ hZ hl n f.type m _ _ (k1 f hfm) (hp f hfm) h1 (hz2 _ (List.mem_map.2 ⟨_, List.mem_of_getElem? hy, rfl⟩))
        exact ⟨ps, p1, fun j v p a b => ⟨p2 j v p a b, p3 p (List.mem_of_getElem? b)⟩, p4⟩
      obtain ⟨qs, q1, q2, q3⟩ := tile (R := fun v p => RepC W (fun _ => False) v p ∧ p.scalar = true) (S := fun f ps => ShZ P Q n f.type ps) fs.toList 0 (fun j f hj => by rw [Nat.zero_add]; exact k3 j f hj) (by rw [← k2]; omega) key
      have hql : qs.length = cs.length := by rw [q1, ← k2]; omega
      refine ⟨qs, hql, fun j v p a b => (q2 j v p (by simpa using a) b).1, fun p hp' => ?_, by unfold ShZ; rw [hu]; exact ⟨by omega, fun f hf => by simpa using q3 f hf⟩⟩
      obtain ⟨i, hi⟩ := List.mem_iff_getElem?.1 hp'
      have hil := (List.getElem?_eq_some_iff.1 hi).1
      exact (q2 i _ p (by simpa using List.getElem?_eq_getElem (by omega : i < cs.length)) hi).2
    · cases hp

/-- A value that is well formed and reads, as a pure one. -/
theorem read_argZ {H : Type} {Q : Nat → Prop} {Sz : DataW H → Prop} (hZ : SzOk Q Sz) {enc : TypeId × Value → H} {P : Program} {W : World} {sp : Nat → Bool} {hd : Bool} {base : Nat} (hl : laidOutB P = true) {n : Nat} {t : TypeId} {v : Value} {d : DataW H} {p : List MemPlace}
    (ht : t < P.types.size) (hp : plainT P n t = true) (hv : Value.okWide P W .any base t v) (h : DataW.Trod enc P W 0 sp hd t v d p) (hz : Sz d) : ∃ q, RepC W (fun _ => False) v q ∧ ShB P Q n t q := by
  obtain ⟨fuel, h⟩ := h
  obtain ⟨ps, h1, h2, -, h3⟩ := read_repZ hZ hl n t fuel _ _ ht hp h hz
  unfold ShB
  cases n with
  | zero => cases hp
  | succ n =>
  unfold Value.okWide at hv
  unfold plainT at hp
  cases hu : P.underlying t with
  | none => rw [hu] at hp; cases hp
  | some u =>
    rw [hu] at hv hp
    have one : ∀ v : Value, v.cells.toList = [v] → ps.length = v.cells.toList.length → (∀ (j : Nat) (x : Value) (p : PV), v.cells.toList[j]? = some x → ps[j]? = some p → RepC W (fun _ => False) x p) → ∃ q, ps = [q] ∧ RepC W (fun _ => False) v q := by
      intro v hc h1 h2
      rw [hc] at h1 h2
      match ps, h1, h2 with
      | [q], _, h2 => exact ⟨q, rfl, h2 0 v q rfl rfl⟩
    have fin : (∃ q, ps = [q] ∧ RepC W (fun _ => False) v q) → ∃ q, RepC W (fun _ => False) v q ∧ ShZ P Q (n + 1) t [q] := by
      rintro ⟨q, rfl, hq⟩
      exact ⟨q, hq, h3⟩
    cases u with
    | struct fs =>
      obtain ⟨cs, rfl, -, -⟩ := hv
      refine ⟨.agg ps, .agg cs ps ?_ ?_, ps, rfl, h3⟩
      · simpa [Value.cells] using h1.symm
      · simpa [Value.cells] using h2
    | _ =>
      simp only at hp
      first
        | (cases hp; done)
        | (refine fin (one v ?_ h1 h2)
           unfold Cell.okWide Cell.ok at hv
           rw [hu] at hv
           cases v <;> first | rfl | (simp at hv; done))

def ShBs (P : Program) (Q : Nat → Prop) (n : Nat) : List TypeId → List PV → Prop
  | [], [] => True
  | t :: ts, p :: ps => ShB P Q n t p ∧ ShBs P Q n ts ps
  | _, _ => False

theorem read_argsZ {H : Type} {Q : Nat → Prop} {Sz : DataW H → Prop} (hZ : SzOk Q Sz) {enc : TypeId × Value → H} {P : Program} {W : World} {sp : Nat → Bool} {hd : Bool} {base : Nat} (hl : laidOutB P = true) {n : Nat} : ∀ (ts : List TypeId) (vs : List Value) (ds : List (DataW H)) (p : List MemPlace),
    (∀ t ∈ ts, t < P.types.size ∧ plainT P n t = true) → (∀ (j : Nat) t v, ts[j]? = some t → vs[j]? = some v → Value.okWide P W .any base t v) → DataW.TrodAll enc P W 0 sp hd ts vs ds p → (∀ d ∈ ds, Sz d) →
    ∃ qs : List PV, qs.length = vs.length ∧ (∀ (i : Nat) (v : Value) (q : PV), vs[i]? = some v → qs[i]? = some q → RepC W (fun _ => False) v q) ∧ ShBs P Q n ts qs
  | [], [], _, _, _, _, _, _ => ⟨[], rfl, fun i v q h => by simp at h, trivial⟩
  | [], v :: vs, ds, _, _, _, h, _ => by cases ds <;> exact h.elim
  | t :: ts, [], ds, _, _, _, h, _ => by cases ds <;> exact h.elim
  | t :: ts, v :: vs, [], _, _, _, h, _ => h.elim
  | t :: ts, v :: vs, d :: ds, _, ht, hv, ⟨p, q, h1, h2, _⟩, hz => by
    obtain ⟨a, ha, hs⟩ := read_argZ hZ hl (ht t (by simp)).1 (ht t (by simp)).2 (hv 0 t v rfl rfl) h1 (hz d (by simp))
    obtain ⟨qs, q1, q2, q3⟩ := read_argsZ hZ hl ts vs ds q (fun t h => ht t (by simp [h])) (fun j t v a b => hv (j + 1) t v (by simpa using a) (by simpa using b)) h2 (fun d h => hz d (by simp [h]))
    refine ⟨a :: qs, by simp [q1], fun i v q hv hq => ?_, hs, q3⟩
    cases i with
    | zero => simp at hv hq; subst hv; subst hq; exact ha
    | succ i => exact q2 i v q (by simpa using hv) (by simpa using hq)

section
open Go.RowKit Go.WideShapes Go.ChangeShapes
variable {H : Type} {enc : TypeId × Value → H} {P : Program}
/-- A law by value, as its row asks for it: no package-level variable is listed. -/
theorem law_of_Z {Q : Nat → Prop} {Sz : DataW H → Prop} (hZ : SzOk Q Sz) {fn : Func} {f : Nat} {s : ChangeSpec} {apart fresh handsOn again : Bool} {G : Globs} {n : Nat} {tb : TypeId} (hl : laidOutB P = true) (hpl : (fn.params.toList.all fun t => decide (t < P.types.size) && plainT P n t && P.readableRec t) = true)
    (hvars : s.vars = []) (hs : ∀ ds : List (DataW H), ds.length = fn.params.toList.length → s.fn H ds = { results := [.lit (.bool true)], args := ds }) (hres : fn.resultTypes = #[tb]) (htb : P.underlying tb = some .bool)
    {W : World} (hG : GlobsIn W (fun _ => False) G) {base : Nat} {args : Array Value} {ds gs : List (DataW H)} {before : List MemPlace}
    (hV : ∀ ps, ShBs P Q n fn.params.toList ps → VCalls P G f ps (.bool true))
    (hval : ∀ (j : Nat) t v, fn.params[j]? = some t → args[j]? = some v → Value.okWide P W .any base t v)
    (hW : DataW.Whole enc P fn.params.toList s.vars apart W args.toList ds gs before) (hsz : ∀ d ∈ ds, Sz d) :
    Calls P f args W fun e W' => ∃ v, e = .returned v ∧ s.post enc P fn apart fresh handsOn again W args v W' := by
  simp only [List.all_eq_true, Bool.and_eq_true, decide_eq_true_eq] at hpl
  have hW0 := hW
  obtain ⟨p, q, hA, hVr, rfl, -, -⟩ := hW
  rw [hvars] at hVr
  obtain ⟨rfl, rfl⟩ := trodVars_none hVr
  obtain ⟨qs, q1, q2, q3⟩ := read_argsZ hZ hl fn.params.toList args.toList ds p (fun t h => ⟨(hpl t h).1.1, (hpl t h).1.2⟩) (fun j t v a b => hval j t v (by simpa using a) (by simpa using b)) hA hsz
  have hlen : ds.length = fn.params.toList.length := by
    have : ∀ (ts : List TypeId) (vs : List Value) (ds : List (DataW H)) (p : List MemPlace), DataW.TrodAll enc P W 0 (fun _ => true) true ts vs ds p → ds.length = ts.length := by
      intro ts
      induction ts with
      | nil => intro vs ds p h; cases vs <;> cases ds <;> first | rfl | exact h.elim
      | cons t ts ih =>
        intro vs ds p h
        cases vs <;> cases ds <;> first | exact h.elim | (obtain ⟨_, _, _, h2, _⟩ := h; simp [ih _ _ _ h2])
    exact this _ _ _ _ hA
  have hlt : ∀ x ∈ p, x.block < W.heap.size := fun x hx => hW0.lt x (by simpa using hx)
  refine (hV qs q3 W (fun _ => False) args (fun b h => h.elim) hG ⟨by simpa using q1.symm, fun i v p a b => q2 i v p (by simpa using a) b⟩).mono ?_
  rintro e W' ⟨v, rfl, hB, hr⟩
  cases hr with
  | bool b =>
  refine ⟨_, rfl, post_of_below (pa := p) (pv := []) hW0 (fun b sp hd => ?_) (fun sp hsp => ?_) (fun sp _ => ?_) rfl hB ?_⟩
  · rw [List.append_nil, hs ds hlen, hres]
    exact trodAll_mk1 (shut_bool htb _)
  · rw [List.append_nil, hs ds hlen]
    exact args_below hl hB _ _ _ _ sp (fun t h => ⟨(hpl t h).1.1, (hpl t h).2⟩) hA hlt (fun x hx => hsp x (by simpa using hx))
  · rw [hvars, List.append_nil, hs ds hlen]; rfl
  · exact ok_one hres rfl (okWide_bool_mk htb _)
end


section
variable {P : Program} {Q : Nat → Prop} {n : Nat} {t : TypeId} {ps : List PV}
theorem shZ_int {k : IntKind} (hu : P.underlying t = some (.int k)) (h : ShZ P Q (n + 1) t ps) : ∃ m, ps = [.int k m] ∧ k.min ≤ m ∧ m ≤ k.max := by
  unfold ShZ at h; rw [hu] at h
  obtain ⟨m, h1, h2⟩ := h
  simp only [Lit.wf, Bool.and_eq_true, decide_eq_true_eq] at h2
  exact ⟨m, h1, h2⟩
theorem shZ_str (hu : P.underlying t = some .string) (h : ShZ P Q (n + 1) t ps) : ∃ l, ps = [.str l] ∧ Q l.length := by
  unfold ShZ at h; rw [hu] at h
  obtain ⟨l, h1, -, h2⟩ := h
  exact ⟨l, h1, h2⟩
theorem shZ_slice {e : TypeId} (hu : P.underlying t = some (.slice e)) (h : ShZ P Q (n + 1) t ps) : ∃ sh xs, shOf P e = some sh ∧ ps = [.list sh xs] ∧ Q xs.length ∧ ∀ x ∈ xs, fits sh x ∧ ShZ P Q n e x.cells := by
  unfold ShZ at h; rw [hu] at h
  obtain ⟨sh, xs, h1, h2, -, h3⟩ := h
  exact ⟨sh, xs, h1, h2, h3⟩
theorem shZ_struct {fs : Array Field} (hu : P.underlying t = some (.struct fs)) (h : ShZ P Q (n + 1) t ps) : ps.length = P.cellsOf t ∧ ∀ f ∈ fs.toList, ShZ P Q n f.type ((ps.drop f.offset).take (P.cellsOf f.type)) := by
  unfold ShZ at h; rw [hu] at h
  exact h
theorem shB_slice {e : TypeId} {p : PV} (hu : P.underlying t = some (.slice e)) (h : ShB P Q (n + 1) t p) : ∃ sh xs, shOf P e = some sh ∧ p = .list sh xs ∧ Q xs.length ∧ ∀ x ∈ xs, fits sh x ∧ ShZ P Q n e x.cells := by
  unfold ShB at h; rw [hu] at h
  obtain ⟨sh, xs, h1, h2, h3⟩ := shZ_slice hu h
  cases h2
  exact ⟨sh, xs, h1, rfl, h3⟩
end
end PG

namespace PG
open Go
set_option linter.unusedSimpArgs false
set_option linter.unusedVariables false
section
variable {P : Program} {G : Globs} {N : Nat} {C : Ctx} {a : Act} {w : World} {κ : Kap} {env : Env} {μ : Mem}
def frzE (t : Nat) (o : MObj) (env : Env) : Env := env.map fun x => (x.1, x.2.frz t o)
def frzMem (t : Nat) (o : MObj) (μ : Mem) : Mem := (μ.map (Option.map (MObj.frz t o))).set t none
theorem SR.frz {C : Ctx} {a : Act} (hR : SR G N C a w κ env μ) (t : Nat) (o : MObj) (hm : μ.get t = some o) (hmv : C.mv t = true) : SR G N C a w (κ.del t) (frzE t o env) (frzMem t o μ) := by
  have hG : Goes w κ w (κ.del t) (fun i => i = t) := Goes.del t
  refine ⟨hR.size, hR.defers, fun i => ?_, hR.sim.frz hm, globs_goes hR.globs hG, hR.goes.trans (hG.weak fun i hi => by rw [hi]; exact hmv)⟩
  have key : ∀ (env : Env) (v : Value), Rep w (PG.own κ) κ v (env.get i) → Rep w (PG.own (κ.del t)) (κ.del t) v (Env.get (env.map fun x => (x.1, x.2.frz t o)) i) := by
    intro env v
    induction env with
    | nil => intro _; exact .junk v
    | cons y e ih =>
      obtain ⟨j, p⟩ := y
      simp only [Env.get, List.map_cons]
      split
      · exact fun h => Rep.frz hR.sim hm h
      · exact ih
  exact key env _ (hR.regs i)
variable {mv : Nat → Bool} {Q : Post}
/-- What is known behind a region's first part: an owned row, or map, is told by value from here on. -/
def frzK (mv : Nat → Bool) (t : Nat) (K : Env → Mem → Prop) (env : Env) (μ : Mem) : Prop := ∃ o, μ.get t = some o ∧ mv t = true ∧ K (frzE t o env) (frzMem t o μ)
theorem frzK.mk {t : Nat} {K : Env → Mem → Prop} {o : MObj} (h1 : μ.get t = some o) (h2 : mv t = true) (h3 : K (frzE t o env) (frzMem t o μ)) : frzK mv t K env μ := ⟨o, h1, h2, h3⟩
/-- A drawn region whose orders all end alike: what stands behind it is walked once. -/
def mergeQ (E : Env) (M : Mem) : Post := fun e env μ => e = .normal ∧ env = E ∧ μ = M
theorem mergeQ_mk (E : Env) (M : Mem) : mergeQ E M .normal E M := ⟨rfl, rfl, rfl⟩
theorem mergeQ_elim {E : Env} {M : Mem} {Q : Post} (h : Q .normal E M) : ∀ e env μ, mergeQ E M e env μ → Q e env μ := by
  rintro e env μ ⟨rfl, rfl, rfl⟩; exact h
/-- What stands behind, out of sight. -/
theorem PW.seqK {x y : PCode} (h : ∀ K : Post, K = seqQ P G N mv y Q → PW P G N mv x env μ K) : PW P G N mv (.seq x y) env μ Q := PW.seq (h _ rfl)
theorem seqK_n {y : PCode} {K : Post} (hK : K = seqQ P G N mv y Q) (h : PW P G N mv y env μ Q) : K .normal env μ := by rw [hK]; exact h
theorem seqK_r {y : PCode} {K : Post} (hK : K = seqQ P G N mv y Q) (h : Q .ret env μ) : K .ret env μ := by rw [hK]; exact h
theorem seqK_e {y : PCode} {K : Post} {i : Nat} (hK : K = seqQ P G N mv y Q) (h : Q (.exit i) env μ) : K (.exit i) env μ := by rw [hK]; exact h
theorem PW.seqA {s : Sched} {L : List Nat} {y : PCode} {E : Env} {M : Mem} (h : schedW P G mv s env μ fun env' μ' => mergeQ E M .normal (keepE L env') μ') (h2 : PW P G N mv y E M Q) : PW P G N mv (.seq (.regionA s L) y) env μ Q :=
  PW.seq (PW.mono (Q := mergeQ E M) (PW.regionA h) (mergeQ_elim h2))
end
end PG

namespace PG
open Go
set_option linter.unusedSimpArgs false
set_option linter.unusedVariables false
section
variable {P : Program} {G : Globs} {N : Nat} {w : World} {κ : Kap} {env : Env} {μ : Mem} {mv : Nat → Bool} {Q : Post}
theorem Rep.nilto {ex : Nat → Prop} {v : Value} (sh : Sh) (h : Rep w ex κ v .nilSl) : Rep w ex κ v (.list sh []) := by
  cases h with
  | closed h => exact .closed (h.sub (.nil sh))
/-- Field by field the same, or nil and an empty list. -/
inductive NilL : List PV → List PV → Prop
  | nil : NilL [] []
  | same {p : PV} {ps qs : List PV} (t : NilL ps qs) : NilL (p :: ps) (p :: qs)
  | nilto (sh : Sh) {ps qs : List PV} (t : NilL ps qs) : NilL (.nilSl :: ps) (.list sh [] :: qs)
theorem NilL.len {ps qs : List PV} (h : NilL ps qs) : ps.length = qs.length := by
  induction h with
  | nil => rfl
  | same _ ih => simp [ih]
  | nilto _ _ ih => simp [ih]
theorem NilL.get {ex : Nat → Prop} {ps qs : List PV} (h : NilL ps qs) : ∀ {j : Nat} {q : PV} {v : Value}, qs[j]? = some q → (∀ p, ps[j]? = some p → Rep w ex κ v p) → Rep w ex κ v q := by
  induction h with
  | nil => intro j q v h _; simp at h
  | same _ ih =>
    intro j q v h hp
    cases j with
    | zero => exact hp q h
    | succ j => exact ih (by simpa using h) (fun p h => hp p (by simpa using h))
  | nilto sh _ ih =>
    intro j q v h hp
    cases j with
    | zero => simp at h; subst h; exact (hp .nilSl (by simp)).nilto sh
    | succ j => exact ih (by simpa using h) (fun p h => hp p (by simpa using h))
theorem goCallG_skip {q : Bool} {d : Option Nat} {rest : List CO} {K : Env → Mem → Prop} {b want : Bool} {f : PV} {as : List PV} (hb : (b == want) = false) (h : opsW P G q mv rest (putE env d (.cond (b == want) .junk)) μ K) : goCallG P G q mv d rest env K μ b want f as := by
  unfold goCallG
  exact ⟨.junk, fun e => absurd hb (by rw [e]; simp), h⟩
/-- A call met by a contract: its arguments' print to be shown alike. -/
theorem goCall_W {q : Bool} {d : Option Nat} {rest : List CO} {K : Env → Mem → Prop} {f : Nat} {ps qs as as' : List PV} {res : PV} (hE : Ent P f) (hV : VCalls P G f as' res) (ha : (ps ++ as ++ qs).map (PV.view μ) = as') (hs : ((ps ++ as ++ qs).map (PV.seen μ)).all id = true)
    (hf : res.flat = true ∨ q = false ∧ ((ps ++ as ++ qs).map PV.noOwn).all id = true) (h : opsW P G q mv rest (putE env d res) μ K) : goCall P G q mv d rest env K μ (.fn f ps qs) as :=
  goCall_V hE (by rw [ha]; exact hV) hs hf h
def Gd (b want : Bool) (X : Prop) : Prop := b = want → X
theorem gd_i {b want : Bool} {X : Prop} (h : b = want → X) : Gd b want X := h
theorem goCallG_W {q : Bool} {d : Option Nat} {rest : List CO} {K : Env → Mem → Prop} {b want : Bool} {f : Nat} {ps qs as as' : List PV} {res : PV} (hE : Ent P f) (hV : VCalls P G f as' res) (ha : Gd b want ((ps ++ as.map (PV.under true) ++ qs).map (PV.view μ) = as')) (hok : Gd b want (okAll as))
    (hs : Gd b want (((ps ++ as.map (PV.under true) ++ qs).map (PV.seen μ)).all id = true)) (hf : res.flat = true) (h : opsW P G q mv rest (putE env d (.cond (b == want) res)) μ K) : goCallG P G q mv d rest env K μ b want (.fn f ps qs) as :=
  goCallG_V hE hok (fun e => by rw [ha e]; exact hV) hs hf h
end
end PG

namespace PG
open Go
set_option linter.unusedSimpArgs false
set_option linter.unusedVariables false
section
variable {P : Program} {G : Globs}
theorem flat_scal : ∀ {xs : List PV}, (∀ x ∈ xs, x.scalar = true) → flat xs = xs
  | [], _ => rfl
  | x :: xs, h => by
    have h1 := h x (by simp)
    have h2 := flat_scal (xs := xs) fun y hy => h y (by simp [hy])
    have : x.cells = [x] := by cases x <;> simp_all [PV.cells, PV.scalar]
    simp only [flat, List.flatMap_cons, this] at *
    rw [h2]; rfl
/-- A slice of cells, of new memory. -/
theorem FCalls.row {f : Nat} {args : List PV} {xs : List PV} (E : TypeId) (hx : ∀ x ∈ xs, x.scalar = true ∧ x.flat = true)
    (h : ∀ (w : World) (ex : Nat → Prop) (vs : Array Value), (∀ b, ex b → b < w.heap.size) → GlobsIn w ex G → RepCs w ex vs args →
      Calls P f vs w fun e w' => ∃ v vals, e = .returned v ∧ w'.ownsRow w.heap.size E 1 v xs.length vals ∧ (∀ (j : Nat) (p : PV) (u : Value), xs[j]? = some p → vals[j]? = some u → RepC w' ex u p) ∧ RowKit.Below w.heap.size w w') :
    FCalls P G f args (fun p ν => p = .sl none 0 xs.length ∧ ν = [some (.row none xs)]) := by
  intro w ex vs hex hG hr
  refine (h w ex vs hex hG hr).mono ?_
  rintro e w' ⟨v, vals, rfl, ⟨hl, hv⟩, hval, hB⟩
  rcases hv with ⟨rfl, hz⟩ | ⟨g, cap, cur, rfl, hb, hg, h0, h1, h2, h3⟩
  · have hxs : xs = [] := List.eq_nil_of_length_eq_zero hz
    subst hxs
    let κ' : Kap := ⟨fun t => if t = 0 then some none else none, ex⟩
    have kt : ∀ t c, κ' t = some c → t = 0 ∧ c = none := by
      intro t c ht
      by_cases h0 : t = 0
      · subst h0; exact ⟨rfl, by cases ht; rfl⟩
      · exact absurd ht (by show (if t = 0 then some none else none) ≠ some c; rw [if_neg h0]; exact fun h => by cases h)
    refine ⟨_, _, _, κ', rfl, ⟨rfl, rfl⟩, ⟨?_, ?_, ?_, ?_, ?_, ?_⟩, rfl, .slnil none 0 rfl, hB, ?_⟩
    · intro t t' b h1; have := (kt t _ h1).2; cases this
    · intro t b h1; have := (kt t _ h1).2; cases this
    · intro t c h1
      obtain ⟨rfl, rfl⟩ := kt t c h1
      exact ⟨_, rfl, .nilrow none⟩
    · intro t o h1
      cases t with
      | zero => exact fun h => by cases h
      | succ t => simp at h1
    · intro b h1; have := hex b h1; have := hB.size; omega
    · intro t b h1; have := (kt t _ h1).2; cases this
    · intro t b h1; have := (kt t _ h1).2; cases this
  · let κ' : Kap := ⟨fun t => if t = 0 then some (some g) else none, ex⟩
    have kt : ∀ t c, κ' t = some c → t = 0 ∧ c = some g := by
      intro t c ht
      by_cases h0 : t = 0
      · subst h0; exact ⟨rfl, by cases ht; rfl⟩
      · exact absurd ht (by show (if t = 0 then some (some g) else none) ≠ some c; rw [if_neg h0]; exact fun h => by cases h)
    have hgl : g < w'.heap.size := (Array.getElem?_eq_some_iff.1 hg).1
    have hfl : flat xs = xs := flat_scal fun x h => (hx x h).1
    have h2' : cur.size = cap * Sh.size none := by simpa [Sh.size] using h2
    refine ⟨_, _, _, κ', rfl, ⟨rfl, rfl⟩, ⟨?_, ?_, ?_, ?_, ?_, ?_⟩, rfl, .sl none 0 _ g cap rfl ⟨E, ?_⟩ h0 h1, hB, ?_⟩
    · intro t t' b q1 q2; rw [(kt t _ q1).1, (kt t' _ q2).1]
    · intro t b q1; have := (kt t _ q1).2; cases this; exact hgl
    · intro t c q1
      obtain ⟨rfl, rfl⟩ := kt t c q1
      refine ⟨_, rfl, .row g cur E cap none xs hg h2' h1 (by omega) (fun x h => (hx x h).1) (fun j p u hp hu => ?_)⟩
      rw [hfl] at hp
      refine repC_flat (hval j p u hp ?_) (hx p (List.mem_of_getElem? hp)).2
      have hj : j < xs.length := (List.getElem?_eq_some_iff.1 hp).1
      rw [← h3, List.getElem?_take_of_lt (by omega)]
      simpa using hu
    · intro t o q1
      cases t with
      | zero => exact fun h => by cases h
      | succ t => simp at q1
    · intro b q1; have := hex b q1; have := hB.size; omega
    · intro t b q1 q2; have := hex b q2; have := (kt t _ q1).2; cases this; omega
    · unfold World.shape?; rw [hg]; simp [h2']
    · intro t b q1; have := (kt t _ q1).2; cases this; exact hb
/-- .. and told as a value. -/
theorem FCalls.val {f : Nat} {args : List PV} {R : PV → Mem → Prop} {res : PV} (h : FCalls P G f args R) (hR : ∀ p ν, R p ν → p.seen ν = true ∧ p.view ν = res) : VCalls P G f args res := by
  intro w ex vs hex hG hr
  refine (h w ex vs hex hG hr).mono ?_
  rintro e w' ⟨v, p, ν, κ', rfl, hp, hS, hx, hv, hB, -⟩
  obtain ⟨h1, h2⟩ := hR p ν hp
  have := rep_view hS hv h1
  rw [h2, hx] at this
  exact ⟨v, rfl, hB, this⟩
end
end PG

namespace PG
open Go
set_option linter.unusedSimpArgs false
set_option linter.unusedVariables false
section
variable {P : Program} {G : Globs} {N : Nat} {w w' : World} {κ : Kap} {env : Env} {μ : Mem} {mv : Nat → Bool} {Q : Post}

theorem Sim.swap (hS : Sim w κ μ) {t : Nat} {o o' : MObj} (hm : μ.get t = some o) (h : ∀ c, ORep w (own κ) κ c o → ORep w (own κ) κ c o') : Sim w κ (μ.set t (some o')) := by
  have hg := Mem.get_some hm
  have hlt : t < μ.length := (List.getElem?_eq_some_iff.1 hg).1
  refine ⟨hS.inj, hS.lt, fun i c hic => ?_, fun i o'' hi => ?_, hS.exlt, hS.exout⟩
  · obtain ⟨o1, h1, h2⟩ := hS.live i c hic
    by_cases hit : i = t
    · subst hit
      rw [hg] at h1; cases h1
      exact ⟨_, List.getElem?_set_self hlt, h c h2⟩
    · exact ⟨o1, by rw [List.getElem?_set_ne (Ne.symm hit)]; exact h1, h2⟩
  · by_cases hit : i = t
    · subst hit; exact hS.dead i _ hg
    · rw [List.getElem?_set_ne (Ne.symm hit)] at hi; exact hS.dead i o'' hi

/-- The first n objects are kept, no more is said of the others. -/
theorem PW.trim {x : PCode} (n : Nat) (hmv : ∀ t, n ≤ t → mv t = true) (h : PW P G N mv x (trimE n env) (trimM n μ) Q) : PW P G N mv x env μ Q := by
  intro ow L code hc hmix C a w κ hC hR
  exact h ow L code hc hmix C a w _ hC (hR.trim n (by rw [hC]; exact hmv))

/-! ### Rows that the library writes -/
theorem Sim.putRow (hS : Sim w κ μ) {t b : Nat} {o o1 : MObj} (hk : κ t = some (some b)) (hm : μ.get t = some o) (hos : w'.os = w.os) (htp : w'.tape = w.tape) (hou : w'.output = w.output) (hsz : w.heap.size ≤ w'.heap.size)
    (hw : ∀ k, k < w.heap.size → k ≠ b → w'.heap[k]? = w.heap[k]?) (hsh : ∀ s, w.shape? b = some s → w'.shape? b = some s) (ho : Goes w κ w' κ (fun _ => False) → ORep w' (own κ) κ (some b) o1) :
    Sim w' κ (μ.set t (some o1)) ∧ Goes w κ w' κ (fun _ => False) := by
  have hG : Goes w κ w' κ (fun _ => False) := by
    refine ⟨hos, htp, hou, hsz, rfl, fun k hkl hn => hw k hkl (fun e => hn ⟨t, by rw [e]; exact hk⟩), fun _ _ h => h, fun k s hs => ?_, fun _ _ h _ => h⟩
    by_cases e : k = b
    · subst e; exact hsh s hs
    · have hkl : k < w.heap.size := by
        unfold World.shape? at hs
        rcases Nat.lt_or_ge k w.heap.size with h | h
        · exact h
        · simp [Array.getElem?_eq_none h] at hs
      rw [shape?_of_block (hw k hkl e)]; exact hs
  have hg := Mem.get_some hm
  have hlt : t < μ.length := (List.getElem?_eq_some_iff.1 hg).1
  refine ⟨⟨hS.inj, fun i c h => Nat.lt_of_lt_of_le (hS.lt i c h) hsz, fun i c hic => ?_, fun i o'' hi => ?_, fun k h => Nat.lt_of_lt_of_le (hS.exlt k h) hsz, hS.exout⟩, hG⟩
  · obtain ⟨o2, h1, h2⟩ := hS.live i c hic
    by_cases hit : i = t
    · subst hit
      rw [hk] at hic; cases hic
      exact ⟨_, List.getElem?_set_self hlt, ho hG⟩
    · refine ⟨o2, by rw [List.getElem?_set_ne (Ne.symm hit)]; exact h1, ORep.still hG (fun k e => ?_) h2⟩
      subst e
      exact hw k (hS.lt i k hic) (fun e => hit (by subst e; exact hS.inj i t k hic hk))
  · by_cases hit : i = t
    · subst hit; exact hS.dead i _ hg
    · rw [List.getElem?_set_ne (Ne.symm hit)] at hi; exact hS.dead i o'' hi

theorem heap_put {α : Type} [Inhabited α] {enc : α → Value} {w : World} {g n : Nat} {os : Array Obj} {cur : Array Value} {e : TypeId} {fr : Nat × Nat} (d : Array α) (hb : w.heap[g]? = some (.cells cur e fr)) :
    (Sort.grow (Sort.putRow enc (Sort.ahead w n) g 0 d) os).heap[g]? = some (.cells (Sort.putCells enc 0 d cur) e fr) := by
  have hg : g < w.heap.size := (Array.getElem?_eq_some_iff.1 hb).1
  rw [Sort.heap_grow_old _ _ (by simpa using hg)]
  simp [Sort.putRow, Sort.mapBlock, Sort.ahead, Array.getElem?_modify, hb, Sort.onCells]
theorem grown_put {α : Type} [Inhabited α] {enc : α → Value} {w : World} {g n : Nat} {os : Array Obj} (d : Array α) : w.grownBy (Sort.grow (Sort.putRow enc (Sort.ahead w n) g 0 d) os) (some g) := by
  refine ⟨rfl, rfl, rfl, by simp, fun k hk hne => ?_⟩
  rw [Sort.heap_grow_old _ _ (by simpa using hk)]
  have : g ≠ k := fun e => hne (by rw [e])
  simp [Sort.putRow, Sort.mapBlock, Sort.ahead, Array.getElem?_modify, this]

/-- A function of the library that writes a row of the call's own, whole: what it hands back, and what the row then holds. -/
theorem PCalls.row {α : Type} [Inhabited α] {enc : α → Value} {pv : α → PV} (hrep : ∀ w ex a, RepC w ex (enc a) (pv a)) (hfl : ∀ a, (pv a).flat = true ∧ (pv a).scalar = true) {f : Nat} {t : Nat} {d d' : List α} (hl : d'.length = d.length) (hm : μ.get t = some (.row none (d.map pv)))
    {rv : Option Addr → Nat → Value} {rp : PV}
    (h1 : ∀ (blk off cap : Nat) (w : World), Sort.Holds enc w blk off d.toArray → blk < w.heap.size → d.length ≤ cap → Calls P f #[.slice (some ⟨blk, off, none⟩) d.length cap] w fun e w' => e = .returned (rv (some ⟨blk, off, none⟩) cap) ∧ ∃ n os, w' = Sort.grow (Sort.putRow enc (Sort.ahead w n) blk off d'.toArray) os)
    (h0 : d = [] → ∀ (w : World), Calls P f #[.slice none 0 0] w fun e w' => e = .returned (rv none 0) ∧ w' = w)
    (hr : ∀ (w : World) (κ : Kap) (a : Option Addr) (cap : Nat), Rep w (own κ) κ (.slice a d.length cap) (.sl none t d.length) → Rep w (own κ) κ (rv a cap) rp) :
    PCalls P G f [.sl none t d.length] μ (fun _ => false) (fun p μ' => p = rp ∧ μ' = μ.set t (some (.row none (d'.map pv)))) := by
  intro w κ vs hS hG hv
  obtain ⟨hvs, hv⟩ := hv
  obtain ⟨L⟩ := vs
  match L, hvs with
  | [v], _ =>
  have hv0 := hv 0 v _ rfl rfl
  have hv1 := hv0
  obtain ⟨c, hc, hO⟩ := hS.at hm
  obtain ⟨n0, hn0⟩ : ∃ n0, n0 = d.length := ⟨_, rfl⟩
  rw [← hn0] at hv0
  cases hv0 with
  | closed h => cases h
  | sl _ _ _ b cap hb hs hlc hmc =>
    subst hn0
    rw [hb] at hc; cases hc
    cases hO with
    | row _ cur E cap' _ _ hh hcs hm' hl' hfit hrr =>
      have hflat : flat (d.map pv) = d.map pv := flat_scal fun x hx => by obtain ⟨a, -, rfl⟩ := List.mem_map.1 hx; exact (hfl a).2
      have hcur : cur.size = cap' := by rw [hcs]; simp [Sh.size]
      have hld : d.length ≤ cap' := by simpa using hl'
      have hat : ∀ j (hj : j < d.length), cur[j]? = some (enc d[j]) := by
        intro j hj
        have hjc : j < cur.size := by omega
        have := hrr j (pv d[j]) cur[j] (by rw [hflat]; simp [hj]) (by simp [hjc])
        rw [Array.getElem?_eq_getElem hjc]
        congr 1
        exact repC_uniq (hrep w (own κ) d[j]) (hfl _).1 this
      have hH : Sort.Holds enc w b 0 d.toArray := by
        intro j hj
        have hj' : j < d.length := by simpa using hj
        refine ⟨?_, by simp [World.frozen?, hh]⟩
        simp only [World.cell?, hh, Nat.zero_add, Option.isSome_none, Bool.false_eq_true, if_false, hat j hj']
        simp [hj']
      refine (h1 b 0 cap w hH (Array.getElem?_eq_some_iff.1 hh).1 hlc).mono ?_
      rintro e w' ⟨rfl, n, os, rfl⟩
      have hgb := grown_put (enc := enc) (w := w) (g := b) (n := n) (os := os) d'.toArray
      have hhp := heap_put (enc := enc) (n := n) (os := os) d'.toArray hh
      obtain ⟨hS', hG'⟩ := hS.putRow hb hm (o1 := .row none (d'.map pv)) hgb.os hgb.tape hgb.output hgb.size (fun k hk hne => hgb.block k hk (fun e => hne (by cases e; rfl)))
        (fun s hs => by
          unfold World.shape? at hs ⊢
          rw [hhp]; rw [hh] at hs
          simpa [Sort.putCells] using hs)
        (fun hG' => by
          refine .row b _ E cap' none _ hhp (by simpa [Sort.putCells] using hcs) hm' (by simp [hl]; exact hld) (fun x hx => by obtain ⟨a, -, rfl⟩ := List.mem_map.1 hx; exact (hfl a).2) (fun j p u hp hu => ?_)
          rw [flat_scal fun x hx => by obtain ⟨a, -, rfl⟩ := List.mem_map.1 hx; exact (hfl a).2, List.getElem?_map] at hp
          cases hq : d'[j]? with
          | none => rw [hq] at hp; cases hp
          | some a =>
            rw [hq] at hp; simp at hp; subst hp
            have hj : j < d'.length := (List.getElem?_eq_some_iff.1 hq).1
            simp only [Sort.putCells, Array.getElem?_mapIdx] at hu
            rw [Array.getElem?_eq_getElem (by omega)] at hu
            simp only [Option.map_some, Nat.zero_le, Nat.zero_add, List.size_toArray, hj, and_self, if_true, Nat.sub_zero, Option.some.injEq] at hu
            rw [← hu]
            have : d'.toArray[j]! = a := by
              have := (List.getElem?_eq_some_iff.1 hq).2
              simp [hj, this]
            rw [this]
            exact hrep _ _ a)
      exact ⟨_, _, _, κ, rfl, ⟨rfl, rfl⟩, hS', hr _ κ _ cap (hv1.still hG'), hG'.weak fun _ h => h.elim⟩
  | slnil _ _ hb =>
    have hd : d = [] := List.eq_nil_of_length_eq_zero hn0.symm
    subst hd
    have hd' : d' = [] := List.eq_nil_of_length_eq_zero hl
    subst hd'
    refine (h0 rfl w).mono ?_
    rintro e w' ⟨rfl, rfl⟩
    refine ⟨_, _, _, κ, rfl, ⟨rfl, rfl⟩, ?_, hr _ κ none 0 hv1, Goes.refl _ _ _⟩
    exact hS.swap hm fun c h => h
end
end PG

namespace PG
open Go
set_option linter.unusedSimpArgs false
set_option linter.unusedVariables false
section
open Go.RowKit Go.WideShapes Go.ChangeShapes
variable {H : Type} {enc : TypeId × Value → H} {P : Program}
end
end PG

namespace PG
open Go
set_option linter.unusedSimpArgs false
set_option linter.unusedVariables false
section
variable {P : Program} {G : Globs} {N : Nat} {w : World} {κ : Kap} {env : Env} {μ : Mem} {mv : Nat → Bool} {Q : Post} {K : Env → Mem → Prop}
/-- What is known, in some other form. -/
def Wk (G : Globs) (N : Nat) (mv : Nat → Bool) (K : Env → Mem → Prop) (env : Env) (μ : Mem) : Prop :=
  ∀ (C : Ctx) (a : Act) (w : World) (κ : Kap), C.mv = mv → SR G N C a w κ env μ → ∃ env' μ' κ', SR G N C a w κ' env' μ' ∧ K env' μ'
theorem Wk.id (h : K env μ) : Wk G N mv K env μ := fun _ _ _ κ _ hR => ⟨env, μ, κ, hR, h⟩
theorem Wk.frz (t : Nat) (o : MObj) (hm : μ.get t = some o) (hmv : mv t = true) (h : Wk G N mv K (frzE t o env) (frzMem t o μ)) : Wk G N mv K env μ := by
  intro C a w κ hC hR
  exact h C a w _ hC (hR.frz t o hm (by rw [hC]; exact hmv))
theorem Wk.trim (n : Nat) (hmv : ∀ t, n ≤ t → mv t = true) (h : Wk G N mv K (trimE n env) (trimM n μ)) : Wk G N mv K env μ := by
  intro C a w κ hC hR
  exact h C a w _ hC (hR.trim n (by rw [hC]; exact hmv))
def CO.plain (c : CO) : Bool := c.wl || (match c.op with
  | .rd .loadC _ => true
  | _ => false)
/-- Operations, ahead of each of which what is known may be put in another form. -/
def opsX (P : Program) (G : Globs) (N : Nat) (mv : Nat → Bool) : List CO → Env → Mem → (Env → Mem → Prop) → Prop
  | [], env, μ, K => K env μ
  | c :: l, env, μ, K => if c.plain = true then stepW P G false mv c env μ (fun e m => opsX P G N mv l e m K) else Wk G N mv (fun e m => stepW P G false mv c e m (fun e m => opsX P G N mv l e m K)) env μ
def schedX (P : Program) (G : Globs) (N : Nat) (mv : Nat → Bool) : Sched → Env → Mem → (Env → Mem → Prop) → Prop
  | .done, env, μ, K => Wk G N mv K env μ
  | .stop, _, _, _ => True
  | .alt l s more, env, μ, K => opsX P G N mv l env μ (fun e m => schedX P G N mv s e m K) ∧ schedX P G N mv more env μ K
theorem Wk.bind {K : Env → Mem → Prop} {L : Env → Mem → Prop} (h : Wk G N mv L env μ) (hl : ∀ e m, L e m → Wk G N mv K e m) : Wk G N mv K env μ := by
  intro C a w κ hC hR
  obtain ⟨env', μ', κ', h1, h2⟩ := h C a w κ hC hR
  exact hl _ _ h2 C a w κ' hC h1
/-- The first operation, if it isn't plain, may come behind what is known in another form. -/
theorem opsX_wk {c : CO} {l : List CO} (hp : c.plain = false) (h : Wk G N mv (fun e m => opsX P G N mv (c :: l) e m K) env μ) : opsX P G N mv (c :: l) env μ K := by
  unfold opsX
  rw [if_neg (by rw [hp]; simp)]
  refine h.bind fun e m hh => ?_
  unfold opsX at hh
  rw [if_neg (by rw [hp]; simp)] at hh
  exact hh
/-- The same, told so that no unfolding is tried. -/
structure SX (P : Program) (G : Globs) (N : Nat) (mv : Nat → Bool) (s : Sched) (env : Env) (μ : Mem) (K : Env → Mem → Prop) : Prop where
  go : schedX P G N mv s env μ K
structure OX (P : Program) (G : Globs) (N : Nat) (mv : Nat → Bool) (l : List CO) (s : Sched) (env : Env) (μ : Mem) (K : Env → Mem → Prop) : Prop where
  go : opsX P G N mv l env μ fun e m => schedX P G N mv s e m K
theorem schedW_alt_k {l : List CO} {s more : Sched} (h1 : ∀ K' : Env → Mem → Prop, (K' = fun e m => schedW P G mv s e m K) → opsW P G false mv l env μ K') (h2 : schedW P G mv more env μ K) : schedW P G mv (.alt l s more) env μ K := ⟨h1 _ rfl, h2⟩
theorem schK_n {s : Sched} {K' : Env → Mem → Prop} (hK : K' = fun e m => schedW P G mv s e m K) (h : schedW P G mv s env μ K) : K' env μ := by rw [hK]; exact h
/-- Where a walk is to halt. -/
structure Stop (p : Prop) : Prop where
  go : p
theorem PW.stop {x : PCode} (h : Stop (PW P G N mv x env μ Q)) : PW P G N mv x env μ Q := h.go
end
end PG

namespace PG
open Go
set_option linter.unusedSimpArgs false
set_option linter.unusedVariables false
section
variable {P : Program} {G : Globs} {N : Nat} {w : World} {κ : Kap} {env : Env} {μ : Mem} {mv : Nat → Bool} {Q : Post}
end
end PG

namespace PG
open Go
set_option linter.unusedSimpArgs false
set_option linter.unusedVariables false
section
variable {P : Program} {G : Globs} {N : Nat} {C : Ctx} {a : Act} {w : World} {κ κ' : Kap} {env : Env} {μ : Mem} {mv : Nat → Bool} {Q : Post} {K : Env → Mem → Prop} {g : Nat → Nat}
end
end PG

namespace PG
open Go
set_option linter.unusedSimpArgs false
set_option linter.unusedVariables false
/-- Orders, by operations' numbers. -/
inductive IS where
  | done
  | stop
  | alt (l : List Nat) (s more : IS)
def CO.tms (c : CO) : List Nat :=
  (match c.guard with
   | none => []
   | some (r, _) => [r]) ++
  (match c.op with
   | .rd _ xs => xs
   | .eff _ xs => xs
   | .call f xs => f :: xs).filterMap fun x : Opd => match x with
    | Opd.tmp t => some t
    | _ => none
structure Dg where
  ops : List CO
  pl : List (Nat × Nat × Nat)
  B : List Nat
  keys : List (List Nat)
  last : Nat
  allocs : List Nat := []
namespace Dg
def op (T : Dg) (i : Nat) : CO := T.ops.getD i default
/-- A set's class, by the order in which its operations came up. -/
def cls (T : Dg) : List Nat → Nat
  | [] => 0
  | i :: D => ((T.pl.find? fun p => p.1 == i && p.2.1 == T.cls D).map (·.2.2)).getD 9999
def kn (T : Dg) (D : List Nat) : List Nat := T.B ++ D.filterMap fun j => (T.op j).dst
/-- The last operation made memory: what is known may be put in form ahead of the next one. -/
def loose (T : Dg) : List Nat → Bool
  | [] => false
  | i :: _ => T.allocs.contains i
def okI (T : Dg) (D : List Nat) (i : Nat) : Bool :=
  (!T.loose D || !(T.op i).plain) &&
  T.pl.contains (i, T.cls D, T.cls (i :: D)) && (T.op i).tms.all (fun r => (T.kn D).contains r) && (T.kn D).all (fun r => (T.keys.getD (T.cls D) []).contains r)
end Dg
def Agr (env V : Env) : List Nat → Prop
  | [] => True
  | r :: l => env.get r = V.get r ∧ Agr env V l
theorem Agr.of {env V : Env} : ∀ {l : List Nat}, (∀ r ∈ l, env.get r = V.get r) → Agr env V l
  | [], _ => trivial
  | r :: l, h => ⟨h r (by simp), Agr.of fun x hx => h x (by simp [hx])⟩
theorem Agr.mem {env V : Env} : ∀ {l : List Nat}, Agr env V l → ∀ r ∈ l, env.get r = V.get r
  | x :: l, h, r, hr => by
    rcases List.mem_cons.1 hr with rfl | hr
    · exact h.1
    · exact h.2.mem r hr
section
variable {P : Program} {G : Globs} {N : Nat} {mv : Nat → Bool} {Q : Post} {env : Env} {μ : Mem} {K : Env → Mem → Prop} {σ : Type}
/-- What is known of a class of sets. -/
structure Fam (σ : Type) where
  V : Nat → σ → Env
  M : Nat → σ → Mem
  Gd : Nat → σ → Prop
/-- An operation was done: what is known behind it. -/
structure Upd (T : Dg) (F : Fam σ) (d : Option Nat) (c c' : Nat) (s s' : σ) (env e : Env) : Prop where
  good : F.Gd c' s'
  keep : ∃ τ : PV → PV, (∀ r, d ≠ some r → e.get r = τ (env.get r)) ∧ ∀ r ∈ T.keys.getD c [], d ≠ some r → (F.V c' s').get r = τ ((F.V c s).get r)
  new : ∀ r, d = some r → e.get r = (F.V c' s').get r
def Dg.Aft (T : Dg) (G : Globs) (N : Nat) (mv : Nat → Bool) (F : Fam σ) (i c c' : Nat) (s s' : σ) (env : Env) (e : Env) (m : Mem) : Prop :=
  if T.allocs.contains i = true then Wk G N mv (fun E M' => M' = F.M c' s' ∧ Upd T F (T.op i).dst c c' s s' env E) e m else m = F.M c' s' ∧ Upd T F (T.op i).dst c c' s s' env e
def Dg.Ob (T : Dg) (P : Program) (G : Globs) (N : Nat) (mv : Nat → Bool) (F : Fam σ) (p : Nat × Nat × Nat) : Prop :=
  ∀ s, F.Gd p.2.1 s → ∀ env, Agr env (F.V p.2.1 s) (T.op p.1).tms → ∀ K : Env → Mem → Prop,
    (∀ s' e m, T.Aft G N mv F p.1 p.2.1 p.2.2 s s' env e m → K e m) → opsX P G N mv [T.op p.1] env (F.M p.2.1 s) K
def Dg.Obs (T : Dg) (P : Program) (G : Globs) (N : Nat) (mv : Nat → Bool) (F : Fam σ) : List (Nat × Nat × Nat) → Prop
  | [] => True
  | p :: l => T.Ob P G N mv F p ∧ T.Obs P G N mv F l
theorem Dg.Obs.mem {T : Dg} {F : Fam σ} : ∀ {l : List (Nat × Nat × Nat)}, T.Obs P G N mv F l → ∀ p ∈ l, T.Ob P G N mv F p
  | x :: l, h, p, hp => by
    rcases List.mem_cons.1 hp with rfl | hp
    · exact h.1
    · exact Dg.Obs.mem h.2 p hp
def Dg.Ex (T : Dg) (F : Fam σ) (D : List Nat) (env : Env) (μ : Mem) : Prop :=
  ∃ s, F.Gd (T.cls D) s ∧ μ = F.M (T.cls D) s ∧ ∀ r ∈ T.kn D, env.get r = (F.V (T.cls D) s).get r
def Dg.I (T : Dg) (G : Globs) (N : Nat) (mv : Nat → Bool) (F : Fam σ) (D : List Nat) (env : Env) (μ : Mem) : Prop :=
  if T.loose D = true then Wk G N mv (T.Ex F D) env μ else T.Ex F D env μ
theorem Dg.I.wk {T : Dg} {F : Fam σ} {D : List Nat} (h : T.I G N mv F D env μ) : Wk G N mv (T.Ex F D) env μ := by
  unfold Dg.I at h
  split at h
  · exact h
  · exact Wk.id h
theorem Dg.kn_cons (T : Dg) (i : Nat) (D : List Nat) (r : Nat) : r ∈ T.kn (i :: D) ↔ (T.op i).dst = some r ∨ r ∈ T.kn D := by
  unfold Dg.kn
  rw [List.filterMap_cons]
  cases hd : (T.op i).dst with
  | none => simp
  | some d =>
    simp only [List.mem_append, List.mem_cons, Option.some.injEq]
    constructor
    · rintro (h | h | h)
      · exact .inr (.inl h)
      · exact .inl h.symm
      · exact .inr (.inr h)
    · rintro (h | h | h)
      · exact .inr (.inl h.symm)
      · exact .inl h
      · exact .inr (.inr h)
theorem Wk.mono {K K' : Env → Mem → Prop} (hk : ∀ e m, K e m → K' e m) (h : Wk G N mv K env μ) : Wk G N mv K' env μ := by
  intro C a w κ hC hR
  obtain ⟨e, m, κ', h1, h2⟩ := h C a w κ hC hR
  exact ⟨e, m, κ', h1, hk _ _ h2⟩
theorem Dg.step {T : Dg} {F : Fam σ} (hO : T.Obs P G N mv F T.pl) {D : List Nat} {i : Nat} (hok : T.okI D i = true) (hI : T.I G N mv F D env μ) :
    opsX P G N mv [T.op i] env μ (T.I G N mv F (i :: D)) := by
  unfold Dg.okI at hok
  simp only [Bool.and_eq_true] at hok
  obtain ⟨⟨⟨h0, h1⟩, h2⟩, h3⟩ := hok
  have hO := Dg.Obs.mem hO (i, T.cls D, T.cls (i :: D)) (by simpa using h1)
  have ex : ∀ {env : Env} {μ : Mem}, T.Ex F D env μ → opsX P G N mv [T.op i] env μ (T.I G N mv F (i :: D)) := by
    rintro env μ ⟨s, hg, rfl, hk⟩
    refine hO s hg env (Agr.of fun r hr => hk r ?_) _ ?_
    · have := List.all_eq_true.1 h2 r hr; simpa using this
    · have up : ∀ s' e m, m = F.M (T.cls (i :: D)) s' ∧ Upd T F (T.op i).dst (T.cls D) (T.cls (i :: D)) s s' env e → T.Ex F (i :: D) e m := by
        rintro s' e m ⟨rfl, hg', ⟨τ, t1, t2⟩, hn⟩
        refine ⟨s', hg', rfl, fun r hr => ?_⟩
        by_cases hd : (T.op i).dst = some r
        · exact hn r hd
        · have hr2 : r ∈ T.kn D := ((T.kn_cons i D r).1 hr).resolve_left hd
          rw [t1 r hd, hk r hr2, ← t2 r ?_ hd]
          have := List.all_eq_true.1 h3 r hr2
          simpa using this
      intro s' e m ha
      unfold Dg.Aft at ha
      unfold Dg.I
      have hl : T.loose (i :: D) = T.allocs.contains i := rfl
      rw [hl]
      simp only at ha
      split at ha
      · rename_i hc
        rw [if_pos hc]
        exact Wk.mono (fun E M' h => up s' E M' h) ha
      · rename_i hc
        rw [if_neg hc]
        exact up s' e m ha
  by_cases hl : T.loose D = true
  · have hp : (T.op i).plain = false := by
      rw [hl] at h0
      simpa using h0
    refine opsX_wk hp (Wk.mono (fun e m h => ex h) hI.wk)
  · unfold Dg.I at hI
    rw [if_neg hl] at hI
    exact ex hI
end
end PG

namespace PG
open Go
section
variable {P : Program} {G : Globs} {N : Nat} {mv : Nat → Bool} {env : Env} {μ : Mem} {K : Env → Mem → Prop}
end
end PG

namespace PG
open Go
set_option linter.unusedSimpArgs false
set_option linter.unusedVariables false

section
variable {P : Program} {G : Globs} {w : World} {κ : Kap} {μ : Mem}
theorem VCalls.lend {f : Nat} {as : List PV} {res : PV} (n : Nat) (mv : Nat → Bool) (hV : VCalls P G f (as.map (PV.lend n μ)) res) (hs : (as.map (PV.lends n μ)).all id = true) (hf : res.flat = true) :
    PCalls P G f as μ mv (fun p μ' => p = res ∧ μ' = μ) := by
  intro w κ vs hS hG hr
  rw [allMap] at hs
  refine (hV w κ.ex vs hS.exlt (fun g sh x hg => (hG g sh x hg).mono ⟨fun _ _ _ => rfl, fun b _ h h' => h (.inl h')⟩) ⟨by simpa using hr.1, fun i v p a b => ?_⟩).mono ?_
  · obtain ⟨q, hq, rfl⟩ := lend_get b
    exact rep_lend hS n (hr.2 i v q a hq) (hs q (List.mem_of_getElem? hq))
  · rintro e w' ⟨v, rfl, hB, hrc⟩
    exact ⟨v, res, μ, κ, rfl, ⟨rfl, rfl⟩, hS.below hB, .closed (repC_flat hrc hf), Goes.below hB _⟩

end
end PG

namespace PG
open Go
set_option linter.unusedSimpArgs false
set_option linter.unusedVariables false
section
variable {P : Program} {G : Globs} {N : Nat} {w : World} {κ : Kap} {env : Env} {μ : Mem} {mv : Nat → Bool} {Q : Post}
end
end PG

namespace PG
open Go
section
variable {P : Program} {G : Globs} {N : Nat} {env : Env} {μ : Mem} {mv : Nat → Bool} {Q : Post}
end
end PG

namespace PG
open Go
set_option linter.unusedSimpArgs false
set_option maxRecDepth 100000
theorem SS5 : type_of% (And.intro (And.intro (And.intro (And.intro (And.intro (And.intro (And.intro (And.intro (@gArgs.eq_1) (@gArgs.eq_2)) (And.intro (@gOk.eq_1) (@gOk.eq_2))) (And.intro (And.intro (@PV.shift.eq_1) (@PV.shift.eq_2)) (And.intro (@PV.shift.eq_3) (@PV.shift.eq_4)))) (And.intro (And.intro (And.intro (@PV.shift.eq_5) (@PV.shift.eq_6)) (And.intro (@PV.shift.eq_7) (@PV.shift.eq_8))) (And.intro (And.intro (@PV.shift.eq_9) (@MObj.shift.eq_1)) (And.intro (@MObj.shift.eq_2) (@MObj.shift.eq_3))))) (And.intro (And.intro (And.intro (And.intro (@rdV.eq_1) (@rdV.eq_2)) (And.intro (@rdV.eq_3) (@rdV.eq_4))) (And.intro (And.intro (@rdV.eq_5) (@rdV.eq_6)) (And.intro (@rdV.eq_7) (@rdV.eq_8)))) (And.intro (And.intro (And.intro (@rdV.eq_9) (@rdV.eq_10)) (And.intro (@rdV.eq_11) (@rdV.eq_12))) (And.intro (And.intro (@rdV.eq_13) (@rdV.eq_14)) (And.intro (@rdV.eq_15) (@rdV.eq_16)))))) (And.intro (And.intro (And.intro (And.intro (And.intro (@rdV.eq_17) (@rdV.eq_18)) (And.intro (@rdV.eq_19) (@rdV.eq_20))) (And.intro (And.intro (@rdV.eq_21) (@rdV.eq_22)) (And.intro (@rdV.eq_23) (@rdV.eq_24)))) (And.intro (And.intro (And.intro (@rdV.eq_25) (@rdV.eq_26)) (And.intro (@rdV.eq_27) (@rdV.eq_28))) (And.intro (And.intro (@rdV.eq_29) (@rdV.eq_30)) (And.intro (@rdV.eq_31) (@rdV.eq_32))))) (And.intro (And.intro (And.intro (And.intro (@rdV.eq_33) (@rdV.eq_34)) (And.intro (@rdV.eq_35) (@rdV.eq_36))) (And.intro (And.intro (@rdV.eq_37) (@rdV.eq_38)) (And.intro (@rdV.eq_39) (@rdV.eq_40)))) (And.intro (And.intro (And.intro (@rdV.eq_41) (@rdV.eq_42)) (And.intro (@rdV.eq_43) (@rdV.eq_44))) (And.intro (And.intro (@rdV.eq_45) (@rdV.eq_46)) (And.intro (@rdV.eq_47) (@rdV.eq_48))))))) (And.intro (And.intro (And.intro (And.intro (And.intro (And.intro (@rdV.eq_49) (@rdV.eq_50)) (And.intro (@rdD.eq_1) (@rdD.eq_2))) (And.intro (And.intro (@rdD.eq_3) (@rdD.eq_4)) (And.intro (@rdD.eq_5) (@rdD.eq_6)))) (And.intro (And.intro (And.intro (@rdD.eq_7) (@rdD.eq_8)) (And.intro (@rdD.eq_9) (@rdD.eq_10))) (And.intro (And.intro (@rdD.eq_11) (@rdD.eq_12)) (And.intro (@rdD.eq_13) (@rdD.eq_14))))) (And.intro (And.intro (And.intro (And.intro (@rdD.eq_15) (@rdD.eq_16)) (And.intro (@rdD.eq_17) (@rdD.eq_18))) (And.intro (And.intro (@rdD.eq_19) (@rdD.eq_20)) (And.intro (@rdD.eq_21) (@rdD.eq_22)))) (And.intro (And.intro (And.intro (@rdD.eq_23) (@rdD.eq_24)) (And.intro (@rdD.eq_25) (@rdD.eq_26))) (And.intro (And.intro (@rdD.eq_27) (@rdD.eq_28)) (And.intro (@rdD.eq_29) (@rdD.eq_30)))))) (And.intro (And.intro (And.intro (And.intro (And.intro (@rdD.eq_31) (@rdD.eq_32)) (And.intro (@rdD.eq_33) (@rdD.eq_34))) (And.intro (And.intro (@rdD.eq_35) (@rdD.eq_36)) (And.intro (@rdD.eq_37) (@rdD.eq_38)))) (And.intro (And.intro (And.intro (@rdD.eq_39) (@rdD.eq_40)) (And.intro (@rdD.eq_41) (@rdD.eq_42))) (And.intro (And.intro (@rdD.eq_43) (@rdD.eq_44)) (And.intro (@rdD.eq_45) (@rdD.eq_46))))) (And.intro (And.intro (And.intro (And.intro (@rdD.eq_47) (@rdD.eq_48)) (And.intro (@rdD.eq_49) (@rdD.eq_50))) (And.intro (And.intro (@rdD.eq_51) (@rdD.eq_52)) (And.intro (@rdD.eq_53) (@PV.bin.eq_1)))) (And.intro (And.intro (And.intro (@PV.bin.eq_2) (@PV.bin.eq_3)) (And.intro (@PV.bin.eq_4) (@PV.bin.eq_5))) (And.intro (And.intro (@PV.binOk.eq_1) (@PV.binOk.eq_2)) (And.intro (@PV.binOk.eq_3) (@PV.binOk.eq_4)))))))) (And.intro (And.intro (And.intro (And.intro (And.intro (And.intro (And.intro (@PV.binOk.eq_5) (@PV.binOk.eq_6)) (And.intro (@PV.binOk.eq_7) (@PV.binOk.eq_8))) (And.intro (And.intro (@PV.binOk.eq_9) (@PV.binOk.eq_10)) (And.intro (@PV.binOk.eq_11) (@PV.binOk.eq_12)))) (And.intro (And.intro (And.intro (@PV.binOk.eq_13) (@PV.binOk.eq_14)) (And.intro (@binI.eq_1) (@binI.eq_2))) (And.intro (And.intro (@binI.eq_3) (@binI.eq_4)) (And.intro (@binI.eq_5) (@binI.eq_6))))) (And.intro (And.intro (And.intro (And.intro (@binI.eq_7) (@binI.eq_8)) (And.intro (@binI.eq_9) (@binI.eq_10))) (And.intro (And.intro (@binI.eq_11) (@binI.eq_12)) (And.intro (@binI.eq_13) (@binI.eq_14)))) (And.intro (And.intro (And.intro (@binI.eq_15) (@binI.eq_16)) (And.intro (@binS.eq_1) (@binS.eq_2))) (And.intro (And.intro (@binS.eq_3) (@binS.eq_4)) (And.intro (@binS.eq_5) (@binS.eq_6)))))) (And.intro (And.intro (And.intro (And.intro (And.intro (@binS.eq_7) (@binS.eq_8)) (And.intro (@PV.withInt.eq_1) (@PV.withInt.eq_2))) (And.intro (And.intro (@PV.withIntP.eq_1) (@PV.withIntP.eq_2)) (And.intro (@okAll.eq_1) (@okAll.eq_2)))) (And.intro (And.intro (And.intro (@PV.under.eq_1) (@PV.under.eq_2)) (And.intro (@PV.okUnder.eq_1) (@PV.okUnder.eq_2))) (And.intro (And.intro (@deadOk.eq_1) (@deadOk.eq_2)) (And.intro (@allOk.eq_1) (@allOk.eq_2))))) (And.intro (And.intro (And.intro (And.intro (@RVar.val.eq_1) (@RVar.val.eq_2)) (And.intro (@RVar.ok.eq_1) (@RVar.ok.eq_2))) (And.intro (And.intro (@retV.eq_1) (@retV.eq_2)) (And.intro (@PV.seen.eq_1) (@PV.seen.eq_2)))) (And.intro (And.intro (And.intro (@PV.seen.eq_3) (@PV.seen.eq_4)) (And.intro (@PV.seen.eq_5) (@PV.seen.eq_6))) (And.intro (And.intro (@PV.seen.eq_7) (@PV.seen.eq_8)) (And.intro (@PV.seen.eq_9) (@PV.seen.eq_10))))))) (And.intro (And.intro (And.intro (And.intro (And.intro (And.intro (@PV.view.eq_1) (@PV.view.eq_2)) (And.intro (@PV.view.eq_3) (@PV.view.eq_4))) (And.intro (And.intro (@PV.view.eq_5) (@PV.view.eq_6)) (And.intro (@PV.view.eq_7) (@PV.view.eq_8)))) (And.intro (And.intro (And.intro (@PV.view.eq_9) (@PV.flat.eq_1)) (And.intro (@PV.flat.eq_2) (@PV.flat.eq_3))) (And.intro (And.intro (@PV.flat.eq_4) (@PV.flat.eq_5)) (And.intro (@PV.flat.eq_6) (@PV.flat.eq_7))))) (And.intro (And.intro (And.intro (And.intro (@PV.flat.eq_8) (@PV.flat.eq_9)) (And.intro (@PV.flat.eq_10) (@PV.noOwn.eq_1))) (And.intro (And.intro (@PV.noOwn.eq_2) (@PV.noOwn.eq_3)) (And.intro (@PV.noOwn.eq_4) (@PV.noOwn.eq_5)))) (And.intro (And.intro (And.intro (@PV.noOwn.eq_6) (@PV.noOwn.eq_7)) (And.intro (@PV.noOwn.eq_8) (@PV.noOwn.eq_9))) (And.intro (And.intro (@PV.noOwn.eq_10) (@behind.eq_1)) (And.intro (@behind.eq_2) (@behind.eq_3)))))) (And.intro (And.intro (And.intro (And.intro (And.intro (@behind.eq_4) (@PV.kill.eq_1)) (And.intro (@PV.kill.eq_2) (@PV.kill.eq_3))) (And.intro (And.intro (@PV.kill.eq_4) (@PV.kill.eq_5)) (And.intro (@PV.kill.eq_6) (@PV.kill.eq_7)))) (And.intro (And.intro (And.intro (@PV.kill.eq_8) (@PV.kill.eq_9)) (And.intro (@MObj.kill.eq_1) (@MObj.kill.eq_2))) (And.intro (And.intro (@MObj.kill.eq_3) (@killTag.eq_1)) (And.intro (@nilB.eq_1) (@nilB.eq_2))))) (And.intro (And.intro (And.intro (And.intro (@nilB.eq_3) (@nilB.eq_4)) (And.intro (@nilB.eq_5) (@nilB.eq_6))) (And.intro (And.intro (@nilB.eq_7) (@nilB.eq_8)) (And.intro (@nilB.eq_9) (@nilB.eq_10)))) (And.intro (And.intro (And.intro (@nilB.eq_11) (@nilB.eq_12)) (And.intro (@nilB.eq_13) (@scopeQ_normal))) (And.intro (And.intro (@scopeQ_ret) (@scopeQ_exit)) (And.intro (@Bool.not_false) (@Bool.not_true))))))))) :=
  (And.intro (And.intro (And.intro (And.intro (And.intro (And.intro (And.intro (And.intro (@gArgs.eq_1) (@gArgs.eq_2)) (And.intro (@gOk.eq_1) (@gOk.eq_2))) (And.intro (And.intro (@PV.shift.eq_1) (@PV.shift.eq_2)) (And.intro (@PV.shift.eq_3) (@PV.shift.eq_4)))) (And.intro (And.intro (And.intro (@PV.shift.eq_5) (@PV.shift.eq_6)) (And.intro (@PV.shift.eq_7) (@PV.shift.eq_8))) (And.intro (And.intro (@PV.shift.eq_9) (@MObj.shift.eq_1)) (And.intro (@MObj.shift.eq_2) (@MObj.shift.eq_3))))) (And.intro (And.intro (And.intro (And.intro (@rdV.eq_1) (@rdV.eq_2)) (And.intro (@rdV.eq_3) (@rdV.eq_4))) (And.intro (And.intro (@rdV.eq_5) (@rdV.eq_6)) (And.intro (@rdV.eq_7) (@rdV.eq_8)))) (And.intro (And.intro (And.intro (@rdV.eq_9) (@rdV.eq_10)) (And.intro (@rdV.eq_11) (@rdV.eq_12))) (And.intro (And.intro (@rdV.eq_13) (@rdV.eq_14)) (And.intro (@rdV.eq_15) (@rdV.eq_16)))))) (And.intro (And.intro (And.intro (And.intro (And.intro (@rdV.eq_17) (@rdV.eq_18)) (And.intro (@rdV.eq_19) (@rdV.eq_20))) (And.intro (And.intro (@rdV.eq_21) (@rdV.eq_22)) (And.intro (@rdV.eq_23) (@rdV.eq_24)))) (And.intro (And.intro (And.intro (@rdV.eq_25) (@rdV.eq_26)) (And.intro (@rdV.eq_27) (@rdV.eq_28))) (And.intro (And.intro (@rdV.eq_29) (@rdV.eq_30)) (And.intro (@rdV.eq_31) (@rdV.eq_32))))) (And.intro (And.intro (And.intro (And.intro (@rdV.eq_33) (@rdV.eq_34)) (And.intro (@rdV.eq_35) (@rdV.eq_36))) (And.intro (And.intro (@rdV.eq_37) (@rdV.eq_38)) (And.intro (@rdV.eq_39) (@rdV.eq_40)))) (And.intro (And.intro (And.intro (@rdV.eq_41) (@rdV.eq_42)) (And.intro (@rdV.eq_43) (@rdV.eq_44))) (And.intro (And.intro (@rdV.eq_45) (@rdV.eq_46)) (And.intro (@rdV.eq_47) (@rdV.eq_48))))))) (And.intro (And.intro (And.intro (And.intro (And.intro (And.intro (@rdV.eq_49) (@rdV.eq_50)) (And.intro (@rdD.eq_1) (@rdD.eq_2))) (And.intro (And.intro (@rdD.eq_3) (@rdD.eq_4)) (And.intro (@rdD.eq_5) (@rdD.eq_6)))) (And.intro (And.intro (And.intro (@rdD.eq_7) (@rdD.eq_8)) (And.intro (@rdD.eq_9) (@rdD.eq_10))) (And.intro (And.intro (@rdD.eq_11) (@rdD.eq_12)) (And.intro (@rdD.eq_13) (@rdD.eq_14))))) (And.intro (And.intro (And.intro (And.intro (@rdD.eq_15) (@rdD.eq_16)) (And.intro (@rdD.eq_17) (@rdD.eq_18))) (And.intro (And.intro (@rdD.eq_19) (@rdD.eq_20)) (And.intro (@rdD.eq_21) (@rdD.eq_22)))) (And.intro (And.intro (And.intro (@rdD.eq_23) (@rdD.eq_24)) (And.intro (@rdD.eq_25) (@rdD.eq_26))) (And.intro (And.intro (@rdD.eq_27) (@rdD.eq_28)) (And.intro (@rdD.eq_29) (@rdD.eq_30)))))) (And.intro (And.intro (And.intro (And.intro (And.intro (@rdD.eq_31) (@rdD.eq_32)) (And.intro (@rdD.eq_33) (@rdD.eq_34))) (And.intro (And.intro (@rdD.eq_35) (@rdD.eq_36)) (And.intro (@rdD.eq_37) (@rdD.eq_38)))) (And.intro (And.intro (And.intro (@rdD.eq_39) (@rdD.eq_40)) (And.intro (@rdD.eq_41) (@rdD.eq_42))) (And.intro (And.intro (@rdD.eq_43) (@rdD.eq_44)) (And.intro (@rdD.eq_45) (@rdD.eq_46))))) (And.intro (And.intro (And.intro (And.intro (@rdD.eq_47) (@rdD.eq_48)) (And.intro (@rdD.eq_49) (@rdD.eq_50))) (And.intro (And.intro (@rdD.eq_51) (@rdD.eq_52)) (And.intro (@rdD.eq_53) (@PV.bin.eq_1)))) (And.intro (And.intro (And.intro (@PV.bin.eq_2) (@PV.bin.eq_3)) (And.intro (@PV.bin.eq_4) (@PV.bin.eq_5))) (And.intro (And.intro (@PV.binOk.eq_1) (@PV.binOk.eq_2)) (And.intro (@PV.binOk.eq_3) (@PV.binOk.eq_4)))))))) (And.intro (And.intro (And.intro (And.intro (And.intro (And.intro (And.intro (@PV.binOk.eq_5) (@PV.binOk.eq_6)) (And.intro (@PV.binOk.eq_7) (@PV.binOk.eq_8))) (And.intro (And.intro (@PV.binOk.eq_9) (@PV.binOk.eq_10)) (And.intro (@PV.binOk.eq_11) (@PV.binOk.eq_12)))) (And.intro (And.intro (And.intro (@PV.binOk.eq_13) (@PV.binOk.eq_14)) (And.intro (@binI.eq_1) (@binI.eq_2))) (And.intro (And.intro (@binI.eq_3) (@binI.eq_4)) (And.intro (@binI.eq_5) (@binI.eq_6))))) (And.intro (And.intro (And.intro (And.intro (@binI.eq_7) (@binI.eq_8)) (And.intro (@binI.eq_9) (@binI.eq_10))) (And.intro (And.intro (@binI.eq_11) (@binI.eq_12)) (And.intro (@binI.eq_13) (@binI.eq_14)))) (And.intro (And.intro (And.intro (@binI.eq_15) (@binI.eq_16)) (And.intro (@binS.eq_1) (@binS.eq_2))) (And.intro (And.intro (@binS.eq_3) (@binS.eq_4)) (And.intro (@binS.eq_5) (@binS.eq_6)))))) (And.intro (And.intro (And.intro (And.intro (And.intro (@binS.eq_7) (@binS.eq_8)) (And.intro (@PV.withInt.eq_1) (@PV.withInt.eq_2))) (And.intro (And.intro (@PV.withIntP.eq_1) (@PV.withIntP.eq_2)) (And.intro (@okAll.eq_1) (@okAll.eq_2)))) (And.intro (And.intro (And.intro (@PV.under.eq_1) (@PV.under.eq_2)) (And.intro (@PV.okUnder.eq_1) (@PV.okUnder.eq_2))) (And.intro (And.intro (@deadOk.eq_1) (@deadOk.eq_2)) (And.intro (@allOk.eq_1) (@allOk.eq_2))))) (And.intro (And.intro (And.intro (And.intro (@RVar.val.eq_1) (@RVar.val.eq_2)) (And.intro (@RVar.ok.eq_1) (@RVar.ok.eq_2))) (And.intro (And.intro (@retV.eq_1) (@retV.eq_2)) (And.intro (@PV.seen.eq_1) (@PV.seen.eq_2)))) (And.intro (And.intro (And.intro (@PV.seen.eq_3) (@PV.seen.eq_4)) (And.intro (@PV.seen.eq_5) (@PV.seen.eq_6))) (And.intro (And.intro (@PV.seen.eq_7) (@PV.seen.eq_8)) (And.intro (@PV.seen.eq_9) (@PV.seen.eq_10))))))) (And.intro (And.intro (And.intro (And.intro (And.intro (And.intro (@PV.view.eq_1) (@PV.view.eq_2)) (And.intro (@PV.view.eq_3) (@PV.view.eq_4))) (And.intro (And.intro (@PV.view.eq_5) (@PV.view.eq_6)) (And.intro (@PV.view.eq_7) (@PV.view.eq_8)))) (And.intro (And.intro (And.intro (@PV.view.eq_9) (@PV.flat.eq_1)) (And.intro (@PV.flat.eq_2) (@PV.flat.eq_3))) (And.intro (And.intro (@PV.flat.eq_4) (@PV.flat.eq_5)) (And.intro (@PV.flat.eq_6) (@PV.flat.eq_7))))) (And.intro (And.intro (And.intro (And.intro (@PV.flat.eq_8) (@PV.flat.eq_9)) (And.intro (@PV.flat.eq_10) (@PV.noOwn.eq_1))) (And.intro (And.intro (@PV.noOwn.eq_2) (@PV.noOwn.eq_3)) (And.intro (@PV.noOwn.eq_4) (@PV.noOwn.eq_5)))) (And.intro (And.intro (And.intro (@PV.noOwn.eq_6) (@PV.noOwn.eq_7)) (And.intro (@PV.noOwn.eq_8) (@PV.noOwn.eq_9))) (And.intro (And.intro (@PV.noOwn.eq_10) (@behind.eq_1)) (And.intro (@behind.eq_2) (@behind.eq_3)))))) (And.intro (And.intro (And.intro (And.intro (And.intro (@behind.eq_4) (@PV.kill.eq_1)) (And.intro (@PV.kill.eq_2) (@PV.kill.eq_3))) (And.intro (And.intro (@PV.kill.eq_4) (@PV.kill.eq_5)) (And.intro (@PV.kill.eq_6) (@PV.kill.eq_7)))) (And.intro (And.intro (And.intro (@PV.kill.eq_8) (@PV.kill.eq_9)) (And.intro (@MObj.kill.eq_1) (@MObj.kill.eq_2))) (And.intro (And.intro (@MObj.kill.eq_3) (@killTag.eq_1)) (And.intro (@nilB.eq_1) (@nilB.eq_2))))) (And.intro (And.intro (And.intro (And.intro (@nilB.eq_3) (@nilB.eq_4)) (And.intro (@nilB.eq_5) (@nilB.eq_6))) (And.intro (And.intro (@nilB.eq_7) (@nilB.eq_8)) (And.intro (@nilB.eq_9) (@nilB.eq_10)))) (And.intro (And.intro (And.intro (@nilB.eq_11) (@nilB.eq_12)) (And.intro (@nilB.eq_13) (@scopeQ_normal))) (And.intro (And.intro (@scopeQ_ret) (@scopeQ_exit)) (And.intro (@Bool.not_false) (@Bool.not_true)))))))))
theorem RR : type_of% (And.intro (And.intro (And.intro (@toNat_add2) (And.intro (@toNat_add1) (@Int.toNat_natCast))) (And.intro (@Bool.false_and) (And.intro (@Bool.true_and) (@true_implies)))) (And.intro (And.intro (@true_and) (And.intro (@Bool.false_eq_true) (@false_implies))) (And.intro (And.intro (@Bool.not_false) (@Bool.not_true)) (And.intro (@Bool.true_or) (@Bool.false_or))))) :=
  (And.intro (And.intro (And.intro (@toNat_add2) (And.intro (@toNat_add1) (@Int.toNat_natCast))) (And.intro (@Bool.false_and) (And.intro (@Bool.true_and) (@true_implies)))) (And.intro (And.intro (@true_and) (And.intro (@Bool.false_eq_true) (@false_implies))) (And.intro (And.intro (@Bool.not_false) (@Bool.not_true)) (And.intro (@Bool.true_or) (@Bool.false_or)))))
end PG

namespace PG
open Go
set_option linter.unusedSimpArgs false
section
variable {μ : Mem} {J : PV → Option Nat → Mem → Prop}
end
end PG

namespace PG
open Go
set_option linter.unusedSimpArgs false
set_option linter.unusedVariables false
theorem Rep.re {w w' : World} {ex ex' : Nat → Prop} {κ κ' : Kap} {dead : Nat → Bool} (hA : Agree w ex w' ex') (hT : ∀ t c, κ t = some c → dead t ≠ true → κ' t = some c) (hSh : ∀ b s, w.shape? b = some s → w'.shape? b = some s) {v : Value} {p : PV} (h : Rep w ex κ v p) : Rep w' ex' κ' v (p.kill dead) := by
  induction h with
  | junk v => simp only [PV.kill]; exact .junk v
  | closed h => exact .closed (h.mono hA).kill
  | ref t off b h =>
    simp only [PV.kill]; split
    · exact .junk _
    · rename_i hh; exact .ref t off b (hT _ _ h hh)
  | eptr t n i off b h =>
    simp only [PV.kill]; split
    · exact .junk _
    · rename_i hh; exact .eptr t n i off b (hT _ _ h hh)
  | sl sh t len b cap h hs hl hm =>
    simp only [PV.kill]; split
    · exact .junk _
    · rename_i hh; obtain ⟨E, hE⟩ := hs; exact .sl sh t len b cap (hT _ _ h hh) ⟨E, hSh _ _ hE⟩ hl hm
  | slnil sh t h =>
    simp only [PV.kill]; split
    · exact .junk _
    · rename_i hh; exact .slnil sh t (hT _ _ h hh)
  | mref t b h =>
    simp only [PV.kill]; split
    · exact .junk _
    · rename_i hh; exact .mref t b (hT _ _ h hh)
  | agg vs ps hs hr ih =>
    simp only [PV.kill]
    refine .agg vs _ (by simpa using hs) (fun i v p a b => ?_)
    rw [List.getElem?_map] at b
    cases hp : ps[i]? with
    | none => simp [hp] at b
    | some q => simp [hp] at b; subst b; exact ih i v q a hp
  | tup vs ps hs hr ih =>
    simp only [PV.kill]
    refine .tup vs _ (by simpa using hs) (fun i v p a b => ?_)
    rw [List.getElem?_map] at b
    cases hp : ps[i]? with
    | none => simp [hp] at b
    | some q => simp [hp] at b; subst b; exact ih i v q a hp
  | fn f first caps ps qs h1 h2 h3 h4 ih3 ih4 =>
    simp only [PV.kill]
    refine .fn f first caps _ _ (by simpa using h1) (by simpa using h2) (fun i v p a b => ?_) (fun i v p a b => ?_)
    · rw [List.getElem?_map] at b
      cases hp : ps[i]? with
      | none => simp [hp] at b
      | some q => simp [hp] at b; subst b; exact ih3 i v q a hp
    · rw [List.getElem?_map] at b
      cases hp : qs[i]? with
      | none => simp [hp] at b
      | some q => simp [hp] at b; subst b; exact ih4 i v q a hp
  | cond b h hu ih => simp only [PV.kill]; exact .cond b (fun hb => ih hb) hu


theorem Rep.re0 {w w' : World} {ex ex' : Nat → Prop} {κ κ' : Kap} (hA : Agree w ex w' ex') (hT : ∀ t c, κ t = some c → True → κ' t = some c) (hSh : ∀ b s, w.shape? b = some s → w'.shape? b = some s) {v : Value} {p : PV} (h : Rep w ex κ v p) : Rep w' ex' κ' v p := by
  induction h with
  | junk v => exact .junk v
  | closed h => exact .closed (h.mono hA)
  | ref t off b h => exact .ref t off b (hT _ _ h trivial)
  | eptr t n i off b h => exact .eptr t n i off b (hT _ _ h trivial)
  | sl sh t len b cap h hs hl hm => obtain ⟨E, hE⟩ := hs; exact .sl sh t len b cap (hT _ _ h trivial) ⟨E, hSh _ _ hE⟩ hl hm
  | slnil sh t h => exact .slnil sh t (hT _ _ h trivial)
  | mref t b h => exact .mref t b (hT _ _ h trivial)
  | agg vs ps hs hr ih => exact .agg vs _ hs ih
  | tup vs ps hs hr ih => exact .tup vs _ hs ih
  | fn f first caps ps qs h1 h2 h3 h4 ih3 ih4 => exact .fn f first caps _ _ h1 h2 ih3 ih4
  | cond b h hu ih => exact .cond b (fun hb => ih hb) hu


theorem ORep.re {w w' : World} {ex ex' : Nat → Prop} {κ κ' : Kap} {dead : Nat → Bool} {c : Option Nat} {o : MObj} (hA : Agree w ex w' ex') (hT : ∀ t c, κ t = some c → dead t ≠ true → κ' t = some c) (hSh : ∀ b s, w.shape? b = some s → w'.shape? b = some s) (hb : ∀ b, c = some b → w'.heap[b]? = w.heap[b]?) (h : ORep w ex κ c o) : ORep w' ex' κ' c (o.kill dead) := by
  cases h with
  | var b arr E sh x h hs hsh hr =>
    refine .var b arr E sh _ (by rw [hb b rfl]; exact h) hs (shaped_kill hsh) (fun j p v hp hv => ?_)
    rw [cells_kill hsh, List.getElem?_map] at hp
    cases hq : x.cells[j]? with
    | none => simp [hq] at hp
    | some q => simp [hq] at hp; subst hp; exact (hr j q v hq hv).re hA hT hSh
  | nilrow sh => exact .nilrow sh
  | row b cur E cap sh xs h hs hm hl hfit hr => exact .row b cur E cap sh xs (by rw [hb b rfl]; exact h) hs hm hl hfit (fun j p v hp hv => (hr j p v hp hv).mono hA)
  | iter b kd es seen m h hm => exact .iter b kd es seen m (by rw [hb b rfl]; exact h) (hm.imp id fun ⟨r, h1, h2⟩ => ⟨r, h1, h2.mono hA⟩)
  | mp b kd es ents clock h hs hB hkd hk hv => exact .mp b kd es ents clock (by rw [hb b rfl]; exact h) hs hB hkd (fun i e q a d => (hk i e q a d).mono hA) (fun i e q a d => (hv i e q a d).mono hA)
  | mpg b kd es ents clock h hs hkd hk hv => exact .mpg b kd es ents clock (by rw [hb b rfl]; exact h) hs hkd (fun i e q a d => (hk i e q a d).mono hA) (fun i e q a d => (hv i e q a d).mono hA)
  | mpo b kd es ents clock h hs hB hkd hk hv =>
    refine .mpo b kd _ ents clock (by rw [hb b rfl]; exact h) (by simpa using hs) hB (fun q hq => ?_) (fun i e q a d => ?_) (fun i e q a d => ?_)
    · obtain ⟨q0, h0, rfl⟩ := List.mem_map.1 hq; exact hkd q0 h0
    · obtain ⟨q0, h0, rfl⟩ := vals_get (f := PV.kill dead) d; exact (hk i e q0 a h0).mono hA
    · obtain ⟨q0, h0, rfl⟩ := vals_get (f := PV.kill dead) d; exact (hv i e q0 a h0).re hA hT hSh

theorem ORep.re0 {w w' : World} {ex ex' : Nat → Prop} {κ κ' : Kap} {c : Option Nat} {o : MObj} (hA : Agree w ex w' ex') (hT : ∀ t c, κ t = some c → True → κ' t = some c) (hSh : ∀ b s, w.shape? b = some s → w'.shape? b = some s) (hb : ∀ b, c = some b → w'.heap[b]? = w.heap[b]?) (h : ORep w ex κ c o) : ORep w' ex' κ' c o := by
  cases h with
  | var b arr E sh x h hs hsh hr => exact .var b arr E sh x (by rw [hb b rfl]; exact h) hs hsh (fun j p v hp hv => (hr j p v hp hv).re0 hA hT hSh)
  | nilrow sh => exact .nilrow sh
  | row b cur E cap sh xs h hs hm hl hfit hr => exact .row b cur E cap sh xs (by rw [hb b rfl]; exact h) hs hm hl hfit (fun j p v hp hv => (hr j p v hp hv).mono hA)
  | iter b kd es seen m h hm => exact .iter b kd es seen m (by rw [hb b rfl]; exact h) (hm.imp id fun ⟨r, h1, h2⟩ => ⟨r, h1, h2.mono hA⟩)
  | mp b kd es ents clock h hs hB hkd hk hv => exact .mp b kd es ents clock (by rw [hb b rfl]; exact h) hs hB hkd (fun i e q a d => (hk i e q a d).mono hA) (fun i e q a d => (hv i e q a d).mono hA)
  | mpg b kd es ents clock h hs hkd hk hv => exact .mpg b kd es ents clock (by rw [hb b rfl]; exact h) hs hkd (fun i e q a d => (hk i e q a d).mono hA) (fun i e q a d => (hv i e q a d).mono hA)
  | mpo b kd es ents clock h hs hB hkd hk hv => exact .mpo b kd es ents clock (by rw [hb b rfl]; exact h) hs hB hkd (fun i e q a d => (hk i e q a d).mono hA) (fun i e q a d => (hv i e q a d).re0 hA hT hSh)


section
variable {P : Program} {G : Globs}
/-- The head of a memory alone: what stands behind it is no one's. -/
def Kap.head (κ : Kap) (n : Nat) : Kap := ⟨fun t => if t < n then κ t else none, fun b => κ.ex b ∨ ∃ t, n ≤ t ∧ κ t = some (some b)⟩
/-- The head as it is now, and the rest as it was. -/
def Kap.join (κ1 κ : Kap) (n : Nat) : Kap := ⟨fun t => if t < n then κ1 t else κ t, κ.ex⟩
theorem own_head (κ : Kap) (n : Nat) : own (κ.head n) = own κ := by
  funext b
  apply propext
  constructor
  · rintro ((h | ⟨t, -, h⟩) | ⟨t, h⟩)
    · exact .inl h
    · exact .inr ⟨t, h⟩
    · simp only [Kap.head] at h
      split at h
      · exact .inr ⟨t, h⟩
      · cases h
  · rintro (h | ⟨t, h⟩)
    · exact .inl (.inl h)
    · rcases Nat.lt_or_ge t n with k | k
      · exact .inr ⟨t, by simp only [Kap.head, if_pos k]; exact h⟩
      · exact .inl (.inr ⟨t, k, h⟩)
theorem PCalls.frame {f : Nat} {as : List PV} {μ : Mem} {mv : Nat → Bool} {R : PV → Mem → Prop} (h : PCalls P G f as μ mv R) (ν : Mem)
    (hR : ∀ p μ', R p μ' → μ'.length = μ.length) (ha : as.map (PV.kill fun t => decide (μ.length ≤ t)) = as) (hm : μ.map (Option.map (MObj.kill fun t => decide (μ.length ≤ t))) = μ)
    (hν : ν.map (Option.map (MObj.kill mv)) = ν) :
    PCalls P G f as (μ ++ ν) mv (fun p μ' => ∃ μ1, R p μ1 ∧ μ' = μ1 ++ ν) := by
  intro w κ vs hS hG hr
  generalize hn : μ.length = n at hR ha hm
  have hlt : ∀ {t : Nat}, t < n → (μ ++ ν)[t]? = μ[t]? := fun h => List.getElem?_append_left (by omega)
  have hge : ∀ {μ1 : Mem} {t : Nat}, μ1.length = n → n ≤ t → (μ1 ++ ν)[t]? = ν[t - n]? := fun h1 h => by rw [List.getElem?_append_right (by omega), h1]
  have hgem : ∀ {o : MObj} {i : Nat}, ν[i]? = some (some o) → o.kill mv = o := fun {o i} ho => by
    have := congrArg (fun l => l[i]?) hν
    simp only [List.getElem?_map, ho, Option.map_some] at this
    exact Option.some.inj (Option.some.inj this)
  have hltm : ∀ {o : MObj} {i : Nat}, μ[i]? = some (some o) → o.kill (fun t => decide (n ≤ t)) = o := fun {o i} ho => by
    have := congrArg (fun l => l[i]?) hm
    simp only [List.getElem?_map, ho, Option.map_some] at this
    exact Option.some.inj (Option.some.inj this)
  have hA0 : Agree w (own κ) w (own (κ.head n)) := by rw [own_head]; exact Agree.refl _ _
  have hT0 : ∀ t c, κ t = some c → decide (n ≤ t) ≠ true → (κ.head n) t = some c := fun t c hc ht => by
    have : t < n := by simp only [ne_eq, decide_eq_true_eq] at ht; omega
    simp only [Kap.head, if_pos this]; exact hc
  have hH : ∀ {t c}, (κ.head n) t = some c → t < n ∧ κ t = some c := fun {t c} hc => by
    simp only [Kap.head] at hc
    split at hc
    · exact ⟨by assumption, hc⟩
    · cases hc
  have hS1 : Sim w (κ.head n) μ := by
    refine ⟨fun t t' b h1 h2 => hS.inj t t' b (hH h1).2 (hH h2).2, fun t b h1 => hS.lt t b (hH h1).2, fun t c hc => ?_, fun t o ho => ?_, fun b hb => ?_, fun t b hb hx => ?_⟩
    · obtain ⟨o, h1, h2⟩ := hS.live t c (hH hc).2
      rw [hlt (hH hc).1] at h1
      refine ⟨o, h1, ?_⟩
      rw [← hltm h1]
      exact h2.re hA0 hT0 (fun _ _ h => h) (fun _ _ => rfl)
    · have ht : t < n := by rw [← hn]; exact (List.getElem?_eq_some_iff.1 ho).1
      simp only [Kap.head, if_pos ht]
      exact hS.dead t o (by rw [hlt ht]; exact ho)
    · rcases hb with hb | ⟨t, -, hb⟩
      · exact hS.exlt b hb
      · exact hS.lt t b hb
    · rcases hx with hx | ⟨t', ht', hx⟩
      · exact hS.exout t b (hH hb).2 hx
      · have := hS.inj t t' b (hH hb).2 hx; have := (hH hb).1; omega
  have hr1 : Reps w (κ.head n) vs as := by
    refine ⟨hr.1, fun i v p hv hp => ?_⟩
    have hk : p.kill (fun t => decide (n ≤ t)) = p := by
      have := congrArg (fun l => l[i]?) ha
      simp only [List.getElem?_map, hp, Option.map_some] at this
      exact Option.some.inj this
    rw [← hk]
    exact (hr.2 i v p hv hp).re hA0 hT0 (fun _ _ h => h)
  refine (h w (κ.head n) vs hS1 (by rw [own_head]; exact hG) hr1).mono ?_
  rintro e w' ⟨v, p, μ1, κ1, rfl, hRp, hS', hv, hg⟩
  have hl1 := hR p μ1 hRp
  have h1lt : ∀ {t c}, κ1 t = some c → t < n := fun {t c} hc => by
    obtain ⟨o, h1, -⟩ := hS'.live t c hc
    rw [← hl1]; exact (List.getElem?_eq_some_iff.1 h1).1
  have hJ : ∀ {t c}, (κ1.join κ n) t = some c → (t < n ∧ κ1 t = some c) ∨ (n ≤ t ∧ κ t = some c) := fun {t c} hc => by
    simp only [Kap.join] at hc
    split at hc
    · exact .inl ⟨by assumption, hc⟩
    · exact .inr ⟨by omega, hc⟩
  have hJ1 : ∀ {t c}, κ1 t = some c → (κ1.join κ n) t = some c := fun {t c} hc => by simp only [Kap.join, if_pos (h1lt hc)]; exact hc
  have hJ2 : ∀ {t c}, n ≤ t → κ t = some c → (κ1.join κ n) t = some c := fun {t c} ht hc => by simp only [Kap.join, if_neg (by omega : ¬ t < n)]; exact hc
  have hex : κ1.ex = (κ.head n).ex := hg.ex
  have hown : own (κ1.join κ n) = own κ1 := by
    funext b
    apply propext
    constructor
    · rintro (h | ⟨t, h⟩)
      · exact .inl (by rw [hex]; exact .inl h)
      · rcases hJ h with ⟨h1, h2⟩ | ⟨h1, h2⟩
        · exact .inr ⟨t, h2⟩
        · exact .inl (by rw [hex]; exact .inr ⟨t, h1, h2⟩)
    · rintro (h | ⟨t, h⟩)
      · rw [hex] at h
        rcases h with h | ⟨t, h1, h2⟩
        · exact .inl h
        · exact .inr ⟨t, hJ2 h1 h2⟩
      · exact .inr ⟨t, hJ1 h⟩
  have hA1 : Agree w' (own κ1) w' (own (κ1.join κ n)) := by rw [hown]; exact Agree.refl _ _
  have hA2 : Agree w (own κ) w' (own (κ1.join κ n)) := by
    have := hg.agree
    rw [own_head] at this
    rw [hown]; exact this
  have hT2 : ∀ t c, κ t = some c → mv t ≠ true → (κ1.join κ n) t = some c := fun t c hc hm => by
    rcases Nat.lt_or_ge t n with k | k
    · exact hJ1 (hg.tags t c (hT0 t c hc (by simp; omega)) hm)
    · exact hJ2 k hc
  refine ⟨v, p, μ1 ++ ν, κ1.join κ n, rfl, ⟨μ1, hRp, rfl⟩, ⟨fun t t' b h1 h2 => ?_, fun t b h1 => ?_, fun t c hc => ?_, fun t o ho => ?_, fun b hb => ?_, fun t b hb hx => ?_⟩, ?_, ⟨hg.os, hg.tape, hg.output, hg.size, rfl, fun b hb ht => ?_, fun b hb ht hk => ?_, hg.shape, hT2⟩⟩
  · rcases hJ h1 with ⟨a1, a2⟩ | ⟨a1, a2⟩ <;> rcases hJ h2 with ⟨b1, b2⟩ | ⟨b1, b2⟩
    · exact hS'.inj t t' b a2 b2
    · exact absurd (show κ1.ex b by rw [hex]; exact .inr ⟨t', b1, b2⟩) (hS'.exout t b a2)
    · exact absurd (show κ1.ex b by rw [hex]; exact .inr ⟨t, a1, a2⟩) (hS'.exout t' b b2)
    · exact hS.inj t t' b a2 b2
  · rcases hJ h1 with ⟨a1, a2⟩ | ⟨a1, a2⟩
    · exact hS'.lt t b a2
    · exact Nat.lt_of_lt_of_le (hS.lt t b a2) hg.size
  · rcases hJ hc with ⟨a1, a2⟩ | ⟨a1, a2⟩
    · obtain ⟨o, h1, h2⟩ := hS'.live t c a2
      refine ⟨o, by rw [List.getElem?_append_left (by omega)]; exact h1, ?_⟩
      exact h2.re0 hA1 (fun _ _ h _ => hJ1 h) (fun _ _ h => h) (fun _ _ => rfl)
    · obtain ⟨o, h1, h2⟩ := hS.live t c a2
      rw [hge hn a1] at h1
      refine ⟨o, by rw [hge hl1 a1]; exact h1, ?_⟩
      rw [← hgem h1]
      refine h2.re hA2 hT2 hg.shape (fun b hb => ?_)
      subst hb
      refine hg.block b (hS.lt t b a2) ?_
      rintro ⟨t', h'⟩
      have := hS.inj t t' b a2 (hH h').2; have := (hH h').1; omega
  · rcases Nat.lt_or_ge t n with k | k
    · rw [List.getElem?_append_left (by omega)] at ho
      simp only [Kap.join, if_pos k]
      exact hS'.dead t o ho
    · rw [hge hl1 k] at ho
      simp only [Kap.join, if_neg (by omega : ¬ t < n)]
      exact hS.dead t o (by rw [hge hn k]; exact ho)
  · exact Nat.lt_of_lt_of_le (hS.exlt b hb) hg.size
  · rcases hJ hb with ⟨a1, a2⟩ | ⟨a1, a2⟩
    · exact hS'.exout t b a2 (by rw [hex]; exact .inl hx)
    · exact hS.exout t b a2 hx
  · exact hv.re0 hA1 (fun _ _ h _ => hJ1 h) (fun _ _ h => h)
  · refine hg.block b hb ?_
    rintro ⟨t, h⟩
    exact ht ⟨t, (hH h).2⟩
  · obtain ⟨t, hk⟩ := hk
    rcases hJ hk with ⟨a1, a2⟩ | ⟨a1, a2⟩
    · refine hg.out b hb ?_ ⟨t, a2⟩
      rintro ⟨t', h⟩
      exact ht ⟨t', (hH h).2⟩
    · exact ht ⟨t, a2⟩
end
end PG

namespace PG
open Go
set_option linter.unusedSimpArgs false
set_option linter.unusedVariables false
set_option maxRecDepth 100000
theorem SA : type_of% (And.intro SS (And.intro SS2 (And.intro SS3 (And.intro SS4 (And.intro SS5 (And.intro (@Option.map_some.{0, 0}) (And.intro (@eq_self.{1}) (And.intro (@implies_true.{0}) (And.intro (@ne_eq.{1}) (And.intro (@beq_self_eq_true.{0}) (@id_eq.{1}))))))))))) :=
  (And.intro SS (And.intro SS2 (And.intro SS3 (And.intro SS4 (And.intro SS5 (And.intro (@Option.map_some.{0, 0}) (And.intro (@eq_self.{1}) (And.intro (@implies_true.{0}) (And.intro (@ne_eq.{1}) (And.intro (@beq_self_eq_true.{0}) (@id_eq.{1})))))))))))
theorem DD : type_of% (And.intro (@decide_eq_true_eq) (@decide_eq_false_iff_not)) := And.intro (@decide_eq_true_eq) (@decide_eq_false_iff_not)
theorem LL : type_of% (And.intro (@List.length_cons.{0}) (And.intro (@List.length_nil.{0}) (And.intro (@List.length_append.{0}) (And.intro (@List.length_map.{0, 0}) Sh.size.eq_1)))) := And.intro (@List.length_cons.{0}) (And.intro (@List.length_nil.{0}) (And.intro (@List.length_append.{0}) (And.intro (@List.length_map.{0, 0}) Sh.size.eq_1)))
/-! Operations, shortly written -/
def oM (d t : Nat) : CO := ⟨some d, none, .rd .mov [.tmp t]⟩
def oN (d t : Nat) : CO := ⟨some d, none, .rd .nilChk [.tmp t]⟩
def oF (o d t : Nat) : CO := ⟨some d, none, .rd (.fldAddr o) [.tmp t]⟩
def oL (d t : Nat) : CO := ⟨some d, none, .rd (.load none) [.tmp t]⟩
def qM (r : Nat) (b : Bool) (d t : Nat) : CO := ⟨some d, some (r, b), .rd .mov [.tmp t]⟩
def qN (r : Nat) (b : Bool) (d t : Nat) : CO := ⟨some d, some (r, b), .rd .nilChk [.tmp t]⟩
def qF (o r : Nat) (b : Bool) (d t : Nat) : CO := ⟨some d, some (r, b), .rd (.fldAddr o) [.tmp t]⟩
def qL (r : Nat) (b : Bool) (d t : Nat) : CO := ⟨some d, some (r, b), .rd (.load none) [.tmp t]⟩
theorem CC : type_of% (And.intro @oM.eq_1 (And.intro @oN.eq_1 (And.intro @oF.eq_1 (And.intro @oL.eq_1 (And.intro @qM.eq_1 (And.intro @qN.eq_1 (And.intro @qF.eq_1 @qL.eq_1))))))) := And.intro @oM.eq_1 (And.intro @oN.eq_1 (And.intro @oF.eq_1 (And.intro @oL.eq_1 (And.intro @qM.eq_1 (And.intro @qN.eq_1 (And.intro @qF.eq_1 @qL.eq_1))))))
end PG

namespace PG
open Go
set_option linter.unusedSimpArgs false
set_option linter.unusedVariables false
set_option maxRecDepth 100000
/-- A goal of arithmetic: told by its form. -/
structure FormA (p : Prop) : Type where
  it : True
theorem ari {p : Prop} [Inhabited (FormA p)] (h : p) : p := h
instance {a b : Nat} : Inhabited (FormA (a ≤ b)) := ⟨⟨trivial⟩⟩
instance {a b : Nat} : Inhabited (FormA (a < b)) := ⟨⟨trivial⟩⟩
instance {a b : Int} : Inhabited (FormA (a ≤ b)) := ⟨⟨trivial⟩⟩
instance {a b : Int} : Inhabited (FormA (a < b)) := ⟨⟨trivial⟩⟩
instance {a b : Nat} : Inhabited (FormA (a = b)) := ⟨⟨trivial⟩⟩
instance {a b : Int} : Inhabited (FormA (a = b)) := ⟨⟨trivial⟩⟩
instance {a b : Bool} : Inhabited (FormA (a = b)) := ⟨⟨trivial⟩⟩
instance {p q : Prop} : Inhabited (FormA (p ∨ q)) := ⟨⟨trivial⟩⟩
instance {p : Prop} : Inhabited (FormA (¬ p)) := ⟨⟨trivial⟩⟩
/-- A step of the code, by its form. -/
structure FormS (p : Prop) : Type where
  it : True
theorem stp {p q : Prop} [h : CoeFun (FormS p) fun _ => q → p] (x : q) : p := h.coe ⟨trivial⟩ x
/-- A step that is simplified behind it. -/
structure FormQ (p : Prop) : Type where
  it : True
theorem stq {p q : Prop} [h : CoeFun (FormQ p) fun _ => q → p] (x : q) : p := h.coe ⟨trivial⟩ x
section
variable {P : Program} {G : Globs} {N : Nat} {mv : Nat → Bool} {env : Env} {μ : Mem} {Q : Post} {K : Env → Mem → Prop}
instance : CoeFun (FormS (PW P G N mv .skip env μ Q)) fun _ => (Q .normal env μ) → (PW P G N mv .skip env μ Q) := ⟨fun _ => PW.skip⟩
instance : CoeFun (FormS (PW P G N mv .ret env μ Q)) fun _ => (Q .ret env μ) → (PW P G N mv .ret env μ Q) := ⟨fun _ => PW.ret⟩
instance {i : Nat} : CoeFun (FormS (PW P G N mv (.exit i) env μ Q)) fun _ => (Q (.exit i) env μ) → (PW P G N mv (.exit i) env μ Q) := ⟨fun _ => PW.exit⟩
instance {i : Nat} {x : PCode} : CoeFun (FormS (PW P G N mv (.block i x) env μ Q)) fun _ => (PW P G N mv x env μ (blockQ i Q)) → (PW P G N mv (.block i x) env μ Q) := ⟨fun _ => PW.block⟩
instance {x : PCode} : CoeFun (FormS (PW P G N mv (.scope x) env μ Q)) fun _ => (PW P G N mv x env μ (scopeQ Q)) → (PW P G N mv (.scope x) env μ Q) := ⟨fun _ => PW.scope⟩
instance : CoeFun (FormS (PW P G N mv .label env μ Q)) fun _ => (Q .normal env μ) → (PW P G N mv .label env μ Q) := ⟨fun _ => PW.label⟩
instance {s : Sched} {L : List Nat} : CoeFun (FormS (PW P G N mv (.regionA s L) env μ Q)) fun _ => (schedW P G mv s env μ fun env' μ' => Q .normal (keepE L env') μ') → (PW P G N mv (.regionA s L) env μ Q) := ⟨fun _ => PW.regionA⟩
instance {cs : List CO} {L : List Nat} : CoeFun (FormQ (PW P G N mv (.region false cs L) env μ Q)) fun _ => (opsW P G false mv cs env μ fun env' μ' => Q .normal (keepE L env') μ') → (PW P G N mv (.region false cs L) env μ Q) := ⟨fun _ => PW.region⟩
instance {cs : List CO} {L : List Nat} : CoeFun (FormQ (PW P G N mv (.region true cs L) env μ Q)) fun _ => (opsW P G true mv cs env μ fun env' μ' => Q .normal (keepE L env') μ') → (PW P G N mv (.region true cs L) env μ Q) := ⟨fun _ => PW.regionQ⟩
instance : CoeFun (FormQ (schedW P G mv .done env μ K)) fun _ => (K env μ) → (schedW P G mv .done env μ K) := ⟨fun _ => schedW_done_i⟩
instance {a b : List PV} : CoeFun (FormQ (a = b)) fun _ => (a = b) → (a = b) := ⟨fun _ => id⟩
instance {a b : Bool} : CoeFun (FormQ (a = b)) fun _ => (a = b) → (a = b) := ⟨fun _ => id⟩
instance {q : Bool} {cs : List CO} : CoeFun (FormQ (opsW P G q mv cs env μ K)) fun _ => (opsW P G q mv cs env μ K) → (opsW P G q mv cs env μ K) := ⟨fun _ => id⟩
instance {as : List PV} : CoeFun (FormQ (okAll as)) fun _ => (okAll as) → (okAll as) := ⟨fun _ => id⟩
instance {a b : Bool} {p : Prop} : CoeFun (FormQ (a = b ∨ p)) fun _ => (a = b ∨ p) → (a = b ∨ p) := ⟨fun _ => id⟩
end
/-! A key is taken out of a map -/
def mdlK (o : Option MObj) (f : KK → List (PV × PV) → Prop) : Prop :=
  match o with
  | some (.mp kd es) => f kd es
  | some (.mpg kd es) => f kd es
  | _ => False
theorem mdlK_mpg (kd : KK) (es : List (PV × PV)) (f : KK → List (PV × PV) → Prop) : mdlK (some (.mpg kd es)) f = f kd es := rfl
theorem effW_mdel {μ : Mem} {J : PV → Option Nat → Mem → Prop} (kd : KK) (t : Nat) (k : PV) : effW μ (.mdel kd) [.mref t, k] J = mdlK (μ.get t) fun kd' es => kd' = kd ∧ keyOk kd k = true ∧ J (.tup []) none (μ.set t (some (.mpg kd (mdel es k)))) := by
  simp only [effW]
  rcases μ.get t with _ | (_ | _ | _ | _ | _ | _) <;> rfl
/-- A map as one from which something may be taken out. -/
theorem PW.toMpg {P : Program} {G : Globs} {N : Nat} {env : Env} {μ : Mem} {mv : Nat → Bool} {Q : Post} {x : PCode} (t : Nat) (kd : KK) (es : List (PV × PV)) (hm : μ.get t = some (.mp kd es)) (h : PW P G N mv x env (μ.set t (some (.mpg kd es))) Q) : PW P G N mv x env μ Q := by
  intro ow L code hc hmix C a w κ hmv hR
  refine h ow L code hc hmix C a w κ hmv ⟨hR.size, hR.defers, hR.regs, hR.sim.swap hm fun c hO => ?_, hR.globs, hR.goes⟩
  cases hO with
  | mp b _ _ ents clock h hs hB hkd hk hv => exact .mpg b kd es ents clock h hs hkd hk hv
theorem TT : type_of% (And.intro @trimE.eq_1 (And.intro @trimM.eq_1 (And.intro (@List.take_succ_cons.{0}) (And.intro (@List.take_zero.{0}) (And.intro (@List.take_nil.{0}) (And.intro (@List.map_cons.{0, 0}) (And.intro (@List.map_nil.{0, 0}) (And.intro (@Option.map_some.{0, 0}) (And.intro (@Option.map_none.{0, 0}) (And.intro @decide_true (And.intro @decide_false (And.intro @dec_true (And.intro @dec_false (And.intro @Bool.false_eq_true (And.intro (@if_false.{1}) (And.intro (@if_true.{1}) (And.intro (@List.zip_cons_cons.{0, 0}) (@List.zip_nil_left.{0, 0})))))))))))))))))) :=
  And.intro @trimE.eq_1 (And.intro @trimM.eq_1 (And.intro (@List.take_succ_cons.{0}) (And.intro (@List.take_zero.{0}) (And.intro (@List.take_nil.{0}) (And.intro (@List.map_cons.{0, 0}) (And.intro (@List.map_nil.{0, 0}) (And.intro (@Option.map_some.{0, 0}) (And.intro (@Option.map_none.{0, 0}) (And.intro @decide_true (And.intro @decide_false (And.intro @dec_true (And.intro @dec_false (And.intro @Bool.false_eq_true (And.intro (@if_false.{1}) (And.intro (@if_true.{1}) (And.intro (@List.zip_cons_cons.{0, 0}) (@List.zip_nil_left.{0, 0})))))))))))))))))
end PG

