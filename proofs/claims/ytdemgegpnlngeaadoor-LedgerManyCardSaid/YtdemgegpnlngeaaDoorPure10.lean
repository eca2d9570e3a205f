/-
  The pure layer: operations that make or write memory.
-/
import Derived.Test.YtdemgegpnlngeaaDoorPure9
import Derived.Maps.RangeRun
import Derived.Carry
import Derived.Laws.IdiomStrings
import Derived.Laws.MakeOwn
import Derived.Laws.BytesArg
namespace PG
open Go
set_option linter.unusedSimpArgs false
set_option linter.unusedVariables false

inductive EK where
  | store (sh : Sh)
  | alloc (sh : Sh) (z : PV)
  | box (sh : Sh)
  | lit (sh : Sh) (own : Bool)
  | make (sh : Sh) (z : PV) (bytes : Nat)
  | append (sh : Sh) (bytes : Nat)
  | s2b
  | b2s
  | mmk (kd : KK)
  | mupd (kd : KK)
  | ment (kd : KK) (z : PV)
  | mst
  | rng (kd : KK)
  | nxt
  | ent
  deriving Inhabited

def u8s (l : List UInt8) : List PV := l.map fun b => .int .u8 b.toNat
def allFit (sh : Sh) : List PV → Prop
  | [] => True
  | p :: ps => fits sh p ∧ allFit sh ps
theorem allFit_iff {sh : Sh} : ∀ {ps : List PV}, allFit sh ps ↔ ∀ p ∈ ps, fits sh p
  | [] => by simp [allFit]
  | p :: ps => by simp [allFit, allFit_iff (ps := ps)]
def areBytes : List PV → Prop
  | [] => True
  | .int .u8 _ :: ps => areBytes ps
  | _ :: _ => False

def midx (es : List (PV × PV)) (k : PV) : Nat :=
  match mfind es k with
  | some x => x.1
  | none => es.length
def enK (es : List (PV × PV)) (i : Nat) : PV := (es.getD i default).1
def enV (es : List (PV × PV)) (i : Nat) : PV := (es.getD i default).2

/-- What an operation needs, and what stands behind it: its value, the tag that moved, the memory. -/
def effW (μ : Mem) (k : EK) (ps : List PV) (K : PV → Option Nat → Mem → Prop) : Prop :=
  match k, ps with
  | .store sh, [.ref t off, v] => match μ.get t, partSh v sh with
    | some (.var sh' x), some cs => (∀ c ∈ cs, c.scalar = true) ∧ ((off = 0 ∧ sh' = sh) ∨ (sh'.isSome = true ∧ off + sh.size ≤ sh'.size)) ∧ K .junk none (μ.set t (some (.var sh' (putPart sh' sh x off v))))
    | _, _ => False
  | .store sh, [.eptr t n i off, v] => match μ.get t, partSh v sh with
    | some (.row sh' xs), some cs => (∀ c ∈ cs, c.scalar = true) ∧ v.noOwn = true ∧ n = sh'.size ∧ i < xs.length ∧ ((off = 0 ∧ sh' = sh) ∨ (sh'.isSome = true ∧ off + sh.size ≤ sh'.size)) ∧
        K .junk none (μ.set t (some (.row sh' (xs.set i (putPart sh' sh (xs.getD i .junk) off v)))))
    | _, _ => False
  | .alloc sh z, [] => K (.ref μ.length 0) none (μ ++ [some (.var sh z)])
  | .box sh, [v] => (partSh v sh).isSome = true ∧ K (.ref μ.length 0) none (μ ++ [some (.var sh v)])
  | .lit sh own, ps => allFit sh ps ∧ (ps.map PV.noOwn).all id = true ∧ ps.length * sh.size ≤ 16777216 ∧ if own = true then K (.sl sh μ.length ps.length) none (μ ++ [some (.row sh ps)]) else K (.list sh ps) none μ
  | .make sh z bytes, [.int _ l, c] => c.withIntP fun c => 0 ≤ l ∧ l ≤ c ∧ (bytes : Int) * c ≤ 281474976710656 ∧ c ≤ 9223372036854775807 ∧ K (.sl sh μ.length l.toNat) none (μ ++ [some (.row sh (List.replicate l.toNat z))])
  | .append sh bytes, [a, b] => match elemsSh μ sh b with
    | some ys => match a with
      | .nilSl => ys.length ≤ maxLen ∧ ys.length * bytes ≤ 140737488355328 ∧ K (.sl sh μ.length ys.length) none (μ ++ [some (.row sh ys)])
      | .sl sh' t n => match μ.get t with
        | some (.row sh'' xs) => sh' = sh ∧ sh'' = sh ∧ n ≤ xs.length ∧ n + ys.length ≤ maxLen ∧ (n + ys.length) * bytes ≤ 140737488355328 ∧
            K (.sl sh t (n + ys.length)) (some t) ((μ.kill (killTag t)).set t (some (.row sh (xs.take n ++ ys))))
        | _ => False
      | .full sh' xs => sh' = sh ∧ xs.length + ys.length ≤ maxLen ∧ (xs.length + ys.length) * bytes ≤ 140737488355328 ∧ 0 < ys.length ∧ K (.sl sh μ.length (xs.length + ys.length)) none (μ ++ [some (.row sh (xs ++ ys))])
      | _ => False
    | none => False
  | .mmk kd, _ => K (.mref μ.length) none (μ ++ [some (.mp kd [])])
  | .mupd kd, [.mref t, k, v] => match μ.get t with
    | some (.mp kd' es) => kd' = kd ∧ keyOk kd k = true ∧ v.noOwn = true ∧ K .junk none (μ.set t (some (.mp kd (mset es k v))))
    | _ => False
  | .ment kd z, [.mref t, k] => match μ.get t with
    | some (.mp kd' es) => kd' = kd ∧ keyOk kd k = true ∧ K (.tup [(mget es k).getD z, .int .i64 (midx es k)]) none (μ.set t (some (.mp kd (mset es k ((mget es k).getD z)))))
    | _ => False
  | .mst, [.mref t, .int _ i, v] => match μ.get t with
    | some (.mp kd es) => 0 ≤ i ∧ i < es.length ∧ v.noOwn = true ∧ K .junk none (μ.set t (some (.mp kd (es.set i.toNat (enK es i.toNat, v)))))
    | _ => False
  | .rng kd, [.nilMap] => K (.ref μ.length 0) none (μ ++ [some (.iter kd [] [])])
  | .rng kd, [.cmap kd' es] => kd' = kd ∧ K (.ref μ.length 0) none (μ ++ [some (.iter kd es [])])
  | .nxt, [.ref t 0] => match μ.get t with
    | some (.iter kd es seen) => (∀ i, i < es.length → i ∉ seen → K (.tup [.bool true, enK es i, enV es i]) none (μ.set t (some (.iter kd es (seen ++ [i]))))) ∧ ((∀ i, i < es.length → i ∈ seen) → K (.tup [.bool false]) none μ)
    | _ => False
  | .ent, [.ref t 0] => match μ.get t with
    | some (.iter _ es seen) => match seen.getLast? with
      | some i => i < es.length ∧ K (.tup [enK es i, enV es i]) none μ
      | none => False
    | _ => False
  | .s2b, [.str l] => l.length ≤ maxLen ∧ K (.list none (u8s l)) none μ
  | .b2s, [p] => match elemsSh μ none p with
    | some ys => areBytes ys ∧ K (.str (ys.map byteOf)) none μ
    | none => False
  | _, _ => False

def zeroOf (P : Program) (t : TypeId) : Option (Sh × PV) :=
  (shOf P t).bind fun sh => (zerosOf P t).bind fun zs => match sh with
    | none => match zs with
      | [z] => some (none, z)
      | _ => none
    | some n => if zs.length = n then some (some n, .agg zs) else none

def rowTy (P : Program) (T : TypeId) : Option (Sh × TypeInfo × Value) :=
  match P.underlying T with
  | some (.slice e) => (shOf P e).bind fun sh => (P.info? e).bind fun i => i.zero.bind fun z => if z.cells.size = i.size ∧ 0 < sh.size then some (sh, i, z) else none
  | _ => none

def compileE (P : Program) (ow : List Nat) (o : Oper) : Option (EK × List Operand) :=
  match o.op with
  | .store t a v => (shOf P t).map fun sh => (.store sh, [a, v])
  | .alloc e => (zeroOf P e).map fun x => (.alloc x.1 x.2, [])
  | .box e x => (shOf P e).map fun sh => (.box sh, [x])
  | .buildSlice t len parts =>
    (rowTy P t).bind fun x => if parts.toList.map (·.1) = List.range len then some (.lit x.1 (len == 0 || (o.dst.map fun d => ow.contains d).getD false), parts.toList.map (·.2)) else none
  | .makeSlice t l c =>
    match P.underlying t with
    | some (.slice e) => (rowTy P t).bind fun x => (zeroOf P e).map fun z => (.make z.1 z.2 x.2.1.bytes, [l, c])
    | _ => none
  | .convert s d x =>
    match P.underlying s, P.underlying d with
    | some .string, some (.slice e) => if P.underlying e matches some (.int .u8) then some (.s2b, [x]) else none
    | some (.slice e), some .string => if P.underlying e matches some (.int .u8) then some (.b2s, [x]) else none
    | _, _ => none
  | .makeMap t r =>
    match P.underlying t, r with
    | some (.map k _), none => (kkOf P k).map fun kd => (.mmk kd, [])
    | _, _ => none
  | .mapUpdate t m k x =>
    match P.underlying t with
    | some (.map kt _) => (kkOf P kt).map fun kd => (.mupd kd, [m, k, x])
    | _ => none
  | .insert t m k x =>
    match P.underlying t with
    | some (.map kt _) => (kkOf P kt).map fun kd => (.mupd kd, [m, k, x])
    | _ => none
  | .mapEntry t m k =>
    match P.underlying t with
    | some (.map kt et) => (kkOf P kt).bind fun kd => (zeroV P et).bind fun z => if z.noOwn = true then some (.ment kd z, [m, k]) else none
    | _ => none
  | .entryStore _ m s x => some (.mst, [m, s, x])
  | .range t x =>
    match P.underlying t with
    | some (.map k _) => (kkOf P k).map fun kd => (.rng kd, [x])
    | _ => none
  | .next x false => some (.nxt, [x])
  | .entry x => some (.ent, [x])
  | .call c =>
    match c.callee, c.args.toList, c.argTypes.toList with
    | .builtin .append, [a, b], [t, t'] => if t = t' then (rowTy P t).map fun x => (.append x.1 x.2.1.bytes, [a, b]) else none
    | _, _, _ => none
  | _ => none

section
variable {P : Program} {w : World} {κ : Kap} {μ : Mem} {ρ : Operand → Value}

def EffOk (P : Program) (w : World) (κ : Kap) (ρ : Operand → Value) (o : Oper) (K : PV → Option Nat → Mem → Prop) : Prop :=
  ∃ v p dead μ' w' κ', ((execOp ρ o).run P w = .ok (.value v) w' ∨ ((execOp ρ o).run P w = .ok .skip w' ∧ v = undef)) ∧ K p dead μ' ∧ Sim w' κ' μ' ∧ Goes w κ w' κ' (fun t => dead = some t) ∧ Rep w' (own κ') κ' v p

theorem goes_none {w' : World} {κ' : Kap} (h : Goes w κ w' κ' fun _ => False) : Goes w κ w' κ' (fun t => (none : Option Nat) = some t) := h.weak fun _ h => h.elim

theorem rowTy_spec {T : TypeId} {sh : Sh} {i : TypeInfo} {z : Value} (h : rowTy P T = some (sh, i, z)) : ∃ e, P.underlying T = some (.slice e) ∧ shOf P e = some sh ∧ P.info? e = some i ∧ i.zero = some z ∧ z.cells.size = i.size ∧ 0 < sh.size := by
  unfold rowTy at h
  split at h
  · rename_i e hu
    simp only [Option.bind_eq_some_iff] at h
    obtain ⟨sh', h1, i', h2, z', h3, h4⟩ := h
    split at h4
    · rename_i hc
      simp at h4
      obtain ⟨rfl, rfl, rfl⟩ := h4
      exact ⟨e, hu, h1, h2, h3, hc.1, hc.2⟩
    · simp at h4
  · simp at h

theorem zeroOf_spec {t : TypeId} {sh : Sh} {z : PV} (h : zeroOf P t = some (sh, z)) :
    shOf P t = some sh ∧ shaped sh z ∧ ∃ i zv, P.info? t = some i ∧ i.zero = some zv ∧ zv.cells.size = sh.size ∧ z.cells.length = sh.size ∧ fits sh z ∧
      ∀ (w : World) (ex : Nat → Prop) (j : Nat) (v : Value) (p : PV), zv.cells[j]? = some v → z.cells[j]? = some p → RepC w ex v p := by
  unfold zeroOf at h
  simp only [Option.bind_eq_some_iff] at h
  obtain ⟨sh', h1, zs, h2, h⟩ := h
  simp only [zerosOf, Option.bind_eq_some_iff] at h2
  obtain ⟨i, hi, zv, hz, hm⟩ := h2
  have hmr := fun (w : World) (ex : Nat → Prop) => mapM_rep (w := w) (ex := ex) hm
  have hsc : ∀ p ∈ zs, p.scalar = true := by
    intro p hp
    have := mapM_get hm
    obtain ⟨k, hk, rfl⟩ := List.getElem_of_mem hp
    have h3 : (zs.map some)[k]? = some (some zs[k]) := by simp [List.getElem?_eq_getElem hk]
    rw [← this, List.getElem?_map] at h3
    cases hv : zv.cells.toList[k]? with
    | none => simp [hv] at h3
    | some v =>
      simp [hv] at h3
      unfold PV.ofVal at h3
      split at h3 <;> simp at h3 <;> rw [← h3] <;> rfl
  obtain ⟨-, -, i', hi', hisz⟩ := shOf_spec h1
  rw [hi] at hi'; cases hi'
  split at h
  · split at h
    · rename_i z'
      simp at h; obtain ⟨rfl, rfl⟩ := h
      have hz1 := hsc z' (by simp)
      have hc1 : z'.cells = [z'] := by cases z' <;> simp_all [PV.cells, PV.scalar]
      refine ⟨h1, by cases z' <;> simp_all [shaped, PV.isAgg, PV.scalar], i, zv, hi, hz, ?_, ?_, hz1, fun w ex j v p hv hp => ?_⟩
      · have := (hmr default (fun _ => False)).1; simp at this; simp [Sh.size]; omega
      · rw [hc1]; rfl
      · rw [hc1] at hp
        exact (hmr w ex).2 j v p (by simpa using hv) hp
    · simp at h
  · rename_i n
    split at h
    · rename_i hl
      simp at h; obtain ⟨rfl, rfl⟩ := h
      refine ⟨h1, ⟨zs, rfl, hl⟩, i, zv, hi, hz, ?_, by simpa [PV.cells, Sh.size] using hl, ⟨zs, rfl, hl, hsc⟩, fun w ex j v p hv hp => ?_⟩
      · have := (hmr default (fun _ => False)).1; simp at this; simp [Sh.size]; omega
      · exact (hmr w ex).2 j v p (by simpa using hv) (by simpa [PV.cells] using hp)
    · simp at h

theorem storeE_sound (hS : Sim w κ μ) {o : Oper} {t : TypeId} {x y : Operand} {sh : Sh} (ho : o.op = .store t x y) (ht : shOf P t = some sh) {ps : List PV} (hk : Known w κ ρ [x, y] ps) {K : PV → Option Nat → Mem → Prop}
    (h : effW μ (.store sh) ps K) : EffOk P w κ ρ o K := by
  obtain ⟨p, q, rfl, hp, hq⟩ := known2 hk
  cases p <;> simp only [effW] at h
  · rename_i tg off
    split at h
    · rename_i sh' xv cs hm hps
      obtain ⟨h1, h2, h3⟩ := h
      obtain ⟨w', hrun, hG, hS'⟩ := hS.store (P := P) ht hp hm hq hps h1 h2
      exact ⟨undef, .junk, none, _, w', κ, .inr ⟨by simp [execOp, ho, hrun], rfl⟩, h3, hS', goes_none hG, .junk _⟩
    · exact h.elim
  · rename_i tg n i off
    split at h
    · rename_i sh' xs cs hm hps
      obtain ⟨h1, hno, rfl, hil, hok, h3⟩ := h
      obtain ⟨c, hc, hO⟩ := hS.at hm
      obtain ⟨hsz, -, -⟩ := shOf_spec ht
      generalize hvx : ρ x = vx at hp
      cases hp with
      | closed hp => cases hp
      | eptr _ _ _ _ b hb =>
        rw [hb] at hc; cases hc
        cases hO with
        | row _ cur E cap _ _ hh hs hm' hl' hfit hr =>
          obtain ⟨hqo, -, -, hcl⟩ := partSh_spec hps
          obtain ⟨hr1, hr2, hr3⟩ := rep_part hq hqo
          have hgd : xs.getD i .junk = xs[i] := by rw [List.getD_eq_getElem?_getD, List.getElem?_eq_getElem hil]; rfl
          have hfx := hfit xs[i] (List.getElem_mem hil)
          obtain ⟨hp1, hp2⟩ := putPart_spec (off := off) (fits_shaped hfx) hps hok
          have hofs : off + sh.size ≤ sh'.size := by
            rcases hok with ⟨rfl, rfl⟩ | ⟨-, h⟩
            · omega
            · exact h
          have hidx : (i + 1) * sh'.size ≤ xs.length * sh'.size := Nat.mul_le_mul_right _ (by omega)
          have hcap : xs.length * sh'.size ≤ cur.size := by rw [hs]; exact Nat.mul_le_mul_right _ hl'
          rw [Nat.add_mul] at hidx
          have hin : i * sh'.size + off + sh.size ≤ cur.size := by omega
          have hlen : (ρ y).cells.toList.length = sh.size := by simpa using hr1
          have hsize : (cur.toList.take (i * sh'.size + off) ++ (ρ y).cells.toList ++ cur.toList.drop (i * sh'.size + off + sh.size)).toArray.size = cur.size := by simp [hlen]; omega
          have hG := Goes.setRow (w := w) hb hh hsize (fun _ => False)
          have hrun := store_run (P := P) hsz hh hr1 hin (part_one hq hqo h1)
          have hnc : ∀ c ∈ cs, c.noOwn = true := by
            intro c hcm
            unfold partSh at hps
            split at hps
            · split at hps
              · simp at hps; subst hps; simp at hcm; subst hcm; exact hno
              · simp at hps
            · split at hps
              · simp at hps; subst hps
                simp only [PV.noOwn, allMap] at hno
                exact hno c hcm
              · simp at hps
            · simp at hps
          have hfit2 : fits sh' (putPart sh' sh xs[i] off q) := by
            have hsc : ∀ c ∈ (putPart sh' sh xs[i] off q).cells, c.scalar = true := by
              intro c hcm
              obtain ⟨j, hj, rfl⟩ := List.getElem_of_mem hcm
              have := hp2 j
              rw [List.getElem?_eq_getElem hj] at this
              split at this
              · exact h1 _ (List.mem_of_getElem? this.symm)
              · exact hfx.scal _ (List.mem_of_getElem? this.symm)
            cases hsh' : sh' with
            | none =>
              subst hsh'
              generalize putPart none sh xs[i] off q = y at hp1 hsc
              have : y.cells = [y] := by cases y <;> simp_all [shaped, PV.isAgg, PV.cells]
              rw [this] at hsc
              exact hsc y (by simp)
            | some n =>
              subst hsh'
              obtain ⟨ds, hds, hdl⟩ := hp1
              rw [hds] at hsc ⊢
              exact ⟨ds, rfl, hdl, hsc⟩
          refine ⟨undef, .junk, none, _, _, κ, .inr ⟨by simp [execOp, ho, hvx, Instr.storeAt, Instr.sureAddr, hrun], rfl⟩, h3, ?_, goes_none hG, .junk _⟩
          rw [hgd]
          have hfitn : ∀ z ∈ xs.set i (putPart sh' sh xs[i] off q), fits sh' z := fun z hz => by
            rcases List.mem_or_eq_of_mem_set hz with h | h
            · exact hfit z h
            · rw [h]; exact hfit2
          refine hS.put hb hm hh hsize (.row b _ E cap sh' _ (setRow_heap w b cur _ E (0, 0) hh) (by rw [hsize, hs]) hm' (by simpa using hl') hfitn (fun j p v hpj hvj => ?_))
          have hjl : j < xs.length * sh'.size := by
            have := (List.getElem?_eq_some_iff.1 hpj).1
            rw [flat_length hfitn] at this; simpa using this
          have hpos : 0 < sh'.size := by
            rcases Nat.eq_zero_or_pos sh'.size with h0 | h0
            · rw [h0] at hjl; omega
            · exact h0
          -- the element and the place in it
          have hdm := Nat.div_add_mod j sh'.size
          have hml := Nat.mod_lt j hpos
          have hjd : j / sh'.size < xs.length := by
            rw [Nat.div_lt_iff_lt_mul hpos]; exact hjl
          have hje : j = j / sh'.size * sh'.size + j % sh'.size := by rw [Nat.mul_comm]; exact hdm.symm
          rw [List.getElem?_toArray, show i * sh'.size + off + sh.size = i * sh'.size + off + (ρ y).cells.toList.length by rw [hlen], seg_get _ _ _ _ (by rw [hlen]; simpa using hin), hlen] at hvj
          by_cases hji : j / sh'.size = i
          · have hx' : (xs.set i (putPart sh' sh xs[i] off q))[j / sh'.size]? = some (putPart sh' sh xs[i] off q) := by rw [hji]; simp [hil]
            have := flat_get hfitn (j / sh'.size) (j % sh'.size) _ hx' hml
            rw [← hje] at this
            rw [this, hp2] at hpj
            rw [hji] at hje
            split at hpj
            · rename_i hin2
              rw [if_pos (by omega)] at hvj
              have he : j - (i * sh'.size + off) = j % sh'.size - off := by omega
              rw [he] at hvj
              exact (rep_noOwn (hr3 _ v p (by simpa using hvj) hpj) (hnc _ (List.mem_of_getElem? hpj))).mono hG.agree
            · rename_i hout
              rw [if_neg (by omega)] at hvj
              have hxi : xs[i]? = some xs[i] := List.getElem?_eq_getElem hil
              have hfg := flat_get hfit i (j % sh'.size) _ hxi hml
              rw [← hje] at hfg
              exact (hr j p v (by rw [hfg]; exact hpj) (by simpa using hvj)).mono hG.agree
          · have hx' : (xs.set i (putPart sh' sh xs[i] off q))[j / sh'.size]? = some xs[j / sh'.size] := by
              rw [List.getElem?_set_ne (fun h => hji h.symm)]; exact List.getElem?_eq_getElem hjd
            have h4 := flat_get hfitn (j / sh'.size) (j % sh'.size) _ hx' hml
            have h5 := flat_get hfit (j / sh'.size) (j % sh'.size) _ (List.getElem?_eq_getElem hjd) hml
            rw [← hje] at h4 h5
            rw [h4, ← h5] at hpj
            have hno2 : ¬ (i * sh'.size + off ≤ j ∧ j < i * sh'.size + off + sh.size) := by
              rintro ⟨ha, hb'⟩
              apply hji
              have h6 : i * sh'.size ≤ j := by omega
              have h7 : j < (i + 1) * sh'.size := by rw [Nat.add_mul]; omega
              exact Nat.le_antisymm (Nat.lt_succ_iff.1 ((Nat.div_lt_iff_lt_mul hpos).2 h7)) ((Nat.le_div_iff_mul_le hpos).2 h6)
            rw [if_neg hno2] at hvj
            exact (hr j p v hpj (by simpa using hvj)).mono hG.agree
    · exact h.elim


theorem allocE_sound (hS : Sim w κ μ) {o : Oper} {t : TypeId} {sh : Sh} {z : PV} (ho : o.op = .alloc t) (ht : zeroOf P t = some (sh, z)) {ps : List PV} (hk : Known w κ ρ [] ps) {K : PV → Option Nat → Mem → Prop}
    (h : effW μ (.alloc sh z) ps K) : EffOk P w κ ρ o K := by
  have hps : ps = [] := List.eq_nil_of_length_eq_zero hk.1.symm
  subst hps
  simp only [effW] at h
  obtain ⟨h1, h2, i, zv, hi, hz, h3, h4, h5, h6⟩ := zeroOf_spec ht
  have hzero : (zeroValue t).run P w = .ok zv w := by simp [zeroValue, typeInfo, hi, hz]
  have hG := Goes.alloc hS (.cells zv.cells t)
  refine ⟨.pointer (some ⟨w.heap.size, 0, none⟩), .ref μ.length 0, none, _, _, _, .inl ?_, h, hS.push (.cells zv.cells t) (.var sh z) (.var _ zv.cells t sh z (heap_alloc_at _ _) h3 h2 (fun j p u hp hu => .closed ((h6 _ _ j u p hu hp)))), goes_none hG, .ref _ 0 _ (by simp)⟩
  simp [execOp, ho, Instr.alloc, hzero, newVar, newRow]

theorem boxE_sound (hS : Sim w κ μ) {o : Oper} {t : TypeId} {sh : Sh} {x : Operand} (ho : o.op = .box t x) {ps : List PV} (hk : Known w κ ρ [x] ps) {K : PV → Option Nat → Mem → Prop}
    (h : effW μ (.box sh) ps K) : EffOk P w κ ρ o K := by
  obtain ⟨p, rfl, hp⟩ := known1 hk
  simp only [effW] at h
  obtain ⟨h1, h2⟩ := h
  obtain ⟨cs, hcs⟩ := Option.isSome_iff_exists.1 h1
  obtain ⟨ha, hb, -, -⟩ := partSh_spec hcs
  obtain ⟨hG, hS'⟩ := hS.newVar t hp ha hb
  refine ⟨.pointer (some ⟨w.heap.size, 0, none⟩), .ref μ.length 0, none, _, _, _, .inl ?_, h2, hS', goes_none hG, .ref _ 0 _ (by simp)⟩
  simp [execOp, ho, Instr.box, newVar, newRow]

theorem known_map {xs : List Operand} {ps : List PV} (hk : Known w κ ρ xs ps) : (xs.map ρ).length = ps.length ∧ ∀ (i : Nat) (v : Value) (p : PV), (xs.map ρ)[i]? = some v → ps[i]? = some p → Rep w (own κ) κ v p := by
  refine ⟨by simpa using hk.1, fun i v p hv hp => ?_⟩
  rw [List.getElem?_map] at hv
  cases hx : xs[i]? with
  | none => simp [hx] at hv
  | some x => simp [hx] at hv; subst hv; exact hk.2 i x p hx hp

theorem cells_noOwn {y : PV} (h : y.noOwn = true) : ∀ p ∈ y.cells, p.noOwn = true := by
  intro p hp
  cases y <;> first | (simp only [PV.cells, List.mem_singleton] at hp; subst hp; exact h) | (simp only [PV.noOwn, allMap] at h; exact h p hp)

theorem shape_at {b : Nat} {arr : Array Value} {E : TypeId} {fr : Nat × Nat} (h : w.heap[b]? = some (.cells arr E fr)) : w.shape? b = some (E, arr.size) := by
  simp [World.shape?, h]

theorem zip_split (ρ : Operand → Value) : ∀ l : List (Nat × Operand), l.map (fun x => (x.1, ρ x.2)) = (l.map fun x => x.1).zip (l.map fun x => ρ x.2)
  | [] => rfl
  | x :: l => by simp [zip_split ρ l]

theorem litE_sound (hS : Sim w κ μ) {o : Oper} {T : TypeId} {len : Nat} {parts : Array (Nat × Operand)} {sh : Sh} {i : TypeInfo} {z : Value} {ow : Bool} (ho : o.op = .buildSlice T len parts) (hr : rowTy P T = some (sh, i, z))
    (hpl : parts.toList.map (·.1) = List.range len) {ps : List PV} (hk : Known w κ ρ (parts.toList.map (·.2)) ps) {K : PV → Option Nat → Mem → Prop}
    (h : effW μ (.lit sh ow) ps K) : EffOk P w κ ρ o K := by
  obtain ⟨e, hu, hsh, hi, hz, hzs, hpos⟩ := rowTy_spec hr
  simp only [effW] at h
  obtain ⟨h1, h2, h3, h4⟩ := h
  rw [allFit_iff] at h1
  rw [allMap] at h2
  obtain ⟨hl, hrep⟩ := known_map hk
  have hlen : len = ps.length := by
    have := congrArg List.length hpl
    simp at this hl; omega
  subst hlen
  obtain ⟨arr, hrun, hsz, harr⟩ := buildSl_run (P := P) hu hsh hi hz hzs hl hrep h1 hpos h3
  have hparts : (parts.map fun x => (x.1, ρ x.2)) = ((List.range ps.length).zip ((parts.toList.map (·.2)).map ρ)).toArray := by
    apply Array.ext'
    rw [← hpl]
    simp only [Array.toList_map, List.map_map, Function.comp_def]
    exact zip_split ρ parts.toList
  have hex : (execOp ρ o).run P w = .ok (.value (.slice (some ⟨w.heap.size, 0, none⟩) ps.length ps.length)) (w.alloc (.cells arr e)) := by
    have : (Instr.buildSlice T ps.length (parts.map fun x => (x.1, ρ x.2))).run P w = .ok (.slice (some ⟨w.heap.size, 0, none⟩) ps.length ps.length) (w.alloc (.cells arr e)) := by rw [hparts]; exact hrun
    simp [execOp, ho, this]
  have hmax : ps.length ≤ maxLen := by
    have : ps.length * 1 ≤ ps.length * sh.size := Nat.mul_le_mul_left _ hpos
    simp only [maxLen]; omega
  by_cases hb : ow = true
  · rw [if_pos hb] at h4
    have hG := Goes.alloc hS (.cells arr e)
    refine ⟨_, _, none, _, _, _, .inl hex, h4, hS.push (.cells arr e) (.row sh ps) (.row _ arr e ps.length sh ps (heap_alloc_at _ _) hsz hmax (Nat.le_refl _) h1 (fun j p v hp hv => ?_)), goes_none hG, ?_⟩
    · have hpm : p.noOwn = true := by
        obtain ⟨y, hy, hpy⟩ := List.mem_flatMap.1 (List.mem_of_getElem? hp)
        exact cells_noOwn (h2 y hy) p hpy
      exact (rep_noOwn (harr j v p hv hp) hpm).mono hG.agree
    · refine .sl sh _ _ _ ps.length (by simp) ⟨e, ?_⟩ (Nat.le_refl _) hmax
      rw [shape_at (heap_alloc_at _ _), hsz]
  · rw [if_neg hb] at h4
    have hB := Below.of_alloc w (.cells arr e)
    refine ⟨_, _, none, _, _, κ, .inl hex, h4, hS.below hB, goes_none (Goes.below hB _), .closed ?_⟩
    have hnew : ¬ own κ w.heap.size := not_own_new hS
    refine .list _ ps.length ps.length sh ps w.heap.size 0 (fun j => arr.getD j undef) rfl (Nat.le_refl _) hmax h1 (fun _ => rfl) (fun j hj => ⟨hnew, ?_⟩) (fun j p hp => ?_)
    · rw [Nat.zero_add, cell?_cells (heap_alloc_at _ _)]
      rw [flat_length h1, ← hsz] at hj
      simp [hj]
    · have hj : j < arr.size := by rw [hsz, ← flat_length h1]; exact (List.getElem?_eq_some_iff.1 hp).1
      have hpm : p.noOwn = true := by
        obtain ⟨y, hy, hpy⟩ := List.mem_flatMap.1 (List.mem_of_getElem? hp)
        exact cells_noOwn (h2 y hy) p hpy
      have := harr j (arr.getD j undef) p (by simp [hj]) hp
      exact (rep_noOwn this hpm).mono (Goes.below hB (fun _ => False)).agree

theorem makeE_sound (hS : Sim w κ μ) {o : Oper} {T e : TypeId} {l c : Operand} {sh : Sh} {z : PV} {i : TypeInfo} {zv : Value} {sh0 : Sh} (ho : o.op = .makeSlice T l c) (hu0 : P.underlying T = some (.slice e)) (hr : rowTy P T = some (sh0, i, zv))
    (hz0 : zeroOf P e = some (sh, z)) {ps : List PV} (hk : Known w κ ρ [l, c] ps) {K : PV → Option Nat → Mem → Prop} (h : effW μ (.make sh z i.bytes) ps K) : EffOk P w κ ρ o K := by
  obtain ⟨e', hu, hsh, hi, hz, hzs, hpos⟩ := rowTy_spec hr
  rw [hu0] at hu; cases hu
  obtain ⟨h1, h2, i', zv', hi', hz', h3, h4, h5, h6⟩ := zeroOf_spec hz0
  rw [hi] at hi'; cases hi'
  rw [hz] at hz'; cases hz'
  rw [hsh] at h1; cases h1
  obtain ⟨hsz, -, i', hi', hisz⟩ := shOf_spec hsh
  rw [hi] at hi'; cases hi'
  obtain ⟨p, q, rfl, hp, hq⟩ := known2 hk
  cases p <;> simp only [effW] at h
  rename_i kl nl
  obtain ⟨kc, nc, rfl, ha, hb, hc, hd, hK⟩ := withIntP_inv h
  have e1 := repC_int hp
  have e2 := repC_int hq
  have hrun := run_make (P := P) w T e i zv hu0 hi hz kl kc nl nc ha hb hc hd
  have hnl : nl.toNat ≤ nc.toNat := by omega
  have hG := Goes.alloc hS (.cells (madeCells zv.cells (nc.toNat * i.size)) e)
  have hsz2 : (madeCells zv.cells (nc.toNat * i.size)).size = nc.toNat * sh.size := by rw [size_madeCells, hisz]
  have hmax : nc.toNat ≤ maxLen := by simp only [maxLen]; omega
  have hfit : ∀ x ∈ List.replicate nl.toNat z, fits sh x := fun x hx => by rw [(List.mem_replicate.1 hx).2]; exact h5
  have hex : (execOp ρ o).run P w = .ok (.value (.slice (some ⟨w.heap.size, 0, none⟩) nl.toNat nc.toNat)) (w.alloc (.cells (madeCells zv.cells (nc.toNat * i.size)) e)) := by simp [execOp, ho, e1, e2, hrun]
  refine ⟨_, _, none, _, _, _, .inl hex, hK, hS.push _ (.row sh (List.replicate nl.toNat z)) (.row _ _ e nc.toNat sh _ (heap_alloc_at _ _) hsz2 hmax (by simpa using hnl) hfit (fun j p v hpj hvj => ?_)), goes_none hG, ?_⟩
  · have hj : j < nl.toNat * sh.size := by
      have := (List.getElem?_eq_some_iff.1 hpj).1
      rw [flat_length hfit] at this; simpa using this
    have hml := Nat.mod_lt j hpos
    have hjd : j / sh.size < nl.toNat := by rw [Nat.div_lt_iff_lt_mul hpos]; exact hj
    have hje : j = j / sh.size * sh.size + j % sh.size := by rw [Nat.mul_comm]; exact (Nat.div_add_mod j sh.size).symm
    have hx : (List.replicate nl.toNat z)[j / sh.size]? = some z := by simp [hjd]
    have hf := flat_get hfit (j / sh.size) (j % sh.size) z hx hml
    rw [← hje, hpj] at hf
    have hjn : j < nc.toNat * i.size := by
      have : nl.toNat * sh.size ≤ nc.toNat * sh.size := Nat.mul_le_mul_right _ hnl
      rw [hisz]; omega
    have hv2 : v = zv.cells[j % sh.size]! := by
      simp [madeCells, hjn, h3] at hvj; exact hvj.symm
    refine h6 _ _ (j % sh.size) v p ?_ hf.symm
    rw [hv2]
    have : j % sh.size < zv.cells.size := by rw [h3]; exact hml
    simp [this]
  · refine .sl sh _ _ _ nc.toNat (by simp) ⟨e, ?_⟩ hnl hmax
    rw [shape_at (heap_alloc_at _ _), hsz2]

theorem appTy_of {T : TypeId} {sh : Sh} {i : TypeInfo} {z : Value} (h : rowTy P T = some (sh, i, z)) : ∃ e, AppTy P T e sh i.bytes := by
  obtain ⟨e, hu, hsh, hi, hz, hzs, hpos⟩ := rowTy_spec h
  exact ⟨e, hu, hsh, hpos, i, z, hi, hz, hzs, rfl⟩

theorem appendE_sound (hS : Sim w κ μ) {o : Oper} {T : TypeId} {a b : Operand} {sh : Sh} {i : TypeInfo} {z : Value} (ho : o.op = .call { callee := .builtin .append, args := #[a, b], argTypes := #[T, T] }) (hr : rowTy P T = some (sh, i, z))
    {ps : List PV} (hk : Known w κ ρ [a, b] ps) {K : PV → Option Nat → Mem → Prop} (h : effW μ (.append sh i.bytes) ps K) : EffOk P w κ ρ o K := by
  obtain ⟨e, hT⟩ := appTy_of hr
  obtain ⟨p, q, rfl, hp, hq⟩ := known2 hk
  simp only [effW] at h
  split at h
  · rename_i ys hy
    have hsrc := src_at hS hq hy
    split at h
    · obtain ⟨h1, h2, h3⟩ := h
      have hv := rep_nilSl hp
      obtain ⟨v', w', κ', hrun, hG, hS', hR⟩ := append_nilSl (P := P) (ty := o.type) hS hT hsrc h1 h2
      exact ⟨v', _, none, _, w', κ', .inl (by simp [execOp, ho, resolve, invoke, builtin, hv, hrun]), h3, hS', goes_none hG, hR⟩
    · rename_i sh1 t n
      split at h
      · rename_i sh2 xs hm
        obtain ⟨rfl, rfl, hn, h1, h2, h3⟩ := h
        obtain ⟨v', w', κ', hrun, hG, hS', hR⟩ := append_sl (P := P) (ty := o.type) hS hT hp hm hn hsrc h1 h2
        exact ⟨v', _, some t, _, w', κ', .inl (by simp [execOp, ho, resolve, invoke, builtin, hrun]), h3, hS', hG.weak (fun i hi => by rw [hi]), hR⟩
      · exact h.elim
    · obtain ⟨rfl, h1, h2, h3, h4⟩ := h
      obtain ⟨v', w', κ', hrun, hG, hS', hR⟩ := append_full (P := P) (ty := o.type) hS hT hp hsrc h1 h2 h3
      exact ⟨v', _, none, _, w', κ', .inl (by simp [execOp, ho, resolve, invoke, builtin, hrun]), h4, hS', goes_none hG, hR⟩
    · exact h.elim
  · exact h.elim

theorem u8s_fit (l : List UInt8) : ∀ x ∈ u8s l, fits none x := by
  intro x hx
  simp only [u8s, List.mem_map] at hx
  obtain ⟨b, -, rfl⟩ := hx
  rfl
theorem u8s_flat (l : List UInt8) : flat (u8s l) = u8s l := by
  induction l with
  | nil => rfl
  | cons b l ih => simp only [u8s, flat, List.map_cons, List.flatMap_cons, PV.cells] at *; rw [ih]; rfl

theorem s2bE_sound (hS : Sim w κ μ) {o : Oper} {s d e : TypeId} {x : Operand} (ho : o.op = .convert s d x) (hs : P.underlying s = some .string) (hd : P.underlying d = some (.slice e)) (he : P.underlying e = some (.int .u8))
    {ps : List PV} (hk : Known w κ ρ [x] ps) {K : PV → Option Nat → Mem → Prop} (h : effW μ .s2b ps K) : EffOk P w κ ρ o K := by
  obtain ⟨p, rfl, hp⟩ := known1 hk
  cases p <;> simp only [effW] at h
  obtain ⟨b, hb, rfl⟩ := repC_str hp
  obtain ⟨h1, h2⟩ := h
  have hrun := run_bytes_of_string (P := P) w s d e b hs hd he
  have hge := grownCap_ge w b.size 0 e
  have hgm := grownCap_le_maxLen w b.size 0 e (by simpa using h1)
  have hB : RowKit.Below w.heap.size w (w.drew.alloc (.cells (bytesRow b (grownCap w b.size 0 e)) e ((bytesRow b (grownCap w b.size 0 e)).size, (bytesRow b (grownCap w b.size 0 e)).size + 1))) :=
    ((RowKit.Below.refl _ _).drew).alloc (Nat.le_refl _) _
  have hnew : ¬ own κ w.heap.size := not_own_new hS
  have hex : (execOp ρ o).run P w = .ok (.value (.slice (some ⟨w.heap.size, 0, none⟩) b.size (grownCap w b.size 0 e))) (w.drew.alloc (.cells (bytesRow b (grownCap w b.size 0 e)) e ((bytesRow b (grownCap w b.size 0 e)).size, (bytesRow b (grownCap w b.size 0 e)).size + 1))) := by
    simp [execOp, ho, hb, hrun]
  refine ⟨_, _, none, _, _, κ, .inl hex, h2, hS.below hB, goes_none (Goes.below hB _), .closed ?_⟩
  refine .list _ b.size _ none _ w.heap.size 0 (fun j => .int .u8 (b.data.toList.getD j 0).toNat) (by simp [u8s]) hge hgm (u8s_fit _) (fun _ => rfl) (fun j hj => ⟨hnew, ?_⟩) (fun j p hp => ?_)
  · rw [u8s_flat] at hj
    have hj' : j < b.size := by simpa [u8s] using hj
    have hh : (w.drew.alloc (.cells (bytesRow b (grownCap w b.size 0 e)) e ((bytesRow b (grownCap w b.size 0 e)).size, (bytesRow b (grownCap w b.size 0 e)).size + 1))).heap[w.heap.size]? = _ := heap_alloc_at w.drew _
    rw [Nat.zero_add, cell?_cells hh]
    have hjd : j < b.data.size := hj'
    rw [bytesRow, Array.getElem?_append_left (by simpa using hj')]
    have hje : b.data[j]? = some b.data[j] := Array.getElem?_eq_getElem hjd
    simp only [Array.getElem?_map, List.getD_eq_getElem?_getD, Array.getElem?_toList, hje, Option.map_some, Option.getD_some]
  · rw [u8s_flat] at hp
    simp only [u8s, List.getElem?_map] at hp
    cases hq : b.data.toList[j]? with
    | none => rw [hq] at hp; cases hp
    | some c =>
      rw [hq] at hp
      simp at hp; subst hp
      rw [List.getD_eq_getElem?_getD, hq]
      exact .int _ _


theorem b2sE_sound (hS : Sim w κ μ) {o : Oper} {s d e : TypeId} {x : Operand} (ho : o.op = .convert s d x) (hs : P.underlying s = some (.slice e)) (hd : P.underlying d = some .string) (he : P.underlying e = some (.int .u8))
    {ps : List PV} (hk : Known w κ ρ [x] ps) {K : PV → Option Nat → Mem → Prop} (h : effW μ .b2s ps K) : EffOk P w κ ρ o K := by
  obtain ⟨p, rfl, hp⟩ := known1 hk
  simp only [effW] at h
  split at h
  · rename_i ys hy
    obtain ⟨hb, hK⟩ := h
    obtain ⟨a, sc, news, hv, hnl, hyf, hyr, hya⟩ := src_at hS hp hy
    have hfl : ∀ {ys : List PV}, areBytes ys → flat ys = ys ∧ ∃ ns : List Int, ys = ns.map (PV.int .u8) := by
      intro ys
      induction ys with
      | nil => intro _; exact ⟨rfl, [], rfl⟩
      | cons y ys ih =>
        intro hb
        cases y with
        | int k n =>
          cases k <;> simp only [areBytes] at hb
          obtain ⟨h1, ns, h2⟩ := ih hb
          refine ⟨?_, n :: ns, by rw [h2]; rfl⟩
          simp only [PG.flat, List.flatMap_cons, PV.cells] at h1 ⊢
          rw [h1]; rfl
        | _ => exact hb.elim
    obtain ⟨hf, ns, rfl⟩ := hfl hb
    rw [hf] at hnl hyr
    have hnews : news = ns.map (Value.int .u8) := by
      apply List.ext_getElem?
      intro j
      rw [List.getElem?_map]
      cases hj : ns[j]? with
      | none =>
        rw [List.getElem?_eq_none_iff] at hj
        simp at hnl
        rw [List.getElem?_eq_none (by omega)]; rfl
      | some n =>
        have hjl : j < news.length := by
          have := (List.getElem?_eq_some_iff.1 hj).1
          simp at hnl; omega
        have := hyr j (.int .u8 n) news[j] (by rw [List.getElem?_map, hj]; rfl) (List.getElem?_eq_getElem hjl)
        rw [List.getElem?_eq_getElem hjl]
        generalize news[j] = u at this
        cases this; rfl
    have hstr : (ns.map (PV.int .u8)).map byteOf = (strOfNums ns).data.toList := by
      rw [strOfNums_data]
      simp [byteOf, Function.comp_def]
    refine ⟨.string (strOfNums ns), .str ((ns.map (PV.int .u8)).map byteOf), none, μ, w, κ, .inl ?_, hK, hS, goes_none (Goes.refl _ _ _), .closed (by rw [hstr]; exact .str _)⟩
    by_cases hn : ns = []
    · subst hn
      cases a with
      | none =>
        have := run_convert_bytes_nil (P := P) w s e hs he 0 sc d hd
        simp at hv
        simp [execOp, ho, hv, this]; rfl
      | some ad =>
        have := run_bytesToString (P := P) w ad 0 sc [] (by simp [loadCells, loadCellsFrom])
        have h2 := run_convert_bytes_string (P := P) w s d e (some ad) 0 sc hs he hd
        simp at hv
        simp [execOp, ho, hv, h2, this]; rfl
    · obtain ⟨ad, rfl, had⟩ := hya (by simpa using hn)
      have hld : (loadCells ad ns.length).run P w = .ok (ns.map (Value.int .u8)).toArray w := by
        have := run_loadCells_list (P := P) w ad (ns.map (Value.int .u8)) (fun j v hj => had j v (by rw [hnews]; exact hj))
        simpa using this
      have h1 := run_bytesToString (P := P) w ad ns.length sc ns hld
      have h2 := run_convert_bytes_string (P := P) w s d e (some ad) ns.length sc hs he hd
      rw [foldl_push_bytes] at h1
      have h3 : (⟨ByteArray.empty.data ++ (ns.map fun n => UInt8.ofNat n.toNat).toArray⟩ : ByteArray) = strOfNums ns := by
        apply ByteArray.ext; apply Array.ext'; simp [strOfNums_data]
      rw [h3] at h1
      simp at hv
      simp [execOp, ho, hv, h2, h1]
  · exact h.elim

/-! ### Maps that a call owns -/
def setH (w : World) (b : Nat) (o : Obj) : World := { w with heap := w.heap.setIfInBounds b o }
theorem setH_at {b : Nat} {o o' : Obj} (h : w.heap[b]? = some o) : (setH w b o').heap[b]? = some o' := (MapKept.heap_set h).1
theorem setH_other {b k : Nat} {o' : Obj} (h : k ≠ b) : (setH w b o').heap[k]? = w.heap[k]? := by
  simp [setH, Ne.symm h]
theorem Goes.setObj {t b : Nat} {o o' : Obj} (hk : κ t = some (some b)) (hg : w.heap[b]? = some o) (hsh : w.shape? b = none) (m : Nat → Prop) : Goes w κ (setH w b o') κ m := by
  refine ⟨rfl, rfl, rfl, by simp [setH], rfl, fun k hkk ho => ?_, fun _ _ h => h, fun k s hs => ?_, fun _ _ h _ => h⟩
  · exact setH_other (fun e => ho ⟨t, by rw [e]; exact hk⟩)
  · by_cases e : k = b
    · subst e; rw [hsh] at hs; cases hs
    · rw [shape?_of_block (setH_other e)]; exact hs
theorem Sim.putObj (hS : Sim w κ μ) {t b : Nat} {ob ob' : Obj} {o o1 : MObj} (hk : κ t = some (some b)) (hm : μ.get t = some o) (hg : w.heap[b]? = some ob) (hsh : w.shape? b = none)
    (ho : ORep (setH w b ob') (own κ) κ (some b) o1) : Sim (setH w b ob') κ (μ.set t (some o1)) := by
  have hG := Goes.setObj (o' := ob') hk hg hsh (fun _ => False)
  have he := Kap.set_eq hk
  have := hS.change (w' := setH w b ob') (μ' := μ.set t (some o1)) (t1 := t) (c1 := some b) (o1 := o1) (f := id) (m := fun _ => False) (by rw [he]; exact hG)
    (fun t' c o' hne hc h => by
      rw [he]
      refine ORep.still hG (fun b' hb' => ?_) h
      subst hb'
      exact setH_other (fun e => hne (hS.inj t' t b' hc (by rw [e]; exact hk))))
    (fun b' hb' => by
      cases hb'
      exact ⟨by simp [setH]; exact hS.lt _ _ hk, hS.exout _ _ hk, fun t' hne h => hne (hS.inj t' t b h hk)⟩)
    (by rw [he]; exact ho) (Mem.set_get μ t o1 ⟨_, Mem.get_some hm⟩) (fun t' hne => by rw [List.getElem?_set_ne (Ne.symm hne)]; simp)
  rwa [he] at this

theorem mset_len_none {es : List (PV × PV)} {k v : PV} (h : mset es k v = es ++ [(k, v)]) : (mset es k v).length = es.length + 1 := by rw [h]; simp

/-- The map behind a tag: its entries, and what a write leaves. -/
theorem mp_write (hS : Sim w κ μ) {tg : Nat} {kd : KK} {es es' : List (PV × PV)} {r : Nat} {ents ents' : Array MapEntry} {clock clock' : Nat} (hb : κ tg = some (some r)) (hm : μ.get tg = some (.mp kd es)) (h : w.heap[r]? = some (.map ents clock))
    (hs' : ents'.size = es'.length) (hB' : Born ents' clock') (hkd' : ∀ q ∈ es', keyOk kd q.1 = true)
    (hk' : ∀ (i : Nat) (e : MapEntry) (q : PV × PV), ents'[i]? = some e → es'[i]? = some q → RepC w (own κ) e.key q.1) (hv' : ∀ (i : Nat) (e : MapEntry) (q : PV × PV), ents'[i]? = some e → es'[i]? = some q → RepC w (own κ) e.val q.2) :
    (setObj r (.map ents' clock')).run P w = .ok () (setH w r (.map ents' clock')) ∧ Sim (setH w r (.map ents' clock')) κ (μ.set tg (some (.mp kd es'))) ∧ Goes w κ (setH w r (.map ents' clock')) κ fun _ => False := by
  have hsh : w.shape? r = none := by simp [World.shape?, h]
  have hG := Goes.setObj (o' := .map ents' clock') hb h hsh (fun _ => False)
  refine ⟨MapKept.run_setObj_map _ h, hS.putObj hb hm h hsh ?_, hG⟩
  exact .mp r kd es' ents' clock' (setH_at h) hs' hB' hkd' (fun i e q a b => (hk' i e q a b).mono hG.agree) (fun i e q a b => (hv' i e q a b).mono hG.agree)

theorem modify_at {ents : Array MapEntry} {j : Nat} {f : MapEntry → MapEntry} {i : Nat} {e : MapEntry} (h : (ents.modify j f)[i]? = some e) : (i = j ∧ ∃ e0, ents[i]? = some e0 ∧ e = f e0) ∨ (i ≠ j ∧ ents[i]? = some e) := by
  rw [Array.getElem?_modify] at h
  split at h
  · rename_i hij
    cases he : ents[i]? with
    | none => rw [he] at h; cases h
    | some e0 => rw [he] at h; cases h; exact .inl ⟨hij.symm, e0, rfl, rfl⟩
  · rename_i hij
    exact .inr ⟨fun e => hij e.symm, h⟩

/-- What a write of a key lays: the entries' array, and its clock. -/
theorem key_write {kt : TypeId} {d : TypeDesc} {kd : KK} (hu : P.underlying kt = some d) (hkd : kkTy kd d) {ex : Nat → Prop} {ents : Array MapEntry} {clock : Nat} {es : List (PV × PV)} (hs : ents.size = es.length) (hB : Born ents clock) (hko : ∀ q ∈ es, keyOk kd q.1 = true)
    (hkk : ∀ (i : Nat) (e : MapEntry) (q : PV × PV), ents[i]? = some e → es[i]? = some q → RepC w ex e.key q.1) (hvv : ∀ (i : Nat) (e : MapEntry) (q : PV × PV), ents[i]? = some e → es[i]? = some q → RepC w ex e.val q.2)
    {u : Value} {p : PV} (hup : RepC w ex u p) (hpk : keyOk kd p = true) :
    (Instr.findNow d u ents.toList 0 = some none ∧ mfind es p = none ∧ (∀ v, mset es p v = es ++ [(p, v)]) ∧
      ∀ (x : Value) (v : PV), RepC w ex x v → (ents.push { key := u, val := x, born := clock }).size = (mset es p v).length ∧ Born (ents.push { key := u, val := x, born := clock }) (clock + 1) ∧ (∀ q ∈ mset es p v, keyOk kd q.1 = true) ∧
        (∀ (i : Nat) (e : MapEntry) (q : PV × PV), (ents.push { key := u, val := x, born := clock })[i]? = some e → (mset es p v)[i]? = some q → RepC w ex e.key q.1) ∧
        (∀ (i : Nat) (e : MapEntry) (q : PV × PV), (ents.push { key := u, val := x, born := clock })[i]? = some e → (mset es p v)[i]? = some q → RepC w ex e.val q.2)) ∨
    ∃ j e q, Instr.findNow d u ents.toList 0 = some (some (j, e.val)) ∧ ents[j]? = some e ∧ es[j]? = some q ∧ e.key = u ∧ mfind es p = some (j, q.2) ∧ (∀ v, mset es p v = es.set j (p, v)) ∧
      ∀ (f : MapEntry → MapEntry) (v : PV), (∀ e', (f e').born = e'.born) → (f e).key = u → RepC w ex (f e).val v → (ents.modify j f).size = (mset es p v).length ∧ Born (ents.modify j f) clock ∧ (∀ q ∈ mset es p v, keyOk kd q.1 = true) ∧
        (∀ (i : Nat) (e : MapEntry) (q : PV × PV), (ents.modify j f)[i]? = some e → (mset es p v)[i]? = some q → RepC w ex e.key q.1) ∧
        (∀ (i : Nat) (e : MapEntry) (q : PV × PV), (ents.modify j f)[i]? = some e → (mset es p v)[i]? = some q → RepC w ex e.val q.2) := by
  obtain ⟨hB1, rfl⟩ := hB
  rcases find_spec hkd hup hpk ents.toList es 0 (by simpa using hs) (fun i e q a b => hkk i e q (by simpa using a) b) hko with ⟨h1, h2, h3⟩ | ⟨j, e, q, h1, h2, h3, h4, h5, h6⟩
  · refine .inl ⟨h1, h2, h3, fun x v hxv => ?_⟩
    rw [h3]
    have split_ : ∀ (i : Nat) (e : MapEntry) (q : PV × PV), (ents.push { key := u, val := x, born := ents.size })[i]? = some e → (es ++ [(p, v)])[i]? = some q → (i < ents.size ∧ ents[i]? = some e ∧ es[i]? = some q) ∨ (i = ents.size ∧ e = { key := u, val := x, born := ents.size } ∧ q = (p, v)) := by
      intro i e q a b
      rw [Array.getElem?_push] at a
      split at a
      · rename_i hi
        cases a
        rw [List.getElem?_append_right (by omega)] at b
        rw [show i - es.length = 0 by omega] at b
        simp at b
        exact .inr ⟨hi, rfl, b.symm⟩
      · have hi := (Array.getElem?_eq_some_iff.1 a).1
        rw [List.getElem?_append_left (by omega)] at b
        exact .inl ⟨hi, a, b⟩
    refine ⟨by simp [hs], ⟨fun i e he => ?_, by simp⟩, fun q hq => ?_, fun i e q a b => ?_, fun i e q a b => ?_⟩
    · rw [Array.getElem?_push] at he
      split at he
      · rename_i hi; cases he; exact hi.symm
      · exact hB1 i e he
    · rcases List.mem_append.1 hq with h | h
      · exact hko q h
      · simp at h; subst h; exact hpk
    · rcases split_ i e q a b with ⟨-, a, b⟩ | ⟨-, rfl, rfl⟩
      · exact hkk i e q a b
      · exact hup
    · rcases split_ i e q a b with ⟨-, a, b⟩ | ⟨-, rfl, rfl⟩
      · exact hvv i e q a b
      · exact hxv
  · rw [Nat.zero_add] at h1
    have hj : ents[j]? = some e := by simpa using h2
    refine .inr ⟨j, e, q, h1, hj, h3, h4, h5, h6, fun f v hfb hfk hfv => ?_⟩
    rw [h6]
    have hjl : j < es.length := (List.getElem?_eq_some_iff.1 h3).1
    have split_ : ∀ (i : Nat) (e' : MapEntry) (q' : PV × PV), (ents.modify j f)[i]? = some e' → (es.set j (p, v))[i]? = some q' → (i = j ∧ e' = f e ∧ q' = (p, v)) ∨ (ents[i]? = some e' ∧ es[i]? = some q') := by
      intro i e' q' a b
      rcases modify_at a with ⟨rfl, e0, h0, rfl⟩ | ⟨hne, h0⟩
      · rw [hj] at h0; cases h0
        rw [List.getElem?_set_self hjl] at b
        exact .inl ⟨rfl, rfl, (Option.some.inj b).symm⟩
      · rw [List.getElem?_set_ne (Ne.symm hne)] at b
        exact .inr ⟨h0, b⟩
    refine ⟨by simp [hs], ⟨fun i e' he => ?_, by simp⟩, fun q' hq => ?_, fun i e' q' a b => ?_, fun i e' q' a b => ?_⟩
    · rcases modify_at he with ⟨rfl, e0, h0, rfl⟩ | ⟨hne, h0⟩
      · rw [hfb]; exact hB1 i e0 h0
      · exact hB1 i e' h0
    · rcases List.mem_or_eq_of_mem_set hq with h | h
      · exact hko q' h
      · subst h; exact hpk
    · rcases split_ i e' q' a b with ⟨-, rfl, rfl⟩ | ⟨a, b⟩
      · show RepC w ex (f e).key p
        rw [hfk]; exact hup
      · exact hkk i e' q' a b
    · rcases split_ i e' q' a b with ⟨-, rfl, rfl⟩ | ⟨a, b⟩
      · exact hfv
      · exact hvv i e' q' a b

theorem mupdE_sound (hS : Sim w κ μ) {o : Oper} {t kt et : TypeId} {kd : KK} {m k x : Operand} (ho : o.op = .mapUpdate t m k x ∨ o.op = .insert t m k x) (ht : P.underlying t = some (.map kt et)) (hk0 : kkOf P kt = some kd)
    {ps : List PV} (hk : Known w κ ρ [m, k, x] ps) {K : PV → Option Nat → Mem → Prop} (h : effW μ (.mupd kd) ps K) : EffOk P w κ ρ o K := by
  obtain ⟨p, q, v, rfl, hp, hq, hv⟩ := known3 hk
  obtain ⟨d, hu, hkd⟩ := kkOf_spec hk0
  cases p <;> simp only [effW] at h
  rename_i tg
  split at h
  · rename_i kd' es hm
    obtain ⟨rfl, hqk, hno, hK⟩ := h
    obtain ⟨r, ents, clock, hmv, hb, hh, hs, hB, hko, hkk, hvv⟩ := rep_mref_inv hS hp hm
    have hqc := rep_atom hq hqk
    have hvc := rep_noOwn hv hno
    have hik := key_isKey hkd hqc hqk
    have exec : ∀ w', (Instr.mapUpdate t (ρ m) (ρ k) (ρ x)).run P w = .ok () w' → (execOp ρ o).run P w = .ok .skip w' := by
      intro w' hr
      rcases ho with ho | ho <;> simp [execOp, ho, hr]
    rcases key_write hu hkd hs hB hko hkk hvv hqc hqk with ⟨h1, -, -, hw⟩ | ⟨j, e, q', h1, hj, -, h4, -, -, hw⟩
    · obtain ⟨a1, a2, a3, a4, a5⟩ := hw (ρ x) v hvc
      obtain ⟨hrun, hS', hG⟩ := mp_write (P := P) hS hb hm hh a1 a2 a3 a4 a5
      refine ⟨undef, .junk, none, _, _, κ, .inr ⟨exec _ ?_, rfl⟩, hK, hS', goes_none hG, .junk _⟩
      simp only [Instr.mapUpdate, hmv, Sem.run_bind, run_underlying ht, Result.andThen_ok, MapKept.run_getObj_map hh, MapKept.run_checkKey hu hik, MapKept.run_findKey hu h1, hrun]
    · obtain ⟨a1, a2, a3, a4, a5⟩ := hw (fun e => { e with key := ρ k, val := ρ x }) v (fun _ => rfl) rfl hvc
      obtain ⟨hrun, hS', hG⟩ := mp_write (P := P) hS hb hm hh a1 a2 a3 a4 a5
      refine ⟨undef, .junk, none, _, _, κ, .inr ⟨exec _ ?_, rfl⟩, hK, hS', goes_none hG, .junk _⟩
      simp only [Instr.mapUpdate, hmv, Sem.run_bind, run_underlying ht, Result.andThen_ok, MapKept.run_getObj_map hh, MapKept.run_checkKey hu hik, MapKept.run_findKey hu h1, hj, Option.map_some, Option.getD_some, h4, MapKept.run_keyThatStays hik, hrun]
  · exact h.elim

theorem mentE_sound (hS : Sim w κ μ) {o : Oper} {t kt et : TypeId} {kd : KK} {z : PV} {m k : Operand} (ho : o.op = .mapEntry t m k) (ht : P.underlying t = some (.map kt et)) (hk0 : kkOf P kt = some kd) (hz : zeroV P et = some z)
    {ps : List PV} (hk : Known w κ ρ [m, k] ps) {K : PV → Option Nat → Mem → Prop} (h : effW μ (.ment kd z) ps K) : EffOk P w κ ρ o K := by
  obtain ⟨p, q, rfl, hp, hq⟩ := known2 hk
  obtain ⟨d, hu, hkd⟩ := kkOf_spec hk0
  obtain ⟨zv, hzr, hzc⟩ := zeroV_spec hz
  cases p <;> simp only [effW] at h
  rename_i tg
  split at h
  · rename_i kd' es hm
    obtain ⟨rfl, hqk, hK⟩ := h
    obtain ⟨r, ents, clock, hmv, hb, hh, hs, hB, hko, hkk, hvv⟩ := rep_mref_inv hS hp hm
    have hqc := rep_atom hq hqk
    have hik := key_isKey hkd hqc hqk
    have tup : ∀ {w' : World} (x : Value) (xp : PV) (n : Nat), Rep w' (own κ) κ x xp → Rep w' (own κ) κ (.tuple #[x, goInt n]) (.tup [xp, .int .i64 n]) := by
      intro w' x xp n hx
      refine .tup _ _ rfl fun i v p a b => ?_
      match i, a, b with
      | 0, a, b => simp at a b; subst a; subst b; exact hx
      | 1, a, b => simp at a b; subst a; subst b; exact .closed (.int _ _)
    rcases key_write hu hkd hs hB hko hkk hvv hqc hqk with ⟨h1, h2, -, hw⟩ | ⟨j, e, q', h1, hj, hq', h4, h5, -, hw⟩
    · have e1 : (mget es q).getD z = z := by simp [mget, h2]
      have e2 : midx es q = clock := by rw [hB.2, hs]; simp [midx, h2]
      rw [e1, e2] at hK
      obtain ⟨a1, a2, a3, a4, a5⟩ := hw zv z (hzc _ _)
      obtain ⟨hrun, hS', hG⟩ := mp_write (P := P) hS hb hm hh a1 a2 a3 a4 a5
      refine ⟨.tuple #[zv, goInt clock], _, none, _, _, κ, .inl ?_, hK, hS', goes_none hG, tup zv z clock (.closed (hzc _ _))⟩
      simp only [execOp, ho, Instr.mapEntry, hmv, Sem.run_bind, run_underlying ht, Result.andThen_ok, MapKept.run_getObj_map hh, MapKept.run_checkKey hu hik, MapKept.run_findKey hu h1, hzr, hrun, Sem.run_pure]
    · have e1 : (mget es q).getD z = q'.2 := by simp [mget, h5]
      have e2 : midx es q = j := by simp [midx, h5]
      rw [e1, e2] at hK
      have hev := hvv j e q' hj hq'
      obtain ⟨a1, a2, a3, a4, a5⟩ := hw (fun e => { e with key := ρ k }) q'.2 (fun _ => rfl) rfl hev
      obtain ⟨hrun, hS', hG⟩ := mp_write (P := P) hS hb hm hh a1 a2 a3 a4 a5
      have hbj := hB.1 j e hj
      refine ⟨.tuple #[e.val, goInt j], _, none, _, _, κ, .inl ?_, hK, hS', goes_none hG, tup e.val q'.2 j (.closed (hev.mono hG.agree))⟩
      simp only [execOp, ho, Instr.mapEntry, hmv, Sem.run_bind, run_underlying ht, Result.andThen_ok, MapKept.run_getObj_map hh, MapKept.run_checkKey hu hik, MapKept.run_findKey hu h1, hj, Option.map_some, Option.getD_some, h4, MapKept.run_keyThatStays hik, hrun, Sem.run_pure, hbj]
  · exact h.elim

theorem mstE_sound (hS : Sim w κ μ) {o : Oper} {t : TypeId} {m s x : Operand} (ho : o.op = .entryStore t m s x)
    {ps : List PV} (hk : Known w κ ρ [m, s, x] ps) {K : PV → Option Nat → Mem → Prop} (h : effW μ .mst ps K) : EffOk P w κ ρ o K := by
  obtain ⟨p, q, v, rfl, hp, hq, hv⟩ := known3 hk
  cases p <;> (try simp only [effW] at h)
  cases q <;> simp only [effW] at h
  rename_i tg kk i
  split at h
  · rename_i kd es hm
    obtain ⟨h0, hi, hno, hK⟩ := h
    obtain ⟨r, ents, clock, hmv, hb, hh, hs, hB, hko, hkk, hvv⟩ := rep_mref_inv hS hp hm
    have hvc := rep_noOwn hv hno
    have e2 := repC_int hq
    obtain ⟨j, rfl⟩ := Int.eq_ofNat_of_zero_le h0
    have hje : j < es.length := by omega
    have hjl : j < ents.size := by omega
    simp only [Int.ofNat_eq_natCast, Int.toNat_natCast] at hK
    have hfi : ents.findIdx? (fun e => (e.born : Int) == (j : Int)) = some j := by
      rw [Array.findIdx?_eq_some_iff_getElem]
      refine ⟨hjl, ?_, fun i hij => ?_⟩
      · have := hB.1 j _ (Array.getElem?_eq_getElem hjl); simp [this]
      · have := hB.1 i _ (Array.getElem?_eq_getElem (by omega)); simp [this]; omega
    have hen : enK es j = (es[j]).1 := by simp [enK, List.getD, hje]
    have a0 : ∀ (i : Nat) (e : MapEntry) (q : PV × PV), (ents.modify j fun e => { e with val := ρ x })[i]? = some e → (es.set j (enK es j, v))[i]? = some q →
        (i = j ∧ (∃ e0, ents[j]? = some e0 ∧ e = { e0 with val := ρ x }) ∧ q = (enK es j, v)) ∨ (ents[i]? = some e ∧ es[i]? = some q) := by
      intro i e q a b
      rcases modify_at a with ⟨rfl, e0, h0, rfl⟩ | ⟨hne, h0⟩
      · rw [List.getElem?_set_self hje] at b
        exact .inl ⟨rfl, ⟨e0, h0, rfl⟩, (Option.some.inj b).symm⟩
      · rw [List.getElem?_set_ne (Ne.symm hne)] at b
        exact .inr ⟨h0, b⟩
    obtain ⟨hrun, hS', hG⟩ := mp_write (P := P) (ents' := ents.modify j fun e => { e with val := ρ x }) (clock' := clock) (es' := es.set j (enK es j, v)) hS hb hm hh (by simp [hs])
      ⟨fun i e he => by
        rcases modify_at he with ⟨rfl, e0, h0, rfl⟩ | ⟨hne, h0⟩
        · exact hB.1 i e0 h0
        · exact hB.1 i e h0, by simp [hB.2]⟩
      (fun q hq => by
        rcases List.mem_or_eq_of_mem_set hq with h | h
        · exact hko q h
        · subst h; show keyOk kd (enK es j) = true
          rw [hen]; exact hko es[j] (List.getElem_mem hje))
      (fun i e q a b => by
        rcases a0 i e q a b with ⟨rfl, ⟨e0, h0, rfl⟩, rfl⟩ | ⟨a, b⟩
        · show RepC w (own κ) e0.key (enK es i)
          rw [hen]; exact hkk i e0 _ h0 (List.getElem?_eq_getElem hje)
        · exact hkk i e q a b)
      (fun i e q a b => by
        rcases a0 i e q a b with ⟨rfl, ⟨e0, h0, rfl⟩, rfl⟩ | ⟨a, b⟩
        · exact hvc
        · exact hvv i e q a b)
    refine ⟨undef, .junk, none, _, _, κ, .inr ⟨?_, rfl⟩, hK, hS', goes_none hG, .junk _⟩
    simp only [execOp, ho, Instr.entryStore, hmv, e2, Sem.run_bind, MapKept.run_getObj_map hh, Result.andThen_ok, asInt, asIntOf, Sem.run_map, Sem.run_pure, Int.ofNat_eq_natCast, hfi, hrun]
  · exact h.elim

theorem mmkE_sound (hS : Sim w κ μ) {o : Oper} {t : TypeId} {kd : KK} (ho : o.op = .makeMap t none) {ps : List PV} (hk : Known w κ ρ [] ps) {K : PV → Option Nat → Mem → Prop} (h : effW μ (.mmk kd) ps K) : EffOk P w κ ρ o K := by
  have hps : ps = [] := List.eq_nil_of_length_eq_zero hk.1.symm
  subst hps
  simp only [effW] at h
  have hG := Goes.alloc hS (.map #[] 0)
  refine ⟨.map (some w.heap.size), .mref μ.length, none, _, _, _, .inl ?_, h, hS.push (.map #[] 0) (.mp kd []) (.mp _ kd [] #[] 0 (heap_alloc_at _ _) rfl ⟨fun i e h => by simp at h, rfl⟩ (by simp) (fun i e q h => by simp at h) (fun i e q h => by simp at h)), goes_none hG, .mref _ _ (by simp)⟩
  simp [execOp, ho, RowKit.run_makeMap]

theorem rngE_sound (hS : Sim w κ μ) {o : Oper} {t k e : TypeId} {kd : KK} {x : Operand} (ho : o.op = .range t x) (ht : P.underlying t = some (.map k e)) {ps : List PV} (hk : Known w κ ρ [x] ps) {K : PV → Option Nat → Mem → Prop} (h : effW μ (.rng kd) ps K) : EffOk P w κ ρ o K := by
  obtain ⟨p, rfl, hp⟩ := known1 hk
  cases p <;> simp only [effW] at h
  · have hv := rep_nilMap hp
    have hG := Goes.alloc hS (.mapIter none 0 #[] 0)
    refine ⟨.pointer (some ⟨w.heap.size, 0, none⟩), .ref μ.length 0, none, _, _, _, .inl ?_, h, hS.push (.mapIter none 0 #[] 0) (.iter kd [] []) (.iter _ kd [] [] none (heap_alloc_at _ _) (.inl ⟨rfl, rfl⟩)), goes_none hG, .ref _ 0 _ (by simp)⟩
    simp [execOp, ho, Instr.range, hv, run_underlying ht]
  · obtain ⟨rfl, h⟩ := h
    rename_i kd' es
    obtain ⟨r, ents, clock, hv, hr, -, hh, hs, hB, -⟩ := rep_cmap_inv hp
    have hG := Goes.alloc hS (.mapIter (some r) clock #[] clock)
    have hcl : clock = es.length := by rw [hB.2, hs]
    refine ⟨.pointer (some ⟨w.heap.size, 0, none⟩), .ref μ.length 0, none, _, _, _, .inl ?_, h, hS.push (.mapIter (some r) clock #[] clock) (.iter kd' es []) ?_, goes_none hG, .ref _ 0 _ (by simp)⟩
    · simp [execOp, ho, Instr.range, hv, run_underlying ht, MapKept.run_getObj_map hh]
    · refine .iter _ kd' es [] (some r) (by rw [← hcl]; exact heap_alloc_at _ _) (.inr ⟨r, rfl, ?_⟩)
      rw [hv] at hp
      cases hp with | closed hp => exact hp.mono hG.agree

theorem nxtE_sound (hS : Sim w κ μ) {o : Oper} {x : Operand} (ho : o.op = .next x false) {ps : List PV} (hk : Known w κ ρ [x] ps) {K : PV → Option Nat → Mem → Prop} (h : effW μ .nxt ps K) : EffOk P w κ ρ o K := by
  obtain ⟨p, rfl, hp⟩ := known1 hk
  cases p <;> (try simp only [effW] at h)
  rename_i tg off
  cases off <;> simp only [effW] at h
  split at h
  · rename_i kd es seen hm
    obtain ⟨h1, h2⟩ := h
    obtain ⟨c, hc, hO⟩ := hS.at hm
    generalize hvx : ρ x = vx at hp
    cases hp with
    | closed hp => cases hp
    | ref _ _ b hb =>
      rw [hb] at hc; cases hc
      cases hO with
      | iter _ _ _ _ mo hh hmo =>
        have over : (∀ i, i < es.length → i ∈ seen) → (Instr.next (.pointer (some ⟨b, 0, none⟩)) false o.type).run P w = .ok (.tuple #[.bool false]) w → EffOk P w κ ρ o K := by
          intro hall hrun
          refine ⟨.tuple #[.bool false], .tup [.bool false], none, μ, w, κ, .inl ?_, h2 hall, hS, Goes.refl _ _ _, .tup _ _ rfl fun i v p a b => ?_⟩
          · simp [execOp, ho, hvx, hrun]
          · match i, a, b with
            | 0, a, b => simp at a b; subst a; subst b; exact .closed (.bool _)
        rcases hmo with ⟨rfl, rfl⟩ | ⟨r, rfl, hrc⟩
        · refine over (fun i hi => by simp at hi) ?_
          simp [Instr.next, getObj, Sem.run, hh]
        · obtain ⟨r', ents, clock, hv', -, -, hh', hs, hB, hko, hkk, hvv⟩ := rep_cmap_inv (κ := κ) (.closed hrc)
          cases hv'
          have hcl : clock = es.length := by rw [hB.2, hs]
          have hbo : ∀ e ∈ ents.toList, e.born < es.length ∧ ents[e.born]? = some e := by
            intro e he
            obtain ⟨i, hi⟩ := List.mem_iff_getElem?.1 he
            have hi' : ents[i]? = some e := by simpa using hi
            have := hB.1 i e hi'
            rw [this]
            exact ⟨by rw [← hs]; exact (Array.getElem?_eq_some_iff.1 hi').1, hi'⟩
          rcases run_next_at (P := P) w o.type b r es.length es.length seen.toArray ents clock hh hh' (fun e he => (hbo e he).1) (Nat.le_refl _) with ⟨hz, hrun⟩ | ⟨e, he, w1, hw1, hrun⟩
          · refine over (fun i hi => ?_) hrun
            have hie : i < ents.size := by omega
            have hbi := hB.1 i _ (Array.getElem?_eq_getElem hie)
            have : leftOf ents seen.toArray = #[] := Array.eq_empty_of_size_eq_zero hz
            unfold leftOf at this
            rw [Array.filter_eq_empty_iff] at this
            have h3 := this ents[i] (Array.getElem_mem hie)
            rw [hbi] at h3
            simpa using h3
          · have hmem := Array.mem_filter.1 (Array.mem_toList_iff.1 he)
            obtain ⟨hlt, hget⟩ := hbo e (Array.mem_toList_iff.2 hmem.1)
            have hnot : e.born ∉ seen := by simpa using hmem.2
            have hes : es[e.born]? = some es[e.born] := List.getElem?_eq_getElem hlt
            have hK := h1 e.born hlt hnot
            have eK : enK es e.born = (es[e.born]).1 := by simp [enK, List.getD, hlt]
            have eV : enV es e.born = (es[e.born]).2 := by simp [enV, List.getD, hlt]
            have hh1 : w1.heap = w.heap := by rcases hw1 with rfl | rfl <;> rfl
            have hSw : Sim w1 κ μ := by rcases hw1 with rfl | rfl; exact hS; exact hS.drew
            have hGw : Goes w κ w1 κ (fun _ => False) := by rcases hw1 with rfl | rfl; exact Goes.refl _ _ _; exact Goes.drew _ _ _
            have hsh : w1.shape? b = none := by simp [World.shape?, hh1, hh]
            have hG2 := Goes.setObj (w := w1) (o' := .mapIter (some r) es.length (seen.toArray.push e.born) clock) hb (by rw [hh1]; exact hh) hsh (fun _ => False)
            have hG := hGw.trans hG2
            refine ⟨.tuple #[.bool true, e.key, e.val], _, none, _, setH w1 b (.mapIter (some r) es.length (seen.toArray.push e.born) clock), κ, .inl ?_, hK, ?_, goes_none hG, ?_⟩
            · simp only [execOp, ho, hvx, Sem.run_bind, hrun, Result.andThen_ok, Sem.run_pure]; rfl
            · refine hSw.putObj hb hm (by rw [hh1]; exact hh) hsh (.iter b kd es (seen ++ [e.born]) (some r) ?_ (.inr ⟨r, rfl, hrc.mono hG.agree⟩))
              rw [setH_at (by rw [hh1]; exact hh), hcl]
              congr 2
              simp
            · refine .tup _ _ rfl fun i v p a b => ?_
              match i, a, b with
              | 0, a, b => simp at a b; subst a; subst b; exact .closed (.bool _)
              | 1, a, b => simp at a b; subst a; subst b; rw [eK]; exact .closed ((hkk _ e _ hget hes).mono hG.agree)
              | 2, a, b => simp at a b; subst a; subst b; rw [eV]; exact .closed ((hvv _ e _ hget hes).mono hG.agree)
  · exact h.elim

theorem entE_sound (hS : Sim w κ μ) {o : Oper} {x : Operand} (ho : o.op = .entry x) {ps : List PV} (hk : Known w κ ρ [x] ps) {K : PV → Option Nat → Mem → Prop} (h : effW μ .ent ps K) : EffOk P w κ ρ o K := by
  obtain ⟨p, rfl, hp⟩ := known1 hk
  cases p <;> (try simp only [effW] at h)
  rename_i tg off
  cases off <;> simp only [effW] at h
  split at h
  · rename_i kd es seen hm
    split at h
    · rename_i i hi
      obtain ⟨hlt, hK⟩ := h
      obtain ⟨c, hc, hO⟩ := hS.at hm
      generalize hvx : ρ x = vx at hp
      cases hp with
      | closed hp => cases hp
      | ref _ _ b hb =>
        rw [hb] at hc; cases hc
        cases hO with
        | iter _ _ _ _ mo hh hmo =>
          rcases hmo with ⟨rfl, rfl⟩ | ⟨r, rfl, hrc⟩
          · simp at hlt
          · obtain ⟨r', ents, clock, hv', -, -, hh', hs, hB, hko, hkk, hvv⟩ := rep_cmap_inv (κ := κ) (.closed hrc)
            cases hv'
            have hcl : clock = es.length := by rw [hB.2, hs]
            have hie : i < ents.size := by omega
            have hget := Array.getElem?_eq_getElem hie
            have hbi := hB.1 i _ hget
            have hes : es[i]? = some es[i] := List.getElem?_eq_getElem hlt
            have eK : enK es i = (es[i]).1 := by simp [enK, List.getD, hlt]
            have eV : enV es i = (es[i]).2 := by simp [enV, List.getD, hlt]
            obtain ⟨sn, rfl⟩ : ∃ sn, seen = sn ++ [i] := by
              rw [List.getLast?_eq_some_iff] at hi; exact hi
            have hnd : (ents.toList.map (·.born)).Nodup := by
              have : ents.toList.map (·.born) = List.range ents.size := by
                apply List.ext_getElem
                · simp
                · intro j h1 h2
                  simp at h1 h2 ⊢
                  exact hB.1 j _ (Array.getElem?_eq_getElem h2)
              rw [this]; exact List.nodup_range
            have hrun := run_entry_at (P := P) w b r es.length sn.toArray ents es.length ents[i] (by rw [hh, hbi]; congr 2; simp) (by rw [hh', hcl]) (by simp) hnd
            refine ⟨.tuple #[ents[i].key, ents[i].val], _, none, μ, w, κ, .inl ?_, hK, hS, Goes.refl _ _ _, ?_⟩
            · simp only [execOp, ho, hvx, Sem.run_bind, hrun, Result.andThen_ok, Sem.run_pure]
            · refine .tup _ _ rfl fun j v p a b => ?_
              match j, a, b with
              | 0, a, b => simp at a b; subst a; subst b; rw [eK]; exact .closed (hkk _ _ _ hget hes)
              | 1, a, b => simp at a b; subst a; subst b; rw [eV]; exact .closed (hvv _ _ _ hget hes)
    · exact h.elim
  · exact h.elim

/-- Every operation with an effect that is translated is right. -/
theorem eff_sound (hS : Sim w κ μ) {o : Oper} {ow : List Nat} {k : EK} {xs : List Operand} (hc : compileE P ow o = some (k, xs)) {ps : List PV} (hk : Known w κ ρ xs ps) {K : PV → Option Nat → Mem → Prop}
    (h : effW μ k ps K) : EffOk P w κ ρ o K := by
  unfold compileE at hc
  split at hc
  · rename_i ho
    simp only [Option.map_eq_some_iff] at hc
    obtain ⟨sh, hsh, hc⟩ := hc
    cases hc; exact storeE_sound hS ho hsh hk h
  · rename_i ho
    simp only [Option.map_eq_some_iff] at hc
    obtain ⟨⟨sh, z⟩, hsh, hc⟩ := hc
    cases hc; exact allocE_sound hS ho hsh hk h
  · rename_i ho
    simp only [Option.map_eq_some_iff] at hc
    obtain ⟨sh, hsh, hc⟩ := hc
    cases hc; exact boxE_sound hS ho hk h
  · rename_i ho
    simp only [Option.bind_eq_some_iff] at hc
    obtain ⟨⟨sh, i, z⟩, hr, hc⟩ := hc
    split at hc
    · cases hc; exact litE_sound hS ho hr ‹_› hk h
    · cases hc
  · rename_i ho
    split at hc
    · simp only [Option.bind_eq_some_iff, Option.map_eq_some_iff] at hc
      obtain ⟨⟨sh0, i, zv⟩, hr, ⟨sh, z⟩, hz, hc⟩ := hc
      cases hc; exact makeE_sound hS ho ‹_› hr hz hk h
    · cases hc
  · rename_i ho
    split at hc
    · split at hc
      · rename_i he
        cases hc
        exact s2bE_sound hS ho ‹_› ‹_› he hk h
      · cases hc
    · split at hc
      · rename_i he
        cases hc
        exact b2sE_sound hS ho ‹_› ‹_› he hk h
      · cases hc
    · cases hc
  · rename_i ho
    split at hc
    · simp only [Option.map_eq_some_iff] at hc
      obtain ⟨kd, hkd, hc⟩ := hc
      cases hc; exact mmkE_sound hS ho hk h
    · cases hc
  · rename_i ho
    split at hc
    · simp only [Option.map_eq_some_iff] at hc
      obtain ⟨kd, hkd, hc⟩ := hc
      cases hc; exact mupdE_sound hS (.inl ho) ‹_› hkd hk h
    · cases hc
  · rename_i ho
    split at hc
    · simp only [Option.map_eq_some_iff] at hc
      obtain ⟨kd, hkd, hc⟩ := hc
      cases hc; exact mupdE_sound hS (.inr ho) ‹_› hkd hk h
    · cases hc
  · rename_i ho
    split at hc
    · simp only [Option.bind_eq_some_iff] at hc
      obtain ⟨kd, hkd, z, hz, hc⟩ := hc
      split at hc
      · cases hc; exact mentE_sound hS ho ‹_› hkd hz hk h
      · cases hc
    · cases hc
  · rename_i ho
    cases hc; exact mstE_sound hS ho hk h
  · rename_i ho
    split at hc
    · simp only [Option.map_eq_some_iff] at hc
      obtain ⟨kd, hkd, hc⟩ := hc
      cases hc; exact rngE_sound hS ho ‹_› hk h
    · cases hc
  · rename_i ho
    cases hc; exact nxtE_sound hS ho hk h
  · rename_i ho
    cases hc; exact entE_sound hS ho hk h
  · rename_i c ho
    split at hc
    · rename_i h1 h2 h3
      split at hc
      · rename_i ht
        subst ht
        simp only [Option.map_eq_some_iff] at hc
        obtain ⟨⟨sh, i, z⟩, hr, hc⟩ := hc
        cases hc
        obtain ⟨cal, args, ts⟩ := c
        simp only at h1 h2 h3
        subst h1
        have e1 := congrArg List.toArray h2
        have e2 := congrArg List.toArray h3
        simp at e1 e2
        subst e1 e2
        exact appendE_sound hS ho hr hk h
      · cases hc
    · cases hc
  · cases hc

end
end PG
