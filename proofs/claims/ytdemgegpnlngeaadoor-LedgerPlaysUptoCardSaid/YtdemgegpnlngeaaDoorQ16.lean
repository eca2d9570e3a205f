import Derived.Test.YtdemgegpnlngeaaDoorProg
import Derived.KernelRfl
import Derived.Test.YtdemgegpnlngeaaDoorQ15
import Derived.Test.YtdemgegpnlngeaaDoorP3
namespace Go.Proofs.YtdemgegpnlngeaaDoor
open Go PG Go.Proofs
set_option linter.unusedSimpArgs false
set_option linter.unusedVariables false
set_option maxHeartbeats 1000000
set_option maxRecDepth 100000
/-! What accounts a ledger has -/
def nms (es : List Ent4) : List (List UInt8) := es.flatMap fun e => [e.d, e.c]
theorem nms_app (a b : List Ent4) : nms (a ++ b) = nms a ++ nms b := by simp [nms]
theorem nms_cons (e : Ent4) (a : List Ent4) : nms (e :: a) = e.d :: e.c :: nms a := by simp [nms]
theorem nms_len (a : List Ent4) : (nms a).length = 2 * a.length := by
  induction a with
  | nil => rfl
  | cons e a ih => rw [nms_cons]; simp [ih]; omega
abbrev keysB (m : Bal) : List (List UInt8) := m.map (·.1)
structure LgK (l : Lg) : Prop where
  nodup : (keysB l.map).Nodup
  mem : ∀ s, s ∈ keysB l.map ↔ s ∈ nms l.bs.flatten
theorem mem_aset (m : Bal) (k : List UInt8) (v : Int) (s : List UInt8) : s ∈ keysB (aset m k v) ↔ s = k ∨ s ∈ keysB m := by
  simp only [keysB]
  rw [aset_keys]
  split
  · rename_i h
    constructor
    · exact .inr
    · rintro (rfl | h'); exact h; exact h'
  · simp only [List.mem_append, List.mem_singleton]
    constructor
    · rintro (h | h); exact .inr h; exact .inl h
    · rintro (h | h); exact .inr h; exact .inl h
theorem postB_keys : ∀ {es : List Ent4} {m m' : Bal}, postB m es = some m' → (keysB m).Nodup → (keysB m').Nodup ∧ ∀ s, s ∈ keysB m' ↔ s ∈ keysB m ∨ s ∈ nms es
  | [], m, m', h, hn => by cases h; exact ⟨hn, fun s => by simp [nms]⟩
  | e :: es, m, m', h, hn => by
    simp only [postB] at h
    split at h
    · cases h
    obtain ⟨h1, h2⟩ := postB_keys h (by unfold post1; exact aset_nodup (aset_nodup hn _ _) _ _)
    refine ⟨h1, fun s => ?_⟩
    rw [h2 s]
    unfold post1
    rw [mem_aset, mem_aset, nms_cons]
    simp only [List.mem_cons]
    constructor
    · rintro ((h | h | h) | h)
      · exact .inr (.inr (.inl h))
      · exact .inr (.inl h)
      · exact .inl h
      · exact .inr (.inr (.inr h))
    · rintro (h | h | h | h)
      · exact .inl (.inr (.inr h))
      · exact .inl (.inr (.inl h))
      · exact .inl (.inl h)
      · exact .inr h
theorem LgK_nil : LgK lg0 := ⟨by simp [Lg.map, keysB], fun s => by simp [Lg.map, keysB, nms]⟩
theorem postM_K {l : Lg} (h : LgK l) (es : List Ent4) : LgK (postM l es).1 := by
  unfold postM
  split
  · exact h
  split
  · exact h
  cases hq : postB l.map es with
  | none => exact h
  | some m =>
    obtain ⟨h1, h2⟩ := postB_keys hq h.nodup
    refine ⟨h1, fun s => ?_⟩
    show s ∈ keysB m ↔ _
    rw [h2 s, h.mem s]
    simp [nms_app]
theorem splitB_count (b : UInt8) : ∀ s : List UInt8, (splitB b s).flatten.length + (splitB b s).length = s.length + 1
  | [] => rfl
  | x :: l => by
    have ih := splitB_count b l
    simp only [splitB]
    split
    · simp only [List.flatten_cons, List.nil_append, List.length_cons]; omega
    · cases h : splitB b l with
      | nil => exact absurd h (splitB_ne b l)
      | cons p ps =>
        rw [h] at ih
        simp only [List.flatten_cons, List.length_append, List.length_cons] at ih ⊢; omega
theorem flat_le {k : Nat} : ∀ {l : List (List UInt8)}, (∀ p ∈ l, p.length ≤ k) → l.flatten.length ≤ k * l.length
  | [], _ => by simp
  | p :: l, h => by
    have h1 := h p (by simp)
    have h2 := flat_le (l := l) fun q hq => h q (by simp [hq])
    simp only [List.flatten_cons, List.length_append, List.length_cons, Nat.mul_add]; omega
theorem accOk_len {s : List UInt8} (h : accOk s = true) : s.length ≤ 98 := by
  unfold accOk at h
  simp only [Bool.and_eq_true, decide_eq_true_eq, List.all_eq_true] at h
  obtain ⟨h1, h2⟩ := h
  have h3 := splitB_count 47 s
  have h4 := flat_le (l := splitB 47 s) (k := 32) (fun p hp => by
    have := h2 p hp
    simp only [partOk, Bool.and_eq_true, decide_eq_true_eq] at this
    exact this.1.2)
  omega
theorem chk0_acc {e : Ent4} (h : chk e = 0) : accOk e.d = true ∧ accOk e.c = true := by
  unfold chk at h
  split at h
  · simp at h
  · rename_i h1
    simp only [not_or, Bool.not_eq_false] at h1
    exact h1
theorem key_len {l : Lg} (hW : LgW l) (hK : LgK l) : ∀ s ∈ keysB l.map, s.length ≤ 98 := by
  intro s hs
  rw [hK.mem s] at hs
  obtain ⟨e, he, hs⟩ := List.mem_flatMap.1 hs
  obtain ⟨b, hb, he⟩ := List.mem_flatten.1 he
  have := chk0_acc ((batch0 (hW.ok b hb)).2.2 e he)
  simp only [List.mem_cons, List.not_mem_nil, or_false] at hs
  rcases hs with rfl | rfl
  · exact accOk_len this.1
  · exact accOk_len this.2
theorem nodup_len : ∀ {a b : List (List UInt8)}, a.Nodup → (∀ x ∈ a, x ∈ b) → a.length ≤ b.length
  | [], b, _, _ => by simp
  | x :: a, b, hn, h => by
    have hx := h x (by simp)
    rw [List.nodup_cons] at hn
    have := nodup_len (a := a) (b := b.erase x) hn.2 (fun y hy => by
      have hne : y ≠ x := fun e => hn.1 (e ▸ hy)
      exact (List.mem_erase_of_ne hne).2 (h y (by simp [hy])))
    rw [List.length_erase_of_mem hx] at this
    have : 0 < b.length := List.length_pos_of_mem hx
    simp only [List.length_cons]; omega
theorem keys_count {l : Lg} (hW : LgW l) (hK : LgK l) : (keysB l.map).length ≤ 536870912 := by
  have h := nodup_len hK.nodup (fun s hs => (hK.mem s).1 hs)
  rw [nms_len] at h
  have := hW.flat
  omega
/-! Accounts, as a list -/
def accK (l : Lg) : List (List UInt8) := (keysB l.map).mergeSort (fun x y => decide (x ≤ y))
theorem accK_mem (l : Lg) (s : List UInt8) : s ∈ accK l ↔ s ∈ keysB l.map := (List.mergeSort_perm _ _).mem_iff
theorem accK_len (l : Lg) : (accK l).length = (keysB l.map).length := (List.mergeSort_perm _ _).length_eq
theorem le_trans' (a b c : List UInt8) : decide (a ≤ b) = true → decide (b ≤ c) = true → decide (a ≤ c) = true := by
  simp only [decide_eq_true_eq]; exact List.le_trans
theorem le_total' (a b : List UInt8) : (decide (a ≤ b) || decide (b ≤ a)) = true := by
  simp only [Bool.or_eq_true, decide_eq_true_eq]; exact List.le_total a b
theorem accK_sorted (l : Lg) : (accK l).Pairwise (fun a b => a ≤ b) := by
  have := List.pairwise_mergeSort (le := fun x y : List UInt8 => decide (x ≤ y)) le_trans' le_total' (keysB l.map)
  exact this.imp (by simp)
theorem accK_nodup {l : Lg} (h : LgK l) : (accK l).Nodup := (List.mergeSort_perm _ _).nodup_iff.2 h.nodup
theorem v33F (l : Lg) (hW : LgW l) (hK : LgK l) : FCalls Tryd.prog G0 33 [lgP l] (fun p ν => p = .sl none 0 ((accK l).map PV.str).length ∧ ν = [some (.row none ((accK l).map PV.str))]) := by
  refine FCalls.row 23 (fun x hx => by obtain ⟨s, -, rfl⟩ := List.mem_map.1 hx; exact ⟨by simp [PV.scalar], by simp [PV.flat]⟩) ?_
  intro w ex vs hex hG hr
  obtain ⟨hs, hr⟩ := hr
  obtain ⟨L⟩ := vs
  have hval : ∀ (w' : World) (j : Nat) (p : PV) (u : Value), ((accK l).map PV.str)[j]? = some p → ((accK l).map Go.Proofs.encStr)[j]? = some u → RepC w' ex u p := by
    intro w' j p u hp hu
    rw [List.getElem?_map] at hp hu
    cases hq : (accK l)[j]? with
    | none => rw [hq] at hp; cases hp
    | some s =>
      rw [hq] at hp hu
      simp only [Option.map_some, Option.some.injEq] at hp hu
      subst hp; subst hu
      have := RepC.str (w := w') (ex := ex) ⟨s.toArray⟩
      simpa [Go.Proofs.encStr] using this
  match L, hs with
  | [v], _ =>
    have h0 := hr 0 v _ rfl rfl
    have hlen := key_len hW hK
    have hcount := keys_count hW hK
    have hnd := hK.nodup
    rcases l with ⟨bs, _ | m⟩
    · simp only [lgP, balP] at h0
      cases h0 with
      | agg vs' _ hs' hr' =>
      obtain ⟨L'⟩ := vs'
      match L', hs' with
      | [a, b], _ =>
        have h1 := hr' 1 b _ rfl rfl
        cases h1
        refine (w33n a w).mono ?_
        rintro e w' ⟨rfl, hB⟩
        have hz : (accK ⟨bs, none⟩).map PV.str = [] := by simp [accK, Lg.map, keysB]
        rw [hz]
        exact ⟨_, [], rfl, ⟨rfl, .inl ⟨rfl, rfl⟩⟩, ⟨(fun j p u hp hu => by simp at hp), hB⟩⟩
    · simp only [lgP, balP] at h0
      cases h0 with
      | agg vs' _ hs' hr' =>
      obtain ⟨L'⟩ := vs'
      match L', hs' with
      | [a, b], _ =>
        have h1 := hr' 1 b _ rfl rfl
        cases h1 with
        | cmap r _ _ ents clock hx h hsz hb hkd hk hv =>
          simp only [Lg.map, Option.getD_some, keysB] at hlen hcount hnd
          have hml : m.length ≤ 536870912 := by simpa using hcount
          obtain ⟨D0, o1, o2, o3⟩ := keysOf_w hnd (fun s hs => Nat.le_trans (hlen s hs) (by unfold maxLen; omega)) (by unfold maxLen; omega) h hsz hb hk
          refine (w33 a r ents.size D0 _ w o1 (by rw [o2]; unfold maxLen; omega) (by rw [o2]; omega)).mono ?_
          rintro e w' ⟨v, ss, rfl, hp, hrow, -, hB⟩
          have hss : ss.mergeSort (fun x y => decide (x ≤ y)) = accK ⟨bs, some m⟩ :=
            List.Perm.eq_of_pairwise (le := fun x y : List UInt8 => x ≤ y) (fun a b _ _ h1 h2 => List.le_antisymm h1 h2)
              ((List.pairwise_mergeSort le_trans' le_total' ss).imp (by simp)) (accK_sorted _) ((List.mergeSort_perm _ _).trans ((hp.trans o3).trans (List.mergeSort_perm _ _).symm))
          have hl2 : ss.length = ((accK ⟨bs, some m⟩).map PV.str).length := by rw [← hss]; simp
          rw [hss, hl2] at hrow
          exact ⟨v, _, rfl, hrow, hval w', hB⟩
theorem v33 (l : Lg) (hW : LgW l) (hK : LgK l) : VCalls Tryd.prog G0 33 [lgP l] (.list none ((accK l).map PV.str)) :=
  (v33F l hW hK).val (by rintro p ν ⟨rfl, rfl⟩; (simp [PV.seen, PV.view, Mem.get]; exact List.take_of_length_le (by simp)))
end Go.Proofs.YtdemgegpnlngeaaDoor

namespace Go.Proofs.YtdemgegpnlngeaaDoor
open PG Go.Proofs
-- wagebook/wagebooklaw33.LedgerMoves
def L12 : List Nat := [0, 2, 3, 4, 6, 7, 8, 9, 10, 11, 12, 15, 17, 18, 19, 20, 41, 72]
def c12 : CF := ⟨83,
  .seq (.region false [⟨some 2, none, .rd .mov [.pv (.bool false)]⟩] L12)
  (.seq (.seq (.region false [⟨some 13, none, .rd .mov [.tmp 0]⟩,
      ⟨some 14, none, .call (.pv (.fn 32 [] [])) [.tmp 13]⟩,
      ⟨some 15, none, .rd (.un .not) [.tmp 14]⟩] L12)
   (.cond (.tmp 15)
    (.seq (.region false [⟨some 16, none, .call (.pv (.fn 13 [] [])) []⟩,
        ⟨some 2, none, .rd .mov [.tmp 16]⟩] L12)
     (.ret))
    (.skip)))
  (.seq (.region false [⟨some 3, none, .eff (.alloc (some 2) (.agg [.nilSl, .nilMap])) []⟩] L12)
  (.seq (.region false [⟨some 4, none, .rd .mov [.pv .nilSl]⟩] L12)
  (.seq (.seq (.region false [⟨some 17, none, .rd .mov [.tmp 0]⟩,
      ⟨some 18, none, .rd .lenL [.tmp 17]⟩,
      ⟨some 19, none, .rd .mov [.pv (.int .i64 0)]⟩] L12)
   (.block 0
    (.loop
      (.seq (.region false [⟨some 20, none, .rd (.bin .lss) [.tmp 19, .tmp 18]⟩] L12)
       (.seq (.cond (.tmp 20)
         (.skip)
         (.exit 0))
       (.seq (.block 1
         (.seq (.region false [⟨some 21, none, .rd (.idxAddr (some 3)) [.tmp 17, .tmp 19]⟩,
             ⟨some 22, none, .rd (.load (some 3)) [.tmp 21]⟩,
             ⟨some 6, none, .eff (.alloc (some 3) (.agg [(.bool false), (.int .i64 0), .nilSl])) []⟩,
             ⟨none, none, .eff (.store (some 3)) [.tmp 6, .tmp 22]⟩] L12)
          (.seq (.region false [⟨some 23, none, .rd (.load (some 2)) [.tmp 3]⟩,
             ⟨some 24, none, .rd .mov [.tmp 4]⟩,
             ⟨some 7, none, .eff (.alloc (some 2) (.agg [.nilSl, .nilMap])) []⟩,
             ⟨none, none, .eff (.store (some 2)) [.tmp 7, .tmp 23]⟩,
             ⟨some 8, none, .rd .mov [.tmp 24]⟩] L12)
          (.seq (.region false [⟨some 26, none, .rd (.load (some 2)) [.tmp 3]⟩,
             ⟨some 27, none, .rd (.fldAddr 2) [.tmp 6]⟩,
             ⟨some 28, none, .rd (.load none) [.tmp 27]⟩,
             ⟨some 29, none, .call (.pv (.fn 14 [] [])) [.tmp 26, .tmp 28]⟩,
             ⟨some 25, none, .rd .mov [.tmp 29]⟩,
             ⟨some 30, none, .rd (.ext 0) [.tmp 25]⟩,
             ⟨some 31, none, .rd (.ext 1) [.tmp 25]⟩,
             ⟨some 9, none, .eff (.alloc (some 2) (.agg [.nilSl, .nilMap])) []⟩,
             ⟨none, none, .eff (.store (some 2)) [.tmp 9, .tmp 30]⟩,
             ⟨some 10, none, .rd .mov [.tmp 31]⟩] L12)
          (.seq (.region false [⟨some 33, none, .rd .mov [.tmp 4]⟩,
             ⟨some 34, none, .rd (.fldAddr 2) [.tmp 6]⟩,
             ⟨some 35, none, .rd (.load none) [.tmp 34]⟩,
             ⟨some 36, none, .call (.pv (.fn 16 [] [])) [.tmp 35]⟩,
             ⟨some 37, none, .call (.pv (.fn 34 [] [])) [.tmp 33, .tmp 36]⟩,
             ⟨some 32, none, .rd .mov [.tmp 37]⟩,
             ⟨some 38, none, .rd (.ext 0) [.tmp 32]⟩,
             ⟨some 39, none, .rd (.ext 1) [.tmp 32]⟩,
             ⟨some 11, none, .rd .mov [.tmp 38]⟩,
             ⟨some 12, none, .rd .mov [.tmp 39]⟩] L12)
          (.seq (.seq (.region false [⟨some 40, none, .rd (.fldAddr 0) [.tmp 6]⟩,
              ⟨some 41, none, .rd (.load none) [.tmp 40]⟩] L12)
           (.cond (.tmp 41)
            (.seq (.region false [⟨some 43, none, .rd (.load (some 2)) [.tmp 3]⟩,
                ⟨some 44, none, .rd (.fldAddr 1) [.tmp 6]⟩,
                ⟨some 45, none, .rd (.load none) [.tmp 44]⟩,
                ⟨some 46, none, .call (.pv (.fn 35 [] [])) [.tmp 43, .tmp 45]⟩,
                ⟨some 42, none, .rd .mov [.tmp 46]⟩,
                ⟨some 47, none, .rd (.ext 0) [.tmp 42]⟩,
                ⟨some 48, none, .rd (.ext 1) [.tmp 42]⟩,
                ⟨none, none, .eff (.store (some 2)) [.tmp 9, .tmp 47]⟩,
                ⟨some 10, none, .rd .mov [.tmp 48]⟩] L12)
             (.region false [⟨some 50, none, .rd .mov [.tmp 4]⟩,
               ⟨some 51, none, .rd (.fldAddr 1) [.tmp 6]⟩,
               ⟨some 52, none, .rd (.load none) [.tmp 51]⟩,
               ⟨some 53, none, .call (.pv (.fn 36 [] [])) [.tmp 50, .tmp 52]⟩,
               ⟨some 49, none, .rd .mov [.tmp 53]⟩,
               ⟨some 54, none, .rd (.ext 0) [.tmp 49]⟩,
               ⟨some 55, none, .rd (.ext 1) [.tmp 49]⟩,
               ⟨some 11, none, .rd .mov [.tmp 54]⟩,
               ⟨some 12, none, .rd .mov [.tmp 55]⟩] L12))
            (.skip)))
          (.seq (.region false [⟨some 56, none, .rd (.load (some 2)) [.tmp 9]⟩,
             ⟨some 57, none, .rd .mov [.tmp 11]⟩,
             ⟨none, none, .eff (.store (some 2)) [.tmp 3, .tmp 56]⟩,
             ⟨some 4, none, .rd .mov [.tmp 57]⟩] L12)
          (.seq (.region false [⟨some 58, none, .rd .mov [.tmp 10]⟩,
             ⟨some 59, none, .rd .mov [.tmp 12]⟩,
             ⟨some 60, none, .rd (.bin .neq) [.tmp 58, .tmp 59]⟩,
             ⟨some 61, none, .rd .mov [.tmp 60]⟩,
             ⟨some 62, some (61, false), .rd (.load (some 2)) [.tmp 3]⟩,
             ⟨some 63, some (61, false), .rd .mov [.tmp 4]⟩,
             ⟨some 64, some (61, false), .call (.pv (.fn 37 [] [])) [.tmp 62, .tmp 63]⟩,
             ⟨some 65, some (61, false), .rd (.un .not) [.tmp 64]⟩,
             ⟨some 66, none, .rd .pick [.tmp 61, .pv (.bool true), .tmp 65]⟩,
             ⟨some 67, none, .rd .mov [.tmp 66]⟩,
             ⟨some 68, some (67, false), .rd (.load (some 2)) [.tmp 7]⟩,
             ⟨some 69, some (67, false), .rd .mov [.tmp 8]⟩,
             ⟨some 70, some (67, false), .call (.pv (.fn 37 [] [])) [.tmp 68, .tmp 69]⟩,
             ⟨some 71, some (67, false), .rd (.un .not) [.tmp 70]⟩,
             ⟨some 72, none, .rd .pick [.tmp 67, .pv (.bool true), .tmp 71]⟩] L12)
          (.cond (.tmp 72)
           (.seq (.region false [⟨some 2, none, .rd .mov [.pv (.bool false)]⟩] L12)
            (.ret))
           (.skip))))))))))
       (.region false [⟨some 73, none, .rd (.bin .add) [.tmp 19, .pv (.int .i64 1)]⟩,
         ⟨some 19, none, .rd .mov [.tmp 73]⟩] L12)))))))
  (.seq (.region false [⟨some 74, none, .call (.pv (.fn 13 [] [])) []⟩,
     ⟨some 75, none, .rd .mov [.tmp 74]⟩,
     ⟨some 76, some (75, true), .rd (.load (some 2)) [.tmp 3]⟩,
     ⟨some 77, some (75, true), .call (.pv (.fn 19 [] [])) [.tmp 76, .pv (.str [110, 111, 47, 115, 117, 99, 104])]⟩,
     ⟨some 78, some (75, true), .rd .mov [.tmp 4]⟩,
     ⟨some 79, some (75, true), .call (.pv (.fn 39 [] [])) [.tmp 78]⟩,
     ⟨some 80, some (75, true), .call (.pv (.fn 38 [] [])) [.tmp 79, .pv (.str [110, 111, 47, 115, 117, 99, 104])]⟩,
     ⟨some 81, some (75, true), .rd (.bin .eql) [.tmp 77, .tmp 80]⟩,
     ⟨some 82, none, .rd .pick [.tmp 75, .tmp 81, .pv (.bool false)]⟩,
     ⟨some 2, none, .rd .mov [.tmp 82]⟩] L12)
  (.ret)))))),
  [.tmp 2]⟩

-- wagebook/wagebooklaw33.few
def L32 : List Nat := [0, 2, 3, 5, 6, 7, 8, 9]
def c32 : CF := ⟨21,
  .seq (.region false [⟨some 2, none, .rd .mov [.pv (.bool false)]⟩] L32)
  (.seq (.region false [⟨some 3, none, .rd .mov [.pv (.int .i64 0)]⟩] L32)
  (.seq (.seq (.region false [⟨some 6, none, .rd .mov [.tmp 0]⟩,
      ⟨some 7, none, .rd .lenL [.tmp 6]⟩,
      ⟨some 8, none, .rd .mov [.pv (.int .i64 0)]⟩] L32)
   (.block 0
    (.loop
      (.seq (.region false [⟨some 9, none, .rd (.bin .lss) [.tmp 8, .tmp 7]⟩] L32)
       (.seq (.cond (.tmp 9)
         (.skip)
         (.exit 0))
       (.seq (.block 1
         (.seq (.region false [⟨some 10, none, .rd (.idxAddr (some 3)) [.tmp 6, .tmp 8]⟩,
             ⟨some 11, none, .rd (.load (some 3)) [.tmp 10]⟩,
             ⟨some 5, none, .eff (.alloc (some 3) (.agg [(.bool false), (.int .i64 0), .nilSl])) []⟩,
             ⟨none, none, .eff (.store (some 3)) [.tmp 5, .tmp 11]⟩] L32)
          (.region false [⟨some 12, none, .rd .mov [.tmp 3]⟩,
            ⟨some 13, none, .rd (.fldAddr 2) [.tmp 5]⟩,
            ⟨some 14, none, .rd (.load none) [.tmp 13]⟩,
            ⟨some 15, none, .rd .lenL [.tmp 14]⟩,
            ⟨some 16, none, .rd (.bin .add) [.pv (.int .i64 4), .tmp 15]⟩,
            ⟨some 17, none, .rd (.bin .add) [.tmp 12, .tmp 16]⟩,
            ⟨some 3, none, .rd .mov [.tmp 17]⟩] L32)))
       (.region false [⟨some 18, none, .rd (.bin .add) [.tmp 8, .pv (.int .i64 1)]⟩,
         ⟨some 8, none, .rd .mov [.tmp 18]⟩] L32)))))))
  (.seq (.region false [⟨some 19, none, .rd .mov [.tmp 3]⟩,
     ⟨some 20, none, .rd (.bin .leq) [.tmp 19, .pv (.int .i64 250)]⟩,
     ⟨some 2, none, .rd .mov [.tmp 20]⟩] L32)
  (.ret)))),
  [.tmp 2]⟩

-- (wagebook/ledger.Ledger).Reverse
def L35 : List Nat := [0, 1, 2, 4, 5, 6, 7, 8, 13, 15, 16, 17, 18]
def c35 : CF := ⟨40,
  .seq (.region false [⟨some 2, none, .eff (.box (some 2)) [.tmp 0]⟩,
     ⟨some 4, none, .eff (.alloc (some 2) (.agg [.nilSl, .nilMap])) []⟩,
     ⟨some 5, none, .rd .mov [.pv (.int .i64 0)]⟩] L35)
  (.seq (.region false [⟨some 9, none, .rd (.load (some 2)) [.tmp 2]⟩,
     ⟨some 10, none, .rd .mov [.tmp 1]⟩,
     ⟨some 11, none, .call (.pv (.fn 47 [] [])) [.tmp 9, .tmp 10]⟩,
     ⟨some 6, none, .rd .mov [.tmp 11]⟩] L35)
  (.seq (.seq (.region false [⟨some 12, none, .rd .mov [.tmp 6]⟩,
      ⟨some 13, none, .rd (.nilEq false 0) [.tmp 12, .pv .nilSl]⟩] L35)
   (.cond (.tmp 13)
    (.seq (.region false [⟨some 14, none, .rd (.load (some 2)) [.tmp 2]⟩,
        ⟨none, none, .eff (.store (some 2)) [.tmp 4, .tmp 14]⟩,
        ⟨some 5, none, .rd .mov [.pv (.int .i64 6)]⟩] L35)
     (.ret))
    (.skip)))
  (.seq (.seq (.region false [⟨some 15, none, .rd .mov [.tmp 6]⟩,
      ⟨some 16, none, .rd .lenL [.tmp 15]⟩,
      ⟨some 17, none, .rd .mov [.pv (.int .i64 0)]⟩] L35)
   (.block 0
    (.loop
      (.seq (.region false [⟨some 18, none, .rd (.bin .lss) [.tmp 17, .tmp 16]⟩] L35)
       (.seq (.cond (.tmp 18)
         (.skip)
         (.exit 0))
       (.seq (.block 1
         (.seq (.region false [⟨some 19, none, .rd .mov [.tmp 17]⟩,
             ⟨some 20, none, .rd (.idxAddr (some 4)) [.tmp 15, .tmp 17]⟩,
             ⟨some 21, none, .rd (.load (some 4)) [.tmp 20]⟩,
             ⟨some 8, none, .eff (.alloc (some 4) (.agg [(.str []), (.str []), (.int .i64 0), (.str [])])) []⟩,
             ⟨some 7, none, .rd .mov [.tmp 19]⟩,
             ⟨none, none, .eff (.store (some 4)) [.tmp 8, .tmp 21]⟩] L35)
          (.regionA (.alt [⟨some 22, none, .rd .mov [.tmp 6]⟩,
             ⟨some 23, none, .rd .mov [.tmp 7]⟩,
             ⟨some 24, none, .rd .mov [.tmp 6]⟩,
             ⟨some 25, none, .rd .mov [.tmp 7]⟩,
             ⟨some 26, none, .rd (.fldAddr 1) [.tmp 8]⟩,
             ⟨some 28, none, .rd (.fldAddr 0) [.tmp 8]⟩]
            (.alt [⟨some 27, none, .rd (.load none) [.tmp 26]⟩,
              ⟨some 30, none, .rd (.idxAddr (some 4)) [.tmp 22, .tmp 23]⟩,
              ⟨some 31, none, .rd (.fldAddr 0) [.tmp 30]⟩]
             (.alt [⟨some 29, none, .rd (.load none) [.tmp 28]⟩,
               ⟨none, none, .eff (.store none) [.tmp 31, .tmp 27]⟩,
               ⟨some 32, none, .rd (.idxAddr (some 4)) [.tmp 24, .tmp 25]⟩,
               ⟨some 33, none, .rd (.fldAddr 1) [.tmp 32]⟩,
               ⟨none, none, .eff (.store none) [.tmp 33, .tmp 29]⟩]
              .done
              (.alt [⟨none, none, .eff (.store none) [.tmp 31, .tmp 27]⟩,
                ⟨some 29, none, .rd (.load none) [.tmp 28]⟩,
                ⟨some 32, none, .rd (.idxAddr (some 4)) [.tmp 24, .tmp 25]⟩,
                ⟨some 33, none, .rd (.fldAddr 1) [.tmp 32]⟩,
                ⟨none, none, .eff (.store none) [.tmp 33, .tmp 29]⟩]
               .done
               .stop))
             (.alt [⟨some 29, none, .rd (.load none) [.tmp 28]⟩,
               ⟨some 27, none, .rd (.load none) [.tmp 26]⟩,
               ⟨some 30, none, .rd (.idxAddr (some 4)) [.tmp 22, .tmp 23]⟩,
               ⟨some 31, none, .rd (.fldAddr 0) [.tmp 30]⟩,
               ⟨none, none, .eff (.store none) [.tmp 31, .tmp 27]⟩,
               ⟨some 32, none, .rd (.idxAddr (some 4)) [.tmp 24, .tmp 25]⟩,
               ⟨some 33, none, .rd (.fldAddr 1) [.tmp 32]⟩,
               ⟨none, none, .eff (.store none) [.tmp 33, .tmp 29]⟩]
              .done
              .stop))
            .stop) L35)))
       (.region false [⟨some 34, none, .rd (.bin .add) [.tmp 17, .pv (.int .i64 1)]⟩,
         ⟨some 17, none, .rd .mov [.tmp 34]⟩] L35)))))))
  (.seq (.region false [⟨some 35, none, .rd (.load (some 2)) [.tmp 2]⟩,
     ⟨some 36, none, .rd .mov [.tmp 6]⟩,
     ⟨some 37, none, .call (.pv (.fn 14 [] [])) [.tmp 35, .tmp 36]⟩,
     ⟨some 38, none, .rd (.ext 0) [.tmp 37]⟩,
     ⟨some 39, none, .rd (.ext 1) [.tmp 37]⟩,
     ⟨none, none, .eff (.store (some 2)) [.tmp 4, .tmp 38]⟩,
     ⟨some 5, none, .rd .mov [.tmp 39]⟩] L35)
  (.ret))))),
  [.cell 4 (some 2), .tmp 5]⟩

-- wagebook/wagebookref33.Reverse
def L36 : List Nat := [0, 1, 4, 5, 6, 7, 8, 16, 25]
def c36 : CF := ⟨51,
  .seq (.region false [⟨some 4, none, .rd .mov [.pv .nilSl]⟩,
     ⟨some 5, none, .rd .mov [.pv (.int .i64 0)]⟩] L36)
  (.seq (.seq (.region false [⟨some 9, none, .rd .mov [.tmp 1]⟩,
      ⟨some 10, none, .rd (.bin .lss) [.tmp 9, .pv (.int .i64 1)]⟩,
      ⟨some 11, none, .rd .mov [.tmp 10]⟩,
      ⟨some 12, some (11, false), .rd .mov [.tmp 1]⟩,
      ⟨some 13, some (11, false), .rd .mov [.tmp 0]⟩,
      ⟨some 14, some (11, false), .rd .lenL [.tmp 13]⟩,
      ⟨some 15, some (11, false), .rd (.bin .gtr) [.tmp 12, .tmp 14]⟩,
      ⟨some 16, none, .rd .pick [.tmp 11, .pv (.bool true), .tmp 15]⟩] L36)
   (.cond (.tmp 16)
    (.seq (.region false [⟨some 17, none, .rd .mov [.tmp 0]⟩,
        ⟨some 4, none, .rd .mov [.tmp 17]⟩,
        ⟨some 5, none, .rd .mov [.pv (.int .i64 6)]⟩] L36)
     (.ret))
    (.skip)))
  (.seq (.region false [⟨some 6, none, .rd .mov [.pv .nilSl]⟩] L36)
  (.seq (.seq (.region false [⟨some 7, none, .rd .mov [.pv (.int .i64 0)]⟩] L36)
   (.block 0
    (.loop
      (.seq (.seq (.region false [⟨some 18, none, .rd .mov [.tmp 7]⟩,
           ⟨some 19, none, .rd .mov [.tmp 0]⟩,
           ⟨some 20, none, .rd .mov [.tmp 1]⟩,
           ⟨some 21, none, .rd (.bin .sub) [.tmp 20, .pv (.int .i64 1)]⟩,
           ⟨some 22, none, .rd (.idxAddr none) [.tmp 19, .tmp 21]⟩,
           ⟨some 23, none, .rd (.load none) [.tmp 22]⟩,
           ⟨some 24, none, .rd .lenL [.tmp 23]⟩,
           ⟨some 25, none, .rd (.bin .lss) [.tmp 18, .tmp 24]⟩] L36)
        (.cond (.tmp 25)
         (.skip)
         (.exit 0)))
       (.seq (.block 1
         (.seq (.region false [⟨some 28, none, .rd .mov [.tmp 0]⟩,
             ⟨some 29, none, .rd .mov [.tmp 1]⟩,
             ⟨some 30, none, .rd (.bin .sub) [.tmp 29, .pv (.int .i64 1)]⟩,
             ⟨some 31, none, .rd (.idxAddr none) [.tmp 28, .tmp 30]⟩,
             ⟨some 32, none, .rd (.load none) [.tmp 31]⟩,
             ⟨some 33, none, .rd .mov [.tmp 7]⟩,
             ⟨some 34, none, .rd (.idxAddr (some 4)) [.tmp 32, .tmp 33]⟩,
             ⟨some 35, none, .rd (.load (some 4)) [.tmp 34]⟩,
             ⟨some 8, none, .eff (.alloc (some 4) (.agg [(.str []), (.str []), (.int .i64 0), (.str [])])) []⟩,
             ⟨none, none, .eff (.store (some 4)) [.tmp 8, .tmp 35]⟩] L36)
          (.seq (.region false [⟨some 36, none, .rd (.fldAddr 1) [.tmp 8]⟩,
             ⟨some 37, none, .rd (.load none) [.tmp 36]⟩,
             ⟨some 38, none, .rd (.fldAddr 0) [.tmp 8]⟩,
             ⟨some 39, none, .rd (.load none) [.tmp 38]⟩,
             ⟨some 40, none, .rd (.fldAddr 0) [.tmp 8]⟩,
             ⟨none, none, .eff (.store none) [.tmp 40, .tmp 37]⟩,
             ⟨some 41, none, .rd (.fldAddr 1) [.tmp 8]⟩,
             ⟨none, none, .eff (.store none) [.tmp 41, .tmp 39]⟩] L36)
          (.region false [⟨some 42, none, .rd .mov [.tmp 6]⟩,
            ⟨some 43, none, .rd (.load (some 4)) [.tmp 8]⟩,
            ⟨some 44, none, .eff (.lit (some 4) false) [.tmp 43]⟩,
            ⟨some 45, none, .eff (.append (some 4) 56) [.tmp 42, .tmp 44]⟩,
            ⟨some 6, none, .rd .mov [.tmp 45]⟩] L36))))
       (.region false [⟨some 26, none, .rd .mov [.tmp 7]⟩,
         ⟨some 27, none, .rd (.bin .add) [.tmp 26, .pv (.int .i64 1)]⟩,
         ⟨some 7, none, .rd .mov [.tmp 27]⟩] L36))))))
  (.seq (.region false [⟨some 46, none, .rd .mov [.tmp 0]⟩,
     ⟨some 47, none, .rd .mov [.tmp 6]⟩,
     ⟨some 48, none, .call (.pv (.fn 34 [] [])) [.tmp 46, .tmp 47]⟩,
     ⟨some 49, none, .rd (.ext 0) [.tmp 48]⟩,
     ⟨some 50, none, .rd (.ext 1) [.tmp 48]⟩,
     ⟨some 4, none, .rd .mov [.tmp 49]⟩,
     ⟨some 5, none, .rd .mov [.tmp 50]⟩] L36)
  (.ret))))),
  [.tmp 4, .tmp 5]⟩

-- wagebook/wagebooklaw33.Is
def L37 : List Nat := [0, 1, 2, 4, 5, 6, 7, 8, 9, 10, 11, 31, 33, 34, 35, 46, 56, 60, 61, 62, 88]
def c37 : CF := ⟨100,
  .seq (.region false [⟨some 2, none, .eff (.box (some 2)) [.tmp 0]⟩,
     ⟨some 4, none, .rd .mov [.pv (.bool false)]⟩] L37)
  (.seq (.seq (.region false [⟨some 12, none, .rd (.load (some 2)) [.tmp 2]⟩,
      ⟨some 13, none, .call (.pv (.fn 17 [] [])) [.tmp 12]⟩,
      ⟨some 14, none, .rd .mov [.tmp 1]⟩,
      ⟨some 15, none, .rd .lenL [.tmp 14]⟩,
      ⟨some 16, none, .rd (.bin .neq) [.tmp 13, .tmp 15]⟩,
      ⟨some 17, none, .rd .mov [.tmp 16]⟩,
      ⟨some 18, some (17, false), .rd (.load (some 2)) [.tmp 2]⟩,
      ⟨some 19, some (17, false), .call (.pv (.fn 47 [] [])) [.tmp 18, .pv (.int .i64 0)]⟩,
      ⟨some 20, some (17, false), .rd .lenL [.tmp 19]⟩,
      ⟨some 21, some (17, false), .rd (.bin .neq) [.tmp 20, .pv (.int .i64 0)]⟩,
      ⟨some 22, none, .rd .pick [.tmp 17, .pv (.bool true), .tmp 21]⟩,
      ⟨some 23, none, .rd .mov [.tmp 22]⟩,
      ⟨some 24, some (23, false), .rd (.load (some 2)) [.tmp 2]⟩,
      ⟨some 25, some (23, false), .rd .mov [.tmp 1]⟩,
      ⟨some 26, some (23, false), .rd .lenL [.tmp 25]⟩,
      ⟨some 27, some (23, false), .rd (.bin .add) [.tmp 26, .pv (.int .i64 1)]⟩,
      ⟨some 28, some (23, false), .call (.pv (.fn 47 [] [])) [.tmp 24, .tmp 27]⟩,
      ⟨some 29, some (23, false), .rd .lenL [.tmp 28]⟩,
      ⟨some 30, some (23, false), .rd (.bin .neq) [.tmp 29, .pv (.int .i64 0)]⟩,
      ⟨some 31, none, .rd .pick [.tmp 23, .pv (.bool true), .tmp 30]⟩] L37)
   (.cond (.tmp 31)
    (.seq (.region false [⟨some 4, none, .rd .mov [.pv (.bool false)]⟩] L37)
     (.ret))
    (.skip)))
  (.seq (.seq (.region false [⟨some 32, none, .rd .mov [.tmp 1]⟩,
      ⟨some 33, none, .rd .lenL [.tmp 32]⟩,
      ⟨some 34, none, .rd .mov [.pv (.int .i64 0)]⟩] L37)
   (.block 0
    (.loop
      (.seq (.region false [⟨some 35, none, .rd (.bin .lss) [.tmp 34, .tmp 33]⟩] L37)
       (.seq (.cond (.tmp 35)
         (.skip)
         (.exit 0))
       (.seq (.block 1
         (.seq (.region false [⟨some 36, none, .rd .mov [.tmp 34]⟩,
             ⟨some 5, none, .rd .mov [.tmp 36]⟩] L37)
          (.seq (.regionA (.alt [⟨some 38, none, .rd .mov [.tmp 5]⟩,
              ⟨some 39, none, .rd (.bin .add) [.tmp 38, .pv (.int .i64 1)]⟩,
              ⟨some 41, none, .rd .mov [.tmp 1]⟩,
              ⟨some 42, none, .rd .mov [.tmp 5]⟩,
              ⟨some 43, none, .rd (.idxAddr none) [.tmp 41, .tmp 42]⟩]
             (.alt [⟨some 37, none, .rd (.load (some 2)) [.tmp 2]⟩]
              (.alt [⟨some 40, none, .call (.pv (.fn 47 [] [])) [.tmp 37, .tmp 39]⟩,
                ⟨some 44, none, .rd (.load none) [.tmp 43]⟩,
                ⟨some 45, none, .call (.pv (.fn 52 [] [])) [.tmp 40, .tmp 44]⟩,
                ⟨some 46, none, .rd (.un .not) [.tmp 45]⟩]
               .done
               (.alt [⟨some 44, none, .rd (.load none) [.tmp 43]⟩,
                 ⟨some 40, none, .call (.pv (.fn 47 [] [])) [.tmp 37, .tmp 39]⟩,
                 ⟨some 45, none, .call (.pv (.fn 52 [] [])) [.tmp 40, .tmp 44]⟩,
                 ⟨some 46, none, .rd (.un .not) [.tmp 45]⟩]
                .done
                .stop))
              (.alt [⟨some 44, none, .rd (.load none) [.tmp 43]⟩,
                ⟨some 37, none, .rd (.load (some 2)) [.tmp 2]⟩,
                ⟨some 40, none, .call (.pv (.fn 47 [] [])) [.tmp 37, .tmp 39]⟩,
                ⟨some 45, none, .call (.pv (.fn 52 [] [])) [.tmp 40, .tmp 44]⟩,
                ⟨some 46, none, .rd (.un .not) [.tmp 45]⟩]
               .done
               .stop))
             .stop) L37)
          (.cond (.tmp 46)
           (.seq (.region false [⟨some 4, none, .rd .mov [.pv (.bool false)]⟩] L37)
            (.ret))
           (.skip)))))
       (.region false [⟨some 47, none, .rd (.bin .add) [.tmp 34, .pv (.int .i64 1)]⟩,
         ⟨some 34, none, .rd .mov [.tmp 47]⟩] L37)))))))
  (.seq (.region false [⟨some 48, none, .rd (.load (some 2)) [.tmp 2]⟩,
     ⟨some 49, none, .call (.pv (.fn 33 [] [])) [.tmp 48]⟩,
     ⟨some 50, none, .rd .mov [.tmp 1]⟩,
     ⟨some 51, none, .call (.pv (.fn 53 [] [])) [.tmp 50]⟩,
     ⟨some 6, none, .rd .mov [.tmp 49]⟩,
     ⟨some 7, none, .rd .mov [.tmp 51]⟩] L37)
  (.seq (.seq (.region false [⟨some 52, none, .rd .mov [.tmp 6]⟩,
      ⟨some 53, none, .rd .lenL [.tmp 52]⟩,
      ⟨some 54, none, .rd .mov [.tmp 7]⟩,
      ⟨some 55, none, .rd .lenL [.tmp 54]⟩,
      ⟨some 56, none, .rd (.bin .neq) [.tmp 53, .tmp 55]⟩] L37)
   (.cond (.tmp 56)
    (.seq (.region false [⟨some 4, none, .rd .mov [.pv (.bool false)]⟩] L37)
     (.ret))
    (.skip)))
  (.seq (.region false [⟨some 57, none, .rd .mov [.tmp 1]⟩,
     ⟨some 58, none, .call (.pv (.fn 39 [] [])) [.tmp 57]⟩,
     ⟨some 8, none, .rd .mov [.tmp 58]⟩] L37)
  (.seq (.region false [⟨some 9, none, .rd .mov [.pv (.int .i64 0)]⟩] L37)
  (.seq (.seq (.region false [⟨some 59, none, .rd .mov [.tmp 6]⟩,
      ⟨some 60, none, .rd .lenL [.tmp 59]⟩,
      ⟨some 61, none, .rd .mov [.pv (.int .i64 0)]⟩] L37)
   (.block 2
    (.loop
      (.seq (.region false [⟨some 62, none, .rd (.bin .lss) [.tmp 61, .tmp 60]⟩] L37)
       (.seq (.cond (.tmp 62)
         (.skip)
         (.exit 2))
       (.seq (.block 3
         (.seq (.region false [⟨some 63, none, .rd .mov [.tmp 61]⟩,
             ⟨some 10, none, .rd .mov [.tmp 63]⟩] L37)
          (.seq (.region false [⟨some 64, none, .rd .mov [.tmp 8]⟩,
             ⟨some 65, none, .rd .mov [.tmp 7]⟩,
             ⟨some 66, none, .rd .mov [.tmp 10]⟩,
             ⟨some 67, none, .rd (.idxAddr none) [.tmp 65, .tmp 66]⟩,
             ⟨some 68, none, .rd (.load none) [.tmp 67]⟩,
             ⟨some 69, none, .call (.pv (.fn 38 [] [])) [.tmp 64, .tmp 68]⟩,
             ⟨some 11, none, .rd .mov [.tmp 69]⟩] L37)
          (.seq (.seq (.regionA (.alt [⟨some 70, none, .rd .mov [.tmp 6]⟩,
               ⟨some 71, none, .rd .mov [.tmp 10]⟩,
               ⟨some 72, none, .rd (.idxAddr none) [.tmp 70, .tmp 71]⟩,
               ⟨some 74, none, .rd .mov [.tmp 7]⟩,
               ⟨some 75, none, .rd .mov [.tmp 10]⟩,
               ⟨some 76, none, .rd (.idxAddr none) [.tmp 74, .tmp 75]⟩]
              (.alt [⟨some 73, none, .rd (.load none) [.tmp 72]⟩,
                ⟨some 77, none, .rd (.load none) [.tmp 76]⟩,
                ⟨some 78, none, .rd (.bin .neq) [.tmp 73, .tmp 77]⟩,
                ⟨some 79, none, .rd .mov [.tmp 78]⟩,
                ⟨some 81, some (79, false), .rd .mov [.tmp 6]⟩,
                ⟨some 82, some (79, false), .rd .mov [.tmp 10]⟩,
                ⟨some 83, some (79, false), .rd (.idxAddr none) [.tmp 81, .tmp 82]⟩,
                ⟨some 86, some (79, false), .rd .mov [.tmp 11]⟩]
               (.alt [⟨some 80, some (79, false), .rd (.load (some 2)) [.tmp 2]⟩,
                 ⟨some 84, some (79, false), .rd (.load none) [.tmp 83]⟩,
                 ⟨some 85, some (79, false), .call (.pv (.fn 19 [] [])) [.tmp 80, .tmp 84]⟩,
                 ⟨some 87, some (79, false), .rd (.bin .neq) [.tmp 85, .tmp 86]⟩,
                 ⟨some 88, none, .rd .pick [.tmp 79, .pv (.bool true), .tmp 87]⟩]
                .done
                (.alt [⟨some 84, some (79, false), .rd (.load none) [.tmp 83]⟩,
                  ⟨some 80, some (79, false), .rd (.load (some 2)) [.tmp 2]⟩,
                  ⟨some 85, some (79, false), .call (.pv (.fn 19 [] [])) [.tmp 80, .tmp 84]⟩,
                  ⟨some 87, some (79, false), .rd (.bin .neq) [.tmp 85, .tmp 86]⟩,
                  ⟨some 88, none, .rd .pick [.tmp 79, .pv (.bool true), .tmp 87]⟩]
                 .done
                 .stop))
               (.alt [⟨some 77, none, .rd (.load none) [.tmp 76]⟩,
                 ⟨some 73, none, .rd (.load none) [.tmp 72]⟩,
                 ⟨some 78, none, .rd (.bin .neq) [.tmp 73, .tmp 77]⟩,
                 ⟨some 79, none, .rd .mov [.tmp 78]⟩,
                 ⟨some 81, some (79, false), .rd .mov [.tmp 6]⟩,
                 ⟨some 82, some (79, false), .rd .mov [.tmp 10]⟩,
                 ⟨some 83, some (79, false), .rd (.idxAddr none) [.tmp 81, .tmp 82]⟩,
                 ⟨some 86, some (79, false), .rd .mov [.tmp 11]⟩]
                (.alt [⟨some 80, some (79, false), .rd (.load (some 2)) [.tmp 2]⟩,
                  ⟨some 84, some (79, false), .rd (.load none) [.tmp 83]⟩,
                  ⟨some 85, some (79, false), .call (.pv (.fn 19 [] [])) [.tmp 80, .tmp 84]⟩,
                  ⟨some 87, some (79, false), .rd (.bin .neq) [.tmp 85, .tmp 86]⟩,
                  ⟨some 88, none, .rd .pick [.tmp 79, .pv (.bool true), .tmp 87]⟩]
                 .done
                 (.alt [⟨some 84, some (79, false), .rd (.load none) [.tmp 83]⟩,
                   ⟨some 80, some (79, false), .rd (.load (some 2)) [.tmp 2]⟩,
                   ⟨some 85, some (79, false), .call (.pv (.fn 19 [] [])) [.tmp 80, .tmp 84]⟩,
                   ⟨some 87, some (79, false), .rd (.bin .neq) [.tmp 85, .tmp 86]⟩,
                   ⟨some 88, none, .rd .pick [.tmp 79, .pv (.bool true), .tmp 87]⟩]
                  .done
                  .stop))
                .stop))
              .stop) L37)
           (.cond (.tmp 88)
            (.seq (.region false [⟨some 4, none, .rd .mov [.pv (.bool false)]⟩] L37)
             (.ret))
            (.skip)))
          (.region false [⟨some 89, none, .rd .mov [.tmp 9]⟩,
            ⟨some 90, none, .rd .mov [.tmp 11]⟩,
            ⟨some 91, none, .rd (.bin .add) [.tmp 89, .tmp 90]⟩,
            ⟨some 9, none, .rd .mov [.tmp 91]⟩] L37)))))
       (.region false [⟨some 92, none, .rd (.bin .add) [.tmp 61, .pv (.int .i64 1)]⟩,
         ⟨some 61, none, .rd .mov [.tmp 92]⟩] L37)))))))
  (.seq (.region false [⟨some 93, none, .rd .mov [.tmp 9]⟩,
     ⟨some 94, none, .rd (.bin .eql) [.tmp 93, .pv (.int .i64 0)]⟩,
     ⟨some 95, none, .rd .mov [.tmp 94]⟩,
     ⟨some 96, some (95, true), .rd (.load (some 2)) [.tmp 2]⟩,
     ⟨some 97, some (95, true), .call (.pv (.fn 18 [] [])) [.tmp 96]⟩,
     ⟨some 98, some (95, true), .rd (.bin .eql) [.tmp 97, .pv (.int .i64 0)]⟩,
     ⟨some 99, none, .rd .pick [.tmp 95, .tmp 98, .pv (.bool false)]⟩,
     ⟨some 4, none, .rd .mov [.tmp 99]⟩] L37)
  (.ret))))))))),
  [.tmp 4]⟩

-- wagebook/wagebooklaw33.same
def L52 : List Nat := [0, 1, 4, 5, 6, 11, 13, 14, 15, 16, 25]
def c52 : CF := ⟨27,
  .seq (.region false [⟨some 4, none, .rd .mov [.pv (.bool false)]⟩] L52)
  (.seq (.seq (.region false [⟨some 7, none, .rd .mov [.tmp 0]⟩,
      ⟨some 8, none, .rd .lenL [.tmp 7]⟩,
      ⟨some 9, none, .rd .mov [.tmp 1]⟩,
      ⟨some 10, none, .rd .lenL [.tmp 9]⟩,
      ⟨some 11, none, .rd (.bin .neq) [.tmp 8, .tmp 10]⟩] L52)
   (.cond (.tmp 11)
    (.seq (.region false [⟨some 4, none, .rd .mov [.pv (.bool false)]⟩] L52)
     (.ret))
    (.skip)))
  (.seq (.seq (.region false [⟨some 12, none, .rd .mov [.tmp 0]⟩,
      ⟨some 13, none, .call (.pv (.fn 16 [] [])) [.tmp 12]⟩,
      ⟨some 14, none, .rd .lenL [.tmp 13]⟩,
      ⟨some 15, none, .rd .mov [.pv (.int .i64 0)]⟩] L52)
   (.block 0
    (.loop
      (.seq (.region false [⟨some 16, none, .rd (.bin .lss) [.tmp 15, .tmp 14]⟩] L52)
       (.seq (.cond (.tmp 16)
         (.skip)
         (.exit 0))
       (.seq (.block 1
         (.seq (.region false [⟨some 17, none, .rd .mov [.tmp 15]⟩,
             ⟨some 18, none, .rd (.idxAddr (some 4)) [.tmp 13, .tmp 15]⟩,
             ⟨some 19, none, .rd (.load (some 4)) [.tmp 18]⟩,
             ⟨some 6, none, .eff (.alloc (some 4) (.agg [(.str []), (.str []), (.int .i64 0), (.str [])])) []⟩,
             ⟨some 5, none, .rd .mov [.tmp 17]⟩,
             ⟨none, none, .eff (.store (some 4)) [.tmp 6, .tmp 19]⟩] L52)
          (.seq (.region true [⟨some 20, none, .rd (.load (some 4)) [.tmp 6]⟩,
             ⟨some 21, none, .rd .mov [.tmp 1]⟩,
             ⟨some 22, none, .rd .mov [.tmp 5]⟩,
             ⟨some 23, none, .rd (.idxAddr (some 4)) [.tmp 21, .tmp 22]⟩,
             ⟨some 24, none, .rd (.load (some 4)) [.tmp 23]⟩,
             ⟨some 25, none, .rd (.eqA true [2, 2, 0, 2]) [.tmp 20, .tmp 24]⟩] L52)
          (.cond (.tmp 25)
           (.seq (.region false [⟨some 4, none, .rd .mov [.pv (.bool false)]⟩] L52)
            (.ret))
           (.skip)))))
       (.region false [⟨some 26, none, .rd (.bin .add) [.tmp 15, .pv (.int .i64 1)]⟩,
         ⟨some 15, none, .rd .mov [.tmp 26]⟩] L52)))))))
  (.seq (.region false [⟨some 4, none, .rd .mov [.pv (.bool true)]⟩] L52)
  (.ret)))),
  [.tmp 4]⟩

-- wagebook/wagebookref33.Accounts
def L53 : List Nat := [0, 2, 3, 4, 5, 7, 8, 9, 15, 28, 29, 30, 31, 45, 59]
def c53 : CF := ⟨75,
  .seq (.region false [⟨some 2, none, .rd .mov [.pv .nilSl]⟩] L53)
  (.seq (.region false [⟨some 3, none, .rd .mov [.pv .nilSl]⟩] L53)
  (.seq (.region false [⟨some 10, none, .rd .mov [.tmp 0]⟩,
     ⟨some 11, none, .call (.pv (.fn 39 [] [])) [.tmp 10]⟩,
     ⟨some 4, none, .rd .mov [.tmp 11]⟩] L53)
  (.seq (.seq (.region false [⟨some 5, none, .rd .mov [.pv (.int .i64 0)]⟩] L53)
   (.block 0
    (.loop
      (.seq (.seq (.region false [⟨some 12, none, .rd .mov [.tmp 5]⟩,
           ⟨some 13, none, .rd .mov [.tmp 4]⟩,
           ⟨some 14, none, .rd .lenL [.tmp 13]⟩,
           ⟨some 15, none, .rd (.bin .lss) [.tmp 12, .tmp 14]⟩] L53)
        (.cond (.tmp 15)
         (.skip)
         (.exit 0)))
       (.seq (.block 1
         (.seq (.regionA (.alt [⟨some 18, none, .rd .mov [.tmp 4]⟩,
              ⟨some 19, none, .rd .mov [.tmp 5]⟩,
              ⟨some 20, none, .rd (.idxAddr (some 4)) [.tmp 18, .tmp 19]⟩,
              ⟨some 21, none, .rd (.fldAddr 0) [.tmp 20]⟩,
              ⟨some 23, none, .rd .mov [.tmp 4]⟩,
              ⟨some 24, none, .rd .mov [.tmp 5]⟩,
              ⟨some 25, none, .rd (.idxAddr (some 4)) [.tmp 23, .tmp 24]⟩,
              ⟨some 26, none, .rd (.fldAddr 1) [.tmp 25]⟩,
              ⟨some 30, none, .rd .mov [.pv (.int .i64 0)]⟩]
             (.alt [⟨some 22, none, .rd (.load none) [.tmp 21]⟩,
               ⟨some 27, none, .rd (.load none) [.tmp 26]⟩,
               ⟨some 28, none, .eff (.lit none false) [.tmp 22, .tmp 27]⟩,
               ⟨some 29, none, .rd .lenL [.tmp 28]⟩]
              .done
              (.alt [⟨some 27, none, .rd (.load none) [.tmp 26]⟩,
                ⟨some 22, none, .rd (.load none) [.tmp 21]⟩,
                ⟨some 28, none, .eff (.lit none false) [.tmp 22, .tmp 27]⟩,
                ⟨some 29, none, .rd .lenL [.tmp 28]⟩]
               .done
               .stop))
             .stop) L53)
          (.block 2
           (.loop
             (.seq (.region false [⟨some 31, none, .rd (.bin .lss) [.tmp 30, .tmp 29]⟩] L53)
              (.seq (.cond (.tmp 31)
                (.skip)
                (.exit 2))
              (.seq (.block 3
                (.seq (.region false [⟨some 32, none, .rd (.idxAddr none) [.tmp 28, .tmp 30]⟩,
                    ⟨some 33, none, .rd (.load none) [.tmp 32]⟩,
                    ⟨some 7, none, .rd .mov [.tmp 33]⟩] L53)
                 (.seq (.region false [⟨some 8, none, .rd .mov [.pv (.int .i64 0)]⟩] L53)
                 (.seq (.block 4
                   (.loop
                     (.seq (.seq (.region false [⟨some 34, none, .rd .mov [.tmp 8]⟩,
                          ⟨some 35, none, .rd .mov [.tmp 3]⟩,
                          ⟨some 36, none, .rd .lenL [.tmp 35]⟩,
                          ⟨some 37, none, .rd (.bin .lss) [.tmp 34, .tmp 36]⟩,
                          ⟨some 38, none, .rd .mov [.tmp 37]⟩,
                          ⟨some 39, some (38, true), .rd .mov [.tmp 3]⟩,
                          ⟨some 40, some (38, true), .rd .mov [.tmp 8]⟩,
                          ⟨some 41, some (38, true), .rd (.idxAddr none) [.tmp 39, .tmp 40]⟩,
                          ⟨some 42, some (38, true), .rd (.load none) [.tmp 41]⟩,
                          ⟨some 43, some (38, true), .rd .mov [.tmp 7]⟩,
                          ⟨some 44, some (38, true), .rd (.bin .lss) [.tmp 42, .tmp 43]⟩,
                          ⟨some 45, none, .rd .pick [.tmp 38, .tmp 44, .pv (.bool false)]⟩] L53)
                       (.cond (.tmp 45)
                        (.skip)
                        (.exit 4)))
                      (.block 5
                       (.region false [⟨some 46, none, .rd .mov [.tmp 8]⟩,
                          ⟨some 47, none, .rd (.bin .add) [.tmp 46, .pv (.int .i64 1)]⟩,
                          ⟨some 8, none, .rd .mov [.tmp 47]⟩] L53)))))
                 (.seq (.region false [⟨some 48, none, .rd .mov [.tmp 8]⟩,
                    ⟨some 49, none, .rd .mov [.tmp 3]⟩,
                    ⟨some 50, none, .rd .lenL [.tmp 49]⟩,
                    ⟨some 51, none, .rd (.bin .eql) [.tmp 48, .tmp 50]⟩,
                    ⟨some 52, none, .rd .mov [.tmp 51]⟩,
                    ⟨some 53, some (52, false), .rd .mov [.tmp 3]⟩,
                    ⟨some 54, some (52, false), .rd .mov [.tmp 8]⟩,
                    ⟨some 55, some (52, false), .rd (.idxAddr none) [.tmp 53, .tmp 54]⟩,
                    ⟨some 56, some (52, false), .rd (.load none) [.tmp 55]⟩,
                    ⟨some 57, some (52, false), .rd .mov [.tmp 7]⟩,
                    ⟨some 58, some (52, false), .rd (.bin .neq) [.tmp 56, .tmp 57]⟩,
                    ⟨some 59, none, .rd .pick [.tmp 52, .pv (.bool true), .tmp 58]⟩] L53)
                 (.cond (.tmp 59)
                  (.seq (.region false [⟨some 60, none, .eff (.lit none true) []⟩,
                      ⟨some 61, none, .rd .mov [.tmp 3]⟩,
                      ⟨some 62, none, .rd .mov [.tmp 8]⟩,
                      ⟨some 63, none, .rd (.slc none false true false) [.tmp 61, .tmp 62]⟩,
                      ⟨some 64, none, .eff (.append none 16) [.tmp 60, .tmp 63]⟩,
                      ⟨some 9, none, .rd .mov [.tmp 64]⟩] L53)
                   (.regionA (.alt [⟨some 65, none, .rd .mov [.tmp 9]⟩,
                      ⟨some 66, none, .rd .mov [.tmp 7]⟩,
                      ⟨some 69, none, .rd .mov [.tmp 3]⟩,
                      ⟨some 70, none, .rd .mov [.tmp 8]⟩,
                      ⟨some 71, none, .rd (.slc none true false false) [.tmp 69, .tmp 70]⟩,
                      ⟨some 67, none, .eff (.lit none false) [.tmp 66]⟩,
                      ⟨some 68, none, .eff (.append none 16) [.tmp 65, .tmp 67]⟩,
                      ⟨some 72, none, .eff (.append none 16) [.tmp 68, .tmp 71]⟩,
                      ⟨some 3, none, .rd .mov [.tmp 72]⟩]
                     .done
                     .stop) L53))
                  (.skip)))))))
              (.region false [⟨some 73, none, .rd (.bin .add) [.tmp 30, .pv (.int .i64 1)]⟩,
                ⟨some 30, none, .rd .mov [.tmp 73]⟩] L53))))))))
       (.region false [⟨some 16, none, .rd .mov [.tmp 5]⟩,
         ⟨some 17, none, .rd (.bin .add) [.tmp 16, .pv (.int .i64 1)]⟩,
         ⟨some 5, none, .rd .mov [.tmp 17]⟩] L53))))))
  (.seq (.region false [⟨some 74, none, .rd .mov [.tmp 3]⟩,
     ⟨some 2, none, .rd .mov [.tmp 74]⟩] L53)
  (.ret))))),
  [.tmp 2]⟩
theorem k12 : compileF Tryd.prog [] L12 Tryd.f12 = some c12 := by kernel_rfl
theorem k32 : compileF Tryd.prog [] L32 Tryd.f32 = some c32 := by kernel_rfl
theorem k35 : compileF Tryd.prog [] L35 Tryd.f35 = some c35 := by kernel_rfl
theorem k36 : compileF Tryd.prog [] L36 Tryd.f36 = some c36 := by kernel_rfl
theorem k37 : compileF Tryd.prog [999999] L37 Tryd.f37 = some c37 := by kernel_rfl
theorem k52 : compileF Tryd.prog [] L52 Tryd.f52 = some c52 := by kernel_rfl
theorem k53 : compileF Tryd.prog [] L53 Tryd.f53 = some c53 := by kernel_rfl
end Go.Proofs.YtdemgegpnlngeaaDoor

