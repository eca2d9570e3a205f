import Derived.Test.YtdemgegpnlngeaaDoorQ17
import Derived.Test.YtdemgegpnlngeaaDoorP3
import Derived.Test.YtdemgegpnlngeaaDoorQ19
namespace Go.Proofs.YtdemgegpnlngeaaDoor
open Go PG Go.Proofs
set_option linter.unusedSimpArgs false
set_option linter.unusedVariables false
set_option maxHeartbeats 4000000
set_option maxRecDepth 100000
end Go.Proofs.YtdemgegpnlngeaaDoor

namespace Go.Proofs.YtdemgegpnlngeaaDoor
open Go PG Go.Proofs
set_option linter.unusedSimpArgs false
set_option linter.unusedVariables false
set_option maxHeartbeats 4000000
set_option maxRecDepth 100000
theorem payM_W {l : Lg} (h : LgW l) (o : Off) (c : Int) : LgW (payM l o c).1 := by
  unfold payM
  split
  · exact h
  split
  · exact h
  split
  · exact h
  exact postM_W h _
end Go.Proofs.YtdemgegpnlngeaaDoor

namespace Go.Proofs.YtdemgegpnlngeaaDoor
open Go PG Go.Proofs
set_option linter.unusedSimpArgs false
set_option linter.unusedVariables false
set_option maxHeartbeats 4000000
set_option maxRecDepth 100000
theorem its_getD (l : List (List UInt8 × Int)) (i : Nat) (h : i < l.length) : (l.map itP).getD i .junk = itP l[i] := by simp [List.getD, h]
end Go.Proofs.YtdemgegpnlngeaaDoor

namespace Go.Proofs.YtdemgegpnlngeaaDoor
open Go PG Go.Proofs
set_option linter.unusedSimpArgs false
set_option linter.unusedVariables false
set_option maxHeartbeats 4000000
set_option maxRecDepth 100000
theorem allM_W {l : Lg} : ∀ {os : List Off} {cur : Lg} {it : List (List UInt8 × Int)}, LgW l → LgW cur → LgW (allM l cur os it).1
  | [], cur, it, _, h => h
  | o :: os, cur, it, hl, h => by
    simp only [allM]
    split
    · exact hl
    · split
      · exact hl
      · exact allM_W hl (settleM_W h o)
theorem allR_W {l : Lg} (h : LgW l) (os : List Off) : LgW (allR l os).1 := by
  unfold allR
  split
  · exact h
  · exact allM_W h h
end Go.Proofs.YtdemgegpnlngeaaDoor

namespace Go.Proofs.YtdemgegpnlngeaaDoor
open Go PG Go.Proofs
set_option linter.unusedSimpArgs false
set_option linter.unusedVariables false
set_option maxHeartbeats 4000000
set_option maxRecDepth 100000
theorem postM_cases {l : Lg} {es : List Ent4} (h0 : batchW es = 0) (hl : l.bs.length ≠ 4096) :
    ((postM l es).2 = 9 ∧ (postM l es).1 = l) ∨ ((postM l es).2 = 0 ∧ (postM l es).1.bs = l.bs ++ [es] ∧ (∀ a, bget (postM l es).1.map a = bget l.map a + balE es a) ∧ sumB (postM l es).1.map = sumB l.map) := by
  have hpm : postM l es = match postB l.map es with
    | none => (l, 9)
    | some m => (⟨l.bs ++ [es], some m⟩, 0) := by rw [postM, if_neg (by simpa using h0), if_neg hl]; rfl
  rw [hpm]
  cases hq : postB l.map es with
  | none => exact .inl ⟨rfl, rfl⟩
  | some m => exact .inr ⟨rfl, rfl, fun a => postB_bal (batch0 h0).2.2 hq a, sumB_postB hq⟩
theorem postM_sum (l : Lg) (es : List Ent4) : sumB (postM l es).1.map = sumB l.map := by
  unfold postM
  split
  · rfl
  split
  · rfl
  cases hq : postB l.map es with
  | none => rfl
  | some m => exact sumB_postB hq
theorem postedM_sum : ∀ {l : List (List Ent4)} {cur : Lg} {n : Nat}, sumB (postedM cur n l).1.map = sumB cur.map
  | [], cur, n => rfl
  | es :: l, cur, n => by
    simp only [postedM]
    split
    · rfl
    · split
      · rfl
      · rw [postedM_sum, postM_sum]
theorem postM_len (l : Lg) (es : List Ent4) : (postM l es).1.bs.length ≤ l.bs.length + 1 := by
  unfold postM
  split
  · simp
  split
  · simp
  cases postB l.map es <;> simp
theorem postedM_len : ∀ {l : List (List Ent4)} {cur : Lg} {n : Nat}, cur.bs.length ≤ n → n ≤ 60 → (postedM cur n l).1.bs.length ≤ 60
  | [], cur, n, h, h2 => by simp only [postedM]; omega
  | es :: l, cur, n, h, h2 => by
    simp only [postedM]
    split
    · simp only; omega
    · split
      · simp only; omega
      · rename_i h3 _
        have := postM_len cur es
        exact postedM_len (by omega) (by omega)
/-- What an entry of an office moves. -/
theorem entM_bal {o : Off} {a : List UInt8} (ha : a ≠ sBank) {p : Int} (hp : -1125899906842624 ≤ p ∧ p ≤ 1125899906842624) (s : List UInt8) : balE [entM o a p] s = (if s = a then p else 0) - (if s = sBank then p else 0) := by
  have hb : ¬ sBank = a := fun h => ha h.symm
  unfold entM
  split
  · simp only [balE]
    by_cases h1 : s = a
    · subst h1; simp only [if_true, ha, hb, if_false]; omega
    · by_cases h2 : s = sBank
      · subst h2; have h3 : ¬ a = sBank := ha; simp only [if_true, h3, hb, if_false]; omega
      · have h3 : ¬ a = s := fun h => h1 h.symm
        have h4 : ¬ sBank = s := fun h => h2 h.symm
        simp only [h1, h2, h3, h4, if_false]; omega
  · have w : IntKind.i64.wrap (0 - p) = -p := by rw [IntWalk.i64_in _ (by omega)]; omega
    simp only [balE, w]
    by_cases h1 : s = a
    · subst h1; simp only [if_true, ha, hb, if_false]; omega
    · by_cases h2 : s = sBank
      · subst h2; have h3 : ¬ a = sBank := ha; simp only [if_true, h3, hb, if_false]; omega
      · have h3 : ¬ a = s := fun h => h1 h.symm
        have h4 : ¬ sBank = s := fun h => h2 h.symm
        simp only [h1, h2, h3, h4, if_false]; omega
theorem bank_ok : accOk sBank = true := by decide
theorem entM_chk {o : Off} (ho : offChk o = 0) {a : List UInt8} (ha : a ≠ sBank) (hok : accOk a = true) {p : Int} (hp0 : p ≠ 0) (hp : -1125899906842624 ≤ p ∧ p ≤ 1125899906842624) : chk (entM o a p) = 0 := by
  have hb : ¬ sBank = a := fun h => ha h.symm
  have hnote : noteOk (sRemit ++ o.code) = true := by
    have hc := (off0 ho).2.2.1
    simp only [partOk, Bool.and_eq_true, decide_eq_true_eq] at hc
    obtain ⟨⟨-, h1⟩, h2⟩ := hc
    simp only [noteOk, Bool.and_eq_true, decide_eq_true_eq, List.length_append, List.all_append]
    refine ⟨by simp; omega, by decide, ?_⟩
    rw [List.all_eq_true] at h2 ⊢
    intro b hb
    have := h2 b hb
    have hlt := UInt8.toNat_lt b
    simp only [okB, Bool.or_eq_true, Bool.and_eq_true, decide_eq_true_eq] at this
    simp only [noteB, Bool.and_eq_true, decide_eq_true_eq]
    omega
  unfold entM
  split
  · unfold chk
    rw [if_neg (by simp [hok, bank_ok]), if_neg ha, if_neg (by simp only; omega), if_neg (by simp only [hnote]; simp)]
  · have w : IntKind.i64.wrap (0 - p) = -p := by rw [IntWalk.i64_in _ (by omega)]; omega
    rw [w]
    unfold chk
    rw [if_neg (by simp [hok, bank_ok]), if_neg hb, if_neg (by simp only; omega), if_neg (by simp only [hnote]; simp)]
/-- The accounts of an office that is right: accounts, none bank, none twice. -/
theorem offAcc0 : ∀ {l seen : List (List UInt8)}, offAcc seen l = 0 → (∀ a ∈ l, accOk a = true ∧ a ∉ seen) ∧ l.Nodup
  | [], seen, _ => ⟨by simp, .nil⟩
  | a :: l, seen, h => by
    simp only [offAcc] at h
    split at h
    · simp at h
    rename_i h1
    split at h
    · simp at h
    rename_i h2
    obtain ⟨h3, h4⟩ := offAcc0 h
    refine ⟨fun b hb => ?_, List.nodup_cons.2 ⟨fun hm => (h3 a hm).2 (by simp), h4⟩⟩
    rcases List.mem_cons.1 hb with rfl | hb
    · exact ⟨by simpa using h1, h2⟩
    · exact ⟨(h3 b hb).1, fun hm => (h3 b hb).2 (by simp [hm])⟩
theorem off_accs {o : Off} (h : offChk o = 0) : (∀ a ∈ o.accs, accOk a = true ∧ a ≠ sBank) ∧ o.accs.Nodup := by
  obtain ⟨h1, h2⟩ := offAcc0 (off0 h).2.2.2.2
  exact ⟨fun a ha => ⟨(h1 a ha).1, fun e => (h1 a ha).2 (by simp [e])⟩, h2⟩
/-- What is paid, account by account. -/
def payL : Int → List Int → List Int
  | _, [] => []
  | c, v :: vs => part c v :: payL (c - part c v) vs
def vals (m : Bal) (accs : List (List UInt8)) : List Int := accs.map fun a => -(bget m a)
def zipE (o : Off) : List (List UInt8) → List Int → List Ent4
  | a :: xs, p :: ps => if p = 0 then zipE o xs ps else entM o a p :: zipE o xs ps
  | _, _ => []
theorem payE_zip (o : Off) (m : Bal) : ∀ (accs : List (List UInt8)) (c : Int), payE o m c accs = zipE o accs (payL c (vals m accs))
  | [], c => rfl
  | a :: l, c => by
    simp only [payE, vals, List.map_cons, payL, zipE]
    split
    · rename_i h
      rw [h, Int.sub_zero]
      exact payE_zip o m l c
    · rw [payE_zip o m l]; rfl
theorem settleE_zip (o : Off) (m : Bal) : ∀ (accs : List (List UInt8)), settleE o m accs = zipE o accs (vals m accs)
  | [] => rfl
  | a :: l => by
    simp only [settleE, vals, List.map_cons, zipE, settleE_zip o m l]
/-- What stands for an account in such a list. -/
def atA : List (List UInt8) → List Int → List UInt8 → Int
  | a :: xs, p :: ps, s => if s = a then p else atA xs ps s
  | _, _, _ => 0
theorem atA_out : ∀ {xs : List (List UInt8)} {ps : List Int} {s : List UInt8}, s ∉ xs → atA xs ps s = 0
  | [], _, _, _ => by simp [atA]
  | a :: xs, [], s, _ => by simp [atA]
  | a :: xs, p :: ps, s, h => by
    simp only [List.mem_cons, not_or] at h
    simp only [atA, h.1, if_false]
    exact atA_out h.2
theorem zipE_bal {o : Off} : ∀ {xs : List (List UInt8)} {ps : List Int}, xs.length = ps.length → xs.Nodup → (∀ a ∈ xs, a ≠ sBank) → (∀ p ∈ ps, -1125899906842624 ≤ p ∧ p ≤ 1125899906842624) → ∀ s, balE (zipE o xs ps) s = atA xs ps s - (if s = sBank then sumI ps else 0)
  | [], [], _, _, _, _, s => by simp [zipE, atA, balE, sumI]
  | a :: xs, p :: ps, hl, hn, hb, hp, s => by
    have ih := zipE_bal (o := o) (xs := xs) (ps := ps) (by simpa using hl) (List.nodup_cons.1 hn).2 (fun a h => hb a (by simp [h])) (fun p h => hp p (by simp [h])) s
    have hab := hb a (by simp)
    have ho : ∀ x, s = a → atA xs x s = 0 := fun x h => atA_out (by rw [h]; exact (List.nodup_cons.1 hn).1)
    simp only [zipE, atA, sumI]
    split
    · rename_i h0
      rw [ih, h0]
      by_cases h1 : s = a
      · rw [if_pos h1, ho _ h1]; split <;> omega
      · rw [if_neg h1]; split <;> omega
    · have he : ∀ (e : Ent4) (l : List Ent4), balE (e :: l) s = balE [e] s + balE l s := fun e l => by simp only [balE]; omega
      rw [he, entM_bal hab (hp p (by simp)), ih]
      by_cases h1 : s = a
      · rw [if_pos h1, if_pos h1, ho _ h1]; split <;> omega
      · rw [if_neg h1, if_neg h1]; split <;> omega
theorem zipE_chk {o : Off} (ho : offChk o = 0) : ∀ {xs : List (List UInt8)} {ps : List Int}, (∀ a ∈ xs, accOk a = true ∧ a ≠ sBank) → (∀ p ∈ ps, -1125899906842624 ≤ p ∧ p ≤ 1125899906842624) → (∀ e ∈ zipE o xs ps, chk e = 0) ∧ (zipE o xs ps).length ≤ xs.length
  | [], _, _, _ => ⟨fun e he => by simp [zipE] at he, by simp [zipE]⟩
  | a :: xs, [], _, _ => ⟨fun e he => by simp [zipE] at he, by simp [zipE]⟩
  | a :: xs, p :: ps, ha, hp => by
    have ih := zipE_chk ho (xs := xs) (ps := ps) (fun a h => ha a (by simp [h])) (fun p h => hp p (by simp [h]))
    simp only [zipE]
    split
    · exact ⟨ih.1, by simp only [List.length_cons]; omega⟩
    · rename_i h0
      refine ⟨fun e he => ?_, by simp only [List.length_cons]; omega⟩
      rcases List.mem_cons.1 he with rfl | he
      · exact entM_chk ho (ha a (by simp)).2 (ha a (by simp)).1 h0 (hp p (by simp))
      · exact ih.1 e he
theorem chks_all : ∀ {l : List Ent4}, (∀ e ∈ l, chk e = 0) → chks l = 0
  | [], _ => rfl
  | e :: l, h => by simp only [chks, h e (by simp), if_true]; exact chks_all fun e he => h e (by simp [he])
theorem batchW_all {l : List Ent4} (h : ∀ e ∈ l, chk e = 0) (h0 : l ≠ []) (hl : l.length ≤ 65536) : batchW l = 0 := by
  unfold batchW
  rw [if_neg (by have := List.length_pos_iff.2 h0; omega), if_neg (by omega), chks_all h]
theorem zipE_nil {o : Off} : ∀ {xs : List (List UInt8)} {ps : List Int}, xs.length = ps.length → zipE o xs ps = [] → ∀ p ∈ ps, p = 0
  | [], [], _, _, p, hp => by cases hp
  | a :: xs, q :: ps, hl, h, p, hp => by
    simp only [zipE] at h
    split at h
    · rcases List.mem_cons.1 hp with rfl | hp
      · assumption
      · exact zipE_nil (by simpa using hl) h p hp
    · cases h
theorem sumI_zero : ∀ {l : List Int}, (∀ p ∈ l, p = 0) → sumI l = 0
  | [], _ => rfl
  | a :: l, h => by simp only [sumI, h a (by simp), sumI_zero fun p hp => h p (List.mem_cons_of_mem _ hp)]; rfl
theorem payL_len : ∀ (vs : List Int) (c : Int), (payL c vs).length = vs.length
  | [], c => rfl
  | v :: vs, c => by simp [payL, payL_len vs]
theorem payL_in : ∀ (vs : List Int) (c : Int), -1125899906842624 ≤ c ∧ c ≤ 1125899906842624 → ∀ p ∈ payL c vs, -1125899906842624 ≤ p ∧ p ≤ 1125899906842624
  | [], c, _, p, hp => by cases hp
  | v :: vs, c, hc, p, hp => by
    have := part_in (c := c) (x := v)
    rcases List.mem_cons.1 hp with rfl | hp
    · omega
    · exact payL_in vs (c - part c v) (by omega) p hp
theorem part0 (v : Int) : part 0 v = 0 := by unfold part; rw [if_neg (by omega)]; omega
theorem payL_zero : ∀ vs : List Int, sumI (payL 0 vs) = 0
  | [] => rfl
  | v :: vs => by simp only [payL, sumI, part0, Int.sub_zero, payL_zero vs]; rfl
/-- All that is to be paid is paid, where it is owed. -/
theorem payL_sum : ∀ (vs : List Int) (c : Int), (0 ≤ c → c ≤ sumI vs → sumI (payL c vs) = c) ∧ (c ≤ 0 → sumI vs ≤ c → sumI (payL c vs) = c)
  | [], c => by simp only [payL, sumI]; omega
  | v :: vs, c => by
    have ih := payL_sum vs (c - part c v)
    have hp := part_in (c := c) (x := v)
    have hpd : part c v = if 0 < c then min c (max 0 v) else max c (min 0 v) := rfl
    simp only [payL, sumI]
    generalize part c v = p at *
    by_cases h0 : c - p = 0
    · rw [h0, payL_zero]
      exact ⟨fun _ _ => by omega, fun _ _ => by omega⟩
    by_cases h : 0 < c
    · rw [if_pos h] at hpd
      refine ⟨fun h1 h2 => ?_, fun h1 => by omega⟩
      have := ih.1 (by omega) (by omega)
      omega
    · rw [if_neg h] at hpd
      refine ⟨fun h1 h2 => by omega, fun h1 h2 => ?_⟩
      have := ih.2 (by omega) (by omega)
      omega
theorem atA_vals (m : Bal) : ∀ {xs : List (List UInt8)} {s : List UInt8}, s ∈ xs → atA xs (vals m xs) s = -(bget m s)
  | a :: xs, s, h => by
    simp only [vals, List.map_cons, atA]
    split
    · rename_i e; rw [e]
    · rename_i e
      have hm : s ∈ xs := by
        rcases List.mem_cons.1 h with h | h
        · exact absurd h e
        · exact h
      exact atA_vals m hm
theorem sumI_vals (m : Bal) : ∀ xs : List (List UInt8), sumI (vals m xs) = -(sumA m xs)
  | [] => rfl
  | a :: xs => by simp only [vals, List.map_cons, sumI, sumA]; have := sumI_vals m xs; simp only [vals] at this; omega
end Go.Proofs.YtdemgegpnlngeaaDoor

namespace Go.Proofs.YtdemgegpnlngeaaDoor
open Go PG Go.Proofs
set_option linter.unusedSimpArgs false
set_option linter.unusedVariables false
set_option maxHeartbeats 4000000
set_option maxRecDepth 100000
theorem vals_in {m : Bal} (h : inB m) (xs : List (List UInt8)) : ∀ p ∈ vals m xs, -1125899906842624 ≤ p ∧ p ≤ 1125899906842624 := by
  intro p hp
  obtain ⟨a, -, rfl⟩ := List.mem_map.1 hp
  have := h a; omega
theorem vals_len (m : Bal) (xs : List (List UInt8)) : (vals m xs).length = xs.length := by simp [vals]
theorem pay_ok {l : Lg} (hW : LgW l) (hL : l.bs.length < 4096) {o : Off} (h : (owedM l o).2 = 0) {c : Int} (hc : c ≠ 0) (hr : (0 ≤ c ∧ c ≤ (owedM l o).1) ∨ (c ≤ 0 ∧ (owedM l o).1 ≤ c)) :
    ((payM l o c).2 = 9 ∧ (payM l o c).1 = l) ∨ ((payM l o c).2 = 0 ∧ (payM l o c).1.bs.length = l.bs.length + 1 ∧ (∀ s, bget (payM l o c).1.map s = bget l.map s + (atA o.accs (payL c (vals l.map o.accs)) s - (if s = sBank then c else 0))) ∧ sumB (payM l o c).1.map = sumB l.map) := by
  obtain ⟨ho, hs, hb1, hb2⟩ := owedM_ok h
  obtain ⟨ha, hn⟩ := off_accs ho
  have hpm : payM l o c = postM l (payE o l.map c o.accs) := by
    unfold payM
    rw [if_neg (by simpa using h), if_neg hc, if_neg (by omega)]
  rw [hpm, payE_zip]
  have hsum : sumI (payL c (vals l.map o.accs)) = c := by
    have := payL_sum (vals l.map o.accs) c
    rw [sumI_vals, ← hs] at this
    rcases hr with ⟨h1, h2⟩ | ⟨h1, h2⟩
    · exact this.1 h1 h2
    · exact this.2 h1 h2
  have hin := payL_in (vals l.map o.accs) c (by omega)
  have hlen : o.accs.length = (payL c (vals l.map o.accs)).length := by rw [payL_len, vals_len]
  obtain ⟨hk, hkl⟩ := zipE_chk ho (xs := o.accs) (ps := payL c (vals l.map o.accs)) ha hin
  have hne : zipE o o.accs (payL c (vals l.map o.accs)) ≠ [] := fun e => hc (by rw [← hsum]; exact sumI_zero (zipE_nil hlen e))
  have h64 := (off0 ho).2.1
  rcases postM_cases (l := l) (batchW_all hk hne (by omega)) (by omega) with h | ⟨h1, h2, h3, h4⟩
  · exact .inl h
  · refine .inr ⟨h1, by rw [h2]; simp, fun s => ?_, h4⟩
    rw [h3 s, zipE_bal hlen hn (fun a h => (ha a h).2) hin s, hsum]
theorem settle_ok {l : Lg} (hW : LgW l) (hL : l.bs.length < 4096) {o : Off} (ho : offChk o = 0) :
    ((settleM l o).2 = 9 ∧ (settleM l o).1 = l) ∨ ((settleM l o).2 = 0 ∧ (settleM l o).1.bs.length ≤ l.bs.length + 1 ∧ (∀ s, bget (settleM l o).1.map s = bget l.map s + (atA o.accs (vals l.map o.accs) s - (if s = sBank then -(sumA l.map o.accs) else 0))) ∧ sumB (settleM l o).1.map = sumB l.map) := by
  obtain ⟨ha, hn⟩ := off_accs ho
  have hin := vals_in hW.inb o.accs
  have hlen : o.accs.length = (vals l.map o.accs).length := (vals_len _ _).symm
  obtain ⟨hk, hkl⟩ := zipE_chk ho (xs := o.accs) (ps := vals l.map o.accs) ha hin
  have h64 := (off0 ho).2.1
  have hbal := zipE_bal (o := o) hlen hn (fun a h => (ha a h).2) hin
  rw [sumI_vals] at hbal
  unfold settleM
  rw [settleE_zip]
  by_cases hne : zipE o o.accs (vals l.map o.accs) = []
  · rw [if_pos hne]
    refine .inr ⟨rfl, by simp, fun s => ?_, rfl⟩
    rw [← hbal s, hne]; simp [balE]
  · rw [if_neg hne]
    rcases postM_cases (l := l) (batchW_all hk hne (by omega)) (by omega) with h | ⟨h1, h2, h3, h4⟩
    · exact .inl h
    · refine .inr ⟨h1, by rw [h2]; simp, fun s => ?_, h4⟩
      rw [h3 s, hbal s]
theorem sumA_add {m m' : Bal} : ∀ {xs : List (List UInt8)} {ps : List Int}, xs.length = ps.length → xs.Nodup → (∀ a ∈ xs, bget m' a = bget m a + atA xs ps a) → sumA m' xs = sumA m xs + sumI ps
  | [], [], _, _, _ => rfl
  | a :: xs, p :: ps, hl, hn, h => by
    have h1 := h a (by simp)
    simp only [atA, if_true] at h1
    have ih := sumA_add (m := m) (m' := m') (xs := xs) (ps := ps) (by simpa using hl) (List.nodup_cons.1 hn).2 (fun b hb => by
      have := h b (by simp [hb])
      have hne : ¬ b = a := fun e => (List.nodup_cons.1 hn).1 (by rw [← e]; exact hb)
      simpa only [atA, hne, if_false] using this)
    simp only [sumA, sumI, ih, h1]; omega
/-- What is left owed behind a payment. -/
theorem pay_owed {l : Lg} {o : Off} (h : (owedM l o).2 = 0) {c : Int} (hr : (0 ≤ c ∧ c ≤ (owedM l o).1) ∨ (c ≤ 0 ∧ (owedM l o).1 ≤ c)) {p : Lg}
    (hp : ∀ s, bget p.map s = bget l.map s + (atA o.accs (payL c (vals l.map o.accs)) s - (if s = sBank then c else 0))) : owedM p o = ((owedM l o).1 - c, 0) := by
  obtain ⟨ho, hs, hb1, hb2⟩ := owedM_ok h
  obtain ⟨ha, hn⟩ := off_accs ho
  have hlen : o.accs.length = (payL c (vals l.map o.accs)).length := by rw [payL_len, vals_len]
  have hsum : sumI (payL c (vals l.map o.accs)) = c := by
    have := payL_sum (vals l.map o.accs) c
    rw [sumI_vals, ← hs] at this
    rcases hr with ⟨h1, h2⟩ | ⟨h1, h2⟩
    · exact this.1 h1 h2
    · exact this.2 h1 h2
  have := sumA_add hlen hn (m := l.map) (m' := p.map) (fun a h => by rw [hp a, if_neg (ha a h).2]; omega)
  rw [hsum] at this
  have e : -(sumA p.map o.accs) = (owedM l o).1 - c := by omega
  unfold owedM
  rw [if_neg (by simpa using ho), e, if_neg (by omega)]
  unfold owedM at e
  rfl
end Go.Proofs.YtdemgegpnlngeaaDoor

namespace Go.Proofs.YtdemgegpnlngeaaDoor
open Go PG Go.Proofs
set_option linter.unusedSimpArgs false
set_option linter.unusedVariables false
set_option maxHeartbeats 4000000
set_option maxRecDepth 100000
theorem sumA_zero {m : Bal} : ∀ {l : List (List UInt8)}, (∀ a ∈ l, bget m a = 0) → sumA m l = 0
  | [], _ => rfl
  | a :: l, h => by simp only [sumA, h a (by simp), sumA_zero (l := l) fun b hb => h b (by simp [hb])]; rfl
theorem owedM_zero {l : Lg} {o : Off} (h : offChk o = 0) (hz : ∀ a ∈ o.accs, bget l.map a = 0) : owedM l o = (0, 0) := by
  unfold owedM
  rw [if_neg (by simpa using h), sumA_zero hz, if_neg (by omega)]; rfl
theorem allM_err {L : Lg} : ∀ {os : List Off} {cur : Lg} {it : List (List UInt8 × Int)}, (allM L cur os it).2.2 ≠ 0 → (allM L cur os it).1 = L ∧ (allM L cur os it).2.1 = []
  | [], cur, it, h => by simp [allM] at h
  | o :: os, cur, it, h => by
    simp only [allM] at h ⊢
    by_cases h1 : (owedM cur o).2 ≠ 0
    · rw [if_pos h1]; exact ⟨rfl, rfl⟩
    · rw [if_neg h1] at h ⊢
      by_cases h2 : (settleM cur o).2 ≠ 0
      · rw [if_pos h2]; exact ⟨rfl, rfl⟩
      · rw [if_neg h2] at h ⊢
        exact allM_err h
theorem allM_ok {L : Lg} : ∀ {os : List Off} {cur : Lg} {it : List (List UInt8 × Int)}, LgW cur → cur.bs.length + os.length ≤ 200 → (allM L cur os it).2.2 = 0 →
    ∃ its, (allM L cur os it).2.1 = it ++ its ∧ its.map (·.1) = os.map (·.code) ∧ (∀ o ∈ os, offChk o = 0 ∧ ∀ a ∈ o.accs, bget (allM L cur os it).1.map a = 0) ∧ (∀ a, a ≠ sBank → bget cur.map a = 0 → bget (allM L cur os it).1.map a = 0) ∧
      bget (allM L cur os it).1.map sBank = bget cur.map sBank - sumI (its.map (·.2)) ∧ sumB (allM L cur os it).1.map = sumB cur.map ∧ (∀ x ∈ its, -1125899906842624 ≤ x.2 ∧ x.2 ≤ 1125899906842624)
  | [], cur, it, hW, hl, h => ⟨[], by simp [allM], rfl, by simp, fun a _ h => h, by simp [allM, sumI], rfl, by simp⟩
  | o :: os, cur, it, hW, hl, h => by
    simp only [allM] at h ⊢
    simp only [List.length_cons] at hl
    by_cases h1 : (owedM cur o).2 ≠ 0
    · rw [if_pos h1] at h; exact absurd h h1
    rw [if_neg h1] at h ⊢
    by_cases h2 : (settleM cur o).2 ≠ 0
    · rw [if_pos h2] at h; exact absurd h h2
    rw [if_neg h2] at h ⊢
    have h1 : (owedM cur o).2 = 0 := by simpa using h1
    have h2 : (settleM cur o).2 = 0 := by simpa using h2
    obtain ⟨ho, hs, hb1, hb2⟩ := owedM_ok h1
    obtain ⟨ha, hn⟩ := off_accs ho
    rcases settle_ok hW (by omega) ho with ⟨k1, -⟩ | ⟨-, k2, k3, k4⟩
    · rw [h2] at k1; omega
    have hW2 := settleM_W hW o
    obtain ⟨its, i1, i2, i3, i4, i5, i6, i7⟩ := allM_ok (os := os) (cur := (settleM cur o).1) (it := it ++ [(o.code, (owedM cur o).1)]) hW2 (by omega) h
    refine ⟨(o.code, (owedM cur o).1) :: its, by rw [i1]; simp, by simp [i2], fun x hx => ?_, fun a hab hz => ?_, ?_, by rw [i6, k4], fun x hx => ?_⟩
    · rcases List.mem_cons.1 hx with rfl | hx
      · refine ⟨ho, fun a hm => i4 a (ha a hm).2 ?_⟩
        rw [k3 a, if_neg (ha a hm).2, atA_vals _ hm]; omega
      · exact i3 x hx
    · apply i4 a hab
      rw [k3 a, if_neg hab]
      by_cases hm : a ∈ o.accs
      · rw [atA_vals _ hm]; omega
      · rw [atA_out hm, hz]; rfl
    · have hnb : sBank ∉ o.accs := fun hm => (ha _ hm).2 rfl
      rw [i5, k3 sBank, if_pos rfl, atA_out hnb]
      simp only [List.map_cons, sumI]; omega
    · rcases List.mem_cons.1 hx with rfl | hx
      · exact ⟨hb1, hb2⟩
      · exact i7 x hx
theorem allR_ok {L : Lg} (hW : LgW L) (hL : L.bs.length ≤ 60) {os : List Off} :
    ((allR L os).2.2 ≠ 0 ∧ (allR L os).1 = L ∧ (allR L os).2.1 = []) ∨ ((allR L os).2.2 = 0 ∧ os.length ≤ 64 ∧ (allR L os).2.1.map (·.1) = os.map (·.code) ∧ (∀ o ∈ os, offChk o = 0 ∧ ∀ a ∈ o.accs, bget (allR L os).1.map a = 0) ∧
      bget (allR L os).1.map sBank = bget L.map sBank - sumI ((allR L os).2.1.map (·.2)) ∧ sumB (allR L os).1.map = sumB L.map ∧ (∀ x ∈ (allR L os).2.1, -1125899906842624 ≤ x.2 ∧ x.2 ≤ 1125899906842624)) := by
  unfold allR
  by_cases h64 : 64 < os.length
  · rw [if_pos h64]; exact .inl ⟨by simp, rfl, rfl⟩
  rw [if_neg h64]
  by_cases h : (allM L L os []).2.2 = 0
  · obtain ⟨its, i1, i2, i3, -, i5, i6, i7⟩ := allM_ok hW (by omega) h
    rw [List.nil_append] at i1
    rw [i1]
    exact .inr ⟨h, by omega, i2, i3, i5, i6, i7⟩
  · exact .inl ⟨h, allM_err h⟩
/-- A part of what is owed. -/
theorem part_of {ow n : Int} (hn : 0 ≤ n ∧ n ≤ 255) : (0 ≤ (ow * n).tdiv 255 ∧ (ow * n).tdiv 255 ≤ ow) ∨ ((ow * n).tdiv 255 ≤ 0 ∧ ow ≤ (ow * n).tdiv 255) := by
  rcases Int.le_total 0 ow with h | h
  · left
    have h1 : 0 ≤ ow * n := Int.mul_nonneg h hn.1
    have h2 : ow * n ≤ ow * 255 := Int.mul_le_mul_of_nonneg_left hn.2 h
    rw [Int.tdiv_eq_ediv_of_nonneg h1]
    omega
  · right
    have h1 : 0 ≤ (-ow) * n := Int.mul_nonneg (by omega) hn.1
    have h2 : (-ow) * n ≤ (-ow) * 255 := Int.mul_le_mul_of_nonneg_left hn.2 (by omega)
    have e : ow * n = -((-ow) * n) := by rw [Int.neg_mul]; omega
    rw [e, Int.neg_tdiv, Int.tdiv_eq_ediv_of_nonneg h1]
    omega
end Go.Proofs.YtdemgegpnlngeaaDoor

namespace Go.Proofs.YtdemgegpnlngeaaDoor
open Go PG Go.Proofs
set_option linter.unusedSimpArgs false
set_option linter.unusedVariables false
set_option maxHeartbeats 4000000
set_option maxRecDepth 100000
theorem posted_ok2 {l : List (List Ent4)} (hz : batSz l) (hl : l.length ≤ 1048576) : (∃ L, VCalls Tryd.prog G0 20 [batP l] (.tup [lgP L, batP L.bs, .bool true]) ∧ LgW L ∧ L.bs.length ≤ 60 ∧ sumB L.map = 0) ∨ ∃ L, VCalls Tryd.prog G0 20 [batP l] (.tup [lgP L, .nilSl, .bool false]) ∧ LgW L := by
  have h20 := v20 l hz hl
  have hW := postedM_W (l := l) (n := 0) LgW_nil
  have h1 := postedM_len (l := l) (cur := lg0) (n := 0) (by simp) (by omega)
  have h2 : sumB (postedM lg0 0 l).1.map = 0 := postedM_sum
  obtain ⟨⟨L, b⟩, hP⟩ : ∃ R, postedM lg0 0 l = R := ⟨_, rfl⟩
  rw [hP] at h20 hW h1 h2
  cases b
  · exact .inr ⟨L, h20, hW⟩
  · exact .inl ⟨L, h20, hW, h1, h2⟩
end Go.Proofs.YtdemgegpnlngeaaDoor

