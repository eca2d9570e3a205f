import Derived.Handy
import Derived.Test.YtdiokmmjdpbdbaaQ5
import Derived.Test.YtdiokmmjdpbdbaaP4
import Derived.Test.YtdiokmmjdpbdbaaQ6
namespace Go.Proofs.Ytdiokmmjdpbdbaa
open Go PG Go.Proofs
set_option linter.unusedSimpArgs false
set_option linter.unusedVariables false
set_option maxHeartbeats 4000000
set_option maxRecDepth 100000
abbrev G0 : Globs := fun _ => none
theorem mix : Try.prog.follows .mixedOrders = true := by kernel_rfl
theorem e3 : Ent Try.prog 3 := ⟨Try.f3, Try.func3, by kernel_rfl, by kernel_rfl⟩
theorem e4 : Ent Try.prog 4 := ⟨Try.f4, Try.func4, by kernel_rfl, by kernel_rfl⟩
theorem e5 : Ent Try.prog 5 := ⟨Try.f5, Try.func5, by kernel_rfl, by kernel_rfl⟩
theorem e10 : Ent Try.prog 10 := ⟨Try.f10, Try.func10, by kernel_rfl, by kernel_rfl⟩
theorem e11 : Ent Try.prog 11 := ⟨Try.f11, Try.func11, by kernel_rfl, by kernel_rfl⟩
theorem e12 : Ent Try.prog 12 := ⟨Try.f12, Try.func12, by kernel_rfl, by kernel_rfl⟩
theorem e13 : Ent Try.prog 13 := ⟨Try.f13, Try.func13, by kernel_rfl, by kernel_rfl⟩
theorem e15 : Ent Try.prog 15 := ⟨Try.f15, Try.func15, by kernel_rfl, by kernel_rfl⟩
theorem e16 : Ent Try.prog 16 := ⟨Try.f16, Try.func16, by kernel_rfl, by kernel_rfl⟩
theorem e17 : Ent Try.prog 17 := ⟨Try.f17, Try.func17, by kernel_rfl, by kernel_rfl⟩
theorem e18 : Ent Try.prog 18 := ⟨Try.f18, Try.func18, by kernel_rfl, by kernel_rfl⟩
theorem e19 : Ent Try.prog 19 := ⟨Try.f19, Try.func19, by kernel_rfl, by kernel_rfl⟩
theorem e20 : Ent Try.prog 20 := ⟨Try.f20, Try.func20, by kernel_rfl, by kernel_rfl⟩
theorem e21 : Ent Try.prog 21 := ⟨Try.f21, Try.func21, by kernel_rfl, by kernel_rfl⟩
theorem e23 : Ent Try.prog 23 := ⟨Try.f23, Try.func23, by kernel_rfl, by kernel_rfl⟩
theorem e25 : Ent Try.prog 25 := ⟨Try.f25, Try.func25, by kernel_rfl, by kernel_rfl⟩
theorem e26 : Ent Try.prog 26 := ⟨Try.f26, Try.func26, by kernel_rfl, by kernel_rfl⟩
theorem e27 : Ent Try.prog 27 := ⟨Try.f27, Try.func27, by kernel_rfl, by kernel_rfl⟩
theorem e28 : Ent Try.prog 28 := ⟨Try.f28, Try.func28, by kernel_rfl, by kernel_rfl⟩
theorem e29 : Ent Try.prog 29 := ⟨Try.f29, Try.func29, by kernel_rfl, by kernel_rfl⟩
theorem e30 : Ent Try.prog 30 := ⟨Try.f30, Try.func30, by kernel_rfl, by kernel_rfl⟩
theorem e31 : Ent Try.prog 31 := ⟨Try.f31, Try.func31, by kernel_rfl, by kernel_rfl⟩
theorem e32 : Ent Try.prog 32 := ⟨Try.f32, Try.func32, by kernel_rfl, by kernel_rfl⟩
theorem e35 : Ent Try.prog 35 := ⟨Try.f35, Try.func35, by kernel_rfl, by kernel_rfl⟩
theorem e36 : Ent Try.prog 36 := ⟨Try.f36, Try.func36, by kernel_rfl, by kernel_rfl⟩
theorem e37 : Ent Try.prog 37 := ⟨Try.f37, Try.func37, by kernel_rfl, by kernel_rfl⟩
theorem e38 : Ent Try.prog 38 := ⟨Try.f38, Try.func38, by kernel_rfl, by kernel_rfl⟩
theorem e39 : Ent Try.prog 39 := ⟨Try.f39, Try.func39, by kernel_rfl, by kernel_rfl⟩
theorem e40 : Ent Try.prog 40 := ⟨Try.f40, Try.func40, by kernel_rfl, by kernel_rfl⟩
theorem e41 : Ent Try.prog 41 := ⟨Try.f41, Try.func41, by kernel_rfl, by kernel_rfl⟩
theorem e42 : Ent Try.prog 42 := ⟨Try.f42, Try.func42, by kernel_rfl, by kernel_rfl⟩
theorem e43 : Ent Try.prog 43 := ⟨Try.f43, Try.func43, by kernel_rfl, by kernel_rfl⟩
theorem e44 : Ent Try.prog 44 := ⟨Try.f44, Try.func44, by kernel_rfl, by kernel_rfl⟩
theorem e45 : Ent Try.prog 45 := ⟨Try.f45, Try.func45, by kernel_rfl, by kernel_rfl⟩
theorem e46 : Ent Try.prog 46 := ⟨Try.f46, Try.func46, by kernel_rfl, by kernel_rfl⟩
theorem e47 : Ent Try.prog 47 := ⟨Try.f47, Try.func47, by kernel_rfl, by kernel_rfl⟩
theorem e48 : Ent Try.prog 48 := ⟨Try.f48, Try.func48, by kernel_rfl, by kernel_rfl⟩
theorem e49 : Ent Try.prog 49 := ⟨Try.f49, Try.func49, by kernel_rfl, by kernel_rfl⟩
theorem e50 : Ent Try.prog 50 := ⟨Try.f50, Try.func50, by kernel_rfl, by kernel_rfl⟩
theorem e51 : Ent Try.prog 51 := ⟨Try.f51, Try.func51, by kernel_rfl, by kernel_rfl⟩
theorem e55 : Ent Try.prog 55 := ⟨Try.f55, Try.func55, by kernel_rfl, by kernel_rfl⟩
theorem e56 : Ent Try.prog 56 := ⟨Try.f56, Try.func56, by kernel_rfl, by kernel_rfl⟩
def edP (e : Ed) : PV := .agg [.str e.name, .list none (e.needs.map PV.str)]
abbrev edL (l : List Ed) : PV := .list (some 2) (l.map edP)
abbrev txL (l : List St) : PV := .list none (l.map PV.str)
theorem ed_getD (l : List Ed) (i : Nat) (h : i < l.length) : (l.map edP).getD i .junk = edP l[i] := by simp [List.getD, h]
theorem tx_getD (l : List St) (i : Nat) (h : i < l.length) : (l.map PV.str).getD i .junk = .str l[i] := by simp [List.getD, h]
/-- What a closure holds is closed. -/
structure Cl (caps : List PV) : Prop where
  view : ∀ μ, caps.map (PV.view μ) = caps
  seen : ∀ μ, (caps.map (PV.seen μ)).all id = true
def idxF (p : St → Bool) (xs : List St) : Int := match xs.findIdx? p with
  | some i => i
  | none => -1
theorem idxF_at {p : St → Bool} {xs : List St} {i : Nat} (h : i < xs.length) (hp : p xs[i] = true) (hn : ∀ j (h : j < xs.length), j < i → p xs[j] = false) : idxF p xs = i := by
  have : xs.findIdx? p = some i := List.findIdx?_eq_some_iff_getElem.2 ⟨h, hp, fun j hj => by rw [hn j (by omega) hj]; simp⟩
  unfold idxF; rw [this]
theorem idxF_none {p : St → Bool} {xs : List St} (hn : ∀ j (h : j < xs.length), p xs[j] = false) : idxF p xs = -1 := by
  have : xs.findIdx? p = none := List.findIdx?_eq_none_iff.2 fun x hx => by
    obtain ⟨j, hj, rfl⟩ := List.getElem_of_mem hx; exact hn j hj
  unfold idxF; rw [this]
theorem idxF_any (p : St → Bool) (xs : List St) : decide (0 ≤ idxF p xs) = xs.any p := by
  unfold idxF
  cases h : xs.findIdx? p with
  | some i =>
    obtain ⟨h1, h2, -⟩ := List.findIdx?_eq_some_iff_getElem.1 h
    have : xs.any p = true := List.any_eq_true.2 ⟨xs[i], List.getElem_mem h1, h2⟩
    rw [this]; simp only [decide_eq_true_eq]; omega
  | none =>
    have : xs.any p = false := by
      rw [List.any_eq_false]
      intro x hx; rw [List.findIdx?_eq_none_iff.1 h x hx]; simp
    rw [this]; rfl
theorem v41 (xs : List St) (p : St → Bool) (g : Nat) (caps : List PV) (hE : Ent Try.prog g) (hC : Cl caps) (hl : xs.length ≤ 9223372036854775807) (hg : ∀ x ∈ xs, VCalls Try.prog G0 g (.str x :: caps) (.bool (p x))) :
    VCalls Try.prog G0 41 [txL xs, .fn g [] caps] (.int .i64 (idxF p xs)) := by
  refine VCalls.of_PW Try.func41 k41 mix (by simp [c41]) ?_
  simp only [c41, L41, argE]
  have hv := hC.view
  have hs := hC.seen
  have hlen : ((xs.map PV.str).length : Nat) = xs.length := by simp
  repeat' (first | exact True.intro | (refine PW.seqK ?_; intro K hK) | refine PW.block ?_ | refine PW.scope ?_ | refine PW.label ?_ | refine PW.exit ?_ | refine PW.ret ?_ | refine PW.skip ?_ | refine seqK_n (by assumption) ?_ | refine seqK_r (by assumption) ?_ | refine seqK_e (by assumption) ?_ | refine PW.regionA ?_ | exact schedW_stop_i | refine schK_n (by assumption) ?_ | (refine schedW_alt_k ?_ ?_; focus (intro K hK; simp only [hlen, SS, SS2, SS3, SS4, SS5, Option.map_some, Nat.reduceAdd, reduceIte, Nat.reduceEqDiff, Nat.reduceBEq, eq_self, implies_true, ne_eq, beq_self_eq_true, id_eq, reduceCtorEq]; (try go_unwrap; try simp only [hlen, RR, reduceCtorEq]))) | (refine PW.cond rfl ?_ ?_ <;> intro hcond <;> (try contradiction) <;> try simp only [decide_eq_true_eq, decide_eq_false_iff_not] at hcond) | (refine gd_i ?_; intro hg; try simp only [hg]) | ((first | show @LE.le Nat _ _ _ | show @LT.lt Nat _ _ _ | show @LE.le Int _ _ _ | show @LT.lt Int _ _ _ | show @Eq Nat _ _ | show @Eq Int _ _ | show @Eq Bool _ _ | show _ ∨ _ | show ¬ _); first | omega | (simp only [decide_eq_true_eq, decide_eq_false_iff_not, List.length_cons, List.length_nil, List.length_append, List.length_map, Sh.size] <;> omega) | (go_unwrap; omega)) | ((first | refine PW.region ?_ | refine PW.regionQ ?_ | refine schedW_done_i ?_ | show (_ : Post) _ _ _ | show @Eq (List PV) _ _ | show @Eq Bool _ _ | show opsW _ _ _ _ _ _ _ _ | show okAll _ | show @Eq Bool _ _ ∨ _); focus (simp only [hlen, SS, SS2, SS3, SS4, SS5, Option.map_some, Nat.reduceAdd, reduceIte, Nat.reduceEqDiff, Nat.reduceBEq, eq_self, implies_true, ne_eq, beq_self_eq_true, id_eq, reduceCtorEq]; (try go_unwrap; try simp only [hlen, RR, reduceCtorEq]))) | refine And.intro ?_ ?_ | exact Or.inr ⟨rfl, Nat.le_refl _⟩ | exact (fun h => Bool.noConfusion h))
  refine PW.loop (σ := Nat) [0, 1, 4, 7, 8] (fun i => [txL xs, .fn g [] caps, .int .i64 0, .int .i64 xs.length, .int .i64 i]) (fun _ => []) (fun i => i ≤ xs.length ∧ ∀ j (h : j < xs.length), j < i → p xs[j] = false) (fun i => xs.length - i) 0 ?_ rfl ⟨by omega, fun j _ h => by omega⟩ ?_
  · simp only [SS, SS2, SS3, SS4, SS5, Option.map_some, Nat.reduceAdd, reduceIte, Nat.reduceEqDiff, Nat.reduceBEq, eq_self, implies_true, ne_eq, beq_self_eq_true, id_eq, reduceCtorEq]; rfl
  rintro i ⟨hi, hall⟩
  simp only [List.zip_cons_cons, List.zip_nil_left]
  rcases Nat.lt_or_ge i xs.length with h | h
  · have hd : decide ((i : Int) < xs.length) = true := by simp only [decide_eq_true_eq]; omega
    have hgt := tx_getD xs i h
    have hgx := hg xs[i] (List.getElem_mem h)
    have hat : p xs[i] = true → idxF p xs = i := fun hp => idxF_at h hp hall
    have hnx : p xs[i] = false → ∀ j (h : j < xs.length), j < i + 1 → p xs[j] = false := fun hp j hj hji => by
      rcases Nat.lt_or_ge j i with h' | h'
      · exact hall j hj h'
      · obtain rfl : j = i := by omega
        exact hp
    generalize xs[i] = x at hgt hgx hat hnx
    generalize p x = b at hgx hat hnx
    cases b
    · repeat' (first | exact True.intro | (refine PW.seqK ?_; intro K hK) | refine PW.block ?_ | refine PW.scope ?_ | refine PW.label ?_ | refine PW.exit ?_ | refine PW.ret ?_ | refine PW.skip ?_ | refine seqK_n (by assumption) ?_ | refine seqK_r (by assumption) ?_ | refine seqK_e (by assumption) ?_ | refine PW.regionA ?_ | exact schedW_stop_i | refine schK_n (by assumption) ?_ | (refine schedW_alt_k ?_ ?_; focus (intro K hK; simp only [hd, hgt, hlen, hv, hs, List.nil_append, List.cons_append, List.all_cons, SS, SS2, SS3, SS4, SS5, Option.map_some, Nat.reduceAdd, reduceIte, Nat.reduceEqDiff, Nat.reduceBEq, eq_self, implies_true, ne_eq, beq_self_eq_true, id_eq, reduceCtorEq]; (try go_unwrap; try simp only [hd, hgt, hlen, hv, hs, List.nil_append, List.cons_append, List.all_cons, RR, reduceCtorEq]))) | (refine PW.cond rfl ?_ ?_ <;> intro hcond <;> (try contradiction) <;> try simp only [decide_eq_true_eq, decide_eq_false_iff_not] at hcond) | (refine gd_i ?_; intro hg; try simp only [hg]) | refine goCall_W hE (hgx) ?_ ?_ ?_ ?_ | ((first | show @LE.le Nat _ _ _ | show @LT.lt Nat _ _ _ | show @LE.le Int _ _ _ | show @LT.lt Int _ _ _ | show @Eq Nat _ _ | show @Eq Int _ _ | show @Eq Bool _ _ | show _ ∨ _ | show ¬ _); first | omega | (simp only [decide_eq_true_eq, decide_eq_false_iff_not, List.length_cons, List.length_nil, List.length_append, List.length_map, Sh.size] <;> omega) | (go_unwrap; omega)) | ((first | refine PW.region ?_ | refine PW.regionQ ?_ | refine schedW_done_i ?_ | show (_ : Post) _ _ _ | show @Eq (List PV) _ _ | show @Eq Bool _ _ | show opsW _ _ _ _ _ _ _ _ | show okAll _ | show @Eq Bool _ _ ∨ _); focus (simp only [hd, hgt, hlen, hv, hs, List.nil_append, List.cons_append, List.all_cons, SS, SS2, SS3, SS4, SS5, Option.map_some, Nat.reduceAdd, reduceIte, Nat.reduceEqDiff, Nat.reduceBEq, eq_self, implies_true, ne_eq, beq_self_eq_true, id_eq, reduceCtorEq]; (try go_unwrap; try simp only [hd, hgt, hlen, hv, hs, List.nil_append, List.cons_append, List.all_cons, RR, reduceCtorEq]))) | refine And.intro ?_ ?_ | exact Or.inr ⟨rfl, Nat.le_refl _⟩ | exact (fun h => Bool.noConfusion h))
      all_goals exact ⟨i + 1, rfl, ⟨by omega, hnx (by first | rfl | trivial)⟩, by omega⟩
    · have := hat rfl
      repeat' (first | exact True.intro | (refine PW.seqK ?_; intro K hK) | refine PW.block ?_ | refine PW.scope ?_ | refine PW.label ?_ | refine PW.exit ?_ | refine PW.ret ?_ | refine PW.skip ?_ | refine seqK_n (by assumption) ?_ | refine seqK_r (by assumption) ?_ | refine seqK_e (by assumption) ?_ | refine PW.regionA ?_ | exact schedW_stop_i | refine schK_n (by assumption) ?_ | (refine schedW_alt_k ?_ ?_; focus (intro K hK; simp only [hd, hgt, hlen, hv, hs, List.nil_append, List.cons_append, List.all_cons, SS, SS2, SS3, SS4, SS5, Option.map_some, Nat.reduceAdd, reduceIte, Nat.reduceEqDiff, Nat.reduceBEq, eq_self, implies_true, ne_eq, beq_self_eq_true, id_eq, reduceCtorEq]; (try go_unwrap; try simp only [hd, hgt, hlen, hv, hs, List.nil_append, List.cons_append, List.all_cons, RR, reduceCtorEq]))) | (refine PW.cond rfl ?_ ?_ <;> intro hcond <;> (try contradiction) <;> try simp only [decide_eq_true_eq, decide_eq_false_iff_not] at hcond) | (refine gd_i ?_; intro hg; try simp only [hg]) | refine goCall_W hE (hgx) ?_ ?_ ?_ ?_ | ((first | show @LE.le Nat _ _ _ | show @LT.lt Nat _ _ _ | show @LE.le Int _ _ _ | show @LT.lt Int _ _ _ | show @Eq Nat _ _ | show @Eq Int _ _ | show @Eq Bool _ _ | show _ ∨ _ | show ¬ _); first | omega | (simp only [decide_eq_true_eq, decide_eq_false_iff_not, List.length_cons, List.length_nil, List.length_append, List.length_map, Sh.size] <;> omega) | (go_unwrap; omega)) | ((first | refine PW.region ?_ | refine PW.regionQ ?_ | refine schedW_done_i ?_ | show (_ : Post) _ _ _ | show @Eq (List PV) _ _ | show @Eq Bool _ _ | show opsW _ _ _ _ _ _ _ _ | show okAll _ | show @Eq Bool _ _ ∨ _); focus (simp only [hd, hgt, hlen, hv, hs, List.nil_append, List.cons_append, List.all_cons, SS, SS2, SS3, SS4, SS5, Option.map_some, Nat.reduceAdd, reduceIte, Nat.reduceEqDiff, Nat.reduceBEq, eq_self, implies_true, ne_eq, beq_self_eq_true, id_eq, reduceCtorEq]; (try go_unwrap; try simp only [hd, hgt, hlen, hv, hs, List.nil_append, List.cons_append, List.all_cons, RR, reduceCtorEq]))) | refine And.intro ?_ ?_ | exact Or.inr ⟨rfl, Nat.le_refl _⟩ | exact (fun h => Bool.noConfusion h))
      all_goals (rw [this])
  · have hd : decide ((i : Int) < xs.length) = false := by simp only [decide_eq_false_iff_not]; omega
    have := idxF_none (p := p) (xs := xs) (fun j hj => hall j hj (by omega))
    repeat' (first | exact True.intro | (refine PW.seqK ?_; intro K hK) | refine PW.block ?_ | refine PW.scope ?_ | refine PW.label ?_ | refine PW.exit ?_ | refine PW.ret ?_ | refine PW.skip ?_ | refine seqK_n (by assumption) ?_ | refine seqK_r (by assumption) ?_ | refine seqK_e (by assumption) ?_ | refine PW.regionA ?_ | exact schedW_stop_i | refine schK_n (by assumption) ?_ | (refine schedW_alt_k ?_ ?_; focus (intro K hK; simp only [hd, hlen, SS, SS2, SS3, SS4, SS5, Option.map_some, Nat.reduceAdd, reduceIte, Nat.reduceEqDiff, Nat.reduceBEq, eq_self, implies_true, ne_eq, beq_self_eq_true, id_eq, reduceCtorEq]; (try go_unwrap; try simp only [hd, hlen, RR, reduceCtorEq]))) | (refine PW.cond rfl ?_ ?_ <;> intro hcond <;> (try contradiction) <;> try simp only [decide_eq_true_eq, decide_eq_false_iff_not] at hcond) | (refine gd_i ?_; intro hg; try simp only [hg]) | ((first | show @LE.le Nat _ _ _ | show @LT.lt Nat _ _ _ | show @LE.le Int _ _ _ | show @LT.lt Int _ _ _ | show @Eq Nat _ _ | show @Eq Int _ _ | show @Eq Bool _ _ | show _ ∨ _ | show ¬ _); first | omega | (simp only [decide_eq_true_eq, decide_eq_false_iff_not, List.length_cons, List.length_nil, List.length_append, List.length_map, Sh.size] <;> omega) | (go_unwrap; omega)) | ((first | refine PW.region ?_ | refine PW.regionQ ?_ | refine schedW_done_i ?_ | show (_ : Post) _ _ _ | show @Eq (List PV) _ _ | show @Eq Bool _ _ | show opsW _ _ _ _ _ _ _ _ | show okAll _ | show @Eq Bool _ _ ∨ _); focus (simp only [hd, hlen, SS, SS2, SS3, SS4, SS5, Option.map_some, Nat.reduceAdd, reduceIte, Nat.reduceEqDiff, Nat.reduceBEq, eq_self, implies_true, ne_eq, beq_self_eq_true, id_eq, reduceCtorEq]; (try go_unwrap; try simp only [hd, hlen, RR, reduceCtorEq]))) | refine And.intro ?_ ?_ | exact Or.inr ⟨rfl, Nat.le_refl _⟩ | exact (fun h => Bool.noConfusion h))
    all_goals (rw [this])
theorem v43 (xs : List St) (p : St → Bool) (g : Nat) (caps : List PV) (hE : Ent Try.prog g) (hC : Cl caps) (hl : xs.length ≤ 9223372036854775807) (hg : ∀ x ∈ xs, VCalls Try.prog G0 g (.str x :: caps) (.bool (p x))) :
    VCalls Try.prog G0 43 [txL xs, .fn g [] caps] (.bool (xs.any p)) := by
  refine VCalls.of_PW Try.func43 k43 mix (by simp [c43]) ?_
  simp only [c43, L43, argE]
  have hv := hC.view
  have hs := hC.seen
  have h41 := v41 xs p g caps hE hC hl hg
  rw [← idxF_any]
  repeat' (first | exact True.intro | (refine PW.seqK ?_; intro K hK) | refine PW.block ?_ | refine PW.scope ?_ | refine PW.label ?_ | refine PW.exit ?_ | refine PW.ret ?_ | refine PW.skip ?_ | refine seqK_n (by assumption) ?_ | refine seqK_r (by assumption) ?_ | refine seqK_e (by assumption) ?_ | refine PW.regionA ?_ | exact schedW_stop_i | refine schK_n (by assumption) ?_ | (refine schedW_alt_k ?_ ?_; focus (intro K hK; simp only [hv, hs, SS, SS2, SS3, SS4, SS5, Option.map_some, Nat.reduceAdd, reduceIte, Nat.reduceEqDiff, Nat.reduceBEq, eq_self, implies_true, ne_eq, beq_self_eq_true, id_eq, reduceCtorEq]; (try go_unwrap; try simp only [hv, hs, RR, reduceCtorEq]))) | (refine PW.cond rfl ?_ ?_ <;> intro hcond <;> (try contradiction) <;> try simp only [decide_eq_true_eq, decide_eq_false_iff_not] at hcond) | (refine gd_i ?_; intro hg; try simp only [hg]) | refine goCall_W e41 (h41) ?_ ?_ ?_ ?_ | ((first | show @LE.le Nat _ _ _ | show @LT.lt Nat _ _ _ | show @LE.le Int _ _ _ | show @LT.lt Int _ _ _ | show @Eq Nat _ _ | show @Eq Int _ _ | show @Eq Bool _ _ | show _ ∨ _ | show ¬ _); first | omega | (simp only [decide_eq_true_eq, decide_eq_false_iff_not, List.length_cons, List.length_nil, List.length_append, List.length_map, Sh.size] <;> omega) | (go_unwrap; omega)) | ((first | refine PW.region ?_ | refine PW.regionQ ?_ | refine schedW_done_i ?_ | show (_ : Post) _ _ _ | show @Eq (List PV) _ _ | show @Eq Bool _ _ | show opsW _ _ _ _ _ _ _ _ | show okAll _ | show @Eq Bool _ _ ∨ _); focus (simp only [hv, hs, SS, SS2, SS3, SS4, SS5, Option.map_some, Nat.reduceAdd, reduceIte, Nat.reduceEqDiff, Nat.reduceBEq, eq_self, implies_true, ne_eq, beq_self_eq_true, id_eq, reduceCtorEq]; (try go_unwrap; try simp only [hv, hs, RR, reduceCtorEq]))) | refine And.intro ?_ ?_ | exact Or.inr ⟨rfl, Nat.le_refl _⟩ | exact (fun h => Bool.noConfusion h))
theorem cl0 : Cl [] := ⟨fun _ => rfl, fun _ => rfl⟩
theorem v47 (s : St) : VCalls Try.prog G0 47 [.str s] (.bool (nmOk s)) := by
  refine VCalls.of_PW Try.func47 k47 mix (by simp [c47]) ?_
  simp only [c47, L47, argE]
  by_cases h : s = []
  · have d1 : decide (s = []) = true := by simpa using h
    have : nmOk s = false := by unfold nmOk; rw [d1]; rfl
    rw [this]
    repeat' (first | exact True.intro | (refine PW.seqK ?_; intro K hK) | refine PW.block ?_ | refine PW.scope ?_ | refine PW.label ?_ | refine PW.exit ?_ | refine PW.ret ?_ | refine PW.skip ?_ | refine seqK_n (by assumption) ?_ | refine seqK_r (by assumption) ?_ | refine seqK_e (by assumption) ?_ | refine PW.regionA ?_ | exact schedW_stop_i | refine schK_n (by assumption) ?_ | (refine schedW_alt_k ?_ ?_; focus (intro K hK; simp only [d1, SS, SS2, SS3, SS4, SS5, Option.map_some, Nat.reduceAdd, reduceIte, Nat.reduceEqDiff, Nat.reduceBEq, eq_self, implies_true, ne_eq, beq_self_eq_true, id_eq, reduceCtorEq]; (try go_unwrap; try simp only [d1, RR, reduceCtorEq]))) | (refine PW.cond rfl ?_ ?_ <;> intro hcond <;> (try contradiction) <;> try simp only [decide_eq_true_eq, decide_eq_false_iff_not] at hcond) | (refine gd_i ?_; intro hg; try simp only [hg]) | ((first | show @LE.le Nat _ _ _ | show @LT.lt Nat _ _ _ | show @LE.le Int _ _ _ | show @LT.lt Int _ _ _ | show @Eq Nat _ _ | show @Eq Int _ _ | show @Eq Bool _ _ | show _ ∨ _ | show ¬ _); first | omega | (simp only [decide_eq_true_eq, decide_eq_false_iff_not, List.length_cons, List.length_nil, List.length_append, List.length_map, Sh.size] <;> omega) | (go_unwrap; omega)) | ((first | refine PW.region ?_ | refine PW.regionQ ?_ | refine schedW_done_i ?_ | show (_ : Post) _ _ _ | show @Eq (List PV) _ _ | show @Eq Bool _ _ | show opsW _ _ _ _ _ _ _ _ | show okAll _ | show @Eq Bool _ _ ∨ _); focus (simp only [d1, SS, SS2, SS3, SS4, SS5, Option.map_some, Nat.reduceAdd, reduceIte, Nat.reduceEqDiff, Nat.reduceBEq, eq_self, implies_true, ne_eq, beq_self_eq_true, id_eq, reduceCtorEq]; (try go_unwrap; try simp only [d1, RR, reduceCtorEq]))) | refine And.intro ?_ ?_ | exact Or.inr ⟨rfl, Nat.le_refl _⟩ | exact (fun h => Bool.noConfusion h))
  · have d1 : decide (s = []) = false := by simpa using h
    have : nmOk s = decide ((s.length : Int) ≤ 32) := by unfold nmOk; rw [d1]; simp; omega
    rw [this]
    repeat' (first | exact True.intro | (refine PW.seqK ?_; intro K hK) | refine PW.block ?_ | refine PW.scope ?_ | refine PW.label ?_ | refine PW.exit ?_ | refine PW.ret ?_ | refine PW.skip ?_ | refine seqK_n (by assumption) ?_ | refine seqK_r (by assumption) ?_ | refine seqK_e (by assumption) ?_ | refine PW.regionA ?_ | exact schedW_stop_i | refine schK_n (by assumption) ?_ | (refine schedW_alt_k ?_ ?_; focus (intro K hK; simp only [d1, SS, SS2, SS3, SS4, SS5, Option.map_some, Nat.reduceAdd, reduceIte, Nat.reduceEqDiff, Nat.reduceBEq, eq_self, implies_true, ne_eq, beq_self_eq_true, id_eq, reduceCtorEq]; (try go_unwrap; try simp only [d1, RR, reduceCtorEq]))) | (refine PW.cond rfl ?_ ?_ <;> intro hcond <;> (try contradiction) <;> try simp only [decide_eq_true_eq, decide_eq_false_iff_not] at hcond) | (refine gd_i ?_; intro hg; try simp only [hg]) | ((first | show @LE.le Nat _ _ _ | show @LT.lt Nat _ _ _ | show @LE.le Int _ _ _ | show @LT.lt Int _ _ _ | show @Eq Nat _ _ | show @Eq Int _ _ | show @Eq Bool _ _ | show _ ∨ _ | show ¬ _); first | omega | (simp only [decide_eq_true_eq, decide_eq_false_iff_not, List.length_cons, List.length_nil, List.length_append, List.length_map, Sh.size] <;> omega) | (go_unwrap; omega)) | ((first | refine PW.region ?_ | refine PW.regionQ ?_ | refine schedW_done_i ?_ | show (_ : Post) _ _ _ | show @Eq (List PV) _ _ | show @Eq Bool _ _ | show opsW _ _ _ _ _ _ _ _ | show okAll _ | show @Eq Bool _ _ ∨ _); focus (simp only [d1, SS, SS2, SS3, SS4, SS5, Option.map_some, Nat.reduceAdd, reduceIte, Nat.reduceEqDiff, Nat.reduceBEq, eq_self, implies_true, ne_eq, beq_self_eq_true, id_eq, reduceCtorEq]; (try go_unwrap; try simp only [d1, RR, reduceCtorEq]))) | refine And.intro ?_ ?_ | exact Or.inr ⟨rfl, Nat.le_refl _⟩ | exact (fun h => Bool.noConfusion h))
theorem v48 (s : St) : VCalls Try.prog G0 48 [.str s] (.bool (!nmOk s)) := by
  refine VCalls.of_PW Try.func48 k48 mix (by simp [c48]) ?_
  simp only [c48, L48, argE]
  have h47 := v47 s
  repeat' (first | exact True.intro | (refine PW.seqK ?_; intro K hK) | refine PW.block ?_ | refine PW.scope ?_ | refine PW.label ?_ | refine PW.exit ?_ | refine PW.ret ?_ | refine PW.skip ?_ | refine seqK_n (by assumption) ?_ | refine seqK_r (by assumption) ?_ | refine seqK_e (by assumption) ?_ | refine PW.regionA ?_ | exact schedW_stop_i | refine schK_n (by assumption) ?_ | (refine schedW_alt_k ?_ ?_; focus (intro K hK; simp only [SS, SS2, SS3, SS4, SS5, Option.map_some, Nat.reduceAdd, reduceIte, Nat.reduceEqDiff, Nat.reduceBEq, eq_self, implies_true, ne_eq, beq_self_eq_true, id_eq, reduceCtorEq]; (try go_unwrap; try simp only [RR, reduceCtorEq]))) | (refine PW.cond rfl ?_ ?_ <;> intro hcond <;> (try contradiction) <;> try simp only [decide_eq_true_eq, decide_eq_false_iff_not] at hcond) | (refine gd_i ?_; intro hg; try simp only [hg]) | refine goCall_W e47 (h47) ?_ ?_ ?_ ?_ | ((first | show @LE.le Nat _ _ _ | show @LT.lt Nat _ _ _ | show @LE.le Int _ _ _ | show @LT.lt Int _ _ _ | show @Eq Nat _ _ | show @Eq Int _ _ | show @Eq Bool _ _ | show _ ∨ _ | show ¬ _); first | omega | (simp only [decide_eq_true_eq, decide_eq_false_iff_not, List.length_cons, List.length_nil, List.length_append, List.length_map, Sh.size] <;> omega) | (go_unwrap; omega)) | ((first | refine PW.region ?_ | refine PW.regionQ ?_ | refine schedW_done_i ?_ | show (_ : Post) _ _ _ | show @Eq (List PV) _ _ | show @Eq Bool _ _ | show opsW _ _ _ _ _ _ _ _ | show okAll _ | show @Eq Bool _ _ ∨ _); focus (simp only [SS, SS2, SS3, SS4, SS5, Option.map_some, Nat.reduceAdd, reduceIte, Nat.reduceEqDiff, Nat.reduceBEq, eq_self, implies_true, ne_eq, beq_self_eq_true, id_eq, reduceCtorEq]; (try go_unwrap; try simp only [RR, reduceCtorEq]))) | refine And.intro ?_ ?_ | exact Or.inr ⟨rfl, Nat.le_refl _⟩ | exact (fun h => Bool.noConfusion h))
/-! The document's helpers -/
theorem v23 (l : List St) (s : St) (hl : l.length ≤ 9223372036854775807) : VCalls Try.prog G0 23 [txL l, .str s] (.bool (decide (s ∈ l))) := by
  refine VCalls.of_PW Try.func23 k23 mix (by simp [c23]) ?_
  simp only [c23, L23, argE]
  have hlen : ((l.map PV.str).length : Nat) = l.length := by simp
  repeat' (first | exact True.intro | (refine PW.seqK ?_; intro K hK) | refine PW.block ?_ | refine PW.scope ?_ | refine PW.label ?_ | refine PW.exit ?_ | refine PW.ret ?_ | refine PW.skip ?_ | refine seqK_n (by assumption) ?_ | refine seqK_r (by assumption) ?_ | refine seqK_e (by assumption) ?_ | refine PW.regionA ?_ | exact schedW_stop_i | refine schK_n (by assumption) ?_ | (refine schedW_alt_k ?_ ?_; focus (intro K hK; simp only [hlen, SS, SS2, SS3, SS4, SS5, Option.map_some, Nat.reduceAdd, reduceIte, Nat.reduceEqDiff, Nat.reduceBEq, eq_self, implies_true, ne_eq, beq_self_eq_true, id_eq, reduceCtorEq]; (try go_unwrap; try simp only [hlen, RR, reduceCtorEq]))) | (refine PW.cond rfl ?_ ?_ <;> intro hcond <;> (try contradiction) <;> try simp only [decide_eq_true_eq, decide_eq_false_iff_not] at hcond) | (refine gd_i ?_; intro hg; try simp only [hg]) | ((first | show @LE.le Nat _ _ _ | show @LT.lt Nat _ _ _ | show @LE.le Int _ _ _ | show @LT.lt Int _ _ _ | show @Eq Nat _ _ | show @Eq Int _ _ | show @Eq Bool _ _ | show _ ∨ _ | show ¬ _); first | omega | (simp only [decide_eq_true_eq, decide_eq_false_iff_not, List.length_cons, List.length_nil, List.length_append, List.length_map, Sh.size] <;> omega) | (go_unwrap; omega)) | ((first | refine PW.region ?_ | refine PW.regionQ ?_ | refine schedW_done_i ?_ | show (_ : Post) _ _ _ | show @Eq (List PV) _ _ | show @Eq Bool _ _ | show opsW _ _ _ _ _ _ _ _ | show okAll _ | show @Eq Bool _ _ ∨ _); focus (simp only [hlen, SS, SS2, SS3, SS4, SS5, Option.map_some, Nat.reduceAdd, reduceIte, Nat.reduceEqDiff, Nat.reduceBEq, eq_self, implies_true, ne_eq, beq_self_eq_true, id_eq, reduceCtorEq]; (try go_unwrap; try simp only [hlen, RR, reduceCtorEq]))) | refine And.intro ?_ ?_ | exact Or.inr ⟨rfl, Nat.le_refl _⟩ | exact (fun h => Bool.noConfusion h))
  refine PW.loop (σ := Nat) [0, 1, 4, 5] (fun i => [txL l, .str s, .bool false, .int .i64 i]) (fun _ => []) (fun i => i ≤ l.length ∧ ∀ j (h : j < l.length), j < i → l[j] ≠ s) (fun i => l.length - i) 0 ?_ rfl ⟨by omega, fun j _ h => by omega⟩ ?_
  · simp only [SS, SS2, SS3, SS4, SS5, Option.map_some, Nat.reduceAdd, reduceIte, Nat.reduceEqDiff, Nat.reduceBEq, eq_self, implies_true, ne_eq, beq_self_eq_true, id_eq, reduceCtorEq]; rfl
  rintro i ⟨hi, hall⟩
  simp only [List.zip_cons_cons, List.zip_nil_left]
  rcases Nat.lt_or_ge i l.length with h | h
  · have hd : decide ((i : Int) < l.length) = true := by simp only [decide_eq_true_eq]; omega
    have hg := tx_getD l i h
    have hin : l[i] = s → decide (s ∈ l) = true := fun e => by rw [decide_eq_true_eq, ← e]; exact List.getElem_mem h
    have hnx : l[i] ≠ s → ∀ j (h : j < l.length), j < i + 1 → l[j] ≠ s := fun hp j hj hji => by
      rcases Nat.lt_or_ge j i with h' | h'
      · exact hall j hj h'
      · obtain rfl : j = i := by omega
        exact hp
    generalize l[i] = x at hg hin hnx
    by_cases he : x = s
    · have d1 : decide (x = s) = true := by simpa using he
      have := hin he
      repeat' (first | exact True.intro | (refine PW.seqK ?_; intro K hK) | refine PW.block ?_ | refine PW.scope ?_ | refine PW.label ?_ | refine PW.exit ?_ | refine PW.ret ?_ | refine PW.skip ?_ | refine seqK_n (by assumption) ?_ | refine seqK_r (by assumption) ?_ | refine seqK_e (by assumption) ?_ | refine PW.regionA ?_ | exact schedW_stop_i | refine schK_n (by assumption) ?_ | (refine schedW_alt_k ?_ ?_; focus (intro K hK; simp only [hd, hg, hlen, d1, SS, SS2, SS3, SS4, SS5, Option.map_some, Nat.reduceAdd, reduceIte, Nat.reduceEqDiff, Nat.reduceBEq, eq_self, implies_true, ne_eq, beq_self_eq_true, id_eq, reduceCtorEq]; (try go_unwrap; try simp only [hd, hg, hlen, d1, RR, reduceCtorEq]))) | (refine PW.cond rfl ?_ ?_ <;> intro hcond <;> (try contradiction) <;> try simp only [decide_eq_true_eq, decide_eq_false_iff_not] at hcond) | (refine gd_i ?_; intro hg; try simp only [hg]) | ((first | show @LE.le Nat _ _ _ | show @LT.lt Nat _ _ _ | show @LE.le Int _ _ _ | show @LT.lt Int _ _ _ | show @Eq Nat _ _ | show @Eq Int _ _ | show @Eq Bool _ _ | show _ ∨ _ | show ¬ _); first | omega | (simp only [decide_eq_true_eq, decide_eq_false_iff_not, List.length_cons, List.length_nil, List.length_append, List.length_map, Sh.size] <;> omega) | (go_unwrap; omega)) | ((first | refine PW.region ?_ | refine PW.regionQ ?_ | refine schedW_done_i ?_ | show (_ : Post) _ _ _ | show @Eq (List PV) _ _ | show @Eq Bool _ _ | show opsW _ _ _ _ _ _ _ _ | show okAll _ | show @Eq Bool _ _ ∨ _); focus (simp only [hd, hg, hlen, d1, SS, SS2, SS3, SS4, SS5, Option.map_some, Nat.reduceAdd, reduceIte, Nat.reduceEqDiff, Nat.reduceBEq, eq_self, implies_true, ne_eq, beq_self_eq_true, id_eq, reduceCtorEq]; (try go_unwrap; try simp only [hd, hg, hlen, d1, RR, reduceCtorEq]))) | refine And.intro ?_ ?_ | exact Or.inr ⟨rfl, Nat.le_refl _⟩ | exact (fun h => Bool.noConfusion h))
      all_goals (rw [this])
    · have d1 : decide (x = s) = false := by simpa using he
      repeat' (first | exact True.intro | (refine PW.seqK ?_; intro K hK) | refine PW.block ?_ | refine PW.scope ?_ | refine PW.label ?_ | refine PW.exit ?_ | refine PW.ret ?_ | refine PW.skip ?_ | refine seqK_n (by assumption) ?_ | refine seqK_r (by assumption) ?_ | refine seqK_e (by assumption) ?_ | refine PW.regionA ?_ | exact schedW_stop_i | refine schK_n (by assumption) ?_ | (refine schedW_alt_k ?_ ?_; focus (intro K hK; simp only [hd, hg, hlen, d1, SS, SS2, SS3, SS4, SS5, Option.map_some, Nat.reduceAdd, reduceIte, Nat.reduceEqDiff, Nat.reduceBEq, eq_self, implies_true, ne_eq, beq_self_eq_true, id_eq, reduceCtorEq]; (try go_unwrap; try simp only [hd, hg, hlen, d1, RR, reduceCtorEq]))) | (refine PW.cond rfl ?_ ?_ <;> intro hcond <;> (try contradiction) <;> try simp only [decide_eq_true_eq, decide_eq_false_iff_not] at hcond) | (refine gd_i ?_; intro hg; try simp only [hg]) | ((first | show @LE.le Nat _ _ _ | show @LT.lt Nat _ _ _ | show @LE.le Int _ _ _ | show @LT.lt Int _ _ _ | show @Eq Nat _ _ | show @Eq Int _ _ | show @Eq Bool _ _ | show _ ∨ _ | show ¬ _); first | omega | (simp only [decide_eq_true_eq, decide_eq_false_iff_not, List.length_cons, List.length_nil, List.length_append, List.length_map, Sh.size] <;> omega) | (go_unwrap; omega)) | ((first | refine PW.region ?_ | refine PW.regionQ ?_ | refine schedW_done_i ?_ | show (_ : Post) _ _ _ | show @Eq (List PV) _ _ | show @Eq Bool _ _ | show opsW _ _ _ _ _ _ _ _ | show okAll _ | show @Eq Bool _ _ ∨ _); focus (simp only [hd, hg, hlen, d1, SS, SS2, SS3, SS4, SS5, Option.map_some, Nat.reduceAdd, reduceIte, Nat.reduceEqDiff, Nat.reduceBEq, eq_self, implies_true, ne_eq, beq_self_eq_true, id_eq, reduceCtorEq]; (try go_unwrap; try simp only [hd, hg, hlen, d1, RR, reduceCtorEq]))) | refine And.intro ?_ ?_ | exact Or.inr ⟨rfl, Nat.le_refl _⟩ | exact (fun h => Bool.noConfusion h))
      all_goals exact ⟨i + 1, rfl, ⟨by omega, hnx he⟩, by omega⟩
  · have hd : decide ((i : Int) < l.length) = false := by simp only [decide_eq_false_iff_not]; omega
    have : decide (s ∈ l) = false := by
      rw [decide_eq_false_iff_not]
      intro hm
      obtain ⟨j, hj, e⟩ := List.getElem_of_mem hm
      exact hall j hj (by omega) e
    repeat' (first | exact True.intro | (refine PW.seqK ?_; intro K hK) | refine PW.block ?_ | refine PW.scope ?_ | refine PW.label ?_ | refine PW.exit ?_ | refine PW.ret ?_ | refine PW.skip ?_ | refine seqK_n (by assumption) ?_ | refine seqK_r (by assumption) ?_ | refine seqK_e (by assumption) ?_ | refine PW.regionA ?_ | exact schedW_stop_i | refine schK_n (by assumption) ?_ | (refine schedW_alt_k ?_ ?_; focus (intro K hK; simp only [hd, hlen, SS, SS2, SS3, SS4, SS5, Option.map_some, Nat.reduceAdd, reduceIte, Nat.reduceEqDiff, Nat.reduceBEq, eq_self, implies_true, ne_eq, beq_self_eq_true, id_eq, reduceCtorEq]; (try go_unwrap; try simp only [hd, hlen, RR, reduceCtorEq]))) | (refine PW.cond rfl ?_ ?_ <;> intro hcond <;> (try contradiction) <;> try simp only [decide_eq_true_eq, decide_eq_false_iff_not] at hcond) | (refine gd_i ?_; intro hg; try simp only [hg]) | ((first | show @LE.le Nat _ _ _ | show @LT.lt Nat _ _ _ | show @LE.le Int _ _ _ | show @LT.lt Int _ _ _ | show @Eq Nat _ _ | show @Eq Int _ _ | show @Eq Bool _ _ | show _ ∨ _ | show ¬ _); first | omega | (simp only [decide_eq_true_eq, decide_eq_false_iff_not, List.length_cons, List.length_nil, List.length_append, List.length_map, Sh.size] <;> omega) | (go_unwrap; omega)) | ((first | refine PW.region ?_ | refine PW.regionQ ?_ | refine schedW_done_i ?_ | show (_ : Post) _ _ _ | show @Eq (List PV) _ _ | show @Eq Bool _ _ | show opsW _ _ _ _ _ _ _ _ | show okAll _ | show @Eq Bool _ _ ∨ _); focus (simp only [hd, hlen, SS, SS2, SS3, SS4, SS5, Option.map_some, Nat.reduceAdd, reduceIte, Nat.reduceEqDiff, Nat.reduceBEq, eq_self, implies_true, ne_eq, beq_self_eq_true, id_eq, reduceCtorEq]; (try go_unwrap; try simp only [hd, hlen, RR, reduceCtorEq]))) | refine And.intro ?_ ?_ | exact Or.inr ⟨rfl, Nat.le_refl _⟩ | exact (fun h => Bool.noConfusion h))
    all_goals (rw [this])
end Go.Proofs.Ytdiokmmjdpbdbaa

