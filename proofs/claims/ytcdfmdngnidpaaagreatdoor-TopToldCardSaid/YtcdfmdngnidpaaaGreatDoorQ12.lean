import Derived.Test.YtcdfmdngnidpaaaGreatDoorRows
import Derived.LaidMore
import Derived.Stop.Joined
import Derived.Test.YtcdfmdngnidpaaaGreatDoorQ11
import Derived.Test.YtcdfmdngnidpaaaGreatDoorQ9
namespace Go.Proofs.YtcdfmdngnidpaaaGreatDoor
open Go PG Go.Proofs
set_option linter.unusedSimpArgs false
set_option linter.unusedVariables false
set_option maxHeartbeats 4000000
set_option maxRecDepth 100000
def x0 : Td := ⟨0, 5, 3, 0, 0⟩
def f0 : Fc := ⟨0, 1, 2, 3, 0, [], 5, []⟩
theorem x0_ok : TdOk x0 := ⟨by decide, by decide, by decide, by decide, by decide⟩
theorem told0 : toldF [x0] = [f0] := by kernel_rfl
theorem facts0 : factsM [f0] 1 2 = [⟨1, f0⟩] := by kernel_rfl
theorem place0 : placeM [⟨1, f0⟩] 4 = 0 := by kernel_rfl
theorem val0 : valM [⟨1, f0⟩] 0 = ⟨1, 5, []⟩ := by kernel_rfl
theorem v6 : VCalls Tryz.prog G0 6 [] (.bool true) := by
  refine VCalls.of_PW Tryz.func6 k6 mix (by simp [c6]) ?_
  simp only [c6, L6, argE]
  have h8 := v8 [x0] (by simp) (fun x hx => by simp at hx; subst hx; exact x0_ok)
  rw [told0] at h8
  have h10 := v10 [f0] (by simp) 1 (by simp)
  have h11 := v11 [f0] (by simp) (fun f hf => by simp at hf; subst hf; rfl) 1 2
  rw [facts0] at h11
  have h9 := v9 [⟨1, f0⟩] (by simp)
  rw [show knW [⟨1, f0⟩] = knL [⟨1, f0⟩] from rfl] at h9
  have h12 := v12 [⟨1, f0⟩] (by simp) 4
  rw [place0, val0] at h12
  have h13 := v13 [f0]
  rw [show [f0].take 1 = [f0] from rfl] at h10
  have hA : (decide ((0 : Int) ≤ 0)) = true := rfl
  rw [hA] at h12
  simp only [stP, fcL, tdL, knL, linP, List.map_cons, List.map_nil, tdP, x0, vlP, List.length_cons, List.length_nil, Nat.zero_add] at h8 h9 h10 h11 h12 h13
  generalize fcP f0 = F at h8 h10 h11 h13
  generalize knP ⟨1, f0⟩ = KK at h9 h11 h12
  have d1 : decide (((1 : Nat) : Int) = 1) = true := rfl
  have d5 : decide ((5 : Int) = 5) = true := rfl
  repeat' (first | exact True.intro | (refine PW.seqK ?_; intro K hK) | refine PW.block ?_ | refine PW.scope ?_ | refine PW.label ?_ | refine PW.exit ?_ | refine PW.ret ?_ | refine PW.skip ?_ | refine seqK_n (by assumption) ?_ | refine seqK_r (by assumption) ?_ | refine seqK_e (by assumption) ?_ | refine PW.regionA ?_ | exact schedW_stop_i | refine schK_n (by assumption) ?_ | (refine schedW_alt_k ?_ ?_; focus (intro K hK; simp only [GC, cut11, d1, d5, SS, SS2, SS3, SS4, SS5, Option.map_some, Nat.reduceAdd, reduceIte, Nat.reduceEqDiff, Nat.reduceBEq, eq_self, implies_true, ne_eq, beq_self_eq_true, id_eq, reduceCtorEq]; (try go_unwrap; try simp only [GC, cut11, d1, d5, RR, reduceCtorEq]))) | (refine PW.cond rfl ?_ ?_ <;> intro hcond <;> (try contradiction) <;> try simp only [decide_eq_true_eq, decide_eq_false_iff_not] at hcond) | (refine gd_i ?_; intro hg; try simp only [hg]) | refine goCall_W e8 (h8) ?_ ?_ ?_ ?_ | refine goCall_W e10 (h10) ?_ ?_ ?_ ?_ | refine goCall_W e11 (h11) ?_ ?_ ?_ ?_ | refine goCall_W e9 (h9) ?_ ?_ ?_ ?_ | refine goCall_W e12 (h12) ?_ ?_ ?_ ?_ | refine goCallG_W e13 (h13) ?_ ?_ ?_ ?_ ?_ | ((first | show @LE.le Nat _ _ _ | show @LT.lt Nat _ _ _ | show @LE.le Int _ _ _ | show @LT.lt Int _ _ _ | show @Eq Nat _ _ | show @Eq Int _ _ | show @Eq Bool _ _ | show _ ∨ _ | show ¬ _); first | omega | (simp only [decide_eq_true_eq, decide_eq_false_iff_not, List.length_cons, List.length_nil, List.length_append, List.length_map, Sh.size] <;> omega) | (go_unwrap; omega)) | ((first | refine PW.region ?_ | refine PW.regionQ ?_ | refine schedW_done_i ?_ | show (_ : Post) _ _ _ | show @Eq (List PV) _ _ | show @Eq Bool _ _ | show opsW _ _ _ _ _ _ _ _ | show okAll _ | show @Eq Bool _ _ ∨ _); focus (simp only [GC, cut11, d1, d5, SS, SS2, SS3, SS4, SS5, Option.map_some, Nat.reduceAdd, reduceIte, Nat.reduceEqDiff, Nat.reduceBEq, eq_self, implies_true, ne_eq, beq_self_eq_true, id_eq, reduceCtorEq]; (try go_unwrap; try simp only [GC, cut11, d1, d5, RR, reduceCtorEq]))) | refine And.intro ?_ ?_ | exact Or.inr ⟨rfl, Nat.le_refl _⟩ | exact (fun h => Bool.noConfusion h))
  all_goals rfl
theorem told_kind (l : List Td) : ∀ f ∈ toldF l, f.kind = 2 := by
  intro f hf
  obtain ⟨x, -, rfl⟩ := List.mem_map.1 hf
  rfl
theorem told_takeN (l : List Td) (k : Nat) : (toldF l).take k = toldF (l.take k) := by unfold toldF; rw [List.map_take]
theorem app_take (A C : List Fc) (k : Nat) (h : k ≤ A.length) : (A ++ C).take k = A.take k := by rw [List.take_append_of_le_length h]
theorem v4 (l : List Td) (hl : l.length ≤ 9223372036854775807) (hok : ∀ x ∈ l, TdOk x) (n : Nat) (hn : n ≤ 255) (tk : List UInt8) (htl : tk.length ≤ 9223372036854775807) : VCalls Tryz.prog G0 4 [tdL l, .int .u8 n, .list none (u8s tk)] (.bool true) := by
  refine VCalls.of_PW Tryz.func4 k4d mix (by simp [c4d]) ?_
  simp only [c4d, L4d, argE]
  have h6 := v6
  have hlen := td_len l
  have hul : ((u8s tk).length : Nat) = tk.length := by simp [u8s]
  by_cases h40 : l.length ≤ 40
  case neg =>
    have d1 : decide ((40 : Int) < l.length) = true := by simp only [decide_eq_true_eq]; omega
    repeat' (first | exact True.intro | (refine PW.seqK ?_; intro K hK) | refine PW.block ?_ | refine PW.scope ?_ | refine PW.label ?_ | refine PW.exit ?_ | refine PW.ret ?_ | refine PW.skip ?_ | refine seqK_n (by assumption) ?_ | refine seqK_r (by assumption) ?_ | refine seqK_e (by assumption) ?_ | refine PW.regionA ?_ | exact schedW_stop_i | refine schK_n (by assumption) ?_ | (refine schedW_alt_k ?_ ?_; focus (intro K hK; simp only [hlen, d1, SS, SS2, SS3, SS4, SS5, Option.map_some, Nat.reduceAdd, reduceIte, Nat.reduceEqDiff, Nat.reduceBEq, eq_self, implies_true, ne_eq, beq_self_eq_true, id_eq, reduceCtorEq]; (try go_unwrap; try simp only [hlen, d1, RR, reduceCtorEq]))) | (refine PW.cond rfl ?_ ?_ <;> intro hcond <;> (try contradiction) <;> try simp only [decide_eq_true_eq, decide_eq_false_iff_not] at hcond) | (refine gd_i ?_; intro hg; try simp only [hg]) | refine goCall_W e6 (h6) ?_ ?_ ?_ ?_ | ((first | show @LE.le Nat _ _ _ | show @LT.lt Nat _ _ _ | show @LE.le Int _ _ _ | show @LT.lt Int _ _ _ | show @Eq Nat _ _ | show @Eq Int _ _ | show @Eq Bool _ _ | show _ ∨ _ | show ¬ _); first | omega | (simp only [decide_eq_true_eq, decide_eq_false_iff_not, List.length_cons, List.length_nil, List.length_append, List.length_map, Sh.size] <;> omega) | (go_unwrap; omega)) | ((first | refine PW.region ?_ | refine PW.regionQ ?_ | refine schedW_done_i ?_ | show (_ : Post) _ _ _ | show @Eq (List PV) _ _ | show @Eq Bool _ _ | show opsW _ _ _ _ _ _ _ _ | show okAll _ | show @Eq Bool _ _ ∨ _); focus (simp only [hlen, d1, SS, SS2, SS3, SS4, SS5, Option.map_some, Nat.reduceAdd, reduceIte, Nat.reduceEqDiff, Nat.reduceBEq, eq_self, implies_true, ne_eq, beq_self_eq_true, id_eq, reduceCtorEq]; (try go_unwrap; try simp only [hlen, d1, RR, reduceCtorEq]))) | refine And.intro ?_ ?_ | exact Or.inr ⟨rfl, Nat.le_refl _⟩ | exact (fun h => Bool.noConfusion h))
  have d1 : decide ((40 : Int) < l.length) = false := by simp only [decide_eq_false_iff_not]; omega
  by_cases ht40 : tk.length ≤ 40
  case neg =>
    have d2 : decide ((40 : Int) < tk.length) = true := by simp only [decide_eq_true_eq]; omega
    repeat' (first | exact True.intro | (refine PW.seqK ?_; intro K hK) | refine PW.block ?_ | refine PW.scope ?_ | refine PW.label ?_ | refine PW.exit ?_ | refine PW.ret ?_ | refine PW.skip ?_ | refine seqK_n (by assumption) ?_ | refine seqK_r (by assumption) ?_ | refine seqK_e (by assumption) ?_ | refine PW.regionA ?_ | exact schedW_stop_i | refine schK_n (by assumption) ?_ | (refine schedW_alt_k ?_ ?_; focus (intro K hK; simp only [hlen, hul, d1, d2, SS, SS2, SS3, SS4, SS5, Option.map_some, Nat.reduceAdd, reduceIte, Nat.reduceEqDiff, Nat.reduceBEq, eq_self, implies_true, ne_eq, beq_self_eq_true, id_eq, reduceCtorEq]; (try go_unwrap; try simp only [hlen, hul, d1, d2, RR, reduceCtorEq]))) | (refine PW.cond rfl ?_ ?_ <;> intro hcond <;> (try contradiction) <;> try simp only [decide_eq_true_eq, decide_eq_false_iff_not] at hcond) | (refine gd_i ?_; intro hg; try simp only [hg]) | refine goCall_W e6 (h6) ?_ ?_ ?_ ?_ | ((first | show @LE.le Nat _ _ _ | show @LT.lt Nat _ _ _ | show @LE.le Int _ _ _ | show @LT.lt Int _ _ _ | show @Eq Nat _ _ | show @Eq Int _ _ | show @Eq Bool _ _ | show _ ∨ _ | show ¬ _); first | omega | (simp only [decide_eq_true_eq, decide_eq_false_iff_not, List.length_cons, List.length_nil, List.length_append, List.length_map, Sh.size] <;> omega) | (go_unwrap; omega)) | ((first | refine PW.region ?_ | refine PW.regionQ ?_ | refine schedW_done_i ?_ | show (_ : Post) _ _ _ | show @Eq (List PV) _ _ | show @Eq Bool _ _ | show opsW _ _ _ _ _ _ _ _ | show okAll _ | show @Eq Bool _ _ ∨ _); focus (simp only [hlen, hul, d1, d2, SS, SS2, SS3, SS4, SS5, Option.map_some, Nat.reduceAdd, reduceIte, Nat.reduceEqDiff, Nat.reduceBEq, eq_self, implies_true, ne_eq, beq_self_eq_true, id_eq, reduceCtorEq]; (try go_unwrap; try simp only [hlen, hul, d1, d2, RR, reduceCtorEq]))) | refine And.intro ?_ ?_ | exact Or.inr ⟨rfl, Nat.le_refl _⟩ | exact (fun h => Bool.noConfusion h))
  have d2 : decide ((40 : Int) < tk.length) = false := by simp only [decide_eq_false_iff_not]; omega
  have w0 : IntKind.i64.wrap (n : Int) = n := IntWalk.i64_in _ (by omega)
  have w1 : IntKind.i64.wrap ((l.length : Int) + 1) = ((l.length + 1 : Nat) : Int) := by rw [IntWalk.i64_in _ (by omega)]; omega
  have htm : (n : Int).tmod ((l.length + 1 : Nat) : Int) = ((n % (l.length + 1) : Nat) : Int) := by
    rw [Int.tmod_eq_emod_of_nonneg (by omega)]; simp
  have hk : n % (l.length + 1) < l.length + 1 := Nat.mod_lt _ (by omega)
  obtain ⟨k, hkk⟩ : ∃ k, n % (l.length + 1) = k := ⟨_, rfl⟩
  rw [hkk] at htm hk
  obtain ⟨N, hN⟩ : ∃ N, l.length + 1 = N := ⟨_, rfl⟩
  rw [hN] at w1 htm
  have hN0 : ¬ ((N : Int) = 0) := by omega
  have hsl : (l.map tdP).take k = (l.take k).map tdP := by rw [List.map_take]
  have h8a := v8 (l.take k) (by simp; omega) (fun x hx => hok x (List.mem_of_mem_take hx))
  have h8b := v8 l (by omega) hok
  have hAl : (toldF (l.take k)).length = k := by rw [told_len]; simp; omega
  have hBl : (toldF l).length = l.length := told_len l
  have hAk := told_kind (l.take k)
  have hAB : (toldF l).take k = toldF (l.take k) := told_takeN l k
  have hAA : (toldF (l.take k)).take k = toldF (l.take k) := List.take_of_length_le (by omega)
  generalize toldF (l.take k) = A at h8a hAl hAk hAB hAA
  generalize toldF l = B0 at h8b hBl hAB
  have h13a := v13 A
  rw [hAl] at h13a
  have dk : decide ((k : Int) = k) = true := by simp
  have hd0 : ∀ X : List PV, X.drop (Int.toNat 0) = X := fun _ => rfl
  repeat' (first | exact True.intro | (refine PW.seqK ?_; intro K hK) | refine PW.block ?_ | refine PW.scope ?_ | refine PW.label ?_ | refine PW.exit ?_ | refine PW.ret ?_ | refine PW.skip ?_ | refine seqK_n (by assumption) ?_ | refine seqK_r (by assumption) ?_ | refine seqK_e (by assumption) ?_ | refine PW.regionA ?_ | exact schedW_stop_i | refine schK_n (by assumption) ?_ | (refine schedW_alt_k ?_ ?_; focus (intro K hK; simp only [hlen, hul, d1, d2, w0, w1, htm, hN0, hsl, hd0, dk, cut11, SS, SS2, SS3, SS4, SS5, Option.map_some, Nat.reduceAdd, reduceIte, Nat.reduceEqDiff, Nat.reduceBEq, eq_self, implies_true, ne_eq, beq_self_eq_true, id_eq, reduceCtorEq]; (try go_unwrap; try simp only [hlen, hul, d1, d2, w0, w1, htm, hN0, hsl, hd0, dk, cut11, RR, reduceCtorEq]))) | (refine PW.cond rfl ?_ ?_ <;> intro hcond <;> (try contradiction) <;> try simp only [decide_eq_true_eq, decide_eq_false_iff_not] at hcond) | (apply goCall_V e8; (case hV => (simp only [hlen, hul, d1, d2, w0, w1, htm, hN0, hsl, hd0, dk, cut11, SS, SS2, SS3, SS4, SS5, Option.map_some, Nat.reduceAdd, reduceIte, Nat.reduceEqDiff, Nat.reduceBEq, eq_self, implies_true, ne_eq, beq_self_eq_true, id_eq, reduceCtorEq]; (try go_unwrap; try simp only [hlen, hul, d1, d2, w0, w1, htm, hN0, hsl, hd0, dk, cut11, RR, reduceCtorEq]); exact h8a)); (try (case hs => rfl)); (try (case hf => first | exact Or.inl rfl | exact Or.inr ⟨rfl, rfl⟩ | (refine Or.inl ?_; simp only [hlen, hul, d1, d2, w0, w1, htm, hN0, hsl, hd0, dk, cut11, SS, SS2, SS3, SS4, SS5, Option.map_some, Nat.reduceAdd, reduceIte, Nat.reduceEqDiff, Nat.reduceBEq, eq_self, implies_true, ne_eq, beq_self_eq_true, id_eq, reduceCtorEq]; done) | (refine Or.inr ⟨rfl, ?_⟩; simp only [hlen, hul, d1, d2, w0, w1, htm, hN0, hsl, hd0, dk, cut11, SS, SS2, SS3, SS4, SS5, Option.map_some, Nat.reduceAdd, reduceIte, Nat.reduceEqDiff, Nat.reduceBEq, eq_self, implies_true, ne_eq, beq_self_eq_true, id_eq, reduceCtorEq]; done))); all_goals (first | (simp only [hlen, hul, d1, d2, w0, w1, htm, hN0, hsl, hd0, dk, cut11, SS, SS2, SS3, SS4, SS5, Option.map_some, Nat.reduceAdd, reduceIte, Nat.reduceEqDiff, Nat.reduceBEq, eq_self, implies_true, ne_eq, beq_self_eq_true, id_eq, reduceCtorEq]; (try go_unwrap; try simp only [hlen, hul, d1, d2, w0, w1, htm, hN0, hsl, hd0, dk, cut11, RR, reduceCtorEq])) | (show Env; skip) | (show Mem; skip))) | (apply goCall_V e8; (case hV => (simp only [hlen, hul, d1, d2, w0, w1, htm, hN0, hsl, hd0, dk, cut11, SS, SS2, SS3, SS4, SS5, Option.map_some, Nat.reduceAdd, reduceIte, Nat.reduceEqDiff, Nat.reduceBEq, eq_self, implies_true, ne_eq, beq_self_eq_true, id_eq, reduceCtorEq]; (try go_unwrap; try simp only [hlen, hul, d1, d2, w0, w1, htm, hN0, hsl, hd0, dk, cut11, RR, reduceCtorEq]); exact h8b)); (try (case hs => rfl)); (try (case hf => first | exact Or.inl rfl | exact Or.inr ⟨rfl, rfl⟩ | (refine Or.inl ?_; simp only [hlen, hul, d1, d2, w0, w1, htm, hN0, hsl, hd0, dk, cut11, SS, SS2, SS3, SS4, SS5, Option.map_some, Nat.reduceAdd, reduceIte, Nat.reduceEqDiff, Nat.reduceBEq, eq_self, implies_true, ne_eq, beq_self_eq_true, id_eq, reduceCtorEq]; done) | (refine Or.inr ⟨rfl, ?_⟩; simp only [hlen, hul, d1, d2, w0, w1, htm, hN0, hsl, hd0, dk, cut11, SS, SS2, SS3, SS4, SS5, Option.map_some, Nat.reduceAdd, reduceIte, Nat.reduceEqDiff, Nat.reduceBEq, eq_self, implies_true, ne_eq, beq_self_eq_true, id_eq, reduceCtorEq]; done))); all_goals (first | (simp only [hlen, hul, d1, d2, w0, w1, htm, hN0, hsl, hd0, dk, cut11, SS, SS2, SS3, SS4, SS5, Option.map_some, Nat.reduceAdd, reduceIte, Nat.reduceEqDiff, Nat.reduceBEq, eq_self, implies_true, ne_eq, beq_self_eq_true, id_eq, reduceCtorEq]; (try go_unwrap; try simp only [hlen, hul, d1, d2, w0, w1, htm, hN0, hsl, hd0, dk, cut11, RR, reduceCtorEq])) | (show Env; skip) | (show Mem; skip))) | (refine gd_i ?_; intro hg; try simp only [hg]) | refine goCall_W e6 (h6) ?_ ?_ ?_ ?_ | refine goCallG_W e13 (h13a) ?_ ?_ ?_ ?_ ?_ | ((first | show @LE.le Nat _ _ _ | show @LT.lt Nat _ _ _ | show @LE.le Int _ _ _ | show @LT.lt Int _ _ _ | show @Eq Nat _ _ | show @Eq Int _ _ | show @Eq Bool _ _ | show _ ∨ _ | show ¬ _); first | omega | (simp only [decide_eq_true_eq, decide_eq_false_iff_not, List.length_cons, List.length_nil, List.length_append, List.length_map, Sh.size] <;> omega) | (go_unwrap; omega)) | ((first | refine PW.region ?_ | refine PW.regionQ ?_ | refine schedW_done_i ?_ | show (_ : Post) _ _ _ | show @Eq (List PV) _ _ | show @Eq Bool _ _ | show opsW _ _ _ _ _ _ _ _ | show okAll _ | show @Eq Bool _ _ ∨ _); focus (simp only [hlen, hul, d1, d2, w0, w1, htm, hN0, hsl, hd0, dk, cut11, SS, SS2, SS3, SS4, SS5, Option.map_some, Nat.reduceAdd, reduceIte, Nat.reduceEqDiff, Nat.reduceBEq, eq_self, implies_true, ne_eq, beq_self_eq_true, id_eq, reduceCtorEq]; (try go_unwrap; try simp only [hlen, hul, d1, d2, w0, w1, htm, hN0, hsl, hd0, dk, cut11, RR, reduceCtorEq]))) | refine And.intro ?_ ?_ | exact Or.inr ⟨rfl, Nat.le_refl _⟩ | exact (fun h => Bool.noConfusion h))
  · exact fun h => h
  have hnode : ∀ i (h : i < tk.length), (u8s tk).getD i .junk = .int .u8 (tk[i].toNat : Int) := fun i h => by
    unfold u8s; simp [List.getD, h]
  refine PW.frzV 8 0 (some 1) _ rfl rfl (fitsS _ rfl) (noS _ (by simp [PV.noOwn])) rfl ?_
  simp only [frzE, frzMem, List.map_cons, List.map_nil, PV.frz, MObj.frz, frzM, frzSl, SS, SS2, SS3, SS4, SS5, Option.map_some, Nat.reduceAdd, reduceIte, Nat.reduceEqDiff, Nat.reduceBEq, eq_self, implies_true, ne_eq, beq_self_eq_true, id_eq, reduceCtorEq]
  clear h8a h8b h6 h13a htm
  refine PW.loopG (σ := Nat × List Fc) 2 (fun _ _ => rfl) [0, 2, 6, 7, 8, 10, 57, 58, 59] (fun q => [tdL l, .list none (u8s tk), .bool false, .int .i64 k, .cptr (some 1) (stP A) 0, .ref 1 0, .list none (u8s tk), .int .i64 tk.length, .int .i64 q.1]) (fun q => [none, some (.var (some 1) (stP q.2))])
    (fun q => q.1 ≤ tk.length ∧ ∃ C, q.2 = B0 ++ C ∧ C.length ≤ q.1) (fun q => tk.length - q.1) (0, B0) ?_ (by first | rfl | simp) ⟨by simp, [], by simp, by simp⟩ ?_
  · simp only [SS, SS2, SS3, SS4, SS5, Option.map_some, Nat.reduceAdd, reduceIte, Nat.reduceEqDiff, Nat.reduceBEq, eq_self, implies_true, ne_eq, beq_self_eq_true, id_eq, reduceCtorEq]; rfl
  rintro ⟨i, B⟩ ⟨hi, C, hBC, hCl⟩
  simp only at hi hBC hCl
  simp only [List.zip_cons_cons, List.zip_nil_left]
  have hBlen : B.length ≤ 40 + 40 := by rw [hBC]; simp; omega
  rcases Nat.lt_or_ge i tk.length with h | h
  · have hd : decide ((i : Int) < tk.length) = true := by simp only [decide_eq_true_eq]; omega
    have hg := hnode i h
    have hm : tk[i].toNat ≤ 255 := by have := tk[i].toNat_lt; omega
    generalize tk[i].toNat = m at hg hm
    have wm : IntKind.i64.wrap (m : Int) = m := IntWalk.i64_in _ (by omega)
    have h14 := v14c B (by omega) m (by omega) (by omega)
    have hf8 : ∀ a b : PV, setAll (setAll [PV.int IntKind.u32 0, PV.int IntKind.u32 0, PV.int IntKind.i64 0, PV.int IntKind.i64 0, PV.int IntKind.i64 0, PV.str [], PV.int IntKind.i64 0, PV.str []] 2 [a]) 6 [b] = [.int .u32 0, .int .u32 0, a, .int .i64 0, .int .i64 0, .str [], b, .str []] := fun _ _ => rfl
    simp only [canF] at h14
    generalize addC B m = e at h14
    by_cases he : e = 0
    · rw [if_pos he] at h14
      have de : decide (e = 0) = true := by simpa using he
      have hC2 : ∃ C', B ++ [(⟨0, 0, 18, 0, 0, [], m, []⟩ : Fc)] = B0 ++ C' ∧ C'.length ≤ i + 1 := ⟨C ++ [⟨0, 0, 18, 0, 0, [], m, []⟩], by rw [hBC, List.append_assoc], by simp; omega⟩
      generalize B ++ [(⟨0, 0, 18, 0, 0, [], m, []⟩ : Fc)] = B2 at h14 hC2
      repeat' (first | exact True.intro | (refine PW.seqK ?_; intro K hK) | refine PW.block ?_ | refine PW.scope ?_ | refine PW.label ?_ | refine PW.exit ?_ | refine PW.ret ?_ | refine PW.skip ?_ | refine seqK_n (by assumption) ?_ | refine seqK_r (by assumption) ?_ | refine seqK_e (by assumption) ?_ | refine PW.regionA ?_ | exact schedW_stop_i | refine schK_n (by assumption) ?_ | (refine schedW_alt_k ?_ ?_; focus (intro K hK; simp only [hul, hd, hg, wm, de, cut11, hf8, SS, SS2, SS3, SS4, SS5, Option.map_some, Nat.reduceAdd, reduceIte, Nat.reduceEqDiff, Nat.reduceBEq, eq_self, implies_true, ne_eq, beq_self_eq_true, id_eq, reduceCtorEq]; (try go_unwrap; try simp only [hul, hd, hg, wm, de, cut11, hf8, RR, reduceCtorEq]))) | (refine PW.cond rfl ?_ ?_ <;> intro hcond <;> (try contradiction) <;> try simp only [decide_eq_true_eq, decide_eq_false_iff_not] at hcond) | (refine gd_i ?_; intro hg; try simp only [hg]) | refine goCall_W e14 (h14) ?_ ?_ ?_ ?_ | ((first | show @LE.le Nat _ _ _ | show @LT.lt Nat _ _ _ | show @LE.le Int _ _ _ | show @LT.lt Int _ _ _ | show @Eq Nat _ _ | show @Eq Int _ _ | show @Eq Bool _ _ | show _ ∨ _ | show ¬ _); first | omega | (simp only [decide_eq_true_eq, decide_eq_false_iff_not, List.length_cons, List.length_nil, List.length_append, List.length_map, Sh.size] <;> omega) | (go_unwrap; omega)) | ((first | refine PW.region ?_ | refine PW.regionQ ?_ | refine schedW_done_i ?_ | show (_ : Post) _ _ _ | show @Eq (List PV) _ _ | show @Eq Bool _ _ | show opsW _ _ _ _ _ _ _ _ | show okAll _ | show @Eq Bool _ _ ∨ _); focus (simp only [hul, hd, hg, wm, de, cut11, hf8, SS, SS2, SS3, SS4, SS5, Option.map_some, Nat.reduceAdd, reduceIte, Nat.reduceEqDiff, Nat.reduceBEq, eq_self, implies_true, ne_eq, beq_self_eq_true, id_eq, reduceCtorEq]; (try go_unwrap; try simp only [hul, hd, hg, wm, de, cut11, hf8, RR, reduceCtorEq]))) | refine And.intro ?_ ?_ | exact Or.inr ⟨rfl, Nat.le_refl _⟩ | exact (fun h => Bool.noConfusion h))
      all_goals exact ⟨(i + 1, B2), (by first | rfl | (simp only [trimE, trimM, List.take_succ_cons, List.take_zero, List.take_nil, List.map_cons, List.map_nil, Option.map_some, Option.map_none, MObj.kill, PV.kill, Nat.reduceLeDiff, decide_true, decide_false, dec_true, dec_false, Bool.false_eq_true, if_false, if_true, reduceIte, List.zip_cons_cons, List.zip_nil_left, Nat.le_refl, Nat.zero_le, Nat.not_le, Nat.lt_irrefl]; done) | (simp [trimE, trimM, MObj.kill, PV.kill]; done)), (by first | rfl | (simp only [trimE, trimM, List.take_succ_cons, List.take_zero, List.take_nil, List.map_cons, List.map_nil, Option.map_some, Option.map_none, MObj.kill, PV.kill, Nat.reduceLeDiff, decide_true, decide_false, dec_true, dec_false, Bool.false_eq_true, if_false, if_true, reduceIte, List.zip_cons_cons, List.zip_nil_left, Nat.le_refl, Nat.zero_le, Nat.not_le, Nat.lt_irrefl]; done) | (simp [trimE, trimM, MObj.kill, PV.kill]; done)), ⟨by simp only; omega, hC2⟩, by simp only; omega⟩
    · rw [if_neg he] at h14
      have de : decide (e = 0) = false := by simpa using he
      repeat' (first | exact True.intro | (refine PW.seqK ?_; intro K hK) | refine PW.block ?_ | refine PW.scope ?_ | refine PW.label ?_ | refine PW.exit ?_ | refine PW.ret ?_ | refine PW.skip ?_ | refine seqK_n (by assumption) ?_ | refine seqK_r (by assumption) ?_ | refine seqK_e (by assumption) ?_ | refine PW.regionA ?_ | exact schedW_stop_i | refine schK_n (by assumption) ?_ | (refine schedW_alt_k ?_ ?_; focus (intro K hK; simp only [hul, hd, hg, wm, de, cut11, hf8, SS, SS2, SS3, SS4, SS5, Option.map_some, Nat.reduceAdd, reduceIte, Nat.reduceEqDiff, Nat.reduceBEq, eq_self, implies_true, ne_eq, beq_self_eq_true, id_eq, reduceCtorEq]; (try go_unwrap; try simp only [hul, hd, hg, wm, de, cut11, hf8, RR, reduceCtorEq]))) | (refine PW.cond rfl ?_ ?_ <;> intro hcond <;> (try contradiction) <;> try simp only [decide_eq_true_eq, decide_eq_false_iff_not] at hcond) | (refine gd_i ?_; intro hg; try simp only [hg]) | refine goCall_W e14 (h14) ?_ ?_ ?_ ?_ | ((first | show @LE.le Nat _ _ _ | show @LT.lt Nat _ _ _ | show @LE.le Int _ _ _ | show @LT.lt Int _ _ _ | show @Eq Nat _ _ | show @Eq Int _ _ | show @Eq Bool _ _ | show _ ∨ _ | show ¬ _); first | omega | (simp only [decide_eq_true_eq, decide_eq_false_iff_not, List.length_cons, List.length_nil, List.length_append, List.length_map, Sh.size] <;> omega) | (go_unwrap; omega)) | ((first | refine PW.region ?_ | refine PW.regionQ ?_ | refine schedW_done_i ?_ | show (_ : Post) _ _ _ | show @Eq (List PV) _ _ | show @Eq Bool _ _ | show opsW _ _ _ _ _ _ _ _ | show okAll _ | show @Eq Bool _ _ ∨ _); focus (simp only [hul, hd, hg, wm, de, cut11, hf8, SS, SS2, SS3, SS4, SS5, Option.map_some, Nat.reduceAdd, reduceIte, Nat.reduceEqDiff, Nat.reduceBEq, eq_self, implies_true, ne_eq, beq_self_eq_true, id_eq, reduceCtorEq]; (try go_unwrap; try simp only [hul, hd, hg, wm, de, cut11, hf8, RR, reduceCtorEq]))) | refine And.intro ?_ ?_ | exact Or.inr ⟨rfl, Nat.le_refl _⟩ | exact (fun h => Bool.noConfusion h))
      all_goals exact ⟨(i + 1, B), (by first | rfl | (simp only [trimE, trimM, List.take_succ_cons, List.take_zero, List.take_nil, List.map_cons, List.map_nil, Option.map_some, Option.map_none, MObj.kill, PV.kill, Nat.reduceLeDiff, decide_true, decide_false, dec_true, dec_false, Bool.false_eq_true, if_false, if_true, reduceIte, List.zip_cons_cons, List.zip_nil_left, Nat.le_refl, Nat.zero_le, Nat.not_le, Nat.lt_irrefl]; done) | (simp [trimE, trimM, MObj.kill, PV.kill]; done)), (by first | rfl | (simp only [trimE, trimM, List.take_succ_cons, List.take_zero, List.take_nil, List.map_cons, List.map_nil, Option.map_some, Option.map_none, MObj.kill, PV.kill, Nat.reduceLeDiff, decide_true, decide_false, dec_true, dec_false, Bool.false_eq_true, if_false, if_true, reduceIte, List.zip_cons_cons, List.zip_nil_left, Nat.le_refl, Nat.zero_le, Nat.not_le, Nat.lt_irrefl]; done) | (simp [trimE, trimM, MObj.kill, PV.kill]; done)), ⟨by simp only; omega, C, hBC, by simp only; omega⟩, by simp only; omega⟩
  have hd : decide ((i : Int) < tk.length) = false := by simp only [decide_eq_false_iff_not]; omega
  have hBk : B.take k = A := by rw [hBC, app_take _ _ _ (by omega), hAB]
  have hBge : l.length ≤ B.length := by rw [hBC]; simp; omega
  repeat' (first | exact True.intro | (refine PW.stop (x := .seq (.region false (⟨some 75, none, .rd .mov [.pv (.int .u32 0)]⟩ :: _) _) _) ?_) | (refine PW.seqK ?_; intro K hK) | refine PW.block ?_ | refine PW.scope ?_ | refine PW.label ?_ | refine PW.exit ?_ | refine PW.ret ?_ | refine PW.skip ?_ | refine seqK_n (by assumption) ?_ | refine seqK_r (by assumption) ?_ | refine seqK_e (by assumption) ?_ | refine PW.regionA ?_ | exact schedW_stop_i | refine schK_n (by assumption) ?_ | (refine schedW_alt_k ?_ ?_; focus (intro K hK; simp only [hul, hd, SS, SS2, SS3, SS4, SS5, Option.map_some, Nat.reduceAdd, reduceIte, Nat.reduceEqDiff, Nat.reduceBEq, eq_self, implies_true, ne_eq, beq_self_eq_true, id_eq, reduceCtorEq]; (try go_unwrap; try simp only [hul, hd, RR, reduceCtorEq]))) | (refine PW.cond rfl ?_ ?_ <;> intro hcond <;> (try contradiction) <;> try simp only [decide_eq_true_eq, decide_eq_false_iff_not] at hcond) | (refine gd_i ?_; intro hg; try simp only [hg]) | ((first | show @LE.le Nat _ _ _ | show @LT.lt Nat _ _ _ | show @LE.le Int _ _ _ | show @LT.lt Int _ _ _ | show @Eq Nat _ _ | show @Eq Int _ _ | show @Eq Bool _ _ | show _ ∨ _ | show ¬ _); first | omega | (simp only [decide_eq_true_eq, decide_eq_false_iff_not, List.length_cons, List.length_nil, List.length_append, List.length_map, Sh.size] <;> omega) | (go_unwrap; omega)) | ((first | refine PW.region ?_ | refine PW.regionQ ?_ | refine schedW_done_i ?_ | show (_ : Post) _ _ _ | show @Eq (List PV) _ _ | show @Eq Bool _ _ | show opsW _ _ _ _ _ _ _ _ | show okAll _ | show @Eq Bool _ _ ∨ _); focus (simp only [hul, hd, SS, SS2, SS3, SS4, SS5, Option.map_some, Nat.reduceAdd, reduceIte, Nat.reduceEqDiff, Nat.reduceBEq, eq_self, implies_true, ne_eq, beq_self_eq_true, id_eq, reduceCtorEq]; (try go_unwrap; try simp only [hul, hd, RR, reduceCtorEq]))) | refine And.intro ?_ ?_ | exact Or.inr ⟨rfl, Nat.le_refl _⟩ | exact (fun h => Bool.noConfusion h))
  refine ⟨?_⟩
  refine PW.frzV 10 1 (some 1) _ rfl rfl (fitsS _ rfl) (noS _ (by simp [PV.noOwn])) rfl ?_
  simp only [frzE, frzMem, List.map_cons, List.map_nil, PV.frz, MObj.frz, frzM, frzSl, SS, SS2, SS3, SS4, SS5, Option.map_some, Nat.reduceAdd, reduceIte, Nat.reduceEqDiff, Nat.reduceBEq, eq_self, implies_true, ne_eq, beq_self_eq_true, id_eq, reduceCtorEq]
  have h10a := v10 A (by omega) k (by omega)
  have h10b := v10 B (by omega) k (by omega)
  rw [hAA] at h10a
  rw [hBk] at h10b
  have h11 := v11 A (by omega) hAk
  clear hnode
  refine PW.trim 0 (fun _ _ => rfl) ?_
  simp only [trimE, trimM, List.take_zero, List.map_cons, List.map_nil, PV.kill, Nat.zero_le, decide_true, if_true]
  repeat' (first | exact True.intro | (refine PW.seqK ?_; intro K hK) | refine PW.block ?_ | refine PW.scope ?_ | refine PW.label ?_ | refine PW.exit ?_ | refine PW.ret ?_ | refine PW.skip ?_ | refine seqK_n (by assumption) ?_ | refine seqK_r (by assumption) ?_ | refine seqK_e (by assumption) ?_ | refine PW.regionA ?_ | exact schedW_stop_i | refine schK_n (by assumption) ?_ | (refine schedW_alt_k ?_ ?_; focus (intro K hK; simp only [SS, SS2, SS3, SS4, SS5, Option.map_some, Nat.reduceAdd, reduceIte, Nat.reduceEqDiff, Nat.reduceBEq, eq_self, implies_true, ne_eq, beq_self_eq_true, id_eq, reduceCtorEq]; (try go_unwrap; try simp only [RR, reduceCtorEq]))) | (refine PW.cond rfl ?_ ?_ <;> intro hcond <;> (try contradiction) <;> try simp only [decide_eq_true_eq, decide_eq_false_iff_not] at hcond) | (refine gd_i ?_; intro hg; try simp only [hg]) | ((first | show @LE.le Nat _ _ _ | show @LT.lt Nat _ _ _ | show @LE.le Int _ _ _ | show @LT.lt Int _ _ _ | show @Eq Nat _ _ | show @Eq Int _ _ | show @Eq Bool _ _ | show _ ∨ _ | show ¬ _); first | omega | (simp only [decide_eq_true_eq, decide_eq_false_iff_not, List.length_cons, List.length_nil, List.length_append, List.length_map, Sh.size] <;> omega) | (go_unwrap; omega)) | ((first | refine PW.region ?_ | refine PW.regionQ ?_ | refine schedW_done_i ?_ | show (_ : Post) _ _ _ | show @Eq (List PV) _ _ | show @Eq Bool _ _ | show opsW _ _ _ _ _ _ _ _ | show okAll _ | show @Eq Bool _ _ ∨ _); focus (simp only [SS, SS2, SS3, SS4, SS5, Option.map_some, Nat.reduceAdd, reduceIte, Nat.reduceEqDiff, Nat.reduceBEq, eq_self, implies_true, ne_eq, beq_self_eq_true, id_eq, reduceCtorEq]; (try go_unwrap; try simp only [RR, reduceCtorEq]))) | refine And.intro ?_ ?_ | exact Or.inr ⟨rfl, Nat.le_refl _⟩ | exact (fun h => Bool.noConfusion h))
  refine PW.loopG (σ := Nat) 0 (fun _ _ => rfl) [0, 6, 7, 8, 10, 75] (fun p => [tdL l, .bool false, .int .i64 k, .cptr (some 1) (stP A) 0, .cptr (some 1) (stP B) 0, .int .u32 p]) (fun _ => []) (fun p => p ≤ 258) (fun p => 258 - p) 0 ?_ (by first | rfl | simp) (by omega) ?_
  · simp only [SS, SS2, SS3, SS4, SS5, Option.map_some, Nat.reduceAdd, reduceIte, Nat.reduceEqDiff, Nat.reduceBEq, eq_self, implies_true, ne_eq, beq_self_eq_true, id_eq, reduceCtorEq]; rfl
  rintro p hp
  simp only [List.zip_cons_cons, List.zip_nil_left]
  rcases Nat.lt_or_ge p 258 with h5 | h5
  · have hdp : decide ((p : Int) < 258) = true := by simp only [decide_eq_true_eq]; omega
    have h11p := h11 p 2
    have hfl : (factsM A p 2).length ≤ 1000000000 := by have := those_len (pickF p 2) A A.length; unfold factsM; omega
    have h15 := v15 (factsM A p 2) hfl
    generalize factsM A p 2 = F at h11p h15
    have wp : IntKind.u32.wrap ((p : Int) + 1) = ((p + 1 : Nat) : Int) := by rw [IntWalk.u32_in _ (by omega)]; omega
    repeat' (first | exact True.intro | (refine PW.seqA (E := ?_) (M := ?_) ?_ ?_; rotate_left 2) | exact mergeQ_mk _ _ | (refine PW.seqK ?_; intro K hK) | refine PW.block ?_ | refine PW.scope ?_ | refine PW.label ?_ | refine PW.exit ?_ | refine PW.ret ?_ | refine PW.skip ?_ | refine seqK_n (by assumption) ?_ | refine seqK_r (by assumption) ?_ | refine seqK_e (by assumption) ?_ | refine PW.regionA ?_ | exact schedW_stop_i | refine schK_n (by assumption) ?_ | (refine schedW_alt_k ?_ ?_; focus (intro K hK; simp only [hdp, cut11, wp, SS, SS2, SS3, SS4, SS5, Option.map_some, Nat.reduceAdd, reduceIte, Nat.reduceEqDiff, Nat.reduceBEq, eq_self, implies_true, ne_eq, beq_self_eq_true, id_eq, reduceCtorEq]; (try go_unwrap; try simp only [hdp, cut11, wp, RR, reduceCtorEq]))) | (refine PW.cond rfl ?_ ?_ <;> intro hcond <;> (try contradiction) <;> try simp only [decide_eq_true_eq, decide_eq_false_iff_not] at hcond) | (apply goCall_V e10; (case hV => (simp only [hdp, cut11, wp, SS, SS2, SS3, SS4, SS5, Option.map_some, Nat.reduceAdd, reduceIte, Nat.reduceEqDiff, Nat.reduceBEq, eq_self, implies_true, ne_eq, beq_self_eq_true, id_eq, reduceCtorEq]; (try go_unwrap; try simp only [hdp, cut11, wp, RR, reduceCtorEq]); exact h10a)); (try (case hs => rfl)); (try (case hf => first | exact Or.inl rfl | exact Or.inr ⟨rfl, rfl⟩ | (refine Or.inl ?_; simp only [hdp, cut11, wp, SS, SS2, SS3, SS4, SS5, Option.map_some, Nat.reduceAdd, reduceIte, Nat.reduceEqDiff, Nat.reduceBEq, eq_self, implies_true, ne_eq, beq_self_eq_true, id_eq, reduceCtorEq]; done) | (refine Or.inr ⟨rfl, ?_⟩; simp only [hdp, cut11, wp, SS, SS2, SS3, SS4, SS5, Option.map_some, Nat.reduceAdd, reduceIte, Nat.reduceEqDiff, Nat.reduceBEq, eq_self, implies_true, ne_eq, beq_self_eq_true, id_eq, reduceCtorEq]; done))); all_goals (first | (simp only [hdp, cut11, wp, SS, SS2, SS3, SS4, SS5, Option.map_some, Nat.reduceAdd, reduceIte, Nat.reduceEqDiff, Nat.reduceBEq, eq_self, implies_true, ne_eq, beq_self_eq_true, id_eq, reduceCtorEq]; (try go_unwrap; try simp only [hdp, cut11, wp, RR, reduceCtorEq])) | (show Env; skip) | (show Mem; skip))) | (apply goCall_V e10; (case hV => (simp only [hdp, cut11, wp, SS, SS2, SS3, SS4, SS5, Option.map_some, Nat.reduceAdd, reduceIte, Nat.reduceEqDiff, Nat.reduceBEq, eq_self, implies_true, ne_eq, beq_self_eq_true, id_eq, reduceCtorEq]; (try go_unwrap; try simp only [hdp, cut11, wp, RR, reduceCtorEq]); exact h10b)); (try (case hs => rfl)); (try (case hf => first | exact Or.inl rfl | exact Or.inr ⟨rfl, rfl⟩ | (refine Or.inl ?_; simp only [hdp, cut11, wp, SS, SS2, SS3, SS4, SS5, Option.map_some, Nat.reduceAdd, reduceIte, Nat.reduceEqDiff, Nat.reduceBEq, eq_self, implies_true, ne_eq, beq_self_eq_true, id_eq, reduceCtorEq]; done) | (refine Or.inr ⟨rfl, ?_⟩; simp only [hdp, cut11, wp, SS, SS2, SS3, SS4, SS5, Option.map_some, Nat.reduceAdd, reduceIte, Nat.reduceEqDiff, Nat.reduceBEq, eq_self, implies_true, ne_eq, beq_self_eq_true, id_eq, reduceCtorEq]; done))); all_goals (first | (simp only [hdp, cut11, wp, SS, SS2, SS3, SS4, SS5, Option.map_some, Nat.reduceAdd, reduceIte, Nat.reduceEqDiff, Nat.reduceBEq, eq_self, implies_true, ne_eq, beq_self_eq_true, id_eq, reduceCtorEq]; (try go_unwrap; try simp only [hdp, cut11, wp, RR, reduceCtorEq])) | (show Env; skip) | (show Mem; skip))) | (refine gd_i ?_; intro hg; try simp only [hg]) | refine goCall_W e11 (h11p) ?_ ?_ ?_ ?_ | refine goCall_W e15 (h15) ?_ ?_ ?_ ?_ | ((first | show @LE.le Nat _ _ _ | show @LT.lt Nat _ _ _ | show @LE.le Int _ _ _ | show @LT.lt Int _ _ _ | show @Eq Nat _ _ | show @Eq Int _ _ | show @Eq Bool _ _ | show _ ∨ _ | show ¬ _); first | omega | (simp only [decide_eq_true_eq, decide_eq_false_iff_not, List.length_cons, List.length_nil, List.length_append, List.length_map, Sh.size] <;> omega) | (go_unwrap; omega)) | ((first | refine PW.region ?_ | refine PW.regionQ ?_ | refine schedW_done_i ?_ | show (_ : Post) _ _ _ | show @Eq (List PV) _ _ | show @Eq Bool _ _ | show opsW _ _ _ _ _ _ _ _ | show okAll _ | show @Eq Bool _ _ ∨ _); focus (simp only [hdp, cut11, wp, SS, SS2, SS3, SS4, SS5, Option.map_some, Nat.reduceAdd, reduceIte, Nat.reduceEqDiff, Nat.reduceBEq, eq_self, implies_true, ne_eq, beq_self_eq_true, id_eq, reduceCtorEq]; (try go_unwrap; try simp only [hdp, cut11, wp, RR, reduceCtorEq]))) | refine And.intro ?_ ?_ | exact Or.inr ⟨rfl, Nat.le_refl _⟩ | exact (fun h => Bool.noConfusion h))
    all_goals exact ⟨p + 1, (by first | rfl | (simp only [trimE, trimM, List.take_succ_cons, List.take_zero, List.take_nil, List.map_cons, List.map_nil, Option.map_some, Option.map_none, MObj.kill, PV.kill, Nat.reduceLeDiff, decide_true, decide_false, dec_true, dec_false, Bool.false_eq_true, if_false, if_true, reduceIte, List.zip_cons_cons, List.zip_nil_left, Nat.le_refl, Nat.zero_le, Nat.not_le, Nat.lt_irrefl]; done) | (simp [trimE, trimM, MObj.kill, PV.kill]; done)), (by first | rfl | (simp only [trimE, trimM, List.take_succ_cons, List.take_zero, List.take_nil, List.map_cons, List.map_nil, Option.map_some, Option.map_none, MObj.kill, PV.kill, Nat.reduceLeDiff, decide_true, decide_false, dec_true, dec_false, Bool.false_eq_true, if_false, if_true, reduceIte, List.zip_cons_cons, List.zip_nil_left, Nat.le_refl, Nat.zero_le, Nat.not_le, Nat.lt_irrefl]; done) | (simp [trimE, trimM, MObj.kill, PV.kill]; done)), by omega, by omega⟩
  · have hdp : decide ((p : Int) < 258) = false := by simp only [decide_eq_false_iff_not]; omega
    have h13 := v13 B
    have h16 := v16 A
    have dl : decide ((l.length : Int) ≤ B.length) = true := by simp only [decide_eq_true_eq]; omega
    have da : decide ((A.length : Int) = A.length) = true := by simp
    repeat' (first | exact True.intro | (refine PW.seqA (E := ?_) (M := ?_) ?_ ?_; rotate_left 2) | exact mergeQ_mk _ _ | (refine PW.seqK ?_; intro K hK) | refine PW.block ?_ | refine PW.scope ?_ | refine PW.label ?_ | refine PW.exit ?_ | refine PW.ret ?_ | refine PW.skip ?_ | refine seqK_n (by assumption) ?_ | refine seqK_r (by assumption) ?_ | refine seqK_e (by assumption) ?_ | refine PW.regionA ?_ | exact schedW_stop_i | refine schK_n (by assumption) ?_ | (refine schedW_alt_k ?_ ?_; focus (intro K hK; simp only [hdp, cut11, hlen, dl, da, SS, SS2, SS3, SS4, SS5, Option.map_some, Nat.reduceAdd, reduceIte, Nat.reduceEqDiff, Nat.reduceBEq, eq_self, implies_true, ne_eq, beq_self_eq_true, id_eq, reduceCtorEq]; (try go_unwrap; try simp only [hdp, cut11, hlen, dl, da, RR, reduceCtorEq]))) | (refine PW.cond rfl ?_ ?_ <;> intro hcond <;> (try contradiction) <;> try simp only [decide_eq_true_eq, decide_eq_false_iff_not] at hcond) | (apply goCallG_N e10; (case hV => (intro hg; simp only [hg, hdp, cut11, hlen, dl, da, SS, SS2, SS3, SS4, SS5, Option.map_some, Nat.reduceAdd, reduceIte, Nat.reduceEqDiff, Nat.reduceBEq, eq_self, implies_true, ne_eq, beq_self_eq_true, id_eq, reduceCtorEq]; (try go_unwrap; try simp only [hdp, cut11, hlen, dl, da, RR, reduceCtorEq]); exact h10a)); (case hok => (intro hg; first | (simp only [hg, hdp, cut11, hlen, dl, da, SS, SS2, SS3, SS4, SS5, Option.map_some, Nat.reduceAdd, reduceIte, Nat.reduceEqDiff, Nat.reduceBEq, eq_self, implies_true, ne_eq, beq_self_eq_true, id_eq, reduceCtorEq]; done) | (simp_all [okAll, PV.okUnder]; done))); (case hs => (intro hg; simp only [hg, hdp, cut11, hlen, dl, da, SS, SS2, SS3, SS4, SS5, Option.map_some, Nat.reduceAdd, reduceIte, Nat.reduceEqDiff, Nat.reduceBEq, eq_self, implies_true, ne_eq, beq_self_eq_true, id_eq, reduceCtorEq])); (case hn => (intro hg; simp only [hg, hdp, cut11, hlen, dl, da, SS, SS2, SS3, SS4, SS5, Option.map_some, Nat.reduceAdd, reduceIte, Nat.reduceEqDiff, Nat.reduceBEq, eq_self, implies_true, ne_eq, beq_self_eq_true, id_eq, reduceCtorEq])); (case hq => rfl); (simp only [hdp, cut11, hlen, dl, da, SS, SS2, SS3, SS4, SS5, Option.map_some, Nat.reduceAdd, reduceIte, Nat.reduceEqDiff, Nat.reduceBEq, eq_self, implies_true, ne_eq, beq_self_eq_true, id_eq, reduceCtorEq]; (try go_unwrap; try simp only [hdp, cut11, hlen, dl, da, RR, reduceCtorEq]))) | (apply goCallG_N e10; (case hV => (intro hg; simp only [hg, hdp, cut11, hlen, dl, da, SS, SS2, SS3, SS4, SS5, Option.map_some, Nat.reduceAdd, reduceIte, Nat.reduceEqDiff, Nat.reduceBEq, eq_self, implies_true, ne_eq, beq_self_eq_true, id_eq, reduceCtorEq]; (try go_unwrap; try simp only [hdp, cut11, hlen, dl, da, RR, reduceCtorEq]); exact h10b)); (case hok => (intro hg; first | (simp only [hg, hdp, cut11, hlen, dl, da, SS, SS2, SS3, SS4, SS5, Option.map_some, Nat.reduceAdd, reduceIte, Nat.reduceEqDiff, Nat.reduceBEq, eq_self, implies_true, ne_eq, beq_self_eq_true, id_eq, reduceCtorEq]; done) | (simp_all [okAll, PV.okUnder]; done))); (case hs => (intro hg; simp only [hg, hdp, cut11, hlen, dl, da, SS, SS2, SS3, SS4, SS5, Option.map_some, Nat.reduceAdd, reduceIte, Nat.reduceEqDiff, Nat.reduceBEq, eq_self, implies_true, ne_eq, beq_self_eq_true, id_eq, reduceCtorEq])); (case hn => (intro hg; simp only [hg, hdp, cut11, hlen, dl, da, SS, SS2, SS3, SS4, SS5, Option.map_some, Nat.reduceAdd, reduceIte, Nat.reduceEqDiff, Nat.reduceBEq, eq_self, implies_true, ne_eq, beq_self_eq_true, id_eq, reduceCtorEq])); (case hq => rfl); (simp only [hdp, cut11, hlen, dl, da, SS, SS2, SS3, SS4, SS5, Option.map_some, Nat.reduceAdd, reduceIte, Nat.reduceEqDiff, Nat.reduceBEq, eq_self, implies_true, ne_eq, beq_self_eq_true, id_eq, reduceCtorEq]; (try go_unwrap; try simp only [hdp, cut11, hlen, dl, da, RR, reduceCtorEq]))) | (refine gd_i ?_; intro hg; try simp only [hg]) | refine goCall_W e13 (h13) ?_ ?_ ?_ ?_ | refine goCallG_W e16 (h16) ?_ ?_ ?_ ?_ ?_ | ((first | show @LE.le Nat _ _ _ | show @LT.lt Nat _ _ _ | show @LE.le Int _ _ _ | show @LT.lt Int _ _ _ | show @Eq Nat _ _ | show @Eq Int _ _ | show @Eq Bool _ _ | show _ ∨ _ | show ¬ _); first | omega | (simp only [decide_eq_true_eq, decide_eq_false_iff_not, List.length_cons, List.length_nil, List.length_append, List.length_map, Sh.size] <;> omega) | (go_unwrap; omega)) | ((first | refine PW.region ?_ | refine PW.regionQ ?_ | refine schedW_done_i ?_ | show (_ : Post) _ _ _ | show @Eq (List PV) _ _ | show @Eq Bool _ _ | show opsW _ _ _ _ _ _ _ _ | show okAll _ | show @Eq Bool _ _ ∨ _); focus (simp only [hdp, cut11, hlen, dl, da, SS, SS2, SS3, SS4, SS5, Option.map_some, Nat.reduceAdd, reduceIte, Nat.reduceEqDiff, Nat.reduceBEq, eq_self, implies_true, ne_eq, beq_self_eq_true, id_eq, reduceCtorEq]; (try go_unwrap; try simp only [hdp, cut11, hlen, dl, da, RR, reduceCtorEq]))) | refine And.intro ?_ ?_ | exact Or.inr ⟨rfl, Nat.le_refl _⟩ | exact (fun h => Bool.noConfusion h))
    all_goals skip
end Go.Proofs.YtcdfmdngnidpaaaGreatDoor

namespace Go.Proofs.YtcdfmdngnidpaaaGreatDoor
open Go PG Go.Proofs
set_option linter.unusedSimpArgs false
set_option linter.unusedVariables false
set_option maxRecDepth 100000
theorem own : ownKnob Tryz.prog.godebug = none := by kernel_rfl
theorem laidOut : laidOutB Tryz.prog = true := by kernel_rfl
theorem g0in (W : World) : GlobsIn W (fun _ => False) G0 := fun g sh x h => by cases h
abbrev laid1 : List (String × DataW Unit) := [("math/bits.deBruijn32tab", Rows.laid_math_bits_deBruijn32tab), ("math/bits.deBruijn64tab", Rows.laid_math_bits_deBruijn64tab), ("internal/strconv.uint64pow10", Rows.laid_internal_strconv_uint64pow10), ("unicode/utf8.acceptRanges", Rows.laid_unicode_utf8_acceptRanges), ("strconv.ErrRange", Rows.laid_strconv_ErrRange), ("strconv.ErrSyntax", Rows.laid_strconv_ErrSyntax), ("unicode/utf8.first", Rows.laid_unicode_utf8_first)]
noncomputable def doorW (os : Os) : World :=
  { World.doorLaid Tryz.prog 400 os with heap := (World.doorLaid Tryz.prog 400 os).heap.modify 3 fun
      | .cells _ t frozen => .cells (Go.Pinned.utf8FirstZ.map fun z => Value.int .u8 (z : Nat)).toArray t frozen
      | o => o }
theorem door_met1 (os : Os) (args : Array Value) : laidMetH Tryz.prog laid1 ((doorW os).forCall (fun _ _ => 0) ⟨#[], args, []⟩).memory :=
  laidMetH_of_parts3 (fuel := 8) (laidMet_of_run' 8 (by kernel_rfl) (by kernel_rfl)) (by kernel_rfl) (by kernel_rfl)
theorem td_cells {n : Nat} {cs : List PV} (h : ShC Tryz.prog (n + 2) 28 cs) : ∃ x : Td, .agg cs = tdP x ∧ TdOk x := by
  obtain ⟨hl, hf⟩ := shC_struct Tryz.underlying28 h
  have c28 : Tryz.prog.cellsOf 28 = 5 := by kernel_rfl
  have c5 : Tryz.prog.cellsOf 5 = 1 := by kernel_rfl
  have c26 : Tryz.prog.cellsOf 26 = 1 := by kernel_rfl
  have c24 : Tryz.prog.cellsOf 24 = 1 := by kernel_rfl
  rw [c28] at hl
  simp only [List.mem_cons, List.not_mem_nil, or_false, forall_eq_or_imp, forall_eq, c5, c26, c24] at hf
  match cs, hl with
  | [a, b, c, d, e], _ =>
    obtain ⟨h1, h2, h3, h4, h5⟩ := hf
    obtain ⟨m1, e1, a1, b1⟩ := shC_int (k := .u8) Tryz.underlying5 h1
    obtain ⟨m2, e2, a2, b2⟩ := shC_int (k := .u32) Tryz.underlying26 h2
    obtain ⟨m3, e3, a3, b3⟩ := shC_int (k := .u16) Tryz.underlying24 h3
    obtain ⟨m4, e4, a4, b4⟩ := shC_int (k := .u16) Tryz.underlying24 h4
    obtain ⟨m5, e5, a5, b5⟩ := shC_int (k := .u16) Tryz.underlying24 h5
    have a1 : 0 ≤ m1 := a1
    have a2 : 0 ≤ m2 := a2
    have a3 : 0 ≤ m3 := a3
    have a4 : 0 ≤ m4 := a4
    have a5 : 0 ≤ m5 := a5
    have b1 : m1 ≤ 255 := b1
    have b2 : m2 ≤ 4294967295 := b2
    have b3 : m3 ≤ 65535 := b3
    have b4 : m4 ≤ 65535 := b4
    have b5 : m5 ≤ 65535 := b5
    simp at e1 e2 e3 e4 e5
    subst e1 e2 e3 e4 e5
    refine ⟨⟨m1.toNat, m2.toNat, m3.toNat, m4.toNat, m5.toNat⟩, ?_, ⟨by show m1.toNat ≤ _; omega, by show m2.toNat ≤ _; omega, by show m3.toNat ≤ _; omega, by show m4.toNat ≤ _; omega, by show m5.toNat ≤ _; omega⟩⟩
    unfold tdP
    simp only [Int.toNat_of_nonneg a1, Int.toNat_of_nonneg a2, Int.toNat_of_nonneg a3, Int.toNat_of_nonneg a4, Int.toNat_of_nonneg a5]
theorem read_tds {n : Nat} {p : PV} (h : ShA Tryz.prog (n + 3) 22 p) : ∃ l : List Td, p = tdL l ∧ l.length ≤ 9223372036854775807 ∧ ∀ x ∈ l, TdOk x := by
  obtain ⟨sh, xs, hs, rfl, b, hx⟩ := shA_slice Tryz.underlying22 h
  have hsh : shOf Tryz.prog 28 = some (some 5) := by kernel_rfl
  obtain rfl := Option.some.inj (hsh.symm.trans hs)
  obtain ⟨l, rfl, hl⟩ := list_of tdP TdOk (xs := xs) (fun x hx' => by
    obtain ⟨f1, f2⟩ := hx x hx'
    obtain ⟨cs, rfl, e, -⟩ := fits_cells f1
    exact td_cells f2)
  exact ⟨l, rfl, by simpa using b, hl⟩
theorem read_u8 {n : Nat} {p : PV} (h : ShA Tryz.prog (n + 1) 5 p) : ∃ x : Nat, p = .int .u8 x ∧ x ≤ 255 := by
  obtain ⟨m, e1, h1, h2⟩ := shC_int (P := Tryz.prog) (n := n) (k := .u8) Tryz.underlying5 (by unfold ShA at h; rw [Tryz.underlying5] at h; exact h)
  cases e1
  have h1 : 0 ≤ m := h1
  have h2 : m ≤ 255 := h2
  exact ⟨m.toNat, by rw [Int.toNat_of_nonneg h1], by omega⟩
theorem read_bytes {n : Nat} {p : PV} (h : ShA Tryz.prog (n + 2) 23 p) : ∃ l : List UInt8, p = .list none (u8s l) ∧ l.length ≤ 9223372036854775807 := by
  obtain ⟨sh, xs, hs, rfl, b, hx⟩ := shA_slice Tryz.underlying23 h
  have hsh : shOf Tryz.prog 5 = some none := by kernel_rfl
  obtain rfl := Option.some.inj (hsh.symm.trans hs)
  obtain ⟨l, rfl, -⟩ := list_of (fun u : UInt8 => PV.int .u8 (u.toNat : Int)) (fun _ => True) (xs := xs) (fun x hx' => by
    obtain ⟨f1, f2⟩ := hx x hx'
    rw [fits_cells f1] at f2
    obtain ⟨m, e1, h1, h2⟩ := shC_int (k := .u8) Tryz.underlying5 f2
    cases e1
    have h1 : 0 ≤ m := h1
    have h2 : m ≤ 255 := h2
    refine ⟨UInt8.ofNat m.toNat, ?_, trivial⟩
    congr 1
    rw [UInt8.toNat_ofNat']
    omega)
  exact ⟨l, rfl, by simpa using b⟩
end Go.Proofs.YtcdfmdngnidpaaaGreatDoor

