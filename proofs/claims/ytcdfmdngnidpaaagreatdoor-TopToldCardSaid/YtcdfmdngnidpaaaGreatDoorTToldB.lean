import Derived.Test.YtcdfmdngnidpaaaGreatDoorP1
import Derived.Test.YtcdfmdngnidpaaaGreatDoorP2
import Derived.Test.YtcdfmdngnidpaaaGreatDoorP3
import Derived.Test.YtcdfmdngnidpaaaGreatDoorP4
import Derived.Test.YtcdfmdngnidpaaaGreatDoorQ5
import Derived.Test.YtcdfmdngnidpaaaGreatDoorQ6
import Derived.Test.YtcdfmdngnidpaaaGreatDoorQ7
import Derived.Test.YtcdfmdngnidpaaaGreatDoorQ8
import Derived.Test.YtcdfmdngnidpaaaGreatDoorQ9
import Derived.Test.YtcdfmdngnidpaaaGreatDoorQ10
import Derived.Test.YtcdfmdngnidpaaaGreatDoorQ11
import Derived.Test.YtcdfmdngnidpaaaGreatDoorQ12
import Derived.KernelRfl
namespace PG
open Go
set_option linter.unusedSimpArgs false
set_option linter.unusedVariables false
set_option linter.unusedSectionVars false
section
variable {P : Program} {G : Globs} {N : Nat} {w : World} {κ : Kap} {env : Env} {μ : Mem} {mv : Nat → Bool} {Q : Post}
theorem goCallG_skip {q : Bool} {d : Option Nat} {rest : List CO} {K : Env → Mem → Prop} {b want : Bool} {f : PV} {qas : List PV} (hb : (b == want) = false) (h : opsW P G q mv rest (putE env d (.cond (b == want) .junk)) μ K) : goCallG P G q mv d rest env K μ b want f qas := by
  unfold goCallG
  exact ⟨.junk, fun e => absurd hb (by rw [e]; simp), h⟩
end
section
variable {P : Program} {G : Globs} {N : Nat} {w : World} {κ : Kap} {env : Env} {μ : Mem} {mv : Nat → Bool} {Q : Post} {K : Env → Mem → Prop}
theorem PV.withIntP_mono {c : PV} {f g : Int → Prop} (h : ∀ n, f n → g n) (hc : c.withIntP f) : c.withIntP g := by
  unfold PV.withIntP at hc ⊢
  split <;> simp_all
end
section
variable {P : Program} {G : Globs} {N : Nat} {w : World} {κ : Kap} {env : Env} {μ : Mem} {mv : Nat → Bool} {Q : Post} {K : Env → Mem → Prop}
theorem effW_mono {μ : Mem} {k : EK} {ps : List PV} {K K' : PV → Option Nat → Mem → Prop} (hk : ∀ p d m, K p d m → K' p d m) (h : effW μ k ps K) : effW μ k ps K' := by
  revert h
  unfold effW
  split <;> (try split) <;> (try split) <;> (try split) <;> intro h
  all_goals first
    | exact h.elim
    | (obtain ⟨h1, h2, h3⟩ := h; exact ⟨h1, h2, hk _ _ _ h3⟩)
    | exact hk _ _ _ h
    | exact PV.withIntP_mono (fun n ⟨h1, h2, h3, h4, h5⟩ => ⟨h1, h2, h3, h4, hk _ _ _ h5⟩) h
    | (obtain ⟨h1, h2, h3, h4, h5, h6⟩ := h; exact ⟨h1, h2, h3, h4, h5, hk _ _ _ h6⟩)
    | (obtain ⟨h1, h2, h3, h4⟩ := h; exact ⟨h1, h2, h3, hk _ _ _ h4⟩)
    | (obtain ⟨h1, h2, h3, h4, h5⟩ := h; exact ⟨h1, h2, h3, h4, hk _ _ _ h5⟩)
    | (obtain ⟨h1, h2⟩ := h; exact ⟨h1, hk _ _ _ h2⟩)
    | (obtain ⟨h1, h2⟩ := h; exact ⟨fun i a b => hk _ _ _ (h1 i a b), fun a => hk _ _ _ (h2 a)⟩)
    | skip
end
section
variable {P : Program} {G : Globs} {N : Nat} {w : World} {κ : Kap} {env : Env} {μ : Mem} {mv : Nat → Bool} {Q : Post} {K : Env → Mem → Prop}
theorem Sim.pad (hS : Sim w κ μ) (k : Nat) : Sim w κ (μ ++ List.replicate k none) := by
  refine ⟨hS.inj, hS.lt, fun t c h => ?_, fun t o h => ?_, hS.exlt, hS.exout⟩
  · obtain ⟨o, h1, h2⟩ := hS.live t c h
    refine ⟨o, ?_, h2⟩
    rw [List.getElem?_append_left (List.getElem?_eq_some_iff.1 h1).1]; exact h1
  · rcases Nat.lt_or_ge t μ.length with hl | hl
    · rw [List.getElem?_append_left hl] at h; exact hS.dead t o h
    · rw [List.getElem?_append_right hl, List.getElem?_replicate] at h
      split at h <;> cases h
end
section
variable {P : Program} {G : Globs} {N : Nat} {w : World} {κ : Kap} {env : Env} {μ : Mem} {mv : Nat → Bool} {Q : Post} {K : Env → Mem → Prop}
theorem Wk.pad (k : Nat) (h : Wk G N mv K env (μ ++ List.replicate k none)) : Wk G N mv K env μ := by
  intro C a w κ hC hR
  exact h C a w κ hC ⟨hR.size, hR.defers, hR.regs, hR.sim.pad k, hR.globs, hR.goes⟩
end
section
variable {P : Program} {G : Globs} {N : Nat} {w : World} {κ : Kap} {env : Env} {μ : Mem} {mv : Nat → Bool} {Q : Post} {K : Env → Mem → Prop}
theorem schedX_mkAlt (c : CO) (s more : Sched) (K : Env → Mem → Prop) : schedX P G N mv (mkAlt c s more) env μ K = (opsX P G N mv [c] env μ (fun e m => schedX P G N mv s e m K) ∧ schedX P G N mv more env μ K) := by
  unfold mkAlt
  split
  · simp only [schedX, opsX, and_true]
  · simp only [schedX, opsX]
end
section
variable {P : Program} {G : Globs} {N : Nat} {w : World} {κ : Kap} {env : Env} {μ : Mem} {mv : Nat → Bool} {Q : Post} {K : Env → Mem → Prop}
theorem stepW_mono {q : Bool} {c : CO} {K K' : Env → Mem → Prop} (hk : ∀ e m, K e m → K' e m) (h : stepW P G q mv c env μ K) : stepW P G q mv c env μ K' := by
  revert h
  unfold stepW
  split
  · split <;> intro h
    · exact ⟨h.1, hk _ _ h.2⟩
    · exact ⟨h.1, effW_mono (fun p d m hh => ⟨hh.1, hk _ _ hh.2⟩) h.2⟩
    · unfold calleeK at h ⊢
      split at h
      · rcases h with ⟨res, h1, h2, h3, h4⟩ | ⟨hq, hE, h⟩
        · exact .inl ⟨res, h1, h2, h3, hk _ _ h4⟩
        · refine .inr ⟨hq, hE, ?_⟩
          rcases h with ⟨R, h1, h2⟩ | ⟨t, R, h1, h2⟩
          · exact .inl ⟨R, h1, fun p m hr => ⟨(h2 p m hr).1, hk _ _ (h2 p m hr).2⟩⟩
          · exact .inr ⟨t, R, h1, fun p m hr => ⟨(h2 p m hr).1, hk _ _ (h2 p m hr).2⟩⟩
      · exact h.elim
  · split
    · unfold stepG
      split <;> intro h
      · exact ⟨h.1, hk _ _ h.2⟩
      · obtain ⟨h1, h2, h3⟩ := h
        exact ⟨h1, fun hb => ⟨(h2 hb).1, effW_mono (fun p d m hh => ⟨hh.1, hk _ _ hh.2⟩) (h2 hb).2⟩, fun hb => hk _ _ (h3 hb)⟩
      · obtain ⟨res, h1, h2⟩ := h
        exact ⟨res, h1, hk _ _ h2⟩
    · exact id
end
section
variable {P : Program} {G : Globs} {N : Nat} {w : World} {κ : Kap} {env : Env} {μ : Mem} {mv : Nat → Bool} {Q : Post} {K : Env → Mem → Prop}
theorem opsX_mono : ∀ {l : List CO} {env : Env} {μ : Mem} {K K' : Env → Mem → Prop}, (∀ e m, K e m → K' e m) → opsX P G N mv l env μ K → opsX P G N mv l env μ K'
  | [], _, _, _, _, hk, h => hk _ _ h
  | c :: l, env, μ, K, K', hk, h => by
    unfold opsX at h ⊢
    split
    · rename_i hp
      rw [if_pos hp] at h
      exact stepW_mono (fun e m hh => opsX_mono hk hh) h
    · rename_i hp
      rw [if_neg hp] at h
      intro C a w κ hC hR
      obtain ⟨env', μ', κ', h1, h2⟩ := h C a w κ hC hR
      exact ⟨env', μ', κ', h1, stepW_mono (fun e m hh => opsX_mono hk hh) h2⟩
end
section
variable {P : Program} {G : Globs} {N : Nat} {w : World} {κ : Kap} {env : Env} {μ : Mem} {mv : Nat → Bool} {Q : Post} {K : Env → Mem → Prop}
theorem opsX_of : ∀ {l : List CO} {env : Env} {μ : Mem}, opsW P G false mv l env μ K → opsX P G N mv l env μ K
  | [], _, _, h => h
  | c :: l, env, μ, h => by
    unfold opsX
    have h' : stepW P G false mv c env μ fun e m => opsX P G N mv l e m K := stepW_mono (fun e m hh => opsX_of hh) h
    split
    · exact h'
    · exact Wk.id h'
end
section
variable {P : Program} {G : Globs} {N : Nat} {w : World} {κ : Kap} {env : Env} {μ : Mem} {mv : Nat → Bool} {Q : Post} {K : Env → Mem → Prop}
theorem opsX_app : ∀ {l l' : List CO} {env : Env} {μ : Mem}, opsX P G N mv l env μ (fun e m => opsX P G N mv l' e m K) → opsX P G N mv (l ++ l') env μ K
  | [], _, _, _, h => h
  | c :: l, l', env, μ, h => by
    rw [List.cons_append]
    unfold opsX at h ⊢
    split
    · rename_i hp
      rw [if_pos hp] at h
      exact stepW_mono (fun e m hh => opsX_app hh) h
    · rename_i hp
      rw [if_neg hp] at h
      intro C a w κ hC hR
      obtain ⟨env', μ', κ', h1, h2⟩ := h C a w κ hC hR
      exact ⟨env', μ', κ', h1, stepW_mono (fun e m hh => opsX_app hh) h2⟩
end
section
variable {P : Program} {G : Globs} {N : Nat} {w : World} {κ : Kap} {env : Env} {μ : Mem} {mv : Nat → Bool} {Q : Post} {K : Env → Mem → Prop}
theorem plain_wl {c : CO} (h : c.wl = true) : c.plain = true := by unfold CO.plain; rw [h]; rfl
end
section
variable {P : Program} {G : Globs} {N : Nat} {w : World} {κ : Kap} {env : Env} {μ : Mem} {mv : Nat → Bool} {Q : Post} {K : Env → Mem → Prop}
theorem plain_toE {o : Oper} {c : CO} (h : CO.early o c = true) : c.toE.plain = true := by
  obtain ⟨cd, cg, cop⟩ := c
  unfold CO.toE
  split
  · rfl
  · rename_i hn
    unfold CO.early at h
    rw [Bool.or_eq_true] at h
    rcases h with h | h
    · exact plain_wl h
    · exfalso
      simp only [Bool.and_eq_true] at h
      obtain ⟨⟨h1, -⟩, h3⟩ := h
      obtain ⟨xs, hxs⟩ := Option.isSome_iff_exists.1 h3
      cases cg with
      | none => exact hn xs rfl hxs
      | some _ => simp at h1
end
section
variable {P : Program} {G : Globs} {N : Nat} {w : World} {κ : Kap} {env : Env} {μ : Mem} {mv : Nat → Bool} {Q : Post} {K : Env → Mem → Prop}
theorem sched_soundX {ow : List Nat} {ops : Array Oper} {cs : List CO} {C : Ctx} (hcs : ops.toList.mapM (compileOp P N ow ops) = some cs) (hsel : Region.noSelect ops = true) {Q : Exit → Act → World → Prop} (hQ : ∀ c a w, ¬ Q (.panic c) a w) {K : Env → Mem → Prop} {S : World → Prop} (hS : ∀ a w κ env μ, SR G N C a w κ env μ → S w)
    (hK : ∀ env' μ' a' w' κ', K env' μ' → SR G N C a' w' κ' env' μ' → Q .normal a' w') :
    ∀ (fuel : Nat) (listed : Array Bool) (s : Sched), mkSched ops cs fuel listed = some s → ∀ (a : Act) (w : World) (κ : Kap) (env : Env) (μ : Mem), schedX P G N C.mv s env μ K → SR G N C a w κ env μ → wpAnyH P .any ops Q S fuel listed a w := by
  have step : ∀ {c : CO} {K : Env → Mem → Prop} {a : Act} {w : World} {κ : Kap} {env : Env} {μ : Mem}, opsX P G N C.mv [c] env μ K → SR G N C a w κ env μ → ∃ env' μ' κ', SR G N C a w κ' env' μ' ∧ stepW P G false C.mv c env' μ' K := by
    intro c K a w κ env μ h hR
    simp only [opsX] at h
    split at h
    · exact ⟨env, μ, κ, hR, h⟩
    · exact h C a w κ rfl hR
  intro fuel
  induction fuel with
  | zero =>
    intro listed s hs a w κ env μ h hR
    simp only [mkSched] at hs
    split at hs
    · rename_i hr
      cases hs
      obtain ⟨env', μ', κ', h1, h2⟩ := h C a w κ rfl hR
      exact wpAnyH_done hr (hK _ _ _ _ _ h2 h1) 0
    · cases hs
  | succ f ih =>
    intro listed s hs a w κ env μ h hR
    simp only [mkSched] at hs
    split at hs
    · rename_i hr
      cases hs
      obtain ⟨env', μ', κ', h1, h2⟩ := h C a w κ rfl hR
      exact wpAnyH_done hr (hK _ _ _ _ _ h2 h1) _
    · rename_i hne
      split at hs
      · rename_i i hf
        simp only [Option.bind_eq_some_iff, Option.map_eq_some_iff] at hs
        obtain ⟨c, hc, s', hs', rfl⟩ := hs
        obtain ⟨o, ho, hco⟩ := mapM_at hcs hc
        have hfi := List.find?_some hf
        rw [hc] at hfi
        simp only [Option.map_some, Option.getD_some, Bool.and_eq_true] at hfi
        rw [schedX_mkAlt] at h
        obtain ⟨env1, μ1, κ1, hR1, h1⟩ := step h.1 hR
        obtain ⟨v, env', hy, hK', hR'⟩ := step_yields hco hfi.1 h1 hR1
        exact wpAnyH_take ho hsel hfi.2 (by simpa using List.mem_of_find?_eq_some hf) (fun c a w hp => absurd hp (hQ c _ _)) (YieldsIf.any hy) (hS _ _ _ _ _ hR) (ih _ _ hs' _ _ _ _ _ hK' hR')
      · refine wpAnyH_all rfl hne ?_
        have key : ∀ (r : List Nat) (s : Sched), r.foldr (fun i acc => acc.bind fun more => (cs[i]?).bind fun c => (mkSched ops cs f (listed.setIfInBounds i true)).map fun s => mkAlt c s more) (some .stop) = some s →
            schedX P G N C.mv s env μ K → ∀ i ∈ r, wpOp P ops Q i (fun a' w' => S w' ∧ wpAnyH P .any ops Q S f (listed.setIfInBounds i true) a' w') a w := by
          intro r
          induction r with
          | nil => intro s _ _ i hi; cases hi
          | cons j r ihr =>
            intro s hs h i hi
            simp only [List.foldr_cons, Option.bind_eq_some_iff, Option.map_eq_some_iff] at hs
            obtain ⟨more, hm, c, hc, s', hs', rfl⟩ := hs
            rw [schedX_mkAlt] at h
            rcases List.mem_cons.1 hi with rfl | hi
            · obtain ⟨o, ho, hco⟩ := mapM_at hcs hc
              obtain ⟨env1, μ1, κ1, hR1, h1⟩ := step h.1 hR
              exact step_op ho hco h1 hR1 (fun env' μ' a' w' κ' h1 h2 => ⟨hS _ _ _ _ _ h2, ih _ _ hs' _ _ _ _ _ h1 h2⟩)
            · exact ihr more hm h.2 i hi
        exact key _ s hs h
end
section
variable {P : Program} {G : Globs} {N : Nat} {w : World} {κ : Kap} {env : Env} {μ : Mem} {mv : Nat → Bool} {Q : Post} {K : Env → Mem → Prop}
theorem sched_soundEX {ow : List Nat} {ops : Array Oper} {cs : List CO} {C : Ctx} (hcs : ops.toList.mapM (compileOp P N ow ops) = some cs) (hsel : Region.noSelect ops = true) {Q : Exit → Act → World → Prop} (hQ : ∀ c a w, ¬ Q (.panic c) a w) {K : Env → Mem → Prop}
    (hK : ∀ env' μ' a' w' κ', K env' μ' → SR G N C a' w' κ' env' μ' → Q .normal a' w') :
    ∀ (fuel : Nat) (listed : Array Bool) (s : Sched), mkSchedE ow ops cs fuel listed = some s → ∀ (a : Act) (env : Env) (μ : Mem), schedX P G N C.mv s env μ K → SR G N C a C.w0 C.κ0 env μ → wpAnyH P .any ops Q (Held C.w0 C.κ0) fuel listed a C.w0 := by
  have hS : ∀ a w κ env μ, SR G N C a w κ env μ → Held C.w0 C.κ0 w := fun a w κ env μ h b hb ho => h.goes.block b hb (fun ht => ho (.inr ht))
  intro fuel
  induction fuel with
  | zero =>
    intro listed s hs a env μ h hR
    exact sched_soundX hcs hsel hQ hS hK 0 listed s hs a _ _ _ _ h hR
  | succ f ih =>
    intro listed s hs a env μ h hR
    simp only [mkSchedE] at hs
    split at hs
    · rename_i i hf
      simp only [Option.bind_eq_some_iff, Option.map_eq_some_iff] at hs
      obtain ⟨c, hc, s', hs', rfl⟩ := hs
      obtain ⟨o, ho, hco⟩ := mapM_at hcs hc
      have hfi := List.find?_some hf
      rw [hc, ho] at hfi
      rw [Bool.and_eq_true, Bool.and_eq_true] at hfi
      simp only [earlyAt] at hfi
      rw [schedX_mkAlt] at h
      have h1 := h.1
      simp only [opsX] at h1
      rw [if_pos (plain_toE hfi.1)] at h1
      obtain ⟨v, env', hy, hK', hR'⟩ := step_early hco hfi.1 h1 hR
      exact wpAnyH_take ho hsel hfi.2.1 (by simpa using List.mem_of_find?_eq_some hf) (fun c a w hp => absurd hp (hQ c _ _)) hy (hS _ _ _ _ _ hR) (ih _ _ hs' _ _ _ hK' hR')
    · exact sched_soundX hcs hsel hQ hS hK (f + 1) listed s hs a _ _ _ _ h hR
end
section
variable {P : Program} {G : Globs} {N : Nat} {w : World} {κ : Kap} {env : Env} {μ : Mem} {mv : Nat → Bool} {Q : Post} {K : Env → Mem → Prop}
theorem PW.regionX {s : Sched} {L : List Nat} (h : schedX P G N mv s env μ fun env' μ' => Q .normal (keepE L env') μ') : PW P G N mv (.regionA s L) env μ Q := by
  intro ow L' code hc hmix C a w κ hmv hR
  obtain ⟨id, ops, cs, rfl, hm, rfl, hs, hsel⟩ := compileC_regionA hc
  subst hmv
  have hR1 : SR G N C a { w with drawn := w.drawn + 1 } κ env μ := by
    have hG : Goes w κ w.drew κ (fun _ => False) := Goes.drew _ _ _
    exact ⟨hR.size, hR.defers, regs_still hR.regs hG, hR.sim.drew, globs_goes hR.globs hG, hR.goes.trans (hG.weak fun _ h => h.elim)⟩
  have h1 : (Code.region id ops true).wp P (fun e a' w' => e = .normal ∧ ∃ env' μ' κ', Q .normal env' μ' ∧ SR G N C a' w' κ' env' μ') a w := by
    unfold mkS at hs
    split at hs
    · have hR2 : SR G N ⟨{ w with drawn := w.drawn + 1 }, κ, C.mv⟩ a { w with drawn := w.drawn + 1 } κ env μ := ⟨hR1.size, hR1.defers, hR1.regs, hR1.sim, hR1.globs, Goes.refl _ _ _⟩
      refine wp_region_held (S := Held { w with drawn := w.drawn + 1 } κ) hmix (sched_soundEX (C := ⟨{ w with drawn := w.drawn + 1 }, κ, C.mv⟩) hm hsel (fun c a w hp => by cases hp.1) (fun env' μ' a' w' κ' hK hR' =>
        ⟨rfl, _, _, _, hK, SR.weak ⟨hR'.size, hR'.defers, hR'.regs, hR'.sim, hR'.globs, hR1.goes.trans hR'.goes⟩ (keep_get _ _)⟩) _ _ _ hs _ _ _ h hR2)
    · refine wp_region_held (S := fun _ => True) hmix (sched_soundX (S := fun _ => True) hm hsel (fun c a w hp => by cases hp.1) (fun _ _ _ _ _ _ => trivial) (fun env' μ' a' w' κ' hK hR' => ⟨rfl, _, _, _, hK, hR'.weak (keep_get _ _)⟩) _ _ _ hs _ _ _ _ _ h hR1)
  refine wp_mono h1 ?_
  rintro e a' w' ⟨rfl, env', μ', κ', hq, hR'⟩
  exact ⟨env', μ', κ', hq, hR'⟩
end
def swp (n t i : Nat) : Nat := if i = n then t else if i = t then n else i
theorem swp_swp (n t i : Nat) : swp n t (swp n t i) = i := by
  unfold swp
  by_cases h1 : i = n
  · subst h1
    by_cases h2 : t = i <;> simp [h2]
  · by_cases h2 : i = t
    · subst h2; simp [h1]
    · simp [h1, h2]
theorem swp_other {n t i : Nat} (h1 : i ≠ n) (h2 : i ≠ t) : swp n t i = i := by unfold swp; rw [if_neg h1, if_neg h2]
def PV.ren (g : Nat → Nat) : PV → PV
  | .sl sh t n => .sl sh (g t) n
  | .mref t => .mref (g t)
  | .ref t off => .ref (g t) off
  | .eptr t m i off => .eptr (g t) m i off
  | .agg ps => .agg (ps.map (PV.ren g))
  | .tup ps => .tup (ps.map (PV.ren g))
  | .fn f ps qs => .fn f (ps.map (PV.ren g)) (qs.map (PV.ren g))
  | .cond b p => .cond b (PV.ren g p)
  | p => p
def MObj.ren (g : Nat → Nat) : MObj → MObj
  | .var sh x => .var sh (x.ren g)
  | .mpo kd es => .mpo kd (es.map fun q => (q.1, q.2.ren g))
  | o => o
section
variable {P : Program} {G : Globs} {N : Nat} {C : Ctx} {a : Act} {w : World} {κ κ' : Kap} {env : Env} {μ : Mem} {mv : Nat → Bool} {Q : Post} {K : Env → Mem → Prop} {g : Nat → Nat}
theorem map_getR {f : PV → PV} (ps : List PV) (i : Nat) (p : PV) (h : (ps.map f)[i]? = some p) : ∃ q, ps[i]? = some q ∧ p = f q := by
  rw [List.getElem?_map] at h
  cases hq : ps[i]? with
  | none => simp [hq] at h
  | some q => simp [hq] at h; exact ⟨q, rfl, h.symm⟩
end
section
variable {P : Program} {G : Globs} {N : Nat} {C : Ctx} {a : Act} {w : World} {κ κ' : Kap} {env : Env} {μ : Mem} {mv : Nat → Bool} {Q : Post} {K : Env → Mem → Prop} {g : Nat → Nat}
theorem ren_closed {ex : Nat → Prop} {v : Value} {p : PV} (h : RepC w ex v p) : RepC w ex v (p.ren g) := by
  induction h with
  | fn f first caps ps qs h1 h2 h3 h4 ih3 ih4 =>
    simp only [PV.ren]
    refine .fn f first caps _ _ (by simpa using h1) (by simpa using h2) (fun i v p a b => ?_) (fun i v p a b => ?_)
    · obtain ⟨q, hq, rfl⟩ := map_getR ps i p b
      exact ih3 i v q a hq
    · obtain ⟨q, hq, rfl⟩ := map_getR qs i p b
      exact ih4 i v q a hq
  | agg vs ps hs hr ih =>
    simp only [PV.ren]
    refine .agg vs _ (by simpa using hs) (fun i v p a b => ?_)
    obtain ⟨q, hq, rfl⟩ := map_getR ps i p b
    exact ih i v q a hq
  | tup vs ps hs hr ih =>
    simp only [PV.ren]
    refine .tup vs _ (by simpa using hs) (fun i v p a b => ?_)
    obtain ⟨q, hq, rfl⟩ := map_getR ps i p b
    exact ih i v q a hq
  | int k n => simp only [PV.ren]; exact .int k n
  | bool b => simp only [PV.ren]; exact .bool b
  | str s => simp only [PV.ren]; exact .str s
  | nilFn => simp only [PV.ren]; exact .nilFn
  | nilPtr => simp only [PV.ren]; exact .nilPtr
  | nilSl => simp only [PV.ren]; exact .nilSl
  | nilMap => simp only [PV.ren]; exact .nilMap
  | yl l => simp only [PV.ren]; exact .yl l
  | list a len cap sh xs b off val h1 h2 h3 h4 h5 h6 h7 _ => simp only [PV.ren]; exact RepC.list a len cap sh xs b off val h1 h2 h3 h4 h5 h6 h7
  | full a len sh xs b off val h1 h3 h4 h5 h6 h7 _ => simp only [PV.ren]; exact RepC.full a len sh xs b off val h1 h3 h4 h5 h6 h7
  | cmap r kd es ents clock h1 h2 h3 h4 h4' h5 h6 _ _ => simp only [PV.ren]; exact RepC.cmap r kd es ents clock h1 h2 h3 h4 h4' h5 h6
  | cptr b o off sh x val h1 h2 h3 h4 _ => simp only [PV.ren]; exact RepC.cptr b o off sh x val h1 h2 h3 h4
end
section
variable {P : Program} {G : Globs} {N : Nat} {C : Ctx} {a : Act} {w : World} {κ κ' : Kap} {env : Env} {μ : Mem} {mv : Nat → Bool} {Q : Post} {K : Env → Mem → Prop} {g : Nat → Nat}
theorem Rep.ren {ex : Nat → Prop} (hk : ∀ t c, κ t = some c → κ' (g t) = some c) {v : Value} {p : PV} (h : Rep w ex κ v p) : Rep w ex κ' v (p.ren g) := by
  induction h with
  | junk v => simp only [PV.ren]; exact .junk v
  | closed h => exact .closed (ren_closed h)
  | ref t off b h => simp only [PV.ren]; exact .ref _ off b (hk _ _ h)
  | eptr t n i off b h => simp only [PV.ren]; exact .eptr _ n i off b (hk _ _ h)
  | sl sh t len b cap h hs hl hm => simp only [PV.ren]; exact .sl sh _ len b cap (hk _ _ h) hs hl hm
  | slnil sh t h => simp only [PV.ren]; exact .slnil sh _ (hk _ _ h)
  | mref t b h => simp only [PV.ren]; exact .mref _ b (hk _ _ h)
  | agg vs ps hs hr ih =>
    simp only [PV.ren]
    refine .agg vs _ (by simpa using hs) (fun i v p a b => ?_)
    obtain ⟨q, hq, rfl⟩ := map_getR ps i p b
    exact ih i v q a hq
  | tup vs ps hs hr ih =>
    simp only [PV.ren]
    refine .tup vs _ (by simpa using hs) (fun i v p a b => ?_)
    obtain ⟨q, hq, rfl⟩ := map_getR ps i p b
    exact ih i v q a hq
  | fn f first caps ps qs h1 h2 h3 h4 ih3 ih4 =>
    simp only [PV.ren]
    refine .fn f first caps _ _ (by simpa using h1) (by simpa using h2) (fun i v p a b => ?_) (fun i v p a b => ?_)
    · obtain ⟨q, hq, rfl⟩ := map_getR ps i p b
      exact ih3 i v q a hq
    · obtain ⟨q, hq, rfl⟩ := map_getR qs i p b
      exact ih4 i v q a hq
  | cond b h hu ih => simp only [PV.ren]; exact .cond b (fun hb => ih hb) hu
end
section
variable {P : Program} {G : Globs} {N : Nat} {C : Ctx} {a : Act} {w : World} {κ κ' : Kap} {env : Env} {μ : Mem} {mv : Nat → Bool} {Q : Post} {K : Env → Mem → Prop} {g : Nat → Nat}
theorem ren_cells (x : PV) : (x.ren g).cells = x.cells.map (PV.ren g) := by
  cases x <;> simp [PV.ren, PV.cells]
end
section
variable {P : Program} {G : Globs} {N : Nat} {C : Ctx} {a : Act} {w : World} {κ κ' : Kap} {env : Env} {μ : Mem} {mv : Nat → Bool} {Q : Post} {K : Env → Mem → Prop} {g : Nat → Nat}
theorem shaped_ren {sh : Sh} {x : PV} (h : shaped sh x) : shaped sh (x.ren g) := by
  cases sh with
  | none =>
    unfold shaped at h ⊢
    cases x <;> simp_all [PV.ren, PV.isAgg]
  | some n =>
    obtain ⟨cs, rfl, hl⟩ := h
    exact ⟨cs.map (PV.ren g), by simp [PV.ren], by simpa using hl⟩
end
section
variable {P : Program} {G : Globs} {N : Nat} {C : Ctx} {a : Act} {w : World} {κ κ' : Kap} {env : Env} {μ : Mem} {mv : Nat → Bool} {Q : Post} {K : Env → Mem → Prop} {g : Nat → Nat}
theorem ORep.ren {ex : Nat → Prop} (hk : ∀ t c, κ t = some c → κ' (g t) = some c) {c : Option Nat} {o : MObj} (h : ORep w ex κ c o) : ORep w ex κ' c (o.ren g) := by
  cases h with
  | var b arr E sh x h hs hsh hr =>
    refine .var b arr E sh _ h hs (shaped_ren hsh) (fun j p v hp hv => ?_)
    rw [ren_cells] at hp
    obtain ⟨q, hq, rfl⟩ := map_getR _ j p hp
    exact (hr j q v hq hv).ren hk
  | nilrow sh => exact .nilrow sh
  | row b cur E cap sh xs h hs hm hl hfit hr => exact .row b cur E cap sh xs h hs hm hl hfit hr
  | mp b kd es ents clock h hs hB hkd h1 hv => exact .mp b kd es ents clock h hs hB hkd h1 hv
  | iter b kd es seen m h hm => exact .iter b kd es seen m h hm
  | mpo b kd es ents clock h hs hB hkd h1 hv =>
    refine .mpo b kd _ ents clock h (by simpa using hs) hB (fun q hq => ?_) (fun i e q a d => ?_) (fun i e q a d => ?_)
    · obtain ⟨q0, h0, rfl⟩ := List.mem_map.1 hq; exact hkd q0 h0
    · obtain ⟨q0, h0, rfl⟩ := vals_get (f := PV.ren g) d; exact h1 i e q0 a h0
    · obtain ⟨q0, h0, rfl⟩ := vals_get (f := PV.ren g) d; exact (hv i e q0 a h0).ren hk
end
section
variable {P : Program} {G : Globs} {N : Nat} {C : Ctx} {a : Act} {w : World} {κ κ' : Kap} {env : Env} {μ : Mem} {mv : Nat → Bool} {Q : Post} {K : Env → Mem → Prop} {g : Nat → Nat}
def swE (n t : Nat) (env : Env) : Env := env.map fun x => (x.1, x.2.ren (swp n t))
end
section
variable {P : Program} {G : Globs} {N : Nat} {C : Ctx} {a : Act} {w : World} {κ κ' : Kap} {env : Env} {μ : Mem} {mv : Nat → Bool} {Q : Post} {K : Env → Mem → Prop} {g : Nat → Nat}
def swL {α : Type} (n t : Nat) (l : List (Option α)) : List (Option α) := (l.set n (l.getD t none)).set t (l.getD n none)
end
section
variable {P : Program} {G : Globs} {N : Nat} {C : Ctx} {a : Act} {w : World} {κ κ' : Kap} {env : Env} {μ : Mem} {mv : Nat → Bool} {Q : Post} {K : Env → Mem → Prop} {g : Nat → Nat}
def swM (n t : Nat) (μ : Mem) : Mem := swL n t (μ.map (Option.map (MObj.ren (swp n t))))
end
section
variable {P : Program} {G : Globs} {N : Nat} {C : Ctx} {a : Act} {w : World} {κ κ' : Kap} {env : Env} {μ : Mem} {mv : Nat → Bool} {Q : Post} {K : Env → Mem → Prop} {g : Nat → Nat}
theorem swL_get {α : Type} (l : List (Option α)) {n t : Nat} (hn : n < l.length) (ht : t < l.length) (i : Nat) : (swL n t l)[i]? = l[swp n t i]? := by
  unfold swL swp
  by_cases h2 : i = t
  · subst h2
    rw [List.getElem?_set_self (by simpa using ht)]
    by_cases h1 : i = n
    · subst h1; simp [List.getD, hn]
    · simp [h1, List.getD, hn]
  · rw [List.getElem?_set_ne (Ne.symm h2)]
    by_cases h1 : i = n
    · subst h1
      rw [List.getElem?_set_self hn]
      simp [List.getD, ht]
    · rw [List.getElem?_set_ne (Ne.symm h1)]
      simp [h1, h2]
end
section
variable {P : Program} {G : Globs} {N : Nat} {C : Ctx} {a : Act} {w : World} {κ κ' : Kap} {env : Env} {μ : Mem} {mv : Nat → Bool} {Q : Post} {K : Env → Mem → Prop} {g : Nat → Nat}
def Kap.sw (κ : Kap) (n t : Nat) : Kap := ⟨fun i => κ (swp n t i), κ.ex⟩
end
section
variable {P : Program} {G : Globs} {N : Nat} {C : Ctx} {a : Act} {w : World} {κ κ' : Kap} {env : Env} {μ : Mem} {mv : Nat → Bool} {Q : Post} {K : Env → Mem → Prop} {g : Nat → Nat}
theorem own_sw (κ : Kap) (n t : Nat) : own (κ.sw n t) = own κ := by
  funext b
  simp only [own, eq_iff_iff]
  constructor
  · rintro (h | ⟨i, hi⟩)
    · exact .inl h
    · exact .inr ⟨swp n t i, hi⟩
  · rintro (h | ⟨i, hi⟩)
    · exact .inl h
    · exact .inr ⟨swp n t i, by simp only [Kap.sw, swp_swp]; exact hi⟩
end
section
variable {P : Program} {G : Globs} {N : Nat} {C : Ctx} {a : Act} {w : World} {κ κ' : Kap} {env : Env} {μ : Mem} {mv : Nat → Bool} {Q : Post} {K : Env → Mem → Prop} {g : Nat → Nat}
theorem sw_tags (κ : Kap) (n t : Nat) : ∀ i c, κ i = some c → (κ.sw n t) (swp n t i) = some c := fun i c h => by simp only [Kap.sw, swp_swp]; exact h
end
section
variable {P : Program} {G : Globs} {N : Nat} {C : Ctx} {a : Act} {w : World} {κ κ' : Kap} {env : Env} {μ : Mem} {mv : Nat → Bool} {Q : Post} {K : Env → Mem → Prop} {g : Nat → Nat}
theorem Sim.sw (hS : Sim w κ μ) {n t : Nat} (hn : n < μ.length) (ht : t < μ.length) : Sim w (κ.sw n t) (swM n t μ) := by
  have hget : ∀ i, (swM n t μ)[i]? = (μ.map (Option.map (MObj.ren (swp n t))))[swp n t i]? := swL_get _ (by simpa using hn) (by simpa using ht)
  refine ⟨fun i j b hi hj => ?_, fun i b hi => hS.lt _ b hi, fun i c hi => ?_, fun i o hi => ?_, hS.exlt, fun i b hi => hS.exout _ b hi⟩
  · have := hS.inj _ _ b hi hj
    rw [← swp_swp n t i, this, swp_swp]
  · obtain ⟨o, h1, h2⟩ := hS.live _ c hi
    refine ⟨o.ren (swp n t), by rw [hget, List.getElem?_map, h1]; rfl, ?_⟩
    rw [own_sw]
    exact h2.ren (sw_tags κ n t)
  · rw [hget, List.getElem?_map] at hi
    cases hx : μ[swp n t i]? with
    | none => simp [hx] at hi
    | some x =>
      cases x with
      | none => simp [hx] at hi
      | some o' => exact hS.dead _ o' hx
end
section
variable {P : Program} {G : Globs} {N : Nat} {C : Ctx} {a : Act} {w : World} {κ κ' : Kap} {env : Env} {μ : Mem} {mv : Nat → Bool} {Q : Post} {K : Env → Mem → Prop} {g : Nat → Nat}
theorem get_swE (n t : Nat) : ∀ (env : Env) (r : Nat), (swE n t env).get r = (env.get r).ren (swp n t)
  | [], _ => by simp [swE, Env.get, PV.ren]
  | (j, p) :: e, r => by
    simp only [swE, List.map_cons, Env.get]
    split
    · rfl
    · exact get_swE n t e r
end
section
variable {P : Program} {G : Globs} {N : Nat} {C : Ctx} {a : Act} {w : World} {κ κ' : Kap} {env : Env} {μ : Mem} {mv : Nat → Bool} {Q : Post} {K : Env → Mem → Prop} {g : Nat → Nat}
theorem SR.sw (hR : SR G N C a w κ env μ) (n t : Nat) (hn : n < μ.length) (ht : t < μ.length) (h1 : C.mv n = true) (h2 : C.mv t = true) : SR G N C a w (κ.sw n t) (swE n t env) (swM n t μ) := by
  have hG : Goes w κ w (κ.sw n t) (fun i => i = n ∨ i = t) := by
    have ho := own_sw κ n t
    refine ⟨rfl, rfl, rfl, Nat.le_refl _, rfl, fun _ _ _ => rfl, fun b hb hno => ?_, fun _ _ h => h, fun i c hi hne => ?_⟩
    · rintro ⟨i, hi⟩; exact hno ⟨swp n t i, hi⟩
    · simp only [Kap.sw]
      rw [swp_other (fun e => hne (.inl e)) (fun e => hne (.inr e))]; exact hi
  refine ⟨hR.size, hR.defers, fun i => ?_, hR.sim.sw hn ht, globs_goes hR.globs hG, hR.goes.trans (hG.weak fun i hi => by rcases hi with rfl | rfl <;> assumption)⟩
  rw [get_swE, own_sw]
  exact (hR.regs i).ren (sw_tags κ n t)
end
section
variable {P : Program} {G : Globs} {N : Nat} {C : Ctx} {a : Act} {w : World} {κ κ' : Kap} {env : Env} {μ : Mem} {mv : Nat → Bool} {Q : Post} {K : Env → Mem → Prop} {g : Nat → Nat}
theorem Wk.sw (n t : Nat) (hn : n < μ.length) (ht : t < μ.length) (h1 : mv n = true) (h2 : mv t = true) (h : Wk G N mv K (swE n t env) (swM n t μ)) : Wk G N mv K env μ := by
  intro C a w κ hC hR
  exact h C a w _ hC (hR.sw n t hn ht (by rw [hC]; exact h1) (by rw [hC]; exact h2))
end
def IS.toS (ops : List CO) : IS → Sched
  | .done => .done
  | .stop => .stop
  | .alt l s more => .alt (l.map fun i => ops.getD i default) (s.toS ops) (more.toS ops)
namespace Dg
def chkL (T : Dg) : List Nat → List Nat → Bool
  | _, [] => true
  | D, i :: l => T.okI D i && T.chkL (i :: D) l
end Dg
namespace Dg
def chk (T : Dg) : List Nat → IS → Bool
  | D, .done => (List.range T.ops.length).all (fun i => D.contains i) && T.cls D == T.last
  | _, .stop => true
  | D, .alt l s m => T.chkL D l && T.chk (l.reverse ++ D) s && T.chk D m
end Dg
section
variable {P : Program} {G : Globs} {N : Nat} {mv : Nat → Bool} {Q : Post} {env : Env} {μ : Mem} {K : Env → Mem → Prop} {σ : Type}
theorem Dg.steps {T : Dg} {F : Fam σ} (hO : T.Obs P G N mv F T.pl) {K : List Nat → Env → Mem → Prop} : ∀ {l D : List Nat} {env : Env} {μ : Mem}, T.chkL D l = true → T.I G N mv F D env μ →
    (∀ env μ, T.I G N mv F (l.reverse ++ D) env μ → K (l.reverse ++ D) env μ) → opsX P G N mv (l.map T.op) env μ (K (l.reverse ++ D))
  | [], D, env, μ, _, hI, hK => hK _ _ hI
  | i :: l, D, env, μ, h, hI, hK => by
    simp only [Dg.chkL, Bool.and_eq_true] at h
    have e : (i :: l).reverse ++ D = l.reverse ++ (i :: D) := by simp
    rw [e] at hK ⊢
    exact opsX_app (l := [T.op i]) (l' := l.map T.op) (opsX_mono (fun env' μ' hI' => Dg.steps hO (K := K) h.2 hI' hK) (Dg.step hO h.1 hI))
end
section
variable {P : Program} {G : Globs} {N : Nat} {mv : Nat → Bool} {Q : Post} {env : Env} {μ : Mem} {K : Env → Mem → Prop} {σ : Type}
theorem Dg.walk {T : Dg} {F : Fam σ} (hO : T.Obs P G N mv F T.pl)
    (hK : ∀ D env μ, (List.range T.ops.length).all (fun i => D.contains i) = true → T.cls D = T.last → T.Ex F D env μ → Wk G N mv K env μ) : ∀ (t : IS) (D : List Nat) (env : Env) (μ : Mem), T.chk D t = true → T.I G N mv F D env μ → schedX P G N mv (t.toS T.ops) env μ K
  | .done, D, env, μ, h, hI => by
    simp only [Dg.chk, Bool.and_eq_true, beq_iff_eq] at h
    exact hI.wk.bind fun e m hx => hK D e m h.1 h.2 hx
  | .stop, _, _, _, _, _ => trivial
  | .alt l s m, D, env, μ, h, hI => by
    simp only [Dg.chk, Bool.and_eq_true] at h
    obtain ⟨⟨h1, h2⟩, h3⟩ := h
    refine ⟨?_, Dg.walk hO hK m D env μ h3 hI⟩
    exact Dg.steps hO (K := fun D' e m' => schedX P G N mv (s.toS T.ops) e m' K) h1 hI (fun e m' hI' => Dg.walk hO hK s _ e m' h2 hI')
end
section
variable {P : Program} {G : Globs} {N : Nat} {mv : Nat → Bool} {Q : Post} {env : Env} {μ : Mem} {K : Env → Mem → Prop} {σ : Type}
def Dg.endE (T : Dg) (V : Env) : Env := (T.B ++ T.ops.filterMap (·.dst)).map fun r => (r, V.get r)
end
section
variable {P : Program} {G : Globs} {N : Nat} {mv : Nat → Bool} {Q : Post} {env : Env} {μ : Mem} {K : Env → Mem → Prop} {σ : Type}
theorem get_listE (V : Env) : ∀ (l : List Nat) (r : Nat), Env.get (l.map fun r => (r, V.get r)) r = if r ∈ l then V.get r else .junk
  | [], r => rfl
  | x :: l, r => by
    simp only [List.map_cons, Env.get, get_listE V l r, List.mem_cons]
    by_cases h : x = r
    · subst h; simp
    · simp [h, Ne.symm h]
end
section
variable {P : Program} {G : Globs} {N : Nat} {mv : Nat → Bool} {Q : Post} {env : Env} {μ : Mem} {K : Env → Mem → Prop} {σ : Type}
theorem PW.regionI (T : Dg) (t : IS) {L : List Nat} (F : Fam σ) (s0 : σ) (hchk : T.chk [] t = true) (hg : F.Gd 0 s0) (hM : μ = F.M 0 s0) (hB : Agr env (F.V 0 s0) T.B) (hO : T.Obs P G N mv F T.pl)
    (h : ∀ s, F.Gd T.last s → Q .normal (keepE L (T.endE (F.V T.last s))) (F.M T.last s)) : PW P G N mv (.regionA (t.toS T.ops) L) env μ Q := by
  have hc0 : T.cls [] = 0 := rfl
  refine PW.regionX (Dg.walk hO (fun D env μ hD hL hI => ?_) t [] env μ hchk (show T.Ex F [] env μ from ⟨s0, by rw [hc0]; exact hg, by rw [hc0]; exact hM, fun r hr => ?_⟩))
  · obtain ⟨s, hg, rfl, hk⟩ := hI
    rw [hL] at hg hk ⊢
    have hall : ∀ i, i < T.ops.length → i ∈ D := fun i hi => by
      have := List.all_eq_true.1 hD i (by simpa using hi); simpa using this
    intro C a w κ hC hR
    refine ⟨T.endE (F.V T.last s), _, κ, hR.weak fun r => ?_, h s hg⟩
    unfold Dg.endE
    rw [get_listE]
    split
    · rename_i hm
      left
      refine (hk r ?_).symm
      unfold Dg.kn
      rcases List.mem_append.1 hm with hm | hm
      · exact List.mem_append.2 (.inl hm)
      · refine List.mem_append.2 (.inr ?_)
        obtain ⟨c, hc, hcd⟩ := List.mem_filterMap.1 hm
        obtain ⟨j, hj, rfl⟩ := List.getElem_of_mem hc
        refine List.mem_filterMap.2 ⟨j, hall j hj, ?_⟩
        unfold Dg.op; simp [List.getD, hj, hcd]
    · exact .inr rfl
  · rw [hc0]
    refine hB.mem r ?_
    simpa [Dg.kn] using hr
end
section
variable {P : Program} {G : Globs} {N : Nat} {mv : Nat → Bool} {Q : Post} {env : Env} {μ : Mem} {K : Env → Mem → Prop} {σ : Type}
theorem Dg.obs_nil {T : Dg} {F : Fam σ} : T.Obs P G N mv F [] := trivial
end
section
variable {P : Program} {G : Globs} {N : Nat} {mv : Nat → Bool} {Q : Post} {env : Env} {μ : Mem} {K : Env → Mem → Prop} {σ : Type}
theorem Dg.obs_pure {T : Dg} {F : Fam σ} {i c : Nat} {l : List (Nat × Nat × Nat)} (o : CO) (d : Nat) (hop : T.op i = o) (hd : o.dst = some d) (hna : T.allocs.contains i = false)
    (h : ∀ s, F.Gd c s → ∀ env, Agr env (F.V c s) o.tms → ∀ K : Env → Mem → Prop, (∀ v, v = (F.V c s).get d → K ((d, v) :: env) (F.M c s)) → opsW P G false mv [o] env (F.M c s) K) (hl : T.Obs P G N mv F l) : T.Obs P G N mv F ((i, c, c) :: l) := by
  refine ⟨fun s hg env ha K hK => ?_, hl⟩
  simp only [Dg.Aft, hop, hna, Bool.false_eq_true, if_false] at ha hK ⊢
  refine opsX_of (h s hg env ha K fun v hv => hK s _ _ ⟨rfl, hg, ⟨id, fun r hr => ?_, fun r _ _ => rfl⟩, fun r hr => ?_⟩)
  · rw [hd] at hr
    simp only [Env.get]
    rw [if_neg (fun e => hr (by rw [e]))]; rfl
  · rw [hd] at hr
    obtain rfl := Option.some.inj hr
    simp only [Env.get, if_true]; exact hv
end
section
variable {P : Program} {G : Globs} {N : Nat} {mv : Nat → Bool} {Q : Post} {env : Env} {μ : Mem} {K : Env → Mem → Prop} {σ : Type}
theorem Dg.obs_eff {T : Dg} {F : Fam σ} {i c c' : Nat} {l : List (Nat × Nat × Nat)} (o : CO) (hop : T.op i = o) (hna : T.allocs.contains i = false)
    (h : ∀ s, F.Gd c s → ∀ env, Agr env (F.V c s) o.tms → ∀ K : Env → Mem → Prop, (∀ s' e, Upd T F o.dst c c' s s' env e → K e (F.M c' s')) → opsX P G N mv [o] env (F.M c s) K) (hl : T.Obs P G N mv F l) : T.Obs P G N mv F ((i, c, c') :: l) := by
  refine ⟨fun s hg env ha K hK => ?_, hl⟩
  simp only [Dg.Aft, hop, hna, Bool.false_eq_true, if_false] at ha hK ⊢
  exact h s hg env ha K fun s' e hu => hK s' e _ ⟨rfl, hu⟩
end
section
variable {P : Program} {G : Globs} {N : Nat} {mv : Nat → Bool} {Q : Post} {env : Env} {μ : Mem} {K : Env → Mem → Prop} {σ : Type}
theorem Dg.obs_alloc {T : Dg} {F : Fam σ} {i c c' : Nat} {l : List (Nat × Nat × Nat)} (o : CO) (hop : T.op i = o) (hna : T.allocs.contains i = true)
    (h : ∀ s, F.Gd c s → ∀ env, Agr env (F.V c s) o.tms → ∀ K : Env → Mem → Prop, (∀ s' e m, Wk G N mv (fun E M' => M' = F.M c' s' ∧ Upd T F o.dst c c' s s' env E) e m → K e m) → opsW P G false mv [o] env (F.M c s) K) (hl : T.Obs P G N mv F l) : T.Obs P G N mv F ((i, c, c') :: l) := by
  refine ⟨fun s hg env ha K hK => ?_, hl⟩
  simp only [Dg.Aft, hop, hna, if_true] at ha hK ⊢
  exact opsX_of (h s hg env ha K hK)
end
section
variable {P : Program} {G : Globs} {N : Nat} {mv : Nat → Bool} {Q : Post} {env : Env} {μ : Mem} {K : Env → Mem → Prop} {σ : Type}
theorem Upd.mk' {T : Dg} {F : Fam σ} {d : Option Nat} {c c' : Nat} {s s' : σ} {env e : Env} (τ : PV → PV) (good : F.Gd c' s') (h1 : ∀ r, d ≠ some r → e.get r = τ (env.get r))
    (h2 : ∀ r ∈ T.keys.getD c [], d ≠ some r → (F.V c' s').get r = τ ((F.V c s).get r)) (h3 : ∀ r, d = some r → e.get r = (F.V c' s').get r) : Upd T F d c c' s s' env e := ⟨good, ⟨τ, h1, h2⟩, h3⟩
end
section
variable {P : Program} {G : Globs} {N : Nat} {mv : Nat → Bool} {Q : Post} {env : Env} {μ : Mem} {K : Env → Mem → Prop} {σ : Type}
theorem get_mapE (f : PV → PV) (hf : f .junk = .junk) : ∀ (env : Env) (r : Nat), Env.get (env.map fun q => (q.1, f q.2)) r = f (env.get r)
  | [], _ => hf.symm
  | (j, p) :: e, r => by
    simp only [List.map_cons, Env.get]
    split
    · rfl
    · exact get_mapE f hf e r
end
section
variable {P : Program} {G : Globs} {N : Nat} {mv : Nat → Bool} {Q : Post} {env : Env} {μ : Mem} {K : Env → Mem → Prop} {σ : Type}
theorem get_frzE (t : Nat) (o : MObj) (env : Env) (r : Nat) : (frzE t o env).get r = (env.get r).frz t o := by
  unfold frzE; exact get_mapE (fun p => p.frz t o) (by simp [PV.frz]) env r
end
section
variable {P : Program} {G : Globs} {N : Nat} {mv : Nat → Bool} {Q : Post} {env : Env} {μ : Mem} {K : Env → Mem → Prop} {σ : Type}
theorem get_killE (t : Nat) (env : Env) (r : Nat) : (killE env (some t)).get r = (env.get r).kill (killTag t) := get_mapE (fun p => p.kill (killTag t)) (by simp [PV.kill]) env r
end
section
variable {P : Program} {G : Globs} {N : Nat} {mv : Nat → Bool} {env : Env} {μ : Mem} {K : Env → Mem → Prop}
theorem opsX_1 {c : CO} (h : opsW P G false mv [c] env μ K) : opsX P G N mv [c] env μ K := opsX_of h
end
section
variable {P : Program} {G : Globs} {N : Nat} {mv : Nat → Bool} {env : Env} {μ : Mem} {K : Env → Mem → Prop}
theorem get_mapK (t : Nat) (env : Env) (r : Nat) : Env.get (env.map fun x => (x.1, PV.kill (killTag t) x.2)) r = (env.get r).kill (killTag t) := get_mapE (fun p => p.kill (killTag t)) (by simp [PV.kill]) env r
end
section
variable {P : Program} {G : Globs} {N : Nat} {mv : Nat → Bool} {env : Env} {μ : Mem} {K : Env → Mem → Prop}
theorem PW.pad {Q : Post} {x : PCode} (k : Nat) (h : PW P G N mv x env (μ ++ List.replicate k none) Q) : PW P G N mv x env μ Q := by
  intro ow L code hc hmix C a w κ hC hR
  exact h ow L code hc hmix C a w κ hC ⟨hR.size, hR.defers, hR.regs, hR.sim.pad k, hR.globs, hR.goes⟩
end
section
variable {P : Program} {G : Globs} {N : Nat} {env : Env} {μ : Mem} {mv : Nat → Bool} {Q : Post}
theorem PW.sw {x : PCode} (n t : Nat) (hn : n < μ.length) (ht : t < μ.length) (h1 : mv n = true) (h2 : mv t = true) (h : PW P G N mv x (swE n t env) (swM n t μ) Q) : PW P G N mv x env μ Q := by
  intro ow L code hc hmix C a w κ hmv hR
  subst hmv
  exact h ow L code hc hmix C a w _ rfl (hR.sw n t hn ht h1 h2)
end
end PG
namespace Go.Proofs.YtcdfmdngnidpaaaGreatDoor
open Go PG Go.Proofs
set_option linter.unusedSimpArgs false
set_option linter.unusedVariables false
set_option linter.unusedSectionVars false
set_option maxHeartbeats 4000000
set_option maxRecDepth 100000
def L17 : List Nat := [0, 1, 2, 4, 5, 6, 7, 8, 10, 11, 12, 13, 15, 16, 17, 18, 35, 45]
def c17 : CF := ⟨52,
  .seq (.region false [⟨some 2, none, .eff (.box (some 1)) [.tmp 0]⟩,
     ⟨some 4, none, .eff (.alloc (some 1) (.agg [.nilSl])) []⟩,
     ⟨some 5, none, .rd .mov [.pv (.int .i64 0)]⟩,
     ⟨some 6, none, .rd .mov [.pv (.int .i64 0)]⟩] L17)
  (.seq (.region false [⟨some 14, none, .rd (.load (some 1)) [.tmp 2]⟩,
     ⟨some 7, none, .eff (.alloc (some 1) (.agg [.nilSl])) []⟩,
     ⟨none, none, .eff (.store (some 1)) [.tmp 7, .tmp 14]⟩,
     ⟨some 8, none, .rd .mov [.pv (.int .i64 0)]⟩] L17)
  (.seq (.seq (.region false [⟨some 15, none, .rd .mov [.tmp 1]⟩,
      ⟨some 16, none, .rd .lenL [.tmp 15]⟩,
      ⟨some 17, none, .rd .mov [.pv (.int .i64 0)]⟩] L17)
   (.block 0
    (.loop
      (.seq (.region false [⟨some 18, none, .rd (.bin .lss) [.tmp 17, .tmp 16]⟩] L17)
       (.seq (.cond (.tmp 18)
         (.skip)
         (.exit 0))
       (.seq (.block 1
         (.seq (.region false [⟨some 19, none, .rd (.idxAddr (some 8)) [.tmp 15, .tmp 17]⟩,
             ⟨some 20, none, .rd (.load (some 8)) [.tmp 19]⟩,
             ⟨some 10, none, .eff (.alloc (some 8) (.agg [(.int .u32 0), (.int .u32 0), (.int .i64 0), (.int .i64 0), (.int .i64 0), (.str []), (.int .i64 0), (.str [])])) []⟩,
             ⟨none, none, .eff (.store (some 8)) [.tmp 10, .tmp 20]⟩] L17)
          (.seq (.seq (.region false [⟨some 21, none, .rd (.load (some 1)) [.tmp 7]⟩,
              ⟨some 22, none, .rd (.fldAddr 0) [.tmp 10]⟩,
              ⟨some 23, none, .rd (.load none) [.tmp 22]⟩,
              ⟨some 24, none, .call (.pv (.fn 25 [] [])) [.tmp 21, .tmp 23]⟩,
              ⟨some 11, none, .rd .mov [.tmp 24]⟩] L17)
           (.seq (.region true [⟨some 25, none, .rd .mov [.tmp 11]⟩,
              ⟨some 26, none, .rd (.bin .geq) [.tmp 25, .pv (.int .i64 0)]⟩,
              ⟨some 27, none, .rd .mov [.tmp 26]⟩,
              ⟨some 28, some (27, true), .rd (.fldAddr 0) [.tmp 7]⟩,
              ⟨some 29, some (27, true), .rd (.load none) [.tmp 28]⟩,
              ⟨some 30, some (27, true), .rd .mov [.tmp 11]⟩,
              ⟨some 31, some (27, true), .rd (.idxAddr (some 8)) [.tmp 29, .tmp 30]⟩,
              ⟨some 32, some (27, true), .rd (.load (some 8)) [.tmp 31]⟩,
              ⟨some 33, some (27, true), .rd (.load (some 8)) [.tmp 10]⟩,
              ⟨some 34, some (27, true), .call (.pv (.fn 27 [] [])) [.tmp 32, .tmp 33]⟩,
              ⟨some 35, none, .rd .pick [.tmp 27, .tmp 34, .pv (.bool false)]⟩] L17)
           (.cond (.tmp 35)
            (.seq (.region false [⟨some 36, none, .rd .mov [.tmp 8]⟩,
                ⟨some 37, none, .rd (.bin .add) [.tmp 36, .pv (.int .i64 1)]⟩,
                ⟨some 8, none, .rd .mov [.tmp 37]⟩] L17)
             (.exit 1))
            (.skip))))
          (.seq (.region false [⟨some 39, none, .rd (.load (some 1)) [.tmp 7]⟩,
             ⟨some 40, none, .rd (.load (some 8)) [.tmp 10]⟩,
             ⟨some 41, none, .call (.pv (.fn 14 [] [])) [.tmp 39, .tmp 40]⟩,
             ⟨some 38, none, .rd .mov [.tmp 41]⟩,
             ⟨some 42, none, .rd (.ext 0) [.tmp 38]⟩,
             ⟨some 43, none, .rd (.ext 1) [.tmp 38]⟩,
             ⟨some 12, none, .eff (.alloc (some 1) (.agg [.nilSl])) []⟩,
             ⟨none, none, .eff (.store (some 1)) [.tmp 12, .tmp 42]⟩,
             ⟨some 13, none, .rd .mov [.tmp 43]⟩] L17)
          (.seq (.seq (.region false [⟨some 44, none, .rd .mov [.tmp 13]⟩,
              ⟨some 45, none, .rd (.bin .neq) [.tmp 44, .pv (.int .i64 0)]⟩] L17)
           (.cond (.tmp 45)
            (.seq (.region false [⟨some 46, none, .rd (.load (some 1)) [.tmp 2]⟩,
                ⟨some 47, none, .rd .mov [.tmp 13]⟩,
                ⟨none, none, .eff (.store (some 1)) [.tmp 4, .tmp 46]⟩,
                ⟨some 5, none, .rd .mov [.pv (.int .i64 0)]⟩,
                ⟨some 6, none, .rd .mov [.tmp 47]⟩] L17)
             (.ret))
            (.skip)))
          (.region false [⟨some 48, none, .rd (.load (some 1)) [.tmp 12]⟩,
            ⟨none, none, .eff (.store (some 1)) [.tmp 7, .tmp 48]⟩] L17))))))
       (.region false [⟨some 49, none, .rd (.bin .add) [.tmp 17, .pv (.int .i64 1)]⟩,
         ⟨some 17, none, .rd .mov [.tmp 49]⟩] L17)))))))
  (.seq (.region false [⟨some 50, none, .rd (.load (some 1)) [.tmp 7]⟩,
     ⟨some 51, none, .rd .mov [.tmp 8]⟩,
     ⟨none, none, .eff (.store (some 1)) [.tmp 4, .tmp 50]⟩,
     ⟨some 5, none, .rd .mov [.tmp 51]⟩,
     ⟨some 6, none, .rd .mov [.pv (.int .i64 0)]⟩] L17)
  (.ret)))),
  [.cell 4 (some 1), .tmp 5, .tmp 6]⟩

-- (wagebook/store.Store).All
def L18 : List Nat := [0, 1, 2, 3, 4, 5, 7, 8, 9, 10]
def c18 : CF := ⟨23,
  .seq (.region false [⟨some 1, none, .eff (.box (some 1)) [.tmp 0]⟩,
     ⟨some 2, none, .rd .mov [.pv .nilSl]⟩] L18)
  (.seq (.region false [⟨some 3, none, .rd .mov [.pv .nilSl]⟩] L18)
  (.seq (.seq (.region false [⟨some 6, none, .rd (.fldAddr 0) [.tmp 1]⟩,
      ⟨some 7, none, .rd (.load none) [.tmp 6]⟩,
      ⟨some 8, none, .rd .lenL [.tmp 7]⟩,
      ⟨some 9, none, .rd .mov [.pv (.int .i64 0)]⟩] L18)
   (.block 0
    (.loop
      (.seq (.region false [⟨some 10, none, .rd (.bin .lss) [.tmp 9, .tmp 8]⟩] L18)
       (.seq (.cond (.tmp 10)
         (.skip)
         (.exit 0))
       (.seq (.block 1
         (.seq (.region false [⟨some 11, none, .rd .mov [.tmp 9]⟩,
             ⟨some 12, none, .rd (.idxAddr (some 8)) [.tmp 7, .tmp 9]⟩,
             ⟨some 13, none, .rd (.load (some 8)) [.tmp 12]⟩,
             ⟨some 5, none, .eff (.alloc (some 8) (.agg [(.int .u32 0), (.int .u32 0), (.int .i64 0), (.int .i64 0), (.int .i64 0), (.str []), (.int .i64 0), (.str [])])) []⟩,
             ⟨some 4, none, .rd .mov [.tmp 11]⟩,
             ⟨none, none, .eff (.store (some 8)) [.tmp 5, .tmp 13]⟩] L18)
          (.region false [⟨some 14, none, .rd .mov [.tmp 3]⟩,
            ⟨some 15, none, .rd .mov [.tmp 4]⟩,
            ⟨some 16, none, .rd (.bin .add) [.tmp 15, .pv (.int .i64 1)]⟩,
            ⟨some 17, none, .rd (.load (some 8)) [.tmp 5]⟩,
            ⟨some 18, none, .rd (.build [(.int .i64 0), (.int .u32 0), (.int .u32 0), (.int .i64 0), (.int .i64 0), (.int .i64 0), (.str []), (.int .i64 0), (.str [])] [(0, 1), (1, 8)]) [.tmp 16, .tmp 17]⟩,
            ⟨some 19, none, .eff (.lit (some 9) false) [.tmp 18]⟩,
            ⟨some 20, none, .eff (.append (some 9) 80) [.tmp 14, .tmp 19]⟩,
            ⟨some 3, none, .rd .mov [.tmp 20]⟩] L18)))
       (.region false [⟨some 21, none, .rd (.bin .add) [.tmp 9, .pv (.int .i64 1)]⟩,
         ⟨some 9, none, .rd .mov [.tmp 21]⟩] L18)))))))
  (.seq (.region false [⟨some 22, none, .rd .mov [.tmp 3]⟩,
     ⟨some 2, none, .rd .mov [.tmp 22]⟩] L18)
  (.ret)))),
  [.tmp 2]⟩

-- slices.Clone[[]wagebook/store.Known,wagebook/store.Known]
theorem k17 : compileF Tryz.prog [] L17 Tryz.f17 = some c17 := by kernel_rfl
theorem k18 : compileF Tryz.prog [] L18 Tryz.f18 = some c18 := by kernel_rfl
def L27 : List Nat := [0, 1, 2, 3, 4]
def c27 : CF := ⟨11,
  .seq (.region false [⟨some 2, none, .eff (.box (some 8)) [.tmp 0]⟩,
     ⟨some 3, none, .eff (.box (some 8)) [.tmp 1]⟩,
     ⟨some 4, none, .rd .mov [.pv (.bool false)]⟩] L27)
  (.seq (.region false [⟨some 5, none, .rd (.fldAddr 0) [.tmp 2]⟩,
     ⟨some 6, none, .rd (.load none) [.tmp 5]⟩,
     ⟨some 7, none, .rd (.fldAddr 0) [.tmp 3]⟩,
     ⟨none, none, .eff (.store none) [.tmp 7, .tmp 6]⟩] L27)
  (.seq (.region false [⟨some 8, none, .rd (.load (some 8)) [.tmp 2]⟩,
     ⟨some 9, none, .rd (.load (some 8)) [.tmp 3]⟩,
     ⟨some 10, none, .rd (.eqA false [0, 0, 0, 0, 0, 2, 0, 2]) [.tmp 8, .tmp 9]⟩,
     ⟨some 4, none, .rd .mov [.tmp 10]⟩] L27)
  (.ret))),
  [.tmp 4]⟩

-- (wagebook/store.View).back
theorem k27 : compileF Tryz.prog [] L27 Tryz.f27 = some c27 := by kernel_rfl
theorem e27 : Ent Tryz.prog 27 := ⟨Tryz.f27, Tryz.func27, by kernel_rfl, by kernel_rfl⟩
def L3d : List Nat := [0, 1, 2, 6, 7, 8, 9, 10, 11, 12, 13, 14, 16, 17, 18, 19, 20, 21, 22, 23, 24, 25, 26, 27, 28, 29, 31, 32, 34, 42, 46, 47, 48, 49, 55, 80, 81, 82, 83, 89, 90, 91, 92, 127, 145, 146, 147, 187, 188, 189, 190, 191, 218, 230]
theorem read_u16 {n : Nat} {p : PV} (h : ShA Tryz.prog (n + 1) 24 p) : ∃ x : Nat, p = .int .u16 x ∧ x ≤ 65535 := by
  obtain ⟨m, e1, h1, h2⟩ := shC_int (P := Tryz.prog) (n := n) (k := .u16) Tryz.underlying24 (by unfold ShA at h; rw [Tryz.underlying24] at h; exact h)
  cases e1
  have h1 : 0 ≤ m := h1
  have h2 : m ≤ 65535 := h2
  exact ⟨m.toNat, by rw [Int.toNat_of_nonneg h1], by omega⟩
/-! What is in force: the last that covers -/
theorem those_f (p : Fc → Bool) (l : List Fc) : ∀ i, i ≤ l.length → (thoseN p l i).map (·.f) = (l.take i).filter p
  | 0, _ => by simp [thoseN]
  | i + 1, h => by
    rw [those_step p l (by omega), List.take_succ_eq_append_getElem (by omega), List.filter_append, ← those_f p l i (by omega)]
    split
    · rename_i hp; simp [hp]
    · rename_i hp; simp [hp]
theorem those_le (p : Fc → Bool) (l : List Fc) : ∀ i, i ≤ l.length → ∀ k ∈ thoseN p l i, k.n ≤ i
  | 0, _, k, hk => by cases hk
  | i + 1, h, k, hk => by
    rw [those_step p l (by omega)] at hk
    split at hk
    · rcases List.mem_append.1 hk with hk | hk
      · have := those_le p l i (by omega) k hk; omega
      · simp at hk; subst hk; show (i : Int) + 1 ≤ _; omega
    · have := those_le p l i (by omega) k hk; omega
theorem those_up (p : Fc → Bool) (l : List Fc) : ∀ i, i ≤ l.length → (thoseN p l i).Pairwise (fun a b => a.n < b.n)
  | 0, _ => List.Pairwise.nil
  | i + 1, h => by
    rw [those_step p l (by omega)]
    split
    · refine List.pairwise_append.2 ⟨those_up p l i (by omega), by simp, fun a ha b hb => ?_⟩
      simp at hb; subst hb
      have := those_le p l i (by omega) a ha
      show a.n < (i : Int) + 1; omega
    · exact those_up p l i (by omega)
theorem getD_at (K : List Kn) {i : Nat} (h : i < K.length) : K.getD i default = K[i] := by simp [List.getD, h]
theorem place_last {K : List Kn} (hK : K.Pairwise (fun a b => a.n < b.n)) (d : Int) : ∀ i, i ≤ K.length →
    (((K.take i).filter (covB · d)).getLast? = none ∧ placeN K d i < 0) ∨ ∃ j, ∃ h : j < K.length, j < i ∧ placeN K d i = j ∧ ((K.take i).filter (covB · d)).getLast? = some K[j]
  | 0, _ => .inl ⟨by simp, by simp [placeN]⟩
  | i + 1, h => by
    have hi : i < K.length := by omega
    have ih := place_last hK d i (by omega)
    have hst : placeN K d (i + 1) = if (covB K[i] d && (decide (placeN K d i < 0) || decide ((K.getD (placeN K d i).toNat default).n < K[i].n))) = true then (i : Int) else placeN K d i := by
      simp only [placeN]; rw [getD_at K hi]
    rw [hst, List.take_succ_eq_append_getElem hi, List.filter_append]
    by_cases hc : covB K[i] d = true
    · have hf : [K[i]].filter (covB · d) = [K[i]] := by simp [hc]
      rw [hf]
      refine .inr ⟨i, hi, by omega, ?_, by simp⟩
      rw [if_pos]
      rw [hc, Bool.true_and, Bool.or_eq_true, decide_eq_true_eq, decide_eq_true_eq]
      rcases ih with ⟨-, h1⟩ | ⟨j, hj, hji, h1, -⟩
      · exact .inl h1
      · refine .inr ?_
        rw [h1, Int.toNat_natCast, getD_at K hj]
        exact List.pairwise_iff_getElem.1 hK j i hj hi hji
    · have hc' : covB K[i] d = false := by simpa using hc
      have hf : [K[i]].filter (covB · d) = [] := by simp [hc']
      rw [hf, List.append_nil, if_neg (by rw [hc']; simp)]
      rcases ih with h1 | ⟨j, hj, hji, h1, h2⟩
      · exact .inl h1
      · exact .inr ⟨j, hj, by omega, h1, h2⟩
def covF (d : Int) (f : Fc) : Bool := decide (f.from' ≤ d) && (decide (f.to' = 0) || decide (d < f.to'))
theorem covB_f (k : Kn) (d : Int) : covB k d = covF d k.f := rfl
/-- The last of the facts of one person that covers a day. -/
def lastF (A : List Fc) (p d : Int) : Option Fc := ((A.filter (pickF p 2)).filter (covF d)).getLast?
theorem val_last (A : List Fc) (p d : Int) : (placeM (factsM A p 2) d < 0 ↔ lastF A p d = none) ∧ (valM (factsM A p 2) (placeM (factsM A p 2) d)).num = match lastF A p d with
    | some f => f.num
    | none => 0 := by
  obtain ⟨K, hK⟩ : ∃ K, factsM A p 2 = K := ⟨_, rfl⟩
  have hup : K.Pairwise (fun a b => a.n < b.n) := by rw [← hK]; exact those_up _ A _ (Nat.le_refl _)
  have hf : K.map (·.f) = A.filter (pickF p 2) := by
    have := those_f (pickF p 2) A A.length (Nat.le_refl _)
    rw [List.take_length] at this; rw [← hK]; exact this
  have hfil : (K.filter (covB · d)).map (·.f) = (A.filter (pickF p 2)).filter (covF d) := by
    rw [← hf, List.filter_map]; rfl
  have hl : lastF A p d = (K.filter (covB · d)).getLast?.map (·.f) := by
    unfold lastF; rw [← hfil, List.getLast?_map]
  rw [hK, hl]
  have := place_last hup d K.length (Nat.le_refl _)
  rw [List.take_length] at this
  rcases this with ⟨h1, h2⟩ | ⟨j, hj, -, h2, h3⟩
  · rw [h1]
    have h2 : placeM K d < 0 := h2
    refine ⟨⟨fun _ => rfl, fun _ => h2⟩, ?_⟩
    unfold valM; rw [if_pos h2]; rfl
  · rw [h3]
    have h2 : placeM K d = j := h2
    rw [h2]
    refine ⟨⟨fun h => by omega, fun h => by cases h⟩, ?_⟩
    unfold valM; rw [if_neg (by omega), Int.toNat_natCast, getD_at K hj]; rfl
theorem last_snoc (A : List Fc) (f : Fc) (p d : Int) : lastF (A ++ [f]) p d = if (pickF p 2 f && covF d f) = true then some f else lastF A p d := by
  unfold lastF
  rw [List.filter_append, List.filter_append]
  cases h1 : pickF p 2 f with
  | false => simp [h1]
  | true =>
    cases h2 : covF d f with
    | false => simp [h1, h2]
    | true => simp [h1, h2]
/-- Are two facts of one person, with a day in common? -/
def confB (f g : Fc) : Bool := decide (f.person = g.person) && (decide (f.to' = 0) || decide (g.from' < f.to')) && (decide (g.to' = 0) || decide (f.from' < g.to'))
theorem conf_of {f g : Fc} {p d : Int} (h1 : pickF p 2 f = true) (h2 : pickF p 2 g = true) (h3 : covF d f = true) (h4 : covF d g = true) : confB f g = true := by
  unfold pickF at h1 h2
  unfold covF at h3 h4
  unfold confB
  simp only [Bool.and_eq_true, Bool.or_eq_true, decide_eq_true_eq] at h1 h2 h3 h4 ⊢
  exact ⟨⟨by rw [h1.1, h2.1], h3.2.imp id (fun h => by omega)⟩, h4.2.imp id (fun h => by omega)⟩
theorem fil_le {A : List Fc} (h : A.Pairwise (fun f g => confB g f = false)) (p d : Int) : ((A.filter (pickF p 2)).filter (covF d)).length ≤ 1 := by
  have h' := (h.sublist (List.filter_sublist (p := pickF p 2))).sublist (List.filter_sublist (p := covF d))
  have hm : ∀ f ∈ (A.filter (pickF p 2)).filter (covF d), pickF p 2 f = true ∧ covF d f = true := fun f hf => by
    rw [List.mem_filter, List.mem_filter] at hf; exact ⟨hf.1.2, hf.2⟩
  generalize (A.filter (pickF p 2)).filter (covF d) = B at h' hm
  match B, h', hm with
  | [], _, _ => simp
  | [x], _, _ => simp
  | x :: y :: B, h', hm =>
    have h1 := (List.pairwise_cons.1 h').1 y (by simp)
    obtain ⟨a, b⟩ := hm x (by simp)
    obtain ⟨c, e⟩ := hm y (by simp)
    rw [conf_of c a e b] at h1; cases h1
theorem perm_one {α : Type} {A B : List α} (h : A.Perm B) (hl : A.length ≤ 1) : A = B := by
  match A, hl with
  | [], _ => exact (List.nil_perm.1 h).symm
  | [x], _ => exact List.singleton_perm.1 h
theorem last_perm {A B : List Fc} (hp : A.Perm B) (h : A.Pairwise (fun f g => confB g f = false)) (p d : Int) : lastF A p d = lastF B p d := by
  unfold lastF
  rw [perm_one ((hp.filter _).filter _) (fil_le h p d)]
theorem pair_snoc {A : List Fc} {f : Fc} (h : A.Pairwise (fun f g => confB g f = false)) (hf : ∀ g ∈ A, confB f g = false) : (A ++ [f]).Pairwise (fun f g => confB g f = false) :=
  List.pairwise_append.2 ⟨h, by simp, fun a ha b hb => by simp at hb; subst hb; exact hf a ha⟩
/-- Two change places. -/
def swapT (O : List Td) (a b : Nat) : List Td := match O[a]?, O[b]? with
  | some x, some y => (O.set a y).set b x
  | _, _ => O
theorem swap_len (O : List Td) (a b : Nat) : (swapT O a b).length = O.length := by
  unfold swapT; split <;> simp
theorem swap_perm (O : List Td) {a b : Nat} (ha : a < O.length) (hb : b < O.length) : ((O.set a O[b]).set b O[a]).Perm O := by
  have key : ∀ (X : List Td) (a b : Nat) (ha : a < X.length) (hb : b < X.length), a < b → ((X.set a X[b]).set b X[a]).Perm X := by
    intro X a b ha hb hab
    obtain ⟨L, x, M, y, R, rfl, hL, hM⟩ : ∃ L x M y R, X = L ++ x :: (M ++ y :: R) ∧ L.length = a ∧ M.length = b - a - 1 := by
      refine ⟨X.take a, X[a], (X.drop (a + 1)).take (b - a - 1), X[b], X.drop (b + 1), ?_, by simp; omega, by simp; omega⟩
      conv => lhs; rw [← List.take_append_drop a X, List.drop_eq_getElem_cons ha, ← List.take_append_drop (b - a - 1) (X.drop (a + 1)), List.drop_drop, show a + 1 + (b - a - 1) = b by omega, List.drop_eq_getElem_cons hb]
    subst hL
    have hb' : b = L.length + 1 + M.length := by omega
    subst hb'
    have e1 : (L ++ x :: (M ++ y :: R))[L.length]'ha = x := by simp
    have e2 : (L ++ x :: (M ++ y :: R))[L.length + 1 + M.length]'hb = y := by
      rw [List.getElem_append_right (by omega)]
      simp [show L.length + 1 + M.length - L.length = M.length + 1 by omega]
    rw [e1, e2]
    have e3 : (L ++ x :: (M ++ y :: R)).set L.length y = L ++ y :: (M ++ y :: R) := by simp
    rw [e3]
    have e4 : (L ++ y :: (M ++ y :: R)).set (L.length + 1 + M.length) x = L ++ y :: (M ++ x :: R) := by
      rw [List.set_append_right _ _ (by omega), show L.length + 1 + M.length - L.length = M.length + 1 by omega]
      simp
    rw [e4]
    refine List.Perm.append_left L ?_
    have p1 : (y :: (M ++ x :: R)).Perm (y :: x :: (M ++ R)) := List.Perm.cons y List.perm_middle
    have p2 : (x :: (M ++ y :: R)).Perm (x :: y :: (M ++ R)) := List.Perm.cons x List.perm_middle
    exact p1.trans ((List.Perm.swap x y (M ++ R)).trans p2.symm)
  rcases Nat.lt_trichotomy a b with h | h | h
  · exact key O a b ha hb h
  · subst h; simp
  · have := key O b a hb ha h
    rw [List.set_comm _ _ (by omega)]
    exact this
theorem v27 (f : Fc) : VCalls Tryz.prog G0 27 [fcV f, fcV f] (.bool true) := by
  refine VCalls.of_PW Tryz.func27 k27 mix (by simp [c27]) ?_
  simp only [c27, L27, argE]
  have e1 : ∀ x : Int, decide (x = x) = true := fun x => by simp
  have e2 : ∀ x : St, decide (x = x) = true := fun x => by simp
  repeat' (first | exact True.intro | exact Or.inr ⟨rfl, by omega⟩ | (refine PW.seqK ?_; intro K hK) | refine PW.block ?_ | refine PW.scope ?_ | refine PW.label ?_ | refine PW.exit ?_ | refine PW.ret ?_ | refine PW.skip ?_ | refine seqK_n (by assumption) ?_ | refine seqK_r (by assumption) ?_ | refine seqK_e (by assumption) ?_ | refine PW.regionA ?_ | exact schedW_stop_i | refine schK_n (by assumption) ?_ | (refine schedW_alt_k ?_ ?_; focus (intro K hK; simp only [GC, pp0, cut88, e1, e2, SS, SS2, SS3, SS4, SS5, Option.map_some, Nat.reduceAdd, reduceIte, Nat.reduceEqDiff, Nat.reduceBEq, eq_self, implies_true, ne_eq, beq_self_eq_true, id_eq, reduceCtorEq]; (try go_unwrap; try simp only [GC, pp0, cut88, e1, e2, RR, reduceCtorEq]))) | (refine PW.cond rfl ?_ ?_ <;> intro hcond <;> (try contradiction) <;> try simp only [decide_eq_true_eq, decide_eq_false_iff_not] at hcond) | (refine gd_i ?_; intro hg; try simp only [hg]) | ((first | show @LE.le Nat _ _ _ | show @LT.lt Nat _ _ _ | show @LE.le Int _ _ _ | show @LT.lt Int _ _ _ | show @Eq Nat _ _ | show @Eq Int _ _ | show @Eq Bool _ _ | show _ ∨ _ | show ¬ _); first | omega | (simp only [decide_eq_true_eq, decide_eq_false_iff_not, List.length_cons, List.length_nil, List.length_append, List.length_map, Sh.size] <;> omega) | (go_unwrap; omega)) | ((first | refine PW.region ?_ | refine PW.regionQ ?_ | refine schedW_done_i ?_ | show (_ : Post) _ _ _ | show @Eq (List PV) _ _ | show @Eq Bool _ _ | show opsW _ _ _ _ _ _ _ _ | show okAll _ | show @Eq Bool _ _ ∨ _); focus (simp only [GC, pp0, cut88, e1, e2, SS, SS2, SS3, SS4, SS5, Option.map_some, Nat.reduceAdd, reduceIte, Nat.reduceEqDiff, Nat.reduceBEq, eq_self, implies_true, ne_eq, beq_self_eq_true, id_eq, reduceCtorEq]; (try go_unwrap; try simp only [GC, pp0, cut88, e1, e2, RR, reduceCtorEq]))) | refine And.intro ?_ ?_ | exact Or.inr ⟨rfl, Nat.le_refl _⟩ | exact (fun h => Bool.noConfusion h))
  all_goals skip
theorem idxF_some {α : Type} {p : α → Bool} {xs : List α} (h : 0 ≤ idxF p xs) : ∃ i, ∃ h : i < xs.length, idxF p xs = i ∧ p xs[i] = true := by
  unfold idxF at h ⊢
  cases hf : xs.findIdx? p with
  | none => rw [hf] at h; simp at h
  | some i =>
    obtain ⟨h1, h2, -⟩ := List.findIdx?_eq_some_iff_getElem.1 hf
    exact ⟨i, h1, rfl, h2⟩
/-- Import, step by step. -/
def impM (s fs : List Fc) : Nat → List Fc × Int
  | 0 => (s, 0)
  | i + 1 => match fs[i]? with
    | some f => if 0 ≤ plcM (impM s fs i).1 f.id then ((impM s fs i).1, (impM s fs i).2 + 1) else ((impM s fs i).1 ++ [f], (impM s fs i).2)
    | none => impM s fs i
theorem imp_step (s fs : List Fc) {i : Nat} (h : i < fs.length) : impM s fs (i + 1) = if 0 ≤ plcM (impM s fs i).1 fs[i].id then ((impM s fs i).1, (impM s fs i).2 + 1) else ((impM s fs i).1 ++ [fs[i]], (impM s fs i).2) := by
  conv => lhs; unfold impM
  rw [List.getElem?_eq_getElem h]
theorem imp_pas (s fs : List Fc) : ∀ i, 0 ≤ (impM s fs i).2 ∧ (impM s fs i).2 ≤ i
  | 0 => by simp [impM]
  | i + 1 => by
    have := imp_pas s fs i
    unfold impM
    split
    · split
      · simp only; omega
      · simp only; omega
    · omega
/-- Each is there already, alike, or can be added. -/
def ImpOk (s fs : List Fc) : Prop := ∀ i (h : i < fs.length),
  (0 ≤ plcM (impM s fs i).1 fs[i].id → (impM s fs i).1[(plcM (impM s fs i).1 fs[i].id).toNat]? = some fs[i]) ∧
  (plcM (impM s fs i).1 fs[i].id < 0 → (impM s fs i).1.length < 4096 ∧ fs[i].kind ≠ 18 ∧ VCalls Tryz.prog G0 24 [fcV fs[i]] (.int .i64 0))
theorem v17 (s fs : List Fc) (hs : s.length ≤ 5000) (hfs : fs.length ≤ 5000) (hok : ImpOk s fs) (hlen' : ∀ i, i ≤ fs.length → (impM s fs i).1.length ≤ 100000) :
    VCalls Tryz.prog G0 17 [stP s, fcL fs] (.tup [stP (impM s fs fs.length).1, .int .i64 (impM s fs fs.length).2, .int .i64 0]) := by
  refine VCalls.of_PW Tryz.func17 k17 mix (by simp [c17]) ?_
  simp only [c17, L17, argE]
  have hlen := fc_len fs
  repeat' (first | exact True.intro | (refine PW.seqK ?_; intro K hK) | refine PW.block ?_ | refine PW.scope ?_ | refine PW.label ?_ | refine PW.exit ?_ | refine PW.ret ?_ | refine PW.skip ?_ | refine seqK_n (by assumption) ?_ | refine seqK_r (by assumption) ?_ | refine seqK_e (by assumption) ?_ | refine PW.regionA ?_ | exact schedW_stop_i | refine schK_n (by assumption) ?_ | (refine schedW_alt_k ?_ ?_; focus (intro K hK; simp only [hlen, cut11, SS, SS2, SS3, SS4, SS5, Option.map_some, Nat.reduceAdd, reduceIte, Nat.reduceEqDiff, Nat.reduceBEq, eq_self, implies_true, ne_eq, beq_self_eq_true, id_eq, reduceCtorEq]; (try go_unwrap; try simp only [hlen, cut11, RR, reduceCtorEq]))) | (refine PW.cond rfl ?_ ?_ <;> intro hcond <;> (try contradiction) <;> try simp only [decide_eq_true_eq, decide_eq_false_iff_not] at hcond) | (refine gd_i ?_; intro hg; try simp only [hg]) | ((first | show @LE.le Nat _ _ _ | show @LT.lt Nat _ _ _ | show @LE.le Int _ _ _ | show @LT.lt Int _ _ _ | show @Eq Nat _ _ | show @Eq Int _ _ | show @Eq Bool _ _ | show _ ∨ _ | show ¬ _); first | omega | (simp only [decide_eq_true_eq, decide_eq_false_iff_not, List.length_cons, List.length_nil, List.length_append, List.length_map, Sh.size] <;> omega) | (go_unwrap; omega)) | ((first | refine PW.region ?_ | refine PW.regionQ ?_ | refine schedW_done_i ?_ | show (_ : Post) _ _ _ | show @Eq (List PV) _ _ | show @Eq Bool _ _ | show opsW _ _ _ _ _ _ _ _ | show okAll _ | show @Eq Bool _ _ ∨ _); focus (simp only [hlen, cut11, SS, SS2, SS3, SS4, SS5, Option.map_some, Nat.reduceAdd, reduceIte, Nat.reduceEqDiff, Nat.reduceBEq, eq_self, implies_true, ne_eq, beq_self_eq_true, id_eq, reduceCtorEq]; (try go_unwrap; try simp only [hlen, cut11, RR, reduceCtorEq]))) | refine And.intro ?_ ?_ | exact Or.inr ⟨rfl, Nat.le_refl _⟩ | exact (fun h => Bool.noConfusion h))
  refine PW.loopG (σ := Nat) 3 (fun _ _ => rfl) [2, 4, 5, 6, 7, 8, 15, 16, 17] (fun i => [.ref 0 0, .ref 1 0, .int .i64 0, .int .i64 0, .ref 2 0, .int .i64 (impM s fs i).2, fcL fs, .int .i64 fs.length, .int .i64 i]) (fun i => [some (.var (some 1) (stP s)), some (.var (some 1) (.agg [.nilSl])), some (.var (some 1) (stP (impM s fs i).1))]) (fun i => i ≤ fs.length) (fun i => fs.length - i) 0 ?_ (by first | rfl | simp [impM]) (by omega) ?_
  · simp only [SS, SS2, SS3, SS4, SS5, Option.map_some, Nat.reduceAdd, reduceIte, Nat.reduceEqDiff, Nat.reduceBEq, eq_self, implies_true, ne_eq, beq_self_eq_true, id_eq, reduceCtorEq]; rfl
  rintro i hi
  simp only [List.zip_cons_cons, List.zip_nil_left]
  rcases Nat.lt_or_ge i fs.length with h | h
  · have hd : decide ((i : Int) < fs.length) = true := by simp only [decide_eq_true_eq]; omega
    have hg := fc_getD fs i h
    have hst := imp_step s fs h
    obtain ⟨ho1, ho2⟩ := hok i h
    have hol := hlen' i (by omega)
    obtain ⟨hp0, hp1⟩ := imp_pas s fs i
    generalize fs[i] = f at hg hst ho1 ho2
    generalize impM s fs i = q at hst ho1 ho2 hol hp0 hp1
    obtain ⟨O, p⟩ := q
    simp only at hst ho1 ho2 hol hp0 hp1 ⊢
    have h25 := v25 O (by omega) f.id
    have hwp : IntKind.i64.wrap (p + 1) = p + 1 := IntWalk.i64_in _ (by omega)
    by_cases hp : 0 ≤ plcM O f.id
    · rw [if_pos hp] at hst
      obtain ⟨m, hm⟩ : ∃ m : Nat, plcM O f.id = m := ⟨(plcM O f.id).toNat, by omega⟩
      have ho := ho1 hp
      rw [hm, Int.toNat_natCast] at ho
      obtain ⟨hml, hmo⟩ := List.getElem?_eq_some_iff.1 ho
      have hgo := fc_getD O m hml
      rw [hmo] at hgo
      rw [hm] at h25
      have d1 : decide ((0 : Int) ≤ (m : Int)) = true := by simp only [decide_eq_true_eq]; omega
      have h27 := v27 f
      have hOl := fc_len O
      repeat' (first | exact True.intro | (refine PW.seqK ?_; intro K hK) | refine PW.block ?_ | refine PW.scope ?_ | refine PW.label ?_ | refine PW.exit ?_ | refine PW.ret ?_ | refine PW.skip ?_ | refine seqK_n (by assumption) ?_ | refine seqK_r (by assumption) ?_ | refine seqK_e (by assumption) ?_ | refine PW.regionA ?_ | exact schedW_stop_i | refine schK_n (by assumption) ?_ | (refine schedW_alt_k ?_ ?_; focus (intro K hK; simp only [GC, hlen, hOl, hd, hg, hgo, d1, hwp, cut11, cut88, SS, SS2, SS3, SS4, SS5, Option.map_some, Nat.reduceAdd, reduceIte, Nat.reduceEqDiff, Nat.reduceBEq, eq_self, implies_true, ne_eq, beq_self_eq_true, id_eq, reduceCtorEq]; (try go_unwrap; try simp only [GC, hlen, hOl, hd, hg, hgo, d1, hwp, cut11, cut88, RR, reduceCtorEq]))) | (refine PW.cond rfl ?_ ?_ <;> intro hcond <;> (try contradiction) <;> try simp only [decide_eq_true_eq, decide_eq_false_iff_not] at hcond) | (refine gd_i ?_; intro hg; try simp only [hg]) | refine goCall_W e25 (h25) ?_ ?_ ?_ ?_ | refine goCallG_W e27 (h27) ?_ ?_ ?_ ?_ ?_ | ((first | show @LE.le Nat _ _ _ | show @LT.lt Nat _ _ _ | show @LE.le Int _ _ _ | show @LT.lt Int _ _ _ | show @Eq Nat _ _ | show @Eq Int _ _ | show @Eq Bool _ _ | show _ ∨ _ | show ¬ _); first | omega | (simp only [decide_eq_true_eq, decide_eq_false_iff_not, List.length_cons, List.length_nil, List.length_append, List.length_map, Sh.size] <;> omega) | (go_unwrap; omega)) | ((first | refine PW.region ?_ | refine PW.regionQ ?_ | refine schedW_done_i ?_ | show (_ : Post) _ _ _ | show @Eq (List PV) _ _ | show @Eq Bool _ _ | show opsW _ _ _ _ _ _ _ _ | show okAll _ | show @Eq Bool _ _ ∨ _); focus (simp only [GC, hlen, hOl, hd, hg, hgo, d1, hwp, cut11, cut88, SS, SS2, SS3, SS4, SS5, Option.map_some, Nat.reduceAdd, reduceIte, Nat.reduceEqDiff, Nat.reduceBEq, eq_self, implies_true, ne_eq, beq_self_eq_true, id_eq, reduceCtorEq]; (try go_unwrap; try simp only [GC, hlen, hOl, hd, hg, hgo, d1, hwp, cut11, cut88, RR, reduceCtorEq]))) | refine And.intro ?_ ?_ | exact Or.inr ⟨rfl, Nat.le_refl _⟩ | exact (fun h => Bool.noConfusion h))
      all_goals exact ⟨i + 1, (by rw [hst]; exact (by first | rfl | (simp only [trimE, trimM, List.take_succ_cons, List.take_zero, List.take_nil, List.map_cons, List.map_nil, Option.map_some, Option.map_none, MObj.kill, PV.kill, Nat.reduceLeDiff, decide_true, decide_false, dec_true, dec_false, Bool.false_eq_true, if_false, if_true, reduceIte, List.zip_cons_cons, List.zip_nil_left, Nat.le_refl, Nat.zero_le, Nat.not_le, Nat.lt_irrefl]; done) | (simp [trimE, trimM, MObj.kill, PV.kill]; done))), (by rw [hst]; exact (by first | rfl | (simp only [trimE, trimM, List.take_succ_cons, List.take_zero, List.take_nil, List.map_cons, List.map_nil, Option.map_some, Option.map_none, MObj.kill, PV.kill, Nat.reduceLeDiff, decide_true, decide_false, dec_true, dec_false, Bool.false_eq_true, if_false, if_true, reduceIte, List.zip_cons_cons, List.zip_nil_left, Nat.le_refl, Nat.zero_le, Nat.not_le, Nat.lt_irrefl]; done) | (simp [trimE, trimM, MObj.kill, PV.kill]; done))), by omega, by omega⟩
    · rw [if_neg hp] at hst
      obtain ⟨g1, g2, g3⟩ := ho2 (by omega)
      have d1 : decide (0 ≤ plcM O f.id) = false := by simpa using hp
      have h14 := v14g O g1 f g3 (by omega) (v26s O f g2)
      generalize plcM O f.id = pl at h25 d1
      have d0 : decide ((0 : Int) = 0) = true := rfl
      repeat' (first | exact True.intro | (refine PW.seqK ?_; intro K hK) | refine PW.block ?_ | refine PW.scope ?_ | refine PW.label ?_ | refine PW.exit ?_ | refine PW.ret ?_ | refine PW.skip ?_ | refine seqK_n (by assumption) ?_ | refine seqK_r (by assumption) ?_ | refine seqK_e (by assumption) ?_ | refine PW.regionA ?_ | exact schedW_stop_i | refine schK_n (by assumption) ?_ | (refine schedW_alt_k ?_ ?_; focus (intro K hK; simp only [GC, hlen, hd, hg, d0, d1, cut11, cut88, SS, SS2, SS3, SS4, SS5, Option.map_some, Nat.reduceAdd, reduceIte, Nat.reduceEqDiff, Nat.reduceBEq, eq_self, implies_true, ne_eq, beq_self_eq_true, id_eq, reduceCtorEq]; (try go_unwrap; try simp only [GC, hlen, hd, hg, d0, d1, cut11, cut88, RR, reduceCtorEq]))) | (refine PW.cond rfl ?_ ?_ <;> intro hcond <;> (try contradiction) <;> try simp only [decide_eq_true_eq, decide_eq_false_iff_not] at hcond) | (refine goCallG_skip rfl ?_; simp only [GC, hlen, hd, hg, d0, d1, cut11, cut88, SS, SS2, SS3, SS4, SS5, Option.map_some, Nat.reduceAdd, reduceIte, Nat.reduceEqDiff, Nat.reduceBEq, eq_self, implies_true, ne_eq, beq_self_eq_true, id_eq, reduceCtorEq]; (try go_unwrap; try simp only [GC, hlen, hd, hg, d0, d1, cut11, cut88, RR, reduceCtorEq])) | (refine gd_i ?_; intro hg; try simp only [hg]) | refine goCall_W e25 (h25) ?_ ?_ ?_ ?_ | refine goCall_W e14 (h14) ?_ ?_ ?_ ?_ | ((first | show @LE.le Nat _ _ _ | show @LT.lt Nat _ _ _ | show @LE.le Int _ _ _ | show @LT.lt Int _ _ _ | show @Eq Nat _ _ | show @Eq Int _ _ | show @Eq Bool _ _ | show _ ∨ _ | show ¬ _); first | omega | (simp only [decide_eq_true_eq, decide_eq_false_iff_not, List.length_cons, List.length_nil, List.length_append, List.length_map, Sh.size] <;> omega) | (go_unwrap; omega)) | ((first | refine PW.region ?_ | refine PW.regionQ ?_ | refine schedW_done_i ?_ | show (_ : Post) _ _ _ | show @Eq (List PV) _ _ | show @Eq Bool _ _ | show opsW _ _ _ _ _ _ _ _ | show okAll _ | show @Eq Bool _ _ ∨ _); focus (simp only [GC, hlen, hd, hg, d0, d1, cut11, cut88, SS, SS2, SS3, SS4, SS5, Option.map_some, Nat.reduceAdd, reduceIte, Nat.reduceEqDiff, Nat.reduceBEq, eq_self, implies_true, ne_eq, beq_self_eq_true, id_eq, reduceCtorEq]; (try go_unwrap; try simp only [GC, hlen, hd, hg, d0, d1, cut11, cut88, RR, reduceCtorEq]))) | refine And.intro ?_ ?_ | exact Or.inr ⟨rfl, Nat.le_refl _⟩ | exact (fun h => Bool.noConfusion h))
      all_goals exact ⟨i + 1, (by rw [hst]; exact (by first | rfl | (simp only [trimE, trimM, List.take_succ_cons, List.take_zero, List.take_nil, List.map_cons, List.map_nil, Option.map_some, Option.map_none, MObj.kill, PV.kill, Nat.reduceLeDiff, decide_true, decide_false, dec_true, dec_false, Bool.false_eq_true, if_false, if_true, reduceIte, List.zip_cons_cons, List.zip_nil_left, Nat.le_refl, Nat.zero_le, Nat.not_le, Nat.lt_irrefl]; done) | (simp [trimE, trimM, MObj.kill, PV.kill]; done))), (by rw [hst]; exact (by first | rfl | (simp only [trimE, trimM, List.take_succ_cons, List.take_zero, List.take_nil, List.map_cons, List.map_nil, Option.map_some, Option.map_none, MObj.kill, PV.kill, Nat.reduceLeDiff, decide_true, decide_false, dec_true, dec_false, Bool.false_eq_true, if_false, if_true, reduceIte, List.zip_cons_cons, List.zip_nil_left, Nat.le_refl, Nat.zero_le, Nat.not_le, Nat.lt_irrefl]; done) | (simp [trimE, trimM, MObj.kill, PV.kill]; done))), by omega, by omega⟩
  · have hd : decide ((i : Int) < fs.length) = false := by simp only [decide_eq_false_iff_not]; omega
    have hi' : i = fs.length := by omega
    subst hi'
    repeat' (first | exact True.intro | (refine PW.seqK ?_; intro K hK) | refine PW.block ?_ | refine PW.scope ?_ | refine PW.label ?_ | refine PW.exit ?_ | refine PW.ret ?_ | refine PW.skip ?_ | refine seqK_n (by assumption) ?_ | refine seqK_r (by assumption) ?_ | refine seqK_e (by assumption) ?_ | refine PW.regionA ?_ | exact schedW_stop_i | refine schK_n (by assumption) ?_ | (refine schedW_alt_k ?_ ?_; focus (intro K hK; simp only [hlen, hd, cut11, SS, SS2, SS3, SS4, SS5, Option.map_some, Nat.reduceAdd, reduceIte, Nat.reduceEqDiff, Nat.reduceBEq, eq_self, implies_true, ne_eq, beq_self_eq_true, id_eq, reduceCtorEq]; (try go_unwrap; try simp only [hlen, hd, cut11, RR, reduceCtorEq]))) | (refine PW.cond rfl ?_ ?_ <;> intro hcond <;> (try contradiction) <;> try simp only [decide_eq_true_eq, decide_eq_false_iff_not] at hcond) | (refine gd_i ?_; intro hg; try simp only [hg]) | ((first | show @LE.le Nat _ _ _ | show @LT.lt Nat _ _ _ | show @LE.le Int _ _ _ | show @LT.lt Int _ _ _ | show @Eq Nat _ _ | show @Eq Int _ _ | show @Eq Bool _ _ | show _ ∨ _ | show ¬ _); first | omega | (simp only [decide_eq_true_eq, decide_eq_false_iff_not, List.length_cons, List.length_nil, List.length_append, List.length_map, Sh.size] <;> omega) | (go_unwrap; omega)) | ((first | refine PW.region ?_ | refine PW.regionQ ?_ | refine schedW_done_i ?_ | show (_ : Post) _ _ _ | show @Eq (List PV) _ _ | show @Eq Bool _ _ | show opsW _ _ _ _ _ _ _ _ | show okAll _ | show @Eq Bool _ _ ∨ _); focus (simp only [hlen, hd, cut11, SS, SS2, SS3, SS4, SS5, Option.map_some, Nat.reduceAdd, reduceIte, Nat.reduceEqDiff, Nat.reduceBEq, eq_self, implies_true, ne_eq, beq_self_eq_true, id_eq, reduceCtorEq]; (try go_unwrap; try simp only [hlen, hd, cut11, RR, reduceCtorEq]))) | refine And.intro ?_ ?_ | exact Or.inr ⟨rfl, Nat.le_refl _⟩ | exact (fun h => Bool.noConfusion h))
    all_goals skip
def allK (l : List Fc) : List Kn := thoseN (fun _ => true) l l.length
theorem v18 (l : List Fc) (hl : l.length ≤ 100000) : VCalls Tryz.prog G0 18 [stP l] (knL (allK l)) := by
  refine VCalls.of_PW Tryz.func18 k18 mix (by simp [c18]) ?_
  simp only [c18, L18, argE]
  have hlen := fc_len l
  repeat' (first | exact True.intro | (refine PW.seqK ?_; intro K hK) | refine PW.block ?_ | refine PW.scope ?_ | refine PW.label ?_ | refine PW.exit ?_ | refine PW.ret ?_ | refine PW.skip ?_ | refine seqK_n (by assumption) ?_ | refine seqK_r (by assumption) ?_ | refine seqK_e (by assumption) ?_ | refine PW.regionA ?_ | exact schedW_stop_i | refine schK_n (by assumption) ?_ | (refine schedW_alt_k ?_ ?_; focus (intro K hK; simp only [hlen, SS, SS2, SS3, SS4, SS5, Option.map_some, Nat.reduceAdd, reduceIte, Nat.reduceEqDiff, Nat.reduceBEq, eq_self, implies_true, ne_eq, beq_self_eq_true, id_eq, reduceCtorEq]; (try go_unwrap; try simp only [hlen, RR, reduceCtorEq]))) | (refine PW.cond rfl ?_ ?_ <;> intro hcond <;> (try contradiction) <;> try simp only [decide_eq_true_eq, decide_eq_false_iff_not] at hcond) | (refine gd_i ?_; intro hg; try simp only [hg]) | ((first | show @LE.le Nat _ _ _ | show @LT.lt Nat _ _ _ | show @LE.le Int _ _ _ | show @LT.lt Int _ _ _ | show @Eq Nat _ _ | show @Eq Int _ _ | show @Eq Bool _ _ | show _ ∨ _ | show ¬ _); first | omega | (simp only [decide_eq_true_eq, decide_eq_false_iff_not, List.length_cons, List.length_nil, List.length_append, List.length_map, Sh.size] <;> omega) | (go_unwrap; omega)) | ((first | refine PW.region ?_ | refine PW.regionQ ?_ | refine schedW_done_i ?_ | show (_ : Post) _ _ _ | show @Eq (List PV) _ _ | show @Eq Bool _ _ | show opsW _ _ _ _ _ _ _ _ | show okAll _ | show @Eq Bool _ _ ∨ _); focus (simp only [hlen, SS, SS2, SS3, SS4, SS5, Option.map_some, Nat.reduceAdd, reduceIte, Nat.reduceEqDiff, Nat.reduceBEq, eq_self, implies_true, ne_eq, beq_self_eq_true, id_eq, reduceCtorEq]; (try go_unwrap; try simp only [hlen, RR, reduceCtorEq]))) | refine And.intro ?_ ?_ | exact Or.inr ⟨rfl, Nat.le_refl _⟩ | exact (fun h => Bool.noConfusion h))
  refine PW.own (some 9) 3 rfl ?_
  refine PW.loopG (σ := Nat) 2 (fun _ _ => rfl) [3, 7, 8, 9] (fun i => [.sl (some 9) 1 (thoseN (fun _ => true) l i).length, fcL l, .int .i64 l.length, .int .i64 i]) (fun i => [some (.var (some 1) (stP l)), some (.row (some 9) ((thoseN (fun _ => true) l i).map knP))]) (fun i => i ≤ l.length) (fun i => l.length - i) 0 ?_ (by first | rfl | simp [thoseN]) (by omega) ?_
  · simp only [SS, SS2, SS3, SS4, SS5, Option.map_some, Nat.reduceAdd, reduceIte, Nat.reduceEqDiff, Nat.reduceBEq, eq_self, implies_true, ne_eq, beq_self_eq_true, id_eq, reduceCtorEq]; rfl
  rintro i hi
  simp only [List.zip_cons_cons, List.zip_nil_left]
  have hTl := those_len (fun _ => true) l i
  rcases Nat.lt_or_ge i l.length with h | h
  · have hd : decide ((i : Int) < l.length) = true := by simp only [decide_eq_true_eq]; omega
    have hgt := fc_getD l i h
    have hst := those_step (fun _ => true) l h
    simp only [if_true] at hst
    generalize l[i] = f at hgt hst
    generalize thoseN (fun _ => true) l i = T at hst hTl
    have hKl : ((T.map knP).length : Nat) = T.length := by simp
    have htk : (T.map knP).take T.length = T.map knP := List.take_of_length_le (by simp)
    have b1 : (T.length + 1) * 80 ≤ 140737488355328 := by omega
    repeat' (first | exact True.intro | (refine PW.seqK ?_; intro K hK) | refine PW.block ?_ | refine PW.scope ?_ | refine PW.label ?_ | refine PW.exit ?_ | refine PW.ret ?_ | refine PW.skip ?_ | refine seqK_n (by assumption) ?_ | refine seqK_r (by assumption) ?_ | refine seqK_e (by assumption) ?_ | refine PW.regionA ?_ | exact schedW_stop_i | refine schK_n (by assumption) ?_ | (refine schedW_alt_k ?_ ?_; focus (intro K hK; simp only [GC, CF8, hlen, hd, hgt, cut88, hKl, htk, part_8, setA9, SS, SS2, SS3, SS4, SS5, Option.map_some, Nat.reduceAdd, reduceIte, Nat.reduceEqDiff, Nat.reduceBEq, eq_self, implies_true, ne_eq, beq_self_eq_true, id_eq, reduceCtorEq]; (try go_unwrap; try simp only [GC, CF8, hlen, hd, hgt, cut88, hKl, htk, part_8, setA9, RR, reduceCtorEq]))) | (refine PW.cond rfl ?_ ?_ <;> intro hcond <;> (try contradiction) <;> try simp only [decide_eq_true_eq, decide_eq_false_iff_not] at hcond) | (refine gd_i ?_; intro hg; try simp only [hg]) | ((first | show @LE.le Nat _ _ _ | show @LT.lt Nat _ _ _ | show @LE.le Int _ _ _ | show @LT.lt Int _ _ _ | show @Eq Nat _ _ | show @Eq Int _ _ | show @Eq Bool _ _ | show _ ∨ _ | show ¬ _); first | omega | (simp only [decide_eq_true_eq, decide_eq_false_iff_not, List.length_cons, List.length_nil, List.length_append, List.length_map, Sh.size] <;> omega) | (go_unwrap; omega)) | ((first | refine PW.region ?_ | refine PW.regionQ ?_ | refine schedW_done_i ?_ | show (_ : Post) _ _ _ | show @Eq (List PV) _ _ | show @Eq Bool _ _ | show opsW _ _ _ _ _ _ _ _ | show okAll _ | show @Eq Bool _ _ ∨ _); focus (simp only [GC, CF8, hlen, hd, hgt, cut88, hKl, htk, part_8, setA9, SS, SS2, SS3, SS4, SS5, Option.map_some, Nat.reduceAdd, reduceIte, Nat.reduceEqDiff, Nat.reduceBEq, eq_self, implies_true, ne_eq, beq_self_eq_true, id_eq, reduceCtorEq]; (try go_unwrap; try simp only [GC, CF8, hlen, hd, hgt, cut88, hKl, htk, part_8, setA9, RR, reduceCtorEq]))) | refine And.intro ?_ ?_ | exact Or.inr ⟨rfl, Nat.le_refl _⟩ | exact (fun h => Bool.noConfusion h))
    all_goals exact ⟨i + 1, (by rw [hst]; simp only [List.length_append, List.length_cons, List.length_nil]; exact (by first | rfl | (simp only [trimE, trimM, List.take_succ_cons, List.take_zero, List.take_nil, List.map_cons, List.map_nil, Option.map_some, Option.map_none, MObj.kill, PV.kill, Nat.reduceLeDiff, decide_true, decide_false, dec_true, dec_false, Bool.false_eq_true, if_false, if_true, reduceIte, List.zip_cons_cons, List.zip_nil_left, Nat.le_refl, Nat.zero_le, Nat.not_le, Nat.lt_irrefl]; done) | (simp [trimE, trimM, MObj.kill, PV.kill]; done))), (by rw [hst]; simp [trimM, MObj.kill, PV.kill, knP]), by omega, by omega⟩
  · have hd : decide ((i : Int) < l.length) = false := by simp only [decide_eq_false_iff_not]; omega
    have hi' : i = l.length := by omega
    subst hi'
    have hbt : ((thoseN (fun _ => true) l l.length).map knP).take (thoseN (fun _ => true) l l.length).length = (thoseN (fun _ => true) l l.length).map knP := List.take_of_length_le (by simp)
    have hbl : ((thoseN (fun _ => true) l l.length).map knP).length = (thoseN (fun _ => true) l l.length).length := by simp
    repeat' (first | exact True.intro | (refine PW.seqK ?_; intro K hK) | refine PW.block ?_ | refine PW.scope ?_ | refine PW.label ?_ | refine PW.exit ?_ | refine PW.ret ?_ | refine PW.skip ?_ | refine seqK_n (by assumption) ?_ | refine seqK_r (by assumption) ?_ | refine seqK_e (by assumption) ?_ | refine PW.regionA ?_ | exact schedW_stop_i | refine schK_n (by assumption) ?_ | (refine schedW_alt_k ?_ ?_; focus (intro K hK; simp only [hlen, hd, hbt, hbl, Nat.le_refl, SS, SS2, SS3, SS4, SS5, Option.map_some, Nat.reduceAdd, reduceIte, Nat.reduceEqDiff, Nat.reduceBEq, eq_self, implies_true, ne_eq, beq_self_eq_true, id_eq, reduceCtorEq]; (try go_unwrap; try simp only [hlen, hd, hbt, hbl, Nat.le_refl, RR, reduceCtorEq]))) | (refine PW.cond rfl ?_ ?_ <;> intro hcond <;> (try contradiction) <;> try simp only [decide_eq_true_eq, decide_eq_false_iff_not] at hcond) | (refine gd_i ?_; intro hg; try simp only [hg]) | ((first | show @LE.le Nat _ _ _ | show @LT.lt Nat _ _ _ | show @LE.le Int _ _ _ | show @LT.lt Int _ _ _ | show @Eq Nat _ _ | show @Eq Int _ _ | show @Eq Bool _ _ | show _ ∨ _ | show ¬ _); first | omega | (simp only [decide_eq_true_eq, decide_eq_false_iff_not, List.length_cons, List.length_nil, List.length_append, List.length_map, Sh.size] <;> omega) | (go_unwrap; omega)) | ((first | refine PW.region ?_ | refine PW.regionQ ?_ | refine schedW_done_i ?_ | show (_ : Post) _ _ _ | show @Eq (List PV) _ _ | show @Eq Bool _ _ | show opsW _ _ _ _ _ _ _ _ | show okAll _ | show @Eq Bool _ _ ∨ _); focus (simp only [hlen, hd, hbt, hbl, Nat.le_refl, SS, SS2, SS3, SS4, SS5, Option.map_some, Nat.reduceAdd, reduceIte, Nat.reduceEqDiff, Nat.reduceBEq, eq_self, implies_true, ne_eq, beq_self_eq_true, id_eq, reduceCtorEq]; (try go_unwrap; try simp only [hlen, hd, hbt, hbl, Nat.le_refl, RR, reduceCtorEq]))) | refine And.intro ?_ ?_ | exact Or.inr ⟨rfl, Nat.le_refl _⟩ | exact (fun h => Bool.noConfusion h))
    all_goals rfl
theorem those_nil {p : Fc → Bool} {l : List Fc} (h : thoseN p l l.length = []) : ∀ f ∈ l, p f = false := by
  have := those_f p l l.length (Nat.le_refl _)
  rw [h, List.take_length] at this
  intro f hf
  have := (List.filter_eq_nil_iff.1 this.symm) f hf
  simpa using this
theorem v20n (l : List Fc) (hl : l.length ≤ 100000) (hk : ∀ f ∈ l, f.kind = 2) (pp kk : Int) (hno : ∀ f ∈ l, pickF pp kk f = false) :
    VCalls Tryz.prog G0 20 [stP l, .fn 21 [] (capP pp kk)] .nilSl := by
  refine VCalls.of_PW Tryz.func20 k20 mix (by simp [c20]) ?_
  simp only [c20, L20, argE]
  have hlen := fc_len l
  have hg : ∀ f : Fc, VCalls Tryz.prog G0 21 [fcV f, .cptr none (.int .u32 pp) 0, .cptr none (.int .i64 kk) 0] (.bool (pickF pp kk f)) := fun f => v21 f pp kk
  generalize pickF pp kk = p at hg hno
  have h28 := v28 l (by omega) hk
  repeat' (first | exact True.intro | (refine PW.stop (x := .seq (.region false (⟨some 9, none, .rd (.load (some 1)) [.tmp 2]⟩ :: _) _) _) ?_) | (refine PW.seqK ?_; intro K hK) | refine PW.block ?_ | refine PW.scope ?_ | refine PW.label ?_ | refine PW.exit ?_ | refine PW.ret ?_ | refine PW.skip ?_ | refine seqK_n (by assumption) ?_ | refine seqK_r (by assumption) ?_ | refine seqK_e (by assumption) ?_ | refine PW.regionA ?_ | exact schedW_stop_i | refine schK_n (by assumption) ?_ | (refine schedW_alt_k ?_ ?_; focus (intro K hK; simp only [SS, SS2, SS3, SS4, SS5, Option.map_some, Nat.reduceAdd, reduceIte, Nat.reduceEqDiff, Nat.reduceBEq, eq_self, implies_true, ne_eq, beq_self_eq_true, id_eq, reduceCtorEq]; (try go_unwrap; try simp only [RR, reduceCtorEq]))) | (refine PW.cond rfl ?_ ?_ <;> intro hcond <;> (try contradiction) <;> try simp only [decide_eq_true_eq, decide_eq_false_iff_not] at hcond) | (refine gd_i ?_; intro hg; try simp only [hg]) | ((first | show @LE.le Nat _ _ _ | show @LT.lt Nat _ _ _ | show @LE.le Int _ _ _ | show @LT.lt Int _ _ _ | show @Eq Nat _ _ | show @Eq Int _ _ | show @Eq Bool _ _ | show _ ∨ _ | show ¬ _); first | omega | (simp only [decide_eq_true_eq, decide_eq_false_iff_not, List.length_cons, List.length_nil, List.length_append, List.length_map, Sh.size] <;> omega) | (go_unwrap; omega)) | ((first | refine PW.region ?_ | refine PW.regionQ ?_ | refine schedW_done_i ?_ | show (_ : Post) _ _ _ | show @Eq (List PV) _ _ | show @Eq Bool _ _ | show opsW _ _ _ _ _ _ _ _ | show okAll _ | show @Eq Bool _ _ ∨ _); focus (simp only [SS, SS2, SS3, SS4, SS5, Option.map_some, Nat.reduceAdd, reduceIte, Nat.reduceEqDiff, Nat.reduceBEq, eq_self, implies_true, ne_eq, beq_self_eq_true, id_eq, reduceCtorEq]; (try go_unwrap; try simp only [RR, reduceCtorEq]))) | refine And.intro ?_ ?_ | exact Or.inr ⟨rfl, Nat.le_refl _⟩ | exact (fun h => Bool.noConfusion h))
  refine ⟨?_⟩
  refine PW.frzV 2 0 (some 1) _ rfl rfl (fitsS _ rfl) (noS _ (by simp [PV.noOwn])) rfl ?_
  simp only [frzE, frzMem, List.map_cons, List.map_nil, PV.frz, MObj.frz, frzM, frzSl, SS, SS2, SS3, SS4, SS5, Option.map_some, Nat.reduceAdd, reduceIte, Nat.reduceEqDiff, Nat.reduceBEq, eq_self, implies_true, ne_eq, beq_self_eq_true, id_eq, reduceCtorEq]
  repeat' (first | exact True.intro | (refine PW.seqK ?_; intro K hK) | refine PW.block ?_ | refine PW.scope ?_ | refine PW.label ?_ | refine PW.exit ?_ | refine PW.ret ?_ | refine PW.skip ?_ | refine seqK_n (by assumption) ?_ | refine seqK_r (by assumption) ?_ | refine seqK_e (by assumption) ?_ | refine PW.regionA ?_ | exact schedW_stop_i | refine schK_n (by assumption) ?_ | (refine schedW_alt_k ?_ ?_; focus (intro K hK; simp only [GC, hlen, cut11, SS, SS2, SS3, SS4, SS5, Option.map_some, Nat.reduceAdd, reduceIte, Nat.reduceEqDiff, Nat.reduceBEq, eq_self, implies_true, ne_eq, beq_self_eq_true, id_eq, reduceCtorEq]; (try go_unwrap; try simp only [GC, hlen, cut11, RR, reduceCtorEq]))) | (refine PW.cond rfl ?_ ?_ <;> intro hcond <;> (try contradiction) <;> try simp only [decide_eq_true_eq, decide_eq_false_iff_not] at hcond) | (refine gd_i ?_; intro hg; try simp only [hg]) | refine goCall_W e28 (h28) ?_ ?_ ?_ ?_ | ((first | show @LE.le Nat _ _ _ | show @LT.lt Nat _ _ _ | show @LE.le Int _ _ _ | show @LT.lt Int _ _ _ | show @Eq Nat _ _ | show @Eq Int _ _ | show @Eq Bool _ _ | show _ ∨ _ | show ¬ _); first | omega | (simp only [decide_eq_true_eq, decide_eq_false_iff_not, List.length_cons, List.length_nil, List.length_append, List.length_map, Sh.size] <;> omega) | (go_unwrap; omega)) | ((first | refine PW.region ?_ | refine PW.regionQ ?_ | refine schedW_done_i ?_ | show (_ : Post) _ _ _ | show @Eq (List PV) _ _ | show @Eq Bool _ _ | show opsW _ _ _ _ _ _ _ _ | show okAll _ | show @Eq Bool _ _ ∨ _); focus (simp only [GC, hlen, cut11, SS, SS2, SS3, SS4, SS5, Option.map_some, Nat.reduceAdd, reduceIte, Nat.reduceEqDiff, Nat.reduceBEq, eq_self, implies_true, ne_eq, beq_self_eq_true, id_eq, reduceCtorEq]; (try go_unwrap; try simp only [GC, hlen, cut11, RR, reduceCtorEq]))) | refine And.intro ?_ ?_ | exact Or.inr ⟨rfl, Nat.le_refl _⟩ | exact (fun h => Bool.noConfusion h))
  refine PW.loopG (σ := Nat) 1 (fun _ _ => rfl) [1, 5, 6, 12, 13, 14] (fun i => [.fn 21 [] (capP pp kk), .nilSl, .list none (List.replicate l.length (.bool false)), fcL l, .int .i64 l.length, .int .i64 i]) (fun i => [none]) (fun i => i ≤ l.length) (fun i => l.length - i) 0 ?_ (by first | rfl | simp) (by omega) ?_
  · simp only [SS, SS2, SS3, SS4, SS5, Option.map_some, Nat.reduceAdd, reduceIte, Nat.reduceEqDiff, Nat.reduceBEq, eq_self, implies_true, ne_eq, beq_self_eq_true, id_eq, reduceCtorEq]; rfl
  rintro i hi
  simp only [List.zip_cons_cons, List.zip_nil_left]
  rcases Nat.lt_or_ge i l.length with h | h
  · have hd : decide ((i : Int) < l.length) = true := by simp only [decide_eq_true_eq]; omega
    have hgt := fc_getD l i h
    have hgf := hg l[i]
    have hp := hno l[i] (List.getElem_mem h)
    have hgb : (List.replicate l.length (PV.bool false)).getD i PV.junk = .bool false := by simp [List.getD, h]
    have hrl : (List.replicate l.length (PV.bool false)).length = l.length := by simp
    generalize l[i] = f at hgt hgf hp
    rw [hp] at hgf
    repeat' (first | exact True.intro | (refine PW.seqK ?_; intro K hK) | refine PW.block ?_ | refine PW.scope ?_ | refine PW.label ?_ | refine PW.exit ?_ | refine PW.ret ?_ | refine PW.skip ?_ | refine seqK_n (by assumption) ?_ | refine seqK_r (by assumption) ?_ | refine seqK_e (by assumption) ?_ | refine PW.regionA ?_ | exact schedW_stop_i | refine schK_n (by assumption) ?_ | (refine schedW_alt_k ?_ ?_; focus (intro K hK; simp only [GC, CF8, hlen, hd, hgt, hgb, hrl, cut88, setA9, SS, SS2, SS3, SS4, SS5, Option.map_some, Nat.reduceAdd, reduceIte, Nat.reduceEqDiff, Nat.reduceBEq, eq_self, implies_true, ne_eq, beq_self_eq_true, id_eq, reduceCtorEq]; (try go_unwrap; try simp only [GC, CF8, hlen, hd, hgt, hgb, hrl, cut88, setA9, RR, reduceCtorEq]))) | (refine PW.cond rfl ?_ ?_ <;> intro hcond <;> (try contradiction) <;> try simp only [decide_eq_true_eq, decide_eq_false_iff_not] at hcond) | (apply goCallG_Vc e21 (fun h => h); (case hV => (intro hg; simp only [hg, GC, CF8, hlen, hd, hgt, hgb, hrl, cut88, setA9, SS, SS2, SS3, SS4, SS5, Option.map_some, Nat.reduceAdd, reduceIte, Nat.reduceEqDiff, Nat.reduceBEq, eq_self, implies_true, ne_eq, beq_self_eq_true, id_eq, reduceCtorEq]; (try go_unwrap; try simp only [GC, CF8, hlen, hd, hgt, hgb, hrl, cut88, setA9, RR, reduceCtorEq]); exact hgf)); (case hok => (intro hg; first | (simp only [hg, GC, CF8, hlen, hd, hgt, hgb, hrl, cut88, setA9, SS, SS2, SS3, SS4, SS5, Option.map_some, Nat.reduceAdd, reduceIte, Nat.reduceEqDiff, Nat.reduceBEq, eq_self, implies_true, ne_eq, beq_self_eq_true, id_eq, reduceCtorEq]; done) | (simp_all [okAll, PV.okUnder]; done))); (case hs => (intro hg; simp only [hg, GC, CF8, hlen, hd, hgt, hgb, hrl, cut88, setA9, SS, SS2, SS3, SS4, SS5, Option.map_some, Nat.reduceAdd, reduceIte, Nat.reduceEqDiff, Nat.reduceBEq, eq_self, implies_true, ne_eq, beq_self_eq_true, id_eq, reduceCtorEq])); (case hf => first | rfl | simp only [GC, CF8, hlen, hd, hgt, hgb, hrl, cut88, setA9, SS, SS2, SS3, SS4, SS5, Option.map_some, Nat.reduceAdd, reduceIte, Nat.reduceEqDiff, Nat.reduceBEq, eq_self, implies_true, ne_eq, beq_self_eq_true, id_eq, reduceCtorEq]); (simp only [GC, CF8, hlen, hd, hgt, hgb, hrl, cut88, setA9, SS, SS2, SS3, SS4, SS5, Option.map_some, Nat.reduceAdd, reduceIte, Nat.reduceEqDiff, Nat.reduceBEq, eq_self, implies_true, ne_eq, beq_self_eq_true, id_eq, reduceCtorEq]; (try go_unwrap; try simp only [GC, CF8, hlen, hd, hgt, hgb, hrl, cut88, setA9, RR, reduceCtorEq]))) | (refine gd_i ?_; intro hg; try simp only [hg]) | ((first | show @LE.le Nat _ _ _ | show @LT.lt Nat _ _ _ | show @LE.le Int _ _ _ | show @LT.lt Int _ _ _ | show @Eq Nat _ _ | show @Eq Int _ _ | show @Eq Bool _ _ | show _ ∨ _ | show ¬ _); first | omega | (simp only [decide_eq_true_eq, decide_eq_false_iff_not, List.length_cons, List.length_nil, List.length_append, List.length_map, Sh.size] <;> omega) | (go_unwrap; omega)) | ((first | refine PW.region ?_ | refine PW.regionQ ?_ | refine schedW_done_i ?_ | show (_ : Post) _ _ _ | show @Eq (List PV) _ _ | show @Eq Bool _ _ | show opsW _ _ _ _ _ _ _ _ | show okAll _ | show @Eq Bool _ _ ∨ _); focus (simp only [GC, CF8, hlen, hd, hgt, hgb, hrl, cut88, setA9, SS, SS2, SS3, SS4, SS5, Option.map_some, Nat.reduceAdd, reduceIte, Nat.reduceEqDiff, Nat.reduceBEq, eq_self, implies_true, ne_eq, beq_self_eq_true, id_eq, reduceCtorEq]; (try go_unwrap; try simp only [GC, CF8, hlen, hd, hgt, hgb, hrl, cut88, setA9, RR, reduceCtorEq]))) | refine And.intro ?_ ?_ | exact Or.inr ⟨rfl, Nat.le_refl _⟩ | exact (fun h => Bool.noConfusion h))
    all_goals exact ⟨i + 1, (by first | rfl | (simp only [trimE, trimM, List.take_succ_cons, List.take_zero, List.take_nil, List.map_cons, List.map_nil, Option.map_some, Option.map_none, MObj.kill, PV.kill, Nat.reduceLeDiff, decide_true, decide_false, dec_true, dec_false, Bool.false_eq_true, if_false, if_true, reduceIte, List.zip_cons_cons, List.zip_nil_left, Nat.le_refl, Nat.zero_le, Nat.not_le, Nat.lt_irrefl]; done) | (simp [trimE, trimM, MObj.kill, PV.kill]; done)), (by first | rfl | (simp only [trimE, trimM, List.take_succ_cons, List.take_zero, List.take_nil, List.map_cons, List.map_nil, Option.map_some, Option.map_none, MObj.kill, PV.kill, Nat.reduceLeDiff, decide_true, decide_false, dec_true, dec_false, Bool.false_eq_true, if_false, if_true, reduceIte, List.zip_cons_cons, List.zip_nil_left, Nat.le_refl, Nat.zero_le, Nat.not_le, Nat.lt_irrefl]; done) | (simp [trimE, trimM, MObj.kill, PV.kill]; done)), by omega, by omega⟩
  · have hd : decide ((i : Int) < l.length) = false := by simp only [decide_eq_false_iff_not]; omega
    repeat' (first | exact True.intro | (refine PW.seqK ?_; intro K hK) | refine PW.block ?_ | refine PW.scope ?_ | refine PW.label ?_ | refine PW.exit ?_ | refine PW.ret ?_ | refine PW.skip ?_ | refine seqK_n (by assumption) ?_ | refine seqK_r (by assumption) ?_ | refine seqK_e (by assumption) ?_ | refine PW.regionA ?_ | exact schedW_stop_i | refine schK_n (by assumption) ?_ | (refine schedW_alt_k ?_ ?_; focus (intro K hK; simp only [hlen, hd, SS, SS2, SS3, SS4, SS5, Option.map_some, Nat.reduceAdd, reduceIte, Nat.reduceEqDiff, Nat.reduceBEq, eq_self, implies_true, ne_eq, beq_self_eq_true, id_eq, reduceCtorEq]; (try go_unwrap; try simp only [hlen, hd, RR, reduceCtorEq]))) | (refine PW.cond rfl ?_ ?_ <;> intro hcond <;> (try contradiction) <;> try simp only [decide_eq_true_eq, decide_eq_false_iff_not] at hcond) | (refine gd_i ?_; intro hg; try simp only [hg]) | ((first | show @LE.le Nat _ _ _ | show @LT.lt Nat _ _ _ | show @LE.le Int _ _ _ | show @LT.lt Int _ _ _ | show @Eq Nat _ _ | show @Eq Int _ _ | show @Eq Bool _ _ | show _ ∨ _ | show ¬ _); first | omega | (simp only [decide_eq_true_eq, decide_eq_false_iff_not, List.length_cons, List.length_nil, List.length_append, List.length_map, Sh.size] <;> omega) | (go_unwrap; omega)) | ((first | refine PW.region ?_ | refine PW.regionQ ?_ | refine schedW_done_i ?_ | show (_ : Post) _ _ _ | show @Eq (List PV) _ _ | show @Eq Bool _ _ | show opsW _ _ _ _ _ _ _ _ | show okAll _ | show @Eq Bool _ _ ∨ _); focus (simp only [hlen, hd, SS, SS2, SS3, SS4, SS5, Option.map_some, Nat.reduceAdd, reduceIte, Nat.reduceEqDiff, Nat.reduceBEq, eq_self, implies_true, ne_eq, beq_self_eq_true, id_eq, reduceCtorEq]; (try go_unwrap; try simp only [hlen, hd, RR, reduceCtorEq]))) | refine And.intro ?_ ?_ | exact Or.inr ⟨rfl, Nat.le_refl _⟩ | exact (fun h => Bool.noConfusion h))
    all_goals skip
theorem v11n (l : List Fc) (hl : l.length ≤ 100000) (hk : ∀ f ∈ l, f.kind = 2) (pp kk : Int) (hno : ∀ f ∈ l, pickF pp kk f = false) : VCalls Tryz.prog G0 11 [stP l, .int .u32 pp, .int .i64 kk] .nilSl := by
  refine VCalls.of_PW Tryz.func11 k11 mix (by simp [c11]) ?_
  simp only [c11, L11, argE]
  have h20 := v20n l hl hk pp kk hno
  repeat' (first | exact True.intro | (refine PW.stop (x := .seq (.region false (⟨some 7, none, .rd (.load (some 1)) [.tmp 3]⟩ :: _) _) _) ?_) | (refine PW.seqK ?_; intro K hK) | refine PW.block ?_ | refine PW.scope ?_ | refine PW.label ?_ | refine PW.exit ?_ | refine PW.ret ?_ | refine PW.skip ?_ | refine seqK_n (by assumption) ?_ | refine seqK_r (by assumption) ?_ | refine seqK_e (by assumption) ?_ | refine PW.regionA ?_ | exact schedW_stop_i | refine schK_n (by assumption) ?_ | (refine schedW_alt_k ?_ ?_; focus (intro K hK; simp only [SS, SS2, SS3, SS4, SS5, Option.map_some, Nat.reduceAdd, reduceIte, Nat.reduceEqDiff, Nat.reduceBEq, eq_self, implies_true, ne_eq, beq_self_eq_true, id_eq, reduceCtorEq]; (try go_unwrap; try simp only [RR, reduceCtorEq]))) | (refine PW.cond rfl ?_ ?_ <;> intro hcond <;> (try contradiction) <;> try simp only [decide_eq_true_eq, decide_eq_false_iff_not] at hcond) | (refine gd_i ?_; intro hg; try simp only [hg]) | ((first | show @LE.le Nat _ _ _ | show @LT.lt Nat _ _ _ | show @LE.le Int _ _ _ | show @LT.lt Int _ _ _ | show @Eq Nat _ _ | show @Eq Int _ _ | show @Eq Bool _ _ | show _ ∨ _ | show ¬ _); first | omega | (simp only [decide_eq_true_eq, decide_eq_false_iff_not, List.length_cons, List.length_nil, List.length_append, List.length_map, Sh.size] <;> omega) | (go_unwrap; omega)) | ((first | refine PW.region ?_ | refine PW.regionQ ?_ | refine schedW_done_i ?_ | show (_ : Post) _ _ _ | show @Eq (List PV) _ _ | show @Eq Bool _ _ | show opsW _ _ _ _ _ _ _ _ | show okAll _ | show @Eq Bool _ _ ∨ _); focus (simp only [SS, SS2, SS3, SS4, SS5, Option.map_some, Nat.reduceAdd, reduceIte, Nat.reduceEqDiff, Nat.reduceBEq, eq_self, implies_true, ne_eq, beq_self_eq_true, id_eq, reduceCtorEq]; (try go_unwrap; try simp only [RR, reduceCtorEq]))) | refine And.intro ?_ ?_ | exact Or.inr ⟨rfl, Nat.le_refl _⟩ | exact (fun h => Bool.noConfusion h))
  refine ⟨?_⟩
  refine PW.frzV 4 1 none _ rfl rfl (by simp [fits, PV.scalar]) (by intro c hc; simp only [PV.cells, List.mem_cons, List.not_mem_nil, or_false] at hc; subst hc; simp [PV.noOwn]) rfl ?_
  simp only [frzE, frzMem, List.map_cons, List.map_nil, PV.frz, MObj.frz, frzM, frzSl, SS, SS2, SS3, SS4, SS5, Option.map_some, Nat.reduceAdd, reduceIte, Nat.reduceEqDiff, Nat.reduceBEq, eq_self, implies_true, ne_eq, beq_self_eq_true, id_eq, reduceCtorEq]
  refine PW.frzV 5 2 none _ rfl rfl (by simp [fits, PV.scalar]) (by intro c hc; simp only [PV.cells, List.mem_cons, List.not_mem_nil, or_false] at hc; subst hc; simp [PV.noOwn]) rfl ?_
  simp only [frzE, frzMem, List.map_cons, List.map_nil, PV.frz, MObj.frz, frzM, frzSl, SS, SS2, SS3, SS4, SS5, Option.map_some, Nat.reduceAdd, reduceIte, Nat.reduceEqDiff, Nat.reduceBEq, eq_self, implies_true, ne_eq, beq_self_eq_true, id_eq, reduceCtorEq]
  repeat' (first | exact True.intro | (refine PW.seqK ?_; intro K hK) | refine PW.block ?_ | refine PW.scope ?_ | refine PW.label ?_ | refine PW.exit ?_ | refine PW.ret ?_ | refine PW.skip ?_ | refine seqK_n (by assumption) ?_ | refine seqK_r (by assumption) ?_ | refine seqK_e (by assumption) ?_ | refine PW.regionA ?_ | exact schedW_stop_i | refine schK_n (by assumption) ?_ | (refine schedW_alt_k ?_ ?_; focus (intro K hK; simp only [List.take_zero, List.drop_zero, SS, SS2, SS3, SS4, SS5, Option.map_some, Nat.reduceAdd, reduceIte, Nat.reduceEqDiff, Nat.reduceBEq, eq_self, implies_true, ne_eq, beq_self_eq_true, id_eq, reduceCtorEq]; (try go_unwrap; try simp only [List.take_zero, List.drop_zero, RR, reduceCtorEq]))) | (refine PW.cond rfl ?_ ?_ <;> intro hcond <;> (try contradiction) <;> try simp only [decide_eq_true_eq, decide_eq_false_iff_not] at hcond) | (refine gd_i ?_; intro hg; try simp only [hg]) | refine goCall_W e20 (h20) ?_ ?_ ?_ ?_ | ((first | show @LE.le Nat _ _ _ | show @LT.lt Nat _ _ _ | show @LE.le Int _ _ _ | show @LT.lt Int _ _ _ | show @Eq Nat _ _ | show @Eq Int _ _ | show @Eq Bool _ _ | show _ ∨ _ | show ¬ _); first | omega | (simp only [decide_eq_true_eq, decide_eq_false_iff_not, List.length_cons, List.length_nil, List.length_append, List.length_map, Sh.size] <;> omega) | (go_unwrap; omega)) | ((first | refine PW.region ?_ | refine PW.regionQ ?_ | refine schedW_done_i ?_ | show (_ : Post) _ _ _ | show @Eq (List PV) _ _ | show @Eq Bool _ _ | show opsW _ _ _ _ _ _ _ _ | show okAll _ | show @Eq Bool _ _ ∨ _); focus (simp only [List.take_zero, List.drop_zero, SS, SS2, SS3, SS4, SS5, Option.map_some, Nat.reduceAdd, reduceIte, Nat.reduceEqDiff, Nat.reduceBEq, eq_self, implies_true, ne_eq, beq_self_eq_true, id_eq, reduceCtorEq]; (try go_unwrap; try simp only [List.take_zero, List.drop_zero, RR, reduceCtorEq]))) | refine And.intro ?_ ?_ | exact Or.inr ⟨rfl, Nat.le_refl _⟩ | exact (fun h => Bool.noConfusion h))
  all_goals first | rfl | (simp [PV.seen, PV.view]; done) | skip
/-- The line of a person's facts at a day: the walk's two calls in one. -/
theorem v11w (l : List Fc) (hl : l.length ≤ 100000) (hk : ∀ f ∈ l, f.kind = 2) (pp kk : Int) :
    (VCalls Tryz.prog G0 11 [stP l, .int .u32 pp, .int .i64 kk] .nilSl ∧ VCalls Tryz.prog G0 9 [.nilSl] (linP (factsM l pp kk))) ∨
    (VCalls Tryz.prog G0 11 [stP l, .int .u32 pp, .int .i64 kk] (knL (factsM l pp kk)) ∧ VCalls Tryz.prog G0 9 [knL (factsM l pp kk)] (linP (factsM l pp kk))) := by
  have h9 := v9 (factsM l pp kk) (by have := those_len (pickF pp kk) l l.length; unfold factsM; omega)
  by_cases h : factsM l pp kk = []
  · refine .inl ⟨v11n l hl hk pp kk (those_nil h), ?_⟩
    rw [h] at h9 ⊢
    exact h9
  · refine .inr ⟨v11 l hl hk pp kk, ?_⟩
    rw [show knW (factsM l pp kk) = knL (factsM l pp kk) by simp [knW, h]] at h9
    exact h9
def o3_3 : List CO := [⟨some 95, none, .rd (.load (some 5)) [.tmp 14]⟩,
 ⟨some 96, none, .call (.pv (.fn 7 [] [])) [.tmp 95]⟩,
 ⟨some 97, none, .rd (.load (some 5)) [.tmp 16]⟩,
 ⟨some 98, none, .call (.pv (.fn 7 [] [])) [.tmp 97]⟩,
 ⟨some 17, none, .eff (.alloc (some 8) (.agg [(.int .u32 0), (.int .u32 0), (.int .i64 0), (.int .i64 0), (.int .i64 0), (.str []), (.int .i64 0), (.str [])])) []⟩,
 ⟨some 18, none, .eff (.alloc (some 8) (.agg [(.int .u32 0), (.int .u32 0), (.int .i64 0), (.int .i64 0), (.int .i64 0), (.str []), (.int .i64 0), (.str [])])) []⟩,
 ⟨none, none, .eff (.store (some 8)) [.tmp 17, .tmp 96]⟩,
 ⟨none, none, .eff (.store (some 8)) [.tmp 18, .tmp 98]⟩]
def t3_3 : IS := (.alt [0] (.alt [1] (.alt [2] (.alt [3] (.alt [4, 5, 6, 7] .done (.alt [5, 4, 6, 7] .done .stop)) (.alt [4] (.alt [3, 5, 6, 7] .done (.alt [5, 3, 6, 7] .done .stop)) (.alt [5] (.alt [3, 4, 6, 7] .done (.alt [4, 3, 6, 7] .done .stop)) .stop))) (.alt [4] (.alt [2] (.alt [3, 5, 6, 7] .done (.alt [5, 3, 6, 7] .done .stop)) (.alt [5, 2, 3, 6, 7] .done .stop)) (.alt [5] (.alt [2] (.alt [3, 4, 6, 7] .done (.alt [4, 3, 6, 7] .done .stop)) (.alt [4, 2, 3, 6, 7] .done .stop)) .stop))) (.alt [2] (.alt [1] (.alt [3] (.alt [4, 5, 6, 7] .done (.alt [5, 4, 6, 7] .done .stop)) (.alt [4] (.alt [3, 5, 6, 7] .done (.alt [5, 3, 6, 7] .done .stop)) (.alt [5] (.alt [3, 4, 6, 7] .done (.alt [4, 3, 6, 7] .done .stop)) .stop))) (.alt [4] (.alt [1] (.alt [3, 5, 6, 7] .done (.alt [5, 3, 6, 7] .done .stop)) (.alt [5, 1, 3, 6, 7] .done .stop)) (.alt [5] (.alt [1] (.alt [3, 4, 6, 7] .done (.alt [4, 3, 6, 7] .done .stop)) (.alt [4, 1, 3, 6, 7] .done .stop)) .stop))) (.alt [4] (.alt [1] (.alt [2] (.alt [3, 5, 6, 7] .done (.alt [5, 3, 6, 7] .done .stop)) (.alt [5, 2, 3, 6, 7] .done .stop)) (.alt [2] (.alt [1] (.alt [3, 5, 6, 7] .done (.alt [5, 3, 6, 7] .done .stop)) (.alt [5, 1, 3, 6, 7] .done .stop)) (.alt [5] (.alt [1, 2, 3, 6, 7] .done (.alt [2, 1, 3, 6, 7] .done .stop)) .stop))) (.alt [5] (.alt [1] (.alt [2] (.alt [3, 4, 6, 7] .done (.alt [4, 3, 6, 7] .done .stop)) (.alt [4, 2, 3, 6, 7] .done .stop)) (.alt [2] (.alt [1] (.alt [3, 4, 6, 7] .done (.alt [4, 3, 6, 7] .done .stop)) (.alt [4, 1, 3, 6, 7] .done .stop)) (.alt [4] (.alt [1, 2, 3, 6, 7] .done (.alt [2, 1, 3, 6, 7] .done .stop)) .stop))) .stop)))) (.alt [2] (.alt [0] (.alt [1] (.alt [3] (.alt [4, 5, 6, 7] .done (.alt [5, 4, 6, 7] .done .stop)) (.alt [4] (.alt [3, 5, 6, 7] .done (.alt [5, 3, 6, 7] .done .stop)) (.alt [5] (.alt [3, 4, 6, 7] .done (.alt [4, 3, 6, 7] .done .stop)) .stop))) (.alt [4] (.alt [1] (.alt [3, 5, 6, 7] .done (.alt [5, 3, 6, 7] .done .stop)) (.alt [5, 1, 3, 6, 7] .done .stop)) (.alt [5] (.alt [1] (.alt [3, 4, 6, 7] .done (.alt [4, 3, 6, 7] .done .stop)) (.alt [4, 1, 3, 6, 7] .done .stop)) .stop))) (.alt [4] (.alt [0] (.alt [1] (.alt [3, 5, 6, 7] .done (.alt [5, 3, 6, 7] .done .stop)) (.alt [5, 1, 3, 6, 7] .done .stop)) (.alt [5, 0, 1, 3, 6, 7] .done .stop)) (.alt [5] (.alt [0] (.alt [1] (.alt [3, 4, 6, 7] .done (.alt [4, 3, 6, 7] .done .stop)) (.alt [4, 1, 3, 6, 7] .done .stop)) (.alt [4, 0, 1, 3, 6, 7] .done .stop)) .stop))) (.alt [4] (.alt [0] (.alt [1] (.alt [2] (.alt [3, 5, 6, 7] .done (.alt [5, 3, 6, 7] .done .stop)) (.alt [5, 2, 3, 6, 7] .done .stop)) (.alt [2] (.alt [1] (.alt [3, 5, 6, 7] .done (.alt [5, 3, 6, 7] .done .stop)) (.alt [5, 1, 3, 6, 7] .done .stop)) (.alt [5] (.alt [1, 2, 3, 6, 7] .done (.alt [2, 1, 3, 6, 7] .done .stop)) .stop))) (.alt [2] (.alt [0] (.alt [1] (.alt [3, 5, 6, 7] .done (.alt [5, 3, 6, 7] .done .stop)) (.alt [5, 1, 3, 6, 7] .done .stop)) (.alt [5, 0, 1, 3, 6, 7] .done .stop)) (.alt [5] (.alt [0] (.alt [1, 2, 3, 6, 7] .done (.alt [2, 1, 3, 6, 7] .done .stop)) (.alt [2, 0, 1, 3, 6, 7] .done .stop)) .stop))) (.alt [5] (.alt [0] (.alt [1] (.alt [2] (.alt [3, 4, 6, 7] .done (.alt [4, 3, 6, 7] .done .stop)) (.alt [4, 2, 3, 6, 7] .done .stop)) (.alt [2] (.alt [1] (.alt [3, 4, 6, 7] .done (.alt [4, 3, 6, 7] .done .stop)) (.alt [4, 1, 3, 6, 7] .done .stop)) (.alt [4] (.alt [1, 2, 3, 6, 7] .done (.alt [2, 1, 3, 6, 7] .done .stop)) .stop))) (.alt [2] (.alt [0] (.alt [1] (.alt [3, 4, 6, 7] .done (.alt [4, 3, 6, 7] .done .stop)) (.alt [4, 1, 3, 6, 7] .done .stop)) (.alt [4, 0, 1, 3, 6, 7] .done .stop)) (.alt [4] (.alt [0] (.alt [1, 2, 3, 6, 7] .done (.alt [2, 1, 3, 6, 7] .done .stop)) (.alt [2, 0, 1, 3, 6, 7] .done .stop)) .stop))) .stop))))
def c3e : CF := ⟨232,
 .seq (.region false [⟨some 6, none, .rd .mov [.pv (.bool false)]⟩] L3d)
 (.seq (.seq (.region false [⟨some 33, none, .call (.pv (.fn 6 [] [])) []⟩,
 ⟨some 34, none, .rd (.un .not) [.tmp 33]⟩] L3d)
 (.cond (.tmp 34)
 (.seq (.region false [⟨some 6, none, .rd .mov [.pv (.bool false)]⟩] L3d)
 (.ret))
 (.skip)))
 (.seq (.seq (.region false [⟨some 35, none, .rd .mov [.tmp 0]⟩,
 ⟨some 36, none, .rd .lenL [.tmp 35]⟩,
 ⟨some 37, none, .rd (.bin .gtr) [.tmp 36, .pv (.int .i64 30)]⟩,
 ⟨some 38, none, .rd .mov [.tmp 37]⟩,
 ⟨some 39, some (38, false), .rd .mov [.tmp 1]⟩,
 ⟨some 40, some (38, false), .rd .lenL [.tmp 39]⟩,
 ⟨some 41, some (38, false), .rd (.bin .gtr) [.tmp 40, .pv (.int .i64 60)]⟩,
 ⟨some 42, none, .rd .pick [.tmp 38, .pv (.bool true), .tmp 41]⟩] L3d)
 (.cond (.tmp 42)
 (.seq (.region false [⟨some 6, none, .rd .mov [.pv (.bool true)]⟩] L3d)
 (.ret))
 (.skip)))
 (.seq (.region false [⟨some 43, none, .eff (.lit (some 5) true) []⟩,
 ⟨some 44, none, .rd .mov [.tmp 0]⟩,
 ⟨some 45, none, .eff (.append (some 5) 16) [.tmp 43, .tmp 44]⟩,
 ⟨some 7, none, .rd .mov [.tmp 45]⟩] L3d)
 (.seq (.seq (.region false [⟨some 46, none, .rd .mov [.tmp 1]⟩,
 ⟨some 47, none, .rd .lenL [.tmp 46]⟩,
 ⟨some 48, none, .rd .mov [.pv (.int .i64 0)]⟩] L3d)
 (.block 0
 (.loop
 (.seq (.region false [⟨some 49, none, .rd (.bin .lss) [.tmp 48, .tmp 47]⟩] L3d)
 (.seq (.cond (.tmp 49)
 (.skip)
 (.exit 0))
 (.seq (.block 1
 (.seq (.region false [⟨some 50, none, .rd .mov [.tmp 48]⟩,
 ⟨some 51, none, .rd (.idxAddr none) [.tmp 46, .tmp 48]⟩,
 ⟨some 52, none, .rd (.load none) [.tmp 51]⟩,
 ⟨some 8, none, .rd .mov [.tmp 50]⟩,
 ⟨some 9, none, .rd .mov [.tmp 52]⟩] L3d)
 (.seq (.region false [⟨some 53, none, .rd .mov [.tmp 0]⟩,
 ⟨some 54, none, .rd .lenL [.tmp 53]⟩,
 ⟨some 55, none, .rd (.bin .gtr) [.tmp 54, .pv (.int .i64 0)]⟩] L3d)
 (.cond (.tmp 55)
 (.seq (.regionA (.alt [⟨some 56, none, .rd .mov [.tmp 8]⟩,
 ⟨some 57, none, .rd .mov [.tmp 0]⟩,
 ⟨some 58, none, .rd .lenL [.tmp 57]⟩,
 ⟨some 59, none, .rd (.bin .rem) [.tmp 56, .tmp 58]⟩,
 ⟨some 60, none, .rd .mov [.tmp 9]⟩,
 ⟨some 61, none, .rd (.conv .i64) [.tmp 60]⟩,
 ⟨some 62, none, .rd .mov [.tmp 0]⟩,
 ⟨some 63, none, .rd .lenL [.tmp 62]⟩,
 ⟨some 64, none, .rd (.bin .rem) [.tmp 61, .tmp 63]⟩,
 ⟨some 10, none, .rd .mov [.tmp 59]⟩,
 ⟨some 11, none, .rd .mov [.tmp 64]⟩]
 .done
 .stop) L3d)
 (.regionA (.alt [⟨some 65, none, .rd .mov [.tmp 7]⟩,
 ⟨some 66, none, .rd .mov [.tmp 10]⟩,
 ⟨some 67, none, .rd .mov [.tmp 7]⟩,
 ⟨some 68, none, .rd .mov [.tmp 11]⟩,
 ⟨some 69, none, .rd .mov [.tmp 7]⟩,
 ⟨some 70, none, .rd .mov [.tmp 11]⟩,
 ⟨some 71, none, .rd (.idxAddr (some 5)) [.tmp 69, .tmp 70]⟩,
 ⟨some 73, none, .rd .mov [.tmp 7]⟩,
 ⟨some 74, none, .rd .mov [.tmp 10]⟩,
 ⟨some 75, none, .rd (.idxAddr (some 5)) [.tmp 73, .tmp 74]⟩]
 (.alt [⟨some 72, none, .rd (.load (some 5)) [.tmp 71]⟩,
 ⟨some 76, none, .rd (.load (some 5)) [.tmp 75]⟩,
 ⟨some 77, none, .rd (.idxAddr (some 5)) [.tmp 65, .tmp 66]⟩,
 ⟨none, none, .eff (.store (some 5)) [.tmp 77, .tmp 72]⟩,
 ⟨some 78, none, .rd (.idxAddr (some 5)) [.tmp 67, .tmp 68]⟩,
 ⟨none, none, .eff (.store (some 5)) [.tmp 78, .tmp 76]⟩]
 .done
 (.alt [⟨some 76, none, .rd (.load (some 5)) [.tmp 75]⟩,
 ⟨some 72, none, .rd (.load (some 5)) [.tmp 71]⟩,
 ⟨some 77, none, .rd (.idxAddr (some 5)) [.tmp 65, .tmp 66]⟩,
 ⟨none, none, .eff (.store (some 5)) [.tmp 77, .tmp 72]⟩,
 ⟨some 78, none, .rd (.idxAddr (some 5)) [.tmp 67, .tmp 68]⟩,
 ⟨none, none, .eff (.store (some 5)) [.tmp 78, .tmp 76]⟩]
 .done
 .stop))
 .stop) L3d))
 (.skip)))))
 (.region false [⟨some 79, none, .rd (.bin .add) [.tmp 48, .pv (.int .i64 1)]⟩,
 ⟨some 48, none, .rd .mov [.tmp 79]⟩] L3d)))))))
 (.seq (.region false [⟨some 12, none, .rd .mov [.pv (.bool true)]⟩] L3d)
 (.seq (.seq (.region false [⟨some 80, none, .rd .mov [.tmp 0]⟩,
 ⟨some 81, none, .rd .lenL [.tmp 80]⟩,
 ⟨some 82, none, .rd .mov [.pv (.int .i64 0)]⟩] L3d)
 (.block 2
 (.loop
 (.seq (.region false [⟨some 83, none, .rd (.bin .lss) [.tmp 82, .tmp 81]⟩] L3d)
 (.seq (.cond (.tmp 83)
 (.skip)
 (.exit 2))
 (.seq (.block 3
 (.seq (.region false [⟨some 84, none, .rd .mov [.tmp 82]⟩,
 ⟨some 85, none, .rd (.idxAddr (some 5)) [.tmp 80, .tmp 82]⟩,
 ⟨some 86, none, .rd (.load (some 5)) [.tmp 85]⟩,
 ⟨some 14, none, .eff (.alloc (some 5) (.agg [(.int .u8 0), (.int .u32 0), (.int .u16 0), (.int .u16 0), (.int .u16 0)])) []⟩,
 ⟨some 13, none, .rd .mov [.tmp 84]⟩,
 ⟨none, none, .eff (.store (some 5)) [.tmp 14, .tmp 86]⟩] L3d)
 (.seq (.region false [⟨some 87, none, .rd .mov [.tmp 0]⟩,
 ⟨some 88, none, .rd .mov [.tmp 13]⟩,
 ⟨some 89, none, .rd (.slc (some 5) false true false) [.tmp 87, .tmp 88]⟩,
 ⟨some 90, none, .rd .lenL [.tmp 89]⟩,
 ⟨some 91, none, .rd .mov [.pv (.int .i64 0)]⟩] L3d)
 (.block 4
 (.loop
 (.seq (.region false [⟨some 92, none, .rd (.bin .lss) [.tmp 91, .tmp 90]⟩] L3d)
 (.seq (.cond (.tmp 92)
 (.skip)
 (.exit 4))
 (.seq (.block 5
 (.seq (.region false [⟨some 93, none, .rd (.idxAddr (some 5)) [.tmp 89, .tmp 91]⟩,
 ⟨some 94, none, .rd (.load (some 5)) [.tmp 93]⟩,
 ⟨some 16, none, .eff (.alloc (some 5) (.agg [(.int .u8 0), (.int .u32 0), (.int .u16 0), (.int .u16 0), (.int .u16 0)])) []⟩,
 ⟨none, none, .eff (.store (some 5)) [.tmp 16, .tmp 94]⟩] L3d)
 (.seq (.regionA (IS.toS o3_3 t3_3) L3d)
 (.seq (.region false [⟨some 99, none, .rd (.fldAddr 1) [.tmp 17]⟩,
 ⟨some 100, none, .rd (.load none) [.tmp 99]⟩,
 ⟨some 101, none, .rd (.fldAddr 1) [.tmp 18]⟩,
 ⟨some 102, none, .rd (.load none) [.tmp 101]⟩,
 ⟨some 103, none, .rd (.bin .eql) [.tmp 100, .tmp 102]⟩,
 ⟨some 104, none, .rd .mov [.tmp 103]⟩,
 ⟨some 105, some (104, true), .rd (.fldAddr 4) [.tmp 17]⟩,
 ⟨some 106, some (104, true), .rd (.load none) [.tmp 105]⟩,
 ⟨some 107, some (104, true), .rd (.bin .eql) [.tmp 106, .pv (.int .i64 0)]⟩,
 ⟨some 108, some (104, true), .rd .mov [.tmp 107]⟩,
 ⟨some 109, some (108, false), .rd (.fldAddr 4) [.tmp 17]⟩,
 ⟨some 110, some (108, false), .rd (.load none) [.tmp 109]⟩,
 ⟨some 111, some (108, false), .rd (.fldAddr 3) [.tmp 18]⟩,
 ⟨some 112, some (108, false), .rd (.load none) [.tmp 111]⟩,
 ⟨some 113, some (108, false), .rd (.bin .gtr) [.tmp 110, .tmp 112]⟩,
 ⟨some 114, some (104, true), .rd .pick [.tmp 108, .pv (.bool true), .tmp 113]⟩,
 ⟨some 115, none, .rd .pick [.tmp 104, .tmp 114, .pv (.bool false)]⟩,
 ⟨some 116, none, .rd .mov [.tmp 115]⟩,
 ⟨some 117, some (116, true), .rd (.fldAddr 4) [.tmp 18]⟩,
 ⟨some 118, some (116, true), .rd (.load none) [.tmp 117]⟩,
 ⟨some 119, some (116, true), .rd (.bin .eql) [.tmp 118, .pv (.int .i64 0)]⟩,
 ⟨some 120, some (116, true), .rd .mov [.tmp 119]⟩,
 ⟨some 121, some (120, false), .rd (.fldAddr 4) [.tmp 18]⟩,
 ⟨some 122, some (120, false), .rd (.load none) [.tmp 121]⟩,
 ⟨some 123, some (120, false), .rd (.fldAddr 3) [.tmp 17]⟩,
 ⟨some 124, some (120, false), .rd (.load none) [.tmp 123]⟩,
 ⟨some 125, some (120, false), .rd (.bin .gtr) [.tmp 122, .tmp 124]⟩,
 ⟨some 126, some (116, true), .rd .pick [.tmp 120, .pv (.bool true), .tmp 125]⟩,
 ⟨some 127, none, .rd .pick [.tmp 116, .tmp 126, .pv (.bool false)]⟩] L3d)
 (.cond (.tmp 127)
 (.region false [⟨some 12, none, .rd .mov [.pv (.bool false)]⟩] L3d)
 (.skip))))))
 (.region false [⟨some 128, none, .rd (.bin .add) [.tmp 91, .pv (.int .i64 1)]⟩,
 ⟨some 91, none, .rd .mov [.tmp 128]⟩] L3d)))))))))
 (.region false [⟨some 129, none, .rd (.bin .add) [.tmp 82, .pv (.int .i64 1)]⟩,
 ⟨some 82, none, .rd .mov [.tmp 129]⟩] L3d)))))))
 (.seq (.region false [⟨some 131, none, .rd .mov [.tmp 0]⟩,
 ⟨some 132, none, .call (.pv (.fn 8 [] [])) [.tmp 131]⟩,
 ⟨some 130, none, .rd .mov [.tmp 132]⟩,
 ⟨some 133, none, .rd (.ext 0) [.tmp 130]⟩,
 ⟨some 134, none, .rd (.ext 1) [.tmp 130]⟩,
 ⟨some 19, none, .eff (.alloc (some 1) (.agg [.nilSl])) []⟩,
 ⟨none, none, .eff (.store (some 1)) [.tmp 19, .tmp 133]⟩,
 ⟨some 20, none, .rd .mov [.tmp 134]⟩] L3d)
 (.seq (.region false [⟨some 136, none, .rd .mov [.tmp 7]⟩,
 ⟨some 137, none, .call (.pv (.fn 8 [] [])) [.tmp 136]⟩,
 ⟨some 135, none, .rd .mov [.tmp 137]⟩,
 ⟨some 138, none, .rd (.ext 0) [.tmp 135]⟩,
 ⟨some 139, none, .rd (.ext 1) [.tmp 135]⟩,
 ⟨some 21, none, .eff (.alloc (some 1) (.agg [.nilSl])) []⟩,
 ⟨none, none, .eff (.store (some 1)) [.tmp 21, .tmp 138]⟩,
 ⟨some 22, none, .rd .mov [.tmp 139]⟩] L3d)
 (.seq (.seq (.region false [⟨some 140, none, .rd .mov [.tmp 20]⟩,
 ⟨some 141, none, .rd (.un .not) [.tmp 140]⟩,
 ⟨some 142, none, .rd .mov [.tmp 141]⟩,
 ⟨some 143, some (142, false), .rd .mov [.tmp 22]⟩,
 ⟨some 144, some (142, false), .rd (.un .not) [.tmp 143]⟩,
 ⟨some 145, none, .rd .pick [.tmp 142, .pv (.bool true), .tmp 144]⟩] L3d)
 (.cond (.tmp 145)
 (.seq (.region false [⟨some 6, none, .rd .mov [.pv (.bool false)]⟩] L3d)
 (.ret))
 (.skip)))
 (.seq (.seq (.region false [⟨some 146, none, .rd .mov [.pv (.int .u32 0)]⟩] L3d)
 (.block 6
 (.loop
 (.seq (.region false [⟨some 147, none, .rd (.bin .lss) [.tmp 146, .pv (.int .u32 257)]⟩] L3d)
 (.seq (.cond (.tmp 147)
 (.skip)
 (.exit 6))
 (.seq (.block 7
 (.seq (.region false [⟨some 148, none, .rd .mov [.tmp 146]⟩,
 ⟨some 23, none, .rd .mov [.tmp 148]⟩] L3d)
 (.seq (.region false [⟨some 150, none, .rd (.load (some 1)) [.tmp 19]⟩,
 ⟨some 151, none, .rd .mov [.tmp 0]⟩,
 ⟨some 152, none, .rd .lenL [.tmp 151]⟩,
 ⟨some 153, none, .call (.pv (.fn 10 [] [])) [.tmp 150, .tmp 152]⟩,
 ⟨some 154, none, .rd .mov [.tmp 23]⟩,
 ⟨some 155, none, .call (.pv (.fn 11 [] [])) [.tmp 153, .tmp 154, .pv (.int .i64 2)]⟩,
 ⟨some 156, none, .call (.pv (.fn 9 [] [])) [.tmp 155]⟩,
 ⟨some 157, none, .rd .mov [.tmp 2]⟩,
 ⟨some 158, none, .rd (.conv .i64) [.tmp 157]⟩,
 ⟨some 159, none, .call (.pv (.fn 12 [] [])) [.tmp 156, .tmp 158]⟩,
 ⟨some 149, none, .rd .mov [.tmp 159]⟩,
 ⟨some 160, none, .rd (.ext 0) [.tmp 149]⟩,
 ⟨some 161, none, .rd (.ext 1) [.tmp 149]⟩,
 ⟨some 24, none, .eff (.alloc (some 3) (.agg [(.int .i64 0), (.int .i64 0), (.str [])])) []⟩,
 ⟨none, none, .eff (.store (some 3)) [.tmp 24, .tmp 160]⟩,
 ⟨some 25, none, .rd .mov [.tmp 161]⟩] L3d)
 (.seq (.region false [⟨some 163, none, .rd (.load (some 1)) [.tmp 21]⟩,
 ⟨some 164, none, .rd .mov [.tmp 0]⟩,
 ⟨some 165, none, .rd .lenL [.tmp 164]⟩,
 ⟨some 166, none, .call (.pv (.fn 10 [] [])) [.tmp 163, .tmp 165]⟩,
 ⟨some 167, none, .rd .mov [.tmp 23]⟩,
 ⟨some 168, none, .call (.pv (.fn 11 [] [])) [.tmp 166, .tmp 167, .pv (.int .i64 2)]⟩,
 ⟨some 169, none, .call (.pv (.fn 9 [] [])) [.tmp 168]⟩,
 ⟨some 170, none, .rd .mov [.tmp 2]⟩,
 ⟨some 171, none, .rd (.conv .i64) [.tmp 170]⟩,
 ⟨some 172, none, .call (.pv (.fn 12 [] [])) [.tmp 169, .tmp 171]⟩,
 ⟨some 162, none, .rd .mov [.tmp 172]⟩,
 ⟨some 173, none, .rd (.ext 0) [.tmp 162]⟩,
 ⟨some 174, none, .rd (.ext 1) [.tmp 162]⟩,
 ⟨some 26, none, .eff (.alloc (some 3) (.agg [(.int .i64 0), (.int .i64 0), (.str [])])) []⟩,
 ⟨none, none, .eff (.store (some 3)) [.tmp 26, .tmp 173]⟩,
 ⟨some 27, none, .rd .mov [.tmp 174]⟩] L3d)
 (.seq (.seq (.region false [⟨some 175, none, .rd .mov [.tmp 12]⟩,
 ⟨some 176, none, .rd .mov [.tmp 175]⟩,
 ⟨some 177, some (176, true), .rd .mov [.tmp 25]⟩,
 ⟨some 178, some (176, true), .rd .mov [.tmp 27]⟩,
 ⟨some 179, some (176, true), .rd (.eqB true) [.tmp 177, .tmp 178]⟩,
 ⟨some 180, some (176, true), .rd .mov [.tmp 179]⟩,
 ⟨some 181, some (180, false), .rd (.fldAddr 1) [.tmp 24]⟩,
 ⟨some 182, some (180, false), .rd (.load none) [.tmp 181]⟩,
 ⟨some 183, some (180, false), .rd (.fldAddr 1) [.tmp 26]⟩,
 ⟨some 184, some (180, false), .rd (.load none) [.tmp 183]⟩,
 ⟨some 185, some (180, false), .rd (.bin .neq) [.tmp 182, .tmp 184]⟩,
 ⟨some 186, some (176, true), .rd .pick [.tmp 180, .pv (.bool true), .tmp 185]⟩,
 ⟨some 187, none, .rd .pick [.tmp 176, .tmp 186, .pv (.bool false)]⟩] L3d)
 (.cond (.tmp 187)
 (.seq (.region false [⟨some 6, none, .rd .mov [.pv (.bool false)]⟩] L3d)
 (.ret))
 (.skip)))
 (.seq (.region false [⟨some 28, none, .rd .mov [.pv (.int .i64 0)]⟩,
 ⟨some 29, none, .rd .mov [.pv (.bool false)]⟩] L3d)
 (.seq (.seq (.region false [⟨some 188, none, .rd .mov [.tmp 0]⟩,
 ⟨some 189, none, .rd .lenL [.tmp 188]⟩,
 ⟨some 190, none, .rd .mov [.pv (.int .i64 0)]⟩] L3d)
 (.block 8
 (.loop
 (.seq (.region false [⟨some 191, none, .rd (.bin .lss) [.tmp 190, .tmp 189]⟩] L3d)
 (.seq (.cond (.tmp 191)
 (.skip)
 (.exit 8))
 (.seq (.block 9
 (.seq (.region false [⟨some 192, none, .rd (.idxAddr (some 5)) [.tmp 188, .tmp 190]⟩,
 ⟨some 193, none, .rd (.load (some 5)) [.tmp 192]⟩,
 ⟨some 31, none, .eff (.alloc (some 5) (.agg [(.int .u8 0), (.int .u32 0), (.int .u16 0), (.int .u16 0), (.int .u16 0)])) []⟩,
 ⟨none, none, .eff (.store (some 5)) [.tmp 31, .tmp 193]⟩] L3d)
 (.seq (.region false [⟨some 194, none, .rd (.load (some 5)) [.tmp 31]⟩,
 ⟨some 195, none, .call (.pv (.fn 7 [] [])) [.tmp 194]⟩,
 ⟨some 32, none, .eff (.alloc (some 8) (.agg [(.int .u32 0), (.int .u32 0), (.int .i64 0), (.int .i64 0), (.int .i64 0), (.str []), (.int .i64 0), (.str [])])) []⟩,
 ⟨none, none, .eff (.store (some 8)) [.tmp 32, .tmp 195]⟩] L3d)
 (.seq (.region false [⟨some 196, none, .rd (.fldAddr 1) [.tmp 32]⟩,
 ⟨some 197, none, .rd (.load none) [.tmp 196]⟩,
 ⟨some 198, none, .rd .mov [.tmp 23]⟩,
 ⟨some 199, none, .rd (.bin .eql) [.tmp 197, .tmp 198]⟩,
 ⟨some 200, none, .rd .mov [.tmp 199]⟩,
 ⟨some 201, some (200, true), .rd (.fldAddr 3) [.tmp 32]⟩,
 ⟨some 202, some (200, true), .rd (.load none) [.tmp 201]⟩,
 ⟨some 203, some (200, true), .rd .mov [.tmp 2]⟩,
 ⟨some 204, some (200, true), .rd (.conv .i64) [.tmp 203]⟩,
 ⟨some 205, some (200, true), .rd (.bin .leq) [.tmp 202, .tmp 204]⟩,
 ⟨some 206, none, .rd .pick [.tmp 200, .tmp 205, .pv (.bool false)]⟩,
 ⟨some 207, none, .rd .mov [.tmp 206]⟩,
 ⟨some 208, some (207, true), .rd (.fldAddr 4) [.tmp 32]⟩,
 ⟨some 209, some (207, true), .rd (.load none) [.tmp 208]⟩,
 ⟨some 210, some (207, true), .rd (.bin .eql) [.tmp 209, .pv (.int .i64 0)]⟩,
 ⟨some 211, some (207, true), .rd .mov [.tmp 210]⟩,
 ⟨some 212, some (211, false), .rd .mov [.tmp 2]⟩,
 ⟨some 213, some (211, false), .rd (.conv .i64) [.tmp 212]⟩,
 ⟨some 214, some (211, false), .rd (.fldAddr 4) [.tmp 32]⟩,
 ⟨some 215, some (211, false), .rd (.load none) [.tmp 214]⟩,
 ⟨some 216, some (211, false), .rd (.bin .lss) [.tmp 213, .tmp 215]⟩,
 ⟨some 217, some (207, true), .rd .pick [.tmp 211, .pv (.bool true), .tmp 216]⟩,
 ⟨some 218, none, .rd .pick [.tmp 207, .tmp 217, .pv (.bool false)]⟩] L3d)
 (.cond (.tmp 218)
 (.region false [⟨some 219, none, .rd (.fldAddr 6) [.tmp 32]⟩,
 ⟨some 220, none, .rd (.load none) [.tmp 219]⟩,
 ⟨some 28, none, .rd .mov [.tmp 220]⟩,
 ⟨some 29, none, .rd .mov [.pv (.bool true)]⟩] L3d)
 (.skip))))))
 (.region false [⟨some 221, none, .rd (.bin .add) [.tmp 190, .pv (.int .i64 1)]⟩,
 ⟨some 190, none, .rd .mov [.tmp 221]⟩] L3d)))))))
 (.seq (.region false [⟨some 222, none, .rd .mov [.tmp 25]⟩,
 ⟨some 223, none, .rd .mov [.tmp 29]⟩,
 ⟨some 224, none, .rd (.eqB true) [.tmp 222, .tmp 223]⟩,
 ⟨some 225, none, .rd .mov [.tmp 224]⟩,
 ⟨some 226, some (225, false), .rd (.fldAddr 1) [.tmp 24]⟩,
 ⟨some 227, some (225, false), .rd (.load none) [.tmp 226]⟩,
 ⟨some 228, some (225, false), .rd .mov [.tmp 28]⟩,
 ⟨some 229, some (225, false), .rd (.bin .neq) [.tmp 227, .tmp 228]⟩,
 ⟨some 230, none, .rd .pick [.tmp 225, .pv (.bool true), .tmp 229]⟩] L3d)
 (.cond (.tmp 230)
 (.seq (.region false [⟨some 6, none, .rd .mov [.pv (.bool false)]⟩] L3d)
 (.ret))
 (.skip))))))))))
 (.region false [⟨some 231, none, .rd (.bin .add) [.tmp 146, .pv (.int .u32 1)]⟩,
 ⟨some 146, none, .rd .mov [.tmp 231]⟩] L3d)))))))
 (.seq (.region false [⟨some 6, none, .rd .mov [.pv (.bool true)]⟩] L3d)
 (.ret)))))))))))),
 [.tmp 6]⟩
theorem k3e : compileF Tryz.prog [999999] L3d Tryz.f3 = some c3e := by kernel_rfl
theorem cut55 (x : PV) : cut (some 5) (some 5) x 0 = x := by simp [cut]
def gM3_3 : Dg := ⟨o3_3, [(0, 0, 0), (0, 1, 1), (0, 2, 2), (0, 5, 5), (1, 0, 0), (1, 1, 1), (1, 2, 2), (1, 5, 5), (2, 0, 0), (2, 1, 1), (2, 2, 2), (2, 5, 5), (3, 0, 0), (3, 1, 1), (3, 2, 2), (3, 5, 5), (4, 0, 1), (4, 5, 2), (5, 0, 5), (5, 1, 2), (6, 2, 3), (7, 3, 4)], [0, 1, 2, 6, 7, 8, 9, 10, 11, 12, 13, 14, 16, 17, 18, 19, 20, 21, 22, 23, 24, 25, 26, 27, 28, 29, 31, 32, 34, 42, 46, 47, 48, 49, 55, 80, 81, 82, 83, 89, 90, 91, 92, 127, 145, 146, 147, 187, 188, 189, 190, 191, 218, 230], [[0, 1, 2, 6, 7, 8, 9, 10, 11, 12, 13, 14, 16, 17, 18, 19, 20, 21, 22, 23, 24, 25, 26, 27, 28, 29, 31, 32, 34, 42, 46, 47, 48, 49, 55, 80, 81, 82, 83, 89, 90, 91, 92, 95, 96, 97, 98, 127, 145, 146, 147, 187, 188, 189, 190, 191, 218, 230], [0, 1, 2, 6, 7, 8, 9, 10, 11, 12, 13, 14, 16, 17, 18, 19, 20, 21, 22, 23, 24, 25, 26, 27, 28, 29, 31, 32, 34, 42, 46, 47, 48, 49, 55, 80, 81, 82, 83, 89, 90, 91, 92, 95, 96, 97, 98, 127, 145, 146, 147, 187, 188, 189, 190, 191, 218, 230], [0, 1, 2, 6, 7, 8, 9, 10, 11, 12, 13, 14, 16, 17, 18, 19, 20, 21, 22, 23, 24, 25, 26, 27, 28, 29, 31, 32, 34, 42, 46, 47, 48, 49, 55, 80, 81, 82, 83, 89, 90, 91, 92, 95, 96, 97, 98, 127, 145, 146, 147, 187, 188, 189, 190, 191, 218, 230], [0, 1, 2, 6, 7, 8, 9, 10, 11, 12, 13, 14, 16, 17, 18, 19, 20, 21, 22, 23, 24, 25, 26, 27, 28, 29, 31, 32, 34, 42, 46, 47, 48, 49, 55, 80, 81, 82, 83, 89, 90, 91, 92, 95, 96, 97, 98, 127, 145, 146, 147, 187, 188, 189, 190, 191, 218, 230], [0, 1, 2, 6, 7, 8, 9, 10, 11, 12, 13, 14, 16, 17, 18, 19, 20, 21, 22, 23, 24, 25, 26, 27, 28, 29, 31, 32, 34, 42, 46, 47, 48, 49, 55, 80, 81, 82, 83, 89, 90, 91, 92, 95, 96, 97, 98, 127, 145, 146, 147, 187, 188, 189, 190, 191, 218, 230], [0, 1, 2, 6, 7, 8, 9, 10, 11, 12, 13, 14, 16, 17, 18, 19, 20, 21, 22, 23, 24, 25, 26, 27, 28, 29, 31, 32, 34, 42, 46, 47, 48, 49, 55, 80, 81, 82, 83, 89, 90, 91, 92, 95, 96, 97, 98, 127, 145, 146, 147, 187, 188, 189, 190, 191, 218, 230]], 4, [4, 5]⟩
def NM3_3 (l O : List Td) (x y : Td) (f g : Fc) (i j : Nat) (d : Nat) (ap : Bool) : Env := [(95, .agg [.int .u8 x.p, .int .u32 x.c, .int .u16 x.f, .int .u16 x.d, .int .u16 x.i]), (96, .agg [.int .u32 f.id, .int .u32 f.person, .int .i64 f.kind, .int .i64 f.from', .int .i64 f.to', .str f.code, .int .i64 f.num, .str f.text]), (97, .agg [.int .u8 y.p, .int .u32 y.c, .int .u16 y.f, .int .u16 y.d, .int .u16 y.i]), (98, .agg [.int .u32 g.id, .int .u32 g.person, .int .i64 g.kind, .int .i64 g.from', .int .i64 g.to', .str g.code, .int .i64 g.num, .str g.text]), (0, tdL l), (1, .junk), (2, .int .u16 d), (6, .bool false), (7, tdL O), (8, .junk), (9, .junk), (10, .junk), (11, .junk), (12, .bool ap), (13, .junk), (14, .cptr (some 5) (.agg [.int .u8 x.p, .int .u32 x.c, .int .u16 x.f, .int .u16 x.d, .int .u16 x.i]) 0), (16, .cptr (some 5) (.agg [.int .u8 y.p, .int .u32 y.c, .int .u16 y.f, .int .u16 y.d, .int .u16 y.i]) 0), (19, .junk), (20, .junk), (21, .junk), (22, .junk), (23, .junk), (24, .junk), (25, .junk), (26, .junk), (27, .junk), (28, .junk), (29, .junk), (31, .junk), (32, .junk), (34, .junk), (42, .junk), (46, .junk), (47, .junk), (48, .junk), (49, .junk), (55, .junk), (80, tdL l), (81, .int .i64 l.length), (82, .int .i64 i), (83, .junk), (89, tdL (l.take i)), (90, .int .i64 i), (91, .int .i64 j), (92, .bool true), (127, .junk), (145, .junk), (146, .junk), (147, .junk), (187, .junk), (188, .junk), (189, .junk), (190, .junk), (191, .junk), (218, .junk), (230, .junk), (17, .junk), (18, .junk)]
def VM3_3 (l O : List Td) (x y : Td) (f g : Fc) (i j : Nat) (d : Nat) (ap : Bool) : Nat → Env
  | 0 => [(17, .junk), (18, .junk)] ++ NM3_3 l O x y f g i j d ap
  | 1 => [(17, .ref 0 0), (18, .junk)] ++ NM3_3 l O x y f g i j d ap
  | 2 => [(17, .ref 0 0), (18, .ref 1 0)] ++ NM3_3 l O x y f g i j d ap
  | 3 => [(17, .ref 0 0), (18, .ref 1 0)] ++ NM3_3 l O x y f g i j d ap
  | 4 => [(17, .ref 0 0), (18, .ref 1 0)] ++ NM3_3 l O x y f g i j d ap
  | 5 => [(17, .junk), (18, .ref 1 0)] ++ NM3_3 l O x y f g i j d ap
  | _ => []
def MM3_3 (l O : List Td) (x y : Td) (f g : Fc) (i j : Nat) (d : Nat) (ap : Bool) : Nat → Mem
  | 0 => [none, none]
  | 1 => [some (.var (some 8) (.agg [.int .u32 0, .int .u32 0, .int .i64 0, .int .i64 0, .int .i64 0, .str [], .int .i64 0, .str []])), none]
  | 2 => [some (.var (some 8) (.agg [.int .u32 0, .int .u32 0, .int .i64 0, .int .i64 0, .int .i64 0, .str [], .int .i64 0, .str []])), some (.var (some 8) (.agg [.int .u32 0, .int .u32 0, .int .i64 0, .int .i64 0, .int .i64 0, .str [], .int .i64 0, .str []]))]
  | 3 => [some (.var (some 8) (.agg [.int .u32 f.id, .int .u32 f.person, .int .i64 f.kind, .int .i64 f.from', .int .i64 f.to', .str f.code, .int .i64 f.num, .str f.text])), some (.var (some 8) (.agg [.int .u32 0, .int .u32 0, .int .i64 0, .int .i64 0, .int .i64 0, .str [], .int .i64 0, .str []]))]
  | 4 => [some (.var (some 8) (.agg [.int .u32 f.id, .int .u32 f.person, .int .i64 f.kind, .int .i64 f.from', .int .i64 f.to', .str f.code, .int .i64 f.num, .str f.text])), some (.var (some 8) (.agg [.int .u32 g.id, .int .u32 g.person, .int .i64 g.kind, .int .i64 g.from', .int .i64 g.to', .str g.code, .int .i64 g.num, .str g.text]))]
  | 5 => [none, some (.var (some 8) (.agg [.int .u32 0, .int .u32 0, .int .i64 0, .int .i64 0, .int .i64 0, .str [], .int .i64 0, .str []]))]
  | _ => []
theorem rM3_3 (l O : List Td) (x y : Td) (f g : Fc) (i j : Nat) (d : Nat) (ap : Bool) (h7x : VCalls Tryz.prog G0 7 [.agg [.int .u8 x.p, .int .u32 x.c, .int .u16 x.f, .int .u16 x.d, .int .u16 x.i]] (.agg [.int .u32 f.id, .int .u32 f.person, .int .i64 f.kind, .int .i64 f.from', .int .i64 f.to', .str f.code, .int .i64 f.num, .str f.text])) (h7y : VCalls Tryz.prog G0 7 [.agg [.int .u8 y.p, .int .u32 y.c, .int .u16 y.f, .int .u16 y.d, .int .u16 y.i]] (.agg [.int .u32 g.id, .int .u32 g.person, .int .i64 g.kind, .int .i64 g.from', .int .i64 g.to', .str g.code, .int .i64 g.num, .str g.text])) (Q : Post) (hQ : Q .normal [(0, tdL l), (1, .junk), (2, .int .u16 d), (6, .bool false), (7, tdL O), (8, .junk), (9, .junk), (10, .junk), (11, .junk), (12, .bool ap), (13, .junk), (14, .cptr (some 5) (.agg [.int .u8 x.p, .int .u32 x.c, .int .u16 x.f, .int .u16 x.d, .int .u16 x.i]) 0), (16, .cptr (some 5) (.agg [.int .u8 y.p, .int .u32 y.c, .int .u16 y.f, .int .u16 y.d, .int .u16 y.i]) 0), (17, .ref 0 0), (18, .ref 1 0), (19, .junk), (20, .junk), (21, .junk), (22, .junk), (23, .junk), (24, .junk), (25, .junk), (26, .junk), (27, .junk), (28, .junk), (29, .junk), (31, .junk), (32, .junk), (34, .junk), (42, .junk), (46, .junk), (47, .junk), (48, .junk), (49, .junk), (55, .junk), (80, tdL l), (81, .int .i64 l.length), (82, .int .i64 i), (83, .junk), (89, tdL (l.take i)), (90, .int .i64 i), (91, .int .i64 j), (92, .bool true), (127, .junk), (145, .junk), (146, .junk), (147, .junk), (187, .junk), (188, .junk), (189, .junk), (190, .junk), (191, .junk), (218, .junk), (230, .junk)] [some (.var (some 8) (.agg [.int .u32 f.id, .int .u32 f.person, .int .i64 f.kind, .int .i64 f.from', .int .i64 f.to', .str f.code, .int .i64 f.num, .str f.text])), some (.var (some 8) (.agg [.int .u32 g.id, .int .u32 g.person, .int .i64 g.kind, .int .i64 g.from', .int .i64 g.to', .str g.code, .int .i64 g.num, .str g.text]))]) : PW Tryz.prog G0 232 (fun _ => true) (.regionA (IS.toS o3_3 t3_3) L3d) [(0, tdL l), (1, .junk), (2, .int .u16 d), (6, .bool false), (7, tdL O), (8, .junk), (9, .junk), (10, .junk), (11, .junk), (12, .bool ap), (13, .junk), (14, .cptr (some 5) (.agg [.int .u8 x.p, .int .u32 x.c, .int .u16 x.f, .int .u16 x.d, .int .u16 x.i]) 0), (16, .cptr (some 5) (.agg [.int .u8 y.p, .int .u32 y.c, .int .u16 y.f, .int .u16 y.d, .int .u16 y.i]) 0), (17, .junk), (18, .junk), (19, .junk), (20, .junk), (21, .junk), (22, .junk), (23, .junk), (24, .junk), (25, .junk), (26, .junk), (27, .junk), (28, .junk), (29, .junk), (31, .junk), (32, .junk), (34, .junk), (42, .junk), (46, .junk), (47, .junk), (48, .junk), (49, .junk), (55, .junk), (80, tdL l), (81, .int .i64 l.length), (82, .int .i64 i), (83, .junk), (89, tdL (l.take i)), (90, .int .i64 i), (91, .int .i64 j), (92, .bool true), (127, .junk), (145, .junk), (146, .junk), (147, .junk), (187, .junk), (188, .junk), (189, .junk), (190, .junk), (191, .junk), (218, .junk), (230, .junk)] [none, none] Q := by
  have hcut := cut55
  refine PW.regionI gM3_3 t3_3 (σ := Unit) ⟨fun c _ => VM3_3 l O x y f g i j d ap c, fun c _ => MM3_3 l O x y f g i j d ap c, fun _ _ => True⟩ () (by kernel_rfl) ?hg rfl ?hB ?hO ?h
  case hg => trivial
  case hB => repeat' (first | exact trivial | refine ⟨rfl, ?_⟩)
  case' h => intro s hs; simp only [Dg.endE, gM3_3, o3_3, L3d, keep_cons, keep_nil, List.filterMap_cons, List.filterMap_nil, List.map_cons, List.map_nil, MM3_3, VM3_3, NM3_3, List.cons_append, List.nil_append, get_cons, get_nil, Nat.reduceEqDiff, if_false, if_true, reduceIte]; exact hQ
  case hO =>
    refine Dg.obs_pure ⟨some 95, none, .rd (.load (some 5)) [.tmp 14]⟩ _ rfl rfl rfl ?_ ?_
    · intro s hs env ha K hK
      simp only [CO.tms, Agr, List.filterMap_cons, List.filterMap_nil, List.cons_append, List.nil_append, get_cons, Nat.reduceEqDiff, if_false, if_true, reduceIte, and_true, VM3_3, NM3_3] at ha
      simp only [MM3_3] at hK ⊢
      repeat' (first | exact True.intro | (refine hK _ ?_; (try simp only [VM3_3, NM3_3, List.cons_append, List.nil_append, get_cons, get_nil, Nat.reduceEqDiff, if_false, if_true, reduceIte]) <;> rfl) | (refine PW.seqK ?_; intro K hK) | refine PW.block ?_ | refine PW.scope ?_ | refine PW.label ?_ | refine PW.exit ?_ | refine PW.ret ?_ | refine PW.skip ?_ | refine seqK_n (by assumption) ?_ | refine seqK_r (by assumption) ?_ | refine seqK_e (by assumption) ?_ | refine PW.regionA ?_ | exact schedW_stop_i | refine schK_n (by assumption) ?_ | (refine schedW_alt_k ?_ ?_; focus (intro K hK; simp only [ha, hcut, SS, SS2, SS3, SS4, SS5, Option.map_some, Nat.reduceAdd, reduceIte, Nat.reduceEqDiff, Nat.reduceBEq, eq_self, implies_true, ne_eq, beq_self_eq_true, id_eq, reduceCtorEq]; (try go_unwrap; try simp only [ha, hcut, RR, reduceCtorEq]))) | (refine PW.cond rfl ?_ ?_ <;> intro hcond <;> (try contradiction) <;> try simp only [decide_eq_true_eq, decide_eq_false_iff_not] at hcond) | (refine gd_i ?_; intro hg; try simp only [hg]) | ((first | show @LE.le Nat _ _ _ | show @LT.lt Nat _ _ _ | show @LE.le Int _ _ _ | show @LT.lt Int _ _ _ | show @Eq Nat _ _ | show @Eq Int _ _ | show @Eq Bool _ _ | show _ ∨ _ | show ¬ _); first | omega | (simp only [decide_eq_true_eq, decide_eq_false_iff_not, List.length_cons, List.length_nil, List.length_append, List.length_map, Sh.size] <;> omega) | (go_unwrap; omega)) | ((first | refine PW.region ?_ | refine PW.regionQ ?_ | refine schedW_done_i ?_ | show (_ : Post) _ _ _ | show @Eq (List PV) _ _ | show @Eq Bool _ _ | show opsW _ _ _ _ _ _ _ _ | show okAll _ | show @Eq Bool _ _ ∨ _); focus (simp only [ha, hcut, SS, SS2, SS3, SS4, SS5, Option.map_some, Nat.reduceAdd, reduceIte, Nat.reduceEqDiff, Nat.reduceBEq, eq_self, implies_true, ne_eq, beq_self_eq_true, id_eq, reduceCtorEq]; (try go_unwrap; try simp only [ha, hcut, RR, reduceCtorEq]))) | refine And.intro ?_ ?_ | exact Or.inr ⟨rfl, Nat.le_refl _⟩ | exact (fun h => Bool.noConfusion h))
    refine Dg.obs_pure ⟨some 95, none, .rd (.load (some 5)) [.tmp 14]⟩ _ rfl rfl rfl ?_ ?_
    · intro s hs env ha K hK
      simp only [CO.tms, Agr, List.filterMap_cons, List.filterMap_nil, List.cons_append, List.nil_append, get_cons, Nat.reduceEqDiff, if_false, if_true, reduceIte, and_true, VM3_3, NM3_3] at ha
      simp only [MM3_3] at hK ⊢
      repeat' (first | exact True.intro | (refine hK _ ?_; (try simp only [VM3_3, NM3_3, List.cons_append, List.nil_append, get_cons, get_nil, Nat.reduceEqDiff, if_false, if_true, reduceIte]) <;> rfl) | (refine PW.seqK ?_; intro K hK) | refine PW.block ?_ | refine PW.scope ?_ | refine PW.label ?_ | refine PW.exit ?_ | refine PW.ret ?_ | refine PW.skip ?_ | refine seqK_n (by assumption) ?_ | refine seqK_r (by assumption) ?_ | refine seqK_e (by assumption) ?_ | refine PW.regionA ?_ | exact schedW_stop_i | refine schK_n (by assumption) ?_ | (refine schedW_alt_k ?_ ?_; focus (intro K hK; simp only [ha, hcut, SS, SS2, SS3, SS4, SS5, Option.map_some, Nat.reduceAdd, reduceIte, Nat.reduceEqDiff, Nat.reduceBEq, eq_self, implies_true, ne_eq, beq_self_eq_true, id_eq, reduceCtorEq]; (try go_unwrap; try simp only [ha, hcut, RR, reduceCtorEq]))) | (refine PW.cond rfl ?_ ?_ <;> intro hcond <;> (try contradiction) <;> try simp only [decide_eq_true_eq, decide_eq_false_iff_not] at hcond) | (refine gd_i ?_; intro hg; try simp only [hg]) | ((first | show @LE.le Nat _ _ _ | show @LT.lt Nat _ _ _ | show @LE.le Int _ _ _ | show @LT.lt Int _ _ _ | show @Eq Nat _ _ | show @Eq Int _ _ | show @Eq Bool _ _ | show _ ∨ _ | show ¬ _); first | omega | (simp only [decide_eq_true_eq, decide_eq_false_iff_not, List.length_cons, List.length_nil, List.length_append, List.length_map, Sh.size] <;> omega) | (go_unwrap; omega)) | ((first | refine PW.region ?_ | refine PW.regionQ ?_ | refine schedW_done_i ?_ | show (_ : Post) _ _ _ | show @Eq (List PV) _ _ | show @Eq Bool _ _ | show opsW _ _ _ _ _ _ _ _ | show okAll _ | show @Eq Bool _ _ ∨ _); focus (simp only [ha, hcut, SS, SS2, SS3, SS4, SS5, Option.map_some, Nat.reduceAdd, reduceIte, Nat.reduceEqDiff, Nat.reduceBEq, eq_self, implies_true, ne_eq, beq_self_eq_true, id_eq, reduceCtorEq]; (try go_unwrap; try simp only [ha, hcut, RR, reduceCtorEq]))) | refine And.intro ?_ ?_ | exact Or.inr ⟨rfl, Nat.le_refl _⟩ | exact (fun h => Bool.noConfusion h))
    refine Dg.obs_pure ⟨some 95, none, .rd (.load (some 5)) [.tmp 14]⟩ _ rfl rfl rfl ?_ ?_
    · intro s hs env ha K hK
      simp only [CO.tms, Agr, List.filterMap_cons, List.filterMap_nil, List.cons_append, List.nil_append, get_cons, Nat.reduceEqDiff, if_false, if_true, reduceIte, and_true, VM3_3, NM3_3] at ha
      simp only [MM3_3] at hK ⊢
      repeat' (first | exact True.intro | (refine hK _ ?_; (try simp only [VM3_3, NM3_3, List.cons_append, List.nil_append, get_cons, get_nil, Nat.reduceEqDiff, if_false, if_true, reduceIte]) <;> rfl) | (refine PW.seqK ?_; intro K hK) | refine PW.block ?_ | refine PW.scope ?_ | refine PW.label ?_ | refine PW.exit ?_ | refine PW.ret ?_ | refine PW.skip ?_ | refine seqK_n (by assumption) ?_ | refine seqK_r (by assumption) ?_ | refine seqK_e (by assumption) ?_ | refine PW.regionA ?_ | exact schedW_stop_i | refine schK_n (by assumption) ?_ | (refine schedW_alt_k ?_ ?_; focus (intro K hK; simp only [ha, hcut, SS, SS2, SS3, SS4, SS5, Option.map_some, Nat.reduceAdd, reduceIte, Nat.reduceEqDiff, Nat.reduceBEq, eq_self, implies_true, ne_eq, beq_self_eq_true, id_eq, reduceCtorEq]; (try go_unwrap; try simp only [ha, hcut, RR, reduceCtorEq]))) | (refine PW.cond rfl ?_ ?_ <;> intro hcond <;> (try contradiction) <;> try simp only [decide_eq_true_eq, decide_eq_false_iff_not] at hcond) | (refine gd_i ?_; intro hg; try simp only [hg]) | ((first | show @LE.le Nat _ _ _ | show @LT.lt Nat _ _ _ | show @LE.le Int _ _ _ | show @LT.lt Int _ _ _ | show @Eq Nat _ _ | show @Eq Int _ _ | show @Eq Bool _ _ | show _ ∨ _ | show ¬ _); first | omega | (simp only [decide_eq_true_eq, decide_eq_false_iff_not, List.length_cons, List.length_nil, List.length_append, List.length_map, Sh.size] <;> omega) | (go_unwrap; omega)) | ((first | refine PW.region ?_ | refine PW.regionQ ?_ | refine schedW_done_i ?_ | show (_ : Post) _ _ _ | show @Eq (List PV) _ _ | show @Eq Bool _ _ | show opsW _ _ _ _ _ _ _ _ | show okAll _ | show @Eq Bool _ _ ∨ _); focus (simp only [ha, hcut, SS, SS2, SS3, SS4, SS5, Option.map_some, Nat.reduceAdd, reduceIte, Nat.reduceEqDiff, Nat.reduceBEq, eq_self, implies_true, ne_eq, beq_self_eq_true, id_eq, reduceCtorEq]; (try go_unwrap; try simp only [ha, hcut, RR, reduceCtorEq]))) | refine And.intro ?_ ?_ | exact Or.inr ⟨rfl, Nat.le_refl _⟩ | exact (fun h => Bool.noConfusion h))
    refine Dg.obs_pure ⟨some 95, none, .rd (.load (some 5)) [.tmp 14]⟩ _ rfl rfl rfl ?_ ?_
    · intro s hs env ha K hK
      simp only [CO.tms, Agr, List.filterMap_cons, List.filterMap_nil, List.cons_append, List.nil_append, get_cons, Nat.reduceEqDiff, if_false, if_true, reduceIte, and_true, VM3_3, NM3_3] at ha
      simp only [MM3_3] at hK ⊢
      repeat' (first | exact True.intro | (refine hK _ ?_; (try simp only [VM3_3, NM3_3, List.cons_append, List.nil_append, get_cons, get_nil, Nat.reduceEqDiff, if_false, if_true, reduceIte]) <;> rfl) | (refine PW.seqK ?_; intro K hK) | refine PW.block ?_ | refine PW.scope ?_ | refine PW.label ?_ | refine PW.exit ?_ | refine PW.ret ?_ | refine PW.skip ?_ | refine seqK_n (by assumption) ?_ | refine seqK_r (by assumption) ?_ | refine seqK_e (by assumption) ?_ | refine PW.regionA ?_ | exact schedW_stop_i | refine schK_n (by assumption) ?_ | (refine schedW_alt_k ?_ ?_; focus (intro K hK; simp only [ha, hcut, SS, SS2, SS3, SS4, SS5, Option.map_some, Nat.reduceAdd, reduceIte, Nat.reduceEqDiff, Nat.reduceBEq, eq_self, implies_true, ne_eq, beq_self_eq_true, id_eq, reduceCtorEq]; (try go_unwrap; try simp only [ha, hcut, RR, reduceCtorEq]))) | (refine PW.cond rfl ?_ ?_ <;> intro hcond <;> (try contradiction) <;> try simp only [decide_eq_true_eq, decide_eq_false_iff_not] at hcond) | (refine gd_i ?_; intro hg; try simp only [hg]) | ((first | show @LE.le Nat _ _ _ | show @LT.lt Nat _ _ _ | show @LE.le Int _ _ _ | show @LT.lt Int _ _ _ | show @Eq Nat _ _ | show @Eq Int _ _ | show @Eq Bool _ _ | show _ ∨ _ | show ¬ _); first | omega | (simp only [decide_eq_true_eq, decide_eq_false_iff_not, List.length_cons, List.length_nil, List.length_append, List.length_map, Sh.size] <;> omega) | (go_unwrap; omega)) | ((first | refine PW.region ?_ | refine PW.regionQ ?_ | refine schedW_done_i ?_ | show (_ : Post) _ _ _ | show @Eq (List PV) _ _ | show @Eq Bool _ _ | show opsW _ _ _ _ _ _ _ _ | show okAll _ | show @Eq Bool _ _ ∨ _); focus (simp only [ha, hcut, SS, SS2, SS3, SS4, SS5, Option.map_some, Nat.reduceAdd, reduceIte, Nat.reduceEqDiff, Nat.reduceBEq, eq_self, implies_true, ne_eq, beq_self_eq_true, id_eq, reduceCtorEq]; (try go_unwrap; try simp only [ha, hcut, RR, reduceCtorEq]))) | refine And.intro ?_ ?_ | exact Or.inr ⟨rfl, Nat.le_refl _⟩ | exact (fun h => Bool.noConfusion h))
    refine Dg.obs_pure ⟨some 96, none, .call (.pv (.fn 7 [] [])) [.tmp 95]⟩ _ rfl rfl rfl ?_ ?_
    · intro s hs env ha K hK
      simp only [CO.tms, Agr, List.filterMap_cons, List.filterMap_nil, List.cons_append, List.nil_append, get_cons, Nat.reduceEqDiff, if_false, if_true, reduceIte, and_true, VM3_3, NM3_3] at ha
      simp only [MM3_3] at hK ⊢
      repeat' (first | exact True.intro | (refine hK _ ?_; (try simp only [VM3_3, NM3_3, List.cons_append, List.nil_append, get_cons, get_nil, Nat.reduceEqDiff, if_false, if_true, reduceIte]) <;> rfl) | (refine PW.seqK ?_; intro K hK) | refine PW.block ?_ | refine PW.scope ?_ | refine PW.label ?_ | refine PW.exit ?_ | refine PW.ret ?_ | refine PW.skip ?_ | refine seqK_n (by assumption) ?_ | refine seqK_r (by assumption) ?_ | refine seqK_e (by assumption) ?_ | refine PW.regionA ?_ | exact schedW_stop_i | refine schK_n (by assumption) ?_ | (refine schedW_alt_k ?_ ?_; focus (intro K hK; simp only [ha, hcut, SS, SS2, SS3, SS4, SS5, Option.map_some, Nat.reduceAdd, reduceIte, Nat.reduceEqDiff, Nat.reduceBEq, eq_self, implies_true, ne_eq, beq_self_eq_true, id_eq, reduceCtorEq]; (try go_unwrap; try simp only [ha, hcut, RR, reduceCtorEq]))) | (refine PW.cond rfl ?_ ?_ <;> intro hcond <;> (try contradiction) <;> try simp only [decide_eq_true_eq, decide_eq_false_iff_not] at hcond) | (refine gd_i ?_; intro hg; try simp only [hg]) | refine goCall_W e7 (h7x) ?_ ?_ ?_ ?_ | ((first | show @LE.le Nat _ _ _ | show @LT.lt Nat _ _ _ | show @LE.le Int _ _ _ | show @LT.lt Int _ _ _ | show @Eq Nat _ _ | show @Eq Int _ _ | show @Eq Bool _ _ | show _ ∨ _ | show ¬ _); first | omega | (simp only [decide_eq_true_eq, decide_eq_false_iff_not, List.length_cons, List.length_nil, List.length_append, List.length_map, Sh.size] <;> omega) | (go_unwrap; omega)) | ((first | refine PW.region ?_ | refine PW.regionQ ?_ | refine schedW_done_i ?_ | show (_ : Post) _ _ _ | show @Eq (List PV) _ _ | show @Eq Bool _ _ | show opsW _ _ _ _ _ _ _ _ | show okAll _ | show @Eq Bool _ _ ∨ _); focus (simp only [ha, hcut, SS, SS2, SS3, SS4, SS5, Option.map_some, Nat.reduceAdd, reduceIte, Nat.reduceEqDiff, Nat.reduceBEq, eq_self, implies_true, ne_eq, beq_self_eq_true, id_eq, reduceCtorEq]; (try go_unwrap; try simp only [ha, hcut, RR, reduceCtorEq]))) | refine And.intro ?_ ?_ | exact Or.inr ⟨rfl, Nat.le_refl _⟩ | exact (fun h => Bool.noConfusion h))
    refine Dg.obs_pure ⟨some 96, none, .call (.pv (.fn 7 [] [])) [.tmp 95]⟩ _ rfl rfl rfl ?_ ?_
    · intro s hs env ha K hK
      simp only [CO.tms, Agr, List.filterMap_cons, List.filterMap_nil, List.cons_append, List.nil_append, get_cons, Nat.reduceEqDiff, if_false, if_true, reduceIte, and_true, VM3_3, NM3_3] at ha
      simp only [MM3_3] at hK ⊢
      repeat' (first | exact True.intro | (refine hK _ ?_; (try simp only [VM3_3, NM3_3, List.cons_append, List.nil_append, get_cons, get_nil, Nat.reduceEqDiff, if_false, if_true, reduceIte]) <;> rfl) | (refine PW.seqK ?_; intro K hK) | refine PW.block ?_ | refine PW.scope ?_ | refine PW.label ?_ | refine PW.exit ?_ | refine PW.ret ?_ | refine PW.skip ?_ | refine seqK_n (by assumption) ?_ | refine seqK_r (by assumption) ?_ | refine seqK_e (by assumption) ?_ | refine PW.regionA ?_ | exact schedW_stop_i | refine schK_n (by assumption) ?_ | (refine schedW_alt_k ?_ ?_; focus (intro K hK; simp only [ha, hcut, SS, SS2, SS3, SS4, SS5, Option.map_some, Nat.reduceAdd, reduceIte, Nat.reduceEqDiff, Nat.reduceBEq, eq_self, implies_true, ne_eq, beq_self_eq_true, id_eq, reduceCtorEq]; (try go_unwrap; try simp only [ha, hcut, RR, reduceCtorEq]))) | (refine PW.cond rfl ?_ ?_ <;> intro hcond <;> (try contradiction) <;> try simp only [decide_eq_true_eq, decide_eq_false_iff_not] at hcond) | (refine gd_i ?_; intro hg; try simp only [hg]) | refine goCall_W e7 (h7x) ?_ ?_ ?_ ?_ | ((first | show @LE.le Nat _ _ _ | show @LT.lt Nat _ _ _ | show @LE.le Int _ _ _ | show @LT.lt Int _ _ _ | show @Eq Nat _ _ | show @Eq Int _ _ | show @Eq Bool _ _ | show _ ∨ _ | show ¬ _); first | omega | (simp only [decide_eq_true_eq, decide_eq_false_iff_not, List.length_cons, List.length_nil, List.length_append, List.length_map, Sh.size] <;> omega) | (go_unwrap; omega)) | ((first | refine PW.region ?_ | refine PW.regionQ ?_ | refine schedW_done_i ?_ | show (_ : Post) _ _ _ | show @Eq (List PV) _ _ | show @Eq Bool _ _ | show opsW _ _ _ _ _ _ _ _ | show okAll _ | show @Eq Bool _ _ ∨ _); focus (simp only [ha, hcut, SS, SS2, SS3, SS4, SS5, Option.map_some, Nat.reduceAdd, reduceIte, Nat.reduceEqDiff, Nat.reduceBEq, eq_self, implies_true, ne_eq, beq_self_eq_true, id_eq, reduceCtorEq]; (try go_unwrap; try simp only [ha, hcut, RR, reduceCtorEq]))) | refine And.intro ?_ ?_ | exact Or.inr ⟨rfl, Nat.le_refl _⟩ | exact (fun h => Bool.noConfusion h))
    refine Dg.obs_pure ⟨some 96, none, .call (.pv (.fn 7 [] [])) [.tmp 95]⟩ _ rfl rfl rfl ?_ ?_
    · intro s hs env ha K hK
      simp only [CO.tms, Agr, List.filterMap_cons, List.filterMap_nil, List.cons_append, List.nil_append, get_cons, Nat.reduceEqDiff, if_false, if_true, reduceIte, and_true, VM3_3, NM3_3] at ha
      simp only [MM3_3] at hK ⊢
      repeat' (first | exact True.intro | (refine hK _ ?_; (try simp only [VM3_3, NM3_3, List.cons_append, List.nil_append, get_cons, get_nil, Nat.reduceEqDiff, if_false, if_true, reduceIte]) <;> rfl) | (refine PW.seqK ?_; intro K hK) | refine PW.block ?_ | refine PW.scope ?_ | refine PW.label ?_ | refine PW.exit ?_ | refine PW.ret ?_ | refine PW.skip ?_ | refine seqK_n (by assumption) ?_ | refine seqK_r (by assumption) ?_ | refine seqK_e (by assumption) ?_ | refine PW.regionA ?_ | exact schedW_stop_i | refine schK_n (by assumption) ?_ | (refine schedW_alt_k ?_ ?_; focus (intro K hK; simp only [ha, hcut, SS, SS2, SS3, SS4, SS5, Option.map_some, Nat.reduceAdd, reduceIte, Nat.reduceEqDiff, Nat.reduceBEq, eq_self, implies_true, ne_eq, beq_self_eq_true, id_eq, reduceCtorEq]; (try go_unwrap; try simp only [ha, hcut, RR, reduceCtorEq]))) | (refine PW.cond rfl ?_ ?_ <;> intro hcond <;> (try contradiction) <;> try simp only [decide_eq_true_eq, decide_eq_false_iff_not] at hcond) | (refine gd_i ?_; intro hg; try simp only [hg]) | refine goCall_W e7 (h7x) ?_ ?_ ?_ ?_ | ((first | show @LE.le Nat _ _ _ | show @LT.lt Nat _ _ _ | show @LE.le Int _ _ _ | show @LT.lt Int _ _ _ | show @Eq Nat _ _ | show @Eq Int _ _ | show @Eq Bool _ _ | show _ ∨ _ | show ¬ _); first | omega | (simp only [decide_eq_true_eq, decide_eq_false_iff_not, List.length_cons, List.length_nil, List.length_append, List.length_map, Sh.size] <;> omega) | (go_unwrap; omega)) | ((first | refine PW.region ?_ | refine PW.regionQ ?_ | refine schedW_done_i ?_ | show (_ : Post) _ _ _ | show @Eq (List PV) _ _ | show @Eq Bool _ _ | show opsW _ _ _ _ _ _ _ _ | show okAll _ | show @Eq Bool _ _ ∨ _); focus (simp only [ha, hcut, SS, SS2, SS3, SS4, SS5, Option.map_some, Nat.reduceAdd, reduceIte, Nat.reduceEqDiff, Nat.reduceBEq, eq_self, implies_true, ne_eq, beq_self_eq_true, id_eq, reduceCtorEq]; (try go_unwrap; try simp only [ha, hcut, RR, reduceCtorEq]))) | refine And.intro ?_ ?_ | exact Or.inr ⟨rfl, Nat.le_refl _⟩ | exact (fun h => Bool.noConfusion h))
    refine Dg.obs_pure ⟨some 96, none, .call (.pv (.fn 7 [] [])) [.tmp 95]⟩ _ rfl rfl rfl ?_ ?_
    · intro s hs env ha K hK
      simp only [CO.tms, Agr, List.filterMap_cons, List.filterMap_nil, List.cons_append, List.nil_append, get_cons, Nat.reduceEqDiff, if_false, if_true, reduceIte, and_true, VM3_3, NM3_3] at ha
      simp only [MM3_3] at hK ⊢
      repeat' (first | exact True.intro | (refine hK _ ?_; (try simp only [VM3_3, NM3_3, List.cons_append, List.nil_append, get_cons, get_nil, Nat.reduceEqDiff, if_false, if_true, reduceIte]) <;> rfl) | (refine PW.seqK ?_; intro K hK) | refine PW.block ?_ | refine PW.scope ?_ | refine PW.label ?_ | refine PW.exit ?_ | refine PW.ret ?_ | refine PW.skip ?_ | refine seqK_n (by assumption) ?_ | refine seqK_r (by assumption) ?_ | refine seqK_e (by assumption) ?_ | refine PW.regionA ?_ | exact schedW_stop_i | refine schK_n (by assumption) ?_ | (refine schedW_alt_k ?_ ?_; focus (intro K hK; simp only [ha, hcut, SS, SS2, SS3, SS4, SS5, Option.map_some, Nat.reduceAdd, reduceIte, Nat.reduceEqDiff, Nat.reduceBEq, eq_self, implies_true, ne_eq, beq_self_eq_true, id_eq, reduceCtorEq]; (try go_unwrap; try simp only [ha, hcut, RR, reduceCtorEq]))) | (refine PW.cond rfl ?_ ?_ <;> intro hcond <;> (try contradiction) <;> try simp only [decide_eq_true_eq, decide_eq_false_iff_not] at hcond) | (refine gd_i ?_; intro hg; try simp only [hg]) | refine goCall_W e7 (h7x) ?_ ?_ ?_ ?_ | ((first | show @LE.le Nat _ _ _ | show @LT.lt Nat _ _ _ | show @LE.le Int _ _ _ | show @LT.lt Int _ _ _ | show @Eq Nat _ _ | show @Eq Int _ _ | show @Eq Bool _ _ | show _ ∨ _ | show ¬ _); first | omega | (simp only [decide_eq_true_eq, decide_eq_false_iff_not, List.length_cons, List.length_nil, List.length_append, List.length_map, Sh.size] <;> omega) | (go_unwrap; omega)) | ((first | refine PW.region ?_ | refine PW.regionQ ?_ | refine schedW_done_i ?_ | show (_ : Post) _ _ _ | show @Eq (List PV) _ _ | show @Eq Bool _ _ | show opsW _ _ _ _ _ _ _ _ | show okAll _ | show @Eq Bool _ _ ∨ _); focus (simp only [ha, hcut, SS, SS2, SS3, SS4, SS5, Option.map_some, Nat.reduceAdd, reduceIte, Nat.reduceEqDiff, Nat.reduceBEq, eq_self, implies_true, ne_eq, beq_self_eq_true, id_eq, reduceCtorEq]; (try go_unwrap; try simp only [ha, hcut, RR, reduceCtorEq]))) | refine And.intro ?_ ?_ | exact Or.inr ⟨rfl, Nat.le_refl _⟩ | exact (fun h => Bool.noConfusion h))
    refine Dg.obs_pure ⟨some 97, none, .rd (.load (some 5)) [.tmp 16]⟩ _ rfl rfl rfl ?_ ?_
    · intro s hs env ha K hK
      simp only [CO.tms, Agr, List.filterMap_cons, List.filterMap_nil, List.cons_append, List.nil_append, get_cons, Nat.reduceEqDiff, if_false, if_true, reduceIte, and_true, VM3_3, NM3_3] at ha
      simp only [MM3_3] at hK ⊢
      repeat' (first | exact True.intro | (refine hK _ ?_; (try simp only [VM3_3, NM3_3, List.cons_append, List.nil_append, get_cons, get_nil, Nat.reduceEqDiff, if_false, if_true, reduceIte]) <;> rfl) | (refine PW.seqK ?_; intro K hK) | refine PW.block ?_ | refine PW.scope ?_ | refine PW.label ?_ | refine PW.exit ?_ | refine PW.ret ?_ | refine PW.skip ?_ | refine seqK_n (by assumption) ?_ | refine seqK_r (by assumption) ?_ | refine seqK_e (by assumption) ?_ | refine PW.regionA ?_ | exact schedW_stop_i | refine schK_n (by assumption) ?_ | (refine schedW_alt_k ?_ ?_; focus (intro K hK; simp only [ha, hcut, SS, SS2, SS3, SS4, SS5, Option.map_some, Nat.reduceAdd, reduceIte, Nat.reduceEqDiff, Nat.reduceBEq, eq_self, implies_true, ne_eq, beq_self_eq_true, id_eq, reduceCtorEq]; (try go_unwrap; try simp only [ha, hcut, RR, reduceCtorEq]))) | (refine PW.cond rfl ?_ ?_ <;> intro hcond <;> (try contradiction) <;> try simp only [decide_eq_true_eq, decide_eq_false_iff_not] at hcond) | (refine gd_i ?_; intro hg; try simp only [hg]) | ((first | show @LE.le Nat _ _ _ | show @LT.lt Nat _ _ _ | show @LE.le Int _ _ _ | show @LT.lt Int _ _ _ | show @Eq Nat _ _ | show @Eq Int _ _ | show @Eq Bool _ _ | show _ ∨ _ | show ¬ _); first | omega | (simp only [decide_eq_true_eq, decide_eq_false_iff_not, List.length_cons, List.length_nil, List.length_append, List.length_map, Sh.size] <;> omega) | (go_unwrap; omega)) | ((first | refine PW.region ?_ | refine PW.regionQ ?_ | refine schedW_done_i ?_ | show (_ : Post) _ _ _ | show @Eq (List PV) _ _ | show @Eq Bool _ _ | show opsW _ _ _ _ _ _ _ _ | show okAll _ | show @Eq Bool _ _ ∨ _); focus (simp only [ha, hcut, SS, SS2, SS3, SS4, SS5, Option.map_some, Nat.reduceAdd, reduceIte, Nat.reduceEqDiff, Nat.reduceBEq, eq_self, implies_true, ne_eq, beq_self_eq_true, id_eq, reduceCtorEq]; (try go_unwrap; try simp only [ha, hcut, RR, reduceCtorEq]))) | refine And.intro ?_ ?_ | exact Or.inr ⟨rfl, Nat.le_refl _⟩ | exact (fun h => Bool.noConfusion h))
    refine Dg.obs_pure ⟨some 97, none, .rd (.load (some 5)) [.tmp 16]⟩ _ rfl rfl rfl ?_ ?_
    · intro s hs env ha K hK
      simp only [CO.tms, Agr, List.filterMap_cons, List.filterMap_nil, List.cons_append, List.nil_append, get_cons, Nat.reduceEqDiff, if_false, if_true, reduceIte, and_true, VM3_3, NM3_3] at ha
      simp only [MM3_3] at hK ⊢
      repeat' (first | exact True.intro | (refine hK _ ?_; (try simp only [VM3_3, NM3_3, List.cons_append, List.nil_append, get_cons, get_nil, Nat.reduceEqDiff, if_false, if_true, reduceIte]) <;> rfl) | (refine PW.seqK ?_; intro K hK) | refine PW.block ?_ | refine PW.scope ?_ | refine PW.label ?_ | refine PW.exit ?_ | refine PW.ret ?_ | refine PW.skip ?_ | refine seqK_n (by assumption) ?_ | refine seqK_r (by assumption) ?_ | refine seqK_e (by assumption) ?_ | refine PW.regionA ?_ | exact schedW_stop_i | refine schK_n (by assumption) ?_ | (refine schedW_alt_k ?_ ?_; focus (intro K hK; simp only [ha, hcut, SS, SS2, SS3, SS4, SS5, Option.map_some, Nat.reduceAdd, reduceIte, Nat.reduceEqDiff, Nat.reduceBEq, eq_self, implies_true, ne_eq, beq_self_eq_true, id_eq, reduceCtorEq]; (try go_unwrap; try simp only [ha, hcut, RR, reduceCtorEq]))) | (refine PW.cond rfl ?_ ?_ <;> intro hcond <;> (try contradiction) <;> try simp only [decide_eq_true_eq, decide_eq_false_iff_not] at hcond) | (refine gd_i ?_; intro hg; try simp only [hg]) | ((first | show @LE.le Nat _ _ _ | show @LT.lt Nat _ _ _ | show @LE.le Int _ _ _ | show @LT.lt Int _ _ _ | show @Eq Nat _ _ | show @Eq Int _ _ | show @Eq Bool _ _ | show _ ∨ _ | show ¬ _); first | omega | (simp only [decide_eq_true_eq, decide_eq_false_iff_not, List.length_cons, List.length_nil, List.length_append, List.length_map, Sh.size] <;> omega) | (go_unwrap; omega)) | ((first | refine PW.region ?_ | refine PW.regionQ ?_ | refine schedW_done_i ?_ | show (_ : Post) _ _ _ | show @Eq (List PV) _ _ | show @Eq Bool _ _ | show opsW _ _ _ _ _ _ _ _ | show okAll _ | show @Eq Bool _ _ ∨ _); focus (simp only [ha, hcut, SS, SS2, SS3, SS4, SS5, Option.map_some, Nat.reduceAdd, reduceIte, Nat.reduceEqDiff, Nat.reduceBEq, eq_self, implies_true, ne_eq, beq_self_eq_true, id_eq, reduceCtorEq]; (try go_unwrap; try simp only [ha, hcut, RR, reduceCtorEq]))) | refine And.intro ?_ ?_ | exact Or.inr ⟨rfl, Nat.le_refl _⟩ | exact (fun h => Bool.noConfusion h))
    refine Dg.obs_pure ⟨some 97, none, .rd (.load (some 5)) [.tmp 16]⟩ _ rfl rfl rfl ?_ ?_
    · intro s hs env ha K hK
      simp only [CO.tms, Agr, List.filterMap_cons, List.filterMap_nil, List.cons_append, List.nil_append, get_cons, Nat.reduceEqDiff, if_false, if_true, reduceIte, and_true, VM3_3, NM3_3] at ha
      simp only [MM3_3] at hK ⊢
      repeat' (first | exact True.intro | (refine hK _ ?_; (try simp only [VM3_3, NM3_3, List.cons_append, List.nil_append, get_cons, get_nil, Nat.reduceEqDiff, if_false, if_true, reduceIte]) <;> rfl) | (refine PW.seqK ?_; intro K hK) | refine PW.block ?_ | refine PW.scope ?_ | refine PW.label ?_ | refine PW.exit ?_ | refine PW.ret ?_ | refine PW.skip ?_ | refine seqK_n (by assumption) ?_ | refine seqK_r (by assumption) ?_ | refine seqK_e (by assumption) ?_ | refine PW.regionA ?_ | exact schedW_stop_i | refine schK_n (by assumption) ?_ | (refine schedW_alt_k ?_ ?_; focus (intro K hK; simp only [ha, hcut, SS, SS2, SS3, SS4, SS5, Option.map_some, Nat.reduceAdd, reduceIte, Nat.reduceEqDiff, Nat.reduceBEq, eq_self, implies_true, ne_eq, beq_self_eq_true, id_eq, reduceCtorEq]; (try go_unwrap; try simp only [ha, hcut, RR, reduceCtorEq]))) | (refine PW.cond rfl ?_ ?_ <;> intro hcond <;> (try contradiction) <;> try simp only [decide_eq_true_eq, decide_eq_false_iff_not] at hcond) | (refine gd_i ?_; intro hg; try simp only [hg]) | ((first | show @LE.le Nat _ _ _ | show @LT.lt Nat _ _ _ | show @LE.le Int _ _ _ | show @LT.lt Int _ _ _ | show @Eq Nat _ _ | show @Eq Int _ _ | show @Eq Bool _ _ | show _ ∨ _ | show ¬ _); first | omega | (simp only [decide_eq_true_eq, decide_eq_false_iff_not, List.length_cons, List.length_nil, List.length_append, List.length_map, Sh.size] <;> omega) | (go_unwrap; omega)) | ((first | refine PW.region ?_ | refine PW.regionQ ?_ | refine schedW_done_i ?_ | show (_ : Post) _ _ _ | show @Eq (List PV) _ _ | show @Eq Bool _ _ | show opsW _ _ _ _ _ _ _ _ | show okAll _ | show @Eq Bool _ _ ∨ _); focus (simp only [ha, hcut, SS, SS2, SS3, SS4, SS5, Option.map_some, Nat.reduceAdd, reduceIte, Nat.reduceEqDiff, Nat.reduceBEq, eq_self, implies_true, ne_eq, beq_self_eq_true, id_eq, reduceCtorEq]; (try go_unwrap; try simp only [ha, hcut, RR, reduceCtorEq]))) | refine And.intro ?_ ?_ | exact Or.inr ⟨rfl, Nat.le_refl _⟩ | exact (fun h => Bool.noConfusion h))
    refine Dg.obs_pure ⟨some 97, none, .rd (.load (some 5)) [.tmp 16]⟩ _ rfl rfl rfl ?_ ?_
    · intro s hs env ha K hK
      simp only [CO.tms, Agr, List.filterMap_cons, List.filterMap_nil, List.cons_append, List.nil_append, get_cons, Nat.reduceEqDiff, if_false, if_true, reduceIte, and_true, VM3_3, NM3_3] at ha
      simp only [MM3_3] at hK ⊢
      repeat' (first | exact True.intro | (refine hK _ ?_; (try simp only [VM3_3, NM3_3, List.cons_append, List.nil_append, get_cons, get_nil, Nat.reduceEqDiff, if_false, if_true, reduceIte]) <;> rfl) | (refine PW.seqK ?_; intro K hK) | refine PW.block ?_ | refine PW.scope ?_ | refine PW.label ?_ | refine PW.exit ?_ | refine PW.ret ?_ | refine PW.skip ?_ | refine seqK_n (by assumption) ?_ | refine seqK_r (by assumption) ?_ | refine seqK_e (by assumption) ?_ | refine PW.regionA ?_ | exact schedW_stop_i | refine schK_n (by assumption) ?_ | (refine schedW_alt_k ?_ ?_; focus (intro K hK; simp only [ha, hcut, SS, SS2, SS3, SS4, SS5, Option.map_some, Nat.reduceAdd, reduceIte, Nat.reduceEqDiff, Nat.reduceBEq, eq_self, implies_true, ne_eq, beq_self_eq_true, id_eq, reduceCtorEq]; (try go_unwrap; try simp only [ha, hcut, RR, reduceCtorEq]))) | (refine PW.cond rfl ?_ ?_ <;> intro hcond <;> (try contradiction) <;> try simp only [decide_eq_true_eq, decide_eq_false_iff_not] at hcond) | (refine gd_i ?_; intro hg; try simp only [hg]) | ((first | show @LE.le Nat _ _ _ | show @LT.lt Nat _ _ _ | show @LE.le Int _ _ _ | show @LT.lt Int _ _ _ | show @Eq Nat _ _ | show @Eq Int _ _ | show @Eq Bool _ _ | show _ ∨ _ | show ¬ _); first | omega | (simp only [decide_eq_true_eq, decide_eq_false_iff_not, List.length_cons, List.length_nil, List.length_append, List.length_map, Sh.size] <;> omega) | (go_unwrap; omega)) | ((first | refine PW.region ?_ | refine PW.regionQ ?_ | refine schedW_done_i ?_ | show (_ : Post) _ _ _ | show @Eq (List PV) _ _ | show @Eq Bool _ _ | show opsW _ _ _ _ _ _ _ _ | show okAll _ | show @Eq Bool _ _ ∨ _); focus (simp only [ha, hcut, SS, SS2, SS3, SS4, SS5, Option.map_some, Nat.reduceAdd, reduceIte, Nat.reduceEqDiff, Nat.reduceBEq, eq_self, implies_true, ne_eq, beq_self_eq_true, id_eq, reduceCtorEq]; (try go_unwrap; try simp only [ha, hcut, RR, reduceCtorEq]))) | refine And.intro ?_ ?_ | exact Or.inr ⟨rfl, Nat.le_refl _⟩ | exact (fun h => Bool.noConfusion h))
    refine Dg.obs_pure ⟨some 98, none, .call (.pv (.fn 7 [] [])) [.tmp 97]⟩ _ rfl rfl rfl ?_ ?_
    · intro s hs env ha K hK
      simp only [CO.tms, Agr, List.filterMap_cons, List.filterMap_nil, List.cons_append, List.nil_append, get_cons, Nat.reduceEqDiff, if_false, if_true, reduceIte, and_true, VM3_3, NM3_3] at ha
      simp only [MM3_3] at hK ⊢
      repeat' (first | exact True.intro | (refine hK _ ?_; (try simp only [VM3_3, NM3_3, List.cons_append, List.nil_append, get_cons, get_nil, Nat.reduceEqDiff, if_false, if_true, reduceIte]) <;> rfl) | (refine PW.seqK ?_; intro K hK) | refine PW.block ?_ | refine PW.scope ?_ | refine PW.label ?_ | refine PW.exit ?_ | refine PW.ret ?_ | refine PW.skip ?_ | refine seqK_n (by assumption) ?_ | refine seqK_r (by assumption) ?_ | refine seqK_e (by assumption) ?_ | refine PW.regionA ?_ | exact schedW_stop_i | refine schK_n (by assumption) ?_ | (refine schedW_alt_k ?_ ?_; focus (intro K hK; simp only [ha, hcut, SS, SS2, SS3, SS4, SS5, Option.map_some, Nat.reduceAdd, reduceIte, Nat.reduceEqDiff, Nat.reduceBEq, eq_self, implies_true, ne_eq, beq_self_eq_true, id_eq, reduceCtorEq]; (try go_unwrap; try simp only [ha, hcut, RR, reduceCtorEq]))) | (refine PW.cond rfl ?_ ?_ <;> intro hcond <;> (try contradiction) <;> try simp only [decide_eq_true_eq, decide_eq_false_iff_not] at hcond) | (refine gd_i ?_; intro hg; try simp only [hg]) | refine goCall_W e7 (h7y) ?_ ?_ ?_ ?_ | ((first | show @LE.le Nat _ _ _ | show @LT.lt Nat _ _ _ | show @LE.le Int _ _ _ | show @LT.lt Int _ _ _ | show @Eq Nat _ _ | show @Eq Int _ _ | show @Eq Bool _ _ | show _ ∨ _ | show ¬ _); first | omega | (simp only [decide_eq_true_eq, decide_eq_false_iff_not, List.length_cons, List.length_nil, List.length_append, List.length_map, Sh.size] <;> omega) | (go_unwrap; omega)) | ((first | refine PW.region ?_ | refine PW.regionQ ?_ | refine schedW_done_i ?_ | show (_ : Post) _ _ _ | show @Eq (List PV) _ _ | show @Eq Bool _ _ | show opsW _ _ _ _ _ _ _ _ | show okAll _ | show @Eq Bool _ _ ∨ _); focus (simp only [ha, hcut, SS, SS2, SS3, SS4, SS5, Option.map_some, Nat.reduceAdd, reduceIte, Nat.reduceEqDiff, Nat.reduceBEq, eq_self, implies_true, ne_eq, beq_self_eq_true, id_eq, reduceCtorEq]; (try go_unwrap; try simp only [ha, hcut, RR, reduceCtorEq]))) | refine And.intro ?_ ?_ | exact Or.inr ⟨rfl, Nat.le_refl _⟩ | exact (fun h => Bool.noConfusion h))
    refine Dg.obs_pure ⟨some 98, none, .call (.pv (.fn 7 [] [])) [.tmp 97]⟩ _ rfl rfl rfl ?_ ?_
    · intro s hs env ha K hK
      simp only [CO.tms, Agr, List.filterMap_cons, List.filterMap_nil, List.cons_append, List.nil_append, get_cons, Nat.reduceEqDiff, if_false, if_true, reduceIte, and_true, VM3_3, NM3_3] at ha
      simp only [MM3_3] at hK ⊢
      repeat' (first | exact True.intro | (refine hK _ ?_; (try simp only [VM3_3, NM3_3, List.cons_append, List.nil_append, get_cons, get_nil, Nat.reduceEqDiff, if_false, if_true, reduceIte]) <;> rfl) | (refine PW.seqK ?_; intro K hK) | refine PW.block ?_ | refine PW.scope ?_ | refine PW.label ?_ | refine PW.exit ?_ | refine PW.ret ?_ | refine PW.skip ?_ | refine seqK_n (by assumption) ?_ | refine seqK_r (by assumption) ?_ | refine seqK_e (by assumption) ?_ | refine PW.regionA ?_ | exact schedW_stop_i | refine schK_n (by assumption) ?_ | (refine schedW_alt_k ?_ ?_; focus (intro K hK; simp only [ha, hcut, SS, SS2, SS3, SS4, SS5, Option.map_some, Nat.reduceAdd, reduceIte, Nat.reduceEqDiff, Nat.reduceBEq, eq_self, implies_true, ne_eq, beq_self_eq_true, id_eq, reduceCtorEq]; (try go_unwrap; try simp only [ha, hcut, RR, reduceCtorEq]))) | (refine PW.cond rfl ?_ ?_ <;> intro hcond <;> (try contradiction) <;> try simp only [decide_eq_true_eq, decide_eq_false_iff_not] at hcond) | (refine gd_i ?_; intro hg; try simp only [hg]) | refine goCall_W e7 (h7y) ?_ ?_ ?_ ?_ | ((first | show @LE.le Nat _ _ _ | show @LT.lt Nat _ _ _ | show @LE.le Int _ _ _ | show @LT.lt Int _ _ _ | show @Eq Nat _ _ | show @Eq Int _ _ | show @Eq Bool _ _ | show _ ∨ _ | show ¬ _); first | omega | (simp only [decide_eq_true_eq, decide_eq_false_iff_not, List.length_cons, List.length_nil, List.length_append, List.length_map, Sh.size] <;> omega) | (go_unwrap; omega)) | ((first | refine PW.region ?_ | refine PW.regionQ ?_ | refine schedW_done_i ?_ | show (_ : Post) _ _ _ | show @Eq (List PV) _ _ | show @Eq Bool _ _ | show opsW _ _ _ _ _ _ _ _ | show okAll _ | show @Eq Bool _ _ ∨ _); focus (simp only [ha, hcut, SS, SS2, SS3, SS4, SS5, Option.map_some, Nat.reduceAdd, reduceIte, Nat.reduceEqDiff, Nat.reduceBEq, eq_self, implies_true, ne_eq, beq_self_eq_true, id_eq, reduceCtorEq]; (try go_unwrap; try simp only [ha, hcut, RR, reduceCtorEq]))) | refine And.intro ?_ ?_ | exact Or.inr ⟨rfl, Nat.le_refl _⟩ | exact (fun h => Bool.noConfusion h))
    refine Dg.obs_pure ⟨some 98, none, .call (.pv (.fn 7 [] [])) [.tmp 97]⟩ _ rfl rfl rfl ?_ ?_
    · intro s hs env ha K hK
      simp only [CO.tms, Agr, List.filterMap_cons, List.filterMap_nil, List.cons_append, List.nil_append, get_cons, Nat.reduceEqDiff, if_false, if_true, reduceIte, and_true, VM3_3, NM3_3] at ha
      simp only [MM3_3] at hK ⊢
      repeat' (first | exact True.intro | (refine hK _ ?_; (try simp only [VM3_3, NM3_3, List.cons_append, List.nil_append, get_cons, get_nil, Nat.reduceEqDiff, if_false, if_true, reduceIte]) <;> rfl) | (refine PW.seqK ?_; intro K hK) | refine PW.block ?_ | refine PW.scope ?_ | refine PW.label ?_ | refine PW.exit ?_ | refine PW.ret ?_ | refine PW.skip ?_ | refine seqK_n (by assumption) ?_ | refine seqK_r (by assumption) ?_ | refine seqK_e (by assumption) ?_ | refine PW.regionA ?_ | exact schedW_stop_i | refine schK_n (by assumption) ?_ | (refine schedW_alt_k ?_ ?_; focus (intro K hK; simp only [ha, hcut, SS, SS2, SS3, SS4, SS5, Option.map_some, Nat.reduceAdd, reduceIte, Nat.reduceEqDiff, Nat.reduceBEq, eq_self, implies_true, ne_eq, beq_self_eq_true, id_eq, reduceCtorEq]; (try go_unwrap; try simp only [ha, hcut, RR, reduceCtorEq]))) | (refine PW.cond rfl ?_ ?_ <;> intro hcond <;> (try contradiction) <;> try simp only [decide_eq_true_eq, decide_eq_false_iff_not] at hcond) | (refine gd_i ?_; intro hg; try simp only [hg]) | refine goCall_W e7 (h7y) ?_ ?_ ?_ ?_ | ((first | show @LE.le Nat _ _ _ | show @LT.lt Nat _ _ _ | show @LE.le Int _ _ _ | show @LT.lt Int _ _ _ | show @Eq Nat _ _ | show @Eq Int _ _ | show @Eq Bool _ _ | show _ ∨ _ | show ¬ _); first | omega | (simp only [decide_eq_true_eq, decide_eq_false_iff_not, List.length_cons, List.length_nil, List.length_append, List.length_map, Sh.size] <;> omega) | (go_unwrap; omega)) | ((first | refine PW.region ?_ | refine PW.regionQ ?_ | refine schedW_done_i ?_ | show (_ : Post) _ _ _ | show @Eq (List PV) _ _ | show @Eq Bool _ _ | show opsW _ _ _ _ _ _ _ _ | show okAll _ | show @Eq Bool _ _ ∨ _); focus (simp only [ha, hcut, SS, SS2, SS3, SS4, SS5, Option.map_some, Nat.reduceAdd, reduceIte, Nat.reduceEqDiff, Nat.reduceBEq, eq_self, implies_true, ne_eq, beq_self_eq_true, id_eq, reduceCtorEq]; (try go_unwrap; try simp only [ha, hcut, RR, reduceCtorEq]))) | refine And.intro ?_ ?_ | exact Or.inr ⟨rfl, Nat.le_refl _⟩ | exact (fun h => Bool.noConfusion h))
    refine Dg.obs_pure ⟨some 98, none, .call (.pv (.fn 7 [] [])) [.tmp 97]⟩ _ rfl rfl rfl ?_ ?_
    · intro s hs env ha K hK
      simp only [CO.tms, Agr, List.filterMap_cons, List.filterMap_nil, List.cons_append, List.nil_append, get_cons, Nat.reduceEqDiff, if_false, if_true, reduceIte, and_true, VM3_3, NM3_3] at ha
      simp only [MM3_3] at hK ⊢
      repeat' (first | exact True.intro | (refine hK _ ?_; (try simp only [VM3_3, NM3_3, List.cons_append, List.nil_append, get_cons, get_nil, Nat.reduceEqDiff, if_false, if_true, reduceIte]) <;> rfl) | (refine PW.seqK ?_; intro K hK) | refine PW.block ?_ | refine PW.scope ?_ | refine PW.label ?_ | refine PW.exit ?_ | refine PW.ret ?_ | refine PW.skip ?_ | refine seqK_n (by assumption) ?_ | refine seqK_r (by assumption) ?_ | refine seqK_e (by assumption) ?_ | refine PW.regionA ?_ | exact schedW_stop_i | refine schK_n (by assumption) ?_ | (refine schedW_alt_k ?_ ?_; focus (intro K hK; simp only [ha, hcut, SS, SS2, SS3, SS4, SS5, Option.map_some, Nat.reduceAdd, reduceIte, Nat.reduceEqDiff, Nat.reduceBEq, eq_self, implies_true, ne_eq, beq_self_eq_true, id_eq, reduceCtorEq]; (try go_unwrap; try simp only [ha, hcut, RR, reduceCtorEq]))) | (refine PW.cond rfl ?_ ?_ <;> intro hcond <;> (try contradiction) <;> try simp only [decide_eq_true_eq, decide_eq_false_iff_not] at hcond) | (refine gd_i ?_; intro hg; try simp only [hg]) | refine goCall_W e7 (h7y) ?_ ?_ ?_ ?_ | ((first | show @LE.le Nat _ _ _ | show @LT.lt Nat _ _ _ | show @LE.le Int _ _ _ | show @LT.lt Int _ _ _ | show @Eq Nat _ _ | show @Eq Int _ _ | show @Eq Bool _ _ | show _ ∨ _ | show ¬ _); first | omega | (simp only [decide_eq_true_eq, decide_eq_false_iff_not, List.length_cons, List.length_nil, List.length_append, List.length_map, Sh.size] <;> omega) | (go_unwrap; omega)) | ((first | refine PW.region ?_ | refine PW.regionQ ?_ | refine schedW_done_i ?_ | show (_ : Post) _ _ _ | show @Eq (List PV) _ _ | show @Eq Bool _ _ | show opsW _ _ _ _ _ _ _ _ | show okAll _ | show @Eq Bool _ _ ∨ _); focus (simp only [ha, hcut, SS, SS2, SS3, SS4, SS5, Option.map_some, Nat.reduceAdd, reduceIte, Nat.reduceEqDiff, Nat.reduceBEq, eq_self, implies_true, ne_eq, beq_self_eq_true, id_eq, reduceCtorEq]; (try go_unwrap; try simp only [ha, hcut, RR, reduceCtorEq]))) | refine And.intro ?_ ?_ | exact Or.inr ⟨rfl, Nat.le_refl _⟩ | exact (fun h => Bool.noConfusion h))
    refine Dg.obs_alloc ⟨some 17, none, .eff (.alloc (some 8) (.agg [(.int .u32 0), (.int .u32 0), (.int .i64 0), (.int .i64 0), (.int .i64 0), (.str []), (.int .i64 0), (.str [])])) []⟩ rfl rfl ?_ ?_
    · intro s hs env ha K hK
      simp only [CO.tms, Agr, List.filterMap_cons, List.filterMap_nil, List.cons_append, List.nil_append, get_cons, Nat.reduceEqDiff, if_false, if_true, reduceIte, and_true, VM3_3, NM3_3] at ha
      simp only [MM3_3]
      repeat' (first | exact True.intro | (refine hK () _ _ (Wk.sw 2 0 (by simp) (by simp) rfl rfl (Wk.trim 2 (fun _ _ => rfl) (Wk.id ⟨?_, Upd.mk' (fun p => (p.ren (swp 2 0)).kill fun t => decide (2 ≤ t)) trivial ?_ ?_ ?_⟩))); (focus (simp only [MM3_3, swM, swL, trimM, List.map_cons, List.map_nil, Option.map_some, Option.map_none, MObj.ren, PV.ren, MObj.kill, PV.kill, List.set_cons_zero, List.set_cons_succ, List.getD_cons_zero, List.getD_cons_succ, List.take_succ_cons, List.take_zero, List.cons_append, List.nil_append])); (focus (intro r hr; (try simp only [trimE_get, get_swE, get_frzE, get_killE, get_mapK]); rw [get_cons, if_neg (fun e => hr (by rw [e]))]; try ((try simp only [trimE_get, get_swE, get_frzE, get_killE, get_mapK]) <;> rfl))); (focus (intro r hr hne; simp only [gM3_3, List.getD_cons_zero, List.getD_cons_succ, List.mem_cons, List.not_mem_nil, or_false] at hr; rcases hr with rfl | rfl | rfl | rfl | rfl | rfl | rfl | rfl | rfl | rfl | rfl | rfl | rfl | rfl | rfl | rfl | rfl | rfl | rfl | rfl | rfl | rfl | rfl | rfl | rfl | rfl | rfl | rfl | rfl | rfl | rfl | rfl | rfl | rfl | rfl | rfl | rfl | rfl | rfl | rfl | rfl | rfl | rfl | rfl | rfl | rfl | rfl | rfl | rfl | rfl | rfl | rfl | rfl | rfl | rfl | rfl | rfl | rfl <;> first | (exact absurd rfl hne) | (simp only [VM3_3, NM3_3, List.cons_append, List.nil_append, get_cons, get_nil, Nat.reduceEqDiff, if_false, if_true, reduceIte, PV.ren, PV.kill, PV.frz, frzSl, frzM, swp, killTag, decide_true, decide_false, Nat.reduceLeDiff, Nat.reduceBEq, beq_self_eq_true, List.map_cons, List.map_nil, Bool.false_eq_true]; done) | rfl | simp [VM3_3, NM3_3, get_cons, PV.ren, PV.kill, PV.frz, frzSl, frzM, swp, killTag])); (focus ((intro r hr; cases hr; (try simp only [trimE_get, get_swE, get_frzE, get_killE, get_mapK, get_cons, if_true, reduceIte]); simp only [VM3_3, NM3_3, List.cons_append, List.nil_append, get_cons, get_nil, Nat.reduceEqDiff, if_false, if_true, reduceIte, PV.ren, PV.kill, PV.frz, swp, decide_true, decide_false, Nat.reduceLeDiff, Bool.false_eq_true, List.map_cons, List.map_nil, List.length_nil, List.length_cons, Nat.zero_add]) <;> (first | rfl | simp)))) | (refine PW.seqK ?_; intro K hK) | refine PW.block ?_ | refine PW.scope ?_ | refine PW.label ?_ | refine PW.exit ?_ | refine PW.ret ?_ | refine PW.skip ?_ | refine seqK_n (by assumption) ?_ | refine seqK_r (by assumption) ?_ | refine seqK_e (by assumption) ?_ | refine PW.regionA ?_ | exact schedW_stop_i | refine schK_n (by assumption) ?_ | (refine schedW_alt_k ?_ ?_; focus (intro K hK; simp only [ha, hcut, SS, SS2, SS3, SS4, SS5, Option.map_some, Nat.reduceAdd, reduceIte, Nat.reduceEqDiff, Nat.reduceBEq, eq_self, implies_true, ne_eq, beq_self_eq_true, id_eq, reduceCtorEq]; (try go_unwrap; try simp only [ha, hcut, RR, reduceCtorEq]))) | (refine PW.cond rfl ?_ ?_ <;> intro hcond <;> (try contradiction) <;> try simp only [decide_eq_true_eq, decide_eq_false_iff_not] at hcond) | (refine gd_i ?_; intro hg; try simp only [hg]) | ((first | show @LE.le Nat _ _ _ | show @LT.lt Nat _ _ _ | show @LE.le Int _ _ _ | show @LT.lt Int _ _ _ | show @Eq Nat _ _ | show @Eq Int _ _ | show @Eq Bool _ _ | show _ ∨ _ | show ¬ _); first | omega | (simp only [decide_eq_true_eq, decide_eq_false_iff_not, List.length_cons, List.length_nil, List.length_append, List.length_map, Sh.size] <;> omega) | (go_unwrap; omega)) | ((first | refine PW.region ?_ | refine PW.regionQ ?_ | refine schedW_done_i ?_ | show (_ : Post) _ _ _ | show @Eq (List PV) _ _ | show @Eq Bool _ _ | show opsW _ _ _ _ _ _ _ _ | show okAll _ | show @Eq Bool _ _ ∨ _); focus (simp only [ha, hcut, SS, SS2, SS3, SS4, SS5, Option.map_some, Nat.reduceAdd, reduceIte, Nat.reduceEqDiff, Nat.reduceBEq, eq_self, implies_true, ne_eq, beq_self_eq_true, id_eq, reduceCtorEq]; (try go_unwrap; try simp only [ha, hcut, RR, reduceCtorEq]))) | refine And.intro ?_ ?_ | exact Or.inr ⟨rfl, Nat.le_refl _⟩ | exact (fun h => Bool.noConfusion h))
    refine Dg.obs_alloc ⟨some 17, none, .eff (.alloc (some 8) (.agg [(.int .u32 0), (.int .u32 0), (.int .i64 0), (.int .i64 0), (.int .i64 0), (.str []), (.int .i64 0), (.str [])])) []⟩ rfl rfl ?_ ?_
    · intro s hs env ha K hK
      simp only [CO.tms, Agr, List.filterMap_cons, List.filterMap_nil, List.cons_append, List.nil_append, get_cons, Nat.reduceEqDiff, if_false, if_true, reduceIte, and_true, VM3_3, NM3_3] at ha
      simp only [MM3_3]
      repeat' (first | exact True.intro | (refine hK () _ _ (Wk.sw 2 0 (by simp) (by simp) rfl rfl (Wk.trim 2 (fun _ _ => rfl) (Wk.id ⟨?_, Upd.mk' (fun p => (p.ren (swp 2 0)).kill fun t => decide (2 ≤ t)) trivial ?_ ?_ ?_⟩))); (focus (simp only [MM3_3, swM, swL, trimM, List.map_cons, List.map_nil, Option.map_some, Option.map_none, MObj.ren, PV.ren, MObj.kill, PV.kill, List.set_cons_zero, List.set_cons_succ, List.getD_cons_zero, List.getD_cons_succ, List.take_succ_cons, List.take_zero, List.cons_append, List.nil_append])); (focus (intro r hr; (try simp only [trimE_get, get_swE, get_frzE, get_killE, get_mapK]); rw [get_cons, if_neg (fun e => hr (by rw [e]))]; try ((try simp only [trimE_get, get_swE, get_frzE, get_killE, get_mapK]) <;> rfl))); (focus (intro r hr hne; simp only [gM3_3, List.getD_cons_zero, List.getD_cons_succ, List.mem_cons, List.not_mem_nil, or_false] at hr; rcases hr with rfl | rfl | rfl | rfl | rfl | rfl | rfl | rfl | rfl | rfl | rfl | rfl | rfl | rfl | rfl | rfl | rfl | rfl | rfl | rfl | rfl | rfl | rfl | rfl | rfl | rfl | rfl | rfl | rfl | rfl | rfl | rfl | rfl | rfl | rfl | rfl | rfl | rfl | rfl | rfl | rfl | rfl | rfl | rfl | rfl | rfl | rfl | rfl | rfl | rfl | rfl | rfl | rfl | rfl | rfl | rfl | rfl | rfl <;> first | (exact absurd rfl hne) | (simp only [VM3_3, NM3_3, List.cons_append, List.nil_append, get_cons, get_nil, Nat.reduceEqDiff, if_false, if_true, reduceIte, PV.ren, PV.kill, PV.frz, frzSl, frzM, swp, killTag, decide_true, decide_false, Nat.reduceLeDiff, Nat.reduceBEq, beq_self_eq_true, List.map_cons, List.map_nil, Bool.false_eq_true]; done) | rfl | simp [VM3_3, NM3_3, get_cons, PV.ren, PV.kill, PV.frz, frzSl, frzM, swp, killTag])); (focus ((intro r hr; cases hr; (try simp only [trimE_get, get_swE, get_frzE, get_killE, get_mapK, get_cons, if_true, reduceIte]); simp only [VM3_3, NM3_3, List.cons_append, List.nil_append, get_cons, get_nil, Nat.reduceEqDiff, if_false, if_true, reduceIte, PV.ren, PV.kill, PV.frz, swp, decide_true, decide_false, Nat.reduceLeDiff, Bool.false_eq_true, List.map_cons, List.map_nil, List.length_nil, List.length_cons, Nat.zero_add]) <;> (first | rfl | simp)))) | (refine PW.seqK ?_; intro K hK) | refine PW.block ?_ | refine PW.scope ?_ | refine PW.label ?_ | refine PW.exit ?_ | refine PW.ret ?_ | refine PW.skip ?_ | refine seqK_n (by assumption) ?_ | refine seqK_r (by assumption) ?_ | refine seqK_e (by assumption) ?_ | refine PW.regionA ?_ | exact schedW_stop_i | refine schK_n (by assumption) ?_ | (refine schedW_alt_k ?_ ?_; focus (intro K hK; simp only [ha, hcut, SS, SS2, SS3, SS4, SS5, Option.map_some, Nat.reduceAdd, reduceIte, Nat.reduceEqDiff, Nat.reduceBEq, eq_self, implies_true, ne_eq, beq_self_eq_true, id_eq, reduceCtorEq]; (try go_unwrap; try simp only [ha, hcut, RR, reduceCtorEq]))) | (refine PW.cond rfl ?_ ?_ <;> intro hcond <;> (try contradiction) <;> try simp only [decide_eq_true_eq, decide_eq_false_iff_not] at hcond) | (refine gd_i ?_; intro hg; try simp only [hg]) | ((first | show @LE.le Nat _ _ _ | show @LT.lt Nat _ _ _ | show @LE.le Int _ _ _ | show @LT.lt Int _ _ _ | show @Eq Nat _ _ | show @Eq Int _ _ | show @Eq Bool _ _ | show _ ∨ _ | show ¬ _); first | omega | (simp only [decide_eq_true_eq, decide_eq_false_iff_not, List.length_cons, List.length_nil, List.length_append, List.length_map, Sh.size] <;> omega) | (go_unwrap; omega)) | ((first | refine PW.region ?_ | refine PW.regionQ ?_ | refine schedW_done_i ?_ | show (_ : Post) _ _ _ | show @Eq (List PV) _ _ | show @Eq Bool _ _ | show opsW _ _ _ _ _ _ _ _ | show okAll _ | show @Eq Bool _ _ ∨ _); focus (simp only [ha, hcut, SS, SS2, SS3, SS4, SS5, Option.map_some, Nat.reduceAdd, reduceIte, Nat.reduceEqDiff, Nat.reduceBEq, eq_self, implies_true, ne_eq, beq_self_eq_true, id_eq, reduceCtorEq]; (try go_unwrap; try simp only [ha, hcut, RR, reduceCtorEq]))) | refine And.intro ?_ ?_ | exact Or.inr ⟨rfl, Nat.le_refl _⟩ | exact (fun h => Bool.noConfusion h))
    refine Dg.obs_alloc ⟨some 18, none, .eff (.alloc (some 8) (.agg [(.int .u32 0), (.int .u32 0), (.int .i64 0), (.int .i64 0), (.int .i64 0), (.str []), (.int .i64 0), (.str [])])) []⟩ rfl rfl ?_ ?_
    · intro s hs env ha K hK
      simp only [CO.tms, Agr, List.filterMap_cons, List.filterMap_nil, List.cons_append, List.nil_append, get_cons, Nat.reduceEqDiff, if_false, if_true, reduceIte, and_true, VM3_3, NM3_3] at ha
      simp only [MM3_3]
      repeat' (first | exact True.intro | (refine hK () _ _ (Wk.sw 2 1 (by simp) (by simp) rfl rfl (Wk.trim 2 (fun _ _ => rfl) (Wk.id ⟨?_, Upd.mk' (fun p => (p.ren (swp 2 1)).kill fun t => decide (2 ≤ t)) trivial ?_ ?_ ?_⟩))); (focus (simp only [MM3_3, swM, swL, trimM, List.map_cons, List.map_nil, Option.map_some, Option.map_none, MObj.ren, PV.ren, MObj.kill, PV.kill, List.set_cons_zero, List.set_cons_succ, List.getD_cons_zero, List.getD_cons_succ, List.take_succ_cons, List.take_zero, List.cons_append, List.nil_append])); (focus (intro r hr; (try simp only [trimE_get, get_swE, get_frzE, get_killE, get_mapK]); rw [get_cons, if_neg (fun e => hr (by rw [e]))]; try ((try simp only [trimE_get, get_swE, get_frzE, get_killE, get_mapK]) <;> rfl))); (focus (intro r hr hne; simp only [gM3_3, List.getD_cons_zero, List.getD_cons_succ, List.mem_cons, List.not_mem_nil, or_false] at hr; rcases hr with rfl | rfl | rfl | rfl | rfl | rfl | rfl | rfl | rfl | rfl | rfl | rfl | rfl | rfl | rfl | rfl | rfl | rfl | rfl | rfl | rfl | rfl | rfl | rfl | rfl | rfl | rfl | rfl | rfl | rfl | rfl | rfl | rfl | rfl | rfl | rfl | rfl | rfl | rfl | rfl | rfl | rfl | rfl | rfl | rfl | rfl | rfl | rfl | rfl | rfl | rfl | rfl | rfl | rfl | rfl | rfl | rfl | rfl <;> first | (exact absurd rfl hne) | (simp only [VM3_3, NM3_3, List.cons_append, List.nil_append, get_cons, get_nil, Nat.reduceEqDiff, if_false, if_true, reduceIte, PV.ren, PV.kill, PV.frz, frzSl, frzM, swp, killTag, decide_true, decide_false, Nat.reduceLeDiff, Nat.reduceBEq, beq_self_eq_true, List.map_cons, List.map_nil, Bool.false_eq_true]; done) | rfl | simp [VM3_3, NM3_3, get_cons, PV.ren, PV.kill, PV.frz, frzSl, frzM, swp, killTag])); (focus ((intro r hr; cases hr; (try simp only [trimE_get, get_swE, get_frzE, get_killE, get_mapK, get_cons, if_true, reduceIte]); simp only [VM3_3, NM3_3, List.cons_append, List.nil_append, get_cons, get_nil, Nat.reduceEqDiff, if_false, if_true, reduceIte, PV.ren, PV.kill, PV.frz, swp, decide_true, decide_false, Nat.reduceLeDiff, Bool.false_eq_true, List.map_cons, List.map_nil, List.length_nil, List.length_cons, Nat.zero_add]) <;> (first | rfl | simp)))) | (refine PW.seqK ?_; intro K hK) | refine PW.block ?_ | refine PW.scope ?_ | refine PW.label ?_ | refine PW.exit ?_ | refine PW.ret ?_ | refine PW.skip ?_ | refine seqK_n (by assumption) ?_ | refine seqK_r (by assumption) ?_ | refine seqK_e (by assumption) ?_ | refine PW.regionA ?_ | exact schedW_stop_i | refine schK_n (by assumption) ?_ | (refine schedW_alt_k ?_ ?_; focus (intro K hK; simp only [ha, hcut, SS, SS2, SS3, SS4, SS5, Option.map_some, Nat.reduceAdd, reduceIte, Nat.reduceEqDiff, Nat.reduceBEq, eq_self, implies_true, ne_eq, beq_self_eq_true, id_eq, reduceCtorEq]; (try go_unwrap; try simp only [ha, hcut, RR, reduceCtorEq]))) | (refine PW.cond rfl ?_ ?_ <;> intro hcond <;> (try contradiction) <;> try simp only [decide_eq_true_eq, decide_eq_false_iff_not] at hcond) | (refine gd_i ?_; intro hg; try simp only [hg]) | ((first | show @LE.le Nat _ _ _ | show @LT.lt Nat _ _ _ | show @LE.le Int _ _ _ | show @LT.lt Int _ _ _ | show @Eq Nat _ _ | show @Eq Int _ _ | show @Eq Bool _ _ | show _ ∨ _ | show ¬ _); first | omega | (simp only [decide_eq_true_eq, decide_eq_false_iff_not, List.length_cons, List.length_nil, List.length_append, List.length_map, Sh.size] <;> omega) | (go_unwrap; omega)) | ((first | refine PW.region ?_ | refine PW.regionQ ?_ | refine schedW_done_i ?_ | show (_ : Post) _ _ _ | show @Eq (List PV) _ _ | show @Eq Bool _ _ | show opsW _ _ _ _ _ _ _ _ | show okAll _ | show @Eq Bool _ _ ∨ _); focus (simp only [ha, hcut, SS, SS2, SS3, SS4, SS5, Option.map_some, Nat.reduceAdd, reduceIte, Nat.reduceEqDiff, Nat.reduceBEq, eq_self, implies_true, ne_eq, beq_self_eq_true, id_eq, reduceCtorEq]; (try go_unwrap; try simp only [ha, hcut, RR, reduceCtorEq]))) | refine And.intro ?_ ?_ | exact Or.inr ⟨rfl, Nat.le_refl _⟩ | exact (fun h => Bool.noConfusion h))
    refine Dg.obs_alloc ⟨some 18, none, .eff (.alloc (some 8) (.agg [(.int .u32 0), (.int .u32 0), (.int .i64 0), (.int .i64 0), (.int .i64 0), (.str []), (.int .i64 0), (.str [])])) []⟩ rfl rfl ?_ ?_
    · intro s hs env ha K hK
      simp only [CO.tms, Agr, List.filterMap_cons, List.filterMap_nil, List.cons_append, List.nil_append, get_cons, Nat.reduceEqDiff, if_false, if_true, reduceIte, and_true, VM3_3, NM3_3] at ha
      simp only [MM3_3]
      repeat' (first | exact True.intro | (refine hK () _ _ (Wk.sw 2 1 (by simp) (by simp) rfl rfl (Wk.trim 2 (fun _ _ => rfl) (Wk.id ⟨?_, Upd.mk' (fun p => (p.ren (swp 2 1)).kill fun t => decide (2 ≤ t)) trivial ?_ ?_ ?_⟩))); (focus (simp only [MM3_3, swM, swL, trimM, List.map_cons, List.map_nil, Option.map_some, Option.map_none, MObj.ren, PV.ren, MObj.kill, PV.kill, List.set_cons_zero, List.set_cons_succ, List.getD_cons_zero, List.getD_cons_succ, List.take_succ_cons, List.take_zero, List.cons_append, List.nil_append])); (focus (intro r hr; (try simp only [trimE_get, get_swE, get_frzE, get_killE, get_mapK]); rw [get_cons, if_neg (fun e => hr (by rw [e]))]; try ((try simp only [trimE_get, get_swE, get_frzE, get_killE, get_mapK]) <;> rfl))); (focus (intro r hr hne; simp only [gM3_3, List.getD_cons_zero, List.getD_cons_succ, List.mem_cons, List.not_mem_nil, or_false] at hr; rcases hr with rfl | rfl | rfl | rfl | rfl | rfl | rfl | rfl | rfl | rfl | rfl | rfl | rfl | rfl | rfl | rfl | rfl | rfl | rfl | rfl | rfl | rfl | rfl | rfl | rfl | rfl | rfl | rfl | rfl | rfl | rfl | rfl | rfl | rfl | rfl | rfl | rfl | rfl | rfl | rfl | rfl | rfl | rfl | rfl | rfl | rfl | rfl | rfl | rfl | rfl | rfl | rfl | rfl | rfl | rfl | rfl | rfl | rfl <;> first | (exact absurd rfl hne) | (simp only [VM3_3, NM3_3, List.cons_append, List.nil_append, get_cons, get_nil, Nat.reduceEqDiff, if_false, if_true, reduceIte, PV.ren, PV.kill, PV.frz, frzSl, frzM, swp, killTag, decide_true, decide_false, Nat.reduceLeDiff, Nat.reduceBEq, beq_self_eq_true, List.map_cons, List.map_nil, Bool.false_eq_true]; done) | rfl | simp [VM3_3, NM3_3, get_cons, PV.ren, PV.kill, PV.frz, frzSl, frzM, swp, killTag])); (focus ((intro r hr; cases hr; (try simp only [trimE_get, get_swE, get_frzE, get_killE, get_mapK, get_cons, if_true, reduceIte]); simp only [VM3_3, NM3_3, List.cons_append, List.nil_append, get_cons, get_nil, Nat.reduceEqDiff, if_false, if_true, reduceIte, PV.ren, PV.kill, PV.frz, swp, decide_true, decide_false, Nat.reduceLeDiff, Bool.false_eq_true, List.map_cons, List.map_nil, List.length_nil, List.length_cons, Nat.zero_add]) <;> (first | rfl | simp)))) | (refine PW.seqK ?_; intro K hK) | refine PW.block ?_ | refine PW.scope ?_ | refine PW.label ?_ | refine PW.exit ?_ | refine PW.ret ?_ | refine PW.skip ?_ | refine seqK_n (by assumption) ?_ | refine seqK_r (by assumption) ?_ | refine seqK_e (by assumption) ?_ | refine PW.regionA ?_ | exact schedW_stop_i | refine schK_n (by assumption) ?_ | (refine schedW_alt_k ?_ ?_; focus (intro K hK; simp only [ha, hcut, SS, SS2, SS3, SS4, SS5, Option.map_some, Nat.reduceAdd, reduceIte, Nat.reduceEqDiff, Nat.reduceBEq, eq_self, implies_true, ne_eq, beq_self_eq_true, id_eq, reduceCtorEq]; (try go_unwrap; try simp only [ha, hcut, RR, reduceCtorEq]))) | (refine PW.cond rfl ?_ ?_ <;> intro hcond <;> (try contradiction) <;> try simp only [decide_eq_true_eq, decide_eq_false_iff_not] at hcond) | (refine gd_i ?_; intro hg; try simp only [hg]) | ((first | show @LE.le Nat _ _ _ | show @LT.lt Nat _ _ _ | show @LE.le Int _ _ _ | show @LT.lt Int _ _ _ | show @Eq Nat _ _ | show @Eq Int _ _ | show @Eq Bool _ _ | show _ ∨ _ | show ¬ _); first | omega | (simp only [decide_eq_true_eq, decide_eq_false_iff_not, List.length_cons, List.length_nil, List.length_append, List.length_map, Sh.size] <;> omega) | (go_unwrap; omega)) | ((first | refine PW.region ?_ | refine PW.regionQ ?_ | refine schedW_done_i ?_ | show (_ : Post) _ _ _ | show @Eq (List PV) _ _ | show @Eq Bool _ _ | show opsW _ _ _ _ _ _ _ _ | show okAll _ | show @Eq Bool _ _ ∨ _); focus (simp only [ha, hcut, SS, SS2, SS3, SS4, SS5, Option.map_some, Nat.reduceAdd, reduceIte, Nat.reduceEqDiff, Nat.reduceBEq, eq_self, implies_true, ne_eq, beq_self_eq_true, id_eq, reduceCtorEq]; (try go_unwrap; try simp only [ha, hcut, RR, reduceCtorEq]))) | refine And.intro ?_ ?_ | exact Or.inr ⟨rfl, Nat.le_refl _⟩ | exact (fun h => Bool.noConfusion h))
    refine Dg.obs_eff ⟨none, none, .eff (.store (some 8)) [.tmp 17, .tmp 96]⟩ rfl rfl ?_ ?_
    · intro s hs env ha K hK
      simp only [CO.tms, Agr, List.filterMap_cons, List.filterMap_nil, List.cons_append, List.nil_append, get_cons, Nat.reduceEqDiff, if_false, if_true, reduceIte, and_true, VM3_3, NM3_3] at ha
      simp only [MM3_3] at hK ⊢
      refine opsX_1 ?_
      repeat' (first | exact True.intro | (refine hK () _ (Upd.mk' (fun p => p) trivial ?_ ?_ ?_); (focus (intro r hr; (try simp only [trimE_get, get_swE, get_frzE, get_killE, get_mapK]) <;> rfl)); (focus (intro r hr hne; simp only [gM3_3, List.getD_cons_zero, List.getD_cons_succ, List.mem_cons, List.not_mem_nil, or_false] at hr; rcases hr with rfl | rfl | rfl | rfl | rfl | rfl | rfl | rfl | rfl | rfl | rfl | rfl | rfl | rfl | rfl | rfl | rfl | rfl | rfl | rfl | rfl | rfl | rfl | rfl | rfl | rfl | rfl | rfl | rfl | rfl | rfl | rfl | rfl | rfl | rfl | rfl | rfl | rfl | rfl | rfl | rfl | rfl | rfl | rfl | rfl | rfl | rfl | rfl | rfl | rfl | rfl | rfl | rfl | rfl | rfl | rfl | rfl | rfl <;> first | (exact absurd rfl hne) | (simp only [VM3_3, NM3_3, List.cons_append, List.nil_append, get_cons, get_nil, Nat.reduceEqDiff, if_false, if_true, reduceIte, PV.ren, PV.kill, PV.frz, frzSl, frzM, swp, killTag, decide_true, decide_false, Nat.reduceLeDiff, Nat.reduceBEq, beq_self_eq_true, List.map_cons, List.map_nil, Bool.false_eq_true]; done) | rfl | simp [VM3_3, NM3_3, get_cons, PV.ren, PV.kill, PV.frz, frzSl, frzM, swp, killTag])); (focus (intro r hr; cases hr))) | (refine PW.seqK ?_; intro K hK) | refine PW.block ?_ | refine PW.scope ?_ | refine PW.label ?_ | refine PW.exit ?_ | refine PW.ret ?_ | refine PW.skip ?_ | refine seqK_n (by assumption) ?_ | refine seqK_r (by assumption) ?_ | refine seqK_e (by assumption) ?_ | refine PW.regionA ?_ | exact schedW_stop_i | refine schK_n (by assumption) ?_ | (refine schedW_alt_k ?_ ?_; focus (intro K hK; simp only [ha, hcut, SS, SS2, SS3, SS4, SS5, Option.map_some, Nat.reduceAdd, reduceIte, Nat.reduceEqDiff, Nat.reduceBEq, eq_self, implies_true, ne_eq, beq_self_eq_true, id_eq, reduceCtorEq]; (try go_unwrap; try simp only [ha, hcut, RR, reduceCtorEq]))) | (refine PW.cond rfl ?_ ?_ <;> intro hcond <;> (try contradiction) <;> try simp only [decide_eq_true_eq, decide_eq_false_iff_not] at hcond) | (refine gd_i ?_; intro hg; try simp only [hg]) | ((first | show @LE.le Nat _ _ _ | show @LT.lt Nat _ _ _ | show @LE.le Int _ _ _ | show @LT.lt Int _ _ _ | show @Eq Nat _ _ | show @Eq Int _ _ | show @Eq Bool _ _ | show _ ∨ _ | show ¬ _); first | omega | (simp only [decide_eq_true_eq, decide_eq_false_iff_not, List.length_cons, List.length_nil, List.length_append, List.length_map, Sh.size] <;> omega) | (go_unwrap; omega)) | ((first | refine PW.region ?_ | refine PW.regionQ ?_ | refine schedW_done_i ?_ | show (_ : Post) _ _ _ | show @Eq (List PV) _ _ | show @Eq Bool _ _ | show opsW _ _ _ _ _ _ _ _ | show okAll _ | show @Eq Bool _ _ ∨ _); focus (simp only [ha, hcut, SS, SS2, SS3, SS4, SS5, Option.map_some, Nat.reduceAdd, reduceIte, Nat.reduceEqDiff, Nat.reduceBEq, eq_self, implies_true, ne_eq, beq_self_eq_true, id_eq, reduceCtorEq]; (try go_unwrap; try simp only [ha, hcut, RR, reduceCtorEq]))) | refine And.intro ?_ ?_ | exact Or.inr ⟨rfl, Nat.le_refl _⟩ | exact (fun h => Bool.noConfusion h))
    refine Dg.obs_eff ⟨none, none, .eff (.store (some 8)) [.tmp 18, .tmp 98]⟩ rfl rfl ?_ ?_
    · intro s hs env ha K hK
      simp only [CO.tms, Agr, List.filterMap_cons, List.filterMap_nil, List.cons_append, List.nil_append, get_cons, Nat.reduceEqDiff, if_false, if_true, reduceIte, and_true, VM3_3, NM3_3] at ha
      simp only [MM3_3] at hK ⊢
      refine opsX_1 ?_
      repeat' (first | exact True.intro | (refine hK () _ (Upd.mk' (fun p => p) trivial ?_ ?_ ?_); (focus (intro r hr; (try simp only [trimE_get, get_swE, get_frzE, get_killE, get_mapK]) <;> rfl)); (focus (intro r hr hne; simp only [gM3_3, List.getD_cons_zero, List.getD_cons_succ, List.mem_cons, List.not_mem_nil, or_false] at hr; rcases hr with rfl | rfl | rfl | rfl | rfl | rfl | rfl | rfl | rfl | rfl | rfl | rfl | rfl | rfl | rfl | rfl | rfl | rfl | rfl | rfl | rfl | rfl | rfl | rfl | rfl | rfl | rfl | rfl | rfl | rfl | rfl | rfl | rfl | rfl | rfl | rfl | rfl | rfl | rfl | rfl | rfl | rfl | rfl | rfl | rfl | rfl | rfl | rfl | rfl | rfl | rfl | rfl | rfl | rfl | rfl | rfl | rfl | rfl <;> first | (exact absurd rfl hne) | (simp only [VM3_3, NM3_3, List.cons_append, List.nil_append, get_cons, get_nil, Nat.reduceEqDiff, if_false, if_true, reduceIte, PV.ren, PV.kill, PV.frz, frzSl, frzM, swp, killTag, decide_true, decide_false, Nat.reduceLeDiff, Nat.reduceBEq, beq_self_eq_true, List.map_cons, List.map_nil, Bool.false_eq_true]; done) | rfl | simp [VM3_3, NM3_3, get_cons, PV.ren, PV.kill, PV.frz, frzSl, frzM, swp, killTag])); (focus (intro r hr; cases hr))) | (refine PW.seqK ?_; intro K hK) | refine PW.block ?_ | refine PW.scope ?_ | refine PW.label ?_ | refine PW.exit ?_ | refine PW.ret ?_ | refine PW.skip ?_ | refine seqK_n (by assumption) ?_ | refine seqK_r (by assumption) ?_ | refine seqK_e (by assumption) ?_ | refine PW.regionA ?_ | exact schedW_stop_i | refine schK_n (by assumption) ?_ | (refine schedW_alt_k ?_ ?_; focus (intro K hK; simp only [ha, hcut, SS, SS2, SS3, SS4, SS5, Option.map_some, Nat.reduceAdd, reduceIte, Nat.reduceEqDiff, Nat.reduceBEq, eq_self, implies_true, ne_eq, beq_self_eq_true, id_eq, reduceCtorEq]; (try go_unwrap; try simp only [ha, hcut, RR, reduceCtorEq]))) | (refine PW.cond rfl ?_ ?_ <;> intro hcond <;> (try contradiction) <;> try simp only [decide_eq_true_eq, decide_eq_false_iff_not] at hcond) | (refine gd_i ?_; intro hg; try simp only [hg]) | ((first | show @LE.le Nat _ _ _ | show @LT.lt Nat _ _ _ | show @LE.le Int _ _ _ | show @LT.lt Int _ _ _ | show @Eq Nat _ _ | show @Eq Int _ _ | show @Eq Bool _ _ | show _ ∨ _ | show ¬ _); first | omega | (simp only [decide_eq_true_eq, decide_eq_false_iff_not, List.length_cons, List.length_nil, List.length_append, List.length_map, Sh.size] <;> omega) | (go_unwrap; omega)) | ((first | refine PW.region ?_ | refine PW.regionQ ?_ | refine schedW_done_i ?_ | show (_ : Post) _ _ _ | show @Eq (List PV) _ _ | show @Eq Bool _ _ | show opsW _ _ _ _ _ _ _ _ | show okAll _ | show @Eq Bool _ _ ∨ _); focus (simp only [ha, hcut, SS, SS2, SS3, SS4, SS5, Option.map_some, Nat.reduceAdd, reduceIte, Nat.reduceEqDiff, Nat.reduceBEq, eq_self, implies_true, ne_eq, beq_self_eq_true, id_eq, reduceCtorEq]; (try go_unwrap; try simp only [ha, hcut, RR, reduceCtorEq]))) | refine And.intro ?_ ?_ | exact Or.inr ⟨rfl, Nat.le_refl _⟩ | exact (fun h => Bool.noConfusion h))
    exact Dg.obs_nil
theorem td_q (l : List Td) {i : Nat} (h : i < l.length) : (l.map tdP)[i]? = some (.agg [.int .u8 l[i].p, .int .u32 l[i].c, .int .u16 l[i].f, .int .u16 l[i].d, .int .u16 l[i].i]) := by
  rw [List.getElem?_map, List.getElem?_eq_getElem h]; rfl
theorem fits5 (x : Td) : fits (some 5) (tdP x) := ⟨_, rfl, rfl, fun y hy => by simp at hy; rcases hy with rfl | rfl | rfl | rfl | rfl <;> rfl⟩
theorem pair_mono {A : List Fc} {R : Fc → Fc → Prop} (h : A.Pairwise R) (k : Nat) : (A.take k).Pairwise R := h.sublist (List.take_sublist _ _)
def Ans (o : Option Fc) (w : Int) (b : Bool) : Prop := (o = none ∧ w = 0 ∧ b = false) ∨ ∃ f, o = some f ∧ w = f.num ∧ b = true
theorem Ans.eq {o : Option Fc} {w v : Int} {b c : Bool} (h : Ans o w b) (k : Ans o v c) : w = v ∧ b = c := by
  rcases h with ⟨h1, rfl, rfl⟩ | ⟨f, h1, rfl, rfl⟩ <;> rcases k with ⟨k1, rfl, rfl⟩ | ⟨g, k1, rfl, rfl⟩
  · exact ⟨rfl, rfl⟩
  · rw [h1] at k1; cases k1
  · rw [h1] at k1; cases k1
  · rw [h1] at k1; cases k1; exact ⟨rfl, rfl⟩
theorem ans_val (A : List Fc) (p d : Int) : ∃ n w tx b, vlP (valM (factsM A p 2) (placeM (factsM A p 2) d)) = .agg [.int .i64 n, .int .i64 w, .str tx] ∧ decide (0 ≤ placeM (factsM A p 2) d) = b ∧ Ans (lastF A p d) w b := by
  obtain ⟨h1, h2⟩ := val_last A p d
  refine ⟨_, _, _, _, rfl, rfl, ?_⟩
  cases h : lastF A p d with
  | none =>
    rw [h] at h1 h2
    have := h1.2 rfl
    exact .inl ⟨rfl, h2, by simp only [decide_eq_false_iff_not]; omega⟩
  | some f =>
    rw [h] at h1 h2
    refine .inr ⟨f, rfl, h2, ?_⟩
    simp only [decide_eq_true_eq]
    rcases Int.lt_or_le (placeM (factsM A p 2) d) 0 with k | k
    · have := h1.1 k; cases this
    · exact k
theorem ans_step {A : List Fc} {p d w : Int} {b : Bool} (h : Ans (lastF A p d) w b) (f : Fc) : ∃ v c, Ans (lastF (A ++ [f]) p d) v c ∧ v = (if (pickF p 2 f && covF d f) = true then f.num else w) ∧ c = (if (pickF p 2 f && covF d f) = true then true else b) := by
  rw [last_snoc]
  split
  · exact ⟨_, _, .inr ⟨f, rfl, rfl, rfl⟩, rfl, rfl⟩
  · exact ⟨_, _, h, rfl, rfl⟩
theorem kn_big (A : List Fc) (h : A.length ≤ 1000) (p : Int) : (factsM A p 2).length ≤ 1000000000 := by have := those_len (pickF p 2) A A.length; unfold factsM; omega
theorem v11z (l : List Fc) (hl : l.length ≤ 100000) (hk : ∀ f ∈ l, f.kind = 2) (pp kk : Int) :
    (VCalls Tryz.prog G0 11 [stP l, .int .u32 pp, .int .i64 kk] .nilSl ∧ factsM l pp kk = []) ∨
    (VCalls Tryz.prog G0 11 [stP l, .int .u32 pp, .int .i64 kk] (knL (factsM l pp kk)) ∧ VCalls Tryz.prog G0 9 [knL (factsM l pp kk)] (linP (factsM l pp kk))) := by
  have h9 := v9 (factsM l pp kk) (by have := those_len (pickF pp kk) l l.length; unfold factsM; omega)
  by_cases h : factsM l pp kk = []
  · exact .inl ⟨v11n l hl hk pp kk (those_nil h), h⟩
  · refine .inr ⟨v11 l hl hk pp kk, ?_⟩
    rw [show knW (factsM l pp kk) = knL (factsM l pp kk) by simp [knW, h]] at h9
    exact h9
theorem seqM {P : Program} {G : Globs} {N : Nat} {mv : Nat → Bool} {Q : Post} {x y : PCode} {E env : Env} {M μ : Mem} (h : PW P G N mv x env μ (mergeQ E M)) (h2 : PW P G N mv y E M Q) : PW P G N mv (.seq x y) env μ Q :=
  PW.seq (PW.mono (Q := mergeQ E M) h (mergeQ_elim h2))
theorem v3 (l : List Td) (hl : l.length ≤ 9223372036854775807) (hok : ∀ x ∈ l, TdOk x) (tk : List UInt8) (htl : tk.length ≤ 9223372036854775807) (d : Nat) (hd : d ≤ 65535) : VCalls Tryz.prog G0 3 [tdL l, .list none (u8s tk), .int .u16 d] (.bool true) := by
  refine VCalls.of_PW Tryz.func3 k3e mix (by simp [c3e]) ?_
  simp only [c3e, L3d, argE]
  have h6 := v6
  have hlen := td_len l
  have hul : ((u8s tk).length : Nat) = tk.length := by simp [u8s]
  by_cases h30 : l.length ≤ 30
  case neg =>
    have d1 : decide ((30 : Int) < l.length) = true := by simp only [decide_eq_true_eq]; omega
    repeat' (first | exact True.intro | (refine PW.seqK ?_; intro K hK) | refine PW.block ?_ | refine PW.scope ?_ | refine PW.label ?_ | refine PW.exit ?_ | refine PW.ret ?_ | refine PW.skip ?_ | refine seqK_n (by assumption) ?_ | refine seqK_r (by assumption) ?_ | refine seqK_e (by assumption) ?_ | refine PW.regionA ?_ | exact schedW_stop_i | refine schK_n (by assumption) ?_ | (refine schedW_alt_k ?_ ?_; focus (intro K hK; simp only [hlen, d1, SS, SS2, SS3, SS4, SS5, Option.map_some, Nat.reduceAdd, reduceIte, Nat.reduceEqDiff, Nat.reduceBEq, eq_self, implies_true, ne_eq, beq_self_eq_true, id_eq, reduceCtorEq]; (try go_unwrap; try simp only [hlen, d1, RR, reduceCtorEq]))) | (refine PW.cond rfl ?_ ?_ <;> intro hcond <;> (try contradiction) <;> try simp only [decide_eq_true_eq, decide_eq_false_iff_not] at hcond) | (refine gd_i ?_; intro hg; try simp only [hg]) | refine goCall_W e6 (h6) ?_ ?_ ?_ ?_ | ((first | show @LE.le Nat _ _ _ | show @LT.lt Nat _ _ _ | show @LE.le Int _ _ _ | show @LT.lt Int _ _ _ | show @Eq Nat _ _ | show @Eq Int _ _ | show @Eq Bool _ _ | show _ ∨ _ | show ¬ _); first | omega | (simp only [decide_eq_true_eq, decide_eq_false_iff_not, List.length_cons, List.length_nil, List.length_append, List.length_map, Sh.size] <;> omega) | (go_unwrap; omega)) | ((first | refine PW.region ?_ | refine PW.regionQ ?_ | refine schedW_done_i ?_ | show (_ : Post) _ _ _ | show @Eq (List PV) _ _ | show @Eq Bool _ _ | show opsW _ _ _ _ _ _ _ _ | show okAll _ | show @Eq Bool _ _ ∨ _); focus (simp only [hlen, d1, SS, SS2, SS3, SS4, SS5, Option.map_some, Nat.reduceAdd, reduceIte, Nat.reduceEqDiff, Nat.reduceBEq, eq_self, implies_true, ne_eq, beq_self_eq_true, id_eq, reduceCtorEq]; (try go_unwrap; try simp only [hlen, d1, RR, reduceCtorEq]))) | refine And.intro ?_ ?_ | exact Or.inr ⟨rfl, Nat.le_refl _⟩ | exact (fun h => Bool.noConfusion h))
  have d1 : decide ((30 : Int) < l.length) = false := by simp only [decide_eq_false_iff_not]; omega
  by_cases ht60 : tk.length ≤ 60
  case neg =>
    have d2 : decide ((60 : Int) < tk.length) = true := by simp only [decide_eq_true_eq]; omega
    repeat' (first | exact True.intro | (refine PW.seqK ?_; intro K hK) | refine PW.block ?_ | refine PW.scope ?_ | refine PW.label ?_ | refine PW.exit ?_ | refine PW.ret ?_ | refine PW.skip ?_ | refine seqK_n (by assumption) ?_ | refine seqK_r (by assumption) ?_ | refine seqK_e (by assumption) ?_ | refine PW.regionA ?_ | exact schedW_stop_i | refine schK_n (by assumption) ?_ | (refine schedW_alt_k ?_ ?_; focus (intro K hK; simp only [hlen, hul, d1, d2, SS, SS2, SS3, SS4, SS5, Option.map_some, Nat.reduceAdd, reduceIte, Nat.reduceEqDiff, Nat.reduceBEq, eq_self, implies_true, ne_eq, beq_self_eq_true, id_eq, reduceCtorEq]; (try go_unwrap; try simp only [hlen, hul, d1, d2, RR, reduceCtorEq]))) | (refine PW.cond rfl ?_ ?_ <;> intro hcond <;> (try contradiction) <;> try simp only [decide_eq_true_eq, decide_eq_false_iff_not] at hcond) | (refine gd_i ?_; intro hg; try simp only [hg]) | refine goCall_W e6 (h6) ?_ ?_ ?_ ?_ | ((first | show @LE.le Nat _ _ _ | show @LT.lt Nat _ _ _ | show @LE.le Int _ _ _ | show @LT.lt Int _ _ _ | show @Eq Nat _ _ | show @Eq Int _ _ | show @Eq Bool _ _ | show _ ∨ _ | show ¬ _); first | omega | (simp only [decide_eq_true_eq, decide_eq_false_iff_not, List.length_cons, List.length_nil, List.length_append, List.length_map, Sh.size] <;> omega) | (go_unwrap; omega)) | ((first | refine PW.region ?_ | refine PW.regionQ ?_ | refine schedW_done_i ?_ | show (_ : Post) _ _ _ | show @Eq (List PV) _ _ | show @Eq Bool _ _ | show opsW _ _ _ _ _ _ _ _ | show okAll _ | show @Eq Bool _ _ ∨ _); focus (simp only [hlen, hul, d1, d2, SS, SS2, SS3, SS4, SS5, Option.map_some, Nat.reduceAdd, reduceIte, Nat.reduceEqDiff, Nat.reduceBEq, eq_self, implies_true, ne_eq, beq_self_eq_true, id_eq, reduceCtorEq]; (try go_unwrap; try simp only [hlen, hul, d1, d2, RR, reduceCtorEq]))) | refine And.intro ?_ ?_ | exact Or.inr ⟨rfl, Nat.le_refl _⟩ | exact (fun h => Bool.noConfusion h))
  have d2 : decide ((60 : Int) < tk.length) = false := by simp only [decide_eq_false_iff_not]; omega
  have hnode : ∀ i (h : i < tk.length), (u8s tk).getD i .junk = .int .u8 (tk[i].toNat : Int) := fun i h => by
    unfold u8s; simp [List.getD, h]
  have b1 : l.length * 16 ≤ 140737488355328 := by omega
  repeat' (first | exact True.intro | (refine PW.seqK ?_; intro K hK) | refine PW.block ?_ | refine PW.scope ?_ | refine PW.label ?_ | refine PW.exit ?_ | refine PW.ret ?_ | refine PW.skip ?_ | refine seqK_n (by assumption) ?_ | refine seqK_r (by assumption) ?_ | refine seqK_e (by assumption) ?_ | refine PW.regionA ?_ | exact schedW_stop_i | refine schK_n (by assumption) ?_ | (refine schedW_alt_k ?_ ?_; focus (intro K hK; simp only [hlen, hul, d1, d2, List.take_nil, List.nil_append, List.length_nil, Nat.zero_add, SS, SS2, SS3, SS4, SS5, Option.map_some, Nat.reduceAdd, reduceIte, Nat.reduceEqDiff, Nat.reduceBEq, eq_self, implies_true, ne_eq, beq_self_eq_true, id_eq, reduceCtorEq]; (try go_unwrap; try simp only [hlen, hul, d1, d2, List.take_nil, List.nil_append, List.length_nil, Nat.zero_add, RR, reduceCtorEq]))) | (refine PW.cond rfl ?_ ?_ <;> intro hcond <;> (try contradiction) <;> try simp only [decide_eq_true_eq, decide_eq_false_iff_not] at hcond) | (refine gd_i ?_; intro hg; try simp only [hg]) | refine goCall_W e6 (h6) ?_ ?_ ?_ ?_ | ((first | show @LE.le Nat _ _ _ | show @LT.lt Nat _ _ _ | show @LE.le Int _ _ _ | show @LT.lt Int _ _ _ | show @Eq Nat _ _ | show @Eq Int _ _ | show @Eq Bool _ _ | show _ ∨ _ | show ¬ _); first | omega | (simp only [decide_eq_true_eq, decide_eq_false_iff_not, List.length_cons, List.length_nil, List.length_append, List.length_map, Sh.size] <;> omega) | (go_unwrap; omega)) | ((first | refine PW.region ?_ | refine PW.regionQ ?_ | refine schedW_done_i ?_ | show (_ : Post) _ _ _ | show @Eq (List PV) _ _ | show @Eq Bool _ _ | show opsW _ _ _ _ _ _ _ _ | show okAll _ | show @Eq Bool _ _ ∨ _); focus (simp only [hlen, hul, d1, d2, List.take_nil, List.nil_append, List.length_nil, Nat.zero_add, SS, SS2, SS3, SS4, SS5, Option.map_some, Nat.reduceAdd, reduceIte, Nat.reduceEqDiff, Nat.reduceBEq, eq_self, implies_true, ne_eq, beq_self_eq_true, id_eq, reduceCtorEq]; (try go_unwrap; try simp only [hlen, hul, d1, d2, List.take_nil, List.nil_append, List.length_nil, Nat.zero_add, RR, reduceCtorEq]))) | refine And.intro ?_ ?_ | exact Or.inr ⟨rfl, Nat.le_refl _⟩ | exact (fun h => Bool.noConfusion h))
  refine PW.loopG (σ := Nat × List Td) 1 (fun _ _ => rfl) [0, 2, 6, 7, 46, 47, 48] (fun q => [tdL l, .int .u16 d, .bool false, .sl (some 5) 0 l.length, .list none (u8s tk), .int .i64 tk.length, .int .i64 q.1]) (fun q => [some (.row (some 5) (q.2.map tdP))])
    (fun q => q.1 ≤ tk.length ∧ q.2.Perm l) (fun q => tk.length - q.1) (0, l) ?_ (by first | rfl | simp) ⟨by simp, List.Perm.refl _⟩ ?_
  · simp only [SS, SS2, SS3, SS4, SS5, Option.map_some, Nat.reduceAdd, reduceIte, Nat.reduceEqDiff, Nat.reduceBEq, eq_self, implies_true, ne_eq, beq_self_eq_true, id_eq, reduceCtorEq]; rfl
  rintro ⟨i, O⟩ ⟨hi, hO⟩
  simp only at hi hO
  simp only [List.zip_cons_cons, List.zip_nil_left]
  have hOl : O.length = l.length := hO.length_eq
  rcases Nat.lt_or_ge i tk.length with h | h
  · have hdi : decide ((i : Int) < tk.length) = true := by simp only [decide_eq_true_eq]; omega
    have hg := hnode i h
    have hm : tk[i].toNat ≤ 255 := by have := tk[i].toNat_lt; omega
    generalize tk[i].toNat = m at hg hm
    by_cases h0 : 0 < l.length
    case neg =>
      have d0 : decide ((0 : Int) < l.length) = false := by simp only [decide_eq_false_iff_not]; omega
      repeat' (first | exact True.intro | (refine PW.seqK ?_; intro K hK) | refine PW.block ?_ | refine PW.scope ?_ | refine PW.label ?_ | refine PW.exit ?_ | refine PW.ret ?_ | refine PW.skip ?_ | refine seqK_n (by assumption) ?_ | refine seqK_r (by assumption) ?_ | refine seqK_e (by assumption) ?_ | refine PW.regionA ?_ | exact schedW_stop_i | refine schK_n (by assumption) ?_ | (refine schedW_alt_k ?_ ?_; focus (intro K hK; simp only [hlen, hul, hdi, hg, d0, SS, SS2, SS3, SS4, SS5, Option.map_some, Nat.reduceAdd, reduceIte, Nat.reduceEqDiff, Nat.reduceBEq, eq_self, implies_true, ne_eq, beq_self_eq_true, id_eq, reduceCtorEq]; (try go_unwrap; try simp only [hlen, hul, hdi, hg, d0, RR, reduceCtorEq]))) | (refine PW.cond rfl ?_ ?_ <;> intro hcond <;> (try contradiction) <;> try simp only [decide_eq_true_eq, decide_eq_false_iff_not] at hcond) | (refine gd_i ?_; intro hg; try simp only [hg]) | ((first | show @LE.le Nat _ _ _ | show @LT.lt Nat _ _ _ | show @LE.le Int _ _ _ | show @LT.lt Int _ _ _ | show @Eq Nat _ _ | show @Eq Int _ _ | show @Eq Bool _ _ | show _ ∨ _ | show ¬ _); first | omega | (simp only [decide_eq_true_eq, decide_eq_false_iff_not, List.length_cons, List.length_nil, List.length_append, List.length_map, Sh.size] <;> omega) | (go_unwrap; omega)) | ((first | refine PW.region ?_ | refine PW.regionQ ?_ | refine schedW_done_i ?_ | show (_ : Post) _ _ _ | show @Eq (List PV) _ _ | show @Eq Bool _ _ | show opsW _ _ _ _ _ _ _ _ | show okAll _ | show @Eq Bool _ _ ∨ _); focus (simp only [hlen, hul, hdi, hg, d0, SS, SS2, SS3, SS4, SS5, Option.map_some, Nat.reduceAdd, reduceIte, Nat.reduceEqDiff, Nat.reduceBEq, eq_self, implies_true, ne_eq, beq_self_eq_true, id_eq, reduceCtorEq]; (try go_unwrap; try simp only [hlen, hul, hdi, hg, d0, RR, reduceCtorEq]))) | refine And.intro ?_ ?_ | exact Or.inr ⟨rfl, Nat.le_refl _⟩ | exact (fun h => Bool.noConfusion h))
      all_goals exact ⟨(i + 1, O), (by first | rfl | (simp only [trimE, trimM, List.take_succ_cons, List.take_zero, List.take_nil, List.map_cons, List.map_nil, Option.map_some, Option.map_none, MObj.kill, PV.kill, Nat.reduceLeDiff, decide_true, decide_false, dec_true, dec_false, Bool.false_eq_true, if_false, if_true, reduceIte, List.zip_cons_cons, List.zip_nil_left, Nat.le_refl, Nat.zero_le, Nat.not_le, Nat.lt_irrefl]; done) | (simp [trimE, trimM, MObj.kill, PV.kill]; done)), (by first | rfl | (simp only [trimE, trimM, List.take_succ_cons, List.take_zero, List.take_nil, List.map_cons, List.map_nil, Option.map_some, Option.map_none, MObj.kill, PV.kill, Nat.reduceLeDiff, decide_true, decide_false, dec_true, dec_false, Bool.false_eq_true, if_false, if_true, reduceIte, List.zip_cons_cons, List.zip_nil_left, Nat.le_refl, Nat.zero_le, Nat.not_le, Nat.lt_irrefl]; done) | (simp [trimE, trimM, MObj.kill, PV.kill]; done)), ⟨by simp only; omega, hO⟩, by simp only; omega⟩
    have d0 : decide ((0 : Int) < l.length) = true := by simp only [decide_eq_true_eq]; omega
    have wm : IntKind.i64.wrap (m : Int) = m := IntWalk.i64_in _ (by omega)
    have hN0 : ¬ ((l.length : Int) = 0) := by omega
    have m1 : (i : Int).tmod (l.length : Int) = ((i % l.length : Nat) : Int) := by rw [Int.tmod_eq_emod_of_nonneg (by omega)]; simp
    have m2 : (m : Int).tmod (l.length : Int) = ((m % l.length : Nat) : Int) := by rw [Int.tmod_eq_emod_of_nonneg (by omega)]; simp
    have ha : i % l.length < l.length := Nat.mod_lt _ h0
    have hb : m % l.length < l.length := Nat.mod_lt _ h0
    generalize i % l.length = a at m1 ha
    generalize m % l.length = b at m2 hb
    have hqa := td_q O (i := a) (by omega)
    have hqb := td_q O (i := b) (by omega)
    have hsw := swap_perm O (a := a) (b := b) (by omega) (by omega)
    generalize O[a]'(by omega) = x at hqa hsw
    generalize O[b]'(by omega) = y at hqb hsw
    have hset : ((O.map tdP).set a (.agg [.int .u8 y.p, .int .u32 y.c, .int .u16 y.f, .int .u16 y.d, .int .u16 y.i])).set b (.agg [.int .u8 x.p, .int .u32 x.c, .int .u16 x.f, .int .u16 x.d, .int .u16 x.i]) = ((O.set a y).set b x).map tdP := by
      rw [List.map_set, List.map_set]; rfl
    have hOm : ((O.map tdP).length : Nat) = l.length := by simp [hOl]
    have hsc : ∀ z : Td, ∀ c ∈ [PV.int IntKind.u8 z.p, PV.int IntKind.u32 z.c, PV.int IntKind.u16 z.f, PV.int IntKind.u16 z.d, PV.int IntKind.u16 z.i], c.scalar = true := fun z c hc => by simp at hc; rcases hc with rfl | rfl | rfl | rfl | rfl <;> rfl
    have hP := hsw.trans hO
    generalize (O.set a y).set b x = O2 at hset hP
    repeat' (first | exact True.intro | (refine PW.seqA (E := ?_) (M := ?_) ?_ ?_; rotate_left 2) | exact mergeQ_mk _ _ | exact hsc _ | exact (rfl : (some 5 : Sh) = some 5) | (refine PW.seqK ?_; intro K hK) | refine PW.block ?_ | refine PW.scope ?_ | refine PW.label ?_ | refine PW.exit ?_ | refine PW.ret ?_ | refine PW.skip ?_ | refine seqK_n (by assumption) ?_ | refine seqK_r (by assumption) ?_ | refine seqK_e (by assumption) ?_ | refine PW.regionA ?_ | exact schedW_stop_i | refine schK_n (by assumption) ?_ | (refine schedW_alt_k ?_ ?_; focus (intro K hK; simp only [hlen, hul, hdi, hg, d0, wm, hN0, m1, m2, hqa, hqb, hset, hOm, List.length_set, cut55, SS, SS2, SS3, SS4, SS5, Option.map_some, Nat.reduceAdd, reduceIte, Nat.reduceEqDiff, Nat.reduceBEq, eq_self, implies_true, ne_eq, beq_self_eq_true, id_eq, reduceCtorEq]; (try go_unwrap; try simp only [hlen, hul, hdi, hg, d0, wm, hN0, m1, m2, hqa, hqb, hset, hOm, List.length_set, cut55, RR, reduceCtorEq]))) | (refine PW.cond rfl ?_ ?_ <;> intro hcond <;> (try contradiction) <;> try simp only [decide_eq_true_eq, decide_eq_false_iff_not] at hcond) | (refine gd_i ?_; intro hg; try simp only [hg]) | ((first | show @LE.le Nat _ _ _ | show @LT.lt Nat _ _ _ | show @LE.le Int _ _ _ | show @LT.lt Int _ _ _ | show @Eq Nat _ _ | show @Eq Int _ _ | show @Eq Bool _ _ | show _ ∨ _ | show ¬ _); first | omega | (simp only [decide_eq_true_eq, decide_eq_false_iff_not, List.length_cons, List.length_nil, List.length_append, List.length_map, Sh.size] <;> omega) | (go_unwrap; omega)) | ((first | refine PW.region ?_ | refine PW.regionQ ?_ | refine schedW_done_i ?_ | show (_ : Post) _ _ _ | show @Eq (List PV) _ _ | show @Eq Bool _ _ | show opsW _ _ _ _ _ _ _ _ | show okAll _ | show @Eq Bool _ _ ∨ _); focus (simp only [hlen, hul, hdi, hg, d0, wm, hN0, m1, m2, hqa, hqb, hset, hOm, List.length_set, cut55, SS, SS2, SS3, SS4, SS5, Option.map_some, Nat.reduceAdd, reduceIte, Nat.reduceEqDiff, Nat.reduceBEq, eq_self, implies_true, ne_eq, beq_self_eq_true, id_eq, reduceCtorEq]; (try go_unwrap; try simp only [hlen, hul, hdi, hg, d0, wm, hN0, m1, m2, hqa, hqb, hset, hOm, List.length_set, cut55, RR, reduceCtorEq]))) | refine And.intro ?_ ?_ | exact Or.inr ⟨rfl, Nat.le_refl _⟩ | exact (fun h => Bool.noConfusion h))
    all_goals exact ⟨(i + 1, O2), (by first | rfl | (simp only [trimE, trimM, List.take_succ_cons, List.take_zero, List.take_nil, List.map_cons, List.map_nil, Option.map_some, Option.map_none, MObj.kill, PV.kill, Nat.reduceLeDiff, decide_true, decide_false, dec_true, dec_false, Bool.false_eq_true, if_false, if_true, reduceIte, List.zip_cons_cons, List.zip_nil_left, Nat.le_refl, Nat.zero_le, Nat.not_le, Nat.lt_irrefl]; done) | (simp [trimE, trimM, MObj.kill, PV.kill]; done)), (by first | rfl | (simp only [trimE, trimM, List.take_succ_cons, List.take_zero, List.take_nil, List.map_cons, List.map_nil, Option.map_some, Option.map_none, MObj.kill, PV.kill, Nat.reduceLeDiff, decide_true, decide_false, dec_true, dec_false, Bool.false_eq_true, if_false, if_true, reduceIte, List.zip_cons_cons, List.zip_nil_left, Nat.le_refl, Nat.zero_le, Nat.not_le, Nat.lt_irrefl]; done) | (simp [trimE, trimM, MObj.kill, PV.kill]; done)), ⟨by simp only; omega, hP⟩, by simp only; omega⟩
  have hdi : decide ((i : Int) < tk.length) = false := by simp only [decide_eq_false_iff_not]; omega
  clear hnode h6 b1 d1 d2 ht60
  have hOok : ∀ x ∈ O, TdOk x := fun x hx => hok x (hO.mem_iff.1 hx)
  have hOm : ((O.map tdP).length : Nat) = l.length := by simp [hOl]
  have hOt : (O.map tdP).take l.length = O.map tdP := List.take_of_length_le (by omega)
  repeat' (first | exact True.intro | (refine PW.stop (x := .seq (.region false (⟨some 12, none, .rd .mov [.pv (.bool true)]⟩ :: _) _) _) ?_) | (refine PW.seqK ?_; intro K hK) | refine PW.block ?_ | refine PW.scope ?_ | refine PW.label ?_ | refine PW.exit ?_ | refine PW.ret ?_ | refine PW.skip ?_ | refine seqK_n (by assumption) ?_ | refine seqK_r (by assumption) ?_ | refine seqK_e (by assumption) ?_ | refine PW.regionA ?_ | exact schedW_stop_i | refine schK_n (by assumption) ?_ | (refine schedW_alt_k ?_ ?_; focus (intro K hK; simp only [hul, hdi, SS, SS2, SS3, SS4, SS5, Option.map_some, Nat.reduceAdd, reduceIte, Nat.reduceEqDiff, Nat.reduceBEq, eq_self, implies_true, ne_eq, beq_self_eq_true, id_eq, reduceCtorEq]; (try go_unwrap; try simp only [hul, hdi, RR, reduceCtorEq]))) | (refine PW.cond rfl ?_ ?_ <;> intro hcond <;> (try contradiction) <;> try simp only [decide_eq_true_eq, decide_eq_false_iff_not] at hcond) | (refine gd_i ?_; intro hg; try simp only [hg]) | ((first | show @LE.le Nat _ _ _ | show @LT.lt Nat _ _ _ | show @LE.le Int _ _ _ | show @LT.lt Int _ _ _ | show @Eq Nat _ _ | show @Eq Int _ _ | show @Eq Bool _ _ | show _ ∨ _ | show ¬ _); first | omega | (simp only [decide_eq_true_eq, decide_eq_false_iff_not, List.length_cons, List.length_nil, List.length_append, List.length_map, Sh.size] <;> omega) | (go_unwrap; omega)) | ((first | refine PW.region ?_ | refine PW.regionQ ?_ | refine schedW_done_i ?_ | show (_ : Post) _ _ _ | show @Eq (List PV) _ _ | show @Eq Bool _ _ | show opsW _ _ _ _ _ _ _ _ | show okAll _ | show @Eq Bool _ _ ∨ _); focus (simp only [hul, hdi, SS, SS2, SS3, SS4, SS5, Option.map_some, Nat.reduceAdd, reduceIte, Nat.reduceEqDiff, Nat.reduceBEq, eq_self, implies_true, ne_eq, beq_self_eq_true, id_eq, reduceCtorEq]; (try go_unwrap; try simp only [hul, hdi, RR, reduceCtorEq]))) | refine And.intro ?_ ?_ | exact Or.inr ⟨rfl, Nat.le_refl _⟩ | exact (fun h => Bool.noConfusion h))
  refine ⟨?_⟩
  refine PW.frz 0 (.row (some 5) (O.map tdP)) ?_ ?_ ?_
  · rfl
  · rfl
  simp only [SS, SS2, SS3, SS4, SS5, Option.map_some, Nat.reduceAdd, reduceIte, Nat.reduceEqDiff, Nat.reduceBEq, eq_self, implies_true, ne_eq, beq_self_eq_true, id_eq, reduceCtorEq, PV.frz, MObj.frz, frzM, frzSl, hOm, hOt, Nat.le_refl, and_self, if_true]
  refine PW.trim 0 (fun _ _ => rfl) ?_
  simp only [trimE, trimM, List.take_zero, List.map_cons, List.map_nil, PV.kill, Nat.zero_le, decide_true, if_true]
  repeat' (first | exact True.intro | (refine PW.seqK ?_; intro K hK) | refine PW.block ?_ | refine PW.scope ?_ | refine PW.label ?_ | refine PW.exit ?_ | refine PW.ret ?_ | refine PW.skip ?_ | refine seqK_n (by assumption) ?_ | refine seqK_r (by assumption) ?_ | refine seqK_e (by assumption) ?_ | refine PW.regionA ?_ | exact schedW_stop_i | refine schK_n (by assumption) ?_ | (refine schedW_alt_k ?_ ?_; focus (intro K hK; simp only [hlen, SS, SS2, SS3, SS4, SS5, Option.map_some, Nat.reduceAdd, reduceIte, Nat.reduceEqDiff, Nat.reduceBEq, eq_self, implies_true, ne_eq, beq_self_eq_true, id_eq, reduceCtorEq]; (try go_unwrap; try simp only [hlen, RR, reduceCtorEq]))) | (refine PW.cond rfl ?_ ?_ <;> intro hcond <;> (try contradiction) <;> try simp only [decide_eq_true_eq, decide_eq_false_iff_not] at hcond) | (refine gd_i ?_; intro hg; try simp only [hg]) | ((first | show @LE.le Nat _ _ _ | show @LT.lt Nat _ _ _ | show @LE.le Int _ _ _ | show @LT.lt Int _ _ _ | show @Eq Nat _ _ | show @Eq Int _ _ | show @Eq Bool _ _ | show _ ∨ _ | show ¬ _); first | omega | (simp only [decide_eq_true_eq, decide_eq_false_iff_not, List.length_cons, List.length_nil, List.length_append, List.length_map, Sh.size] <;> omega) | (go_unwrap; omega)) | ((first | refine PW.region ?_ | refine PW.regionQ ?_ | refine schedW_done_i ?_ | show (_ : Post) _ _ _ | show @Eq (List PV) _ _ | show @Eq Bool _ _ | show opsW _ _ _ _ _ _ _ _ | show okAll _ | show @Eq Bool _ _ ∨ _); focus (simp only [hlen, SS, SS2, SS3, SS4, SS5, Option.map_some, Nat.reduceAdd, reduceIte, Nat.reduceEqDiff, Nat.reduceBEq, eq_self, implies_true, ne_eq, beq_self_eq_true, id_eq, reduceCtorEq]; (try go_unwrap; try simp only [hlen, RR, reduceCtorEq]))) | refine And.intro ?_ ?_ | exact Or.inr ⟨rfl, Nat.le_refl _⟩ | exact (fun h => Bool.noConfusion h))
  refine PW.loopG (σ := Nat × Bool) 0 (fun _ _ => rfl) [0, 2, 6, 7, 12, 80, 81, 82] (fun q => [tdL l, .int .u16 d, .bool false, tdL O, .bool q.2, tdL l, .int .i64 l.length, .int .i64 q.1]) (fun _ => [])
    (fun q => q.1 ≤ l.length ∧ (q.2 = true → (toldF (l.take q.1)).Pairwise (fun f g => confB g f = false))) (fun q => l.length - q.1) (0, true) ?_ (by first | rfl | simp) ⟨by simp, fun _ => List.Pairwise.nil⟩ ?_
  · simp only [SS, SS2, SS3, SS4, SS5, Option.map_some, Nat.reduceAdd, reduceIte, Nat.reduceEqDiff, Nat.reduceBEq, eq_self, implies_true, ne_eq, beq_self_eq_true, id_eq, reduceCtorEq]; rfl
  clear hdi hi h hOm hOt
  rintro ⟨i, ap⟩ ⟨hi, hap⟩
  simp only at hi hap
  simp only [List.zip_cons_cons, List.zip_nil_left]
  rcases Nat.lt_or_ge i l.length with h | h
  · have hdi : decide ((i : Int) < l.length) = true := by simp only [decide_eq_true_eq]; omega
    have hg := td_getD l i h
    have hst := told_take l h
    have hxo := hok l[i] (List.getElem_mem h)
    generalize l[i] = x at hg hst hxo
    have h7x := v7 x hxo
    simp only [factT, salF] at h7x
    have htdx : tdP x = .agg [.int .u8 x.p, .int .u32 x.c, .int .u16 x.f, .int .u16 x.d, .int .u16 x.i] := rfl
    rw [htdx] at h7x
    have hsl : (l.map tdP).take i = (l.take i).map tdP := by rw [List.map_take]
    have hsll : (((l.take i).map tdP).length : Nat) = i := by simp; omega
    have hd0 : ∀ X : List PV, X.drop (Int.toNat 0) = X := fun _ => rfl
    repeat' (first | exact True.intro | (refine PW.stop (x := .seq (.region false (⟨some 87, none, .rd .mov [.tmp 0]⟩ :: _) _) _) ?_) | (refine PW.seqK ?_; intro K hK) | refine PW.block ?_ | refine PW.scope ?_ | refine PW.label ?_ | refine PW.exit ?_ | refine PW.ret ?_ | refine PW.skip ?_ | refine seqK_n (by assumption) ?_ | refine seqK_r (by assumption) ?_ | refine seqK_e (by assumption) ?_ | refine PW.regionA ?_ | exact schedW_stop_i | refine schK_n (by assumption) ?_ | (refine schedW_alt_k ?_ ?_; focus (intro K hK; simp only [hlen, hdi, hg, hsl, hsll, hd0, cut55, SS, SS2, SS3, SS4, SS5, Option.map_some, Nat.reduceAdd, reduceIte, Nat.reduceEqDiff, Nat.reduceBEq, eq_self, implies_true, ne_eq, beq_self_eq_true, id_eq, reduceCtorEq]; (try go_unwrap; try simp only [hlen, hdi, hg, hsl, hsll, hd0, cut55, RR, reduceCtorEq]))) | (refine PW.cond rfl ?_ ?_ <;> intro hcond <;> (try contradiction) <;> try simp only [decide_eq_true_eq, decide_eq_false_iff_not] at hcond) | (refine gd_i ?_; intro hg; try simp only [hg]) | ((first | show @LE.le Nat _ _ _ | show @LT.lt Nat _ _ _ | show @LE.le Int _ _ _ | show @LT.lt Int _ _ _ | show @Eq Nat _ _ | show @Eq Int _ _ | show @Eq Bool _ _ | show _ ∨ _ | show ¬ _); first | omega | (simp only [decide_eq_true_eq, decide_eq_false_iff_not, List.length_cons, List.length_nil, List.length_append, List.length_map, Sh.size] <;> omega) | (go_unwrap; omega)) | ((first | refine PW.region ?_ | refine PW.regionQ ?_ | refine schedW_done_i ?_ | show (_ : Post) _ _ _ | show @Eq (List PV) _ _ | show @Eq Bool _ _ | show opsW _ _ _ _ _ _ _ _ | show okAll _ | show @Eq Bool _ _ ∨ _); focus (simp only [hlen, hdi, hg, hsl, hsll, hd0, cut55, SS, SS2, SS3, SS4, SS5, Option.map_some, Nat.reduceAdd, reduceIte, Nat.reduceEqDiff, Nat.reduceBEq, eq_self, implies_true, ne_eq, beq_self_eq_true, id_eq, reduceCtorEq]; (try go_unwrap; try simp only [hlen, hdi, hg, hsl, hsll, hd0, cut55, RR, reduceCtorEq]))) | refine And.intro ?_ ?_ | exact Or.inr ⟨rfl, Nat.le_refl _⟩ | exact (fun h => Bool.noConfusion h))
    refine ⟨?_⟩
    refine PW.frzV 14 0 (some 5) _ rfl rfl (fits5 x) (by intro c hc; simp only [PV.cells, List.mem_cons, List.not_mem_nil, or_false] at hc; rcases hc with rfl | rfl | rfl | rfl | rfl <;> simp [PV.noOwn]) rfl ?_
    simp only [frzE, frzMem, List.map_cons, List.map_nil, PV.frz, MObj.frz, frzM, frzSl, SS, SS2, SS3, SS4, SS5, Option.map_some, Nat.reduceAdd, reduceIte, Nat.reduceEqDiff, Nat.reduceBEq, eq_self, implies_true, ne_eq, beq_self_eq_true, id_eq, reduceCtorEq]
    refine PW.trim 0 (fun _ _ => rfl) ?_
    simp only [trimE, trimM, List.take_zero, List.map_cons, List.map_nil, PV.kill, Nat.zero_le, decide_true, if_true]
    repeat' (first | exact True.intro | (refine PW.seqK ?_; intro K hK) | refine PW.block ?_ | refine PW.scope ?_ | refine PW.label ?_ | refine PW.exit ?_ | refine PW.ret ?_ | refine PW.skip ?_ | refine seqK_n (by assumption) ?_ | refine seqK_r (by assumption) ?_ | refine seqK_e (by assumption) ?_ | refine PW.regionA ?_ | exact schedW_stop_i | refine schK_n (by assumption) ?_ | (refine schedW_alt_k ?_ ?_; focus (intro K hK; simp only [hlen, hsl, hsll, hd0, SS, SS2, SS3, SS4, SS5, Option.map_some, Nat.reduceAdd, reduceIte, Nat.reduceEqDiff, Nat.reduceBEq, eq_self, implies_true, ne_eq, beq_self_eq_true, id_eq, reduceCtorEq]; (try go_unwrap; try simp only [hlen, hsl, hsll, hd0, RR, reduceCtorEq]))) | (refine PW.cond rfl ?_ ?_ <;> intro hcond <;> (try contradiction) <;> try simp only [decide_eq_true_eq, decide_eq_false_iff_not] at hcond) | (refine gd_i ?_; intro hg; try simp only [hg]) | ((first | show @LE.le Nat _ _ _ | show @LT.lt Nat _ _ _ | show @LE.le Int _ _ _ | show @LT.lt Int _ _ _ | show @Eq Nat _ _ | show @Eq Int _ _ | show @Eq Bool _ _ | show _ ∨ _ | show ¬ _); first | omega | (simp only [decide_eq_true_eq, decide_eq_false_iff_not, List.length_cons, List.length_nil, List.length_append, List.length_map, Sh.size] <;> omega) | (go_unwrap; omega)) | ((first | refine PW.region ?_ | refine PW.regionQ ?_ | refine schedW_done_i ?_ | show (_ : Post) _ _ _ | show @Eq (List PV) _ _ | show @Eq Bool _ _ | show opsW _ _ _ _ _ _ _ _ | show okAll _ | show @Eq Bool _ _ ∨ _); focus (simp only [hlen, hsl, hsll, hd0, SS, SS2, SS3, SS4, SS5, Option.map_some, Nat.reduceAdd, reduceIte, Nat.reduceEqDiff, Nat.reduceBEq, eq_self, implies_true, ne_eq, beq_self_eq_true, id_eq, reduceCtorEq]; (try go_unwrap; try simp only [hlen, hsl, hsll, hd0, RR, reduceCtorEq]))) | refine And.intro ?_ ?_ | exact Or.inr ⟨rfl, Nat.le_refl _⟩ | exact (fun h => Bool.noConfusion h))
    refine PW.loopG (σ := Nat × Bool) 0 (fun _ _ => rfl) [0, 2, 6, 7, 12, 14, 80, 81, 82, 89, 90, 91] (fun q => [tdL l, .int .u16 d, .bool false, tdL O, .bool q.2, .cptr (some 5) (.agg [.int .u8 x.p, .int .u32 x.c, .int .u16 x.f, .int .u16 x.d, .int .u16 x.i]) 0, tdL l, .int .i64 l.length, .int .i64 i, tdL (l.take i), .int .i64 i, .int .i64 q.1]) (fun _ => [])
      (fun q => q.1 ≤ i ∧ (q.2 = true → (toldF (l.take i)).Pairwise (fun f g => confB g f = false) ∧ ∀ g ∈ toldF (l.take q.1), confB (factT 0 x) g = false)) (fun q => i - q.1) (0, ap) ?_ (by first | rfl | simp) ⟨by simp, fun h => ⟨hap h, by simp [toldF]⟩⟩ ?_
    · simp only [SS, SS2, SS3, SS4, SS5, Option.map_some, Nat.reduceAdd, reduceIte, Nat.reduceEqDiff, Nat.reduceBEq, eq_self, implies_true, ne_eq, beq_self_eq_true, id_eq, reduceCtorEq]; rfl
    clear hap hg
    rintro ⟨j, ap⟩ ⟨hj, hap⟩
    simp only at hj hap
    simp only [List.zip_cons_cons, List.zip_nil_left]
    rcases Nat.lt_or_ge j i with h3 | h3
    · have hdj : decide ((j : Int) < (i : Int)) = true := by simp only [decide_eq_true_eq]; omega
      have hgj : ((l.take i).map tdP).getD j .junk = .agg [.int .u8 l[j].p, .int .u32 l[j].c, .int .u16 l[j].f, .int .u16 l[j].d, .int .u16 l[j].i] := by
        rw [td_getD (l.take i) j (by simp; omega), List.getElem_take]
      have hsj := told_take l (i := j) (by omega)
      have hyo := hok l[j] (List.getElem_mem _)
      generalize l[j]'(by omega) = y at hgj hsj hyo
      have h7y := v7 y hyo
      simp only [factT, salF] at h7y
      have htdy : tdP y = .agg [.int .u8 y.p, .int .u32 y.c, .int .u16 y.f, .int .u16 y.d, .int .u16 y.i] := rfl
      rw [htdy] at h7y
      repeat' (first | exact True.intro | (refine PW.stop (x := .seq (.regionA _ _) _) ?_) | (refine PW.seqK ?_; intro K hK) | refine PW.block ?_ | refine PW.scope ?_ | refine PW.label ?_ | refine PW.exit ?_ | refine PW.ret ?_ | refine PW.skip ?_ | refine seqK_n (by assumption) ?_ | refine seqK_r (by assumption) ?_ | refine seqK_e (by assumption) ?_ | refine PW.regionA ?_ | exact schedW_stop_i | refine schK_n (by assumption) ?_ | (refine schedW_alt_k ?_ ?_; focus (intro K hK; simp only [hsll, hdj, hgj, cut55, SS, SS2, SS3, SS4, SS5, Option.map_some, Nat.reduceAdd, reduceIte, Nat.reduceEqDiff, Nat.reduceBEq, eq_self, implies_true, ne_eq, beq_self_eq_true, id_eq, reduceCtorEq]; (try go_unwrap; try simp only [hsll, hdj, hgj, cut55, RR, reduceCtorEq]))) | (refine PW.cond rfl ?_ ?_ <;> intro hcond <;> (try contradiction) <;> try simp only [decide_eq_true_eq, decide_eq_false_iff_not] at hcond) | (refine gd_i ?_; intro hg; try simp only [hg]) | ((first | show @LE.le Nat _ _ _ | show @LT.lt Nat _ _ _ | show @LE.le Int _ _ _ | show @LT.lt Int _ _ _ | show @Eq Nat _ _ | show @Eq Int _ _ | show @Eq Bool _ _ | show _ ∨ _ | show ¬ _); first | omega | (simp only [decide_eq_true_eq, decide_eq_false_iff_not, List.length_cons, List.length_nil, List.length_append, List.length_map, Sh.size] <;> omega) | (go_unwrap; omega)) | ((first | refine PW.region ?_ | refine PW.regionQ ?_ | refine schedW_done_i ?_ | show (_ : Post) _ _ _ | show @Eq (List PV) _ _ | show @Eq Bool _ _ | show opsW _ _ _ _ _ _ _ _ | show okAll _ | show @Eq Bool _ _ ∨ _); focus (simp only [hsll, hdj, hgj, cut55, SS, SS2, SS3, SS4, SS5, Option.map_some, Nat.reduceAdd, reduceIte, Nat.reduceEqDiff, Nat.reduceBEq, eq_self, implies_true, ne_eq, beq_self_eq_true, id_eq, reduceCtorEq]; (try go_unwrap; try simp only [hsll, hdj, hgj, cut55, RR, reduceCtorEq]))) | refine And.intro ?_ ?_ | exact Or.inr ⟨rfl, Nat.le_refl _⟩ | exact (fun h => Bool.noConfusion h))
      refine ⟨?_⟩
      have hnoy : ∀ c ∈ (PV.agg [.int .u8 y.p, .int .u32 y.c, .int .u16 y.f, .int .u16 y.d, .int .u16 y.i]).cells, c.noOwn = true := by intro c hc; simp only [PV.cells, List.mem_cons, List.not_mem_nil, or_false] at hc; rcases hc with rfl | rfl | rfl | rfl | rfl <;> simp [PV.noOwn]
      refine PW.frzV 16 0 (some 5) _ rfl rfl (fits5 y) hnoy rfl ?_
      simp only [frzE, frzMem, List.map_cons, List.map_nil, PV.frz, MObj.frz, frzM, frzSl, SS, SS2, SS3, SS4, SS5, Option.map_some, Nat.reduceAdd, reduceIte, Nat.reduceEqDiff, Nat.reduceBEq, eq_self, implies_true, ne_eq, beq_self_eq_true, id_eq, reduceCtorEq]
      refine PW.trim 0 (fun _ _ => rfl) ?_
      simp only [trimE, trimM, List.take_zero, List.map_cons, List.map_nil, PV.kill, Nat.zero_le, decide_true, if_true]
      refine PW.seq ?_
      refine PW.pad 2 ?_
      simp only [List.replicate_succ, List.replicate_zero, List.nil_append]
      refine PW.weak (rM3_3 l O x y (factT x.i x) (factT y.i y) i j d ap h7x h7y _ ?_) (fun r => ?_)
      rotate_left
      · left
        by_cases hr : 16 = r
        · subst hr; rfl
        · simp only [get_cons, if_neg hr]
      simp only [SS, SS2, SS3, SS4, SS5, Option.map_some, Nat.reduceAdd, reduceIte, Nat.reduceEqDiff, Nat.reduceBEq, eq_self, implies_true, ne_eq, beq_self_eq_true, id_eq, reduceCtorEq]
      refine PW.frzV 17 0 (some 8) _ rfl rfl (by exact fits8 (factT x.i x)) (by exact no8 (factT x.i x)) rfl ?_
      simp only [frzE, frzMem, List.map_cons, List.map_nil, PV.frz, MObj.frz, frzM, frzSl, SS, SS2, SS3, SS4, SS5, Option.map_some, Nat.reduceAdd, reduceIte, Nat.reduceEqDiff, Nat.reduceBEq, eq_self, implies_true, ne_eq, beq_self_eq_true, id_eq, reduceCtorEq]
      refine PW.frzV 18 1 (some 8) _ rfl rfl (by exact fits8 (factT y.i y)) (by exact no8 (factT y.i y)) rfl ?_
      simp only [frzE, frzMem, List.map_cons, List.map_nil, PV.frz, MObj.frz, frzM, frzSl, SS, SS2, SS3, SS4, SS5, Option.map_some, Nat.reduceAdd, reduceIte, Nat.reduceEqDiff, Nat.reduceBEq, eq_self, implies_true, ne_eq, beq_self_eq_true, id_eq, reduceCtorEq]
      refine PW.trim 0 (fun _ _ => rfl) ?_
      simp only [trimE, trimM, List.take_zero, List.map_cons, List.map_nil, PV.kill, Nat.zero_le, decide_true, if_true]
      repeat' (first | exact True.intro | (refine PW.seqK ?_; intro K hK) | refine PW.block ?_ | refine PW.scope ?_ | refine PW.label ?_ | refine PW.exit ?_ | refine PW.ret ?_ | refine PW.skip ?_ | refine seqK_n (by assumption) ?_ | refine seqK_r (by assumption) ?_ | refine seqK_e (by assumption) ?_ | refine PW.regionA ?_ | exact schedW_stop_i | refine schK_n (by assumption) ?_ | (refine schedW_alt_k ?_ ?_; focus (intro K hK; simp only [cut55, SS, SS2, SS3, SS4, SS5, Option.map_some, Nat.reduceAdd, reduceIte, Nat.reduceEqDiff, Nat.reduceBEq, eq_self, implies_true, ne_eq, beq_self_eq_true, id_eq, reduceCtorEq]; (try go_unwrap; try simp only [cut55, RR, reduceCtorEq]))) | (refine PW.cond rfl ?_ ?_ <;> intro hcond <;> (try contradiction) <;> try simp only [decide_eq_true_eq, decide_eq_false_iff_not] at hcond) | (refine gd_i ?_; intro hg; try simp only [hg]) | ((first | show @LE.le Nat _ _ _ | show @LT.lt Nat _ _ _ | show @LE.le Int _ _ _ | show @LT.lt Int _ _ _ | show @Eq Nat _ _ | show @Eq Int _ _ | show @Eq Bool _ _ | show _ ∨ _ | show ¬ _); first | omega | (simp only [decide_eq_true_eq, decide_eq_false_iff_not, List.length_cons, List.length_nil, List.length_append, List.length_map, Sh.size] <;> omega) | (go_unwrap; omega)) | ((first | refine PW.region ?_ | refine PW.regionQ ?_ | refine schedW_done_i ?_ | show (_ : Post) _ _ _ | show @Eq (List PV) _ _ | show @Eq Bool _ _ | show opsW _ _ _ _ _ _ _ _ | show okAll _ | show @Eq Bool _ _ ∨ _); focus (simp only [cut55, SS, SS2, SS3, SS4, SS5, Option.map_some, Nat.reduceAdd, reduceIte, Nat.reduceEqDiff, Nat.reduceBEq, eq_self, implies_true, ne_eq, beq_self_eq_true, id_eq, reduceCtorEq]; (try go_unwrap; try simp only [cut55, RR, reduceCtorEq]))) | refine And.intro ?_ ?_ | exact Or.inr ⟨rfl, Nat.le_refl _⟩ | exact (fun h => Bool.noConfusion h))
      · exact ⟨(j + 1, false), (by first | rfl | (simp only [trimE, trimM, List.take_succ_cons, List.take_zero, List.take_nil, List.map_cons, List.map_nil, Option.map_some, Option.map_none, MObj.kill, PV.kill, Nat.reduceLeDiff, decide_true, decide_false, dec_true, dec_false, Bool.false_eq_true, if_false, if_true, reduceIte, List.zip_cons_cons, List.zip_nil_left, Nat.le_refl, Nat.zero_le, Nat.not_le, Nat.lt_irrefl]; done) | (simp [trimE, trimM, MObj.kill, PV.kill]; done)), (by first | rfl | (simp only [trimE, trimM, List.take_succ_cons, List.take_zero, List.take_nil, List.map_cons, List.map_nil, Option.map_some, Option.map_none, MObj.kill, PV.kill, Nat.reduceLeDiff, decide_true, decide_false, dec_true, dec_false, Bool.false_eq_true, if_false, if_true, reduceIte, List.zip_cons_cons, List.zip_nil_left, Nat.le_refl, Nat.zero_le, Nat.not_le, Nat.lt_irrefl]; done) | (simp [trimE, trimM, MObj.kill, PV.kill]; done)), ⟨by simp only; omega, fun h => by cases h⟩, by simp only; omega⟩
      · have hcf : confB (factT 0 x) (factT 0 y) = false := by simp [confB, factT, salF] at hcond ⊢; grind
        exact ⟨(j + 1, ap), (by first | rfl | (simp only [trimE, trimM, List.take_succ_cons, List.take_zero, List.take_nil, List.map_cons, List.map_nil, Option.map_some, Option.map_none, MObj.kill, PV.kill, Nat.reduceLeDiff, decide_true, decide_false, dec_true, dec_false, Bool.false_eq_true, if_false, if_true, reduceIte, List.zip_cons_cons, List.zip_nil_left, Nat.le_refl, Nat.zero_le, Nat.not_le, Nat.lt_irrefl]; done) | (simp [trimE, trimM, MObj.kill, PV.kill]; done)), (by first | rfl | (simp only [trimE, trimM, List.take_succ_cons, List.take_zero, List.take_nil, List.map_cons, List.map_nil, Option.map_some, Option.map_none, MObj.kill, PV.kill, Nat.reduceLeDiff, decide_true, decide_false, dec_true, dec_false, Bool.false_eq_true, if_false, if_true, reduceIte, List.zip_cons_cons, List.zip_nil_left, Nat.le_refl, Nat.zero_le, Nat.not_le, Nat.lt_irrefl]; done) | (simp [trimE, trimM, MObj.kill, PV.kill]; done)), ⟨by simp only; omega, fun ha => by
          obtain ⟨h1, h2⟩ := hap ha
          refine ⟨h1, fun g hg => ?_⟩
          simp only [hsj] at hg
          rcases List.mem_append.1 hg with hg | hg
          · exact h2 g hg
          · rw [List.mem_singleton.1 hg]; exact hcf⟩, by simp only; omega⟩
    · have hdj : decide ((j : Int) < (i : Int)) = false := by simp only [decide_eq_false_iff_not]; omega
      have hji : j = i := by omega
      subst hji
      repeat' (first | exact True.intro | (refine PW.seqK ?_; intro K hK) | refine PW.block ?_ | refine PW.scope ?_ | refine PW.label ?_ | refine PW.exit ?_ | refine PW.ret ?_ | refine PW.skip ?_ | refine seqK_n (by assumption) ?_ | refine seqK_r (by assumption) ?_ | refine seqK_e (by assumption) ?_ | refine PW.regionA ?_ | exact schedW_stop_i | refine schK_n (by assumption) ?_ | (refine schedW_alt_k ?_ ?_; focus (intro K hK; simp only [hsll, hdj, SS, SS2, SS3, SS4, SS5, Option.map_some, Nat.reduceAdd, reduceIte, Nat.reduceEqDiff, Nat.reduceBEq, eq_self, implies_true, ne_eq, beq_self_eq_true, id_eq, reduceCtorEq]; (try go_unwrap; try simp only [hsll, hdj, RR, reduceCtorEq]))) | (refine PW.cond rfl ?_ ?_ <;> intro hcond <;> (try contradiction) <;> try simp only [decide_eq_true_eq, decide_eq_false_iff_not] at hcond) | (refine gd_i ?_; intro hg; try simp only [hg]) | ((first | show @LE.le Nat _ _ _ | show @LT.lt Nat _ _ _ | show @LE.le Int _ _ _ | show @LT.lt Int _ _ _ | show @Eq Nat _ _ | show @Eq Int _ _ | show @Eq Bool _ _ | show _ ∨ _ | show ¬ _); first | omega | (simp only [decide_eq_true_eq, decide_eq_false_iff_not, List.length_cons, List.length_nil, List.length_append, List.length_map, Sh.size] <;> omega) | (go_unwrap; omega)) | ((first | refine PW.region ?_ | refine PW.regionQ ?_ | refine schedW_done_i ?_ | show (_ : Post) _ _ _ | show @Eq (List PV) _ _ | show @Eq Bool _ _ | show opsW _ _ _ _ _ _ _ _ | show okAll _ | show @Eq Bool _ _ ∨ _); focus (simp only [hsll, hdj, SS, SS2, SS3, SS4, SS5, Option.map_some, Nat.reduceAdd, reduceIte, Nat.reduceEqDiff, Nat.reduceBEq, eq_self, implies_true, ne_eq, beq_self_eq_true, id_eq, reduceCtorEq]; (try go_unwrap; try simp only [hsll, hdj, RR, reduceCtorEq]))) | refine And.intro ?_ ?_ | exact Or.inr ⟨rfl, Nat.le_refl _⟩ | exact (fun h => Bool.noConfusion h))
      all_goals exact ⟨(j + 1, ap), (by first | rfl | (simp only [trimE, trimM, List.take_succ_cons, List.take_zero, List.take_nil, List.map_cons, List.map_nil, Option.map_some, Option.map_none, MObj.kill, PV.kill, Nat.reduceLeDiff, decide_true, decide_false, dec_true, dec_false, Bool.false_eq_true, if_false, if_true, reduceIte, List.zip_cons_cons, List.zip_nil_left, Nat.le_refl, Nat.zero_le, Nat.not_le, Nat.lt_irrefl]; done) | (simp [trimE, trimM, MObj.kill, PV.kill]; done)), (by first | rfl | (simp only [trimE, trimM, List.take_succ_cons, List.take_zero, List.take_nil, List.map_cons, List.map_nil, Option.map_some, Option.map_none, MObj.kill, PV.kill, Nat.reduceLeDiff, decide_true, decide_false, dec_true, dec_false, Bool.false_eq_true, if_false, if_true, reduceIte, List.zip_cons_cons, List.zip_nil_left, Nat.le_refl, Nat.zero_le, Nat.not_le, Nat.lt_irrefl]; done) | (simp [trimE, trimM, MObj.kill, PV.kill]; done)), ⟨by simp only; omega, fun ha => by obtain ⟨h1, h2⟩ := hap ha; simp only [hst]; exact pair_snoc h1 h2⟩, by simp only; omega⟩
  · have hdi : decide ((i : Int) < l.length) = false := by simp only [decide_eq_false_iff_not]; omega
    have hil : l.take i = l := List.take_of_length_le h
    rw [hil] at hap
    have h8a := v8 l (by omega) hok
    have h8b := v8 O (by omega) hOok
    have hAl := told_len l
    have hBl := told_len O
    have hAP : (toldF l).Perm (toldF O) := (hO.symm.map _)
    repeat' (first | exact True.intro | (refine PW.seqK ?_; intro K hK) | refine PW.block ?_ | refine PW.scope ?_ | refine PW.label ?_ | refine PW.exit ?_ | refine PW.ret ?_ | refine PW.skip ?_ | refine seqK_n (by assumption) ?_ | refine seqK_r (by assumption) ?_ | refine seqK_e (by assumption) ?_ | refine PW.regionA ?_ | exact schedW_stop_i | refine schK_n (by assumption) ?_ | (refine schedW_alt_k ?_ ?_; focus (intro K hK; simp only [hdi, SS, SS2, SS3, SS4, SS5, Option.map_some, Nat.reduceAdd, reduceIte, Nat.reduceEqDiff, Nat.reduceBEq, eq_self, implies_true, ne_eq, beq_self_eq_true, id_eq, reduceCtorEq]; (try go_unwrap; try simp only [hdi, RR, reduceCtorEq]))) | (refine PW.cond rfl ?_ ?_ <;> intro hcond <;> (try contradiction) <;> try simp only [decide_eq_true_eq, decide_eq_false_iff_not] at hcond) | (apply goCall_V e8; (case hV => (simp only [hdi, SS, SS2, SS3, SS4, SS5, Option.map_some, Nat.reduceAdd, reduceIte, Nat.reduceEqDiff, Nat.reduceBEq, eq_self, implies_true, ne_eq, beq_self_eq_true, id_eq, reduceCtorEq]; (try go_unwrap; try simp only [hdi, RR, reduceCtorEq]); exact h8a)); (try (case hs => rfl)); (try (case hf => first | exact Or.inl rfl | exact Or.inr ⟨rfl, rfl⟩ | (refine Or.inl ?_; simp only [hdi, SS, SS2, SS3, SS4, SS5, Option.map_some, Nat.reduceAdd, reduceIte, Nat.reduceEqDiff, Nat.reduceBEq, eq_self, implies_true, ne_eq, beq_self_eq_true, id_eq, reduceCtorEq]; done) | (refine Or.inr ⟨rfl, ?_⟩; simp only [hdi, SS, SS2, SS3, SS4, SS5, Option.map_some, Nat.reduceAdd, reduceIte, Nat.reduceEqDiff, Nat.reduceBEq, eq_self, implies_true, ne_eq, beq_self_eq_true, id_eq, reduceCtorEq]; done))); all_goals (first | (simp only [hdi, SS, SS2, SS3, SS4, SS5, Option.map_some, Nat.reduceAdd, reduceIte, Nat.reduceEqDiff, Nat.reduceBEq, eq_self, implies_true, ne_eq, beq_self_eq_true, id_eq, reduceCtorEq]; (try go_unwrap; try simp only [hdi, RR, reduceCtorEq])) | (show Env; skip) | (show Mem; skip))) | (apply goCall_V e8; (case hV => (simp only [hdi, SS, SS2, SS3, SS4, SS5, Option.map_some, Nat.reduceAdd, reduceIte, Nat.reduceEqDiff, Nat.reduceBEq, eq_self, implies_true, ne_eq, beq_self_eq_true, id_eq, reduceCtorEq]; (try go_unwrap; try simp only [hdi, RR, reduceCtorEq]); exact h8b)); (try (case hs => rfl)); (try (case hf => first | exact Or.inl rfl | exact Or.inr ⟨rfl, rfl⟩ | (refine Or.inl ?_; simp only [hdi, SS, SS2, SS3, SS4, SS5, Option.map_some, Nat.reduceAdd, reduceIte, Nat.reduceEqDiff, Nat.reduceBEq, eq_self, implies_true, ne_eq, beq_self_eq_true, id_eq, reduceCtorEq]; done) | (refine Or.inr ⟨rfl, ?_⟩; simp only [hdi, SS, SS2, SS3, SS4, SS5, Option.map_some, Nat.reduceAdd, reduceIte, Nat.reduceEqDiff, Nat.reduceBEq, eq_self, implies_true, ne_eq, beq_self_eq_true, id_eq, reduceCtorEq]; done))); all_goals (first | (simp only [hdi, SS, SS2, SS3, SS4, SS5, Option.map_some, Nat.reduceAdd, reduceIte, Nat.reduceEqDiff, Nat.reduceBEq, eq_self, implies_true, ne_eq, beq_self_eq_true, id_eq, reduceCtorEq]; (try go_unwrap; try simp only [hdi, RR, reduceCtorEq])) | (show Env; skip) | (show Mem; skip))) | (refine gd_i ?_; intro hg; try simp only [hg]) | ((first | show @LE.le Nat _ _ _ | show @LT.lt Nat _ _ _ | show @LE.le Int _ _ _ | show @LT.lt Int _ _ _ | show @Eq Nat _ _ | show @Eq Int _ _ | show @Eq Bool _ _ | show _ ∨ _ | show ¬ _); first | omega | (simp only [decide_eq_true_eq, decide_eq_false_iff_not, List.length_cons, List.length_nil, List.length_append, List.length_map, Sh.size] <;> omega) | (go_unwrap; omega)) | ((first | refine PW.region ?_ | refine PW.regionQ ?_ | refine schedW_done_i ?_ | show (_ : Post) _ _ _ | show @Eq (List PV) _ _ | show @Eq Bool _ _ | show opsW _ _ _ _ _ _ _ _ | show okAll _ | show @Eq Bool _ _ ∨ _); focus (simp only [hdi, SS, SS2, SS3, SS4, SS5, Option.map_some, Nat.reduceAdd, reduceIte, Nat.reduceEqDiff, Nat.reduceBEq, eq_self, implies_true, ne_eq, beq_self_eq_true, id_eq, reduceCtorEq]; (try go_unwrap; try simp only [hdi, RR, reduceCtorEq]))) | refine And.intro ?_ ?_ | exact Or.inr ⟨rfl, Nat.le_refl _⟩ | exact (fun h => Bool.noConfusion h))
    have hAk := told_kind l
    have hBk := told_kind O
    have hst : ∀ j (h : j < l.length), toldF (l.take (j + 1)) = toldF (l.take j) ++ [factT 0 l[j]] := fun j h => told_take l h
    have hf0 : toldF (l.take 0) = [] := rfl
    obtain ⟨A, hA⟩ : ∃ A, toldF l = A := ⟨_, rfl⟩
    obtain ⟨B, hB⟩ : ∃ B, toldF O = B := ⟨_, rfl⟩
    simp only [hA, hB] at hap hAl hBl hAP hAk hBk ⊢
    have hAB : ap = true → ∀ p d, lastF A p d = lastF B p d := fun h p d => last_perm hAP (hap h) p d
    clear hap h8a h8b
    refine PW.loopG (σ := Nat) 2 (fun _ _ => rfl) [0, 2, 6, 12, 19, 21, 146] (fun p => [tdL l, .int .u16 d, .bool false, .bool ap, .ref 0 0, .ref 1 0, .int .u32 p]) (fun _ => [some (.var (some 1) (stP A)), some (.var (some 1) (stP B))])
      (fun p => p ≤ 257) (fun p => 257 - p) 0 ?_ (by first | rfl | simp) (by simp) ?_
    · simp only [SS, SS2, SS3, SS4, SS5, Option.map_some, Nat.reduceAdd, reduceIte, Nat.reduceEqDiff, Nat.reduceBEq, eq_self, implies_true, ne_eq, beq_self_eq_true, id_eq, reduceCtorEq]; rfl
    intro p hp
    simp only [List.zip_cons_cons, List.zip_nil_left]
    rcases Nat.lt_or_ge p 257 with h9 | h9
    · have hdp : decide ((p : Int) < 257) = true := by simp only [decide_eq_true_eq]; omega
      have h10a := v10 A (by omega) l.length (by omega)
      have h10b := v10 B (by omega) l.length (by omega)
      rw [List.take_of_length_le (by omega)] at h10a h10b
      have h11a := v11z A (by omega) hAk p 2
      have h11b := v11z B (by omega) hBk p 2
      have h12a := v12 (factsM A p 2) (kn_big A (by omega) _) d
      have h12b := v12 (factsM B p 2) (kn_big B (by omega) _) d
      obtain ⟨na, wa, ta, ba, ea, da, Aa⟩ := ans_val A p d
      obtain ⟨nb, wb, tb, bb, eb, db, Ab⟩ := ans_val B p d
      rw [ea, da] at h12a
      rw [eb, db] at h12b
      have wd : IntKind.i64.wrap (d : Int) = d := IntWalk.i64_in _ (by omega)
      have h90 : VCalls Tryz.prog G0 9 [.nilSl] (linP []) := by simpa [knW] using v9 [] (by simp)
      generalize factsM A p 2 = KA at h11a h12a ea da
      generalize factsM B p 2 = KB at h11b h12b eb db
      have hq : ap = true → wa = wb ∧ ba = bb := fun h => by rw [hAB h p d] at Aa; exact Aa.eq Ab
      repeat' (first | exact True.intro | (refine PW.stop (x := .seq (.region false (⟨some 150, none, .rd (.load (some 1)) [.tmp 19]⟩ :: _) _) _) ?_) | (refine PW.seqK ?_; intro K hK) | refine PW.block ?_ | refine PW.scope ?_ | refine PW.label ?_ | refine PW.exit ?_ | refine PW.ret ?_ | refine PW.skip ?_ | refine seqK_n (by assumption) ?_ | refine seqK_r (by assumption) ?_ | refine seqK_e (by assumption) ?_ | refine PW.regionA ?_ | exact schedW_stop_i | refine schK_n (by assumption) ?_ | (refine schedW_alt_k ?_ ?_; focus (intro K hK; simp only [hdp, SS, SS2, SS3, SS4, SS5, Option.map_some, Nat.reduceAdd, reduceIte, Nat.reduceEqDiff, Nat.reduceBEq, eq_self, implies_true, ne_eq, beq_self_eq_true, id_eq, reduceCtorEq]; (try go_unwrap; try simp only [hdp, RR, reduceCtorEq]))) | (refine PW.cond rfl ?_ ?_ <;> intro hcond <;> (try contradiction) <;> try simp only [decide_eq_true_eq, decide_eq_false_iff_not] at hcond) | (refine gd_i ?_; intro hg; try simp only [hg]) | ((first | show @LE.le Nat _ _ _ | show @LT.lt Nat _ _ _ | show @LE.le Int _ _ _ | show @LT.lt Int _ _ _ | show @Eq Nat _ _ | show @Eq Int _ _ | show @Eq Bool _ _ | show _ ∨ _ | show ¬ _); first | omega | (simp only [decide_eq_true_eq, decide_eq_false_iff_not, List.length_cons, List.length_nil, List.length_append, List.length_map, Sh.size] <;> omega) | (go_unwrap; omega)) | ((first | refine PW.region ?_ | refine PW.regionQ ?_ | refine schedW_done_i ?_ | show (_ : Post) _ _ _ | show @Eq (List PV) _ _ | show @Eq Bool _ _ | show opsW _ _ _ _ _ _ _ _ | show okAll _ | show @Eq Bool _ _ ∨ _); focus (simp only [hdp, SS, SS2, SS3, SS4, SS5, Option.map_some, Nat.reduceAdd, reduceIte, Nat.reduceEqDiff, Nat.reduceBEq, eq_self, implies_true, ne_eq, beq_self_eq_true, id_eq, reduceCtorEq]; (try go_unwrap; try simp only [hdp, RR, reduceCtorEq]))) | refine And.intro ?_ ?_ | exact Or.inr ⟨rfl, Nat.le_refl _⟩ | exact (fun h => Bool.noConfusion h))
      refine ⟨?_⟩
      refine seqM (E := ?_) (M := ?_) ?_ ?_; rotate_left 2
      · rcases h11a with ⟨h11a, h9a⟩ | ⟨h11a, h9a⟩
        · subst h9a
          repeat' (first | exact True.intro | (refine PW.seqK ?_; intro K hK) | refine PW.block ?_ | refine PW.scope ?_ | refine PW.label ?_ | refine PW.exit ?_ | refine PW.ret ?_ | refine PW.skip ?_ | refine seqK_n (by assumption) ?_ | refine seqK_r (by assumption) ?_ | refine seqK_e (by assumption) ?_ | refine PW.regionA ?_ | exact schedW_stop_i | refine schK_n (by assumption) ?_ | (refine schedW_alt_k ?_ ?_; focus (intro K hK; simp only [wd, cut55, hlen, SS, SS2, SS3, SS4, SS5, Option.map_some, Nat.reduceAdd, reduceIte, Nat.reduceEqDiff, Nat.reduceBEq, eq_self, implies_true, ne_eq, beq_self_eq_true, id_eq, reduceCtorEq]; (try go_unwrap; try simp only [wd, cut55, hlen, RR, reduceCtorEq]))) | (refine PW.cond rfl ?_ ?_ <;> intro hcond <;> (try contradiction) <;> try simp only [decide_eq_true_eq, decide_eq_false_iff_not] at hcond) | exact mergeQ_mk _ _ | (refine gd_i ?_; intro hg; try simp only [hg]) | refine goCall_W e10 (h10a) ?_ ?_ ?_ ?_ | refine goCall_W e11 (h11a) ?_ ?_ ?_ ?_ | refine goCall_W e9 (h90) ?_ ?_ ?_ ?_ | refine goCall_W e12 (h12a) ?_ ?_ ?_ ?_ | ((first | show @LE.le Nat _ _ _ | show @LT.lt Nat _ _ _ | show @LE.le Int _ _ _ | show @LT.lt Int _ _ _ | show @Eq Nat _ _ | show @Eq Int _ _ | show @Eq Bool _ _ | show _ ∨ _ | show ¬ _); first | omega | (simp only [decide_eq_true_eq, decide_eq_false_iff_not, List.length_cons, List.length_nil, List.length_append, List.length_map, Sh.size] <;> omega) | (go_unwrap; omega)) | ((first | refine PW.region ?_ | refine PW.regionQ ?_ | refine schedW_done_i ?_ | show (_ : Post) _ _ _ | show @Eq (List PV) _ _ | show @Eq Bool _ _ | show opsW _ _ _ _ _ _ _ _ | show okAll _ | show @Eq Bool _ _ ∨ _); focus (simp only [wd, cut55, hlen, SS, SS2, SS3, SS4, SS5, Option.map_some, Nat.reduceAdd, reduceIte, Nat.reduceEqDiff, Nat.reduceBEq, eq_self, implies_true, ne_eq, beq_self_eq_true, id_eq, reduceCtorEq]; (try go_unwrap; try simp only [wd, cut55, hlen, RR, reduceCtorEq]))) | refine And.intro ?_ ?_ | exact Or.inr ⟨rfl, Nat.le_refl _⟩ | exact (fun h => Bool.noConfusion h))
        · repeat' (first | exact True.intro | (refine PW.seqK ?_; intro K hK) | refine PW.block ?_ | refine PW.scope ?_ | refine PW.label ?_ | refine PW.exit ?_ | refine PW.ret ?_ | refine PW.skip ?_ | refine seqK_n (by assumption) ?_ | refine seqK_r (by assumption) ?_ | refine seqK_e (by assumption) ?_ | refine PW.regionA ?_ | exact schedW_stop_i | refine schK_n (by assumption) ?_ | (refine schedW_alt_k ?_ ?_; focus (intro K hK; simp only [wd, cut55, hlen, SS, SS2, SS3, SS4, SS5, Option.map_some, Nat.reduceAdd, reduceIte, Nat.reduceEqDiff, Nat.reduceBEq, eq_self, implies_true, ne_eq, beq_self_eq_true, id_eq, reduceCtorEq]; (try go_unwrap; try simp only [wd, cut55, hlen, RR, reduceCtorEq]))) | (refine PW.cond rfl ?_ ?_ <;> intro hcond <;> (try contradiction) <;> try simp only [decide_eq_true_eq, decide_eq_false_iff_not] at hcond) | exact mergeQ_mk _ _ | (refine gd_i ?_; intro hg; try simp only [hg]) | refine goCall_W e10 (h10a) ?_ ?_ ?_ ?_ | refine goCall_W e11 (h11a) ?_ ?_ ?_ ?_ | refine goCall_W e9 (h9a) ?_ ?_ ?_ ?_ | refine goCall_W e12 (h12a) ?_ ?_ ?_ ?_ | ((first | show @LE.le Nat _ _ _ | show @LT.lt Nat _ _ _ | show @LE.le Int _ _ _ | show @LT.lt Int _ _ _ | show @Eq Nat _ _ | show @Eq Int _ _ | show @Eq Bool _ _ | show _ ∨ _ | show ¬ _); first | omega | (simp only [decide_eq_true_eq, decide_eq_false_iff_not, List.length_cons, List.length_nil, List.length_append, List.length_map, Sh.size] <;> omega) | (go_unwrap; omega)) | ((first | refine PW.region ?_ | refine PW.regionQ ?_ | refine schedW_done_i ?_ | show (_ : Post) _ _ _ | show @Eq (List PV) _ _ | show @Eq Bool _ _ | show opsW _ _ _ _ _ _ _ _ | show okAll _ | show @Eq Bool _ _ ∨ _); focus (simp only [wd, cut55, hlen, SS, SS2, SS3, SS4, SS5, Option.map_some, Nat.reduceAdd, reduceIte, Nat.reduceEqDiff, Nat.reduceBEq, eq_self, implies_true, ne_eq, beq_self_eq_true, id_eq, reduceCtorEq]; (try go_unwrap; try simp only [wd, cut55, hlen, RR, reduceCtorEq]))) | refine And.intro ?_ ?_ | exact Or.inr ⟨rfl, Nat.le_refl _⟩ | exact (fun h => Bool.noConfusion h))
      refine seqM (E := ?_) (M := ?_) ?_ ?_; rotate_left 2
      · rcases h11b with ⟨h11b, h9b⟩ | ⟨h11b, h9b⟩
        · subst h9b
          repeat' (first | exact True.intro | (refine PW.seqK ?_; intro K hK) | refine PW.block ?_ | refine PW.scope ?_ | refine PW.label ?_ | refine PW.exit ?_ | refine PW.ret ?_ | refine PW.skip ?_ | refine seqK_n (by assumption) ?_ | refine seqK_r (by assumption) ?_ | refine seqK_e (by assumption) ?_ | refine PW.regionA ?_ | exact schedW_stop_i | refine schK_n (by assumption) ?_ | (refine schedW_alt_k ?_ ?_; focus (intro K hK; simp only [wd, cut55, hlen, SS, SS2, SS3, SS4, SS5, Option.map_some, Nat.reduceAdd, reduceIte, Nat.reduceEqDiff, Nat.reduceBEq, eq_self, implies_true, ne_eq, beq_self_eq_true, id_eq, reduceCtorEq]; (try go_unwrap; try simp only [wd, cut55, hlen, RR, reduceCtorEq]))) | (refine PW.cond rfl ?_ ?_ <;> intro hcond <;> (try contradiction) <;> try simp only [decide_eq_true_eq, decide_eq_false_iff_not] at hcond) | exact mergeQ_mk _ _ | (refine gd_i ?_; intro hg; try simp only [hg]) | refine goCall_W e10 (h10b) ?_ ?_ ?_ ?_ | refine goCall_W e11 (h11b) ?_ ?_ ?_ ?_ | refine goCall_W e9 (h90) ?_ ?_ ?_ ?_ | refine goCall_W e12 (h12b) ?_ ?_ ?_ ?_ | ((first | show @LE.le Nat _ _ _ | show @LT.lt Nat _ _ _ | show @LE.le Int _ _ _ | show @LT.lt Int _ _ _ | show @Eq Nat _ _ | show @Eq Int _ _ | show @Eq Bool _ _ | show _ ∨ _ | show ¬ _); first | omega | (simp only [decide_eq_true_eq, decide_eq_false_iff_not, List.length_cons, List.length_nil, List.length_append, List.length_map, Sh.size] <;> omega) | (go_unwrap; omega)) | ((first | refine PW.region ?_ | refine PW.regionQ ?_ | refine schedW_done_i ?_ | show (_ : Post) _ _ _ | show @Eq (List PV) _ _ | show @Eq Bool _ _ | show opsW _ _ _ _ _ _ _ _ | show okAll _ | show @Eq Bool _ _ ∨ _); focus (simp only [wd, cut55, hlen, SS, SS2, SS3, SS4, SS5, Option.map_some, Nat.reduceAdd, reduceIte, Nat.reduceEqDiff, Nat.reduceBEq, eq_self, implies_true, ne_eq, beq_self_eq_true, id_eq, reduceCtorEq]; (try go_unwrap; try simp only [wd, cut55, hlen, RR, reduceCtorEq]))) | refine And.intro ?_ ?_ | exact Or.inr ⟨rfl, Nat.le_refl _⟩ | exact (fun h => Bool.noConfusion h))
        · repeat' (first | exact True.intro | (refine PW.seqK ?_; intro K hK) | refine PW.block ?_ | refine PW.scope ?_ | refine PW.label ?_ | refine PW.exit ?_ | refine PW.ret ?_ | refine PW.skip ?_ | refine seqK_n (by assumption) ?_ | refine seqK_r (by assumption) ?_ | refine seqK_e (by assumption) ?_ | refine PW.regionA ?_ | exact schedW_stop_i | refine schK_n (by assumption) ?_ | (refine schedW_alt_k ?_ ?_; focus (intro K hK; simp only [wd, cut55, hlen, SS, SS2, SS3, SS4, SS5, Option.map_some, Nat.reduceAdd, reduceIte, Nat.reduceEqDiff, Nat.reduceBEq, eq_self, implies_true, ne_eq, beq_self_eq_true, id_eq, reduceCtorEq]; (try go_unwrap; try simp only [wd, cut55, hlen, RR, reduceCtorEq]))) | (refine PW.cond rfl ?_ ?_ <;> intro hcond <;> (try contradiction) <;> try simp only [decide_eq_true_eq, decide_eq_false_iff_not] at hcond) | exact mergeQ_mk _ _ | (refine gd_i ?_; intro hg; try simp only [hg]) | refine goCall_W e10 (h10b) ?_ ?_ ?_ ?_ | refine goCall_W e11 (h11b) ?_ ?_ ?_ ?_ | refine goCall_W e9 (h9b) ?_ ?_ ?_ ?_ | refine goCall_W e12 (h12b) ?_ ?_ ?_ ?_ | ((first | show @LE.le Nat _ _ _ | show @LT.lt Nat _ _ _ | show @LE.le Int _ _ _ | show @LT.lt Int _ _ _ | show @Eq Nat _ _ | show @Eq Int _ _ | show @Eq Bool _ _ | show _ ∨ _ | show ¬ _); first | omega | (simp only [decide_eq_true_eq, decide_eq_false_iff_not, List.length_cons, List.length_nil, List.length_append, List.length_map, Sh.size] <;> omega) | (go_unwrap; omega)) | ((first | refine PW.region ?_ | refine PW.regionQ ?_ | refine schedW_done_i ?_ | show (_ : Post) _ _ _ | show @Eq (List PV) _ _ | show @Eq Bool _ _ | show opsW _ _ _ _ _ _ _ _ | show okAll _ | show @Eq Bool _ _ ∨ _); focus (simp only [wd, cut55, hlen, SS, SS2, SS3, SS4, SS5, Option.map_some, Nat.reduceAdd, reduceIte, Nat.reduceEqDiff, Nat.reduceBEq, eq_self, implies_true, ne_eq, beq_self_eq_true, id_eq, reduceCtorEq]; (try go_unwrap; try simp only [wd, cut55, hlen, RR, reduceCtorEq]))) | refine And.intro ?_ ?_ | exact Or.inr ⟨rfl, Nat.le_refl _⟩ | exact (fun h => Bool.noConfusion h))
      clear h10a h10b h12a h12b ea eb da db h90
      repeat' (first | exact True.intro | (refine PW.stop (x := .seq (.region false (⟨some 28, none, .rd .mov [.pv (.int .i64 0)]⟩ :: _) _) _) ?_) | (refine PW.seqK ?_; intro K hK) | refine PW.block ?_ | refine PW.scope ?_ | refine PW.label ?_ | refine PW.exit ?_ | refine PW.ret ?_ | refine PW.skip ?_ | refine seqK_n (by assumption) ?_ | refine seqK_r (by assumption) ?_ | refine seqK_e (by assumption) ?_ | refine PW.regionA ?_ | exact schedW_stop_i | refine schK_n (by assumption) ?_ | (refine schedW_alt_k ?_ ?_; focus (intro K hK; simp only [SS, SS2, SS3, SS4, SS5, Option.map_some, Nat.reduceAdd, reduceIte, Nat.reduceEqDiff, Nat.reduceBEq, eq_self, implies_true, ne_eq, beq_self_eq_true, id_eq, reduceCtorEq]; (try go_unwrap; try simp only [RR, reduceCtorEq]))) | (refine PW.cond rfl ?_ ?_ <;> intro hcond <;> (try contradiction) <;> try simp only [decide_eq_true_eq, decide_eq_false_iff_not] at hcond) | (refine gd_i ?_; intro hg; try simp only [hg]) | ((first | show @LE.le Nat _ _ _ | show @LT.lt Nat _ _ _ | show @LE.le Int _ _ _ | show @LT.lt Int _ _ _ | show @Eq Nat _ _ | show @Eq Int _ _ | show @Eq Bool _ _ | show _ ∨ _ | show ¬ _); first | omega | (simp only [decide_eq_true_eq, decide_eq_false_iff_not, List.length_cons, List.length_nil, List.length_append, List.length_map, Sh.size] <;> omega) | (go_unwrap; omega)) | ((first | refine PW.region ?_ | refine PW.regionQ ?_ | refine schedW_done_i ?_ | show (_ : Post) _ _ _ | show @Eq (List PV) _ _ | show @Eq Bool _ _ | show opsW _ _ _ _ _ _ _ _ | show okAll _ | show @Eq Bool _ _ ∨ _); focus (simp only [SS, SS2, SS3, SS4, SS5, Option.map_some, Nat.reduceAdd, reduceIte, Nat.reduceEqDiff, Nat.reduceBEq, eq_self, implies_true, ne_eq, beq_self_eq_true, id_eq, reduceCtorEq]; (try go_unwrap; try simp only [RR, reduceCtorEq]))) | refine And.intro ?_ ?_ | exact Or.inr ⟨rfl, Nat.le_refl _⟩ | exact (fun h => Bool.noConfusion h))
      · exfalso
        cases ap with
        | false => simp at hcond
        | true => obtain ⟨rfl, rfl⟩ := hq rfl; simp at hcond
      refine ⟨?_⟩
      repeat' (first | exact True.intro | (refine PW.seqK ?_; intro K hK) | refine PW.block ?_ | refine PW.scope ?_ | refine PW.label ?_ | refine PW.exit ?_ | refine PW.ret ?_ | refine PW.skip ?_ | refine seqK_n (by assumption) ?_ | refine seqK_r (by assumption) ?_ | refine seqK_e (by assumption) ?_ | refine PW.regionA ?_ | exact schedW_stop_i | refine schK_n (by assumption) ?_ | (refine schedW_alt_k ?_ ?_; focus (intro K hK; simp only [hlen, SS, SS2, SS3, SS4, SS5, Option.map_some, Nat.reduceAdd, reduceIte, Nat.reduceEqDiff, Nat.reduceBEq, eq_self, implies_true, ne_eq, beq_self_eq_true, id_eq, reduceCtorEq]; (try go_unwrap; try simp only [hlen, RR, reduceCtorEq]))) | (refine PW.cond rfl ?_ ?_ <;> intro hcond <;> (try contradiction) <;> try simp only [decide_eq_true_eq, decide_eq_false_iff_not] at hcond) | (refine gd_i ?_; intro hg; try simp only [hg]) | ((first | show @LE.le Nat _ _ _ | show @LT.lt Nat _ _ _ | show @LE.le Int _ _ _ | show @LT.lt Int _ _ _ | show @Eq Nat _ _ | show @Eq Int _ _ | show @Eq Bool _ _ | show _ ∨ _ | show ¬ _); first | omega | (simp only [decide_eq_true_eq, decide_eq_false_iff_not, List.length_cons, List.length_nil, List.length_append, List.length_map, Sh.size] <;> omega) | (go_unwrap; omega)) | ((first | refine PW.region ?_ | refine PW.regionQ ?_ | refine schedW_done_i ?_ | show (_ : Post) _ _ _ | show @Eq (List PV) _ _ | show @Eq Bool _ _ | show opsW _ _ _ _ _ _ _ _ | show okAll _ | show @Eq Bool _ _ ∨ _); focus (simp only [hlen, SS, SS2, SS3, SS4, SS5, Option.map_some, Nat.reduceAdd, reduceIte, Nat.reduceEqDiff, Nat.reduceBEq, eq_self, implies_true, ne_eq, beq_self_eq_true, id_eq, reduceCtorEq]; (try go_unwrap; try simp only [hlen, RR, reduceCtorEq]))) | refine And.intro ?_ ?_ | exact Or.inr ⟨rfl, Nat.le_refl _⟩ | exact (fun h => Bool.noConfusion h))
      refine PW.loopG (σ := Nat × Int × Bool) 4 (fun _ _ => rfl) [0, 2, 6, 12, 19, 21, 23, 24, 25, 28, 29, 146, 188, 189, 190] (fun q => [tdL l, .int .u16 d, .bool false, .bool ap, .ref 0 0, .ref 1 0, .int .u32 p, .ref 2 0, .bool ba, .int .i64 q.2.1, .bool q.2.2, .int .u32 p, tdL l, .int .i64 l.length, .int .i64 q.1]) (fun _ => [some (.var (some 1) (stP A)), some (.var (some 1) (stP B)), some (.var (some 3) (.agg [.int .i64 na, .int .i64 wa, .str ta])), some (.var (some 3) (.agg [.int .i64 nb, .int .i64 wb, .str tb]))])
        (fun q => q.1 ≤ l.length ∧ Ans (lastF (toldF (l.take q.1)) p d) q.2.1 q.2.2) (fun q => l.length - q.1) (0, 0, false) ?_ (by first | rfl | simp) ⟨by simp, .inl ⟨rfl, rfl, rfl⟩⟩ ?_
      · simp only [SS, SS2, SS3, SS4, SS5, Option.map_some, Nat.reduceAdd, reduceIte, Nat.reduceEqDiff, Nat.reduceBEq, eq_self, implies_true, ne_eq, beq_self_eq_true, id_eq, reduceCtorEq]; rfl
      rintro ⟨j, w, hd⟩ ⟨hj, hW⟩
      simp only at hj hW
      simp only [List.zip_cons_cons, List.zip_nil_left]
      rcases Nat.lt_or_ge j l.length with h3 | h3
      · have hdj : decide ((j : Int) < l.length) = true := by simp only [decide_eq_true_eq]; omega
        have hgj := td_getD l j h3
        have hyo := hok l[j] (List.getElem_mem h3)
        have hs := hst j h3
        generalize l[j] = y at hgj hyo hs
        have h7y := v7 y hyo
        simp only [factT, salF] at h7y
        have htdy : tdP y = .agg [.int .u8 y.p, .int .u32 y.c, .int .u16 y.f, .int .u16 y.d, .int .u16 y.i] := rfl
        rw [htdy] at h7y
        obtain ⟨v, c, hA2, ev, ec⟩ := ans_step hW (factT 0 y)
        rw [← hs] at hA2
        repeat' (first | exact True.intro | (refine PW.seqK ?_; intro K hK) | refine PW.block ?_ | refine PW.scope ?_ | refine PW.label ?_ | refine PW.exit ?_ | refine PW.ret ?_ | refine PW.skip ?_ | refine seqK_n (by assumption) ?_ | refine seqK_r (by assumption) ?_ | refine seqK_e (by assumption) ?_ | refine PW.regionA ?_ | exact schedW_stop_i | refine schK_n (by assumption) ?_ | (refine schedW_alt_k ?_ ?_; focus (intro K hK; simp only [hlen, hdj, hgj, wd, cut55, SS, SS2, SS3, SS4, SS5, Option.map_some, Nat.reduceAdd, reduceIte, Nat.reduceEqDiff, Nat.reduceBEq, eq_self, implies_true, ne_eq, beq_self_eq_true, id_eq, reduceCtorEq]; (try go_unwrap; try simp only [hlen, hdj, hgj, wd, cut55, RR, reduceCtorEq]))) | (refine PW.cond rfl ?_ ?_ <;> intro hcond <;> (try contradiction) <;> try simp only [decide_eq_true_eq, decide_eq_false_iff_not] at hcond) | (refine gd_i ?_; intro hg; try simp only [hg]) | refine goCall_W e7 (h7y) ?_ ?_ ?_ ?_ | ((first | show @LE.le Nat _ _ _ | show @LT.lt Nat _ _ _ | show @LE.le Int _ _ _ | show @LT.lt Int _ _ _ | show @Eq Nat _ _ | show @Eq Int _ _ | show @Eq Bool _ _ | show _ ∨ _ | show ¬ _); first | omega | (simp only [decide_eq_true_eq, decide_eq_false_iff_not, List.length_cons, List.length_nil, List.length_append, List.length_map, Sh.size] <;> omega) | (go_unwrap; omega)) | ((first | refine PW.region ?_ | refine PW.regionQ ?_ | refine schedW_done_i ?_ | show (_ : Post) _ _ _ | show @Eq (List PV) _ _ | show @Eq Bool _ _ | show opsW _ _ _ _ _ _ _ _ | show okAll _ | show @Eq Bool _ _ ∨ _); focus (simp only [hlen, hdj, hgj, wd, cut55, SS, SS2, SS3, SS4, SS5, Option.map_some, Nat.reduceAdd, reduceIte, Nat.reduceEqDiff, Nat.reduceBEq, eq_self, implies_true, ne_eq, beq_self_eq_true, id_eq, reduceCtorEq]; (try go_unwrap; try simp only [hlen, hdj, hgj, wd, cut55, RR, reduceCtorEq]))) | refine And.intro ?_ ?_ | exact Or.inr ⟨rfl, Nat.le_refl _⟩ | exact (fun h => Bool.noConfusion h))
        · have hpc : (pickF p 2 (factT 0 y) && covF d (factT 0 y)) = true := by simp [pickF, covF, factT, salF] at hcond ⊢; grind
          rw [if_pos hpc] at ev ec
          subst ev ec
          exact ⟨(j + 1, (y.c : Int), true), (by first | rfl | (simp only [trimE, trimM, List.take_succ_cons, List.take_zero, List.take_nil, List.map_cons, List.map_nil, Option.map_some, Option.map_none, MObj.kill, PV.kill, Nat.reduceLeDiff, decide_true, decide_false, dec_true, dec_false, Bool.false_eq_true, if_false, if_true, reduceIte, List.zip_cons_cons, List.zip_nil_left, Nat.le_refl, Nat.zero_le, Nat.not_le, Nat.lt_irrefl]; done) | (simp [trimE, trimM, MObj.kill, PV.kill]; done)), (by first | rfl | (simp only [trimE, trimM, List.take_succ_cons, List.take_zero, List.take_nil, List.map_cons, List.map_nil, Option.map_some, Option.map_none, MObj.kill, PV.kill, Nat.reduceLeDiff, decide_true, decide_false, dec_true, dec_false, Bool.false_eq_true, if_false, if_true, reduceIte, List.zip_cons_cons, List.zip_nil_left, Nat.le_refl, Nat.zero_le, Nat.not_le, Nat.lt_irrefl]; done) | (simp [trimE, trimM, MObj.kill, PV.kill]; done)), ⟨by simp only; omega, hA2⟩, by simp only; omega⟩
        · have hpc : (pickF p 2 (factT 0 y) && covF d (factT 0 y)) = false := by simp [pickF, covF, factT, salF] at hcond ⊢; grind
          rw [if_neg (by rw [hpc]; simp)] at ev ec
          subst ev; subst ec
          exact ⟨(j + 1, v, c), (by first | rfl | (simp only [trimE, trimM, List.take_succ_cons, List.take_zero, List.take_nil, List.map_cons, List.map_nil, Option.map_some, Option.map_none, MObj.kill, PV.kill, Nat.reduceLeDiff, decide_true, decide_false, dec_true, dec_false, Bool.false_eq_true, if_false, if_true, reduceIte, List.zip_cons_cons, List.zip_nil_left, Nat.le_refl, Nat.zero_le, Nat.not_le, Nat.lt_irrefl]; done) | (simp [trimE, trimM, MObj.kill, PV.kill]; done)), (by first | rfl | (simp only [trimE, trimM, List.take_succ_cons, List.take_zero, List.take_nil, List.map_cons, List.map_nil, Option.map_some, Option.map_none, MObj.kill, PV.kill, Nat.reduceLeDiff, decide_true, decide_false, dec_true, dec_false, Bool.false_eq_true, if_false, if_true, reduceIte, List.zip_cons_cons, List.zip_nil_left, Nat.le_refl, Nat.zero_le, Nat.not_le, Nat.lt_irrefl]; done) | (simp [trimE, trimM, MObj.kill, PV.kill]; done)), ⟨by simp only; omega, hA2⟩, by simp only; omega⟩
      · have hdj : decide ((j : Int) < l.length) = false := by simp only [decide_eq_false_iff_not]; omega
        rw [List.take_of_length_le h3, hA] at hW
        obtain ⟨rfl, rfl⟩ := Aa.eq hW
        have wn : IntKind.u32.wrap ((p : Int) + 1) = ((p + 1 : Nat) : Int) := by rw [IntWalk.u32_in _ (by omega)]; simp
        cases ba with
        | false =>
          repeat' (first | exact True.intro | (refine PW.seqK ?_; intro K hK) | refine PW.block ?_ | refine PW.scope ?_ | refine PW.label ?_ | refine PW.exit ?_ | refine PW.ret ?_ | refine PW.skip ?_ | refine seqK_n (by assumption) ?_ | refine seqK_r (by assumption) ?_ | refine seqK_e (by assumption) ?_ | refine PW.regionA ?_ | exact schedW_stop_i | refine schK_n (by assumption) ?_ | (refine schedW_alt_k ?_ ?_; focus (intro K hK; simp only [hdj, wn, SS, SS2, SS3, SS4, SS5, Option.map_some, Nat.reduceAdd, reduceIte, Nat.reduceEqDiff, Nat.reduceBEq, eq_self, implies_true, ne_eq, beq_self_eq_true, id_eq, reduceCtorEq]; (try go_unwrap; try simp only [hdj, wn, RR, reduceCtorEq]))) | (refine PW.cond rfl ?_ ?_ <;> intro hcond <;> (try contradiction) <;> try simp only [decide_eq_true_eq, decide_eq_false_iff_not] at hcond) | (refine gd_i ?_; intro hg; try simp only [hg]) | ((first | show @LE.le Nat _ _ _ | show @LT.lt Nat _ _ _ | show @LE.le Int _ _ _ | show @LT.lt Int _ _ _ | show @Eq Nat _ _ | show @Eq Int _ _ | show @Eq Bool _ _ | show _ ∨ _ | show ¬ _); first | omega | (simp only [decide_eq_true_eq, decide_eq_false_iff_not, List.length_cons, List.length_nil, List.length_append, List.length_map, Sh.size] <;> omega) | (go_unwrap; omega)) | ((first | refine PW.region ?_ | refine PW.regionQ ?_ | refine schedW_done_i ?_ | show (_ : Post) _ _ _ | show @Eq (List PV) _ _ | show @Eq Bool _ _ | show opsW _ _ _ _ _ _ _ _ | show okAll _ | show @Eq Bool _ _ ∨ _); focus (simp only [hdj, wn, SS, SS2, SS3, SS4, SS5, Option.map_some, Nat.reduceAdd, reduceIte, Nat.reduceEqDiff, Nat.reduceBEq, eq_self, implies_true, ne_eq, beq_self_eq_true, id_eq, reduceCtorEq]; (try go_unwrap; try simp only [hdj, wn, RR, reduceCtorEq]))) | refine And.intro ?_ ?_ | exact Or.inr ⟨rfl, Nat.le_refl _⟩ | exact (fun h => Bool.noConfusion h))
          all_goals exact ⟨p + 1, (by first | rfl | (simp only [trimE, trimM, List.take_succ_cons, List.take_zero, List.take_nil, List.map_cons, List.map_nil, Option.map_some, Option.map_none, MObj.kill, PV.kill, Nat.reduceLeDiff, decide_true, decide_false, dec_true, dec_false, Bool.false_eq_true, if_false, if_true, reduceIte, List.zip_cons_cons, List.zip_nil_left, Nat.le_refl, Nat.zero_le, Nat.not_le, Nat.lt_irrefl]; done) | (simp [trimE, trimM, MObj.kill, PV.kill]; done)), (by first | rfl | (simp only [trimE, trimM, List.take_succ_cons, List.take_zero, List.take_nil, List.map_cons, List.map_nil, Option.map_some, Option.map_none, MObj.kill, PV.kill, Nat.reduceLeDiff, decide_true, decide_false, dec_true, dec_false, Bool.false_eq_true, if_false, if_true, reduceIte, List.zip_cons_cons, List.zip_nil_left, Nat.le_refl, Nat.zero_le, Nat.not_le, Nat.lt_irrefl]; done) | (simp [trimE, trimM, MObj.kill, PV.kill]; done)), by omega, by omega⟩
        | true =>
          repeat' (first | exact True.intro | (refine PW.seqK ?_; intro K hK) | refine PW.block ?_ | refine PW.scope ?_ | refine PW.label ?_ | refine PW.exit ?_ | refine PW.ret ?_ | refine PW.skip ?_ | refine seqK_n (by assumption) ?_ | refine seqK_r (by assumption) ?_ | refine seqK_e (by assumption) ?_ | refine PW.regionA ?_ | exact schedW_stop_i | refine schK_n (by assumption) ?_ | (refine schedW_alt_k ?_ ?_; focus (intro K hK; simp only [hdj, wn, SS, SS2, SS3, SS4, SS5, Option.map_some, Nat.reduceAdd, reduceIte, Nat.reduceEqDiff, Nat.reduceBEq, eq_self, implies_true, ne_eq, beq_self_eq_true, id_eq, reduceCtorEq]; (try go_unwrap; try simp only [hdj, wn, RR, reduceCtorEq]))) | (refine PW.cond rfl ?_ ?_ <;> intro hcond <;> (try contradiction) <;> try simp only [decide_eq_true_eq, decide_eq_false_iff_not] at hcond) | (refine gd_i ?_; intro hg; try simp only [hg]) | ((first | show @LE.le Nat _ _ _ | show @LT.lt Nat _ _ _ | show @LE.le Int _ _ _ | show @LT.lt Int _ _ _ | show @Eq Nat _ _ | show @Eq Int _ _ | show @Eq Bool _ _ | show _ ∨ _ | show ¬ _); first | omega | (simp only [decide_eq_true_eq, decide_eq_false_iff_not, List.length_cons, List.length_nil, List.length_append, List.length_map, Sh.size] <;> omega) | (go_unwrap; omega)) | ((first | refine PW.region ?_ | refine PW.regionQ ?_ | refine schedW_done_i ?_ | show (_ : Post) _ _ _ | show @Eq (List PV) _ _ | show @Eq Bool _ _ | show opsW _ _ _ _ _ _ _ _ | show okAll _ | show @Eq Bool _ _ ∨ _); focus (simp only [hdj, wn, SS, SS2, SS3, SS4, SS5, Option.map_some, Nat.reduceAdd, reduceIte, Nat.reduceEqDiff, Nat.reduceBEq, eq_self, implies_true, ne_eq, beq_self_eq_true, id_eq, reduceCtorEq]; (try go_unwrap; try simp only [hdj, wn, RR, reduceCtorEq]))) | refine And.intro ?_ ?_ | exact Or.inr ⟨rfl, Nat.le_refl _⟩ | exact (fun h => Bool.noConfusion h))
          all_goals exact ⟨p + 1, (by first | rfl | (simp only [trimE, trimM, List.take_succ_cons, List.take_zero, List.take_nil, List.map_cons, List.map_nil, Option.map_some, Option.map_none, MObj.kill, PV.kill, Nat.reduceLeDiff, decide_true, decide_false, dec_true, dec_false, Bool.false_eq_true, if_false, if_true, reduceIte, List.zip_cons_cons, List.zip_nil_left, Nat.le_refl, Nat.zero_le, Nat.not_le, Nat.lt_irrefl]; done) | (simp [trimE, trimM, MObj.kill, PV.kill]; done)), (by first | rfl | (simp only [trimE, trimM, List.take_succ_cons, List.take_zero, List.take_nil, List.map_cons, List.map_nil, Option.map_some, Option.map_none, MObj.kill, PV.kill, Nat.reduceLeDiff, decide_true, decide_false, dec_true, dec_false, Bool.false_eq_true, if_false, if_true, reduceIte, List.zip_cons_cons, List.zip_nil_left, Nat.le_refl, Nat.zero_le, Nat.not_le, Nat.lt_irrefl]; done) | (simp [trimE, trimM, MObj.kill, PV.kill]; done)), by omega, by omega⟩
    · have hdp : decide ((p : Int) < 257) = false := by simp only [decide_eq_false_iff_not]; omega
      repeat' (first | exact True.intro | (refine PW.seqK ?_; intro K hK) | refine PW.block ?_ | refine PW.scope ?_ | refine PW.label ?_ | refine PW.exit ?_ | refine PW.ret ?_ | refine PW.skip ?_ | refine seqK_n (by assumption) ?_ | refine seqK_r (by assumption) ?_ | refine seqK_e (by assumption) ?_ | refine PW.regionA ?_ | exact schedW_stop_i | refine schK_n (by assumption) ?_ | (refine schedW_alt_k ?_ ?_; focus (intro K hK; simp only [hdp, SS, SS2, SS3, SS4, SS5, Option.map_some, Nat.reduceAdd, reduceIte, Nat.reduceEqDiff, Nat.reduceBEq, eq_self, implies_true, ne_eq, beq_self_eq_true, id_eq, reduceCtorEq]; (try go_unwrap; try simp only [hdp, RR, reduceCtorEq]))) | (refine PW.cond rfl ?_ ?_ <;> intro hcond <;> (try contradiction) <;> try simp only [decide_eq_true_eq, decide_eq_false_iff_not] at hcond) | (refine gd_i ?_; intro hg; try simp only [hg]) | ((first | show @LE.le Nat _ _ _ | show @LT.lt Nat _ _ _ | show @LE.le Int _ _ _ | show @LT.lt Int _ _ _ | show @Eq Nat _ _ | show @Eq Int _ _ | show @Eq Bool _ _ | show _ ∨ _ | show ¬ _); first | omega | (simp only [decide_eq_true_eq, decide_eq_false_iff_not, List.length_cons, List.length_nil, List.length_append, List.length_map, Sh.size] <;> omega) | (go_unwrap; omega)) | ((first | refine PW.region ?_ | refine PW.regionQ ?_ | refine schedW_done_i ?_ | show (_ : Post) _ _ _ | show @Eq (List PV) _ _ | show @Eq Bool _ _ | show opsW _ _ _ _ _ _ _ _ | show okAll _ | show @Eq Bool _ _ ∨ _); focus (simp only [hdp, SS, SS2, SS3, SS4, SS5, Option.map_some, Nat.reduceAdd, reduceIte, Nat.reduceEqDiff, Nat.reduceBEq, eq_self, implies_true, ne_eq, beq_self_eq_true, id_eq, reduceCtorEq]; (try go_unwrap; try simp only [hdp, RR, reduceCtorEq]))) | refine And.intro ?_ ?_ | exact Or.inr ⟨rfl, Nat.le_refl _⟩ | exact (fun h => Bool.noConfusion h))
end Go.Proofs.YtcdfmdngnidpaaaGreatDoor
