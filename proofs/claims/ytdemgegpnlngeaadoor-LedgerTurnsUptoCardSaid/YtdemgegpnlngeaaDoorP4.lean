import Derived.Laws.AppendOwn
import Derived.Test.YtdemgegpnlngeaaDoorP3
namespace PG
open Go
set_option linter.unusedSimpArgs false
set_option linter.unusedVariables false
section
variable {P : Program} {G : Globs}
theorem flat_scal : ∀ {xs : List PV}, (∀ x ∈ xs, x.scalar = true) → flat xs = xs
  | [], _ => rfl
  | x :: xs, h => by
    have h1 := h x (by simp)
    have h2 := flat_scal (xs := xs) fun y hy => h y (by simp [hy])
    have : x.cells = [x] := by cases x <;> simp_all [PV.cells, PV.scalar]
    simp only [flat, List.flatMap_cons, this] at *
    rw [h2]; rfl
/-- A slice of cells, of new memory. -/
theorem FCalls.row {f : Nat} {args : List PV} {xs : List PV} (E : TypeId) (hx : ∀ x ∈ xs, x.scalar = true ∧ x.flat = true)
    (h : ∀ (w : World) (ex : Nat → Prop) (vs : Array Value), (∀ b, ex b → b < w.heap.size) → GlobsIn w ex G → RepCs w ex vs args →
      Calls P f vs w fun e w' => ∃ v vals, e = .returned v ∧ w'.ownsRow w.heap.size E 1 v xs.length vals ∧ (∀ (j : Nat) (p : PV) (u : Value), xs[j]? = some p → vals[j]? = some u → RepC w' ex u p) ∧ RowKit.Below w.heap.size w w') :
    FCalls P G f args (fun p ν => p = .sl none 0 xs.length ∧ ν = [some (.row none xs)]) := by
  intro w ex vs hex hG hr
  refine (h w ex vs hex hG hr).mono ?_
  rintro e w' ⟨v, vals, rfl, ⟨hl, hv⟩, hval, hB⟩
  rcases hv with ⟨rfl, hz⟩ | ⟨g, cap, cur, rfl, hb, hg, h0, h1, h2, h3⟩
  · have hxs : xs = [] := List.eq_nil_of_length_eq_zero hz
    subst hxs
    let κ' : Kap := ⟨fun t => if t = 0 then some none else none, ex⟩
    have kt : ∀ t c, κ' t = some c → t = 0 ∧ c = none := by
      intro t c ht
      by_cases h0 : t = 0
      · subst h0; exact ⟨rfl, by cases ht; rfl⟩
      · exact absurd ht (by show (if t = 0 then some none else none) ≠ some c; rw [if_neg h0]; exact fun h => by cases h)
    refine ⟨_, _, _, κ', rfl, ⟨rfl, rfl⟩, ⟨?_, ?_, ?_, ?_, ?_, ?_⟩, rfl, .slnil none 0 rfl, hB, ?_⟩
    · intro t t' b h1; have := (kt t _ h1).2; cases this
    · intro t b h1; have := (kt t _ h1).2; cases this
    · intro t c h1
      obtain ⟨rfl, rfl⟩ := kt t c h1
      exact ⟨_, rfl, .nilrow none⟩
    · intro t o h1
      cases t with
      | zero => exact fun h => by cases h
      | succ t => simp at h1
    · intro b h1; have := hex b h1; have := hB.size; omega
    · intro t b h1; have := (kt t _ h1).2; cases this
    · intro t b h1; have := (kt t _ h1).2; cases this
  · let κ' : Kap := ⟨fun t => if t = 0 then some (some g) else none, ex⟩
    have kt : ∀ t c, κ' t = some c → t = 0 ∧ c = some g := by
      intro t c ht
      by_cases h0 : t = 0
      · subst h0; exact ⟨rfl, by cases ht; rfl⟩
      · exact absurd ht (by show (if t = 0 then some (some g) else none) ≠ some c; rw [if_neg h0]; exact fun h => by cases h)
    have hgl : g < w'.heap.size := (Array.getElem?_eq_some_iff.1 hg).1
    have hfl : flat xs = xs := flat_scal fun x h => (hx x h).1
    have h2' : cur.size = cap * Sh.size none := by simpa [Sh.size] using h2
    refine ⟨_, _, _, κ', rfl, ⟨rfl, rfl⟩, ⟨?_, ?_, ?_, ?_, ?_, ?_⟩, rfl, .sl none 0 _ g cap rfl ⟨E, ?_⟩ h0 h1, hB, ?_⟩
    · intro t t' b q1 q2; rw [(kt t _ q1).1, (kt t' _ q2).1]
    · intro t b q1; have := (kt t _ q1).2; cases this; exact hgl
    · intro t c q1
      obtain ⟨rfl, rfl⟩ := kt t c q1
      refine ⟨_, rfl, .row g cur E cap none xs hg h2' h1 (by omega) (fun x h => (hx x h).1) (fun j p u hp hu => ?_)⟩
      rw [hfl] at hp
      refine repC_flat (hval j p u hp ?_) (hx p (List.mem_of_getElem? hp)).2
      have hj : j < xs.length := (List.getElem?_eq_some_iff.1 hp).1
      rw [← h3, List.getElem?_take_of_lt (by omega)]
      simpa using hu
    · intro t o q1
      cases t with
      | zero => exact fun h => by cases h
      | succ t => simp at q1
    · intro b q1; have := hex b q1; have := hB.size; omega
    · intro t b q1 q2; have := hex b q2; have := (kt t _ q1).2; cases this; omega
    · unfold World.shape?; rw [hg]; simp [h2']
    · intro t b q1; have := (kt t _ q1).2; cases this; exact hb
/-- .. and told as a value. -/
theorem FCalls.val {f : Nat} {args : List PV} {R : PV → Mem → Prop} {res : PV} (h : FCalls P G f args R) (hR : ∀ p ν, R p ν → p.seen ν = true ∧ p.view ν = res) : VCalls P G f args res := by
  intro w ex vs hex hG hr
  refine (h w ex vs hex hG hr).mono ?_
  rintro e w' ⟨v, p, ν, κ', rfl, hp, hS, hx, hv, hB, -⟩
  obtain ⟨h1, h2⟩ := hR p ν hp
  have := rep_view hS hv h1
  rw [h2, hx] at this
  exact ⟨v, rfl, hB, this⟩
/-- A guarded call whose result is memory: what it is handed is nobody's. -/
theorem goCallG_N {q : Bool} {mv : Nat → Bool} {env : Env} {μ : Mem} {d : Option Nat} {rest : List CO} {K : Env → Mem → Prop} {as : List PV} {b want : Bool} {f : Nat} {ps qs : List PV} {res : PV} (hE : Ent P f) (hok : b = want → okAll as) (hV : b = want → VCalls P G f ((ps ++ as.map (PV.under true) ++ qs).map (PV.view μ)) res)
    (hs : b = want → ((ps ++ as.map (PV.under true) ++ qs).map (PV.seen μ)).all id = true) (hn : b = want → ((ps ++ as.map (PV.under true) ++ qs).map PV.noOwn).all id = true) (hq : q = false)
    (h : opsW P G q mv rest (putE env d (.cond (b == want) res)) μ K) : goCallG P G q mv d rest env K μ b want (.fn f ps qs) as :=
  ⟨res, fun hb => ⟨trivial, hok hb, ⟨hE, hV hb, hs hb, .inr (hn hb)⟩, fun e => by rw [hq] at e; cases e⟩, h⟩
end
end PG

