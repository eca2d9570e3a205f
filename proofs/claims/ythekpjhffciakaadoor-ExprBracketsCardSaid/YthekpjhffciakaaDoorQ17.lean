import Derived.Test.YthekpjhffciakaaDoorProg
import Derived.KernelRfl
import Derived.Test.YthekpjhffciakaaDoorQ16
import Derived.Test.YthekpjhffciakaaDoorP4
import Derived.Test.YthekpjhffciakaaDoorQ10
import Derived.Test.YthekpjhffciakaaDoorQ12
import Derived.Test.YthekpjhffciakaaDoorQ14
import Derived.Test.YthekpjhffciakaaDoorQ13
import Derived.Test.YthekpjhffciakaaDoorQ8
import Derived.Test.YthekpjhffciakaaDoorQ11
import Derived.Test.YthekpjhffciakaaDoorQ9
namespace Go.Proofs.YthekpjhffciakaaDoor
open Go PG Go.Proofs
set_option linter.unusedSimpArgs false
set_option linter.unusedVariables false
set_option maxRecDepth 100000
/-! Formulas in brackets -/
theorem lx_open (r : List UInt8) : lx (40 :: r) = (lx r).map ((3, [40]) :: ·) := lx_sign (by decide) (by decide) (by decide) (by decide) r
theorem lx_close (r : List UInt8) : lx (41 :: r) = (lx r).map ((3, [41]) :: ·) := lx_sign (by decide) (by decide) (by decide) (by decide) r
theorem lx_times (r : List UInt8) : lx (42 :: r) = (lx r).map ((3, [42]) :: ·) := lx_sign (by decide) (by decide) (by decide) (by decide) r
/-- A text, and a sign behind it. -/
theorem lx_cat {b : UInt8} (hb : innerB b = false) {s r : List UInt8} {w v : List KT} (h : lx s = some w) (h2 : lx (b :: r) = some v) : lx (s ++ b :: r) = some (w ++ v) := by
  rw [lx_app hb r _ s w (Nat.le_refl _) h, h2]; rfl
theorem lx_par {s r : List UInt8} {w v : List KT} (h : lx s = some w) (h2 : lx r = some v) : lx (40 :: (s ++ 41 :: r)) = some ((3, [40]) :: (w ++ (3, [41]) :: v)) := by
  rw [lx_open, lx_cat (by decide) h (v := (3, [41]) :: v) (by rw [lx_close, h2]; rfl)]; rfl
theorem lx_nil : lx [] = some [] := by rw [lx]
theorem parse_err {s : List UInt8} {a : Nat} {e : Int} (h : parseS s = .error (a, e)) : e ≠ 0 := by
  unfold parseS at h
  cases hA : allE s with
  | error p =>
    obtain ⟨o, x⟩ := p
    rw [hA] at h
    have := (all_errs hA).2
    cases h
    omega
  | ok l =>
    rw [hA] at h
    simp only at h
    unfold parseR at h
    simp only at h
    split at h
    · rename_i he; cases h; exact he
    · split at h
      · cases h; decide
      · split at h
        · cases h; decide
        · split at h
          · cases h; decide
          · cases h
/-- What a right text's nodes are. -/
structure OkNds (nd : List Nd) : Prop where
  ex : ∃ e : Ex, e.ok ∧ nd = e.nds 0 ∧ e.size ≤ 256 ∧ e.deep ≤ 16
theorem OkNds.len {nd : List Nd} (h : OkNds nd) : nd.length ≤ 256 ∧ nd ≠ [] := by
  obtain ⟨e, h1, rfl, h2, h3⟩ := h.ex
  rw [Ex.nds_len]
  refine ⟨h2, fun h => ?_⟩
  have := congrArg List.length h
  rw [Ex.nds_len] at this
  have := e.size_pos
  simp at *; omega
theorem OkNds.check {nd : List Nd} (h : OkNds nd) : checkM nd = 0 := by
  obtain ⟨e, h1, rfl, h2, h3⟩ := h.ex
  exact check_ok h1 h2 h3
theorem OkNds.deep {nd : List Nd} (h : OkNds nd) : 1 ≤ depthM nd ∧ depthM nd ≤ 16 := by
  obtain ⟨e, h1, rfl, h2, h3⟩ := h.ex
  rw [depth_nds]
  exact ⟨e.deep_pos, h3⟩
theorem isName_le {x : List UInt8} (h : isName x = true) : x.length ≤ 32 := by
  unfold isName at h
  simp only [Bool.and_eq_true, decide_eq_true_eq] at h
  exact h.1.1.2
theorem nds_small : ∀ (e : Ex) (c : Nat), e.ok → ∀ n ∈ e.nds c, n.name.length ≤ 32 ∧ n.kids.length ≤ 3
  | .num v, c, h, n, hn => by simp [Ex.nds] at hn; subst hn; simp
  | .var x, c, h, n, hn => by simp [Ex.nds] at hn; subst hn; have := isName_le h; simp [this]
  | .two o a b, c, h, n, hn => by
    simp only [Ex.nds, List.mem_append, List.mem_singleton] at hn
    rcases hn with hn | hn | hn
    · exact nds_small a _ h.2.2.2.1 n hn
    · exact nds_small b _ h.2.2.2.2 n hn
    · subst hn; simp
  | .thr a b d, c, h, n, hn => by
    simp only [Ex.nds, List.mem_append, List.mem_singleton] at hn
    rcases hn with hn | hn | hn | hn
    · exact nds_small a _ h.1 n hn
    · exact nds_small b _ h.2.1 n hn
    · exact nds_small d _ h.2.2 n hn
    · subst hn; simp
theorem OkNds.small {nd : List Nd} (h : OkNds nd) : ∀ n ∈ nd, n.name.length ≤ 32 ∧ n.kids.length ≤ 3 := by
  obtain ⟨e, h1, rfl, h2, h3⟩ := h.ex
  exact nds_small e 0 h1
theorem parse_ok {s : List UInt8} {nd : List Nd} (h : parseS s = .ok nd) : OkNds nd := by
  obtain ⟨w, e, h1, h2, h3, h4, h5⟩ := of_parse h
  obtain ⟨rfl, h6, h7⟩ := resX_ok h4
  exact ⟨e, h5, rfl, h6, h7⟩
theorem parse_bra {s : List UInt8} {nd : List Nd} (h : parseS s = .ok nd) (hs : s.length ≤ 4000) : parseS ([40] ++ s ++ [41]) = .ok nd := by
  obtain ⟨w, e, h1, h2, h3, h4, h5⟩ := of_parse h
  have hl : lx ([40] ++ s ++ [41]) = some ((3, [40]) :: (w ++ [(3, [41])])) := by
    have := lx_par h2 lx_nil
    simpa using this
  rw [parseS_of (by simp; omega) hl (.pro (.fac (.par h3))), h4]
theorem resX_two {o : Nat} {a b : Ex} (h1 : a.size + b.size < 256) (h2 : a.deep < 16) (h3 : b.deep < 16) : resX (.two o a b) = .ok ((Ex.two o a b).nds 0) := by
  have e1 : ¬ 256 < (Ex.two o a b).size := by simp only [Ex.size]; omega
  have e2 : ¬ 16 < (Ex.two o a b).deep := by simp only [Ex.deep]; omega
  unfold resX
  rw [if_neg e1, if_neg e2]
theorem parse_mul {s r : List UInt8} {nd md : List Nd} (hs : parseS s = .ok nd) (hr : parseS r = .ok md) (h1 : s.length ≤ 300) (h2 : r.length ≤ 300) (h3 : nd.length + md.length < 256) (h4 : depthM nd < 16) (h5 : depthM md < 16) :
    ∃ kd, parseS ([40] ++ s ++ [41, 42, 40] ++ r ++ [41]) = .ok kd ∧ kd.length = nd.length + md.length + 1 ∧ depthM kd = 1 + max (depthM nd) (depthM md) := by
  obtain ⟨w, e, a1, a2, a3, a4, a5⟩ := of_parse hs
  obtain ⟨v, f, b1, b2, b3, b4, b5⟩ := of_parse hr
  obtain ⟨rfl, -, -⟩ := resX_ok a4
  obtain ⟨rfl, -, -⟩ := resX_ok b4
  rw [Ex.nds_len, Ex.nds_len] at *
  rw [depth_nds] at *
  rw [depth_nds] at *
  have hl : lx ([40] ++ s ++ [41, 42, 40] ++ r ++ [41]) = some (((3, [40]) :: (w ++ [(3, [41])])) ++ (3, [42]) :: ((3, [40]) :: (v ++ [(3, [41])]))) := by
    have h6 := lx_par b2 lx_nil
    have h7 := lx_par (s := s) (r := 42 :: (40 :: (r ++ [41]))) a2 (by rw [lx_times, h6]; rfl)
    simpa using h7
  have hD : D nmP 2 (((3, [40]) :: (w ++ [(3, [41])])) ++ (3, [42]) :: ((3, [40]) :: (v ++ [(3, [41])]))) (.two 4 e f) := .pro (.mul (.fac (.par a3)) (.par b3))
  refine ⟨(Ex.two 4 e f).nds 0, ?_, ?_, ?_⟩
  · rw [parseS_of (by simp; omega) hl hD]
    exact resX_two h3 h4 h5
  · rw [Ex.nds_len]; rfl
  · rw [depth_nds]; simp only [Ex.deep]; omega
end Go.Proofs.YthekpjhffciakaaDoor

namespace Go.Proofs.YthekpjhffciakaaDoor
open PG Go.Proofs
-- wagebook/wagebooklaw13.ExprBrackets
def L7 : List Nat := [0, 1, 4, 5, 7, 8, 10, 11, 13, 14, 16, 24, 43, 62, 80]
def c7 : CF := ⟨123,
 .seq (.region false [⟨some 4, none, .rd .mov [.pv (.bool false)]⟩] L7)
 (.seq (.seq (.region false [oM 17 0,
 ⟨some 18, none, .rd .lenS [.tmp 17]⟩,
 ⟨some 19, none, .rd (.bin .gtr) [.tmp 18, .pv (.int .i64 300)]⟩,
 oM 20 19,
 qM 20 false 21 1,
 ⟨some 22, some (20, false), .rd .lenS [.tmp 21]⟩,
 ⟨some 23, some (20, false), .rd (.bin .gtr) [.tmp 22, .pv (.int .i64 300)]⟩,
 ⟨some 24, none, .rd .pick [.tmp 20, .pv (.bool true), .tmp 23]⟩] L7)
 (.cond (.tmp 24)
 (.seq (.region false [⟨some 25, none, .call (.pv (.fn 17 [] [])) []⟩,
 oM 4 25] L7)
 (.ret))
 (.skip)))
 (.seq (.region false [oM 27 0,
 ⟨some 28, none, .call (.pv (.fn 18 [] [])) [.tmp 27]⟩,
 oM 26 28,
 ⟨some 29, none, .rd (.ext 0) [.tmp 26]⟩,
 ⟨some 30, none, .rd (.ext 1) [.tmp 26]⟩,
 ⟨some 31, none, .rd (.ext 2) [.tmp 26]⟩,
 ⟨some 5, none, .eff (.alloc (some 1) (.agg [.nilSl])) []⟩,
 ⟨none, none, .eff (.store (some 1)) [.tmp 5, .tmp 29]⟩,
 oM 6 30,
 oM 7 31] L7)
 (.seq (.region false [oM 33 1,
 ⟨some 34, none, .call (.pv (.fn 18 [] [])) [.tmp 33]⟩,
 oM 32 34,
 ⟨some 35, none, .rd (.ext 0) [.tmp 32]⟩,
 ⟨some 36, none, .rd (.ext 1) [.tmp 32]⟩,
 ⟨some 37, none, .rd (.ext 2) [.tmp 32]⟩,
 ⟨some 8, none, .eff (.alloc (some 1) (.agg [.nilSl])) []⟩,
 ⟨none, none, .eff (.store (some 1)) [.tmp 8, .tmp 35]⟩,
 oM 9 36,
 oM 10 37] L7)
 (.seq (.seq (.region false [oM 38 7,
 ⟨some 39, none, .rd (.bin .neq) [.tmp 38, .pv (.int .i64 0)]⟩,
 oM 40 39,
 qM 40 false 41 10,
 ⟨some 42, some (40, false), .rd (.bin .neq) [.tmp 41, .pv (.int .i64 0)]⟩,
 ⟨some 43, none, .rd .pick [.tmp 40, .pv (.bool true), .tmp 42]⟩] L7)
 (.cond (.tmp 43)
 (.seq (.region false [⟨some 44, none, .call (.pv (.fn 17 [] [])) []⟩,
 oM 4 44] L7)
 (.ret))
 (.skip)))
 (.seq (.region false [oM 46 0,
 ⟨some 47, none, .rd (.bin .add) [.pv (.str [40]), .tmp 46]⟩,
 ⟨some 48, none, .rd (.bin .add) [.tmp 47, .pv (.str [41])]⟩,
 ⟨some 49, none, .call (.pv (.fn 18 [] [])) [.tmp 48]⟩,
 oM 45 49,
 ⟨some 50, none, .rd (.ext 0) [.tmp 45]⟩,
 ⟨some 51, none, .rd (.ext 1) [.tmp 45]⟩,
 ⟨some 52, none, .rd (.ext 2) [.tmp 45]⟩,
 ⟨some 11, none, .eff (.alloc (some 1) (.agg [.nilSl])) []⟩,
 ⟨none, none, .eff (.store (some 1)) [.tmp 11, .tmp 50]⟩,
 oM 12 51,
 oM 13 52] L7)
 (.seq (.seq (.regionA (.alt [oM 53 13,
 ⟨some 54, none, .rd (.bin .neq) [.tmp 53, .pv (.int .i64 0)]⟩,
 oM 55 54]
 (.alt [⟨some 56, some (55, false), .rd (.load (some 1)) [.tmp 11]⟩]
 (.alt [⟨some 57, some (55, false), .call (.pv (.fn 23 [] [])) [.tmp 56]⟩,
 ⟨some 58, some (55, false), .rd (.load (some 1)) [.tmp 5]⟩,
 ⟨some 59, some (55, false), .call (.pv (.fn 23 [] [])) [.tmp 58]⟩,
 ⟨some 60, some (55, false), .call (.pv (.fn 22 [] [])) [.tmp 57, .tmp 59]⟩,
 ⟨some 61, some (55, false), .rd (.un .not) [.tmp 60]⟩,
 ⟨some 62, none, .rd .pick [.tmp 55, .pv (.bool true), .tmp 61]⟩]
 .done
 (.alt [⟨some 58, some (55, false), .rd (.load (some 1)) [.tmp 5]⟩,
 ⟨some 57, some (55, false), .call (.pv (.fn 23 [] [])) [.tmp 56]⟩,
 ⟨some 59, some (55, false), .call (.pv (.fn 23 [] [])) [.tmp 58]⟩,
 ⟨some 60, some (55, false), .call (.pv (.fn 22 [] [])) [.tmp 57, .tmp 59]⟩,
 ⟨some 61, some (55, false), .rd (.un .not) [.tmp 60]⟩,
 ⟨some 62, none, .rd .pick [.tmp 55, .pv (.bool true), .tmp 61]⟩]
 .done
 .stop))
 (.alt [⟨some 58, some (55, false), .rd (.load (some 1)) [.tmp 5]⟩,
 ⟨some 56, some (55, false), .rd (.load (some 1)) [.tmp 11]⟩,
 ⟨some 57, some (55, false), .call (.pv (.fn 23 [] [])) [.tmp 56]⟩,
 ⟨some 59, some (55, false), .call (.pv (.fn 23 [] [])) [.tmp 58]⟩,
 ⟨some 60, some (55, false), .call (.pv (.fn 22 [] [])) [.tmp 57, .tmp 59]⟩,
 ⟨some 61, some (55, false), .rd (.un .not) [.tmp 60]⟩,
 ⟨some 62, none, .rd .pick [.tmp 55, .pv (.bool true), .tmp 61]⟩]
 .done
 .stop))
 .stop) L7)
 (.cond (.tmp 62)
 (.seq (.region false [⟨some 4, none, .rd .mov [.pv (.bool false)]⟩] L7)
 (.ret))
 (.skip)))
 (.seq (.seq (.region false [oF 0 63 5,
 oL 64 63,
 ⟨some 65, none, .rd .lenL [.tmp 64]⟩,
 oF 0 66 8,
 oL 67 66,
 ⟨some 68, none, .rd .lenL [.tmp 67]⟩,
 ⟨some 69, none, .rd (.bin .add) [.tmp 65, .tmp 68]⟩,
 ⟨some 70, none, .rd (.bin .geq) [.tmp 69, .pv (.int .i64 256)]⟩,
 oM 71 70,
 ⟨some 72, some (71, false), .rd (.load (some 1)) [.tmp 5]⟩,
 ⟨some 73, some (71, false), .call (.pv (.fn 30 [] [])) [.tmp 72]⟩,
 ⟨some 74, some (71, false), .rd (.bin .geq) [.tmp 73, .pv (.int .i64 16)]⟩,
 ⟨some 75, none, .rd .pick [.tmp 71, .pv (.bool true), .tmp 74]⟩,
 oM 76 75,
 ⟨some 77, some (76, false), .rd (.load (some 1)) [.tmp 8]⟩,
 ⟨some 78, some (76, false), .call (.pv (.fn 30 [] [])) [.tmp 77]⟩,
 ⟨some 79, some (76, false), .rd (.bin .geq) [.tmp 78, .pv (.int .i64 16)]⟩,
 ⟨some 80, none, .rd .pick [.tmp 76, .pv (.bool true), .tmp 79]⟩] L7)
 (.cond (.tmp 80)
 (.seq (.region false [⟨some 81, none, .call (.pv (.fn 17 [] [])) []⟩,
 oM 4 81] L7)
 (.ret))
 (.skip)))
 (.seq (.region false [oM 83 0,
 ⟨some 84, none, .rd (.bin .add) [.pv (.str [40]), .tmp 83]⟩,
 ⟨some 85, none, .rd (.bin .add) [.tmp 84, .pv (.str [41, 42, 40])]⟩,
 oM 86 1,
 ⟨some 87, none, .rd (.bin .add) [.tmp 85, .tmp 86]⟩,
 ⟨some 88, none, .rd (.bin .add) [.tmp 87, .pv (.str [41])]⟩,
 ⟨some 89, none, .call (.pv (.fn 18 [] [])) [.tmp 88]⟩,
 oM 82 89,
 ⟨some 90, none, .rd (.ext 0) [.tmp 82]⟩,
 ⟨some 91, none, .rd (.ext 1) [.tmp 82]⟩,
 ⟨some 92, none, .rd (.ext 2) [.tmp 82]⟩,
 ⟨some 14, none, .eff (.alloc (some 1) (.agg [.nilSl])) []⟩,
 ⟨none, none, .eff (.store (some 1)) [.tmp 14, .tmp 90]⟩,
 oM 15 91,
 oM 16 92] L7)
 (.seq (.region true [oM 93 16,
 ⟨some 94, none, .rd (.bin .eql) [.tmp 93, .pv (.int .i64 0)]⟩,
 oM 95 94,
 qF 0 95 true 96 14,
 qL 95 true 97 96,
 ⟨some 98, some (95, true), .rd .lenL [.tmp 97]⟩,
 qF 0 95 true 99 5,
 qL 95 true 100 99,
 ⟨some 101, some (95, true), .rd .lenL [.tmp 100]⟩,
 qF 0 95 true 102 8,
 qL 95 true 103 102,
 ⟨some 104, some (95, true), .rd .lenL [.tmp 103]⟩,
 ⟨some 105, some (95, true), .rd (.bin .add) [.tmp 101, .tmp 104]⟩,
 ⟨some 106, some (95, true), .rd (.bin .add) [.tmp 105, .pv (.int .i64 1)]⟩,
 ⟨some 107, some (95, true), .rd (.bin .eql) [.tmp 98, .tmp 106]⟩,
 ⟨some 108, none, .rd .pick [.tmp 95, .tmp 107, .pv (.bool false)]⟩,
 oM 109 108,
 ⟨some 110, some (109, true), .rd (.load (some 1)) [.tmp 14]⟩,
 ⟨some 111, some (109, true), .call (.pv (.fn 30 [] [])) [.tmp 110]⟩,
 ⟨some 112, some (109, true), .rd (.load (some 1)) [.tmp 5]⟩,
 ⟨some 113, some (109, true), .call (.pv (.fn 30 [] [])) [.tmp 112]⟩,
 ⟨some 114, some (109, true), .rd (.load (some 1)) [.tmp 8]⟩,
 ⟨some 115, some (109, true), .call (.pv (.fn 30 [] [])) [.tmp 114]⟩,
 ⟨some 116, some (109, true), .rd .max [.tmp 113, .tmp 115]⟩,
 ⟨some 117, some (109, true), .rd (.bin .add) [.pv (.int .i64 1), .tmp 116]⟩,
 ⟨some 118, some (109, true), .rd (.bin .eql) [.tmp 111, .tmp 117]⟩,
 ⟨some 119, none, .rd .pick [.tmp 109, .tmp 118, .pv (.bool false)]⟩,
 oM 120 119,
 ⟨some 121, some (120, true), .call (.pv (.fn 17 [] [])) []⟩,
 ⟨some 122, none, .rd .pick [.tmp 120, .tmp 121, .pv (.bool false)]⟩,
 oM 4 122] L7)
 (.ret)))))))))),
 [.tmp 4]⟩

-- (wagebook/expr.Tree).Depth
def L30 : List Nat := [0, 1, 2, 5]
def c30 : CF := ⟨8,
 .seq (.region false [⟨some 1, none, .eff (.box (some 1)) [.tmp 0]⟩,
 ⟨some 2, none, .rd .mov [.pv (.int .i64 0)]⟩] L30)
 (.seq (.seq (.region false [⟨some 3, none, .rd (.load (some 1)) [.tmp 1]⟩,
 ⟨some 4, none, .call (.pv (.fn 29 [] [])) [.tmp 3]⟩,
 ⟨some 5, none, .rd (.bin .neq) [.tmp 4, .pv (.int .i64 0)]⟩] L30)
 (.cond (.tmp 5)
 (.seq (.region false [⟨some 2, none, .rd .mov [.pv (.int .i64 0)]⟩] L30)
 (.ret))
 (.skip)))
 (.seq (.region false [⟨some 6, none, .rd (.load (some 1)) [.tmp 1]⟩,
 ⟨some 7, none, .call (.pv (.fn 42 [] [])) [.tmp 6]⟩,
 oM 2 7] L30)
 (.ret))),
 [.tmp 2]⟩
theorem k7 : compileF Tryd.prog [700062] L7 Tryd.f7 = some c7 := by kernel_rfl
theorem k30 : compileF Tryd.prog [] L30 Tryd.f30 = some c30 := by kernel_rfl
end Go.Proofs.YthekpjhffciakaaDoor

namespace Go.Proofs.YthekpjhffciakaaDoor
open Go PG Go.Proofs
set_option linter.unusedSimpArgs false
set_option linter.unusedVariables false
set_option maxHeartbeats 4000000
set_option maxRecDepth 100000
variable {G : Globs}
theorem e30 : Ent Tryd.prog 30 := ⟨Tryd.f30, Tryd.func30, by kernel_rfl, by kernel_rfl⟩
/-- What a right list of nodes is by itself. -/
theorem checkM_ok {l : List Nd} (h : checkM l = 0) : l.length ≤ 256 ∧ l ≠ [] ∧ wfK l 0 ∧ (∀ n ∈ l, formE n = 0 ∧ restE n = 0) ∧ depthM l ≤ 16 := by
  unfold checkM at h
  split at h
  · cases h
  · split at h
    · cases h
    · split at h
      · rename_i hc
        exfalso
        have : ∀ (ns : List Nd) (i : Nat) (t : List Bool) (e : Int), checkNodes ns i t = .error e → e ≠ 0 := by
          intro ns
          induction ns with
          | nil => intro i t e h; cases h
          | cons n ns ih =>
            intro i t e h
            unfold checkNodes at h
            split at h
            · cases h; assumption
            · split at h
              · cases h; decide
              · split at h
                · cases h; assumption
                · exact ih _ _ _ h
        exact this _ _ _ _ hc h
      · rename_i hc
        obtain ⟨-, h2, h3⟩ := checkNodes_ok hc
        split at h
        · cases h
        · split at h
          · cases h
          · exact ⟨by omega, fun h => by simp_all, h2, h3, by omega⟩
theorem v30 (hG : HasKids G) (l : List Nd) (hl : l.length ≤ 9223372036854775807) (hs : ∀ n ∈ l, n.name.length ≤ 9223372036854775807 ∧ n.kids.length ≤ 9223372036854775807) : VCalls Tryd.prog G 30 [treeP l] (.int .i64 (if checkM l = 0 then depthM l else 0)) := by
  refine VCalls.of_PW Tryd.func30 k30 mix (by simp [c30]) ?_
  simp only [c30, L30, CC, argE]
  have h29 := v29 hG l hl hs
  by_cases hc : checkM l = 0
  · obtain ⟨h1, h2, h3, h4, -⟩ := checkM_ok hc
    have h42 := v42 (G := G) l h1 h2 h3 (fun n hn => by have := (formE_ok (h4 n hn).1).2.2.2; omega)
    rw [if_pos hc]
    rw [hc] at h29
    simp only [treeP] at h29 h42 ⊢
    have q0 : decide ((0 : Int) = 0) = true := rfl
    repeat' (first | exact True.intro | (exact Or.inr ⟨rfl, by decide⟩) | (refine PW.seqK ?_; intro K hK) | refine pwB ?_ | refine pwS ?_ | refine pwL ?_ | refine pwE ?_ | refine pwR ?_ | refine pwK ?_ | refine seqK_n ‹_› ?_ | refine seqK_r ‹_› ?_ | refine seqK_e ‹_› ?_ | refine PW.regionA ?_ | exact schedW_stop_i | refine schK_n ‹_› ?_ | (refine schedW_alt_k ?_ ?_; focus (intro K hK; simp only [q0, SA, Nat.reduceAdd, reduceIte, Nat.reduceEqDiff, Nat.reduceBEq, reduceCtorEq]; (try go_unwrap; try simp only [q0, RR, reduceCtorEq]))) | (refine PW.cond rfl ?_ ?_ <;> intro hcond <;> (try contradiction) <;> try simp only [DD] at hcond) | (refine gd_i ?_; intro hg; try simp only [hg]) | refine goCall_W e29 (h29) ?_ ?_ ?_ ?_ | refine goCall_W e42 (h42) ?_ ?_ ?_ ?_ | ((first | show (_ : Nat) ≤ _ | show (_ : Nat) < _ | show (_ : Int) ≤ _ | show (_ : Int) < _ | show (_ : Nat) = _ | show (_ : Int) = _ | show (_ : Bool) = _ | show _ ∨ _ | show ¬ _); first | omega | (simp only [DD, LL] <;> omega) | (go_unwrap; omega)) | ((first | refine PW.region ?_ | refine PW.regionQ ?_ | refine schedW_done_i ?_ | show (_ : Post) _ _ _ | show @Eq (List PV) _ _ | show @Eq Bool _ _ | show opsW _ _ _ _ _ _ _ _ | show okAll _ | show @Eq Bool _ _ ∨ _); focus (simp only [q0, SA, Nat.reduceAdd, reduceIte, Nat.reduceEqDiff, Nat.reduceBEq, reduceCtorEq]; (try go_unwrap; try simp only [q0, RR, reduceCtorEq]))) | refine And.intro ?_ ?_ | exact Or.inr ⟨rfl, Nat.le_refl _⟩ | exact (fun h => Bool.noConfusion h))
  · rw [if_neg hc]
    have d1 : decide (checkM l = 0) = false := decide_eq_false hc
    simp only [treeP] at h29 ⊢
    repeat' (first | exact True.intro | (exact Or.inr ⟨rfl, by decide⟩) | (refine PW.seqK ?_; intro K hK) | refine pwB ?_ | refine pwS ?_ | refine pwL ?_ | refine pwE ?_ | refine pwR ?_ | refine pwK ?_ | refine seqK_n ‹_› ?_ | refine seqK_r ‹_› ?_ | refine seqK_e ‹_› ?_ | refine PW.regionA ?_ | exact schedW_stop_i | refine schK_n ‹_› ?_ | (refine schedW_alt_k ?_ ?_; focus (intro K hK; simp only [d1, SA, Nat.reduceAdd, reduceIte, Nat.reduceEqDiff, Nat.reduceBEq, reduceCtorEq]; (try go_unwrap; try simp only [d1, RR, reduceCtorEq]))) | (refine PW.cond rfl ?_ ?_ <;> intro hcond <;> (try contradiction) <;> try simp only [DD] at hcond) | (refine gd_i ?_; intro hg; try simp only [hg]) | refine goCall_W e29 (h29) ?_ ?_ ?_ ?_ | ((first | show (_ : Nat) ≤ _ | show (_ : Nat) < _ | show (_ : Int) ≤ _ | show (_ : Int) < _ | show (_ : Nat) = _ | show (_ : Int) = _ | show (_ : Bool) = _ | show _ ∨ _ | show ¬ _); first | omega | (simp only [DD, LL] <;> omega) | (go_unwrap; omega)) | ((first | refine PW.region ?_ | refine PW.regionQ ?_ | refine schedW_done_i ?_ | show (_ : Post) _ _ _ | show @Eq (List PV) _ _ | show @Eq Bool _ _ | show opsW _ _ _ _ _ _ _ _ | show okAll _ | show @Eq Bool _ _ ∨ _); focus (simp only [d1, SA, Nat.reduceAdd, reduceIte, Nat.reduceEqDiff, Nat.reduceBEq, reduceCtorEq]; (try go_unwrap; try simp only [d1, RR, reduceCtorEq]))) | refine And.intro ?_ ?_ | exact Or.inr ⟨rfl, Nat.le_refl _⟩ | exact (fun h => Bool.noConfusion h))
end Go.Proofs.YthekpjhffciakaaDoor

namespace Go.Proofs.YthekpjhffciakaaDoor
open Go PG Go.Proofs
set_option linter.unusedSimpArgs false
set_option linter.unusedVariables false
set_option maxHeartbeats 4000000
set_option maxRecDepth 100000
abbrev nmQ (t : List UInt8) : Int := (numOf t).1
abbrev wE (d : List Tok) (n : Nat) : List Tok := d ++ [(0, [], n)]
def dtP (t : Tok) : PV := .agg [.int .i64 t.1, .str t.2.1, .int .i64 (if t.1 = 2 then nmQ t.2.1 else 0), .int .i64 t.2.2]
abbrev dtsP (d : List Tok) : PV := .list (some 4) (d.map dtP)
def badP (d : List Tok) (n : Nat) (s : PS) : Int := if s.e = 0 then 0 else (tkAt (wE d n) s.at_).2.2
def rqP (d : List Tok) (n : Nat) (s : PS) : MObj := .var (some 6) (.agg [dtsP d, .int .i64 s.at_, .int .i64 n, .sl (some 4) 1 s.out.length, .int .i64 s.e, .int .i64 (badP d n s)])
def RqC (d : List Tok) (n : Nat) (f : Nat) (as_ : List PV) (ν : Mem) (s : PS) (r : Int × PS) : Prop :=
  PCalls Tryd.prog G0 f as_ (some (rqP d n s) :: some (rowO s) :: ν) (killTag 1) (fun p μ' => p = .int .i64 r.1 ∧ μ' = some (rqP d n r.2) :: some (rowO r.2) :: ν)
theorem RqC.frame {d : List Tok} {n : Nat} {f : Nat} {as_ : List PV} {s : PS} {r : Int × PS} (h : RqC d n f as_ [] s r) (ν : Mem) (hν : ν.map (Option.map (MObj.kill (killTag 1))) = ν) (ha : as_.map (PV.kill fun t => decide (2 ≤ t)) = as_) : RqC d n f as_ ν s r := by
  have := PCalls.frame h ν (by rintro p μ' ⟨-, rfl⟩; rfl) ha (by simp [rqP, rowO, MObj.kill, PV.kill]) hν
  intro w κ vs hS hG hr
  refine (this w κ vs hS hG hr).mono ?_
  rintro e w' ⟨v, p, μ', κ', rfl, ⟨μ1, ⟨rfl, rfl⟩, rfl⟩, hS', hv, hg⟩
  exact ⟨v, _, _, κ', rfl, ⟨rfl, rfl⟩, hS', hv, hg⟩
theorem r1 (a b c d e f : PV) (k : IntKind) (v : Int) : putPart (some 6) none (.agg [a, b, c, d, e, f]) 1 (.int k v) = .agg [a, .int k v, c, d, e, f] := rfl
end Go.Proofs.YthekpjhffciakaaDoor

namespace Go.Proofs.YthekpjhffciakaaDoor
open Go PG Go.Proofs
set_option linter.unusedSimpArgs false
set_option linter.unusedVariables false
set_option maxHeartbeats 4000000
set_option maxRecDepth 100000
end Go.Proofs.YthekpjhffciakaaDoor

namespace Go.Proofs.YthekpjhffciakaaDoor
open Go PG Go.Proofs
set_option linter.unusedSimpArgs false
set_option linter.unusedVariables false
set_option maxHeartbeats 4000000
set_option maxRecDepth 100000
end Go.Proofs.YthekpjhffciakaaDoor

namespace Go.Proofs.YthekpjhffciakaaDoor
open Go PG Go.Proofs
set_option linter.unusedSimpArgs false
set_option linter.unusedVariables false
set_option maxHeartbeats 4000000
set_option maxRecDepth 100000
end Go.Proofs.YthekpjhffciakaaDoor

namespace Go.Proofs.YthekpjhffciakaaDoor
open Go PG Go.Proofs
set_option linter.unusedSimpArgs false
set_option linter.unusedVariables false
set_option maxHeartbeats 4000000
set_option maxRecDepth 100000
variable {G : Globs}
end Go.Proofs.YthekpjhffciakaaDoor

namespace Go.Proofs.YthekpjhffciakaaDoor
open Go PG Go.Proofs
set_option linter.unusedSimpArgs false
set_option linter.unusedVariables false
set_option maxHeartbeats 4000000
set_option maxRecDepth 100000
end Go.Proofs.YthekpjhffciakaaDoor

namespace Go.Proofs.YthekpjhffciakaaDoor
open Go PG Go.Proofs
set_option linter.unusedSimpArgs false
set_option linter.unusedVariables false
set_option maxHeartbeats 4000000
set_option maxRecDepth 100000
variable {G : Globs}
theorem take_snoc {α : Type} {l : List α} {i : Nat} (h : i < l.length) : l.take (i + 1) = l.take i ++ [l[i]] := by
  rw [List.take_succ_eq_append_getElem h]
theorem ne_of_at {α : Type} {a b : List α} {i : Nat} (h1 : i < a.length) (h2 : i < b.length) (h : a[i] ≠ b[i]) : a ≠ b := by
  intro e; subst e; exact h rfl
theorem nd_eq {x y : Nd} (h1 : x.op = y.op) (h2 : x.num = y.num) (h3 : x.name = y.name) (h4 : x.kids = y.kids) : x = y := by
  cases x; cases y; simp_all
theorem v22 (a b : List Nd) (ha : a.length ≤ 100000) (hb : b.length ≤ 100000) (hka : ∀ x ∈ a, x.kids.length ≤ 100000) (hkb : ∀ x ∈ b, x.kids.length ≤ 100000) : VCalls Tryd.prog G 22 [.list (some 4) (a.map ndP), .list (some 4) (b.map ndP)] (.bool (decide (a = b))) := by
  refine VCalls.of_PW Tryd.func22 k22 mix (by simp [c22]) ?_
  simp only [c22, L22, CC, argE]
  have hla : ((a.map ndP).length : Nat) = a.length := by simp
  have hlb : ((b.map ndP).length : Nat) = b.length := by simp
  by_cases hl : a.length = b.length
  case neg =>
    have d1 : decide ((a.length : Int) = b.length) = false := by simp only [decide_eq_false_iff_not]; omega
    have hne : decide (a = b) = false := by simp only [decide_eq_false_iff_not]; intro e; exact hl (by rw [e])
    rw [hne]
    repeat' (first | exact True.intro | (refine PW.seqK ?_; intro K hK) | refine pwB ?_ | refine pwS ?_ | refine pwL ?_ | refine pwE ?_ | refine pwR ?_ | refine pwK ?_ | refine seqK_n ‹_› ?_ | refine seqK_r ‹_› ?_ | refine seqK_e ‹_› ?_ | refine PW.regionA ?_ | exact schedW_stop_i | refine schK_n ‹_› ?_ | (refine schedW_alt_k ?_ ?_; focus (intro K hK; simp only [hla, hlb, d1, SA, Nat.reduceAdd, reduceIte, Nat.reduceEqDiff, Nat.reduceBEq, reduceCtorEq]; (try go_unwrap; try simp only [hla, hlb, d1, RR, reduceCtorEq]))) | (refine PW.cond rfl ?_ ?_ <;> intro hcond <;> (try contradiction) <;> try simp only [DD] at hcond) | (refine gd_i ?_; intro hg; try simp only [hg]) | ((first | show (_ : Nat) ≤ _ | show (_ : Nat) < _ | show (_ : Int) ≤ _ | show (_ : Int) < _ | show (_ : Nat) = _ | show (_ : Int) = _ | show (_ : Bool) = _ | show _ ∨ _ | show ¬ _); first | omega | (simp only [DD, LL] <;> omega) | (go_unwrap; omega)) | ((first | refine PW.region ?_ | refine PW.regionQ ?_ | refine schedW_done_i ?_ | show (_ : Post) _ _ _ | show @Eq (List PV) _ _ | show @Eq Bool _ _ | show opsW _ _ _ _ _ _ _ _ | show okAll _ | show @Eq Bool _ _ ∨ _); focus (simp only [hla, hlb, d1, SA, Nat.reduceAdd, reduceIte, Nat.reduceEqDiff, Nat.reduceBEq, reduceCtorEq]; (try go_unwrap; try simp only [hla, hlb, d1, RR, reduceCtorEq]))) | refine And.intro ?_ ?_ | exact Or.inr ⟨rfl, Nat.le_refl _⟩ | exact (fun h => Bool.noConfusion h))
  have d1 : decide ((a.length : Int) = b.length) = true := by simp only [decide_eq_true_eq]; omega
  repeat' (first | exact True.intro | (refine PW.seqK ?_; intro K hK) | refine pwB ?_ | refine pwS ?_ | refine pwL ?_ | refine pwE ?_ | refine pwR ?_ | refine pwK ?_ | refine seqK_n ‹_› ?_ | refine seqK_r ‹_› ?_ | refine seqK_e ‹_› ?_ | refine PW.regionA ?_ | exact schedW_stop_i | refine schK_n ‹_› ?_ | (refine schedW_alt_k ?_ ?_; focus (intro K hK; simp only [hla, hlb, d1, SA, Nat.reduceAdd, reduceIte, Nat.reduceEqDiff, Nat.reduceBEq, reduceCtorEq]; (try go_unwrap; try simp only [hla, hlb, d1, RR, reduceCtorEq]))) | (refine PW.cond rfl ?_ ?_ <;> intro hcond <;> (try contradiction) <;> try simp only [DD] at hcond) | (refine gd_i ?_; intro hg; try simp only [hg]) | ((first | show (_ : Nat) ≤ _ | show (_ : Nat) < _ | show (_ : Int) ≤ _ | show (_ : Int) < _ | show (_ : Nat) = _ | show (_ : Int) = _ | show (_ : Bool) = _ | show _ ∨ _ | show ¬ _); first | omega | (simp only [DD, LL] <;> omega) | (go_unwrap; omega)) | ((first | refine PW.region ?_ | refine PW.regionQ ?_ | refine schedW_done_i ?_ | show (_ : Post) _ _ _ | show @Eq (List PV) _ _ | show @Eq Bool _ _ | show opsW _ _ _ _ _ _ _ _ | show okAll _ | show @Eq Bool _ _ ∨ _); focus (simp only [hla, hlb, d1, SA, Nat.reduceAdd, reduceIte, Nat.reduceEqDiff, Nat.reduceBEq, reduceCtorEq]; (try go_unwrap; try simp only [hla, hlb, d1, RR, reduceCtorEq]))) | refine And.intro ?_ ?_ | exact Or.inr ⟨rfl, Nat.le_refl _⟩ | exact (fun h => Bool.noConfusion h))
  refine PW.loop (σ := Nat) [0, 1, 5] (fun i => [.list (some 4) (a.map ndP), .list (some 4) (b.map ndP), .int .i64 i]) (fun _ => []) (fun i => i ≤ a.length ∧ a.take i = b.take i) (fun i => a.length - i) 0 ?_ rfl ⟨by omega, by simp⟩ ?_
  · simp only [SA, Nat.reduceAdd, reduceIte, Nat.reduceEqDiff, Nat.reduceBEq, reduceCtorEq]; rfl
  rintro i ⟨hi, ht⟩
  simp only [List.zip_cons_cons, List.zip_nil_left]
  rcases Nat.lt_or_ge i a.length with h | h
  case inr =>
    have d2 : decide ((i : Int) < a.length) = false := by simp only [decide_eq_false_iff_not]; omega
    have he : decide (a = b) = true := by
      simp only [decide_eq_true_eq]
      rw [List.take_of_length_le h, List.take_of_length_le (by omega)] at ht
      exact ht
    repeat' (first | exact True.intro | (refine PW.seqK ?_; intro K hK) | refine pwB ?_ | refine pwS ?_ | refine pwL ?_ | refine pwE ?_ | refine pwR ?_ | refine pwK ?_ | refine seqK_n ‹_› ?_ | refine seqK_r ‹_› ?_ | refine seqK_e ‹_› ?_ | refine PW.regionA ?_ | exact schedW_stop_i | refine schK_n ‹_› ?_ | (refine schedW_alt_k ?_ ?_; focus (intro K hK; simp only [hla, hlb, d2, SA, Nat.reduceAdd, reduceIte, Nat.reduceEqDiff, Nat.reduceBEq, reduceCtorEq]; (try go_unwrap; try simp only [hla, hlb, d2, RR, reduceCtorEq]))) | (refine PW.cond rfl ?_ ?_ <;> intro hcond <;> (try contradiction) <;> try simp only [DD] at hcond) | (refine gd_i ?_; intro hg; try simp only [hg]) | ((first | show (_ : Nat) ≤ _ | show (_ : Nat) < _ | show (_ : Int) ≤ _ | show (_ : Int) < _ | show (_ : Nat) = _ | show (_ : Int) = _ | show (_ : Bool) = _ | show _ ∨ _ | show ¬ _); first | omega | (simp only [DD, LL] <;> omega) | (go_unwrap; omega)) | ((first | refine PW.region ?_ | refine PW.regionQ ?_ | refine schedW_done_i ?_ | show (_ : Post) _ _ _ | show @Eq (List PV) _ _ | show @Eq Bool _ _ | show opsW _ _ _ _ _ _ _ _ | show okAll _ | show @Eq Bool _ _ ∨ _); focus (simp only [hla, hlb, d2, SA, Nat.reduceAdd, reduceIte, Nat.reduceEqDiff, Nat.reduceBEq, reduceCtorEq]; (try go_unwrap; try simp only [hla, hlb, d2, RR, reduceCtorEq]))) | refine And.intro ?_ ?_ | exact Or.inr ⟨rfl, Nat.le_refl _⟩ | exact (fun h => Bool.noConfusion h))
    all_goals rw [he]
  have hib : i < b.length := by omega
  have d2 : decide ((i : Int) < a.length) = true := by simp only [decide_eq_true_eq]; omega
  have hga : (a.map ndP).getD i .junk = .agg [.int .i64 a[i].op, .int .i64 a[i].num, .str a[i].name, .list none (a[i].kids.map (PV.int .i64))] := by simp [List.getD, h, ndP, ndC, kidsP]
  have hgb : (b.map ndP).getD i .junk = .agg [.int .i64 b[i].op, .int .i64 b[i].num, .str b[i].name, .list none (b[i].kids.map (PV.int .i64))] := by simp [List.getD, hib, ndP, ndC, kidsP]
  have hne := ne_of_at h hib
  have hts : a[i] = b[i] → a.take (i + 1) = b.take (i + 1) := fun e => by rw [take_snoc h, take_snoc hib, ht, e]
  have hkx := hka a[i] (List.getElem_mem h)
  have hky := hkb b[i] (List.getElem_mem hib)
  have hlx : ((a[i].kids.map (PV.int .i64)).length : Nat) = a[i].kids.length := by simp
  have hly : ((b[i].kids.map (PV.int .i64)).length : Nat) = b[i].kids.length := by simp
  generalize a[i] = x at *
  generalize b[i] = y at *
  by_cases c : x.op = y.op ∧ x.num = y.num ∧ x.name = y.name ∧ x.kids.length = y.kids.length
  case neg =>
    have hf : decide (a = b) = false := by
      simp only [decide_eq_false_iff_not]; intro e
      exact hne (fun e => c (by subst e; exact ⟨rfl, rfl, rfl, rfl⟩)) e
    have dk : decide ((x.kids.length : Int) = y.kids.length) = decide (x.kids.length = y.kids.length) := by rw [Bool.eq_iff_iff, decide_eq_true_eq, decide_eq_true_eq]; omega
    have hc : (!decide (x.op = y.op) || !decide (x.num = y.num) || !decide (x.name = y.name) || !decide (x.kids.length = y.kids.length)) = true := by
      by_cases c1 : x.op = y.op <;> by_cases c2 : x.num = y.num <;> by_cases c3 : x.name = y.name <;> by_cases c4 : x.kids.length = y.kids.length <;> simp_all
    repeat' (first | exact True.intro | (refine PW.seqK ?_; intro K hK) | refine pwB ?_ | refine pwS ?_ | refine pwL ?_ | refine pwE ?_ | refine pwR ?_ | refine pwK ?_ | refine seqK_n ‹_› ?_ | refine seqK_r ‹_› ?_ | refine seqK_e ‹_› ?_ | refine PW.regionA ?_ | exact schedW_stop_i | refine schK_n ‹_› ?_ | (refine schedW_alt_k ?_ ?_; focus (intro K hK; simp only [hla, hlb, d2, hga, hgb, hlx, hly, PV.bin, PV.binOk, binI, dk, SA, Nat.reduceAdd, reduceIte, Nat.reduceEqDiff, Nat.reduceBEq, reduceCtorEq]; (try go_unwrap; try simp only [hla, hlb, d2, hga, hgb, hlx, hly, PV.bin, PV.binOk, binI, dk, RR, reduceCtorEq]))) | (refine PW.cond rfl ?_ ?_ <;> intro hcond <;> (try contradiction) <;> try simp only [DD] at hcond) | (refine gd_i ?_; intro hg; try simp only [hg]) | ((first | show (_ : Nat) ≤ _ | show (_ : Nat) < _ | show (_ : Int) ≤ _ | show (_ : Int) < _ | show (_ : Nat) = _ | show (_ : Int) = _ | show (_ : Bool) = _ | show _ ∨ _ | show ¬ _); first | omega | (simp only [DD, LL] <;> omega) | (go_unwrap; omega)) | ((first | refine PW.region ?_ | refine PW.regionQ ?_ | refine schedW_done_i ?_ | show (_ : Post) _ _ _ | show @Eq (List PV) _ _ | show @Eq Bool _ _ | show opsW _ _ _ _ _ _ _ _ | show okAll _ | show @Eq Bool _ _ ∨ _); focus (simp only [hla, hlb, d2, hga, hgb, hlx, hly, PV.bin, PV.binOk, binI, dk, SA, Nat.reduceAdd, reduceIte, Nat.reduceEqDiff, Nat.reduceBEq, reduceCtorEq]; (try go_unwrap; try simp only [hla, hlb, d2, hga, hgb, hlx, hly, PV.bin, PV.binOk, binI, dk, RR, reduceCtorEq]))) | refine And.intro ?_ ?_ | exact Or.inr ⟨rfl, Nat.le_refl _⟩ | exact (fun h => Bool.noConfusion h))
    all_goals first | (rw [hf]; done) | (exfalso; grind)
  obtain ⟨c1, c2, c3, c4⟩ := c
  have e1 : decide (x.op = y.op) = true := decide_eq_true c1
  have e2 : decide (x.num = y.num) = true := decide_eq_true c2
  have e3 : decide (x.name = y.name) = true := decide_eq_true c3
  have e4 : decide ((x.kids.length : Int) = y.kids.length) = true := by simp only [decide_eq_true_eq]; omega
  repeat' (first | exact True.intro | (refine PW.seqK ?_; intro K hK) | refine pwB ?_ | refine pwS ?_ | refine pwL ?_ | refine pwE ?_ | refine pwR ?_ | refine pwK ?_ | refine seqK_n ‹_› ?_ | refine seqK_r ‹_› ?_ | refine seqK_e ‹_› ?_ | refine PW.regionA ?_ | exact schedW_stop_i | refine schK_n ‹_› ?_ | (refine schedW_alt_k ?_ ?_; focus (intro K hK; simp only [hla, hlb, d2, hga, hgb, hlx, hly, PV.bin, PV.binOk, binI, decide_eq_true c1, decide_eq_true c2, decide_eq_true c3, e4, SA, Nat.reduceAdd, reduceIte, Nat.reduceEqDiff, Nat.reduceBEq, reduceCtorEq]; (try go_unwrap; try simp only [hla, hlb, d2, hga, hgb, hlx, hly, PV.bin, PV.binOk, binI, decide_eq_true c1, decide_eq_true c2, decide_eq_true c3, e4, RR, reduceCtorEq]))) | (refine PW.cond rfl ?_ ?_ <;> intro hcond <;> (try contradiction) <;> try simp only [DD] at hcond) | (refine gd_i ?_; intro hg; try simp only [hg]) | ((first | show (_ : Nat) ≤ _ | show (_ : Nat) < _ | show (_ : Int) ≤ _ | show (_ : Int) < _ | show (_ : Nat) = _ | show (_ : Int) = _ | show (_ : Bool) = _ | show _ ∨ _ | show ¬ _); first | omega | (simp only [DD, LL] <;> omega) | (go_unwrap; omega)) | ((first | refine PW.region ?_ | refine PW.regionQ ?_ | refine schedW_done_i ?_ | show (_ : Post) _ _ _ | show @Eq (List PV) _ _ | show @Eq Bool _ _ | show opsW _ _ _ _ _ _ _ _ | show okAll _ | show @Eq Bool _ _ ∨ _); focus (simp only [hla, hlb, d2, hga, hgb, hlx, hly, PV.bin, PV.binOk, binI, decide_eq_true c1, decide_eq_true c2, decide_eq_true c3, e4, SA, Nat.reduceAdd, reduceIte, Nat.reduceEqDiff, Nat.reduceBEq, reduceCtorEq]; (try go_unwrap; try simp only [hla, hlb, d2, hga, hgb, hlx, hly, PV.bin, PV.binOk, binI, decide_eq_true c1, decide_eq_true c2, decide_eq_true c3, e4, RR, reduceCtorEq]))) | refine And.intro ?_ ?_ | exact Or.inr ⟨rfl, Nat.le_refl _⟩ | exact (fun h => Bool.noConfusion h))
  refine PW.loop (σ := Nat) [0, 1, 5, 6] (fun j => [.list (some 4) (a.map ndP), .list (some 4) (b.map ndP), .int .i64 i, .int .i64 j]) (fun _ => []) (fun j => j ≤ x.kids.length ∧ x.kids.take j = y.kids.take j) (fun j => x.kids.length - j) 0 ?_ rfl ⟨by omega, by simp⟩ ?_
  · simp only [SA, Nat.reduceAdd, reduceIte, Nat.reduceEqDiff, Nat.reduceBEq, reduceCtorEq]; rfl
  rintro j ⟨hj, hu⟩
  simp only [List.zip_cons_cons, List.zip_nil_left]
  rcases Nat.lt_or_ge j x.kids.length with h' | h'
  · have hjy : j < y.kids.length := by omega
    have d3 : decide ((j : Int) < x.kids.length) = true := by simp only [decide_eq_true_eq]; omega
    have hgx : (x.kids.map (PV.int .i64)).getD j .junk = .int .i64 x.kids[j] := by simp [List.getD, h']
    have hgy : (y.kids.map (PV.int .i64)).getD j .junk = .int .i64 y.kids[j] := by simp [List.getD, hjy]
    have hnk := ne_of_at h' hjy
    have hus : x.kids[j] = y.kids[j] → x.kids.take (j + 1) = y.kids.take (j + 1) := fun e => by rw [take_snoc h', take_snoc hjy, hu, e]
    generalize x.kids[j] = p at *
    generalize y.kids[j] = q at *
    by_cases e : p = q
    · repeat' (first | exact True.intro | (refine PW.seqK ?_; intro K hK) | refine pwB ?_ | refine pwS ?_ | refine pwL ?_ | refine pwE ?_ | refine pwR ?_ | refine pwK ?_ | refine seqK_n ‹_› ?_ | refine seqK_r ‹_› ?_ | refine seqK_e ‹_› ?_ | refine PW.regionA ?_ | exact schedW_stop_i | refine schK_n ‹_› ?_ | (refine schedW_alt_k ?_ ?_; focus (intro K hK; simp only [hla, hlb, d3, hga, hgb, hlx, hly, hgx, hgy, PV.bin, PV.binOk, binI, decide_eq_true e, SA, Nat.reduceAdd, reduceIte, Nat.reduceEqDiff, Nat.reduceBEq, reduceCtorEq]; (try go_unwrap; try simp only [hla, hlb, d3, hga, hgb, hlx, hly, hgx, hgy, PV.bin, PV.binOk, binI, decide_eq_true e, RR, reduceCtorEq]))) | (refine PW.cond rfl ?_ ?_ <;> intro hcond <;> (try contradiction) <;> try simp only [DD] at hcond) | (refine gd_i ?_; intro hg; try simp only [hg]) | ((first | show (_ : Nat) ≤ _ | show (_ : Nat) < _ | show (_ : Int) ≤ _ | show (_ : Int) < _ | show (_ : Nat) = _ | show (_ : Int) = _ | show (_ : Bool) = _ | show _ ∨ _ | show ¬ _); first | omega | (simp only [DD, LL] <;> omega) | (go_unwrap; omega)) | ((first | refine PW.region ?_ | refine PW.regionQ ?_ | refine schedW_done_i ?_ | show (_ : Post) _ _ _ | show @Eq (List PV) _ _ | show @Eq Bool _ _ | show opsW _ _ _ _ _ _ _ _ | show okAll _ | show @Eq Bool _ _ ∨ _); focus (simp only [hla, hlb, d3, hga, hgb, hlx, hly, hgx, hgy, PV.bin, PV.binOk, binI, decide_eq_true e, SA, Nat.reduceAdd, reduceIte, Nat.reduceEqDiff, Nat.reduceBEq, reduceCtorEq]; (try go_unwrap; try simp only [hla, hlb, d3, hga, hgb, hlx, hly, hgx, hgy, PV.bin, PV.binOk, binI, decide_eq_true e, RR, reduceCtorEq]))) | refine And.intro ?_ ?_ | exact Or.inr ⟨rfl, Nat.le_refl _⟩ | exact (fun h => Bool.noConfusion h))
      all_goals exact ⟨j + 1, rfl, ⟨by omega, hus e⟩, by omega⟩
    · have hf : decide (a = b) = false := by
        simp only [decide_eq_false_iff_not]; intro e'
        exact hne (fun e2 => hnk e (by rw [e2])) e'
      repeat' (first | exact True.intro | (refine PW.seqK ?_; intro K hK) | refine pwB ?_ | refine pwS ?_ | refine pwL ?_ | refine pwE ?_ | refine pwR ?_ | refine pwK ?_ | refine seqK_n ‹_› ?_ | refine seqK_r ‹_› ?_ | refine seqK_e ‹_› ?_ | refine PW.regionA ?_ | exact schedW_stop_i | refine schK_n ‹_› ?_ | (refine schedW_alt_k ?_ ?_; focus (intro K hK; simp only [hla, hlb, d3, hga, hgb, hlx, hly, hgx, hgy, PV.bin, PV.binOk, binI, decide_eq_false e, SA, Nat.reduceAdd, reduceIte, Nat.reduceEqDiff, Nat.reduceBEq, reduceCtorEq]; (try go_unwrap; try simp only [hla, hlb, d3, hga, hgb, hlx, hly, hgx, hgy, PV.bin, PV.binOk, binI, decide_eq_false e, RR, reduceCtorEq]))) | (refine PW.cond rfl ?_ ?_ <;> intro hcond <;> (try contradiction) <;> try simp only [DD] at hcond) | (refine gd_i ?_; intro hg; try simp only [hg]) | ((first | show (_ : Nat) ≤ _ | show (_ : Nat) < _ | show (_ : Int) ≤ _ | show (_ : Int) < _ | show (_ : Nat) = _ | show (_ : Int) = _ | show (_ : Bool) = _ | show _ ∨ _ | show ¬ _); first | omega | (simp only [DD, LL] <;> omega) | (go_unwrap; omega)) | ((first | refine PW.region ?_ | refine PW.regionQ ?_ | refine schedW_done_i ?_ | show (_ : Post) _ _ _ | show @Eq (List PV) _ _ | show @Eq Bool _ _ | show opsW _ _ _ _ _ _ _ _ | show okAll _ | show @Eq Bool _ _ ∨ _); focus (simp only [hla, hlb, d3, hga, hgb, hlx, hly, hgx, hgy, PV.bin, PV.binOk, binI, decide_eq_false e, SA, Nat.reduceAdd, reduceIte, Nat.reduceEqDiff, Nat.reduceBEq, reduceCtorEq]; (try go_unwrap; try simp only [hla, hlb, d3, hga, hgb, hlx, hly, hgx, hgy, PV.bin, PV.binOk, binI, decide_eq_false e, RR, reduceCtorEq]))) | refine And.intro ?_ ?_ | exact Or.inr ⟨rfl, Nat.le_refl _⟩ | exact (fun h => Bool.noConfusion h))
      all_goals rw [hf]
  · have d3 : decide ((j : Int) < x.kids.length) = false := by simp only [decide_eq_false_iff_not]; omega
    have hk : x.kids = y.kids := by
      rw [List.take_of_length_le h', List.take_of_length_le (by omega)] at hu
      exact hu
    have hxy := nd_eq c1 c2 c3 hk
    repeat' (first | exact True.intro | (refine PW.seqK ?_; intro K hK) | refine pwB ?_ | refine pwS ?_ | refine pwL ?_ | refine pwE ?_ | refine pwR ?_ | refine pwK ?_ | refine seqK_n ‹_› ?_ | refine seqK_r ‹_› ?_ | refine seqK_e ‹_› ?_ | refine PW.regionA ?_ | exact schedW_stop_i | refine schK_n ‹_› ?_ | (refine schedW_alt_k ?_ ?_; focus (intro K hK; simp only [hla, hlb, d3, hga, hgb, hlx, hly, PV.bin, PV.binOk, binI, SA, Nat.reduceAdd, reduceIte, Nat.reduceEqDiff, Nat.reduceBEq, reduceCtorEq]; (try go_unwrap; try simp only [hla, hlb, d3, hga, hgb, hlx, hly, PV.bin, PV.binOk, binI, RR, reduceCtorEq]))) | (refine PW.cond rfl ?_ ?_ <;> intro hcond <;> (try contradiction) <;> try simp only [DD] at hcond) | (refine gd_i ?_; intro hg; try simp only [hg]) | ((first | show (_ : Nat) ≤ _ | show (_ : Nat) < _ | show (_ : Int) ≤ _ | show (_ : Int) < _ | show (_ : Nat) = _ | show (_ : Int) = _ | show (_ : Bool) = _ | show _ ∨ _ | show ¬ _); first | omega | (simp only [DD, LL] <;> omega) | (go_unwrap; omega)) | ((first | refine PW.region ?_ | refine PW.regionQ ?_ | refine schedW_done_i ?_ | show (_ : Post) _ _ _ | show @Eq (List PV) _ _ | show @Eq Bool _ _ | show opsW _ _ _ _ _ _ _ _ | show okAll _ | show @Eq Bool _ _ ∨ _); focus (simp only [hla, hlb, d3, hga, hgb, hlx, hly, PV.bin, PV.binOk, binI, SA, Nat.reduceAdd, reduceIte, Nat.reduceEqDiff, Nat.reduceBEq, reduceCtorEq]; (try go_unwrap; try simp only [hla, hlb, d3, hga, hgb, hlx, hly, PV.bin, PV.binOk, binI, RR, reduceCtorEq]))) | refine And.intro ?_ ?_ | exact Or.inr ⟨rfl, Nat.le_refl _⟩ | exact (fun h => Bool.noConfusion h))
    all_goals exact ⟨i + 1, rfl, ⟨by omega, hts hxy⟩, by omega⟩
end Go.Proofs.YthekpjhffciakaaDoor

namespace Go.Proofs.YthekpjhffciakaaDoor
open Go PG Go.Proofs
set_option linter.unusedSimpArgs false
set_option linter.unusedVariables false
set_option maxHeartbeats 4000000
set_option maxRecDepth 100000
variable {G : Globs}
theorem take_snoc' {α : Type} {l : List α} {i : Nat} (h : i < l.length) : l.take (i + 1) = l.take i ++ [l[i]] := by
  rw [List.take_succ_eq_append_getElem h]
theorem v23 (l : List Nd) (hl : l.length ≤ 100000) : VCalls Tryd.prog G 23 [treeP l] (.list (some 4) (l.map ndP)) := by
  refine VCalls.of_PW Tryd.func23 k23 mix (by simp [c23]) ?_
  simp only [c23, L23, CC, argE, treeP]
  have hll : ((l.map ndP).length : Nat) = l.length := by simp
  repeat' (first | exact True.intro | (exact Or.inr ⟨rfl, by decide⟩) | (refine PW.stop (x := .seq (.region false (⟨some 4, none, .rd .mov [.pv (.int .i64 0)]⟩ :: _) _) _) ?_) | (refine PW.seqK ?_; intro K hK) | refine pwB ?_ | refine pwS ?_ | refine pwL ?_ | refine pwE ?_ | refine pwR ?_ | refine pwK ?_ | refine seqK_n ‹_› ?_ | refine seqK_r ‹_› ?_ | refine seqK_e ‹_› ?_ | refine PW.regionA ?_ | exact schedW_stop_i | refine schK_n ‹_› ?_ | (refine schedW_alt_k ?_ ?_; focus (intro K hK; simp only [SA, Nat.reduceAdd, reduceIte, Nat.reduceEqDiff, Nat.reduceBEq, reduceCtorEq]; (try go_unwrap; try simp only [RR, reduceCtorEq]))) | (refine PW.cond rfl ?_ ?_ <;> intro hcond <;> (try contradiction) <;> try simp only [DD] at hcond) | (refine gd_i ?_; intro hg; try simp only [hg]) | ((first | show (_ : Nat) ≤ _ | show (_ : Nat) < _ | show (_ : Int) ≤ _ | show (_ : Int) < _ | show (_ : Nat) = _ | show (_ : Int) = _ | show (_ : Bool) = _ | show _ ∨ _ | show ¬ _); first | omega | (simp only [DD, LL] <;> omega) | (go_unwrap; omega)) | ((first | refine PW.region ?_ | refine PW.regionQ ?_ | refine schedW_done_i ?_ | show (_ : Post) _ _ _ | show @Eq (List PV) _ _ | show @Eq Bool _ _ | show opsW _ _ _ _ _ _ _ _ | show okAll _ | show @Eq Bool _ _ ∨ _); focus (simp only [SA, Nat.reduceAdd, reduceIte, Nat.reduceEqDiff, Nat.reduceBEq, reduceCtorEq]; (try go_unwrap; try simp only [RR, reduceCtorEq]))) | refine And.intro ?_ ?_ | exact Or.inr ⟨rfl, Nat.le_refl _⟩ | exact (fun h => Bool.noConfusion h))
  refine ⟨?_⟩
  refine PW.ownE 3 (some 4) rfl ?_
  simp only [List.cons_append, List.nil_append, List.length_cons, List.length_nil]
  repeat' (first | exact True.intro | (refine PW.seqK ?_; intro K hK) | refine pwB ?_ | refine pwS ?_ | refine pwL ?_ | refine pwE ?_ | refine pwR ?_ | refine pwK ?_ | refine seqK_n ‹_› ?_ | refine seqK_r ‹_› ?_ | refine seqK_e ‹_› ?_ | refine PW.regionA ?_ | exact schedW_stop_i | refine schK_n ‹_› ?_ | (refine schedW_alt_k ?_ ?_; focus (intro K hK; simp only [SA, Nat.reduceAdd, reduceIte, Nat.reduceEqDiff, Nat.reduceBEq, reduceCtorEq]; (try go_unwrap; try simp only [RR, reduceCtorEq]))) | (refine PW.cond rfl ?_ ?_ <;> intro hcond <;> (try contradiction) <;> try simp only [DD] at hcond) | (refine gd_i ?_; intro hg; try simp only [hg]) | ((first | show (_ : Nat) ≤ _ | show (_ : Nat) < _ | show (_ : Int) ≤ _ | show (_ : Int) < _ | show (_ : Nat) = _ | show (_ : Int) = _ | show (_ : Bool) = _ | show _ ∨ _ | show ¬ _); first | omega | (simp only [DD, LL] <;> omega) | (go_unwrap; omega)) | ((first | refine PW.region ?_ | refine PW.regionQ ?_ | refine schedW_done_i ?_ | show (_ : Post) _ _ _ | show @Eq (List PV) _ _ | show @Eq Bool _ _ | show opsW _ _ _ _ _ _ _ _ | show okAll _ | show @Eq Bool _ _ ∨ _); focus (simp only [SA, Nat.reduceAdd, reduceIte, Nat.reduceEqDiff, Nat.reduceBEq, reduceCtorEq]; (try go_unwrap; try simp only [RR, reduceCtorEq]))) | refine And.intro ?_ ?_ | exact Or.inr ⟨rfl, Nat.le_refl _⟩ | exact (fun h => Bool.noConfusion h))
  refine PW.loopG (σ := Nat) 2 (fun _ _ => rfl) [1, 3, 4] (fun i => [.ref 0 0, .sl (some 4) 1 i, .int .i64 i]) (fun i => [some (.var (some 1) (.agg [.list (some 4) (l.map ndP)])), some (.row (some 4) ((l.take i).map ndP))]) (fun i => i ≤ l.length) (fun i => l.length - i) 0 ?_ (by simp) (by omega) ?_
  · simp only [SA, Nat.reduceAdd, reduceIte, Nat.reduceEqDiff, Nat.reduceBEq, reduceCtorEq]; rfl
  intro i hi
  simp only [List.zip_cons_cons, List.zip_nil_left]
  have hlt : (((l.take i).map ndP).length : Nat) = i := by simp; omega
  have htk : ((l.take i).map ndP).take i = (l.take i).map ndP := List.take_of_length_le (by omega)
  rcases Nat.lt_or_ge i l.length with h | h
  · have d1 : decide ((i : Int) < l.length) = true := by simp only [decide_eq_true_eq]; omega
    have hg : (l.map ndP).getD i .junk = .agg [.int .i64 l[i].op, .int .i64 l[i].num, .str l[i].name, .list none (l[i].kids.map (PV.int .i64))] := by simp [List.getD, h, ndP, ndC, kidsP]
    have hsn : (l.take i).map ndP ++ [.agg [.int .i64 l[i].op, .int .i64 l[i].num, .str l[i].name, .list none (l[i].kids.map (PV.int .i64))]] = (l.take (i + 1)).map ndP := by
      rw [take_snoc' h, List.map_append]; rfl
    have b1 : (i + 1) * 56 ≤ 140737488355328 := by omega
    have hsc : ∀ (a b : Int) (t : List UInt8) (ks : List PV), ∀ x ∈ [PV.int IntKind.i64 a, PV.int IntKind.i64 b, PV.str t, PV.list none ks], x.scalar = true := by
      intro a b t ks x hc; simp at hc; rcases hc with rfl | rfl | rfl | rfl <;> rfl
    generalize l[i] = x at hg hsn
    repeat' (first | exact True.intro | exact hsc _ _ _ _ | exact (rfl : (some 4 : Sh) = some 4) | (exact Or.inr ⟨rfl, by decide⟩) | (refine PW.seqK ?_; intro K hK) | refine pwB ?_ | refine pwS ?_ | refine pwL ?_ | refine pwE ?_ | refine pwR ?_ | refine pwK ?_ | refine seqK_n ‹_› ?_ | refine seqK_r ‹_› ?_ | refine seqK_e ‹_› ?_ | refine PW.regionA ?_ | exact schedW_stop_i | refine schK_n ‹_› ?_ | (refine schedW_alt_k ?_ ?_; focus (intro K hK; simp only [hll, hlt, htk, d1, hg, hsn, List.length_cons, List.length_nil, Nat.zero_add, SA, Nat.reduceAdd, reduceIte, Nat.reduceEqDiff, Nat.reduceBEq, reduceCtorEq]; (try go_unwrap; try simp only [hll, hlt, htk, d1, hg, hsn, List.length_cons, List.length_nil, Nat.zero_add, RR, reduceCtorEq]))) | (refine PW.cond rfl ?_ ?_ <;> intro hcond <;> (try contradiction) <;> try simp only [DD] at hcond) | (refine gd_i ?_; intro hg; try simp only [hg]) | ((first | show (_ : Nat) ≤ _ | show (_ : Nat) < _ | show (_ : Int) ≤ _ | show (_ : Int) < _ | show (_ : Nat) = _ | show (_ : Int) = _ | show (_ : Bool) = _ | show _ ∨ _ | show ¬ _); first | omega | (simp only [DD, LL] <;> omega) | (go_unwrap; omega)) | ((first | refine PW.region ?_ | refine PW.regionQ ?_ | refine schedW_done_i ?_ | show (_ : Post) _ _ _ | show @Eq (List PV) _ _ | show @Eq Bool _ _ | show opsW _ _ _ _ _ _ _ _ | show okAll _ | show @Eq Bool _ _ ∨ _); focus (simp only [hll, hlt, htk, d1, hg, hsn, List.length_cons, List.length_nil, Nat.zero_add, SA, Nat.reduceAdd, reduceIte, Nat.reduceEqDiff, Nat.reduceBEq, reduceCtorEq]; (try go_unwrap; try simp only [hll, hlt, htk, d1, hg, hsn, List.length_cons, List.length_nil, Nat.zero_add, RR, reduceCtorEq]))) | refine And.intro ?_ ?_ | exact Or.inr ⟨rfl, Nat.le_refl _⟩ | exact (fun h => Bool.noConfusion h))
    all_goals exact ⟨i + 1, (by first | rfl | (simp only [trimE, trimM, List.take_succ_cons, List.take_zero, List.take_nil, List.map_cons, List.map_nil, Option.map_some, Option.map_none, MObj.kill, PV.kill, Nat.reduceLeDiff, decide_true, decide_false, dec_true, dec_false, Bool.false_eq_true, if_false, if_true, reduceIte, List.zip_cons_cons, List.zip_nil_left, Nat.le_refl, Nat.zero_le, Nat.not_le, Nat.lt_irrefl]; done) | (simp [trimE, trimM, MObj.kill, PV.kill]; done)), (by first | rfl | (simp only [trimE, trimM, List.take_succ_cons, List.take_zero, List.take_nil, List.map_cons, List.map_nil, Option.map_some, Option.map_none, MObj.kill, PV.kill, Nat.reduceLeDiff, decide_true, decide_false, dec_true, dec_false, Bool.false_eq_true, if_false, if_true, reduceIte, List.zip_cons_cons, List.zip_nil_left, Nat.le_refl, Nat.zero_le, Nat.not_le, Nat.lt_irrefl]; done) | (simp [trimE, trimM, MObj.kill, PV.kill]; done)), by omega, by omega⟩
  · have d1 : decide ((i : Int) < l.length) = false := by simp only [decide_eq_false_iff_not]; omega
    have hi' : i = l.length := by omega
    subst hi'
    rw [List.take_of_length_le (Nat.le_refl _)] at hlt htk
    simp only [List.take_length]
    repeat' (first | exact True.intro | (refine PW.stop (x := .seq (.region false (⟨some 30, none, .rd .mov [.tmp 3]⟩ :: _) _) _) ?_) | (refine PW.seqK ?_; intro K hK) | refine pwB ?_ | refine pwS ?_ | refine pwL ?_ | refine pwE ?_ | refine pwR ?_ | refine pwK ?_ | refine seqK_n ‹_› ?_ | refine seqK_r ‹_› ?_ | refine seqK_e ‹_› ?_ | refine PW.regionA ?_ | exact schedW_stop_i | refine schK_n ‹_› ?_ | (refine schedW_alt_k ?_ ?_; focus (intro K hK; simp only [hll, d1, SA, Nat.reduceAdd, reduceIte, Nat.reduceEqDiff, Nat.reduceBEq, reduceCtorEq]; (try go_unwrap; try simp only [hll, d1, RR, reduceCtorEq]))) | (refine PW.cond rfl ?_ ?_ <;> intro hcond <;> (try contradiction) <;> try simp only [DD] at hcond) | (refine gd_i ?_; intro hg; try simp only [hg]) | ((first | show (_ : Nat) ≤ _ | show (_ : Nat) < _ | show (_ : Int) ≤ _ | show (_ : Int) < _ | show (_ : Nat) = _ | show (_ : Int) = _ | show (_ : Bool) = _ | show _ ∨ _ | show ¬ _); first | omega | (simp only [DD, LL] <;> omega) | (go_unwrap; omega)) | ((first | refine PW.region ?_ | refine PW.regionQ ?_ | refine schedW_done_i ?_ | show (_ : Post) _ _ _ | show @Eq (List PV) _ _ | show @Eq Bool _ _ | show opsW _ _ _ _ _ _ _ _ | show okAll _ | show @Eq Bool _ _ ∨ _); focus (simp only [hll, d1, SA, Nat.reduceAdd, reduceIte, Nat.reduceEqDiff, Nat.reduceBEq, reduceCtorEq]; (try go_unwrap; try simp only [hll, d1, RR, reduceCtorEq]))) | refine And.intro ?_ ?_ | exact Or.inr ⟨rfl, Nat.le_refl _⟩ | exact (fun h => Bool.noConfusion h))
    refine ⟨?_⟩
    refine PW.frz 1 (.row (some 4) (l.map ndP)) ?_ ?_ ?_
    · rfl
    · rfl
    simp only [SA, Nat.reduceAdd, reduceIte, Nat.reduceEqDiff, Nat.reduceBEq, reduceCtorEq, PV.frz, MObj.frz, frzM, frzSl, hlt, htk, Nat.le_refl, and_self, if_true]
    repeat' (first | exact True.intro | (refine PW.seqK ?_; intro K hK) | refine pwB ?_ | refine pwS ?_ | refine pwL ?_ | refine pwE ?_ | refine pwR ?_ | refine pwK ?_ | refine seqK_n ‹_› ?_ | refine seqK_r ‹_› ?_ | refine seqK_e ‹_› ?_ | refine PW.regionA ?_ | exact schedW_stop_i | refine schK_n ‹_› ?_ | (refine schedW_alt_k ?_ ?_; focus (intro K hK; simp only [SA, Nat.reduceAdd, reduceIte, Nat.reduceEqDiff, Nat.reduceBEq, reduceCtorEq]; (try go_unwrap; try simp only [RR, reduceCtorEq]))) | (refine PW.cond rfl ?_ ?_ <;> intro hcond <;> (try contradiction) <;> try simp only [DD] at hcond) | (refine gd_i ?_; intro hg; try simp only [hg]) | ((first | show (_ : Nat) ≤ _ | show (_ : Nat) < _ | show (_ : Int) ≤ _ | show (_ : Int) < _ | show (_ : Nat) = _ | show (_ : Int) = _ | show (_ : Bool) = _ | show _ ∨ _ | show ¬ _); first | omega | (simp only [DD, LL] <;> omega) | (go_unwrap; omega)) | ((first | refine PW.region ?_ | refine PW.regionQ ?_ | refine schedW_done_i ?_ | show (_ : Post) _ _ _ | show @Eq (List PV) _ _ | show @Eq Bool _ _ | show opsW _ _ _ _ _ _ _ _ | show okAll _ | show @Eq Bool _ _ ∨ _); focus (simp only [SA, Nat.reduceAdd, reduceIte, Nat.reduceEqDiff, Nat.reduceBEq, reduceCtorEq]; (try go_unwrap; try simp only [RR, reduceCtorEq]))) | refine And.intro ?_ ?_ | exact Or.inr ⟨rfl, Nat.le_refl _⟩ | exact (fun h => Bool.noConfusion h))
    all_goals rfl
end Go.Proofs.YthekpjhffciakaaDoor

