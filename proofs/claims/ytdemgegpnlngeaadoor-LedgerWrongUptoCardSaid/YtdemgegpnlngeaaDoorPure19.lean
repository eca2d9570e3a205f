/-
  The pure layer: more rules of a walk.
-/
import Derived.Test.YtdemgegpnlngeaaDoorPure18
namespace PG
open Go
theorem sc_list (sh : Sh) (xs : List PV) : (PV.list sh xs).scalar = true := rfl
theorem sc_nilSl : PV.nilSl.scalar = true := rfl
theorem sc_nilFn : PV.nilFn.scalar = true := rfl
theorem sc_nilPtr : PV.nilPtr.scalar = true := rfl
theorem sc_nilMap : PV.nilMap.scalar = true := rfl
theorem sc_fn (f : Nat) (a b : List PV) : (PV.fn f a b).scalar = true := rfl
theorem sc_sl (sh : Sh) (t n : Nat) : (PV.sl sh t n).scalar = true := rfl
theorem sc_mref (t : Nat) : (PV.mref t).scalar = true := rfl
theorem sc_ref (t o : Nat) : (PV.ref t o).scalar = true := rfl
theorem sc_cmap (kd : KK) (es : List (PV × PV)) : (PV.cmap kd es).scalar = true := rfl
theorem sc_full (sh : Sh) (xs : List PV) : (PV.full sh xs).scalar = true := rfl
theorem part_list (sh : Sh) (xs : List PV) : partOf (.list sh xs) 1 = some [.list sh xs] := rfl
theorem part_nilSl : partOf .nilSl 1 = some [.nilSl] := rfl
theorem part_sl (sh : Sh) (t n : Nat) : partOf (.sl sh t n) 1 = some [.sl sh t n] := rfl
theorem partSh_list (sh : Sh) (xs : List PV) : partSh (.list sh xs) none = some [.list sh xs] := rfl
theorem partSh_nilSl : partSh .nilSl none = some [.nilSl] := rfl
theorem partSh_nilMap : partSh .nilMap none = some [.nilMap] := rfl
theorem partSh_sl (sh : Sh) (t n : Nat) : partSh (.sl sh t n) none = some [.sl sh t n] := rfl
theorem partSh_mref (t : Nat) : partSh (.mref t) none = some [.mref t] := rfl
theorem partSh_fn (f : Nat) (a b : List PV) : partSh (.fn f a b) none = some [.fn f a b] := rfl
theorem partSh_cmap (kd : KK) (es : List (PV × PV)) : partSh (.cmap kd es) none = some [.cmap kd es] := rfl
theorem toB_bool (b : Bool) : (PV.bool b).toB = b := rfl
theorem isB_bool (b : Bool) : (PV.bool b).isB = true := rfl
theorem ite_tt (c : Bool) : (if c = true then true else true) = true := by cases c <;> rfl
theorem SS3 : type_of% (And.intro (And.intro (And.intro (sc_list) (And.intro (sc_nilSl) (And.intro (sc_nilFn) (sc_nilPtr)))) (And.intro (sc_nilMap) (And.intro (sc_fn) (And.intro (sc_sl) (sc_mref))))) (And.intro (And.intro (And.intro (sc_ref) (sc_cmap)) (And.intro (sc_full) (And.intro (part_list) (And.intro part_nilSl part_sl)))) (And.intro (And.intro (partSh_list) (And.intro (partSh_nilSl) partSh_nilMap)) (And.intro (And.intro (And.intro partSh_sl (And.intro toB_bool (And.intro isB_bool ite_tt))) (partSh_mref)) (And.intro (partSh_fn) (partSh_cmap)))))) :=
  (And.intro (And.intro (And.intro (sc_list) (And.intro (sc_nilSl) (And.intro (sc_nilFn) (sc_nilPtr)))) (And.intro (sc_nilMap) (And.intro (sc_fn) (And.intro (sc_sl) (sc_mref))))) (And.intro (And.intro (And.intro (sc_ref) (sc_cmap)) (And.intro (sc_full) (And.intro (part_list) (And.intro part_nilSl part_sl)))) (And.intro (And.intro (partSh_list) (And.intro (partSh_nilSl) partSh_nilMap)) (And.intro (And.intro (And.intro partSh_sl (And.intro toB_bool (And.intro isB_bool ite_tt))) (partSh_mref)) (And.intro (partSh_fn) (partSh_cmap))))))
end PG
