/-
  The pure layer: how effects are reckoned.
-/
import Derived.Test.YtdemgegpnlngeaaDoorPure13
namespace PG
open Go

def optK {α : Type} (o : Option α) (f : α → Prop) : Prop :=
  match o with
  | some a => f a
  | none => False
theorem optK_some {α : Type} (a : α) (f : α → Prop) : optK (some a) f = f a := rfl
def rowK (o : Option MObj) (f : Sh → List PV → Prop) : Prop :=
  match o with
  | some (.row sh xs) => f sh xs
  | _ => False
theorem rowK_row (sh : Sh) (xs : List PV) (f : Sh → List PV → Prop) : rowK (some (.row sh xs)) f = f sh xs := rfl
def varK (o : Option MObj) (f : Sh → PV → Prop) : Prop :=
  match o with
  | some (.var sh x) => f sh x
  | _ => False
theorem varK_var (sh : Sh) (x : PV) (f : Sh → PV → Prop) : varK (some (.var sh x)) f = f sh x := rfl

def mpK (o : Option MObj) (f : KK → List (PV × PV) → Prop) : Prop :=
  match o with
  | some (.mp kd es) => f kd es
  | _ => False
theorem mpK_mp (kd : KK) (es : List (PV × PV)) (f : KK → List (PV × PV) → Prop) : mpK (some (.mp kd es)) f = f kd es := rfl
def iterK (o : Option MObj) (f : KK → List (PV × PV) → List Nat → Prop) : Prop :=
  match o with
  | some (.iter kd es seen) => f kd es seen
  | _ => False
theorem iterK_iter (kd : KK) (es : List (PV × PV)) (seen : List Nat) (f : KK → List (PV × PV) → List Nat → Prop) : iterK (some (.iter kd es seen)) f = f kd es seen := rfl
def lastK (l : List Nat) (f : Nat → Prop) : Prop :=
  match l.getLast? with
  | some i => f i
  | none => False
theorem lastK_snoc (l : List Nat) (i : Nat) (f : Nat → Prop) : lastK (l ++ [i]) f = f i := by simp [lastK]

section
variable {P : Program} {G : Globs} {mv : Nat → Bool} {d : Option Nat} {rest : List CO} {env : Env} {μ : Mem} {K : Env → Mem → Prop} {J : PV → Option Nat → Mem → Prop}
theorem effK_eq {k : EK} {ps : List PV} : effK P G mv d rest env K μ k ps = effW μ k ps fun p dead μ' => deadOk mv dead ∧ opsW P G false mv rest (putE (killE env dead) d p) μ' K := rfl
theorem deadOk_none : deadOk mv none = True := rfl
theorem deadOk_some (t : Nat) : deadOk mv (some t) = (mv t = true) := rfl
theorem kill_some (t : Nat) : killE env (some t) = env.map fun x => (x.1, x.2.kill (killTag t)) := rfl

theorem effW_s2b (l : List UInt8) : effW μ .s2b [.str l] J = (l.length ≤ 9223372036854775807 ∧ J (.list none (u8s l)) none μ) := rfl
theorem effW_b2s (p : PV) : effW μ .b2s [p] J = optK (elemsSh μ none p) fun ys => areBytes ys ∧ J (.str (ys.map byteOf)) none μ := by
  simp only [effW]; cases elemsSh μ none p <;> rfl
theorem effW_alloc (sh : Sh) (z : PV) : effW μ (.alloc sh z) [] J = J (.ref μ.length 0) none (μ ++ [some (.var sh z)]) := rfl
theorem effW_box (sh : Sh) (v : PV) : effW μ (.box sh) [v] J = ((partSh v sh).isSome = true ∧ J (.ref μ.length 0) none (μ ++ [some (.var sh v)])) := rfl
theorem effW_litC (sh : Sh) (ps : List PV) : effW μ (.lit sh false) ps J = (allFit sh ps ∧ (ps.map PV.noOwn).all id = true ∧ ps.length * sh.size ≤ 16777216 ∧ J (.list sh ps) none μ) := rfl
theorem effW_litO (sh : Sh) (ps : List PV) : effW μ (.lit sh true) ps J = (allFit sh ps ∧ (ps.map PV.noOwn).all id = true ∧ ps.length * sh.size ≤ 16777216 ∧ J (.sl sh μ.length ps.length) none (μ ++ [some (.row sh ps)])) := rfl
theorem effW_make (sh : Sh) (z : PV) (bytes : Nat) (k k' : IntKind) (l c : Int) : effW μ (.make sh z bytes) [.int k l, .int k' c] J = (0 ≤ l ∧ l ≤ c ∧ (bytes : Int) * c ≤ 281474976710656 ∧ c ≤ 9223372036854775807 ∧ J (.sl sh μ.length l.toNat) none (μ ++ [some (.row sh (List.replicate l.toNat z))])) := rfl
theorem effW_app_nil (sh : Sh) (bytes : Nat) (b : PV) : effW μ (.append sh bytes) [.nilSl, b] J = optK (elemsSh μ sh b) fun ys => ys.length ≤ 9223372036854775807 ∧ ys.length * bytes ≤ 140737488355328 ∧ J (.sl sh μ.length ys.length) none (μ ++ [some (.row sh ys)]) := by
  simp only [effW]; cases elemsSh μ sh b <;> rfl
theorem effW_app_sl (sh sh' : Sh) (bytes t n : Nat) (b : PV) : effW μ (.append sh bytes) [.sl sh' t n, b] J = optK (elemsSh μ sh b) fun ys => rowK (μ.get t) fun sh'' xs => sh' = sh ∧ sh'' = sh ∧ n ≤ xs.length ∧ n + ys.length ≤ 9223372036854775807 ∧ (n + ys.length) * bytes ≤ 140737488355328 ∧
            J (.sl sh t (n + ys.length)) (some t) ((μ.kill (killTag t)).set t (some (.row sh (xs.take n ++ ys)))) := by
  simp only [effW]
  cases elemsSh μ sh b with
  | none => rfl
  | some ys => rcases μ.get t with _ | (_ | _ | _ | _) <;> rfl
theorem effW_store_eptr (sh : Sh) (t n i off : Nat) (v : PV) : effW μ (.store sh) [.eptr t n i off, v] J = rowK (μ.get t) fun sh' xs => optK (partSh v sh) fun cs => (∀ c ∈ cs, c.scalar = true) ∧ v.noOwn = true ∧ n = sh'.size ∧ i < xs.length ∧ ((off = 0 ∧ sh' = sh) ∨ (sh'.isSome = true ∧ off + sh.size ≤ sh'.size)) ∧
        J .junk none (μ.set t (some (.row sh' (xs.set i (putPart sh' sh (xs.getD i .junk) off v))))) := by
  simp only [effW]
  rcases μ.get t with _ | (_ | _ | _ | _) <;> cases partSh v sh <;> rfl
theorem effW_store_ref (sh : Sh) (t off : Nat) (v : PV) : effW μ (.store sh) [.ref t off, v] J = varK (μ.get t) fun sh' x => optK (partSh v sh) fun cs => (∀ c ∈ cs, c.scalar = true) ∧ ((off = 0 ∧ sh' = sh) ∨ (sh'.isSome = true ∧ off + sh.size ≤ sh'.size)) ∧ J .junk none (μ.set t (some (.var sh' (putPart sh' sh x off v)))) := by
  simp only [effW]
  rcases μ.get t with _ | (_ | _ | _ | _) <;> cases partSh v sh <;> rfl

theorem effW_mmk (kd : KK) : effW μ (.mmk kd) [] J = J (.mref μ.length) none (μ ++ [some (.mp kd [])]) := rfl
theorem effW_mupd (kd : KK) (t : Nat) (k v : PV) : effW μ (.mupd kd) [.mref t, k, v] J = mpK (μ.get t) fun kd' es => kd' = kd ∧ keyOk kd k = true ∧ v.noOwn = true ∧ J .junk none (μ.set t (some (.mp kd (mset es k v)))) := by
  simp only [effW]; rcases μ.get t with _ | (_ | _ | _ | _) <;> rfl
theorem effW_ment (kd : KK) (z : PV) (t : Nat) (k : PV) : effW μ (.ment kd z) [.mref t, k] J = mpK (μ.get t) fun kd' es => kd' = kd ∧ keyOk kd k = true ∧ J (.tup [(mget es k).getD z, .int .i64 (midx es k)]) none (μ.set t (some (.mp kd (mset es k ((mget es k).getD z))))) := by
  simp only [effW]; rcases μ.get t with _ | (_ | _ | _ | _) <;> rfl
theorem effW_mst (t : Nat) (k : IntKind) (i : Int) (v : PV) : effW μ .mst [.mref t, .int k i, v] J = mpK (μ.get t) fun kd es => 0 ≤ i ∧ i < es.length ∧ v.noOwn = true ∧ J .junk none (μ.set t (some (.mp kd (es.set i.toNat (enK es i.toNat, v))))) := by
  simp only [effW]; rcases μ.get t with _ | (_ | _ | _ | _) <;> rfl
theorem effW_rng_nil (kd : KK) : effW μ (.rng kd) [.nilMap] J = J (.ref μ.length 0) none (μ ++ [some (.iter kd [] [])]) := rfl
theorem effW_rng_cmap (kd kd' : KK) (es : List (PV × PV)) : effW μ (.rng kd) [.cmap kd' es] J = (kd' = kd ∧ J (.ref μ.length 0) none (μ ++ [some (.iter kd es [])])) := rfl
theorem effW_nxt (t : Nat) : effW μ .nxt [.ref t 0] J = iterK (μ.get t) fun kd es seen => (∀ i, i < es.length → i ∉ seen → J (.tup [.bool true, enK es i, enV es i]) none (μ.set t (some (.iter kd es (seen ++ [i]))))) ∧ ((∀ i, i < es.length → i ∈ seen) → J (.tup [.bool false]) none μ) := by
  simp only [effW]; rcases μ.get t with _ | (_ | _ | _ | _) <;> rfl
theorem effW_ent (t : Nat) : effW μ .ent [.ref t 0] J = iterK (μ.get t) fun _ es seen => lastK seen fun i => i < es.length ∧ J (.tup [enK es i, enV es i]) none μ := by
  simp only [effW]
  rcases μ.get t with _ | (_ | _ | _ | ⟨kd, es, seen⟩) <;> try rfl
theorem effW_app_full (sh sh' : Sh) (bytes : Nat) (xs : List PV) (b : PV) : effW μ (.append sh bytes) [.full sh' xs, b] J = optK (elemsSh μ sh b) fun ys => sh' = sh ∧ xs.length + ys.length ≤ 9223372036854775807 ∧ (xs.length + ys.length) * bytes ≤ 140737488355328 ∧ 0 < ys.length ∧
    J (.sl sh μ.length (xs.length + ys.length)) none (μ ++ [some (.row sh (xs ++ ys))]) := by
  simp only [effW]
  cases elemsSh μ sh b with
  | none => rfl
  | some ys => rfl
theorem lookV_t (z : PV) (o : Option PV) : lookV true z o = .tup [o.getD z, .bool o.isSome] := rfl
theorem lookV_f (z : PV) (o : Option PV) : lookV false z o = o.getD z := rfl
theorem keyOk_str (s : List UInt8) : keyOk .str (.str s) = true := rfl
theorem keyOk_int (k : IntKind) (n : Int) : keyOk (.int k) (.int k n) = true := by simp [keyOk]
theorem slcV_list (sh : Sh) (xs : List PV) (a b : Int) : slcV (.list sh xs) a b = .list sh ((xs.take b.toNat).drop a.toNat) := rfl
theorem slcV_sl (sh : Sh) (t n : Nat) (a b : Int) : slcV (.sl sh t n) a b = .sl sh t b.toNat := rfl
theorem slcV_nil (a b : Int) : slcV .nilSl a b = .nilSl := rfl
theorem slcD_list (sh sh' : Sh) (xs : List PV) (a b : Int) : slcD sh (.list sh' xs) a b = (sh' = sh ∧ 0 ≤ a ∧ a ≤ b ∧ b ≤ xs.length) := rfl
theorem slcD_sl (sh sh' : Sh) (t n : Nat) (a b : Int) : slcD sh (.sl sh' t n) a b = (sh' = sh ∧ a = 0 ∧ 0 ≤ b ∧ b ≤ n) := rfl
theorem slcD_nil (sh : Sh) (a b : Int) : slcD sh .nilSl a b = (a = 0 ∧ b = 0) := rfl
theorem lenV_list (sh : Sh) (xs : List PV) : lenV (.list sh xs) = xs.length := rfl
theorem lenV_sl (sh : Sh) (t n : Nat) : lenV (.sl sh t n) = n := rfl
theorem lenV_nil : lenV .nilSl = 0 := rfl
theorem fullV_list (sh : Sh) (xs : List PV) (a b m : Int) : fullV (.list sh xs) a b m = if m = b then .full sh ((xs.take b.toNat).drop a.toNat) else .list sh ((xs.take b.toNat).drop a.toNat) := rfl
theorem fullV_nil (a b m : Int) : fullV .nilSl a b m = .nilSl := rfl
theorem fullD_list (sh sh' : Sh) (xs : List PV) (a b m : Int) : fullD sh (.list sh' xs) a b m = (sh' = sh ∧ 0 ≤ a ∧ a ≤ b ∧ b ≤ m ∧ m ≤ xs.length) := rfl
theorem fullD_nil (sh : Sh) (a b m : Int) : fullD sh .nilSl a b m = (a = 0 ∧ b = 0 ∧ m = 0) := rfl
theorem eqK_int (k k' : IntKind) (a b : Int) (ks : List Nat) (l l' : List PV) : eqK (0 :: ks) (.int k a :: l) (.int k' b :: l') = (k = k' ∧ eqK ks l l') := rfl
theorem eqK_bool (a b : Bool) (ks : List Nat) (l l' : List PV) : eqK (1 :: ks) (.bool a :: l) (.bool b :: l') = eqK ks l l' := rfl
theorem eqK_str (a b : List UInt8) (ks : List Nat) (l l' : List PV) : eqK (2 :: ks) (.str a :: l) (.str b :: l') = eqK ks l l' := rfl
theorem eqK_nil : eqK [] [] [] = True := rfl
theorem eqC_int (k k' : IntKind) (a b : Int) (l l' : List PV) : eqC (.int k a :: l) (.int k' b :: l') = (decide (a = b) && eqC l l') := rfl
theorem eqC_bool (a b : Bool) (l l' : List PV) : eqC (.bool a :: l) (.bool b :: l') = (decide (a = b) && eqC l l') := rfl
theorem eqC_str (a b : List UInt8) (l l' : List PV) : eqC (.str a :: l) (.str b :: l') = (decide (a = b) && eqC l l') := rfl
theorem eqC_nil : eqC [] [] = true := rfl
theorem dec_true : decide True = true := rfl
theorem dec_false : decide False = false := rfl
theorem elems_list (sh : Sh) (xs : List PV) : elemsSh μ sh (.list sh xs) = some xs := by simp [elemsSh]
theorem elems_nil (sh : Sh) : elemsSh μ sh .nilSl = some [] := rfl
theorem elems_sl (sh : Sh) (t n : Nat) (xs : List PV) (h : μ.get t = some (.row sh xs)) (hn : n ≤ xs.length) : elemsSh μ sh (.sl sh t n) = some (xs.take n) := by simp [elemsSh, h, hn]
theorem putPart_same (sh : Sh) (x p : PV) : putPart sh sh x 0 p = p := by simp [putPart]
theorem partSh_int (k : IntKind) (n : Int) : partSh (.int k n) none = some [.int k n] := rfl
theorem partSh_bool (b : Bool) : partSh (.bool b) none = some [.bool b] := rfl
theorem partSh_str (s : List UInt8) : partSh (.str s) none = some [.str s] := rfl
theorem fits_none (p : PV) : fits none p = (p.scalar = true) := rfl
theorem fits_agg (n : Nat) (cs : List PV) : fits (some n) (.agg cs) = (cs.length = n ∧ ∀ c ∈ cs, c.scalar = true) := by
  simp [fits]
theorem allFit_nil (sh : Sh) : allFit sh [] = True := rfl
theorem allFit_cons (sh : Sh) (p : PV) (ps : List PV) : allFit sh (p :: ps) = (fits sh p ∧ allFit sh ps) := rfl
theorem allm_cons (p : PV) (ps : List PV) : (∀ c ∈ p :: ps, c.scalar = true) = (p.scalar = true ∧ ∀ c ∈ ps, c.scalar = true) := by simp
theorem allm_nil : (∀ c ∈ ([] : List PV), c.scalar = true) = True := by simp
theorem sc_int (k : IntKind) (n : Int) : (PV.int k n).scalar = true := rfl
theorem sc_bool (b : Bool) : (PV.bool b).scalar = true := rfl
theorem sc_str (s : List UInt8) : (PV.str s).scalar = true := rfl
theorem mem_kill_nil (dead : Nat → Bool) : Mem.kill [] dead = [] := rfl
theorem mem_kill_cons (o : Option MObj) (μ : Mem) (dead : Nat → Bool) : Mem.kill (o :: μ) dead = o.map (MObj.kill dead) :: Mem.kill μ dead := rfl
theorem mem_set0 (o x : Option MObj) (μ : List (Option MObj)) : (o :: μ).set 0 x = x :: μ := rfl
theorem mem_set1 (o p x : Option MObj) (μ : List (Option MObj)) : (o :: p :: μ).set 1 x = o :: x :: μ := rfl
theorem mem_set2 (o p q x : Option MObj) (μ : List (Option MObj)) : (o :: p :: q :: μ).set 2 x = o :: p :: x :: μ := rfl
theorem setAll0 ( x p : PV) (l : List PV) : setAll (x :: l) 0 [p] = p :: l := rfl
theorem setAll1 (a x p : PV) (l : List PV) : setAll (a :: x :: l) 1 [p] = a :: p :: l := rfl
theorem setAll2 (a b x p : PV) (l : List PV) : setAll (a :: b :: x :: l) 2 [p] = a :: b :: p :: l := rfl
theorem setAll3 (a b c x p : PV) (l : List PV) : setAll (a :: b :: c :: x :: l) 3 [p] = a :: b :: c :: p :: l := rfl
theorem setAll4 (a b c d x p : PV) (l : List PV) : setAll (a :: b :: c :: d :: x :: l) 4 [p] = a :: b :: c :: d :: p :: l := rfl
theorem setAll5 (a b c d e x p : PV) (l : List PV) : setAll (a :: b :: c :: d :: e :: x :: l) 5 [p] = a :: b :: c :: d :: e :: p :: l := rfl
theorem setAll6 (a b c d e f x p : PV) (l : List PV) : setAll (a :: b :: c :: d :: e :: f :: x :: l) 6 [p] = a :: b :: c :: d :: e :: f :: p :: l := rfl
theorem setAll7 (a b c d e f g x p : PV) (l : List PV) : setAll (a :: b :: c :: d :: e :: f :: g :: x :: l) 7 [p] = a :: b :: c :: d :: e :: f :: g :: p :: l := rfl
theorem setAll8 (a b c d e f g h x p : PV) (l : List PV) : setAll (a :: b :: c :: d :: e :: f :: g :: h :: x :: l) 8 [p] = a :: b :: c :: d :: e :: f :: g :: h :: p :: l := rfl
theorem setAll9 (a b c d e f g h i x p : PV) (l : List PV) : setAll (a :: b :: c :: d :: e :: f :: g :: h :: i :: x :: l) 9 [p] = a :: b :: c :: d :: e :: f :: g :: h :: i :: p :: l := rfl
theorem part_int (k : IntKind) (n : Int) : partOf (.int k n) 1 = some [.int k n] := rfl
theorem part_bool (b : Bool) : partOf (.bool b) 1 = some [.bool b] := rfl
theorem part_str (s : List UInt8) : partOf (.str s) 1 = some [.str s] := rfl
theorem fillP_cons (cs : List PV) (o s : Nat) (ps : List (Nat × Nat)) (p : PV) (qs : List PV) : fillP cs ((o, s) :: ps) (p :: qs) = fillP (setAll cs o ((partOf p s).getD [])) ps qs := rfl
theorem fillP_nil (cs : List PV) : fillP cs [] [] = cs := by simp [fillP]
theorem fillOk_cons (n o s : Nat) (ps : List (Nat × Nat)) (p : PV) (qs : List PV) : fillOk n ((o, s) :: ps) (p :: qs) = ((partOf p s).isSome = true ∧ o + s ≤ n ∧ fillOk n ps qs) := rfl
theorem fillOk_nil (n : Nat) : fillOk n [] [] = True := rfl
end
end PG
