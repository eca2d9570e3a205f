/-
  The pure layer: how a walk is reckoned.
-/
import Derived.Test.YtdemgegpnlngeaaDoorPure12
namespace PG
open Go

def guardK (want : Bool) (p : PV) (f : Bool → Prop) : Prop :=
  match gEff want p with
  | some b => f b
  | none => False
theorem guardK_bool (want b : Bool) (f : Bool → Prop) : guardK want (.bool b) f = f b := rfl
theorem guardK_cond (want c b : Bool) (f : Bool → Prop) : guardK want (.cond c (.bool b)) f = f (if c = true then b else !want) := rfl
@[congr] theorem guardK_congr {want : Bool} {p p' : PV} {f : Bool → Prop} (h : p = p') : guardK want p f = guardK want p' f := by rw [h]

section
variable {P : Program} {G : Globs} {q : Bool} {mv : Nat → Bool} {d : Option Nat} {rest : List CO} {env : Env} {μ : Mem} {K : Env → Mem → Prop} {args : List Opd}

@[congr] theorem opsW_congr {l : List CO} {env env' : Env} {μ μ' : Mem} (he : env = env') (hm : μ = μ') : opsW P G q mv l env μ K = opsW P G q mv l env' μ' K := by rw [he, hm]

theorem opsW_nil : opsW P G q mv [] env μ K = K env μ := rfl
theorem opsW_rd {k : RK} : opsW P G q mv (⟨d, none, .rd k args⟩ :: rest) env μ K = (rdD μ k (args.map (evalO G env)) ∧ opsW P G q mv rest (putE env d (rdV μ k (args.map (evalO G env)))) μ K) := rfl
theorem opsW_rdg {k : RK} {r : Nat} {want : Bool} : opsW P G q mv (⟨d, some (r, want), .rd k args⟩ :: rest) env μ K =
    guardK want (env.get r) fun b => (b = want → gOk k (args.map (evalO G env)) ∧ rdD μ k (gArgs k (args.map (evalO G env)))) ∧
      opsW P G q mv rest (putE env d (.cond (b == want) (rdV μ k (gArgs k (args.map (evalO G env)))))) μ K := rfl
/-- The effect of an operation, and what goes on behind it. -/
def effK (P : Program) (G : Globs) (mv : Nat → Bool) (d : Option Nat) (rest : List CO) (env : Env) (K : Env → Mem → Prop) (μ : Mem) (k : EK) (ps : List PV) : Prop :=
  effW μ k ps fun p dead μ' => deadOk mv dead ∧ opsW P G false mv rest (putE (killE env dead) d p) μ' K
@[congr] theorem effK_congr {env env' : Env} {μ μ' : Mem} {k k' : EK} {ps ps' : List PV} (he : env = env') (hm : μ = μ') (hk : k = k') (hp : ps = ps') : effK P G mv d rest env K μ k ps = effK P G mv d rest env' K μ' k' ps' := by rw [he, hm, hk, hp]
theorem opsW_eff {k : EK} : opsW P G false mv (⟨d, none, .eff k args⟩ :: rest) env μ K = effK P G mv d rest env K μ k (args.map (evalO G env)) := by
  simp [opsW, stepW, effK]
theorem opsW_effg {k : EK} {r : Nat} {want : Bool} : opsW P G false mv (⟨d, some (r, want), .eff k args⟩ :: rest) env μ K =
    guardK want (env.get r) fun b => (b = want → okAll (args.map (evalO G env)) ∧ effK P G mv d rest env K μ k ((args.map (evalO G env)).map (PV.under true))) ∧
      (b ≠ want → opsW P G false mv rest (putE env d .junk) μ K) := by
  simp only [opsW, stepW, guardK, stepG, effK]
  cases gEff want (env.get r) <;> simp

/-- A call, and what goes on behind it. -/
def goCall (P : Program) (G : Globs) (q : Bool) (mv : Nat → Bool) (d : Option Nat) (rest : List CO) (env : Env) (K : Env → Mem → Prop) (μ : Mem) (f : PV) (as : List PV) : Prop :=
  calleeK P G q f as μ fun p dead μ' => deadOk mv dead ∧ opsW P G q mv rest (putE (killE env dead) d p) μ' K
@[congr] theorem goCall_congr {env env' : Env} {μ μ' : Mem} {f f' : PV} {as as' : List PV} (he : env = env') (hm : μ = μ') (hf : f = f') (ha : as = as') : goCall P G q mv d rest env K μ f as = goCall P G q mv d rest env' K μ' f' as' := by rw [he, hm, hf, ha]
theorem opsW_call {f : Opd} : opsW P G q mv (⟨d, none, .call f args⟩ :: rest) env μ K = goCall P G q mv d rest env K μ (evalO G env f) (args.map (evalO G env)) := rfl

/-- A guarded call. -/
def goCallG (P : Program) (G : Globs) (q : Bool) (mv : Nat → Bool) (d : Option Nat) (rest : List CO) (env : Env) (K : Env → Mem → Prop) (μ : Mem) (b want : Bool) (f : PV) (as : List PV) : Prop :=
  ∃ res, (b = want → f.okUnder true ∧ okAll as ∧ calleeR P G (f.under true) (as.map (PV.under true)) μ res ∧ (q = true → res.flat = true)) ∧ opsW P G q mv rest (putE env d (.cond (b == want) res)) μ K
@[congr] theorem goCallG_congr {env env' : Env} {μ μ' : Mem} {b b' want want' : Bool} {f f' : PV} {as as' : List PV} (he : env = env') (hm : μ = μ') (hb : b = b') (hw : want = want') (hf : f = f') (ha : as = as') :
    goCallG P G q mv d rest env K μ b want f as = goCallG P G q mv d rest env' K μ' b' want' f' as' := by rw [he, hm, hb, hw, hf, ha]
theorem opsW_callg {f : Opd} {r : Nat} {want : Bool} : opsW P G q mv (⟨d, some (r, want), .call f args⟩ :: rest) env μ K =
    guardK want (env.get r) fun b => goCallG P G q mv d rest env K μ b want (evalO G env f) (args.map (evalO G env)) := rfl

/-- A call by value, met by a contract. -/
theorem goCall_V {f : Nat} {ps qs as : List PV} {res : PV} (hE : Ent P f) (hV : VCalls P G f ((ps ++ as ++ qs).map (PV.view μ)) res) (hs : ((ps ++ as ++ qs).map (PV.seen μ)).all id = true) (hf : res.flat = true ∨ q = false ∧ ((ps ++ as ++ qs).map PV.noOwn).all id = true)
    (h : opsW P G q mv rest (putE env d res) μ K) : goCall P G q mv d rest env K μ (.fn f ps qs) as := by
  refine .inl ⟨res, ⟨hE, hV, hs, hf.imp id (·.2)⟩, fun hq => ?_, trivial, h⟩
  rcases hf with hf | ⟨hf, -⟩
  · exact hf
  · rw [hq] at hf; cases hf

theorem goCallG_V {b want : Bool} {f : Nat} {ps qs as : List PV} {res : PV} (hE : Ent P f) (hok : b = want → okAll as) (hV : b = want → VCalls P G f ((ps ++ as.map (PV.under true) ++ qs).map (PV.view μ)) res)
    (hs : b = want → ((ps ++ as.map (PV.under true) ++ qs).map (PV.seen μ)).all id = true) (hf : res.flat = true)
    (h : opsW P G q mv rest (putE env d (.cond (b == want) res)) μ K) : goCallG P G q mv d rest env K μ b want (.fn f ps qs) as :=
  ⟨res, fun hb => ⟨trivial, hok hb, ⟨hE, hV hb, hs hb, .inl hf⟩, fun _ => hf⟩, h⟩
theorem goCallG_Vc {b want c : Bool} {f : Nat} {ps qs as : List PV} {res : PV} (hE : Ent P f) (hc : b = want → c = true) (hok : b = want → okAll as) (hV : b = want → VCalls P G f ((ps ++ as.map (PV.under true) ++ qs).map (PV.view μ)) res)
    (hs : b = want → ((ps ++ as.map (PV.under true) ++ qs).map (PV.seen μ)).all id = true) (hf : res.flat = true)
    (h : opsW P G q mv rest (putE env d (.cond (b == want) res)) μ K) : goCallG P G q mv d rest env K μ b want (.cond c (.fn f ps qs)) as :=
  ⟨res, fun hb => ⟨fun _ => hc hb, hok hb, ⟨hE, hV hb, hs hb, .inl hf⟩, fun _ => hf⟩, h⟩

theorem put_some (env : Env) (i : Nat) (p : PV) : putE env (some i) p = (i, p) :: env := rfl
theorem put_none (env : Env) (p : PV) : putE env none p = env := rfl
theorem kill_none (env : Env) : killE env none = env := rfl
theorem get_cons (j i : Nat) (p : PV) (e : Env) : Env.get ((j, p) :: e) i = if j = i then p else Env.get e i := rfl
theorem get_nil (i : Nat) : Env.get [] i = .junk := rfl
theorem eval_tmp (G : Globs) (env : Env) (t : Nat) : evalO G env (.tmp t) = env.get t := rfl
theorem eval_pv (G : Globs) (env : Env) (p : PV) : evalO G env (.pv p) = p := rfl
theorem keep_nil (env : Env) : keepE [] env = [] := rfl
theorem keep_cons (i : Nat) (L : List Nat) (env : Env) : keepE (i :: L) env = (i, env.get i) :: keepE L env := rfl

theorem pick_val (μ : Mem) (c : Bool) (a b : PV) (x y : Bool) (ha : a.under c = .bool x) (hb : b.under (!c) = .bool y) : rdV μ .pick [.bool c, a, b] = .bool (if c then x else y) := by simp only [rdV, ha, hb, PV.toB]

@[congr] theorem schedW_congr {s : Sched} {env env' : Env} {μ μ' : Mem} (he : env = env') (hm : μ = μ') : schedW P G mv s env μ K = schedW P G mv s env' μ' K := by rw [he, hm]
theorem schedW_alt_i {l : List CO} {s more : Sched} (h1 : opsW P G false mv l env μ fun e m => schedW P G mv s e m K) (h2 : schedW P G mv more env μ K) : schedW P G mv (.alt l s more) env μ K := ⟨h1, h2⟩
theorem schedW_done_i (h : K env μ) : schedW P G mv .done env μ K := h
theorem schedW_stop_i : schedW P G mv .stop env μ K := trivial
variable {N : Nat} {Q : Post} {b : PCode}
theorem seqQ_normal : seqQ P G N mv b Q .normal env μ = PW P G N mv b env μ Q := rfl
theorem seqQ_ret : seqQ P G N mv b Q .ret env μ = Q .ret env μ := rfl
theorem seqQ_exit (id : Nat) : seqQ P G N mv b Q (.exit id) env μ = Q (.exit id) env μ := rfl
theorem blockQ_normal (id : Nat) : blockQ id Q .normal env μ = Q .normal env μ := rfl
theorem blockQ_ret (id : Nat) : blockQ id Q .ret env μ = Q .ret env μ := rfl
theorem blockQ_exit (id id' : Nat) : blockQ id Q (.exit id') env μ = if id' = id then Q .normal env μ else Q (.exit id') env μ := rfl
theorem loopQ_ret {σ : Type} (vars : List Nat) (vals : σ → List PV) (mem : σ → Mem) (Inv : σ → Prop) (meas : σ → Nat) (s : σ) : loopQ vars vals mem Inv meas s Q .ret env μ = Q .ret env μ := rfl
theorem loopQ_exit {σ : Type} (vars : List Nat) (vals : σ → List PV) (mem : σ → Mem) (Inv : σ → Prop) (meas : σ → Nat) (s : σ) (id : Nat) : loopQ vars vals mem Inv meas s Q (.exit id) env μ = Q (.exit id) env μ := rfl
theorem loopQ_normal {σ : Type} (vars : List Nat) (vals : σ → List PV) (mem : σ → Mem) (Inv : σ → Prop) (meas : σ → Nat) (s : σ) :
    loopQ vars vals mem Inv meas s Q .normal env μ = ∃ s', keepE vars env = vars.zip (vals s') ∧ μ = mem s' ∧ Inv s' ∧ meas s' < meas s := rfl
theorem endV_normal (rs : List RVar) (res : PV) : endV rs res .normal env μ = (allOk env μ rs ∧ (retV (rs.map (RVar.val env μ))).seen μ = true ∧ (retV (rs.map (RVar.val env μ))).view μ = res) := rfl
theorem endV_ret (rs : List RVar) (res : PV) : endV rs res .ret env μ = (allOk env μ rs ∧ (retV (rs.map (RVar.val env μ))).seen μ = true ∧ (retV (rs.map (RVar.val env μ))).view μ = res) := rfl
@[congr] theorem PW_congr {env env' : Env} {μ μ' : Mem} (he : env = env') (hm : μ = μ') : PW P G N mv b env μ Q = PW P G N mv b env' μ' Q := by rw [he, hm]
@[congr] theorem seqQ_congr {e e' : Exit} {env env' : Env} {μ μ' : Mem} (hx : e = e') (he : env = env') (hm : μ = μ') : seqQ P G N mv b Q e env μ = seqQ P G N mv b Q e' env' μ' := by rw [hx, he, hm]
@[congr] theorem blockQ_congr {id : Nat} {e e' : Exit} {env env' : Env} {μ μ' : Mem} (hx : e = e') (he : env = env') (hm : μ = μ') : blockQ id Q e env μ = blockQ id Q e' env' μ' := by rw [hx, he, hm]
@[congr] theorem loopQ_congr {σ : Type} {vars : List Nat} {vals : σ → List PV} {mem : σ → Mem} {Inv : σ → Prop} {meas : σ → Nat} {s : σ} {e e' : Exit} {env env' : Env} {μ μ' : Mem} (hx : e = e') (he : env = env') (hm : μ = μ') :
    loopQ vars vals mem Inv meas s Q e env μ = loopQ vars vals mem Inv meas s Q e' env' μ' := by rw [hx, he, hm]
theorem cut_zero (sh : Sh) (x : PV) : cut sh sh x 0 = x := by simp [cut]
theorem mem_get0 (o : Option MObj) (μ : Mem) : Mem.get (o :: μ) 0 = o := by cases o <;> rfl
theorem mem_get1 (o : Option MObj) (μ : Mem) : Mem.get (o :: μ) 1 = Mem.get μ 0 := by simp [Mem.get]
theorem mem_get2 (o : Option MObj) (μ : Mem) : Mem.get (o :: μ) 2 = Mem.get μ 1 := by simp [Mem.get]
theorem mem_get3 (o : Option MObj) (μ : Mem) : Mem.get (o :: μ) 3 = Mem.get μ 2 := by simp [Mem.get]
theorem u8sub48 (b : UInt8) : IntKind.u8.wrap ((b.toNat : Int) - 48) = ((b - 48).toNat : Int) := by
  rw [UInt8.toNat_sub]
  have := b.toNat_lt
  simp [IntKind.wrap, IntKind.bits, IntKind.signed]
  omega
theorem i64_u8 (b : UInt8) : IntKind.i64.wrap (b.toNat : Int) = (b.toNat : Int) := by
  have := b.toNat_lt
  simp [IntKind.wrap, IntKind.bits, IntKind.signed]
  omega
theorem u8s_length (l : List UInt8) : (u8s l).length = l.length := by simp [u8s]
theorem u8s_getD (l : List UInt8) (i : Nat) (h : i < l.length) : (u8s l).getD i .junk = .int .u8 (l.getD i 0).toNat := by simp [u8s, List.getD, h]
theorem tdiv10 (u : Nat) : Int.tdiv (u : Int) 10 = ((u / 10 : Nat) : Int) := by
  rw [Int.tdiv_eq_ediv_of_nonneg (by omega)]; omega
theorem bnot_imp (x : Bool) : (x = false → (!x) = true) = True := by cases x <;> simp
theorem ite_or (x y : Bool) : (if x = true then true else y) = (x || y) := by cases x <;> rfl
theorem ite_and (x y : Bool) : (if x = true then y else false) = (x && y) := by cases x <;> rfl
theorem getC0 (p : PV) (l : List PV) : (p :: l).getD 0 .junk = p := rfl
theorem getC1 (p q : PV) (l : List PV) : (p :: q :: l).getD 1 .junk = q := rfl
theorem getC2 (p q r : PV) (l : List PV) : (p :: q :: r :: l).getD 2 .junk = r := rfl
theorem getC3 (p q r s : PV) (l : List PV) : (p :: q :: r :: s :: l).getD 3 .junk = s := rfl
theorem okAll_nil : okAll [] = True := rfl
theorem okAll_cons (p : PV) (ps : List PV) : okAll (p :: ps) = (p.okUnder true ∧ okAll ps) := rfl
theorem toNat_add2 (a b : Nat) : ((a : Int) + (b : Int)).toNat = a + b := by omega
theorem toNat_add1 (a : Nat) : ((a : Int) + 1).toNat = a + 1 := by omega
end
end PG
